/-
  Chapter 7: StoreKeys: evaluated. Chapter 7: StoreKeys: the evaluated trees as lemmas, Chapters 6 and 7: the plain law: keys tell states apart. Chapter 7: plain facts for the laws on stores. Chapter 7: StoreApart: evaluated. Chapter 7: StoreApart: the evaluated trees as lemmas, Chapter 7: the plain law of StoreApart: operations on unlike objects. Chapter 7: StoreKeys. Chapter 7: StoreApart. From the readings of a row to the shapes of the executor: ints, flat structs of ints, slices of them, the listed variables; and back: the row's post. The listed variables, as the executor's globals. Chapter 7: the listed variables are the executor's globals. Own work (written by program). From a law's summary to its row's post: it answers true, and what it was given reads as it did. Arguments of chapter 7: the kinds of objects fit; a struct of ints. Chapter 7: what the laws' rows have in common. Chapter 7: the law StoreApart, as its row says. Chapter 7: the tied card of StoreApart.
-/
import Derived.Test.YtikaakiadiaeoaaGreatDoorA11
import Derived.ProofKit
import Derived.Deep.Slices
import Derived.Stop.LaidErr
import Derived.LaidMore
import Derived.OpenShut
import Derived.MakeChecks
import Derived.Test.YtikaakiadiaeoaaGreatDoorRows
import Derived.Carry
import Derived.Stop.Joined
import Derived.Test.YtikaakiadiaeoaaGreatDoorTie
import Derived.Test.YtikaakiadiaeoaaGreatDoorCards
namespace Go.Pl
open Go Go.Sx
noncomputable def isSame (n : Nat) (g : Nat → List Sh) (m : Nat) (h : Nat → List Sh) (b : Bool) : Bool := sameB n g m h == b
def noO (n : Nat) (o : Nat → Oj) : Bool := !goodO n o
def in24 (n : Nat) (g : Nat → List Sh) (m : Nat) (h : Nat → List Sh) : Bool := okB Oj n g && kindsB n (rwAt g) && okB Cl m h && fewB m
def behU (n : Nat) (d : Nat → Sta) (c : Nat → Cl) (m : Nat) : Nat → Rf := fun j => toR (behT n d c m j)
end Go.Pl
namespace Go.Proofs
open Go.Sx.Tree
open Go Go.Sx Go.Pl
noncomputable def F31w (b : Bool) : List Sh → Tree Sh
 | [.agg [s0], .agg [s1]] => match slN 4 s0, slN 4 s1 with
  | some (n, g), some (m, h) => .need (stB n g) (.need (stB m h) (.need (manyB n m) (.need (isSame n g m h b) (.leaf (.v (.bool b))))))
  | _, _ => .fail
 | _ => .fail
noncomputable def F24g : List Sh → Tree Sh
 | [s0, s1] => match slN 2 s0, slN 4 s1 with
  | some (n, g), some (m, h) => .need (in24 n g m h) (.need (goodO n (rwAt g)) (.leaf (.tup [.agg [.sl 4 n (fnT (behT n (newT (rwAt g)) (rwAt h) m))], .sl 4 n (fnU (behU n (newT (rwAt g)) (rwAt h) m)), .v (.bool true)])))
  | _, _ => .fail
 | _ => .fail
noncomputable def F24n : List Sh → Tree Sh
 | [s0, s1] => match slN 2 s0, slN 4 s1 with
  | some (n, g), some (m, h) => .need (in24 n g m h) (.need (noO n (rwAt g)) (.leaf (.tup [.agg [.sl 4 0 noT], .sl 4 0 noT, .v (.bool false)])))
  | _, _ => .fail
 | _ => .fail
noncomputable def spec6 (b : Bool) : Nat → Option (List Sh → Tree Sh)
 | 12 => some F12
 | 24 => some F24g
 | 27 => some F27x
 | 31 => some (F31w b)
 | 32 => some F32x
 | _ => none
noncomputable def spec6n : Nat → Option (List Sh → Tree Sh)
 | 12 => some F12
 | 24 => some F24n
 | _ => none
theorem t6 (A : Prim) (W : Wd) (n : Nat) (o : Nat → Oj) (ma mb : Nat) (ca cb : Nat → Cl) : runTo (C7 A W (spec6 true) sAl) nH0 300 400 6 [.code []] (start0 82 [.sl 2 n (fnR o), .sl 4 ma (fnR ca), .sl 4 mb (fnR cb)] L0) [] [] = node (A.lt (Int.ofNat 100) (A.ofN n)) (leaf (Fe2.ret (Sh.b true))) (node (A.lt (Int.ofNat 200) (A.ofN ma)) (leaf (Fe2.ret (Sh.b true))) (node (A.lt (Int.ofNat 200) (A.ofN mb)) (leaf (Fe2.ret (Sh.b true))) (need (in24 n (fnR o) ma (fnR ca)) (need (goodO n (rwAt (fnR o))) (need (in24 n (fnR o) mb (fnR cb)) (need (goodO n (rwAt (fnR o))) (need (stB n (fnT (behT n (newT (rwAt (fnR o))) (rwAt (fnR ca)) ma))) (need (stB n (fnT (behT n (newT (rwAt (fnR o))) (rwAt (fnR cb)) mb))) (need (manyB n n) (need (isSame n (fnT (behT n (newT (rwAt (fnR o))) (rwAt (fnR ca)) ma)) n (fnT (behT n (newT (rwAt (fnR o))) (rwAt (fnR cb)) mb)) true) (need (stB n (fnT (behT n (newT (rwAt (fnR o))) (rwAt (fnR ca)) ma))) (need (keysB n (stF n (fnT (behT n (newT (rwAt (fnR o))) (rwAt (fnR ca)) ma)))) (need (stB n (fnT (behT n (newT (rwAt (fnR o))) (rwAt (fnR cb)) mb))) (need (keysB n (stF n (fnT (behT n (newT (rwAt (fnR o))) (rwAt (fnR cb)) mb)))) (node (A.beq true (A.seq (keyN n (stF n (fnT (behT n (newT (rwAt (fnR o))) (rwAt (fnR ca)) ma)))) (keyN n (stF n (fnT (behT n (newT (rwAt (fnR o))) (rwAt (fnR cb)) mb)))))) (need (stB n (fnT (behT n (newT (rwAt (fnR o))) (rwAt (fnR ca)) ma))) (need (stB n (fnT (behT n (newT (rwAt (fnR o))) (rwAt (fnR cb)) mb))) (need (manyB n n) (need (isSame n (fnT (behT n (newT (rwAt (fnR o))) (rwAt (fnR ca)) ma)) n (fnT (behT n (newT (rwAt (fnR o))) (rwAt (fnR cb)) mb)) true) (need (stB n (fnT (behT n (newT (rwAt (fnR o))) (rwAt (fnR cb)) mb))) (need (stB n (fnT (behT n (newT (rwAt (fnR o))) (rwAt (fnR ca)) ma))) (need (manyB n n) (need (isSame n (fnT (behT n (newT (rwAt (fnR o))) (rwAt (fnR cb)) mb)) n (fnT (behT n (newT (rwAt (fnR o))) (rwAt (fnR ca)) ma)) true) (need (stB n (fnT (behT n (newT (rwAt (fnR o))) (rwAt (fnR ca)) ma))) (need (stB n (fnT (behT n (newT (rwAt (fnR o))) (rwAt (fnR cb)) mb))) (need (manyB n n) (need (isSame n (fnT (behT n (newT (rwAt (fnR o))) (rwAt (fnR ca)) ma)) n (fnT (behT n (newT (rwAt (fnR o))) (rwAt (fnR cb)) mb)) true) (need (stB n (fnT (behT n (newT (rwAt (fnR o))) (rwAt (fnR ca)) ma))) (need (stB n (fnT (behT n (newT (rwAt (fnR o))) (rwAt (fnR cb)) mb))) (need (manyB n n) (leaf (Fe2.ret (Sh.b (A.beq true (A.eq (A.ofN (difN n (fnT (behT n (newT (rwAt (fnR o))) (rwAt (fnR ca)) ma)) n (fnT (behT n (newT (rwAt (fnR o))) (rwAt (fnR cb)) mb)))) (Int.ofNat 0))))))))))))))))))))) (leaf (Fe2.ret (Sh.b false)))))))))))))))))) := by kernel_rfl
theorem u6 (A : Prim) (W : Wd) (n : Nat) (o : Nat → Oj) (ma mb : Nat) (ca cb : Nat → Cl) : runTo (C7 A W (spec6 false) sAl) nH0 300 400 6 [.code []] (start0 82 [.sl 2 n (fnR o), .sl 4 ma (fnR ca), .sl 4 mb (fnR cb)] L0) [] [] = node (A.lt (Int.ofNat 100) (A.ofN n)) (leaf (Fe2.ret (Sh.b true))) (node (A.lt (Int.ofNat 200) (A.ofN ma)) (leaf (Fe2.ret (Sh.b true))) (node (A.lt (Int.ofNat 200) (A.ofN mb)) (leaf (Fe2.ret (Sh.b true))) (need (in24 n (fnR o) ma (fnR ca)) (need (goodO n (rwAt (fnR o))) (need (in24 n (fnR o) mb (fnR cb)) (need (goodO n (rwAt (fnR o))) (need (stB n (fnT (behT n (newT (rwAt (fnR o))) (rwAt (fnR ca)) ma))) (need (stB n (fnT (behT n (newT (rwAt (fnR o))) (rwAt (fnR cb)) mb))) (need (manyB n n) (need (isSame n (fnT (behT n (newT (rwAt (fnR o))) (rwAt (fnR ca)) ma)) n (fnT (behT n (newT (rwAt (fnR o))) (rwAt (fnR cb)) mb)) false) (need (stB n (fnT (behT n (newT (rwAt (fnR o))) (rwAt (fnR ca)) ma))) (need (keysB n (stF n (fnT (behT n (newT (rwAt (fnR o))) (rwAt (fnR ca)) ma)))) (need (stB n (fnT (behT n (newT (rwAt (fnR o))) (rwAt (fnR cb)) mb))) (need (keysB n (stF n (fnT (behT n (newT (rwAt (fnR o))) (rwAt (fnR cb)) mb)))) (node (A.beq false (A.seq (keyN n (stF n (fnT (behT n (newT (rwAt (fnR o))) (rwAt (fnR ca)) ma)))) (keyN n (stF n (fnT (behT n (newT (rwAt (fnR o))) (rwAt (fnR cb)) mb)))))) (need (stB n (fnT (behT n (newT (rwAt (fnR o))) (rwAt (fnR ca)) ma))) (need (stB n (fnT (behT n (newT (rwAt (fnR o))) (rwAt (fnR cb)) mb))) (need (manyB n n) (need (isSame n (fnT (behT n (newT (rwAt (fnR o))) (rwAt (fnR ca)) ma)) n (fnT (behT n (newT (rwAt (fnR o))) (rwAt (fnR cb)) mb)) false) (need (stB n (fnT (behT n (newT (rwAt (fnR o))) (rwAt (fnR cb)) mb))) (need (stB n (fnT (behT n (newT (rwAt (fnR o))) (rwAt (fnR ca)) ma))) (need (manyB n n) (need (isSame n (fnT (behT n (newT (rwAt (fnR o))) (rwAt (fnR cb)) mb)) n (fnT (behT n (newT (rwAt (fnR o))) (rwAt (fnR ca)) ma)) false) (need (stB n (fnT (behT n (newT (rwAt (fnR o))) (rwAt (fnR ca)) ma))) (need (stB n (fnT (behT n (newT (rwAt (fnR o))) (rwAt (fnR cb)) mb))) (need (manyB n n) (need (isSame n (fnT (behT n (newT (rwAt (fnR o))) (rwAt (fnR ca)) ma)) n (fnT (behT n (newT (rwAt (fnR o))) (rwAt (fnR cb)) mb)) false) (need (stB n (fnT (behT n (newT (rwAt (fnR o))) (rwAt (fnR ca)) ma))) (need (stB n (fnT (behT n (newT (rwAt (fnR o))) (rwAt (fnR cb)) mb))) (need (manyB n n) (leaf (Fe2.ret (Sh.b (A.beq false (A.eq (A.ofN (difN n (fnT (behT n (newT (rwAt (fnR o))) (rwAt (fnR ca)) ma)) n (fnT (behT n (newT (rwAt (fnR o))) (rwAt (fnR cb)) mb)))) (Int.ofNat 0))))))))))))))))))))) (leaf (Fe2.ret (Sh.b false)))))))))))))))))) := by kernel_rfl
theorem n6 (A : Prim) (W : Wd) (n : Nat) (o : Nat → Oj) (ma mb : Nat) (ca cb : Nat → Cl) : runTo (C7 A W spec6n sAl) nH0 300 400 6 [.code []] (start0 82 [.sl 2 n (fnR o), .sl 4 ma (fnR ca), .sl 4 mb (fnR cb)] L0) [] [] = node (A.lt (Int.ofNat 100) (A.ofN n)) (leaf (Fe2.ret (Sh.b true))) (node (A.lt (Int.ofNat 200) (A.ofN ma)) (leaf (Fe2.ret (Sh.b true))) (node (A.lt (Int.ofNat 200) (A.ofN mb)) (leaf (Fe2.ret (Sh.b true))) (need (in24 n (fnR o) ma (fnR ca)) (need (noO n (rwAt (fnR o))) (need (in24 n (fnR o) mb (fnR cb)) (need (noO n (rwAt (fnR o))) (leaf (Fe2.ret (Sh.b true))))))))) := by kernel_rfl
end Go.Proofs
namespace Go.Proofs
open Go.Sx.Tree
open Go Go.Sx Go.Pl
theorem all_t6 (A : Prim) (W : Wd) (n : Nat) (o : Nat → Oj) (ma mb : Nat) (ca cb : Nat → Cl) {ψ : Fe2 → Prop} {c0 c1 c2 c3 : Bool} (e0 : A.lt (Int.ofNat 100) (A.ofN n) = c0) (e1 : A.lt (Int.ofNat 200) (A.ofN ma) = c1) (e2 : A.lt (Int.ofNat 200) (A.ofN mb) = c2) (e3 : A.beq true (A.seq (keyN n (stF n (fnT (behT n (newT (rwAt (fnR o))) (rwAt (fnR ca)) ma)))) (keyN n (stF n (fnT (behT n (newT (rwAt (fnR o))) (rwAt (fnR cb)) mb))))) = c3) (h1 : c0 = false → c1 = false → c2 = false → (in24 n (fnR o) ma (fnR ca)) = true) (h2 : c0 = false → c1 = false → c2 = false → (goodO n (rwAt (fnR o))) = true) (h3 : c0 = false → c1 = false → c2 = false → (in24 n (fnR o) mb (fnR cb)) = true) (h4 : c0 = false → c1 = false → c2 = false → (stB n (fnT (behT n (newT (rwAt (fnR o))) (rwAt (fnR ca)) ma))) = true) (h5 : c0 = false → c1 = false → c2 = false → (stB n (fnT (behT n (newT (rwAt (fnR o))) (rwAt (fnR cb)) mb))) = true) (h6 : c0 = false → c1 = false → c2 = false → (manyB n n) = true) (h7 : c0 = false → c1 = false → c2 = false → (isSame n (fnT (behT n (newT (rwAt (fnR o))) (rwAt (fnR ca)) ma)) n (fnT (behT n (newT (rwAt (fnR o))) (rwAt (fnR cb)) mb)) true) = true) (h8 : c0 = false → c1 = false → c2 = false → (keysB n (stF n (fnT (behT n (newT (rwAt (fnR o))) (rwAt (fnR ca)) ma)))) = true) (h9 : c0 = false → c1 = false → c2 = false → (keysB n (stF n (fnT (behT n (newT (rwAt (fnR o))) (rwAt (fnR cb)) mb)))) = true) (h10 : c0 = false → c1 = false → c2 = false → c3 = true → (isSame n (fnT (behT n (newT (rwAt (fnR o))) (rwAt (fnR cb)) mb)) n (fnT (behT n (newT (rwAt (fnR o))) (rwAt (fnR ca)) ma)) true) = true) (y1 : c0 = true → ψ (Fe2.ret (Sh.b true))) (y2 : c0 = false → c1 = true → ψ (Fe2.ret (Sh.b true))) (y3 : c0 = false → c1 = false → c2 = true → ψ (Fe2.ret (Sh.b true))) (y4 : c0 = false → c1 = false → c2 = false → c3 = true → ψ (Fe2.ret (Sh.b (A.beq true (A.eq (A.ofN (difN n (fnT (behT n (newT (rwAt (fnR o))) (rwAt (fnR ca)) ma)) n (fnT (behT n (newT (rwAt (fnR o))) (rwAt (fnR cb)) mb)))) (Int.ofNat 0)))))) (y5 : c0 = false → c1 = false → c2 = false → c3 = false → ψ (Fe2.ret (Sh.b false))) : MeetsT ψ (runTo (C7 A W (spec6 true) sAl) nH0 300 400 6 [.code []] (start0 82 [.sl 2 n (fnR o), .sl 4 ma (fnR ca), .sl 4 mb (fnR cb)] L0) [] []) := by
 subst e0 e1 e2 e3
 rw [t6 A W n o ma mb ca cb, meetsT_eq]
 exact ⟨fun q0 => (y1 q0), fun q0 => ⟨fun q1 => (y2 q0 q1), fun q1 => ⟨fun q2 => (y3 q0 q1 q2), fun q2 => ⟨(h1 q0 q1 q2), ⟨(h2 q0 q1 q2), ⟨(h3 q0 q1 q2), ⟨(h2 q0 q1 q2), ⟨(h4 q0 q1 q2), ⟨(h5 q0 q1 q2), ⟨(h6 q0 q1 q2), ⟨(h7 q0 q1 q2), ⟨(h4 q0 q1 q2), ⟨(h8 q0 q1 q2), ⟨(h5 q0 q1 q2), ⟨(h9 q0 q1 q2), ⟨fun q3 => ⟨(h4 q0 q1 q2), ⟨(h5 q0 q1 q2), ⟨(h6 q0 q1 q2), ⟨(h7 q0 q1 q2), ⟨(h5 q0 q1 q2), ⟨(h4 q0 q1 q2), ⟨(h6 q0 q1 q2), ⟨(h10 q0 q1 q2 q3), ⟨(h4 q0 q1 q2), ⟨(h5 q0 q1 q2), ⟨(h6 q0 q1 q2), ⟨(h7 q0 q1 q2), ⟨(h4 q0 q1 q2), ⟨(h5 q0 q1 q2), ⟨(h6 q0 q1 q2), (y4 q0 q1 q2 q3)⟩⟩⟩⟩⟩⟩⟩⟩⟩⟩⟩⟩⟩⟩⟩, fun q3 => (y5 q0 q1 q2 q3)⟩⟩⟩⟩⟩⟩⟩⟩⟩⟩⟩⟩⟩⟩⟩⟩
theorem all_u6 (A : Prim) (W : Wd) (n : Nat) (o : Nat → Oj) (ma mb : Nat) (ca cb : Nat → Cl) {ψ : Fe2 → Prop} {c0 c1 c2 c3 : Bool} (e0 : A.lt (Int.ofNat 100) (A.ofN n) = c0) (e1 : A.lt (Int.ofNat 200) (A.ofN ma) = c1) (e2 : A.lt (Int.ofNat 200) (A.ofN mb) = c2) (e3 : A.beq false (A.seq (keyN n (stF n (fnT (behT n (newT (rwAt (fnR o))) (rwAt (fnR ca)) ma)))) (keyN n (stF n (fnT (behT n (newT (rwAt (fnR o))) (rwAt (fnR cb)) mb))))) = c3) (h1 : c0 = false → c1 = false → c2 = false → (in24 n (fnR o) ma (fnR ca)) = true) (h2 : c0 = false → c1 = false → c2 = false → (goodO n (rwAt (fnR o))) = true) (h3 : c0 = false → c1 = false → c2 = false → (in24 n (fnR o) mb (fnR cb)) = true) (h4 : c0 = false → c1 = false → c2 = false → (stB n (fnT (behT n (newT (rwAt (fnR o))) (rwAt (fnR ca)) ma))) = true) (h5 : c0 = false → c1 = false → c2 = false → (stB n (fnT (behT n (newT (rwAt (fnR o))) (rwAt (fnR cb)) mb))) = true) (h6 : c0 = false → c1 = false → c2 = false → (manyB n n) = true) (h7 : c0 = false → c1 = false → c2 = false → (isSame n (fnT (behT n (newT (rwAt (fnR o))) (rwAt (fnR ca)) ma)) n (fnT (behT n (newT (rwAt (fnR o))) (rwAt (fnR cb)) mb)) false) = true) (h8 : c0 = false → c1 = false → c2 = false → (keysB n (stF n (fnT (behT n (newT (rwAt (fnR o))) (rwAt (fnR ca)) ma)))) = true) (h9 : c0 = false → c1 = false → c2 = false → (keysB n (stF n (fnT (behT n (newT (rwAt (fnR o))) (rwAt (fnR cb)) mb)))) = true) (h10 : c0 = false → c1 = false → c2 = false → c3 = true → (isSame n (fnT (behT n (newT (rwAt (fnR o))) (rwAt (fnR cb)) mb)) n (fnT (behT n (newT (rwAt (fnR o))) (rwAt (fnR ca)) ma)) false) = true) (y1 : c0 = true → ψ (Fe2.ret (Sh.b true))) (y2 : c0 = false → c1 = true → ψ (Fe2.ret (Sh.b true))) (y3 : c0 = false → c1 = false → c2 = true → ψ (Fe2.ret (Sh.b true))) (y4 : c0 = false → c1 = false → c2 = false → c3 = true → ψ (Fe2.ret (Sh.b (A.beq false (A.eq (A.ofN (difN n (fnT (behT n (newT (rwAt (fnR o))) (rwAt (fnR ca)) ma)) n (fnT (behT n (newT (rwAt (fnR o))) (rwAt (fnR cb)) mb)))) (Int.ofNat 0)))))) (y5 : c0 = false → c1 = false → c2 = false → c3 = false → ψ (Fe2.ret (Sh.b false))) : MeetsT ψ (runTo (C7 A W (spec6 false) sAl) nH0 300 400 6 [.code []] (start0 82 [.sl 2 n (fnR o), .sl 4 ma (fnR ca), .sl 4 mb (fnR cb)] L0) [] []) := by
 subst e0 e1 e2 e3
 rw [u6 A W n o ma mb ca cb, meetsT_eq]
 exact ⟨fun q0 => (y1 q0), fun q0 => ⟨fun q1 => (y2 q0 q1), fun q1 => ⟨fun q2 => (y3 q0 q1 q2), fun q2 => ⟨(h1 q0 q1 q2), ⟨(h2 q0 q1 q2), ⟨(h3 q0 q1 q2), ⟨(h2 q0 q1 q2), ⟨(h4 q0 q1 q2), ⟨(h5 q0 q1 q2), ⟨(h6 q0 q1 q2), ⟨(h7 q0 q1 q2), ⟨(h4 q0 q1 q2), ⟨(h8 q0 q1 q2), ⟨(h5 q0 q1 q2), ⟨(h9 q0 q1 q2), ⟨fun q3 => ⟨(h4 q0 q1 q2), ⟨(h5 q0 q1 q2), ⟨(h6 q0 q1 q2), ⟨(h7 q0 q1 q2), ⟨(h5 q0 q1 q2), ⟨(h4 q0 q1 q2), ⟨(h6 q0 q1 q2), ⟨(h10 q0 q1 q2 q3), ⟨(h4 q0 q1 q2), ⟨(h5 q0 q1 q2), ⟨(h6 q0 q1 q2), ⟨(h7 q0 q1 q2), ⟨(h4 q0 q1 q2), ⟨(h5 q0 q1 q2), ⟨(h6 q0 q1 q2), (y4 q0 q1 q2 q3)⟩⟩⟩⟩⟩⟩⟩⟩⟩⟩⟩⟩⟩⟩⟩, fun q3 => (y5 q0 q1 q2 q3)⟩⟩⟩⟩⟩⟩⟩⟩⟩⟩⟩⟩⟩⟩⟩⟩
theorem all_n6 (A : Prim) (W : Wd) (n : Nat) (o : Nat → Oj) (ma mb : Nat) (ca cb : Nat → Cl) {ψ : Fe2 → Prop} {c0 c1 c2 : Bool} (e0 : A.lt (Int.ofNat 100) (A.ofN n) = c0) (e1 : A.lt (Int.ofNat 200) (A.ofN ma) = c1) (e2 : A.lt (Int.ofNat 200) (A.ofN mb) = c2) (h1 : c0 = false → c1 = false → c2 = false → (in24 n (fnR o) ma (fnR ca)) = true) (h2 : c0 = false → c1 = false → c2 = false → (noO n (rwAt (fnR o))) = true) (h3 : c0 = false → c1 = false → c2 = false → (in24 n (fnR o) mb (fnR cb)) = true) (y1 : c0 = true → ψ (Fe2.ret (Sh.b true))) (y2 : c0 = false → c1 = true → ψ (Fe2.ret (Sh.b true))) (y3 : c0 = false → c1 = false → c2 = true → ψ (Fe2.ret (Sh.b true))) (y4 : c0 = false → c1 = false → c2 = false → ψ (Fe2.ret (Sh.b true))) : MeetsT ψ (runTo (C7 A W spec6n sAl) nH0 300 400 6 [.code []] (start0 82 [.sl 2 n (fnR o), .sl 4 ma (fnR ca), .sl 4 mb (fnR cb)] L0) [] []) := by
 subst e0 e1 e2
 rw [n6 A W n o ma mb ca cb, meetsT_eq]
 exact ⟨fun q0 => (y1 q0), fun q0 => ⟨fun q1 => (y2 q0 q1), fun q1 => ⟨fun q2 => (y3 q0 q1 q2), fun q2 => ⟨(h1 q0 q1 q2), ⟨(h2 q0 q1 q2), ⟨(h3 q0 q1 q2), ⟨(h2 q0 q1 q2), (y4 q0 q1 q2)⟩⟩⟩⟩⟩⟩⟩
end Go.Proofs
namespace Go.Pl
open Go Go.Sx Go.Proofs
open Go.Lib (decDigits itoa)
def valD (l : List UInt8) : Nat := l.foldl (fun a c => a * 10 + (c.toNat - 48)) 0
theorem dig_nat {d : Nat} (h : d < 10) : (UInt8.ofNat (48 + d)).toNat = 48 + d := by
 rw [UInt8.toNat_ofNat']
 omega
theorem valD_dec (u : Nat) : valD (decDigits u) = u ∧ (∀ c ∈ decDigits u, 48 ≤ c.toNat ∧ c.toNat ≤ 57) ∧ decDigits u ≠ [] := by
 induction u using Nat.strongRecOn with
 | ind u ih =>
  rw [decDigits]
  by_cases h : u < 10
  ·rw [dif_pos h]
   have := dig_nat h
   refine ⟨?_, fun c hc => ?_, by simp⟩
   ·show 0 * 10 + ((UInt8.ofNat (48 + u)).toNat - 48) = u
    rw [this]; omega
   ·obtain rfl : c = UInt8.ofNat (48 + u) := by simpa using hc
    rw [this]; omega
  ·rw [dif_neg h]
   obtain ⟨q1, q2, q3⟩ := ih (u / 10) (by omega)
   have := dig_nat (d := u % 10) (by omega)
   refine ⟨?_, fun c hc => ?_, by simp⟩
   ·unfold valD at q1 ⊢
    rw [List.foldl_append, q1]
    show u / 10 * 10 + ((UInt8.ofNat (48 + u % 10)).toNat - 48) = u
    rw [this]; omega
   ·rcases List.mem_append.1 hc with hc | hc
    ·exact q2 c hc
    ·obtain rfl : c = UInt8.ofNat (48 + u % 10) := by simpa using hc
     rw [this]; omega
theorem dec_inj {a b : Nat} (h : decDigits a = decDigits b) : a = b := by
 have h1 := (valD_dec a).1
 rw [h, (valD_dec b).1] at h1
 exact h1.symm
theorem itoa_chars {n : Int} {c : UInt8} (h : c ∈ itoaS n) : c.toNat = 45 ∨ (48 ≤ c.toNat ∧ c.toNat ≤ 57) := by
 unfold itoaS itoa at h
 split at h
 ·rcases List.mem_cons.1 h with rfl | h
  ·exact .inl rfl
  ·exact .inr ((valD_dec _).2.1 c h)
 ·exact .inr ((valD_dec _).2.1 c h)
theorem itoa_inj {a b : Int} (h : itoaS a = itoaS b) : a = b := by
 have head (u v : Nat) (h : 45 :: decDigits u = decDigits v) : False := by
  have : (45 : UInt8) ∈ decDigits v := by rw [← h]; simp
  have := (valD_dec v).2.1 _ this
  simp at this
 unfold itoaS itoa at h
 split at h
 ·split at h
  ·injection h with _ h
   have := dec_inj h
   omega
  ·exact (head _ _ h).elim
 ·split at h
  ·exact (head _ _ h.symm).elim
  ·have := dec_inj h
   omega
theorem tw_app {z : UInt8} {a r : List UInt8} (ha : z ∉ a) (hr : r = [] ∨ ∃ t, r = z :: t) : (a ++ r).takeWhile (fun c => !(c == z)) = a := by
 rw [List.takeWhile_append_of_pos fun c hc => by
  have : c ≠ z := fun e => ha (e ▸ hc)
  simp [this]]
 rcases hr with rfl | ⟨t, rfl⟩
 ·simp
 ·simp
theorem app_inj {z : UInt8} {a b r r' : List UInt8} (ha : z ∉ a) (hb : z ∉ b) (hr : r = [] ∨ ∃ t, r = z :: t) (hr' : r' = [] ∨ ∃ t, r' = z :: t) (h : a ++ r = b ++ r') : a = b ∧ r = r' := by
 have h1 := tw_app ha hr
 rw [h, tw_app hb hr'] at h1
 subst h1
 exact ⟨rfl, List.append_cancel_left h⟩
theorem flat_head {α : Type} {z : UInt8} {f : α → List UInt8} : ∀ l : List α, (l.flatMap fun x => z :: f x) = [] ∨ ∃ t, (l.flatMap fun x => z :: f x) = z :: t
 | [] => .inl rfl
 | a :: l => .inr ⟨_, rfl⟩
theorem flat_inj {α : Type} {z : UInt8} {f : α → List UInt8} (hz : ∀ x, z ∉ f x) (hf : ∀ x y, f x = f y → x = y) : ∀ l l' : List α, (l.flatMap fun x => z :: f x) = (l'.flatMap fun x => z :: f x) → l = l'
 | [], [], _ => rfl
 | [], _ :: _, h => by cases h
 | _ :: _, [], h => by cases h
 | a :: l, b :: l', h => by
  simp only [List.flatMap_cons, List.cons_append] at h
  injection h with _ h
  obtain ⟨h1, h2⟩ := app_inj (hz a) (hz b) (flat_head l) (flat_head l') h
  rw [hf a b h1, flat_inj hz hf l l' h2]
theorem itoa_no {n : Int} {z : UInt8} (h : z.toNat = 32 ∨ z.toNat = 58 ∨ z.toNat = 59) : z ∉ itoaS n := fun hc => by
 have := itoa_chars hc
 omega
theorem pair_inj {a b c d : Int} (h : itoaS a ++ 58 :: itoaS b = itoaS c ++ 58 :: itoaS d) : a = c ∧ b = d := by
 obtain ⟨h1, h2⟩ := app_inj (z := 58) (itoa_no (by decide)) (itoa_no (by decide)) (.inr ⟨_, rfl⟩) (.inr ⟨_, rfl⟩) h
 injection h2 with _ h2
 exact ⟨itoa_inj h1, itoa_inj h2⟩
theorem keyU_inj {m m' : Nat} {s t : Sta} (hs : InvS m s) (ht : InvS m' t) (hk : s.kind = t.kind) (hn : s.kind ≤ 2 ∨ s.num = t.num) (h : keyU (toR s) = keyU (toR t)) : s = t := by
 obtain ⟨kind, num, q, ps⟩ := s
 obtain ⟨kind', num', q', ps'⟩ := t
 have hk : kind = kind' := hk
 subst hk
 have hkk : 1 ≤ kind ∧ kind ≤ 4 := hs.kind
 have hn : kind ≤ 2 ∨ num = num' := hn
 have : kind = 1 ∨ kind = 2 ∨ kind = 3 ∨ kind = 4 := by omega
 rcases this with rfl | rfl | rfl | rfl
 ·have e1 : q = [] := hs.q0 (show (1 : Int) ≠ 3 by decide)
  have e2 : q' = [] := ht.q0 (show (1 : Int) ≠ 3 by decide)
  have e3 : ps = [] := hs.p0 (show (1 : Int) ≠ 4 by decide)
  have e4 : ps' = [] := ht.p0 (show (1 : Int) ≠ 4 by decide)
  subst e1 e2 e3 e4
  have h : wordU 1 ++ (32 :: itoaS num) = wordU 1 ++ (32 :: itoaS num') := h
  have h := List.append_cancel_left h
  injection h with _ h
  rw [itoa_inj h]
 ·have e1 : q = [] := hs.q0 (show (2 : Int) ≠ 3 by decide)
  have e2 : q' = [] := ht.q0 (show (2 : Int) ≠ 3 by decide)
  have e3 : ps = [] := hs.p0 (show (2 : Int) ≠ 4 by decide)
  have e4 : ps' = [] := ht.p0 (show (2 : Int) ≠ 4 by decide)
  subst e1 e2 e3 e4
  have h : wordU 2 ++ (32 :: itoaS num) = wordU 2 ++ (32 :: itoaS num') := h
  have h := List.append_cancel_left h
  injection h with _ h
  rw [itoa_inj h]
 ·have e3 : ps = [] := hs.p0 (show (3 : Int) ≠ 4 by decide)
  have e4 : ps' = [] := ht.p0 (show (3 : Int) ≠ 4 by decide)
  subst e3 e4
  have hn : num = num' := hn.resolve_left (show ¬ (3 : Int) ≤ 2 by decide)
  subst hn
  have h : wordU 3 ++ qU (q ++ []) (q ++ []).length = wordU 3 ++ qU (q' ++ []) (q' ++ []).length := h
  have h := List.append_cancel_left h
  rw [List.append_nil, List.append_nil, qU_eq, qU_eq] at h
  rw [flat_inj (fun x => itoa_no (.inl rfl)) (fun x y e => itoa_inj e) q q' h]
 ·have e1 : q = [] := hs.q0 (show (4 : Int) ≠ 3 by decide)
  have e2 : q' = [] := ht.q0 (show (4 : Int) ≠ 3 by decide)
  subst e1 e2
  have hn : num = num' := hn.resolve_left (show ¬ (4 : Int) ≤ 2 by decide)
  subst hn
  have h : wordU 4 ++ pU (ps.map (·.key)) (ps.map (·.val)) (ps.map (·.val)).length = wordU 4 ++ pU (ps'.map (·.key)) (ps'.map (·.val)) (ps'.map (·.val)).length := h
  have h := List.append_cancel_left h
  rw [List.length_map, List.length_map, pU_eq, pU_eq] at h
  have := flat_inj (f := fun p : Pr => itoaS p.key ++ 58 :: itoaS p.val) (fun x hx => by
   rcases List.mem_append.1 hx with hx | hx
   ·exact itoa_no (.inl rfl) hx
   ·rcases List.mem_cons.1 hx with hx | hx
    ·cases hx
    ·exact itoa_no (.inl rfl) hx) (fun x y e => by
   obtain ⟨a, b⟩ := x
   obtain ⟨c, d⟩ := y
   obtain ⟨e1, e2⟩ := pair_inj e
   have e1 : a = c := e1
   have e2 : b = d := e2
   rw [e1, e2]) ps ps' h
  rw [this]
theorem last_inj {a b x y : List UInt8} (hx : 59 ∉ x) (hy : 59 ∉ y) (h : a ++ 59 :: 32 :: x = b ++ 59 :: 32 :: y) : a = b ∧ x = y := by
 have h := congrArg List.reverse h
 simp only [List.reverse_append, List.reverse_cons, List.append_assoc, List.singleton_append] at h
 have h : (x.reverse ++ [32]) ++ 59 :: a.reverse = (y.reverse ++ [32]) ++ 59 :: b.reverse := by simpa using h
 obtain ⟨h1, h2⟩ := app_inj (z := 59) (by simpa using hx) (by simpa using hy) (.inr ⟨_, rfl⟩) (.inr ⟨_, rfl⟩) h
 injection h2 with _ h2
 have h1 := List.append_cancel_right h1
 exact ⟨List.reverse_inj.1 h2, List.reverse_inj.1 h1⟩
theorem key59 {m : Nat} {s : Sta} (hs : InvS m s) : 59 ∉ keyU (toR s) := by
 rw [← key_eq hs]
 obtain ⟨kind, num, q, ps⟩ := s
 have hkk : 1 ≤ kind ∧ kind ≤ 4 := hs.kind
 have hw : 59 ∉ wordO kind := by
  have : kind = 1 ∨ kind = 2 ∨ kind = 3 ∨ kind = 4 := by omega
  rcases this with rfl | rfl | rfl | rfl <;> decide
 unfold keyS partsS joinS
 rw [Go.Lib.join_cons, tail_flat]
 intro hc
 rcases List.mem_append.1 hc with hc | hc
 ·exact hw hc
 ·obtain ⟨x, hx, hc⟩ := List.mem_flatMap.1 hc
  have hc : (59 : UInt8) ∈ x := by
   rcases List.mem_cons.1 hc with hc | hc
   ·cases hc
   ·exact hc
  have no (n : Int) : (59 : UInt8) ∉ itoaS n := itoa_no (.inr (.inr rfl))
  split at hx
  ·obtain rfl : x = itoaS num := by simpa using hx
   exact no _ hc
  ·split at hx
   ·obtain ⟨n, _, rfl⟩ := List.mem_map.1 hx
    exact no _ hc
   ·split at hx
    ·obtain ⟨p, _, rfl⟩ := List.mem_map.1 hx
     rcases List.mem_append.1 hc with hc | hc
     ·rcases List.mem_append.1 hc with hc | hc
      ·exact no _ hc
      ·simp at hc
     ·exact no _ hc
    ·cases hx
theorem keys_inj {m m' : Nat} {d e : Nat → Sta} : ∀ n, (∀ j, j < n → InvS m (d j)) → (∀ j, j < n → InvS m' (e j)) → keysU (fun j => toR (d j)) n = keysU (fun j => toR (e j)) n → ∀ j, j < n → keyU (toR (d j)) = keyU (toR (e j))
 | 0, _, _, _, j, hj => by omega
 | n + 1, hd, he, h, j, hj => by
  rw [keysU, keysU] at h
  have key : keysU (fun j => toR (d j)) n = keysU (fun j => toR (e j)) n ∧ keyU (toR (d n)) = keyU (toR (e n)) := by
   by_cases hn : n = 0
   ·subst hn
    rw [if_pos rfl] at h
    exact ⟨rfl, h⟩
   ·rw [if_neg hn] at h
    exact last_inj (key59 (hd n (by omega))) (key59 (he n (by omega))) h
  by_cases e1 : j = n
  ·subst e1; exact key.2
  ·exact keys_inj n (fun j hj => hd j (by omega)) (fun j hj => he j (by omega)) key.1 j (by omega)
theorem stores_inj {m m' n : Nat} {d e : Nat → Sta} (hd : ∀ j, j < n → InvS m (d j)) (he : ∀ j, j < n → InvS m' (e j)) (hk : ∀ j, j < n → (d j).kind = (e j).kind) (h : keyN n d = keyN n e) : ∀ j, j < n → d j = e j := fun j hj => by
 rw [keys_eq n hd, keys_eq n he] at h
 have := keys_inj n hd he h j hj
 refine keyU_inj (hd j hj) (he j hj) (hk j hj) ?_ this
 by_cases q : (d j).kind ≤ 2
 ·exact .inl q
 ·exact .inr (by rw [(hd j hj).n0 (by omega), (he j hj).n0 (by rw [← hk j hj]; omega)])
end Go.Pl
namespace Go.Pl
open Go Go.Sx Go.Proofs
theorem opT_kind (s : Sta) (op k v : Int) : (opT s op k v).1.kind = s.kind := by
 unfold opT
 repeat' split
 all_goals rfl
section
variable {n m : Nat} {o d e : Nat → Sta} {c : Nat → Cl}
theorem behT_inv (h0 : ∀ j, j < n → InvS 0 (o j)) : ∀ m j, j < n → InvS m (behT n o c m j)
 | 0, j, hj => h0 j hj
 | m + 1, j, hj => by
  have ih := behT_inv h0 m
  unfold behT
  split
  ·rename_i hok
   exact (nxtU_eq (fun j hj => ih j hj) hok).2 j hj
  ·have := ih j hj
   exact { this with ql := Nat.le_succ_of_le this.ql, pl := Nat.le_succ_of_le this.pl }
theorem behT_kind : ∀ m j, (behT n o c m j).kind = (o j).kind
 | 0, j => rfl
 | m + 1, j => by
  have ih := behT_kind m
  unfold behT
  split
  ·unfold updT
   split
   ·rename_i h
    rw [opT_kind, ih, h.2]
   ·exact ih j
  ·exact ih j
theorem new_all {o : Nat → Oj} (hg : goodO n o = true) : n ≤ 8 ∧ ∀ j, j < n → InvS 0 (newT o j) := by
 unfold goodO bigO at hg
 rw [Bool.and_eq_true] at hg
 obtain ⟨h1, h2⟩ := hg
 refine ⟨?_, fun j hj => (new_inv ?_).1⟩
 ·simp at h1; omega
 ·simpa using all_range h2 j hj
theorem atT_in {i : Nat} (h : i < n) : atT n d i = d i := by
 unfold atT
 have : inI n i = true := by simp [inI, h]
 rw [this]; rfl
theorem diff_mem {i : Int} : i ∈ diffL n (stF n (fnT d)) n (stF n (fnT e)) ↔ ∃ j, j < n ∧ i = (j : Int) ∧ d j ≠ e j := by
 unfold diffL diffN
 rw [Nat.max_self]
 simp only [List.mem_map, List.mem_filter, List.mem_range]
 constructor
 ·intro ⟨j, ⟨hj, hu⟩, e1⟩
  refine ⟨j, hj, e1.symm, fun e2 => ?_⟩
  unfold unT at hu
  rw [atT_in hj, atT_in hj, stF_fnT j hj, stF_fnT j hj, e2] at hu
  simp at hu
 ·intro ⟨j, hj, e1, hu⟩
  refine ⟨j, ⟨hj, ?_⟩, e1.symm⟩
  unfold unT
  rw [atT_in hj, atT_in hj, stF_fnT j hj, stF_fnT j hj]
  simp [hu]
theorem dif_iff : difN n (fnT d) n (fnT e) = 0 ↔ ∀ j, j < n → d j = e j := by
 unfold difN
 rw [List.length_eq_zero_iff, List.eq_nil_iff_forall_not_mem]
 constructor
 ·intro h j hj
  exact Classical.byContradiction fun q => h (j : Int) (diff_mem.2 ⟨j, hj, rfl, q⟩)
 ·intro h i hi
  obtain ⟨j, hj, _, q⟩ := diff_mem.1 hi
  exact q (h j hj)
theorem same_iff : sameB n (fnT d) n (fnT e) = true ↔ ∀ j, j < n → d j = e j := by
 unfold sameB
 rw [← dif_iff]
 simp
theorem same_symm : sameB n (fnT d) n (fnT e) = sameB n (fnT e) n (fnT d) := by
 rw [Bool.eq_iff_iff, same_iff, same_iff]
 exact ⟨fun h j hj => (h j hj).symm, fun h j hj => (h j hj).symm⟩
theorem keyN_iff {k l : Nat} (hd : ∀ j, j < n → InvS k (d j)) (he : ∀ j, j < n → InvS l (e j)) (hk : ∀ j, j < n → (d j).kind = (e j).kind) :
  keyN n (stF n (fnT d)) = keyN n (stF n (fnT e)) ↔ ∀ j, j < n → d j = e j := by
 rw [keyN_congr (stF_fnT (d := d)), keyN_congr (stF_fnT (d := e))]
 exact ⟨stores_inj hd he hk, fun h => keyN_congr h⟩
end
end Go.Pl
namespace Go.Proofs
open Go Go.Sx Go.Pl
theorem fnOK_wk {P : Program} {gls : List (Nat × Sh)} {g : Nat} {F G : List Sh → Tree Sh} (hF : FnOK P gls g F) (h : ∀ (shs : List Sh) (φ : Sh → Prop), (G shs).All φ → ∃ s' : Sh, φ s' ∧ (F shs).All fun s => Wk s s') : FnOK P gls g G := by
 intro H w shs args φ hon hg hr hφ
 obtain ⟨s', h1, h2⟩ := h shs φ hφ
 refine (hF H w shs args _ hon hg hr h2).mono fun e w' ⟨v, s, H', he, hs, r⟩ => ?_
 obtain ⟨H2, r2⟩ := r.wk hs
 exact ⟨v, s', H2, he, h1, r2⟩
theorem in24_of {n m : Nat} {g h : Nat → List Sh} (q : in24 n g m h = true) : okB Oj n g = true ∧ kindsB n (rwAt g) = true ∧ okB Cl m h = true ∧ fewB m = true := by
 unfold in24 at q
 simp only [Bool.and_eq_true] at q
 exact ⟨q.1.1.1, q.1.1.2, q.1.2, q.2⟩
theorem wk_sl {st n : Nat} {g : Nat → List Sh} : Wk (.sl st n g) (.sl st n g) := .inr ⟨rfl, rfl, fun _ _ => rfl⟩
theorem O24g : FnOK Tryz.prog (gls7 W7) 24 F24g := fnOK_wk O24 fun shs φ h => by
 unfold F24g at h
 split at h
 ·split at h
  ·rename_i e1 e2
   obtain ⟨h1, h2, hφ⟩ := h
   obtain ⟨q1, q2, q3, q4⟩ := in24_of h1
   refine ⟨_, hφ, ?_⟩
   unfold F24
   simp only [e1, e2]
   exact ⟨q1, q2, q3, q4, fun _ => ⟨⟨wk_sl, trivial⟩, wk_sl, .inr rfl, trivial⟩, fun q => by rw [h2] at q; cases q⟩
  ·exact h.elim
 ·exact h.elim
theorem O24n : FnOK Tryz.prog (gls7 W7) 24 F24n := fnOK_wk O24 fun shs φ h => by
 unfold F24n at h
 split at h
 ·split at h
  ·rename_i e1 e2
   obtain ⟨h1, h2, hφ⟩ := h
   obtain ⟨q1, q2, q3, q4⟩ := in24_of h1
   refine ⟨_, hφ, ?_⟩
   unfold F24
   simp only [e1, e2]
   refine ⟨q1, q2, q3, q4, fun q => ?_, fun _ => ⟨⟨wk_sl, trivial⟩, wk_sl, .inr rfl, trivial⟩⟩
   unfold noO at h2
   rw [q] at h2; cases h2
  ·exact h.elim
 ·exact h.elim
theorem O31w (b : Bool) : FnOK Tryz.prog (gls7 W7) 31 (F31w b) := fnOK_wk O31 fun shs φ h => by
 unfold F31w at h
 split at h
 ·split at h
  ·rename_i e1 e2
   obtain ⟨h1, h2, h3, h4, hφ⟩ := h
   refine ⟨_, hφ, ?_⟩
   unfold F31
   simp only [e1, e2]
   refine ⟨h1, h2, h3, ?_⟩
   rw [eq_of_beq h4]
   exact .inr rfl
  ·exact h.elim
 ·exact h.elim
theorem fok6 (b : Bool) (stop : Nat → List Nat → Bool) : FnsOK Tryz.prog (C7 prim W7 (spec6 b) stop) := C7.fok (fun g F h => by
 unfold spec6 at h
 split at h
 ·cases h; exact O12
 ·cases h; exact O24g
 ·cases h; exact O27x
 ·cases h; exact O31w b
 ·cases h; exact O32x
 ·cases h) fun g h => by
 unfold spec6 at h
 split at h
 all_goals first | (cases h; done) | kernel_rfl
theorem fok6n (stop : Nat → List Nat → Bool) : FnsOK Tryz.prog (C7 prim W7 spec6n stop) := C7.fok (fun g F h => by
 unfold spec6n at h
 split at h
 ·cases h; exact O12
 ·cases h; exact O24n
 ·cases h) fun g h => by
 unfold spec6n at h
 split at h
 all_goals first | (cases h; done) | kernel_rfl
end Go.Proofs
namespace Go.Pl
open Go Go.Sx
noncomputable def in29 (n : Nat) (g : Nat → List Sh) (i op : Int) : Bool := stB n g && roomB n 64 && fitN n (stF n g) i op
noncomputable def okT29 (n : Nat) (g : Nat → List Sh) (i op k v : Int) : Bool := okN n (stF n g) i op k v
noncomputable def erT29 (n : Nat) (g : Nat → List Sh) (i op k v : Int) : Nat := erN n (stF n g) i op k v
end Go.Pl
namespace Go.Proofs
open Go.Sx.Tree
open Go Go.Sx Go.Pl
noncomputable def F29d : List Sh → Tree Sh
 | [.agg [s0], t, u, v, w] => match slN 4 s0, icode t, icode u, icode v, icode w with
  | some (n, g), some i, some op, some k, some v => .need (in29 n g i op) (.node (okT29 n g i op k v)
   (.leaf (.tup [.agg [.sl 4 n (nxtT n g i op k v)], .i .i64 (retT n g i op k v), .i .i64 (gotT n g i op k v), .v .nilIface]))
   (.leaf (.tup [.agg [.sl 4 0 noT], .v (.int .i64 0), .v (.int .i64 0), .er (erT29 n g i op k v) 242])))
  | _, _, _, _, _ => .fail
 | _ => .fail
noncomputable def spec5 : Nat → Option (List Sh → Tree Sh)
 | 12 => some F12
 | 24 => some F24g
 | 27 => some F27x
 | 29 => some F29d
 | 31 => some F31
 | 32 => some F32x
 | _ => none
theorem t5 (A : Prim) (W : Wd) (n : Nat) (o : Nat → Oj) (m : Nat) (c : Nat → Cl) (a0 a1 a2 a3 b0 b1 b2 b3 : Int) : runTo (C7 A W spec5 sAl) nH0 300 400 5 [.code []] (start0 201 [.sl 2 n (fnR o), .sl 4 m (fnR c), .agg [.i .i64 a0, .i .i64 a1, .i .i64 a2, .i .i64 a3], .agg [.i .i64 b0, .i .i64 b1, .i .i64 b2, .i .i64 b3]] L0) [] [] = node (A.lt (Int.ofNat 100) (A.ofN n)) (leaf (Fe2.ret (Sh.b true))) (node (A.lt (Int.ofNat 200) (A.ofN m)) (leaf (Fe2.ret (Sh.b true))) (need (in24 n (fnR o) m (fnR c)) (need (goodO n (rwAt (fnR o))) (need (in29 n (fnT (behT n (newT (rwAt (fnR o))) (rwAt (fnR c)) m)) a0 a1) (node (okT29 n (fnT (behT n (newT (rwAt (fnR o))) (rwAt (fnR c)) m)) a0 a1 a2 a3) (need (in29 n (fnT (behT n (newT (rwAt (fnR o))) (rwAt (fnR c)) m)) b0 b1) (node (okT29 n (fnT (behT n (newT (rwAt (fnR o))) (rwAt (fnR c)) m)) b0 b1 b2 b3) (need (stB n (fnT (behT n (newT (rwAt (fnR o))) (rwAt (fnR c)) m))) (need (stB n (nxtT n (fnT (behT n (newT (rwAt (fnR o))) (rwAt (fnR c)) m)) a0 a1 a2 a3)) (need (manyB n n) (node (A.lt (Int.ofNat 1) (A.ofN (difN n (fnT (behT n (newT (rwAt (fnR o))) (rwAt (fnR c)) m)) n (nxtT n (fnT (behT n (newT (rwAt (fnR o))) (rwAt (fnR c)) m)) a0 a1 a2 a3)))) (leaf (Fe2.ret (Sh.b false))) (node (A.eq (A.ofN (difN n (fnT (behT n (newT (rwAt (fnR o))) (rwAt (fnR c)) m)) n (nxtT n (fnT (behT n (newT (rwAt (fnR o))) (rwAt (fnR c)) m)) a0 a1 a2 a3))) (Int.ofNat 1)) (need (A.inB (Int.ofNat 0) (difN n (fnT (behT n (newT (rwAt (fnR o))) (rwAt (fnR c)) m)) n (nxtT n (fnT (behT n (newT (rwAt (fnR o))) (rwAt (fnR c)) m)) a0 a1 a2 a3))) (node (A.nt (A.eq (nth (diffL n (stF n (fnT (behT n (newT (rwAt (fnR o))) (rwAt (fnR c)) m))) n (stF n (nxtT n (fnT (behT n (newT (rwAt (fnR o))) (rwAt (fnR c)) m)) a0 a1 a2 a3))) 0) a0)) (leaf (Fe2.ret (Sh.b false))) (need (stB n (fnT (behT n (newT (rwAt (fnR o))) (rwAt (fnR c)) m))) (need (stB n (nxtT n (fnT (behT n (newT (rwAt (fnR o))) (rwAt (fnR c)) m)) a0 a1 a2 a3)) (need (manyB n n) (node (A.nt (A.beq (sameB n (fnT (behT n (newT (rwAt (fnR o))) (rwAt (fnR c)) m)) n (nxtT n (fnT (behT n (newT (rwAt (fnR o))) (rwAt (fnR c)) m)) a0 a1 a2 a3)) (A.eq (A.ofN (difN n (fnT (behT n (newT (rwAt (fnR o))) (rwAt (fnR c)) m)) n (nxtT n (fnT (behT n (newT (rwAt (fnR o))) (rwAt (fnR c)) m)) a0 a1 a2 a3))) (Int.ofNat 0)))) (leaf (Fe2.ret (Sh.b false))) (node (A.eq a0 b0) (leaf (Fe2.ret (Sh.b true))) (need (in29 n (nxtT n (fnT (behT n (newT (rwAt (fnR o))) (rwAt (fnR c)) m)) a0 a1 a2 a3) b0 b1) (node (okT29 n (nxtT n (fnT (behT n (newT (rwAt (fnR o))) (rwAt (fnR c)) m)) a0 a1 a2 a3) b0 b1 b2 b3) (need (in29 n (nxtT n (fnT (behT n (newT (rwAt (fnR o))) (rwAt (fnR c)) m)) b0 b1 b2 b3) a0 a1) (node (okT29 n (nxtT n (fnT (behT n (newT (rwAt (fnR o))) (rwAt (fnR c)) m)) b0 b1 b2 b3) a0 a1 a2 a3) (need (stB n (nxtT n (nxtT n (fnT (behT n (newT (rwAt (fnR o))) (rwAt (fnR c)) m)) a0 a1 a2 a3) b0 b1 b2 b3)) (need (stB n (nxtT n (nxtT n (fnT (behT n (newT (rwAt (fnR o))) (rwAt (fnR c)) m)) b0 b1 b2 b3) a0 a1 a2 a3)) (need (manyB n n) (node (sameB n (nxtT n (nxtT n (fnT (behT n (newT (rwAt (fnR o))) (rwAt (fnR c)) m)) a0 a1 a2 a3) b0 b1 b2 b3) n (nxtT n (nxtT n (fnT (behT n (newT (rwAt (fnR o))) (rwAt (fnR c)) m)) b0 b1 b2 b3) a0 a1 a2 a3)) (need (stB n (nxtT n (nxtT n (fnT (behT n (newT (rwAt (fnR o))) (rwAt (fnR c)) m)) a0 a1 a2 a3) b0 b1 b2 b3)) (need (keysB n (stF n (nxtT n (nxtT n (fnT (behT n (newT (rwAt (fnR o))) (rwAt (fnR c)) m)) a0 a1 a2 a3) b0 b1 b2 b3))) (need (stB n (nxtT n (nxtT n (fnT (behT n (newT (rwAt (fnR o))) (rwAt (fnR c)) m)) b0 b1 b2 b3) a0 a1 a2 a3)) (need (keysB n (stF n (nxtT n (nxtT n (fnT (behT n (newT (rwAt (fnR o))) (rwAt (fnR c)) m)) b0 b1 b2 b3) a0 a1 a2 a3))) (node (A.seq (keyN n (stF n (nxtT n (nxtT n (fnT (behT n (newT (rwAt (fnR o))) (rwAt (fnR c)) m)) a0 a1 a2 a3) b0 b1 b2 b3))) (keyN n (stF n (nxtT n (nxtT n (fnT (behT n (newT (rwAt (fnR o))) (rwAt (fnR c)) m)) b0 b1 b2 b3) a0 a1 a2 a3)))) (node (A.eq (retT n (fnT (behT n (newT (rwAt (fnR o))) (rwAt (fnR c)) m)) a0 a1 a2 a3) (retT n (nxtT n (fnT (behT n (newT (rwAt (fnR o))) (rwAt (fnR c)) m)) b0 b1 b2 b3) a0 a1 a2 a3)) (node (A.eq (gotT n (fnT (behT n (newT (rwAt (fnR o))) (rwAt (fnR c)) m)) a0 a1 a2 a3) (gotT n (nxtT n (fnT (behT n (newT (rwAt (fnR o))) (rwAt (fnR c)) m)) b0 b1 b2 b3) a0 a1 a2 a3)) (node (A.eq (retT n (fnT (behT n (newT (rwAt (fnR o))) (rwAt (fnR c)) m)) b0 b1 b2 b3) (retT n (nxtT n (fnT (behT n (newT (rwAt (fnR o))) (rwAt (fnR c)) m)) a0 a1 a2 a3) b0 b1 b2 b3)) (leaf (Fe2.ret (Sh.b (A.eq (gotT n (fnT (behT n (newT (rwAt (fnR o))) (rwAt (fnR c)) m)) b0 b1 b2 b3) (gotT n (nxtT n (fnT (behT n (newT (rwAt (fnR o))) (rwAt (fnR c)) m)) a0 a1 a2 a3) b0 b1 b2 b3))))) (leaf (Fe2.ret (Sh.b false)))) (leaf (Fe2.ret (Sh.b false)))) (leaf (Fe2.ret (Sh.b false)))) (leaf (Fe2.ret (Sh.b false)))))))) (leaf (Fe2.ret (Sh.b false))))))) (leaf (Fe2.ret (Sh.b false))))) (need (in29 n (nxtT n (fnT (behT n (newT (rwAt (fnR o))) (rwAt (fnR c)) m)) b0 b1 b2 b3) a0 a1) (node (okT29 n (nxtT n (fnT (behT n (newT (rwAt (fnR o))) (rwAt (fnR c)) m)) b0 b1 b2 b3) a0 a1 a2 a3) (leaf (Fe2.ret (Sh.b false))) (leaf (Fe2.ret (Sh.b false)))))))))))))) (need (stB n (fnT (behT n (newT (rwAt (fnR o))) (rwAt (fnR c)) m))) (need (stB n (nxtT n (fnT (behT n (newT (rwAt (fnR o))) (rwAt (fnR c)) m)) a0 a1 a2 a3)) (need (manyB n n) (node (A.nt (A.beq (sameB n (fnT (behT n (newT (rwAt (fnR o))) (rwAt (fnR c)) m)) n (nxtT n (fnT (behT n (newT (rwAt (fnR o))) (rwAt (fnR c)) m)) a0 a1 a2 a3)) (A.eq (A.ofN (difN n (fnT (behT n (newT (rwAt (fnR o))) (rwAt (fnR c)) m)) n (nxtT n (fnT (behT n (newT (rwAt (fnR o))) (rwAt (fnR c)) m)) a0 a1 a2 a3))) (Int.ofNat 0)))) (leaf (Fe2.ret (Sh.b false))) (node (A.eq a0 b0) (leaf (Fe2.ret (Sh.b true))) (need (in29 n (nxtT n (fnT (behT n (newT (rwAt (fnR o))) (rwAt (fnR c)) m)) a0 a1 a2 a3) b0 b1) (node (okT29 n (nxtT n (fnT (behT n (newT (rwAt (fnR o))) (rwAt (fnR c)) m)) a0 a1 a2 a3) b0 b1 b2 b3) (need (in29 n (nxtT n (fnT (behT n (newT (rwAt (fnR o))) (rwAt (fnR c)) m)) b0 b1 b2 b3) a0 a1) (node (okT29 n (nxtT n (fnT (behT n (newT (rwAt (fnR o))) (rwAt (fnR c)) m)) b0 b1 b2 b3) a0 a1 a2 a3) (need (stB n (nxtT n (nxtT n (fnT (behT n (newT (rwAt (fnR o))) (rwAt (fnR c)) m)) a0 a1 a2 a3) b0 b1 b2 b3)) (need (stB n (nxtT n (nxtT n (fnT (behT n (newT (rwAt (fnR o))) (rwAt (fnR c)) m)) b0 b1 b2 b3) a0 a1 a2 a3)) (need (manyB n n) (node (sameB n (nxtT n (nxtT n (fnT (behT n (newT (rwAt (fnR o))) (rwAt (fnR c)) m)) a0 a1 a2 a3) b0 b1 b2 b3) n (nxtT n (nxtT n (fnT (behT n (newT (rwAt (fnR o))) (rwAt (fnR c)) m)) b0 b1 b2 b3) a0 a1 a2 a3)) (need (stB n (nxtT n (nxtT n (fnT (behT n (newT (rwAt (fnR o))) (rwAt (fnR c)) m)) a0 a1 a2 a3) b0 b1 b2 b3)) (need (keysB n (stF n (nxtT n (nxtT n (fnT (behT n (newT (rwAt (fnR o))) (rwAt (fnR c)) m)) a0 a1 a2 a3) b0 b1 b2 b3))) (need (stB n (nxtT n (nxtT n (fnT (behT n (newT (rwAt (fnR o))) (rwAt (fnR c)) m)) b0 b1 b2 b3) a0 a1 a2 a3)) (need (keysB n (stF n (nxtT n (nxtT n (fnT (behT n (newT (rwAt (fnR o))) (rwAt (fnR c)) m)) b0 b1 b2 b3) a0 a1 a2 a3))) (node (A.seq (keyN n (stF n (nxtT n (nxtT n (fnT (behT n (newT (rwAt (fnR o))) (rwAt (fnR c)) m)) a0 a1 a2 a3) b0 b1 b2 b3))) (keyN n (stF n (nxtT n (nxtT n (fnT (behT n (newT (rwAt (fnR o))) (rwAt (fnR c)) m)) b0 b1 b2 b3) a0 a1 a2 a3)))) (node (A.eq (retT n (fnT (behT n (newT (rwAt (fnR o))) (rwAt (fnR c)) m)) a0 a1 a2 a3) (retT n (nxtT n (fnT (behT n (newT (rwAt (fnR o))) (rwAt (fnR c)) m)) b0 b1 b2 b3) a0 a1 a2 a3)) (node (A.eq (gotT n (fnT (behT n (newT (rwAt (fnR o))) (rwAt (fnR c)) m)) a0 a1 a2 a3) (gotT n (nxtT n (fnT (behT n (newT (rwAt (fnR o))) (rwAt (fnR c)) m)) b0 b1 b2 b3) a0 a1 a2 a3)) (node (A.eq (retT n (fnT (behT n (newT (rwAt (fnR o))) (rwAt (fnR c)) m)) b0 b1 b2 b3) (retT n (nxtT n (fnT (behT n (newT (rwAt (fnR o))) (rwAt (fnR c)) m)) a0 a1 a2 a3) b0 b1 b2 b3)) (leaf (Fe2.ret (Sh.b (A.eq (gotT n (fnT (behT n (newT (rwAt (fnR o))) (rwAt (fnR c)) m)) b0 b1 b2 b3) (gotT n (nxtT n (fnT (behT n (newT (rwAt (fnR o))) (rwAt (fnR c)) m)) a0 a1 a2 a3) b0 b1 b2 b3))))) (leaf (Fe2.ret (Sh.b false)))) (leaf (Fe2.ret (Sh.b false)))) (leaf (Fe2.ret (Sh.b false)))) (leaf (Fe2.ret (Sh.b false)))))))) (leaf (Fe2.ret (Sh.b false))))))) (leaf (Fe2.ret (Sh.b false))))) (need (in29 n (nxtT n (fnT (behT n (newT (rwAt (fnR o))) (rwAt (fnR c)) m)) b0 b1 b2 b3) a0 a1) (node (okT29 n (nxtT n (fnT (behT n (newT (rwAt (fnR o))) (rwAt (fnR c)) m)) b0 b1 b2 b3) a0 a1 a2 a3) (leaf (Fe2.ret (Sh.b false))) (leaf (Fe2.ret (Sh.b false))))))))))))))))) (need (stB n (fnT (behT n (newT (rwAt (fnR o))) (rwAt (fnR c)) m))) (need (stB n (nxtT n (fnT (behT n (newT (rwAt (fnR o))) (rwAt (fnR c)) m)) a0 a1 a2 a3)) (need (manyB n n) (node (A.lt (Int.ofNat 1) (A.ofN (difN n (fnT (behT n (newT (rwAt (fnR o))) (rwAt (fnR c)) m)) n (nxtT n (fnT (behT n (newT (rwAt (fnR o))) (rwAt (fnR c)) m)) a0 a1 a2 a3)))) (leaf (Fe2.ret (Sh.b false))) (node (A.eq (A.ofN (difN n (fnT (behT n (newT (rwAt (fnR o))) (rwAt (fnR c)) m)) n (nxtT n (fnT (behT n (newT (rwAt (fnR o))) (rwAt (fnR c)) m)) a0 a1 a2 a3))) (Int.ofNat 1)) (need (A.inB (Int.ofNat 0) (difN n (fnT (behT n (newT (rwAt (fnR o))) (rwAt (fnR c)) m)) n (nxtT n (fnT (behT n (newT (rwAt (fnR o))) (rwAt (fnR c)) m)) a0 a1 a2 a3))) (node (A.nt (A.eq (nth (diffL n (stF n (fnT (behT n (newT (rwAt (fnR o))) (rwAt (fnR c)) m))) n (stF n (nxtT n (fnT (behT n (newT (rwAt (fnR o))) (rwAt (fnR c)) m)) a0 a1 a2 a3))) 0) a0)) (leaf (Fe2.ret (Sh.b false))) (need (stB n (fnT (behT n (newT (rwAt (fnR o))) (rwAt (fnR c)) m))) (need (stB n (nxtT n (fnT (behT n (newT (rwAt (fnR o))) (rwAt (fnR c)) m)) a0 a1 a2 a3)) (need (manyB n n) (node (A.nt (A.beq (sameB n (fnT (behT n (newT (rwAt (fnR o))) (rwAt (fnR c)) m)) n (nxtT n (fnT (behT n (newT (rwAt (fnR o))) (rwAt (fnR c)) m)) a0 a1 a2 a3)) (A.eq (A.ofN (difN n (fnT (behT n (newT (rwAt (fnR o))) (rwAt (fnR c)) m)) n (nxtT n (fnT (behT n (newT (rwAt (fnR o))) (rwAt (fnR c)) m)) a0 a1 a2 a3))) (Int.ofNat 0)))) (leaf (Fe2.ret (Sh.b false))) (leaf (Fe2.ret (Sh.b true))))))))) (need (stB n (fnT (behT n (newT (rwAt (fnR o))) (rwAt (fnR c)) m))) (need (stB n (nxtT n (fnT (behT n (newT (rwAt (fnR o))) (rwAt (fnR c)) m)) a0 a1 a2 a3)) (need (manyB n n) (node (A.nt (A.beq (sameB n (fnT (behT n (newT (rwAt (fnR o))) (rwAt (fnR c)) m)) n (nxtT n (fnT (behT n (newT (rwAt (fnR o))) (rwAt (fnR c)) m)) a0 a1 a2 a3)) (A.eq (A.ofN (difN n (fnT (behT n (newT (rwAt (fnR o))) (rwAt (fnR c)) m)) n (nxtT n (fnT (behT n (newT (rwAt (fnR o))) (rwAt (fnR c)) m)) a0 a1 a2 a3))) (Int.ofNat 0)))) (leaf (Fe2.ret (Sh.b false))) (leaf (Fe2.ret (Sh.b true)))))))))))))) (need (in29 n (fnT (behT n (newT (rwAt (fnR o))) (rwAt (fnR c)) m)) b0 b1) (node (okT29 n (fnT (behT n (newT (rwAt (fnR o))) (rwAt (fnR c)) m)) b0 b1 b2 b3) (node (A.eq (A.ofN 0) (Int.ofNat 0)) (leaf (Fe2.ret (Sh.b true))) (leaf (Fe2.ret (Sh.b false)))) (node (A.eq (A.ofN 0) (Int.ofNat 0)) (leaf (Fe2.ret (Sh.b true))) (leaf (Fe2.ret (Sh.b false))))))))))) := by kernel_rfl
theorem n5 (A : Prim) (W : Wd) (n : Nat) (o : Nat → Oj) (m : Nat) (c : Nat → Cl) (a0 a1 a2 a3 b0 b1 b2 b3 : Int) : runTo (C7 A W spec6n sAl) nH0 300 400 5 [.code []] (start0 201 [.sl 2 n (fnR o), .sl 4 m (fnR c), .agg [.i .i64 a0, .i .i64 a1, .i .i64 a2, .i .i64 a3], .agg [.i .i64 b0, .i .i64 b1, .i .i64 b2, .i .i64 b3]] L0) [] [] = node (A.lt (Int.ofNat 100) (A.ofN n)) (leaf (Fe2.ret (Sh.b true))) (node (A.lt (Int.ofNat 200) (A.ofN m)) (leaf (Fe2.ret (Sh.b true))) (need (in24 n (fnR o) m (fnR c)) (need (noO n (rwAt (fnR o))) (leaf (Fe2.ret (Sh.b true)))))) := by kernel_rfl
end Go.Proofs
namespace Go.Proofs
open Go.Sx.Tree
open Go Go.Sx Go.Pl
theorem all_t5 (A : Prim) (W : Wd) (n : Nat) (o : Nat → Oj) (m : Nat) (c : Nat → Cl) (a0 a1 a2 a3 b0 b1 b2 b3 : Int) {ψ : Fe2 → Prop} {c0 c1 c2 c3 c4 c5 c6 c7 c8 c9 c10 c11 c12 c13 c14 c15 c16 : Bool} (e0 : A.lt (Int.ofNat 100) (A.ofN n) = c0) (e1 : A.lt (Int.ofNat 200) (A.ofN m) = c1) (e2 : okT29 n (fnT (behT n (newT (rwAt (fnR o))) (rwAt (fnR c)) m)) a0 a1 a2 a3 = c2) (e3 : okT29 n (fnT (behT n (newT (rwAt (fnR o))) (rwAt (fnR c)) m)) b0 b1 b2 b3 = c3) (e4 : A.lt (Int.ofNat 1) (A.ofN (difN n (fnT (behT n (newT (rwAt (fnR o))) (rwAt (fnR c)) m)) n (nxtT n (fnT (behT n (newT (rwAt (fnR o))) (rwAt (fnR c)) m)) a0 a1 a2 a3))) = c4) (e5 : A.eq (A.ofN (difN n (fnT (behT n (newT (rwAt (fnR o))) (rwAt (fnR c)) m)) n (nxtT n (fnT (behT n (newT (rwAt (fnR o))) (rwAt (fnR c)) m)) a0 a1 a2 a3))) (Int.ofNat 1) = c5) (e6 : A.nt (A.eq (nth (diffL n (stF n (fnT (behT n (newT (rwAt (fnR o))) (rwAt (fnR c)) m))) n (stF n (nxtT n (fnT (behT n (newT (rwAt (fnR o))) (rwAt (fnR c)) m)) a0 a1 a2 a3))) 0) a0) = c6) (e7 : A.nt (A.beq (sameB n (fnT (behT n (newT (rwAt (fnR o))) (rwAt (fnR c)) m)) n (nxtT n (fnT (behT n (newT (rwAt (fnR o))) (rwAt (fnR c)) m)) a0 a1 a2 a3)) (A.eq (A.ofN (difN n (fnT (behT n (newT (rwAt (fnR o))) (rwAt (fnR c)) m)) n (nxtT n (fnT (behT n (newT (rwAt (fnR o))) (rwAt (fnR c)) m)) a0 a1 a2 a3))) (Int.ofNat 0))) = c7) (e8 : A.eq a0 b0 = c8) (e9 : okT29 n (nxtT n (fnT (behT n (newT (rwAt (fnR o))) (rwAt (fnR c)) m)) a0 a1 a2 a3) b0 b1 b2 b3 = c9) (e10 : okT29 n (nxtT n (fnT (behT n (newT (rwAt (fnR o))) (rwAt (fnR c)) m)) b0 b1 b2 b3) a0 a1 a2 a3 = c10) (e11 : sameB n (nxtT n (nxtT n (fnT (behT n (newT (rwAt (fnR o))) (rwAt (fnR c)) m)) a0 a1 a2 a3) b0 b1 b2 b3) n (nxtT n (nxtT n (fnT (behT n (newT (rwAt (fnR o))) (rwAt (fnR c)) m)) b0 b1 b2 b3) a0 a1 a2 a3) = c11) (e12 : A.seq (keyN n (stF n (nxtT n (nxtT n (fnT (behT n (newT (rwAt (fnR o))) (rwAt (fnR c)) m)) a0 a1 a2 a3) b0 b1 b2 b3))) (keyN n (stF n (nxtT n (nxtT n (fnT (behT n (newT (rwAt (fnR o))) (rwAt (fnR c)) m)) b0 b1 b2 b3) a0 a1 a2 a3))) = c12) (e13 : A.eq (retT n (fnT (behT n (newT (rwAt (fnR o))) (rwAt (fnR c)) m)) a0 a1 a2 a3) (retT n (nxtT n (fnT (behT n (newT (rwAt (fnR o))) (rwAt (fnR c)) m)) b0 b1 b2 b3) a0 a1 a2 a3) = c13) (e14 : A.eq (gotT n (fnT (behT n (newT (rwAt (fnR o))) (rwAt (fnR c)) m)) a0 a1 a2 a3) (gotT n (nxtT n (fnT (behT n (newT (rwAt (fnR o))) (rwAt (fnR c)) m)) b0 b1 b2 b3) a0 a1 a2 a3) = c14) (e15 : A.eq (retT n (fnT (behT n (newT (rwAt (fnR o))) (rwAt (fnR c)) m)) b0 b1 b2 b3) (retT n (nxtT n (fnT (behT n (newT (rwAt (fnR o))) (rwAt (fnR c)) m)) a0 a1 a2 a3) b0 b1 b2 b3) = c15) (e16 : A.eq (A.ofN 0) (Int.ofNat 0) = c16) (h1 : c0 = false → c1 = false → (in24 n (fnR o) m (fnR c)) = true) (h2 : c0 = false → c1 = false → (goodO n (rwAt (fnR o))) = true) (h3 : c0 = false → c1 = false → (in29 n (fnT (behT n (newT (rwAt (fnR o))) (rwAt (fnR c)) m)) a0 a1) = true) (h4 : c0 = false → c1 = false → c2 = true → (in29 n (fnT (behT n (newT (rwAt (fnR o))) (rwAt (fnR c)) m)) b0 b1) = true) (h5 : c0 = false → c1 = false → c2 = true → c3 = true → (stB n (fnT (behT n (newT (rwAt (fnR o))) (rwAt (fnR c)) m))) = true) (h6 : c0 = false → c1 = false → c2 = true → c3 = true → (stB n (nxtT n (fnT (behT n (newT (rwAt (fnR o))) (rwAt (fnR c)) m)) a0 a1 a2 a3)) = true) (h7 : c0 = false → c1 = false → c2 = true → c3 = true → (manyB n n) = true) (h8 : c0 = false → c1 = false → c2 = true → c3 = true → c4 = false → c5 = true → (A.inB (Int.ofNat 0) (difN n (fnT (behT n (newT (rwAt (fnR o))) (rwAt (fnR c)) m)) n (nxtT n (fnT (behT n (newT (rwAt (fnR o))) (rwAt (fnR c)) m)) a0 a1 a2 a3))) = true) (h9 : c0 = false → c1 = false → c2 = true → c3 = true → c4 = false → c5 = true → c6 = false → c7 = false → c8 = false → (in29 n (nxtT n (fnT (behT n (newT (rwAt (fnR o))) (rwAt (fnR c)) m)) a0 a1 a2 a3) b0 b1) = true) (h10 : c0 = false → c1 = false → c2 = true → c3 = true → c4 = false → c5 = true → c6 = false → c7 = false → c8 = false → c9 = true → (in29 n (nxtT n (fnT (behT n (newT (rwAt (fnR o))) (rwAt (fnR c)) m)) b0 b1 b2 b3) a0 a1) = true) (h11 : c0 = false → c1 = false → c2 = true → c3 = true → c4 = false → c5 = true → c6 = false → c7 = false → c8 = false → c9 = true → c10 = true → (stB n (nxtT n (nxtT n (fnT (behT n (newT (rwAt (fnR o))) (rwAt (fnR c)) m)) a0 a1 a2 a3) b0 b1 b2 b3)) = true) (h12 : c0 = false → c1 = false → c2 = true → c3 = true → c4 = false → c5 = true → c6 = false → c7 = false → c8 = false → c9 = true → c10 = true → (stB n (nxtT n (nxtT n (fnT (behT n (newT (rwAt (fnR o))) (rwAt (fnR c)) m)) b0 b1 b2 b3) a0 a1 a2 a3)) = true) (h13 : c0 = false → c1 = false → c2 = true → c3 = true → c4 = false → c5 = true → c6 = false → c7 = false → c8 = false → c9 = true → c10 = true → c11 = true → (keysB n (stF n (nxtT n (nxtT n (fnT (behT n (newT (rwAt (fnR o))) (rwAt (fnR c)) m)) a0 a1 a2 a3) b0 b1 b2 b3))) = true) (h14 : c0 = false → c1 = false → c2 = true → c3 = true → c4 = false → c5 = true → c6 = false → c7 = false → c8 = false → c9 = true → c10 = true → c11 = true → (keysB n (stF n (nxtT n (nxtT n (fnT (behT n (newT (rwAt (fnR o))) (rwAt (fnR c)) m)) b0 b1 b2 b3) a0 a1 a2 a3))) = true) (h15 : c0 = false → c1 = false → c2 = true → c3 = true → c4 = false → c5 = true → c6 = false → c7 = false → c8 = false → c9 = false → (in29 n (nxtT n (fnT (behT n (newT (rwAt (fnR o))) (rwAt (fnR c)) m)) b0 b1 b2 b3) a0 a1) = true) (h16 : c0 = false → c1 = false → c2 = true → c3 = true → c4 = false → c5 = false → c7 = false → c8 = false → (in29 n (nxtT n (fnT (behT n (newT (rwAt (fnR o))) (rwAt (fnR c)) m)) a0 a1 a2 a3) b0 b1) = true) (h17 : c0 = false → c1 = false → c2 = true → c3 = true → c4 = false → c5 = false → c7 = false → c8 = false → c9 = true → (in29 n (nxtT n (fnT (behT n (newT (rwAt (fnR o))) (rwAt (fnR c)) m)) b0 b1 b2 b3) a0 a1) = true) (h18 : c0 = false → c1 = false → c2 = true → c3 = true → c4 = false → c5 = false → c7 = false → c8 = false → c9 = true → c10 = true → (stB n (nxtT n (nxtT n (fnT (behT n (newT (rwAt (fnR o))) (rwAt (fnR c)) m)) a0 a1 a2 a3) b0 b1 b2 b3)) = true) (h19 : c0 = false → c1 = false → c2 = true → c3 = true → c4 = false → c5 = false → c7 = false → c8 = false → c9 = true → c10 = true → (stB n (nxtT n (nxtT n (fnT (behT n (newT (rwAt (fnR o))) (rwAt (fnR c)) m)) b0 b1 b2 b3) a0 a1 a2 a3)) = true) (h20 : c0 = false → c1 = false → c2 = true → c3 = true → c4 = false → c5 = false → c7 = false → c8 = false → c9 = true → c10 = true → c11 = true → (keysB n (stF n (nxtT n (nxtT n (fnT (behT n (newT (rwAt (fnR o))) (rwAt (fnR c)) m)) a0 a1 a2 a3) b0 b1 b2 b3))) = true) (h21 : c0 = false → c1 = false → c2 = true → c3 = true → c4 = false → c5 = false → c7 = false → c8 = false → c9 = true → c10 = true → c11 = true → (keysB n (stF n (nxtT n (nxtT n (fnT (behT n (newT (rwAt (fnR o))) (rwAt (fnR c)) m)) b0 b1 b2 b3) a0 a1 a2 a3))) = true) (h22 : c0 = false → c1 = false → c2 = true → c3 = true → c4 = false → c5 = false → c7 = false → c8 = false → c9 = false → (in29 n (nxtT n (fnT (behT n (newT (rwAt (fnR o))) (rwAt (fnR c)) m)) b0 b1 b2 b3) a0 a1) = true) (h23 : c0 = false → c1 = false → c2 = true → c3 = false → (stB n (fnT (behT n (newT (rwAt (fnR o))) (rwAt (fnR c)) m))) = true) (h24 : c0 = false → c1 = false → c2 = true → c3 = false → (stB n (nxtT n (fnT (behT n (newT (rwAt (fnR o))) (rwAt (fnR c)) m)) a0 a1 a2 a3)) = true) (h25 : c0 = false → c1 = false → c2 = true → c3 = false → (manyB n n) = true) (h26 : c0 = false → c1 = false → c2 = true → c3 = false → c4 = false → c5 = true → (A.inB (Int.ofNat 0) (difN n (fnT (behT n (newT (rwAt (fnR o))) (rwAt (fnR c)) m)) n (nxtT n (fnT (behT n (newT (rwAt (fnR o))) (rwAt (fnR c)) m)) a0 a1 a2 a3))) = true) (h27 : c0 = false → c1 = false → c2 = false → (in29 n (fnT (behT n (newT (rwAt (fnR o))) (rwAt (fnR c)) m)) b0 b1) = true) (y1 : c0 = true → ψ (Fe2.ret (Sh.b true))) (y2 : c0 = false → c1 = true → ψ (Fe2.ret (Sh.b true))) (y3 : c0 = false → c1 = false → c2 = true → c3 = true → c4 = true → ψ (Fe2.ret (Sh.b false))) (y4 : c0 = false → c1 = false → c2 = true → c3 = true → c4 = false → c5 = true → c6 = true → ψ (Fe2.ret (Sh.b false))) (y5 : c0 = false → c1 = false → c2 = true → c3 = true → c4 = false → c5 = true → c6 = false → c7 = true → ψ (Fe2.ret (Sh.b false))) (y6 : c0 = false → c1 = false → c2 = true → c3 = true → c4 = false → c5 = true → c6 = false → c7 = false → c8 = true → ψ (Fe2.ret (Sh.b true))) (y7 : c0 = false → c1 = false → c2 = true → c3 = true → c4 = false → c5 = true → c6 = false → c7 = false → c8 = false → c9 = true → c10 = true → c11 = true → c12 = true → c13 = true → c14 = true → c15 = true → ψ (Fe2.ret (Sh.b (A.eq (gotT n (fnT (behT n (newT (rwAt (fnR o))) (rwAt (fnR c)) m)) b0 b1 b2 b3) (gotT n (nxtT n (fnT (behT n (newT (rwAt (fnR o))) (rwAt (fnR c)) m)) a0 a1 a2 a3) b0 b1 b2 b3))))) (y8 : c0 = false → c1 = false → c2 = true → c3 = true → c4 = false → c5 = true → c6 = false → c7 = false → c8 = false → c9 = true → c10 = true → c11 = true → c12 = true → c13 = true → c14 = true → c15 = false → ψ (Fe2.ret (Sh.b false))) (y9 : c0 = false → c1 = false → c2 = true → c3 = true → c4 = false → c5 = true → c6 = false → c7 = false → c8 = false → c9 = true → c10 = true → c11 = true → c12 = true → c13 = true → c14 = false → ψ (Fe2.ret (Sh.b false))) (y10 : c0 = false → c1 = false → c2 = true → c3 = true → c4 = false → c5 = true → c6 = false → c7 = false → c8 = false → c9 = true → c10 = true → c11 = true → c12 = true → c13 = false → ψ (Fe2.ret (Sh.b false))) (y11 : c0 = false → c1 = false → c2 = true → c3 = true → c4 = false → c5 = true → c6 = false → c7 = false → c8 = false → c9 = true → c10 = true → c11 = true → c12 = false → ψ (Fe2.ret (Sh.b false))) (y12 : c0 = false → c1 = false → c2 = true → c3 = true → c4 = false → c5 = true → c6 = false → c7 = false → c8 = false → c9 = true → c10 = true → c11 = false → ψ (Fe2.ret (Sh.b false))) (y13 : c0 = false → c1 = false → c2 = true → c3 = true → c4 = false → c5 = true → c6 = false → c7 = false → c8 = false → c9 = true → c10 = false → ψ (Fe2.ret (Sh.b false))) (y14 : c0 = false → c1 = false → c2 = true → c3 = true → c4 = false → c5 = true → c6 = false → c7 = false → c8 = false → c9 = false → c10 = true → ψ (Fe2.ret (Sh.b false))) (y15 : c0 = false → c1 = false → c2 = true → c3 = true → c4 = false → c5 = true → c6 = false → c7 = false → c8 = false → c9 = false → c10 = false → ψ (Fe2.ret (Sh.b false))) (y16 : c0 = false → c1 = false → c2 = true → c3 = true → c4 = false → c5 = false → c7 = true → ψ (Fe2.ret (Sh.b false))) (y17 : c0 = false → c1 = false → c2 = true → c3 = true → c4 = false → c5 = false → c7 = false → c8 = true → ψ (Fe2.ret (Sh.b true))) (y18 : c0 = false → c1 = false → c2 = true → c3 = true → c4 = false → c5 = false → c7 = false → c8 = false → c9 = true → c10 = true → c11 = true → c12 = true → c13 = true → c14 = true → c15 = true → ψ (Fe2.ret (Sh.b (A.eq (gotT n (fnT (behT n (newT (rwAt (fnR o))) (rwAt (fnR c)) m)) b0 b1 b2 b3) (gotT n (nxtT n (fnT (behT n (newT (rwAt (fnR o))) (rwAt (fnR c)) m)) a0 a1 a2 a3) b0 b1 b2 b3))))) (y19 : c0 = false → c1 = false → c2 = true → c3 = true → c4 = false → c5 = false → c7 = false → c8 = false → c9 = true → c10 = true → c11 = true → c12 = true → c13 = true → c14 = true → c15 = false → ψ (Fe2.ret (Sh.b false))) (y20 : c0 = false → c1 = false → c2 = true → c3 = true → c4 = false → c5 = false → c7 = false → c8 = false → c9 = true → c10 = true → c11 = true → c12 = true → c13 = true → c14 = false → ψ (Fe2.ret (Sh.b false))) (y21 : c0 = false → c1 = false → c2 = true → c3 = true → c4 = false → c5 = false → c7 = false → c8 = false → c9 = true → c10 = true → c11 = true → c12 = true → c13 = false → ψ (Fe2.ret (Sh.b false))) (y22 : c0 = false → c1 = false → c2 = true → c3 = true → c4 = false → c5 = false → c7 = false → c8 = false → c9 = true → c10 = true → c11 = true → c12 = false → ψ (Fe2.ret (Sh.b false))) (y23 : c0 = false → c1 = false → c2 = true → c3 = true → c4 = false → c5 = false → c7 = false → c8 = false → c9 = true → c10 = true → c11 = false → ψ (Fe2.ret (Sh.b false))) (y24 : c0 = false → c1 = false → c2 = true → c3 = true → c4 = false → c5 = false → c7 = false → c8 = false → c9 = true → c10 = false → ψ (Fe2.ret (Sh.b false))) (y25 : c0 = false → c1 = false → c2 = true → c3 = true → c4 = false → c5 = false → c7 = false → c8 = false → c9 = false → c10 = true → ψ (Fe2.ret (Sh.b false))) (y26 : c0 = false → c1 = false → c2 = true → c3 = true → c4 = false → c5 = false → c7 = false → c8 = false → c9 = false → c10 = false → ψ (Fe2.ret (Sh.b false))) (y27 : c0 = false → c1 = false → c2 = true → c3 = false → c4 = true → ψ (Fe2.ret (Sh.b false))) (y28 : c0 = false → c1 = false → c2 = true → c3 = false → c4 = false → c5 = true → c6 = true → ψ (Fe2.ret (Sh.b false))) (y29 : c0 = false → c1 = false → c2 = true → c3 = false → c4 = false → c5 = true → c6 = false → c7 = true → ψ (Fe2.ret (Sh.b false))) (y30 : c0 = false → c1 = false → c2 = true → c3 = false → c4 = false → c5 = true → c6 = false → c7 = false → ψ (Fe2.ret (Sh.b true))) (y31 : c0 = false → c1 = false → c2 = true → c3 = false → c4 = false → c5 = false → c7 = true → ψ (Fe2.ret (Sh.b false))) (y32 : c0 = false → c1 = false → c2 = true → c3 = false → c4 = false → c5 = false → c7 = false → ψ (Fe2.ret (Sh.b true))) (y33 : c0 = false → c1 = false → c2 = false → c3 = true → c16 = true → ψ (Fe2.ret (Sh.b true))) (y34 : c0 = false → c1 = false → c2 = false → c3 = true → c16 = false → ψ (Fe2.ret (Sh.b false))) (y35 : c0 = false → c1 = false → c2 = false → c3 = false → c16 = true → ψ (Fe2.ret (Sh.b true))) (y36 : c0 = false → c1 = false → c2 = false → c3 = false → c16 = false → ψ (Fe2.ret (Sh.b false))) : MeetsT ψ (runTo (C7 A W spec5 sAl) nH0 300 400 5 [.code []] (start0 201 [.sl 2 n (fnR o), .sl 4 m (fnR c), .agg [.i .i64 a0, .i .i64 a1, .i .i64 a2, .i .i64 a3], .agg [.i .i64 b0, .i .i64 b1, .i .i64 b2, .i .i64 b3]] L0) [] []) := by
 subst e0 e1 e2 e3 e4 e5 e6 e7 e8 e9 e10 e11 e12 e13 e14 e15 e16
 rw [t5 A W n o m c a0 a1 a2 a3 b0 b1 b2 b3, meetsT_eq]
 exact ⟨fun q0 => (y1 q0), fun q0 => ⟨fun q1 => (y2 q0 q1), fun q1 => ⟨(h1 q0 q1), ⟨(h2 q0 q1), ⟨(h3 q0 q1), ⟨fun q2 => ⟨(h4 q0 q1 q2), ⟨fun q3 => ⟨(h5 q0 q1 q2 q3), ⟨(h6 q0 q1 q2 q3), ⟨(h7 q0 q1 q2 q3), ⟨fun q4 => (y3 q0 q1 q2 q3 q4), fun q4 => ⟨fun q5 => ⟨(h8 q0 q1 q2 q3 q4 q5), ⟨fun q6 => (y4 q0 q1 q2 q3 q4 q5 q6), fun q6 => ⟨(h5 q0 q1 q2 q3), ⟨(h6 q0 q1 q2 q3), ⟨(h7 q0 q1 q2 q3), ⟨fun q7 => (y5 q0 q1 q2 q3 q4 q5 q6 q7), fun q7 => ⟨fun q8 => (y6 q0 q1 q2 q3 q4 q5 q6 q7 q8), fun q8 => ⟨(h9 q0 q1 q2 q3 q4 q5 q6 q7 q8), ⟨fun q9 => ⟨(h10 q0 q1 q2 q3 q4 q5 q6 q7 q8 q9), ⟨fun q10 => ⟨(h11 q0 q1 q2 q3 q4 q5 q6 q7 q8 q9 q10), ⟨(h12 q0 q1 q2 q3 q4 q5 q6 q7 q8 q9 q10), ⟨(h7 q0 q1 q2 q3), ⟨fun q11 => ⟨(h11 q0 q1 q2 q3 q4 q5 q6 q7 q8 q9 q10), ⟨(h13 q0 q1 q2 q3 q4 q5 q6 q7 q8 q9 q10 q11), ⟨(h12 q0 q1 q2 q3 q4 q5 q6 q7 q8 q9 q10), ⟨(h14 q0 q1 q2 q3 q4 q5 q6 q7 q8 q9 q10 q11), ⟨fun q12 => ⟨fun q13 => ⟨fun q14 => ⟨fun q15 => (y7 q0 q1 q2 q3 q4 q5 q6 q7 q8 q9 q10 q11 q12 q13 q14 q15), fun q15 => (y8 q0 q1 q2 q3 q4 q5 q6 q7 q8 q9 q10 q11 q12 q13 q14 q15)⟩, fun q14 => (y9 q0 q1 q2 q3 q4 q5 q6 q7 q8 q9 q10 q11 q12 q13 q14)⟩, fun q13 => (y10 q0 q1 q2 q3 q4 q5 q6 q7 q8 q9 q10 q11 q12 q13)⟩, fun q12 => (y11 q0 q1 q2 q3 q4 q5 q6 q7 q8 q9 q10 q11 q12)⟩⟩⟩⟩⟩, fun q11 => (y12 q0 q1 q2 q3 q4 q5 q6 q7 q8 q9 q10 q11)⟩⟩⟩⟩, fun q10 => (y13 q0 q1 q2 q3 q4 q5 q6 q7 q8 q9 q10)⟩⟩, fun q9 => ⟨(h15 q0 q1 q2 q3 q4 q5 q6 q7 q8 q9), ⟨fun q10 => (y14 q0 q1 q2 q3 q4 q5 q6 q7 q8 q9 q10), fun q10 => (y15 q0 q1 q2 q3 q4 q5 q6 q7 q8 q9 q10)⟩⟩⟩⟩⟩⟩⟩⟩⟩⟩⟩, fun q5 => ⟨(h5 q0 q1 q2 q3), ⟨(h6 q0 q1 q2 q3), ⟨(h7 q0 q1 q2 q3), ⟨fun q6 => (y16 q0 q1 q2 q3 q4 q5 q6), fun q6 => ⟨fun q7 => (y17 q0 q1 q2 q3 q4 q5 q6 q7), fun q7 => ⟨(h16 q0 q1 q2 q3 q4 q5 q6 q7), ⟨fun q8 => ⟨(h17 q0 q1 q2 q3 q4 q5 q6 q7 q8), ⟨fun q9 => ⟨(h18 q0 q1 q2 q3 q4 q5 q6 q7 q8 q9), ⟨(h19 q0 q1 q2 q3 q4 q5 q6 q7 q8 q9), ⟨(h7 q0 q1 q2 q3), ⟨fun q10 => ⟨(h18 q0 q1 q2 q3 q4 q5 q6 q7 q8 q9), ⟨(h20 q0 q1 q2 q3 q4 q5 q6 q7 q8 q9 q10), ⟨(h19 q0 q1 q2 q3 q4 q5 q6 q7 q8 q9), ⟨(h21 q0 q1 q2 q3 q4 q5 q6 q7 q8 q9 q10), ⟨fun q11 => ⟨fun q12 => ⟨fun q13 => ⟨fun q14 => (y18 q0 q1 q2 q3 q4 q5 q6 q7 q8 q9 q10 q11 q12 q13 q14), fun q14 => (y19 q0 q1 q2 q3 q4 q5 q6 q7 q8 q9 q10 q11 q12 q13 q14)⟩, fun q13 => (y20 q0 q1 q2 q3 q4 q5 q6 q7 q8 q9 q10 q11 q12 q13)⟩, fun q12 => (y21 q0 q1 q2 q3 q4 q5 q6 q7 q8 q9 q10 q11 q12)⟩, fun q11 => (y22 q0 q1 q2 q3 q4 q5 q6 q7 q8 q9 q10 q11)⟩⟩⟩⟩⟩, fun q10 => (y23 q0 q1 q2 q3 q4 q5 q6 q7 q8 q9 q10)⟩⟩⟩⟩, fun q9 => (y24 q0 q1 q2 q3 q4 q5 q6 q7 q8 q9)⟩⟩, fun q8 => ⟨(h22 q0 q1 q2 q3 q4 q5 q6 q7 q8), ⟨fun q9 => (y25 q0 q1 q2 q3 q4 q5 q6 q7 q8 q9), fun q9 => (y26 q0 q1 q2 q3 q4 q5 q6 q7 q8 q9)⟩⟩⟩⟩⟩⟩⟩⟩⟩⟩⟩⟩⟩⟩, fun q3 => ⟨(h23 q0 q1 q2 q3), ⟨(h24 q0 q1 q2 q3), ⟨(h25 q0 q1 q2 q3), ⟨fun q4 => (y27 q0 q1 q2 q3 q4), fun q4 => ⟨fun q5 => ⟨(h26 q0 q1 q2 q3 q4 q5), ⟨fun q6 => (y28 q0 q1 q2 q3 q4 q5 q6), fun q6 => ⟨(h23 q0 q1 q2 q3), ⟨(h24 q0 q1 q2 q3), ⟨(h25 q0 q1 q2 q3), ⟨fun q7 => (y29 q0 q1 q2 q3 q4 q5 q6 q7), fun q7 => (y30 q0 q1 q2 q3 q4 q5 q6 q7)⟩⟩⟩⟩⟩⟩, fun q5 => ⟨(h23 q0 q1 q2 q3), ⟨(h24 q0 q1 q2 q3), ⟨(h25 q0 q1 q2 q3), ⟨fun q6 => (y31 q0 q1 q2 q3 q4 q5 q6), fun q6 => (y32 q0 q1 q2 q3 q4 q5 q6)⟩⟩⟩⟩⟩⟩⟩⟩⟩⟩⟩, fun q2 => ⟨(h27 q0 q1 q2), ⟨fun q3 => ⟨fun q4 => (y33 q0 q1 q2 q3 q4), fun q4 => (y34 q0 q1 q2 q3 q4)⟩, fun q3 => ⟨fun q4 => (y35 q0 q1 q2 q3 q4), fun q4 => (y36 q0 q1 q2 q3 q4)⟩⟩⟩⟩⟩⟩⟩⟩⟩
theorem all_n5 (A : Prim) (W : Wd) (n : Nat) (o : Nat → Oj) (m : Nat) (c : Nat → Cl) (a0 a1 a2 a3 b0 b1 b2 b3 : Int) {ψ : Fe2 → Prop} {c0 c1 : Bool} (e0 : A.lt (Int.ofNat 100) (A.ofN n) = c0) (e1 : A.lt (Int.ofNat 200) (A.ofN m) = c1) (h1 : c0 = false → c1 = false → (in24 n (fnR o) m (fnR c)) = true) (h2 : c0 = false → c1 = false → (noO n (rwAt (fnR o))) = true) (y1 : c0 = true → ψ (Fe2.ret (Sh.b true))) (y2 : c0 = false → c1 = true → ψ (Fe2.ret (Sh.b true))) (y3 : c0 = false → c1 = false → ψ (Fe2.ret (Sh.b true))) : MeetsT ψ (runTo (C7 A W spec6n sAl) nH0 300 400 5 [.code []] (start0 201 [.sl 2 n (fnR o), .sl 4 m (fnR c), .agg [.i .i64 a0, .i .i64 a1, .i .i64 a2, .i .i64 a3], .agg [.i .i64 b0, .i .i64 b1, .i .i64 b2, .i .i64 b3]] L0) [] []) := by
 subst e0 e1
 rw [n5 A W n o m c a0 a1 a2 a3 b0 b1 b2 b3, meetsT_eq]
 exact ⟨fun q0 => (y1 q0), fun q0 => ⟨fun q1 => (y2 q0 q1), fun q1 => ⟨(h1 q0 q1), ⟨(h2 q0 q1), (y3 q0 q1)⟩⟩⟩⟩
end Go.Proofs
namespace Go.Pl
open Go Go.Sx Go.Proofs
section
variable {n m : Nat} {d e : Nat → Sta} {i op k v i' op' k' v' : Int}
theorem upd_ne {j : Nat} (h : ¬ (inI n i = true ∧ j = i.toNat)) : updT n d i op k v j = d j := by
 unfold updT
 rw [if_neg h]
theorem inI_ne (hne : i ≠ i') (h : inI n i = true) (h' : inI n i' = true) : i'.toNat ≠ i.toNat := by
 have h : 0 ≤ i ∧ i < n := of_decide_eq_true h
 have h' : 0 ≤ i' ∧ i' < n := of_decide_eq_true h'
 omega
theorem upd_at (hne : i ≠ i') (h' : inI n i' = true) : updT n d i op k v i'.toNat = d i'.toNat :=
 upd_ne fun h => inI_ne hne h.1 h' h.2
theorem okN_upd (hne : i ≠ i') : okN n (updT n d i op k v) i' op' k' v' = okN n d i' op' k' v' := by
 unfold okN
 cases h : inI n i' with
 | false => rfl
 | true => rw [upd_at hne h]
theorem upd_comm (hne : i ≠ i') : updT n (updT n d i op k v) i' op' k' v' = updT n (updT n d i' op' k' v') i op k v := by
 funext j
 by_cases h : inI n i = true ∧ j = i.toNat
 ·by_cases h' : inI n i' = true ∧ j = i'.toNat
  ·exact absurd (h'.2.symm.trans h.2) (inI_ne hne h.1 h'.1)
  ·rw [upd_ne h']
   unfold updT
   rw [if_pos h, if_pos h]
   congr 2
   split
   ·rename_i q
    exact absurd q.2.symm (inI_ne hne h.1 q.1)
   ·rfl
 ·rw [upd_ne (d := updT n d i' op' k' v') h]
  unfold updT
  by_cases h' : inI n i' = true ∧ j = i'.toNat
  ·rw [if_pos h', if_pos h']
   congr 2
   split
   ·rename_i q
    exact absurd q.2 (inI_ne hne q.1 h'.1)
   ·rfl
  ·rw [if_neg h', if_neg h', if_neg h]
theorem upd_inv (hd : ∀ j, j < n → InvS m (d j)) (h : okN n d i op k v = true) : ∀ j, j < n → InvS (m + 1) (updT n d i op k v j) := (nxtU_eq hd h).2
theorem diff_nodup : (diffL n d m e).Nodup := by
 unfold diffL diffN
 exact List.Pairwise.map _ (fun a b h => by simp; exact_mod_cast h) (List.Pairwise.filter _ List.nodup_range)
theorem diff_upd : ∀ x ∈ diffL n (stF n (fnT d)) n (stF n (fnT (updT n d i op k v))), x = i := fun x hx => by
 obtain ⟨j, hj, rfl, q⟩ := diff_mem.1 hx
 refine Classical.byContradiction fun hne => q (upd_ne fun h => ?_).symm
 have h1 : 0 ≤ i ∧ i < n := of_decide_eq_true h.1
 omega
theorem len_le1 {α : Type} {l : List α} {x : α} (hn : l.Nodup) (h : ∀ y ∈ l, y = x) : l.length ≤ 1 := by
 match l with
 | [] => simp
 | [_] => simp
 | a :: b :: l =>
  have e1 := h a (by simp)
  have e2 := h b (by simp)
  subst e1
  rw [e2] at hn
  simp at hn
theorem difN_upd : difN n (fnT d) n (fnT (updT n d i op k v)) ≤ 1 := len_le1 diff_nodup diff_upd
theorem difR_upd (h : difN n (fnT d) n (fnT (updT n d i op k v)) = 1) : rwAt (α := Int) (difR n (fnT d) n (fnT (updT n d i op k v))) 0 = i := by
 unfold difR
 rw [rwAt_fnR]
 unfold difN at h
 match q : diffL n (stF n (fnT d)) n (stF n (fnT (updT n d i op k v))), h with
 | [a], _ => exact diff_upd a (by rw [q]; simp)
theorem retT_upd (hne : i ≠ i') (h : inI n i' = true) : retT n (fnT (updT n d i op k v)) i' op' k' v' = retT n (fnT d) i' op' k' v' ∧ gotT n (fnT (updT n d i op k v)) i' op' k' v' = gotT n (fnT d) i' op' k' v' := by
 have h1 : 0 ≤ i' ∧ i' < n := of_decide_eq_true h
 unfold retT gotT
 rw [stF_fnT _ (by omega), stF_fnT _ (by omega), upd_at hne h]
 exact ⟨rfl, rfl⟩
end
theorem no2 {b : Bool} {P : Prop} (h : b = false) (h2 : b = true) : P := by rw [h] at h2; cases h2
end Go.Pl
namespace Go.Proofs
open Go Go.Sx Go.Pl
noncomputable def F6 : List Sh → Tree Sh
 | [s0, s1, s2] => match slN 2 s0, slN 4 s1, slN 4 s2 with
  | some (n, g), some (ma, ha), some (mb, hb) => .need (okB Oj n g) (.need (kindsB n (rwAt g)) (.need (okB Cl ma ha) (.need (okB Cl mb hb) (.leaf (.b true)))))
  | _, _, _ => .fail
 | _ => .fail
theorem lt_f {a b : Nat} (h : prim.lt (Int.ofNat a) (prim.ofN b) = false) : b ≤ a := by
 simp [prim_lt, prim_ofN] at h; omega
theorem in24_mk {n m : Nat} {o : Nat → Oj} {c : Nat → Cl} (h1 : kindsB n o = true) (h2 : m ≤ 200) : in24 n (fnR o) m (fnR c) = true := by
 unfold in24 fewB
 rw [rwAt_fnR]
 simp only [Bool.and_eq_true, decide_eq_true_eq]
 exact ⟨⟨⟨okB_put _ _, h1⟩, okB_put _ _⟩, by omega⟩
theorem many_mk {n m : Nat} (h : n ≤ 100000) (h2 : m ≤ 100000) : manyB n m = true := decide_eq_true ⟨h, h2⟩
theorem O6 : FnOK Tryz.prog (gls7 W7) 6 F6 := by
 refine fnOK_S (C := C7 prim W7 spec6n sAl) (C7.ok _ _) (fn := Tryz.f6) (by kernel_rfl) (by kernel_rfl) fun H w shs args φ hrep h => ?_
 have hn : Tryz.f6.ntmps = 82 := by kernel_rfl
 unfold F6 at h
 split at h
 ·split at h
  ·rename_i n g ma ha mb hb e1 e2 e3
   obtain ⟨h1, h2, h3, h4, hφ⟩ := h
   match args, hrep with
   | [v1, v2, v3], ⟨r1, r2, r3, _⟩ =>
    refine ⟨[.sl 2 n (fnR (rwAt (α := Oj) g)), .sl 4 ma (fnR (rwAt (α := Cl) ha)), .sl 4 mb (fnR (rwAt (α := Cl) hb))], ⟨rep_rows (rep_slN e1 r1) h1, rep_rows (rep_slN e2 r2) h3, rep_rows (rep_slN e3 r3) h4, trivial⟩, L0, ?_⟩
    have hφ : φ (.b true) := hφ
    generalize rwAt (α := Oj) g = o at *
    generalize rwAt (α := Cl) ha = ca at *
    generalize rwAt (α := Cl) hb = cb at *
    have inA (q : prim.lt (Int.ofNat 200) (prim.ofN ma) = false) := in24_mk (n := n) (o := o) (c := ca) h2 (lt_f q)
    have inB (q : prim.lt (Int.ofNat 200) (prim.ofN mb) = false) := in24_mk (n := n) (o := o) (c := cb) h2 (lt_f q)
    cases hg : goodO n o with
    | false =>
     refine gSt (C7.ok _ _) (fok6n _) (hold := nH0) (m := 300) (n := 400) (ts := []) ?_
     rw [hn]
     exact all_n6 prim W7 n o ma mb ca cb rfl rfl rfl (fun _ q _ => inA q) (fun _ _ _ => by rw [rwAt_fnR]; unfold noO; rw [hg]; rfl) (fun _ _ q => inB q) (fun _ => hφ) (fun _ _ => hφ) (fun _ _ _ => hφ) (fun _ _ _ => hφ)
    | true =>
     obtain ⟨h8, h0⟩ := new_all hg
     have dA := behT_inv (c := ca) h0 ma
     have dB := behT_inv (c := cb) h0 mb
     have hk : ∀ j, j < n → (behT n (newT o) ca ma j).kind = (behT n (newT o) cb mb j).kind := fun j _ => by rw [behT_kind, behT_kind]
     have kA (q : prim.lt (Int.ofNat 200) (prim.ofN ma) = false) := (end24 h8 (Nat.le_trans (lt_f q) (by omega)) dA).1
     have kB (q : prim.lt (Int.ofNat 200) (prim.ofN mb) = false) := (end24 h8 (Nat.le_trans (lt_f q) (by omega)) dB).1
     have key := keyN_iff dA dB hk
     have hm : manyB n n = true := many_mk (by omega) (by omega)
     have hdif := dif_iff (n := n) (d := behT n (newT o) ca ma) (e := behT n (newT o) cb mb)
     cases hs : sameB n (fnT (behT n (newT o) ca ma)) n (fnT (behT n (newT o) cb mb)) with
     | true =>
      have hs2 : sameB n (fnT (behT n (newT o) cb mb)) n (fnT (behT n (newT o) ca ma)) = true := by rw [same_symm]; exact hs
      refine goesS_spec (s := spec6 true) (stop := sAl) ?_
      refine gSt (C7.ok _ _) (fok6 true _) (hold := nH0) (m := 300) (n := 400) (ts := []) ?_
      rw [hn]
      have all := same_iff.1 hs
      refine all_t6 prim W7 n o ma mb ca cb rfl rfl rfl rfl (fun _ q _ => inA q) (fun _ _ _ => by rw [rwAt_fnR]; exact hg) (fun _ _ q => inB q) ?_ ?_ ?_ ?_ ?_ ?_ ?_ (fun _ => hφ) (fun _ _ => hφ) (fun _ _ _ => hφ) ?_ ?_
      all_goals ((try simp only [rwAt_fnR]); intro q0 q1 q2)
      ·exact stB_fnT _ _
      ·exact stB_fnT _ _
      ·exact hm
      ·unfold isSame; rw [hs]; rfl
      ·exact kA q1
      ·exact kB q2
      ·intro _; unfold isSame; rw [hs2]; rfl
      ·intro _
       have : difN n (fnT (behT n (newT o) ca ma)) n (fnT (behT n (newT o) cb mb)) = 0 := hdif.2 all
       rw [this]
       exact hφ
      ·intro q
       rw [key.2 all] at q
       simp [prim_beq, prim_seq] at q
     | false =>
      have hs2 : sameB n (fnT (behT n (newT o) cb mb)) n (fnT (behT n (newT o) ca ma)) = false := by rw [same_symm]; exact hs
      refine goesS_spec (s := spec6 false) (stop := sAl) ?_
      refine gSt (C7.ok _ _) (fok6 false _) (hold := nH0) (m := 300) (n := 400) (ts := []) ?_
      rw [hn]
      have nall : ¬ ∀ j, j < n → behT n (newT o) ca ma j = behT n (newT o) cb mb j := fun q => by
       rw [same_iff.2 q] at hs; cases hs
      refine all_u6 prim W7 n o ma mb ca cb rfl rfl rfl rfl (fun _ q _ => inA q) (fun _ _ _ => by rw [rwAt_fnR]; exact hg) (fun _ _ q => inB q) ?_ ?_ ?_ ?_ ?_ ?_ ?_ (fun _ => hφ) (fun _ _ => hφ) (fun _ _ _ => hφ) ?_ ?_
      all_goals ((try simp only [rwAt_fnR]); intro q0 q1 q2)
      ·exact stB_fnT _ _
      ·exact stB_fnT _ _
      ·exact hm
      ·unfold isSame; rw [hs]; rfl
      ·exact kA q1
      ·exact kB q2
      ·intro _; unfold isSame; rw [hs2]; rfl
      ·intro _
       have : ¬ difN n (fnT (behT n (newT o) ca ma)) n (fnT (behT n (newT o) cb mb)) = 0 := fun q => nall (hdif.1 q)
       have : prim.beq false (prim.eq (prim.ofN (difN n (fnT (behT n (newT o) ca ma)) n (fnT (behT n (newT o) cb mb)))) (Int.ofNat 0)) = true := by
        simp [prim_beq, prim_eq, prim_ofN, this]
       rw [this]
       exact hφ
      ·intro q
       have : ¬ _ := fun q => nall (key.1 q)
       simp [prim_beq, prim_seq, this] at q
  ·exact h.elim
 ·exact h.elim
end Go.Proofs
namespace Go.Pl
open Go Go.Sx Go.Proofs
theorem in29_inv {m n : Nat} {d : Nat → Sta} {i op : Int} (hn : n ≤ 8) (hm : m ≤ 50000) (h : ∀ j, j < n → InvS m (d j)) : in29 n (fnT d) i op = true := by
 unfold in29
 have he := stF_fnT (n := n) (d := d)
 rw [Bool.and_eq_true, Bool.and_eq_true]
 exact ⟨⟨stB_fnT _ _, Go.Proofs.room_le (by omega) (by omega)⟩, fitN_inv hm fun j hj => by rw [he j hj]; exact h j hj⟩
theorem okT29_eq {n : Nat} {d : Nat → Sta} {i op k v : Int} : okT29 n (fnT d) i op k v = okN n d i op k v := by
 unfold okT29
 exact okN_congr (stF_fnT (n := n) (d := d))
end Go.Pl
namespace Go.Proofs
open Go Go.Sx Go.Pl
theorem res_lit42 {H H' : Mem} {w w' : World} {v : Value} {X Y : Sh} {a b : Int} (r : SpecRes H w (.tup [X, .i .i64 a, .i .i64 b, Y]) v H' w') : SpecRes H w (.tup [X, .v (.int .i64 a), .v (.int .i64 b), Y]) v H' w' :=
 ⟨r.Hle, r.on, r.os, r.tape, r.output, r.size, r.old, r.fresh, fun b0 => by
  obtain ⟨E1, a1, a2, ⟨⟨vs⟩, e, hd⟩, a4⟩ := r.res b0
  refine ⟨E1, a1, a2, ⟨⟨vs⟩, e, ?_⟩, a4⟩
  match vs, hd with
  | [a, b, c, d], ⟨h1, h2, h3, h4, _⟩ => exact ⟨h1, h2, h3, h4, trivial⟩⟩
theorem O29d : FnOK Tryz.prog (gls7 W7) 29 F29d := by
 intro H w shs args φ hon hg hr hφ
 unfold F29d at hφ
 split at hφ
 ·split at hφ
  ·rename_i s0 t u v w n g i op k v e0 e1 e2 e3 e4
   obtain ⟨h1, hy, hno⟩ := hφ
   have h1 : ((_ && _) && _) = true := h1
   rw [Bool.and_eq_true, Bool.and_eq_true] at h1
   cases hok : okT29 n g i op k v with
   | true =>
    refine O29x H _ _ args φ hon hg hr ?_
    unfold F29x
    simp only [e0, e1, e2, e3, e4]
    exact ⟨h1.1.1, h1.1.2, h1.2, hok, hy hok⟩
   | false =>
    refine (O29y (erN n (stF n g) i op k v) H _ _ args (fun s => s = .tup [.agg [.sl 4 0 noT], .i .i64 0, .i .i64 0, .er (erN n (stF n g) i op k v) 242]) hon hg hr ?_).mono fun e w' ⟨v, s, H', he, hs, r⟩ => ?_
    ·unfold F29y
     simp only [e0, e1, e2, e3, e4]
     refine ⟨h1.1.1, h1.1.2, h1.2, ?_, rfl⟩
     have hok : okN n (stF n g) i op k v = false := hok
     unfold noN
     rw [hok]; simp
    ·subst hs
     exact ⟨v, _, H', he, hno hok, res_lit42 r⟩
  ·exact hφ.elim
 ·exact hφ.elim
theorem fok5 (stop : Nat → List Nat → Bool) : FnsOK Tryz.prog (C7 prim W7 spec5 stop) := C7.fok (fun g F h => by
 unfold spec5 at h
 split at h
 ·cases h; exact O12
 ·cases h; exact O24g
 ·cases h; exact O27x
 ·cases h; exact O29d
 ·cases h; exact O31
 ·cases h; exact O32x
 ·cases h) fun g h => by
 unfold spec5 at h
 split at h
 all_goals first | (cases h; done) | kernel_rfl
noncomputable def F5 : List Sh → Tree Sh
 | [s0, s1, .agg [.i .i64 _, .i .i64 _, .i .i64 _, .i .i64 _], .agg [.i .i64 _, .i .i64 _, .i .i64 _, .i .i64 _]] => match slN 2 s0, slN 4 s1 with
  | some (n, g), some (m, h) => .need (okB Oj n g) (.need (kindsB n (rwAt g)) (.need (okB Cl m h) (.leaf (.b true))))
  | _, _ => .fail
 | _ => .fail
theorem O5 : FnOK Tryz.prog (gls7 W7) 5 F5 := by
 refine fnOK_S (C := C7 prim W7 spec6n sAl) (C7.ok _ _) (fn := Tryz.f5) (by kernel_rfl) (by kernel_rfl) fun H w shs args φ hrep h => ?_
 have hn : Tryz.f5.ntmps = 201 := by kernel_rfl
 unfold F5 at h
 split at h
 ·rename_i s0 s1 a0 a1 a2 a3 b0 b1 b2 b3
  split at h
  ·rename_i n g m hh e1 e2
   obtain ⟨h1, hk, h3, hφ⟩ := h
   match args, hrep with
   | [v1, v2, v3, v4], ⟨r1, r2, r3, r4, _⟩ =>
    refine ⟨[.sl 2 n (fnR (rwAt (α := Oj) g)), .sl 4 m (fnR (rwAt (α := Cl) hh)), .agg [.i .i64 a0, .i .i64 a1, .i .i64 a2, .i .i64 a3], .agg [.i .i64 b0, .i .i64 b1, .i .i64 b2, .i .i64 b3]], ⟨rep_rows (rep_slN e1 r1) h1, rep_rows (rep_slN e2 r2) h3, r3, r4, trivial⟩, L0, ?_⟩
    have hφ : φ (.b true) := hφ
    generalize rwAt (α := Oj) g = o at *
    generalize rwAt (α := Cl) hh = c at *
    cases hg : goodO n o with
    | false =>
     refine gSt (C7.ok _ _) (fok6n _) (hold := nH0) (m := 300) (n := 400) (ts := []) ?_
     rw [hn]
     exact all_n5 prim W7 n o m c a0 a1 a2 a3 b0 b1 b2 b3 rfl rfl (fun _ q => in24_mk hk (lt_f q)) (fun _ _ => by rw [rwAt_fnR]; unfold noO; rw [hg]; rfl) (fun _ => hφ) (fun _ _ => hφ) (fun _ _ => hφ)
    | true =>
     obtain ⟨h8, h0⟩ := new_all hg
     have dD := behT_inv (c := c) h0 m
     refine goesS_spec (s := spec5) (stop := sAl) ?_
     refine gSt (C7.ok _ _) (fok5 _) (hold := nH0) (m := 300) (n := 400) (ts := []) ?_
     rw [hn]
     refine all_t5 prim W7 n o m c a0 a1 a2 a3 b0 b1 b2 b3 rfl rfl rfl rfl rfl rfl rfl rfl rfl rfl rfl rfl rfl rfl rfl rfl rfl ?_ ?_ ?_ ?_ ?_ ?_ ?_ ?_ ?_ ?_ ?_ ?_ ?_ ?_ ?_ ?_ ?_ ?_ ?_ ?_ ?_ ?_ ?_ ?_ ?_ ?_ ?_ ?_ ?_ ?_ ?_ ?_ ?_ ?_ ?_ ?_ ?_ ?_ ?_ ?_ ?_ ?_ ?_ ?_ ?_ ?_ ?_ ?_ ?_ ?_ ?_ ?_ ?_ ?_ ?_ ?_ ?_ ?_ ?_ ?_ ?_ ?_ ?_
     all_goals (try simp only [rwAt_fnR, nxtT_eq, okT29_eq])
     all_goals (generalize behT n (newT o) c m = D at *)
     all_goals
      have k4 : prim.lt (Int.ofNat 1) (prim.ofN (difN n (fnT D) n (fnT (updT n D a0 a1 a2 a3)))) = false := by
       have := difN_upd (n := n) (d := D) (i := a0) (op := a1) (k := a2) (v := a3)
       simp [prim_lt, prim_ofN]; omega
      have e5 : prim.eq (prim.ofN (difN n (fnT D) n (fnT (updT n D a0 a1 a2 a3)))) (Int.ofNat 1) = true → difN n (fnT D) n (fnT (updT n D a0 a1 a2 a3)) = 1 := fun q => by
       simp [prim_eq, prim_ofN] at q; omega
      have k5 : prim.eq (prim.ofN (difN n (fnT D) n (fnT (updT n D a0 a1 a2 a3)))) (Int.ofNat 1) = true → prim.inB (Int.ofNat 0) (difN n (fnT D) n (fnT (updT n D a0 a1 a2 a3))) = true := fun q => by
       rw [e5 q]; rfl
      have k6 : prim.eq (prim.ofN (difN n (fnT D) n (fnT (updT n D a0 a1 a2 a3)))) (Int.ofNat 1) = true → prim.nt (prim.eq (nth (diffL n (stF n (fnT D)) n (stF n (fnT (updT n D a0 a1 a2 a3)))) 0) a0) = false := fun q => by
       have := difR_upd (e5 q)
       unfold difR at this
       rw [rwAt_fnR] at this
       rw [this]; simp [prim_nt, prim_eq]
      have k7 : prim.nt (prim.beq (sameB n (fnT D) n (fnT (updT n D a0 a1 a2 a3))) (prim.eq (prim.ofN (difN n (fnT D) n (fnT (updT n D a0 a1 a2 a3)))) (Int.ofNat 0))) = false := by
       have e : sameB n (fnT D) n (fnT (updT n D a0 a1 a2 a3)) = prim.eq (prim.ofN (difN n (fnT D) n (fnT (updT n D a0 a1 a2 a3)))) (Int.ofNat 0) := by
        rw [Bool.eq_iff_iff, same_iff, ← dif_iff]
        simp [prim_eq, prim_ofN]
       rw [e]; simp [prim_nt, prim_beq]
      have ne : prim.eq a0 b0 = false → a0 ≠ b0 := fun q e => by subst e; simp [prim_eq] at q
      have k9 : okN n D b0 b1 b2 b3 = true → prim.eq a0 b0 = false → okN n (updT n D a0 a1 a2 a3) b0 b1 b2 b3 = true := fun q2 q => (okN_upd (ne q)).trans q2
      have k10 : okN n D a0 a1 a2 a3 = true → prim.eq a0 b0 = false → okN n (updT n D b0 b1 b2 b3) a0 a1 a2 a3 = true := fun q2 q => (okN_upd (ne q).symm).trans q2
      have k11 : prim.eq a0 b0 = false → sameB n (fnT (updT n (updT n D a0 a1 a2 a3) b0 b1 b2 b3)) n (fnT (updT n (updT n D b0 b1 b2 b3) a0 a1 a2 a3)) = true := fun q => by
       rw [upd_comm (ne q)]; exact same_iff.2 fun _ _ => rfl
      have k12 : prim.eq a0 b0 = false → prim.seq (keyN n (stF n (fnT (updT n (updT n D a0 a1 a2 a3) b0 b1 b2 b3)))) (keyN n (stF n (fnT (updT n (updT n D b0 b1 b2 b3) a0 a1 a2 a3)))) = true := fun q => by
       rw [upd_comm (ne q)]; simp [prim_seq]
      have inn (i op k v : Int) (q : okN n D i op k v = true) : inI n i = true := by
       have q : ((_ && _) && _) = true := q
       rw [Bool.and_eq_true, Bool.and_eq_true] at q
       exact q.1.1
      have k13 : okN n D a0 a1 a2 a3 = true → prim.eq a0 b0 = false → prim.eq (retT n (fnT D) a0 a1 a2 a3) (retT n (fnT (updT n D b0 b1 b2 b3)) a0 a1 a2 a3) = true ∧ prim.eq (gotT n (fnT D) a0 a1 a2 a3) (gotT n (fnT (updT n D b0 b1 b2 b3)) a0 a1 a2 a3) = true := fun q2 q => by
       obtain ⟨u1, u2⟩ := retT_upd (n := n) (d := D) (op := b1) (k := b2) (v := b3) (op' := a1) (k' := a2) (v' := a3) (ne q).symm (inn _ _ _ _ q2)
       rw [u1, u2]; simp [prim_eq]
      have k15 : okN n D b0 b1 b2 b3 = true → prim.eq a0 b0 = false → prim.eq (retT n (fnT D) b0 b1 b2 b3) (retT n (fnT (updT n D a0 a1 a2 a3)) b0 b1 b2 b3) = true ∧ prim.eq (gotT n (fnT D) b0 b1 b2 b3) (gotT n (fnT (updT n D a0 a1 a2 a3)) b0 b1 b2 b3) = true := fun q2 q => by
       obtain ⟨u1, u2⟩ := retT_upd (n := n) (d := D) (op := a1) (k := a2) (v := a3) (op' := b1) (k' := b2) (v' := b3) (ne q) (inn _ _ _ _ q2)
       rw [u1, u2]; simp [prim_eq]
      have k16 : prim.eq (prim.ofN 0) (Int.ofNat 0) = true := rfl
     ·intro q0 q1; exact in24_mk hk (lt_f q1)
     ·intro q0 q1; exact hg
     ·intro q0 q1; exact in29_inv h8 (by have := lt_f q1; omega) dD
     ·intro q0 q1 q2; exact in29_inv h8 (by have := lt_f q1; omega) dD
     ·intro q0 q1 q2 q3; exact stB_fnT _ _
     ·intro q0 q1 q2 q3; exact stB_fnT _ _
     ·intro q0 q1 q2 q3; exact many_mk (by omega) (by omega)
     ·intro q0 q1 q2 q3 q4 q5; exact k5 q5
     ·intro q0 q1 q2 q3 q4 q5 q6 q7 q8; exact in29_inv (m := m + 1) h8 (by have := lt_f q1; omega) (upd_inv dD q2)
     ·intro q0 q1 q2 q3 q4 q5 q6 q7 q8 q9; exact in29_inv (m := m + 1) h8 (by have := lt_f q1; omega) (upd_inv dD q3)
     ·intro q0 q1 q2 q3 q4 q5 q6 q7 q8 q9 q10; exact stB_fnT _ _
     ·intro q0 q1 q2 q3 q4 q5 q6 q7 q8 q9 q10; exact stB_fnT _ _
     ·intro q0 q1 q2 q3 q4 q5 q6 q7 q8 q9 q10 q11; exact (end24 (k := m + 1 + 1) h8 (by have := lt_f q1; omega) (upd_inv (upd_inv dD q2) q9)).1
     ·intro q0 q1 q2 q3 q4 q5 q6 q7 q8 q9 q10 q11; exact (end24 (k := m + 1 + 1) h8 (by have := lt_f q1; omega) (upd_inv (upd_inv dD q3) q10)).1
     ·intro q0 q1 q2 q3 q4 q5 q6 q7 q8 q9; exact in29_inv (m := m + 1) h8 (by have := lt_f q1; omega) (upd_inv dD q3)
     ·intro q0 q1 q2 q3 q4 q5 q6 q7; exact in29_inv (m := m + 1) h8 (by have := lt_f q1; omega) (upd_inv dD q2)
     ·intro q0 q1 q2 q3 q4 q5 q6 q7 q8; exact in29_inv (m := m + 1) h8 (by have := lt_f q1; omega) (upd_inv dD q3)
     ·intro q0 q1 q2 q3 q4 q5 q6 q7 q8 q9; exact stB_fnT _ _
     ·intro q0 q1 q2 q3 q4 q5 q6 q7 q8 q9; exact stB_fnT _ _
     ·intro q0 q1 q2 q3 q4 q5 q6 q7 q8 q9 q10; exact (end24 (k := m + 1 + 1) h8 (by have := lt_f q1; omega) (upd_inv (upd_inv dD q2) q8)).1
     ·intro q0 q1 q2 q3 q4 q5 q6 q7 q8 q9 q10; exact (end24 (k := m + 1 + 1) h8 (by have := lt_f q1; omega) (upd_inv (upd_inv dD q3) q9)).1
     ·intro q0 q1 q2 q3 q4 q5 q6 q7 q8; exact in29_inv (m := m + 1) h8 (by have := lt_f q1; omega) (upd_inv dD q3)
     ·intro q0 q1 q2 q3; exact stB_fnT _ _
     ·intro q0 q1 q2 q3; exact stB_fnT _ _
     ·intro q0 q1 q2 q3; exact many_mk (by omega) (by omega)
     ·intro q0 q1 q2 q3 q4 q5; exact k5 q5
     ·intro q0 q1 q2; exact in29_inv h8 (by have := lt_f q1; omega) dD
     ·intro q0; exact hφ
     ·intro q0 q1; exact hφ
     ·intro q0 q1 q2 q3 q4; exact no2 k4 q4
     ·intro q0 q1 q2 q3 q4 q5 q6; exact no2 (k6 q5) q6
     ·intro q0 q1 q2 q3 q4 q5 q6 q7; exact no2 k7 q7
     ·intro q0 q1 q2 q3 q4 q5 q6 q7 q8; exact hφ
     ·intro q0 q1 q2 q3 q4 q5 q6 q7 q8 q9 q10 q11 q12 q13 q14 q15; rw [(k15 q3 q8).2]; exact hφ
     ·intro q0 q1 q2 q3 q4 q5 q6 q7 q8 q9 q10 q11 q12 q13 q14 q15; exact no2 q15 (k15 q3 q8).1
     ·intro q0 q1 q2 q3 q4 q5 q6 q7 q8 q9 q10 q11 q12 q13 q14; exact no2 q14 (k13 q2 q8).2
     ·intro q0 q1 q2 q3 q4 q5 q6 q7 q8 q9 q10 q11 q12 q13; exact no2 q13 (k13 q2 q8).1
     ·intro q0 q1 q2 q3 q4 q5 q6 q7 q8 q9 q10 q11 q12; exact no2 q12 (k12 q8)
     ·intro q0 q1 q2 q3 q4 q5 q6 q7 q8 q9 q10 q11; exact no2 q11 (k11 q8)
     ·intro q0 q1 q2 q3 q4 q5 q6 q7 q8 q9 q10; exact no2 q10 (k10 q2 q8)
     ·intro q0 q1 q2 q3 q4 q5 q6 q7 q8 q9 q10; exact no2 q9 (k9 q3 q8)
     ·intro q0 q1 q2 q3 q4 q5 q6 q7 q8 q9 q10; exact no2 q9 (k9 q3 q8)
     ·intro q0 q1 q2 q3 q4 q5 q6; exact no2 k7 q6
     ·intro q0 q1 q2 q3 q4 q5 q6 q7; exact hφ
     ·intro q0 q1 q2 q3 q4 q5 q6 q7 q8 q9 q10 q11 q12 q13 q14; rw [(k15 q3 q7).2]; exact hφ
     ·intro q0 q1 q2 q3 q4 q5 q6 q7 q8 q9 q10 q11 q12 q13 q14; exact no2 q14 (k15 q3 q7).1
     ·intro q0 q1 q2 q3 q4 q5 q6 q7 q8 q9 q10 q11 q12 q13; exact no2 q13 (k13 q2 q7).2
     ·intro q0 q1 q2 q3 q4 q5 q6 q7 q8 q9 q10 q11 q12; exact no2 q12 (k13 q2 q7).1
     ·intro q0 q1 q2 q3 q4 q5 q6 q7 q8 q9 q10 q11; exact no2 q11 (k12 q7)
     ·intro q0 q1 q2 q3 q4 q5 q6 q7 q8 q9 q10; exact no2 q10 (k11 q7)
     ·intro q0 q1 q2 q3 q4 q5 q6 q7 q8 q9; exact no2 q9 (k10 q2 q7)
     ·intro q0 q1 q2 q3 q4 q5 q6 q7 q8 q9; exact no2 q8 (k9 q3 q7)
     ·intro q0 q1 q2 q3 q4 q5 q6 q7 q8 q9; exact no2 q8 (k9 q3 q7)
     ·intro q0 q1 q2 q3 q4; exact no2 k4 q4
     ·intro q0 q1 q2 q3 q4 q5 q6; exact no2 (k6 q5) q6
     ·intro q0 q1 q2 q3 q4 q5 q6 q7; exact no2 k7 q7
     ·intro q0 q1 q2 q3 q4 q5 q6 q7; exact hφ
     ·intro q0 q1 q2 q3 q4 q5 q6; exact no2 k7 q6
     ·intro q0 q1 q2 q3 q4 q5 q6; exact hφ
     ·intro q0 q1 q2 q3 q4; exact hφ
     ·intro q0 q1 q2 q3 q4; exact no2 q4 k16
     ·intro q0 q1 q2 q3 q4; exact hφ
     ·intro q0 q1 q2 q3 q4; exact no2 q4 k16
  ·exact h.elim
 ·exact h.elim
end Go.Proofs
namespace Go.Sx
open Go.RowKit Go.ChangeShapes Go.WideShapes Go.Deep
def memOf (w : World) : Mem := fun b => w.heap[b]?
theorem memOf_on (w : World) : (memOf w).on w := fun _ _ h => h
theorem hcell_memOf {w : World} {a : Addr} {v : Value} (h : w.cell? a = some v) : hcell (memOf w) a.block a.off = some v ∧ a.spot = none := by
 unfold World.cell? at h
 unfold hcell memOf
 split at h
 ·rename_i c t f hb
  rw [hb]
  cases hs : a.spot with
  | none => simp only [hs, Option.isSome_none, Bool.false_eq_true, if_false] at h; exact ⟨h, rfl⟩
  | some x => simp [hs] at h
 ·cases h
section
variable {H : Type} {enc : TypeId × Value → H} {P : Program} {w : World} {base : Nat} {spare : Nat → Bool} {held : Bool}
def flatB (P : Program) (fs : Array Field) (k : Nat) : Bool :=
 fs.size == k && (List.range k).all fun i => match fs[i]? with
  | some f => f.offset == i && (match P.underlying f.type with | some (.int .i64) => true | _ => false) && P.cellsOf f.type == 1
  | none => false
def rowB (P : Program) (e k : Nat) : Bool :=
 match P.underlying e with
 | some (.int .i64) => k == 1 && P.cellsOf e == 1
 | some (.struct fs) => flatB P fs k && P.cellsOf e == k
 | _ => false
def int64 (n : Int) : Prop := (Lit.int .i64 n).wf = true
theorem flat_cells {e k fuel : Nat} {cs : List Value} {x : DataW H × List MemPlace} (hr : rowB P e k = true) (h : DataW.trod enc P w base spare held fuel e cs = some x) :
  ∃ ns : List Int, ns.length = k ∧ cs = ns.map (Value.int .i64) ∧ ∀ n ∈ ns, int64 n := by
 unfold rowB at hr
 split at hr
 ·rename_i hu
  simp only [Bool.and_eq_true, beq_iff_eq] at hr
  obtain ⟨n, rfl, _, hw⟩ := DataW.trod_int hu h
  exact ⟨[n], hr.1.symm, rfl, fun m hm => by simp at hm; subst hm; exact hw⟩
 ·rename_i fs hu
  simp only [Bool.and_eq_true, beq_iff_eq] at hr
  obtain ⟨hf, hc⟩ := hr
  unfold flatB at hf
  simp only [Bool.and_eq_true, beq_iff_eq] at hf
  obtain ⟨hk, hf⟩ := hf
  obtain ⟨xs, m, _, _, hlen, hxs, hel⟩ := DataW.trod_struct hu h
  rw [hc] at hlen
  have cell : ∀ i, i < k → ∃ n, cs[i]? = some (.int .i64 n) ∧ int64 n := fun i hi => by
   have q := List.all_eq_true.1 hf i (List.mem_range.2 hi)
   split at q
   ·rename_i f hfi
    simp only [Bool.and_eq_true, beq_iff_eq] at q
    obtain ⟨⟨ho, ht⟩, h1⟩ := q
    have ht : P.underlying f.type = some (.int .i64) := by
     split at ht
     ·assumption
     ·cases ht
    have q2 := hel i f hfi
    rw [ho, h1] at q2
    have hxi : i < xs.length := by rw [hxs, hk]; exact hi
    rw [List.getElem?_eq_getElem hxi] at q2
    obtain ⟨n, e1, _, e3⟩ := DataW.trod_int ht q2
    refine ⟨n, ?_, e3⟩
    have : (List.take 1 (List.drop i cs))[0]? = some (.int .i64 n) := by rw [e1]; rfl
    simpa using this
   ·cases q
  clear hel h hf
  have : ∀ (j : Nat) (l : List Value), l.length = j → (∀ i, i < j → ∃ n, l[i]? = some (.int .i64 n) ∧ int64 n) → ∃ ns : List Int, ns.length = j ∧ l = ns.map (Value.int .i64) ∧ ∀ n ∈ ns, int64 n := by
   intro j
   induction j with
   | zero => intro l hl _; exact ⟨[], rfl, by simpa using hl, fun _ h => by simp at h⟩
   | succ j ih =>
    intro l hl hc
    match l, hl with
    | v :: l, hl =>
     obtain ⟨ns, h1, h2, h3⟩ := ih l (by simpa using hl) fun i hi => by simpa using hc (i + 1) (by omega)
     obtain ⟨n, q1, q2⟩ := hc 0 (by omega)
     simp at q1
     subst q1
     exact ⟨n :: ns, by simp [h1], by simp [h2], fun m hm => by
      rcases List.mem_cons.1 hm with rfl | hm
      ·exact q2
      ·exact h3 m hm⟩
  exact this k cs hlen cell
 ·cases hr
def shInts (ns : List Int) : List Sh := ns.map (Sh.i .i64)
theorem rep_ints {M : Mem} {ns : List Int} : Rep M (.agg (shInts ns)) (.agg (ns.map (Value.int .i64)).toArray) := by
 refine .agg _ _ (by simp [shInts]) fun j s v h1 h2 => ?_
 simp only [shInts, List.getElem?_map, Option.map_eq_some_iff] at h1
 obtain ⟨n, h3, rfl⟩ := h1
 simp [h3] at h2
 subst h2
 exact .i _ _
theorem cells?_at {w : World} {base : Nat} {a : Addr} {n : Nat} {cs : List Value} (h : w.cells? base a n = some cs) : cs.length = n ∧ ∀ j, j < n → w.cell? (a.add j) = cs[j]? := by
 unfold World.cells? at h
 split at h
 ·have : ∀ (l : List Nat) (cs : List Value), l.mapM (fun i => w.cell? (a.add i)) = some cs → cs.length = l.length ∧ ∀ (j : Nat) (i : Nat), l[j]? = some i → w.cell? (a.add i) = cs[j]? := by
   intro l
   induction l with
   | nil => intro cs h; simp at h; subst h; exact ⟨rfl, fun j i e => by simp at e⟩
   | cons x l ih =>
    intro cs h
    rw [List.mapM_cons] at h
    simp only [Option.bind_eq_bind, Option.bind_eq_some_iff, Option.pure_def] at h
    obtain ⟨v, h1, vs, h2, h3⟩ := h
    cases h3
    obtain ⟨e1, e2⟩ := ih vs h2
    refine ⟨by simp [e1], fun j i e => ?_⟩
    match j, e with
    | 0, e => simp at e; subst e; simpa using h1
    | j + 1, e => simpa using e2 j i (by simpa using e)
  obtain ⟨e1, e2⟩ := this _ _ h
  rw [List.length_range] at e1
  exact ⟨e1, fun j hj => e2 j j (by simp [hj])⟩
 ·cases h
theorem add_off (a : Addr) (n : Nat) : (a.add n).off = a.off + n ∧ (a.add n).block = a.block := by
 unfold Addr.add
 split
 ·subst_vars; exact ⟨rfl, rfl⟩
 ·exact ⟨rfl, rfl⟩
theorem add_add' (a : Addr) (i j : Nat) : (a.add i).add j = a.add (i + j) := by
 unfold Addr.add
 by_cases hi : i = 0 <;> by_cases hj : j = 0 <;> simp [hi, hj, Nat.add_assoc]
theorem rep_rowsl {t e k fuel : Nat} {cs : List Value} {x : DataW H × List MemPlace} (ht : P.underlying t = some (.slice e)) (hr : rowB P e k = true) (hk : P.cellsOf e = k) (h0 : 0 < k)
  (h : DataW.trod enc P w base spare held fuel t cs = some x) :
  ∃ v n g, cs = [v] ∧ Rep (memOf w) (.sl k n g) v ∧ ∀ i, i < n → ∃ ns : List Int, ns.length = k ∧ g i = shInts ns ∧ ∀ n ∈ ns, int64 n := by
 rcases open_slice ht h with ⟨rfl, _⟩ | ⟨a, len, cap, m, n, D, Pl, rfl, hb, hl, hcap, hm, _, hel⟩
 ·exact ⟨_, 0, fun _ => [], rfl, .sl0 _ _ _ _ (Nat.zero_le _), fun i hi => by omega⟩
 have hlm : len ≤ m := by rw [hm]; split <;> omega
 rw [hk] at hel
 have row : ∀ i, i < len → ∃ ns : List Int, ns.length = k ∧ w.cells? base (a.add (i * k)) k = some (ns.map (Value.int .i64)) ∧ ∀ n ∈ ns, int64 n := fun i hi => by
  obtain ⟨cs', h1, h2⟩ := hel i (by omega)
  obtain ⟨ns, e1, rfl, e3⟩ := flat_cells hr h2
  exact ⟨ns, e1, h1, e3⟩
 by_cases hz : len = 0
 ·subst hz
  exact ⟨_, 0, fun _ => [], rfl, .sl0 _ _ _ _ hcap, fun i hi => by omega⟩
 let N : Nat → List Int := fun i => if h : i < len then (row i h).choose else []
 have hN : ∀ i, i < len → (N i).length = k ∧ w.cells? base (a.add (i * k)) k = some ((N i).map (Value.int .i64)) ∧ ∀ n ∈ N i, int64 n := fun i hi => by
  simp only [N, dif_pos hi]
  exact (row i hi).choose_spec
 have cell : ∀ i j, i < len → j < k → w.cell? (a.add (i * k + j)) = ((N i).map (Value.int .i64))[j]? := fun i j hi hj => by
  have := (cells?_at (hN i hi).2.1).2 j hj
  rwa [add_add'] at this
 have hspot : a.spot = none := by
  have h1 := cell 0 0 (by omega) h0
  have : ∃ v, w.cell? a = some v := by
   have hl0 := (hN 0 (by omega)).1
   match hq : N 0 with
   | [] => rw [hq] at hl0; simp at hl0; omega
   | x :: r =>
    rw [hq] at h1
    simp [Addr.add] at h1
    exact ⟨_, h1⟩
  obtain ⟨v, hv⟩ := this
  exact (hcell_memOf hv).2
 obtain ⟨blk, off, spot⟩ := a
 simp only at hspot
 subst hspot
 refine ⟨_, len, fun i => shInts (N i), rfl, .sl _ _ _ blk off cap (fun i j => ((N i).map (Value.int .i64)).getD j .nilFunc) hl hcap (fun i hi => by simp [shInts, (hN i hi).1]) (fun i j hi hj => ?_) (fun i j hi hj => ?_) (fun i j s hi e => ?_), fun i hi => ⟨N i, (hN i hi).1, rfl, (hN i hi).2.2⟩⟩
 ·have h1 := cell i j hi hj
  have hlt : j < ((N i).map (Value.int .i64)).length := by simpa [(hN i hi).1] using hj
  rw [List.getElem?_eq_getElem hlt] at h1
  have h2 := (hcell_memOf h1).1
  rw [(add_off _ _).1, (add_off _ _).2] at h2
  simp only [Nat.add_assoc] at h2 ⊢
  rw [h2, List.getD_eq_getElem?_getD, List.getElem?_eq_getElem hlt]; rfl
 ·have hlt : j < (N i).length := by rw [(hN i hi).1]; exact hj
  simp [List.getD_eq_getElem?_getD, hlt]; rfl
 ·simp only [shInts, List.getElem?_map, Option.map_eq_some_iff] at e
  obtain ⟨n, h3, rfl⟩ := e
  simp [List.getD_eq_getElem?_getD, h3]
  exact .i _ _
def pairB (P : Program) (t : Nat) (k0 k1 : Nat) : Bool :=
 match P.underlying t with
 | some (.struct fs) => fs.size == 2 && P.cellsOf t == 2 && (match fs[0]?, fs[1]? with
  | some f0, some f1 => f0.offset == 0 && f1.offset == 1 && P.cellsOf f0.type == 1 && P.cellsOf f1.type == 1 && (match P.underlying f0.type, P.underlying f1.type with
   | some (.slice e0), some (.slice e1) => rowB P e0 k0 && P.cellsOf e0 == k0 && rowB P e1 k1 && P.cellsOf e1 == k1
   | _, _ => false)
  | _, _ => false)
 | _ => false
theorem rep_pair {t k0 k1 : Nat} {v : Value} {d : DataW H} {ps : List MemPlace} (hp : pairB P t k0 k1 = true) (h00 : 0 < k0) (h01 : 0 < k1) {b0 : Nat} (hval : Value.okWide P w .any b0 t v) (hd : DataW.Trod enc P w base spare held t v d ps) :
  ∃ n0 g0 n1 g1, Rep (memOf w) (.agg [.sl k0 n0 g0, .sl k1 n1 g1]) v ∧ (∀ i, i < n0 → ∃ ns : List Int, ns.length = k0 ∧ g0 i = shInts ns ∧ ∀ n ∈ ns, int64 n) ∧ ∀ i, i < n1 → ∃ ns : List Int, ns.length = k1 ∧ g1 i = shInts ns ∧ ∀ n ∈ ns, int64 n := by
 unfold pairB at hp
 split at hp
 ·rename_i fs hu
  unfold Value.okWide at hval
  rw [hu] at hval
  obtain ⟨cs, rfl, hsz, _⟩ := hval
  simp only [Bool.and_eq_true, beq_iff_eq] at hp
  obtain ⟨⟨h2, hc⟩, hp⟩ := hp
  split at hp
  ·rename_i f0 f1 hf0 hf1
   simp only [Bool.and_eq_true, beq_iff_eq] at hp
   obtain ⟨⟨⟨⟨o0, o1⟩, c0⟩, c1⟩, hp⟩ := hp
   split at hp
   ·rename_i e0 e1 hs0 hs1
    simp only [Bool.and_eq_true, beq_iff_eq] at hp
    obtain ⟨⟨⟨r0, q0⟩, r1⟩, q1⟩ := hp
    obtain ⟨fuel, hd⟩ := hd
    obtain ⟨xs, m, _, _, hlen, hxs, hel⟩ := DataW.trod_struct hu hd
    have a0 := hel 0 f0 hf0
    have a1 := hel 1 f1 hf1
    rw [o0, c0, List.getElem?_eq_getElem (by rw [hxs, h2]; decide)] at a0
    rw [o1, c1, List.getElem?_eq_getElem (by rw [hxs, h2]; decide)] at a1
    obtain ⟨v0, n0, g0, x0, y0, z0⟩ := rep_rowsl hs0 r0 q0 h00 a0
    obtain ⟨v1, n1, g1, x1, y1, z1⟩ := rep_rowsl hs1 r1 q1 h01 a1
    rw [hc] at hsz
    obtain ⟨l⟩ := cs
    match l, hsz with
    | [u0, u1], _ =>
     simp [Value.cells] at x0 x1
     subst x0 x1
     refine ⟨n0, g0, n1, g1, .agg _ _ rfl fun j s v e1 e2 => ?_, z0, z1⟩
     match j, e1, e2 with
     | 0, e1, e2 => simp at e1 e2; subst e1 e2; exact y0
     | 1, e1, e2 => simp at e1 e2; subst e1 e2; exact y1
     | j + 2, e1, _ => simp at e1
   ·cases hp
  ·cases hp
 ·cases hp
theorem rep_slice_arg {t e k : Nat} {v : Value} {d : DataW H} {ps : List MemPlace} (ht : P.underlying t = some (.slice e)) (hr : rowB P e k = true) (hk : P.cellsOf e = k) (h0 : 0 < k) {b0 : Nat} (hval : Value.okWide P w .any b0 t v) (hd : DataW.Trod enc P w base spare held t v d ps) :
  ∃ n g, Rep (memOf w) (.sl k n g) v ∧ ∀ i, i < n → ∃ ns : List Int, ns.length = k ∧ g i = shInts ns ∧ ∀ n ∈ ns, int64 n := by
 obtain ⟨fuel, hd⟩ := hd
 obtain ⟨u, n, g, h1, h2, h3⟩ := rep_rowsl ht hr hk h0 hd
 have : v = u := by
  unfold Value.okWide at hval
  rw [ht] at hval
  cases v <;> simp [Value.cells] at h1 <;> first | exact h1 | skip
  all_goals (unfold Cell.okWide at hval; simp [ht] at hval; try (simp [Cell.ok, ht] at hval))
 subst this
 exact ⟨n, g, h2, h3⟩
end
end Go.Sx
namespace Go.Sx
open Go.RowKit Go.ChangeShapes Go.WideShapes Go.Deep
theorem var_heap {P : Program} {W : World} {n : String} {g : Nat} {cs : Array Value} (hg : P.globalNamed n = some g) (h : W.var? P n = some cs) : ∃ e f, W.heap[g]? = some (.cells cs e f) := by
 unfold World.var? at h
 rw [hg] at h
 simp only [Option.bind_some] at h
 split at h
 ·rename_i c e f hb
  cases h
  exact ⟨_, _, hb⟩
 ·cases h
theorem laid_er {P : Program} {n nm : String} {text : List UInt8} {r : List (String × DataW Unit)} {W : World} {g : Nat} {ti tp te ts : TypeId} {ms : Array (String × TypeId)} {f : Field}
  (h : laidMet P ((n, .iface nm (.ptr (.agg [.lit (.string text)]))) :: r) W)
  (hg : P.globalNamed n = some g) (ht : (P.globals[g]?).map (·.type) = some ti) (hi : P.underlying ti = some (.interface ms)) (hrow : ∀ u, P.typeName? 3 u = some nm → u = tp)
  (hp : P.underlying tp = some (.pointer te)) (he : P.underlying te = some (.struct #[f])) (hft : f.type = ts) (hfo : f.offset = 0) (hs : P.underlying ts = some .string) (hc : P.cellsOf te = 1) (hcs : P.cellsOf ts = 1) :
  GlobAt (memOf W) g (.er g tp) := by
 obtain ⟨ps, ⟨g0, t0, cs0, f0, p0, q0, hg0, ht0, hv0, hd0, _, e0⟩, _, hrows⟩ := h
 obtain rfl := Option.some.inj (hg.symm.trans hg0)
 obtain rfl := Option.some.inj (ht.symm.trans ht0)
 subst e0
 obtain ⟨l0⟩ := cs0
 have ok0 : ∀ u v, l0 = [.iface u v] → Value.okWide P W .any 0 u v := fun u v e => by
  subst e
  exact (hrows g 0 (by simp [MemPlace.row])).2 u v (by simpa using World.var?_cell hg0 hv0 0)
 obtain ⟨a0, s0, rfl, hc0, hs0, hz0, rfl⟩ := errorString_of_trod hi hrow hp he hft hfo hs hc hcs hd0 ok0
 obtain ⟨c0, t0, hb0⟩ := (hrows a0.block a0.off (by simp [MemPlace.row])).1
 obtain ⟨e, f, hh⟩ := var_heap hg hv0
 have h1 : hcell (memOf W) g 0 = some (.iface tp (.pointer (some a0))) := by
  unfold hcell memOf
  rw [hh]; rfl
 exact ⟨_, h1, .er g tp a0 c0 t0 h1 hb0, rfl⟩
theorem laid_strs {P : Program} {n : String} {texts : List (List UInt8)} {r : List (String × DataW Unit)} {W : World} {g : Nat} {t e : TypeId} {k : Nat}
  (h : laidMet P ((n, .agg (texts.map fun s => .lit (.string s))) :: r) W)
  (hg : P.globalNamed n = some g) (ht : (P.globals[g]?).map (·.type) = some t) (hu : P.underlying t = some (.array k e)) (he : P.underlying e = some .string) (hce : P.cellsOf e = 1) (hct : P.cellsOf t = texts.length) :
  GlobAt (memOf W) g (.tup (texts.map Sh.str)) := by
 obtain ⟨ps, ⟨g0, t0, cs0, f0, p0, q0, hg0, ht0, hv0, hd0, _, e0⟩, _, hrows⟩ := h
 obtain rfl := Option.some.inj (hg.symm.trans hg0)
 obtain rfl := Option.some.inj (ht.symm.trans ht0)
 obtain ⟨e1, f1, hh⟩ := var_heap hg hv0
 obtain ⟨xs, m, _, hx, hlen, hxs, hel⟩ := DataW.trod_array hu hd0
 have hxs' : xs.map (·.1) = texts.map fun s => .lit (.string s) := by
  have := congrArg Prod.fst hx
  simp at this
  exact this.symm
 have hkt : k = texts.length := by
  have := congrArg List.length hxs'
  simp at this
  omega
 subst hkt
 have cell : ∀ j (hj : j < texts.length), cs0[j]? = some (.string ⟨texts[j].toArray⟩) := fun j hj => by
  have q := hel j hj
  rw [hce, Nat.mul_one] at q
  have hxj : j < xs.length := by omega
  rw [List.getElem?_eq_getElem hxj] at q
  obtain ⟨s, q1, q2, _⟩ := DataW.trod_string he q
  have q3 : (xs.map (·.1))[j]? = some (.lit (.string texts[j])) := by rw [hxs']; simp [hj]
  have q4 : (xs[j]).1 = .lit (.string texts[j]) := by
   rw [List.getElem?_map, List.getElem?_eq_getElem hxj] at q3
   simpa using q3
  rw [q2] at q4
  simp at q4
  have q5 : (List.take 1 (List.drop j cs0.toList))[0]? = some (.string s) := by rw [q1]; rfl
  have q6 : cs0[j]? = some (.string s) := by simpa using q5
  rw [q6]
  obtain ⟨⟨l⟩⟩ := s
  have : l = texts[j] := q4
  subst this; rfl
 refine ⟨⟨cs0, e1, f1, hh, by rw [List.length_map, ← hct, ← hlen]; simp⟩, fun j => .string ⟨(texts.getD j []).toArray⟩, fun j hj => ?_, fun j s hs => ?_⟩
 ·have hj' : j < texts.length := by simpa using hj
  refine ⟨?_, rfl⟩
  unfold hcell memOf
  rw [hh]
  simp only [cell j hj', List.getD_eq_getElem?_getD, List.getElem?_eq_getElem hj', Option.getD_some]
 ·rw [List.getElem?_map, Option.map_eq_some_iff] at hs
  obtain ⟨l, h1, rfl⟩ := hs
  show Rep (memOf W) (.str l) (.string ⟨(texts.getD j []).toArray⟩)
  rw [List.getD_eq_getElem?_getD, h1]
  exact .str l
theorem laid_nums {P : Program} {n : String} {kd : IntKind} {texts : List Int} {r : List (String × DataW Unit)} {W : World} {g : Nat} {t e : TypeId} {k : Nat}
  (h : laidMet P ((n, .agg (texts.map fun s => .lit (.int kd s))) :: r) W)
  (hg : P.globalNamed n = some g) (ht : (P.globals[g]?).map (·.type) = some t) (hu : P.underlying t = some (.array k e)) (he : P.underlying e = some (.int kd)) (hce : P.cellsOf e = 1) (hct : P.cellsOf t = texts.length) :
  GlobAt (memOf W) g (.tup (texts.map (Sh.i kd))) := by
 obtain ⟨ps, ⟨g0, t0, cs0, f0, p0, q0, hg0, ht0, hv0, hd0, _, e0⟩, _, hrows⟩ := h
 obtain rfl := Option.some.inj (hg.symm.trans hg0)
 obtain rfl := Option.some.inj (ht.symm.trans ht0)
 obtain ⟨e1, f1, hh⟩ := var_heap hg hv0
 obtain ⟨xs, m, _, hx, hlen, hxs, hel⟩ := DataW.trod_array hu hd0
 have hxs' : xs.map (·.1) = texts.map fun s => .lit (.int kd s) := by
  have := congrArg Prod.fst hx
  simp at this
  exact this.symm
 have hkt : k = texts.length := by
  have := congrArg List.length hxs'
  simp at this
  omega
 subst hkt
 have cell : ∀ j (hj : j < texts.length), cs0[j]? = some (.int kd texts[j]) := fun j hj => by
  have q := hel j hj
  rw [hce, Nat.mul_one] at q
  have hxj : j < xs.length := by omega
  rw [List.getElem?_eq_getElem hxj] at q
  obtain ⟨s, q1, q2, _⟩ := DataW.trod_int he q
  have q3 : (xs.map (·.1))[j]? = some (.lit (.int kd texts[j])) := by rw [hxs']; simp [hj]
  have q4 : (xs[j]).1 = .lit (.int kd texts[j]) := by
   rw [List.getElem?_map, List.getElem?_eq_getElem hxj] at q3
   simpa using q3
  rw [q2] at q4
  simp at q4
  have q5 : (List.take 1 (List.drop j cs0.toList))[0]? = some (.int kd s) := by rw [q1]; rfl
  have q6 : cs0[j]? = some (.int kd s) := by simpa using q5
  rw [q6]
  rw [q4]
 refine ⟨⟨cs0, e1, f1, hh, by rw [List.length_map, ← hct, ← hlen]; simp⟩, fun j => .int kd (texts.getD j 0), fun j hj => ?_, fun j s hs => ?_⟩
 ·have hj' : j < texts.length := by simpa using hj
  refine ⟨?_, rfl⟩
  unfold hcell memOf
  rw [hh]
  simp only [cell j hj', List.getD_eq_getElem?_getD, List.getElem?_eq_getElem hj', Option.getD_some]
 ·rw [List.getElem?_map, Option.map_eq_some_iff] at hs
  obtain ⟨l, h1, rfl⟩ := hs
  show Rep (memOf W) (.i kd l) (.int kd (texts.getD j 0))
  rw [List.getD_eq_getElem?_getD, h1]
  exact .i kd l
end Go.Sx
namespace Go.Proofs
open Go Go.Sx Go.RowKit Go.ChangeShapes
theorem star7 : "*" ++ "errors.errorString" = "*errors.errorString" := by decide
theorem row7 (u : TypeId) (h : Tryz.prog.typeName? 3 u = some "*errors.errorString") : u = 242 :=
 typeName_ptr_named (nm := "errors.errorString") (by rw [star7]; kernel_rfl) (by kernel_rfl) (by decide) u (by rw [star7]; exact h)
open YtikaakiadiaeoaaGreatDoor.Rows in
abbrev laid7 : List (String × DataW Unit) := storeListsRow.laid
theorem gls_laid {W : World} (h : laidMetH Tryz.prog laid7 W) : GlobOK (gls7 W7) (memOf W) := by
 rw [MakeChecks.laidMetH_plain _ _ _ (by kernel_rfl)] at h
 have e16 : GlobAt (memOf W) 16 (.tup (pow10.map (Sh.i .u64))) := laid_nums (kd := .u64) (texts := pow10) h.tail.tail (by kernel_rfl) (by kernel_rfl) Tryz.underlying233 Tryz.underlying217 (by kernel_rfl) (by kernel_rfl)
 have e5 : GlobAt (memOf W) 5 (.er 5 242) := laid_er h.tail.tail.tail (by kernel_rfl) (by kernel_rfl) Tryz.underlying52 row7 Tryz.underlying242 Tryz.underlying244 rfl rfl Tryz.underlying9 (by kernel_rfl) (by kernel_rfl)
 have e6 : GlobAt (memOf W) 6 (.er 6 242) := laid_er h.tail.tail.tail.tail (by kernel_rfl) (by kernel_rfl) Tryz.underlying52 row7 Tryz.underlying242 Tryz.underlying244 rfl rfl Tryz.underlying9 (by kernel_rfl) (by kernel_rfl)
 have e0 : GlobAt (memOf W) 0 (.er 0 242) := laid_er h.tail.tail.tail.tail.tail (by kernel_rfl) (by kernel_rfl) Tryz.underlying52 row7 Tryz.underlying242 Tryz.underlying244 rfl rfl Tryz.underlying9 (by kernel_rfl) (by kernel_rfl)
 have e3 : GlobAt (memOf W) 3 (.er 3 242) := laid_er h.tail.tail.tail.tail.tail.tail (by kernel_rfl) (by kernel_rfl) Tryz.underlying52 row7 Tryz.underlying242 Tryz.underlying244 rfl rfl Tryz.underlying9 (by kernel_rfl) (by kernel_rfl)
 have e1 : GlobAt (memOf W) 1 (.er 1 242) := laid_er h.tail.tail.tail.tail.tail.tail.tail (by kernel_rfl) (by kernel_rfl) Tryz.underlying52 row7 Tryz.underlying242 Tryz.underlying244 rfl rfl Tryz.underlying9 (by kernel_rfl) (by kernel_rfl)
 have e7 : GlobAt (memOf W) 7 (.tup (wds W7 7 4)) := laid_strs (texts := [W7 7 0, W7 7 1, W7 7 2, W7 7 3]) h.tail.tail.tail.tail.tail.tail.tail.tail (by kernel_rfl) (by kernel_rfl) Tryz.underlying182 Tryz.underlying9 (by kernel_rfl) (by kernel_rfl)
 have e8 : GlobAt (memOf W) 8 (.tup (wds W7 8 7)) := laid_strs (texts := [W7 8 0, W7 8 1, W7 8 2, W7 8 3, W7 8 4, W7 8 5, W7 8 6]) h.tail.tail.tail.tail.tail.tail.tail.tail.tail (by kernel_rfl) (by kernel_rfl) Tryz.underlying183 Tryz.underlying9 (by kernel_rfl) (by kernel_rfl)
 have e9 : GlobAt (memOf W) 9 (.tup (wds W7 9 9)) := laid_strs (texts := [W7 9 0, W7 9 1, W7 9 2, W7 9 3, W7 9 4, W7 9 5, W7 9 6, W7 9 7, W7 9 8]) h.tail.tail.tail.tail.tail.tail.tail.tail.tail.tail (by kernel_rfl) (by kernel_rfl) Tryz.underlying184 Tryz.underlying9 (by kernel_rfl) (by kernel_rfl)
 have e10 : GlobAt (memOf W) 10 (.tup (wds W7 10 3)) := laid_strs (texts := [W7 10 0, W7 10 1, W7 10 2]) h.tail.tail.tail.tail.tail.tail.tail.tail.tail.tail.tail (by kernel_rfl) (by kernel_rfl) Tryz.underlying185 Tryz.underlying9 (by kernel_rfl) (by kernel_rfl)
 have e11 : GlobAt (memOf W) 11 (.tup (wds W7 11 4)) := laid_strs (texts := [W7 11 0, W7 11 1, W7 11 2, W7 11 3]) h.tail.tail.tail.tail.tail.tail.tail.tail.tail.tail.tail.tail (by kernel_rfl) (by kernel_rfl) Tryz.underlying182 Tryz.underlying9 (by kernel_rfl) (by kernel_rfl)
 have e12 : GlobAt (memOf W) 12 (.tup (wds W7 12 4)) := laid_strs (texts := [W7 12 0, W7 12 1, W7 12 2, W7 12 3]) h.tail.tail.tail.tail.tail.tail.tail.tail.tail.tail.tail.tail.tail (by kernel_rfl) (by kernel_rfl) Tryz.underlying182 Tryz.underlying9 (by kernel_rfl) (by kernel_rfl)
 intro g s hg
 match g, hg with
 | 0, hg => cases hg; exact e0
 | 1, hg => cases hg; exact e1
 | 2, hg => cases hg
 | 3, hg => cases hg; exact e3
 | 4, hg => cases hg
 | 5, hg => cases hg; exact e5
 | 6, hg => cases hg; exact e6
 | 7, hg => cases hg; exact e7
 | 8, hg => cases hg; exact e8
 | 9, hg => cases hg; exact e9
 | 10, hg => cases hg; exact e10
 | 11, hg => cases hg; exact e11
 | 12, hg => cases hg; exact e12
 | 13, hg => cases hg
 | 14, hg => cases hg
 | 15, hg => cases hg
 | 16, hg => cases hg; exact e16
 | n + 17, hg => simp [gls7, look?] at hg
end Go.Proofs
namespace Go.Sx
open Go.RowKit Go.ChangeShapes Go.WideShapes Go.Deep Go.Pl
theorem SpecRes.below {H : Mem} {w w' : World} {s : Sh} {v : Value} {H' : Mem} (h : SpecRes H w s v H' w') : Below w.heap.size w w' := ⟨h.os, h.tape, h.output, h.size, h.old⟩
theorem SpecRes.bool {H : Mem} {w w' : World} {b : Bool} {v : Value} {H' : Mem} (h : SpecRes H w (.b b) v H' w') : v = .bool b := by
 obtain ⟨E1, _, _, h1, _⟩ := h.res 0
 exact h1
def rowedB (P : Program) (ts : List TypeId) : Bool := ts.all fun t => P.readableRec t && decide (t < P.types.size)
section
variable {H : Type} {enc : TypeId × Value → H} {P : Program}
theorem below_all (hl : laidOutB P = true) {W W' : World} (hb : Below W.heap.size W W') :
  ∀ {ts : List TypeId} {vs : List Value} {ds : List (DataW H)} {p : List MemPlace}, rowedB P ts = true → DataW.TrodAll enc P W 0 (fun _ => true) true ts vs ds p → (∀ x ∈ p, x.block < W.heap.size) →
   DataW.TrodAll enc P W' 0 (fun b => decide (b < W.heap.size)) true ts vs ds p
 | [], _, _, _, _, h, _ => by
  obtain ⟨rfl, rfl, rfl⟩ := trodAll_nil h
  exact rfl
 | t :: ts, _, _, _, hr, h, hlt => by
  obtain ⟨v, vs1, d, ds1, a, b, rfl, rfl, rfl, h1, h2⟩ := trodAll_cons h
  simp only [rowedB, List.all_cons, Bool.and_eq_true, decide_eq_true_eq] at hr
  exact ⟨a, b, Below.trod hl hr.1.1 hr.1.2 h1 hb fun x hx => hlt x (List.mem_append_left _ hx), below_all hl hb (by simp only [rowedB]; exact hr.2) h2 fun x hx => hlt x (List.mem_append_right _ hx), rfl⟩
theorem post_law (hl : laidOutB P = true) {f : Func} {s : ChangeSpec} {W W' : World} {args : Array Value} {t : TypeId} {ds gs : List (DataW H)} {before : List MemPlace} (hs : s.vars = []) (hr : rowedB P f.params.toList = true) (ht : f.resultTypes = #[t]) (hu : P.underlying t = some .bool)
  (hW : DataW.Whole enc P f.params.toList s.vars false W args.toList ds gs before) (hb : Below W.heap.size W W')
  (h1 : (s.fn H (ds ++ gs)).results = [.lit (.bool true)]) (h2 : (s.fn H (ds ++ gs)).args = ds) (h3 : (s.fn H (ds ++ gs)).vars = []) :
  s.post enc P f false true false false W args (.bool true) W' := by
 have hlt := hW.lt
 have hW0 := hW
 obtain ⟨p, q, hA, hV, e, hfz, hnd⟩ := hW
 rw [hs] at hV
 obtain ⟨rfl, rfl⟩ := trodVars_none hV
 subst e
 refine ⟨ds, [], p ++ [], [], p, [], hW0, ?_, ?_, ?_, Below.frame hb _, fun e => by cases e⟩
 ·rw [h1, ht]
  exact trodAll_mk1 (shut_bool hu true)
 ·rw [h2]
  exact below_all hl hb hr hA fun x hx => hlt x (by simpa using hx)
 ·rw [h3, hs]
  exact rfl
end
theorem okB_rows {α : Type} [Row α] {k n : Nat} {g : Nat → List Sh} (hk : ∀ ns : List Int, ns.length = k → (Row.get (α := α) (shInts ns)).isSome = true) (h : ∀ i, i < n → ∃ ns : List Int, ns.length = k ∧ g i = shInts ns ∧ ∀ n ∈ ns, int64 n) : okB α n g = true := by
 induction n with
 | zero => rfl
 | succ n ih =>
  obtain ⟨ns, h1, h2, _⟩ := h n (by omega)
  simp only [okB, ih fun i hi => h i (by omega), Bool.true_and]
  rw [h2]
  exact hk ns h1
theorem okB_oj {n : Nat} {g : Nat → List Sh} (h : ∀ i, i < n → ∃ ns : List Int, ns.length = 2 ∧ g i = shInts ns ∧ ∀ n ∈ ns, int64 n) : okB Oj n g = true := okB_rows (fun ns hn => by
 match ns, hn with
 | [a, b], _ => rfl) h
theorem okB_cl {n : Nat} {g : Nat → List Sh} (h : ∀ i, i < n → ∃ ns : List Int, ns.length = 4 ∧ g i = shInts ns ∧ ∀ n ∈ ns, int64 n) : okB Cl n g = true := okB_rows (fun ns hn => by
 match ns, hn with
 | [a, b, c, d], _ => rfl) h
theorem okB_in {n : Nat} {g : Nat → List Sh} (h : ∀ i, i < n → ∃ ns : List Int, ns.length = 1 ∧ g i = shInts ns ∧ ∀ n ∈ ns, int64 n) : okB Int n g = true := okB_rows (fun ns hn => by
 match ns, hn with
 | [a], _ => rfl) h
end Go.Sx
namespace Go.Sx
open Go.RowKit Go.ChangeShapes Go.WideShapes Go.Deep Go.Pl
theorem kinds_oj {n : Nat} {g : Nat → List Sh} (h : ∀ i, i < n → ∃ ns : List Int, ns.length = 2 ∧ g i = shInts ns ∧ ∀ n ∈ ns, int64 n) : kindsB n (rwAt (α := Oj) g) = true := by
 unfold kindsB
 refine List.all_eq_true.2 fun j hj => ?_
 obtain ⟨ns, h1, h2, h3⟩ := h j (List.mem_range.1 hj)
 match ns, h1 with
 | [a, b], _ =>
  have e : rwAt (α := Oj) g j = ⟨a, b⟩ := by
   unfold rwAt
   rw [h2]; rfl
  rw [e]
  have := h3 a (by simp)
  unfold int64 at this
  have h1 : IntKind.i64.min = -9223372036854775808 := by decide
  have h2 : IntKind.i64.max = 9223372036854775807 := by decide
  simp [Lit.wf, IntKind.wrap] at this
  unfold in64
  simp
  omega
section
variable {H : Type} {enc : TypeId × Value → H} {P : Program} {w : World} {base : Nat} {spare : Nat → Bool} {held : Bool}
theorem rep_struct_arg {t k : Nat} {fs : Array Field} {v : Value} {d : DataW H} {ps : List MemPlace} (hu : P.underlying t = some (.struct fs)) (hr : rowB P t k = true) {b0 : Nat} (hval : Value.okWide P w .any b0 t v) (hd : DataW.Trod enc P w base spare held t v d ps) :
  ∃ ns : List Int, ns.length = k ∧ v = .agg (ns.map (Value.int .i64)).toArray ∧ Rep (memOf w) (.agg (shInts ns)) v ∧ ∀ n ∈ ns, int64 n := by
 unfold Value.okWide at hval
 rw [hu] at hval
 obtain ⟨cs, rfl, hsz, _⟩ := hval
 obtain ⟨fuel, hd⟩ := hd
 obtain ⟨ns, h1, h2, h3⟩ := flat_cells hr hd
 have e : cs = (ns.map (Value.int .i64)).toArray := by
  have : cs.toList = ns.map (Value.int .i64) := by simpa [Value.cells] using h2
  rw [← this]
 subst e
 exact ⟨ns, h1, rfl, rep_ints, h3⟩
theorem rep_struct2_arg {t : Nat} {fs : Array Field} {v : Value} {d : DataW H} {ps : List MemPlace} (hu : P.underlying t = some (.struct fs)) (hr : rowB P t 2 = true) {b0 : Nat} (hval : Value.okWide P w .any b0 t v) (hd : DataW.Trod enc P w base spare held t v d ps) :
  ∃ x0 x1 : Int, v = .agg #[.int .i64 x0, .int .i64 x1] ∧ Rep (memOf w) (.agg [.i .i64 x0, .i .i64 x1]) v ∧ int64 x0 ∧ int64 x1 := by
 obtain ⟨ns, h1, rfl, h2, h3⟩ := rep_struct_arg hu hr hval hd
 match ns, h1, h2, h3 with
 | [x0, x1], _, h2, h3 => exact ⟨x0, x1, rfl, h2, h3 x0 (by simp), h3 x1 (by simp)⟩
theorem rep_struct3_arg {t : Nat} {fs : Array Field} {v : Value} {d : DataW H} {ps : List MemPlace} (hu : P.underlying t = some (.struct fs)) (hr : rowB P t 3 = true) {b0 : Nat} (hval : Value.okWide P w .any b0 t v) (hd : DataW.Trod enc P w base spare held t v d ps) :
  ∃ x0 x1 x2 : Int, v = .agg #[.int .i64 x0, .int .i64 x1, .int .i64 x2] ∧ Rep (memOf w) (.agg [.i .i64 x0, .i .i64 x1, .i .i64 x2]) v ∧ int64 x0 ∧ int64 x1 ∧ int64 x2 := by
 obtain ⟨ns, h1, rfl, h2, h3⟩ := rep_struct_arg hu hr hval hd
 match ns, h1, h2, h3 with
 | [x0, x1, x2], _, h2, h3 => exact ⟨x0, x1, x2, rfl, h2, h3 x0 (by simp), h3 x1 (by simp), h3 x2 (by simp)⟩
theorem rep_struct4_arg {t : Nat} {fs : Array Field} {v : Value} {d : DataW H} {ps : List MemPlace} (hu : P.underlying t = some (.struct fs)) (hr : rowB P t 4 = true) {b0 : Nat} (hval : Value.okWide P w .any b0 t v) (hd : DataW.Trod enc P w base spare held t v d ps) :
  ∃ x0 x1 x2 x3 : Int, v = .agg #[.int .i64 x0, .int .i64 x1, .int .i64 x2, .int .i64 x3] ∧ Rep (memOf w) (.agg [.i .i64 x0, .i .i64 x1, .i .i64 x2, .i .i64 x3]) v ∧ int64 x0 ∧ int64 x1 ∧ int64 x2 ∧ int64 x3 := by
 obtain ⟨ns, h1, rfl, h2, h3⟩ := rep_struct_arg hu hr hval hd
 match ns, h1, h2, h3 with
 | [x0, x1, x2, x3], _, h2, h3 => exact ⟨x0, x1, x2, x3, rfl, h2, h3 x0 (by simp), h3 x1 (by simp), h3 x2 (by simp), h3 x3 (by simp)⟩
end
end Go.Sx
namespace Go.Proofs.YtikaakiadiaeoaaGreatDoor
open Go.ChangeShapes Go.WideShapes Go.ChangeAt Go.WideMaps Go.WideElems Go.RowKit Go.Sx Go.Pl
theorem own7 : ownKnob Tryz.prog.godebug = none := by kernel_rfl
theorem laidOut7 : laidOutB Tryz.prog = true := by kernel_rfl
theorem door7 (os : Os) (args : Array Value) : laidMetH Tryz.prog laid7 ((World.doorLaid Tryz.prog 400 os).forCall (fun _ _ => 0) ⟨#[], args, []⟩).memory :=
 laidMetH_of_parts3 (fuel := 8) (laidMet_of_run' 8 (by kernel_rfl) (by kernel_rfl)) (by kernel_rfl) (by kernel_rfl)
end Go.Proofs.YtikaakiadiaeoaaGreatDoor
namespace Go.Proofs.YtikaakiadiaeoaaGreatDoor
open Go.ChangeShapes Go.WideShapes Go.ChangeAt Go.WideMaps Go.WideElems Go.RowKit Go.Sx Go.Pl
set_option maxRecDepth 100000 in
theorem lifted5 (os : Os) (started : os.Started) (H : Type) (enc : TypeId × Value → H) :
  ReturnsInHanded {} Tryz.checked os 5 .any (fun w args => (Rows.storeApartSpec.pre enc Tryz.prog Tryz.f5 [] false w args ∧ laidMetH Tryz.prog laid7 w) ∧ sizedMet enc Tryz.prog Tryz.f5 (OpenSpec.ofChange Rows.storeApartSpec) false w args)
   (Rows.storeApartSpec.post enc Tryz.prog Tryz.f5 false true false false) := by
 refine returnsInHanded_of_change_and (C := Tryz.checked) (X := fun w _ => laidMetH Tryz.prog laid7 w) (fun _ _ _ hh h => h.of_heap hh) own7 started (by kernel_rfl) Tryz.func5
  (ChangeSpec.witness_shaped (enc := enc) (C := Tryz.checked) (os := os) (X := fun w _ => laidMetH Tryz.prog laid7 w) false (World.doorLaid Tryz.prog 400 os) #[.slice none 0 0, .slice none 0 0, .agg #[.int .i64 0, .int .i64 0, .int .i64 0, .int .i64 0], .agg #[.int .i64 0, .int .i64 0, .int .i64 0, .int .i64 0]] 8 rfl (World.shaped_of_RefB (by kernel_rfl) (by kernel_rfl)) (by kernel_rfl) (by kernel_rfl) (by kernel_rfl) (door7 os _)) ?_
 intro W base args ds gs before hval0 hW _ _ hL _
 have hval : ∀ (j : Nat) t v, Tryz.f5.params[j]? = some t → args[j]? = some v → Value.okWide Tryz.prog W .any base t v := hval0
 have hW' := hW
 obtain ⟨p, q, hA0, hV, e, hfz, hnd⟩ := hW
 obtain ⟨rfl, rfl⟩ := trodVars_none hV
 have hA : DataW.TrodAll enc Tryz.prog W 0 (fun _ => true) true Tryz.f5.params.toList args.toList ds p := hA0
 rw [Tryz.params5] at hA hval
 obtain ⟨v0, vs0, d0, ds0, p0, q0, ea, rfl, rfl, t0, hA⟩ := trodAll_cons hA
 obtain ⟨v1, vs1, d1, ds1, p1, q1, rfl, rfl, rfl, t1, hA⟩ := trodAll_cons hA
 obtain ⟨v2, vs2, d2, ds2, p2, q2, rfl, rfl, rfl, t2, hA⟩ := trodAll_cons hA
 obtain ⟨v3, vs3, d3, ds3, p3, q3, rfl, rfl, rfl, t3, hA⟩ := trodAll_cons hA
 obtain ⟨rfl, rfl, rfl⟩ := trodAll_nil hA
 have at_ : ∀ (j : Nat) v, [v0, v1, v2, v3][j]? = some v → args[j]? = some v := fun j v h => by rw [← Array.getElem?_toList, ea]; exact h
 obtain ⟨k0, s0, r0, a0⟩ := rep_slice_arg (k := 2) Tryz.underlying41 (by kernel_rfl) (by kernel_rfl) (by decide) (hval 0 41 v0 rfl (at_ 0 v0 rfl)) t0
 obtain ⟨k1, s1, r1, a1⟩ := rep_slice_arg (k := 4) Tryz.underlying42 (by kernel_rfl) (by kernel_rfl) (by decide) (hval 1 42 v1 rfl (at_ 1 v1 rfl)) t1
 obtain ⟨x20, x21, x22, x23, rfl, r2, _⟩ := rep_struct4_arg Tryz.underlying63 (by kernel_rfl) (hval 2 63 v2 rfl (at_ 2 v2 rfl)) t2
 obtain ⟨x30, x31, x32, x33, rfl, r3, _⟩ := rep_struct4_arg Tryz.underlying63 (by kernel_rfl) (hval 3 63 v3 rfl (at_ 3 v3 rfl)) t3
 have hc := O5 (memOf W) W [.sl 2 k0 s0, .sl 4 k1 s1, .agg [.i .i64 x20, .i .i64 x21, .i .i64 x22, .i .i64 x23], .agg [.i .i64 x30, .i .i64 x31, .i .i64 x32, .i .i64 x33]] [v0, v1, .agg #[.int .i64 x20, .int .i64 x21, .int .i64 x22, .int .i64 x23], .agg #[.int .i64 x30, .int .i64 x31, .int .i64 x32, .int .i64 x33]] (fun s => s = .b true) (memOf_on W) (gls_laid hL)
  ⟨r0, r1, r2, r3, trivial⟩ ⟨okB_oj a0, kinds_oj a0, okB_cl a1, rfl⟩
 have eargs : args = [v0, v1, .agg #[.int .i64 x20, .int .i64 x21, .int .i64 x22, .int .i64 x23], .agg #[.int .i64 x30, .int .i64 x31, .int .i64 x32, .int .i64 x33]].toArray := by rw [← ea]
 rw [eargs]
 refine hc.mono fun e W' ⟨v, s, H', he, hs, hr⟩ => ?_
 subst he hs
 obtain rfl := hr.bool
 refine ⟨_, rfl, post_law laidOut7 rfl (by kernel_rfl) (by kernel_rfl) Tryz.underlying4 (by rw [eargs] at hW'; exact hW') hr.below rfl rfl rfl⟩
theorem storeApart_holds : Rows.StoreApartSaid :=
 OpenClaim.holds_of_wide 5 Tryz.f5 rfl rfl rfl rfl rfl rfl rfl ⟨rfl, rfl, rfl, rfl, rfl⟩ rfl rfl rfl rfl rfl (by kernel_rfl) Tryz.func5 (by kernel_rfl)
  (of_decide_eq_true (by kernel_rfl)) (by unfold Func.isWrapper; first | (rw [if_pos (by decide +kernel)]; kernel_rfl) | (rw [if_neg (by decide +kernel)]; exact ⟨rfl, rfl⟩))
  (fun os started H enc _ => lifted5 os started H enc)
end Go.Proofs.YtikaakiadiaeoaaGreatDoor
namespace Go.Proofs.YtikaakiadiaeoaaGreatDoor
open Go
theorem storeApart_card : Rows.StoreApartCardSaid :=
 Claim7.holds_tied_plain_at .later [] [.data, .data, .data, .sentinel, .sentinel, .sentinel, .sentinel, .sentinel, .data, .data, .data, .data, .data, .data] true (true, "4a60ae6fac43e9984ca8293a95a0ce4093e80da91277938538b84fd690e406b6") true
  storeApart_holds (fun _ h => by cases h) (by kernel_rfl) (fun _ h => by cases h) storeApart_row_tie rfl ⟨rfl, rfl⟩ (by kernel_rfl) rfl
  (fun f fn hf hfn => by
   obtain rfl : f = 5 := Option.some.inj ((show Tryz.prog.funcNamed "umpire/umpirelaw7.StoreApart" = some 5 by kernel_rfl).symm.trans hf) |>.symm
   obtain rfl : fn = Tryz.f5 := (Option.some.inj (Tryz.func5.symm.trans hfn)).symm
   exact ⟨by kernel_rfl, fun j t ht => by
    rw [Tryz.params5] at ht
    have hm : t ∈ [41, 42, 63, 63] := by simpa using Array.mem_of_getElem? ht
    have hall : ([41, 42, 63, 63].all fun u => !Tryz.prog.wantsStandIn u) = true := by kernel_rfl
    exact (show Tryz.prog.wantsStandIn t = false by simpa using List.all_eq_true.1 hall t hm)⟩)
  (by kernel_rfl)
#print axioms storeApart_card
end Go.Proofs.YtikaakiadiaeoaaGreatDoor
