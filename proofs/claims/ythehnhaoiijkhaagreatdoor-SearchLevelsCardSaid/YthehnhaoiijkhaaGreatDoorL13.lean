/- Own work. -/
import Derived.Test.YthehnhaoiijkhaaGreatDoorL12
open Int (ofNat)
open And renaming intro->bP
open Array renaming getElem?_eq_some_iff->bH,replicate->dY
open Bool renaming true->aC,false->ay,and_eq_true->aI,or_false->kR
open Go.Proofs.Tryz renaming prog->aA,f128->oQ,f79->jo
open Go.Aw.C5 renaming ok->kG
open Go.Sx.BK renaming int->aj,nat->aJ,get->aU,mp->bQ,Mc->bF,val->jO
open Go.Sx.SV renaming sh->bU,DT->dQ
open Go.Sx.Sh renaming er->bf,i->aY
open Go.Sx.Tree renaming node->aF,leaf->aB,need->aH,must->aQ
open Go.Value renaming pointer->dZ
open Iff renaming rfl->zy
open Int renaming ofNat->ah,negSucc->fJ,ofNat_eq_natCast->fM
open List renaming replicate->dU,range->aZ,getElem?_eq_getElem->aS,getElem?_eq_some_iff->aV,flatMap_cons->oO,getElem?_append_left->dN,getD_eq_getElem?_getD->aX,ext_getElem?->lM,getElem?_eq_none->kE,getElem?_set->lG,findIdx?_cons->jI
open Option renaming some->ak,none->aK,bind_some->eU
open Option.some renaming inj->dH
namespace Go.BR
open Go Go.Sx
def O9(x y:Int):Bool:=
 bif x==2 then y==1 else bif x==3 then y==1 else bif x==5 then y==1 else bif x==7 then y==1 else bif x==1 then y==3 else bif x==4 then y==3 else
 bif x==6 then (bif y==2 then aC else y==3) else bif x==8 then (bif y==2 then aC else y==3) else bif x==9 then (bif y==2 then aC else y==3) else ay
end Go.BR
namespace Go.Aw
open Go Go.Sx Go.BR
theorem al7{ψ:Bool->Prop}{b x y:Bool}(h:ψ (bif b then x else y)):(b=aC->ψ x)/\(b=ay->ψ y):=by
 cases b
 ·exact ⟨fun q=>(by cases q),fun _=>h⟩
 ·exact ⟨fun _=>h,fun q=>by cases q⟩
def F67:List Sh->Tree Sh
 |[s,t]=>match BF s with
  |some x=>match BF t with
   |some y=>.leaf (.b (O9 x y)) |none=>.fail
  |none=>.fail
 |_=>.fail
theorem O67:AV aA (FV W5) 128 F67:=by
 refine Ii (C:=C5 Ai W5 noSpec AP) (kG _ _) (MC _) (n:=300) (L:=L0) (fn:=oQ) (by kernel_rfl) (by kernel_rfl) fun H w Bv args φ hrep h=>?_
 have hn:oQ.ntmps=36:=by kernel_rfl
 unfold F67 at h;split at h
 ·rename_i s t
  split at h
  ·rename_i x hx
   split at h
   ·rename_i y hy
    match args,hrep with
    |[u,v],⟨hu,hv,_⟩=>
     refine ⟨[.i .i64 x,.i .i64 y],⟨EJ hx hu,EJ hy hv,trivial⟩,?_⟩;rw[hn,a67 Ai W5 x y,Cc];have h:φ (.b (O9 x y)):=h;have r:∀{b:Bool} {c d:Bool},φ (.b (bif b then c else d))->(b=aC->φ (.b c))/\(b=ay->φ (.b d)):=fun h=>al7 (ψ:=fun b=>φ (.b b)) h;rw[<-Cc];have h1:=r h;refine ⟨h1.1,fun q=>?_⟩;have h1:=r (h1.2 q);refine ⟨h1.1,fun q=>?_⟩;have h1:=r (h1.2 q);refine ⟨h1.1,fun q=>?_⟩;have h1:=r (h1.2 q);refine ⟨h1.1,fun q=>?_⟩;have h1:=r (h1.2 q);refine ⟨h1.1,fun q=>?_⟩;have h1:=r (h1.2 q);refine ⟨h1.1,fun q=>?_⟩;have h1:=r (h1.2 q);refine ⟨fun q=>r (h1.1 q),fun q=>?_⟩;have h1:=r (h1.2 q);refine ⟨fun q=>r (h1.1 q),fun q=>?_⟩;have h1:=r (h1.2 q);exact ⟨fun q=>r (h1.1 q),h1.2⟩
   ·exact h.elim
  ·exact h.elim
 ·exact h.elim
end Go.Aw
namespace Go.BR
open Go Go.Sx
def tmO(n:Nat)(l:List (Nat×SV)):List SV:=l.foldl (fun t p=>t.set p.1 p.2) (dU n .any)
structure De where
 obj:Int
 op:Int
 key:Int
 val:Int
 ret:Int
 got:Int
 here:Int
 back:Int
 deriving DecidableEq,Inhabited
def deR(e:De):List Sh:=[.i .i64 e.obj,.i .i64 e.op,.i .i64 e.key,.i .i64 e.val,.i .i64 e.ret,.i .i64 e.got,.i .i64 e.here,.i .i64 e.back]
instance:Row De where
 put:=deR
 get l:=match l with
  |[.i .i64 a,.i .i64 b,.i .i64 c,.i .i64 d,.i .i64 e,.i .i64 f,.i .i64 g,.i .i64 h]=>ak ⟨a,b,c,d,e,f,g,h⟩ |_=>aK
 DF l a h:=by
  split at h
  ·cases h;rfl
  ·cases h
 get_put a:=rfl
 JI:=⟨0,0,0,0,0,0,0,0⟩
def Cm(e:Ev):Bool:=O6 e&&fieldsB e&&Di e.ret
end Go.BR
namespace Go.Aw
open Go Go.Sx Go.BR
def apQ:List Sh->Tree Sh
 |[.agg l]=>match acf l with
  |some e=>.need (Cm e) (.leaf (.v .nilIface)) |none=>.fail
 |_=>.fail
def CU:Nat->Option (List Sh->Tree Sh)
 |101=>ak apQ |102=>ak F57 |128=>ak F67 |_=>aK
def hpA(n m:Nat)(o:Nat->Oj)(many:Int)(gR:Nat->List Sh)(M1 M2:Int->Option Value)(f1 f2:List (Int×Bool×SV)):List (Nat×SB):=
 [(0,.box [.gs 6,.sym .i64 many,.gs 1,.mp 2,.mp 3] 181),(1,.own 182 1 m gR),(2,.fm .i64 M1 f1 [] aK),(3,.fm .i64 M2 f2 [] aK),(6,.own 140 2 n (Aj o))]
def hpR(a b c d x y z:Int)(k:Nat)(gd:Nat->List Sh):List (Nat×SB):=
 [(4,.box [.sym .i64 a,.sym .i64 b,.sym .i64 c,.sym .i64 d,.sym .i64 x,.sym .i64 y,.gs 5,.sym .i64 z] 184),(5,.own 197 8 k gd)]
def evS(kind:Int)(e:Ev):SV:=.agg [.int .i64 kind,.sym .i64 e.tx,.sym .i64 e.thread,.sym .i64 e.obj,.sym .i64 e.op,.sym .i64 e.key,.sym .i64 e.val,.sym .i64 e.ret]
def LA(kind:Int)(e:Ev)(hp:List (Nat×SB)):Core:={tm:=tmO 168 [(0,.ptr 0 0),(1,evS kind e)],hp,nx:=7,lim:=L0,tc:=[]}
def toR(n m:Nat)(o:Nat->Oj)(gR:Nat->List Sh)(M1 M2:Int->Option Value)(e:Ev)(many' a' b' c' d' x' y' z':Int)(k':Nat)(gd':Nat->List Sh)(us:List (Int×Bool×SV)):Ry:=
 ⟨[(0,.box [.gs 6,.sym .i64 many',.gs 1,.mp 2,.mp 3] 181),(1,.own 182 1 m gR),(2,.fm .i64 M1 [(e.tx,aC,.ptr 4 0)] [] aK),(3,.fm .i64 M2 [] us aK),(6,.own 140 2 n (Aj o)),
  (4,.box [.sym .i64 a',.sym .i64 b',.sym .i64 c',.sym .i64 d',.sym .i64 x',.sym .i64 y',.gs 5,.sym .i64 z'] 184),(5,.own 197 8 k' gd')],[0,4]⟩
def toN(n m:Nat)(o:Nat->Oj)(many':Int)(gR:Nat->List Sh)(M1 M2:Int->Option Value)(f1 f2:List (Int×Bool×SV)):Ry:=⟨hpA n m o many' gR M1 M2 f1 f2,[0]⟩
def toB(n m:Nat)(o:Nat->Oj)(gR:Nat->List Sh)(M1 M2:Int->Option Value)(e:Ev)(many' a' b' c' d' x' y' z':Int):Ry:=
 ⟨[(0,.box [.gs 6,.sym .i64 many',.gs 1,.mp 2,.mp 3] 181),(6,.own 140 2 n (Aj o)),(1,.Hf 182 1 m gR [.ptr 4 0]),(2,.fm .i64 M1 [(e.tx,ay,.any)] [(e.tx,aC,.ptr 4 0),(e.tx,aC,.any)] aK),(3,.fm .i64 M2 [(e.thread,ay,.any)] [(e.thread,aC,.ptr 4 0),(e.thread,aC,.any)] aK),
  (4,.box [.sym .i64 a',.sym .i64 b',.sym .i64 c',.sym .i64 d',.sym .i64 x',.sym .i64 y',.A8,.sym .i64 z'] 184)],[0]⟩
theorem apR(A:Prim)(W:Wd)(n m:Nat)(o:Nat->Oj)(many:Int)(gR:Nat->List Sh)(M1 M2:Int->Option Value)(e:Ev)(a b c d x y z:Int)(k:Nat)(dd:Nat->De)(many' a' b' c' d' x' y' z':Int)(k':Nat)(gd':Nat->List Sh):(run (C5 A W CU AP) 700 aC 79 [.code []] (LA 2 e (hpA n m o many gR M1 M2 [(e.tx,aC,.ptr 4 0)] []++hpR a b c d x y z k (Aj dd)))).bind (toEnd [toR n m o gR M1 M2 e many' a' b' c' d' x' y' z' k' gd' []])=aF (A.eq many (ah 400)) (aB (bU (bf 6 329),0,[aj many many',aJ m m,aU m gR gR,bQ M1 M1,aj e.tx e.tx,bQ M2 M2,aJ n n,aU n (Aj o) (Aj o),aj a a',aj b b',aj c c',aj d d',aj x x',aj y y',aj z z',aJ k k',aU k (Aj dd) gd'])) (aH (Cm {kind:=ah 2,tx:=e.tx,thread:=e.thread,obj:=e.obj,op:=e.op,key:=e.key,val:=e.val,ret:=e.ret}) (aF (A.le (A.AZ n) e.obj) (aB (bU (bf 7 329),0,[aj many many',aJ m m,aU m gR gR,bQ M1 M1,aj e.tx e.tx,bQ M2 M2,aJ n n,aU n (Aj o) (Aj o),aj a a',aj b b',aj c c',aj d d',aj x x',aj y y',aj z z',aJ k k',aU k (Aj dd) gd'])) (aH (A.inB e.obj n) (aF (A.nt (A.eq (DV e.op) (o (A.toN e.obj)).kind)) (aB (bU (bf 8 329),0,[aj many many',aJ m m,aU m gR gR,bQ M1 M1,aj e.tx e.tx,bQ M2 M2,aJ n n,aU n (Aj o) (Aj o),aj a a',aj b b',aj c c',aj d d',aj x x',aj y y',aj z z',aJ k k',aU k (Aj dd) gd'])) (aH (A.eq e.tx e.tx) (aQ [aj e.tx e.tx,aj e.thread e.thread,aj e.obj e.obj,aj e.op e.op,aj e.key e.key,aj e.val e.val,aj e.ret e.ret,aj many many,aJ m m,bF gR gR,bQ M1 M1,aj e.tx e.tx,bQ M2 M2,aJ n n,bF (Aj o) (Aj o),aj a a,aj b b,aj c c,aj d d,aj x x,aj y y,aj z z,aJ k k,bF (Aj dd) (Aj dd),aj e.tx e.tx,aj e.thread e.thread,aj e.obj e.obj,aj e.op e.op,aj e.key e.key,aj e.val e.val,aj e.ret e.ret] (aQ [aj e.tx e.tx,aj e.thread e.thread,aj e.obj e.obj,aj e.op e.op,aj e.key e.key,aj e.val e.val,aj e.ret e.ret,aj many many,aJ m m,bF gR gR,bQ M1 M1,aj e.tx e.tx,bQ M2 M2,aJ n n,bF (Aj o) (Aj o),aj a a,aj b b,aj c c,aj d d,aj x x,aj y y,aj z z,aJ k k,bF (Aj dd) (Aj dd),aj e.tx e.tx,aj e.thread e.thread,aj e.obj e.obj,aj e.op e.op,aj e.key e.key,aj e.val e.val,aj e.ret e.ret] (aF (A.eq z (ah 1)) (aH (A.room (A.addN k 1) 64) (aH (A.room (A.addN k 1) 64) (aQ [aj e.tx e.tx,aj e.thread e.thread,aj e.obj e.obj,aj e.op e.op,aj e.key e.key,aj e.val e.val,aj e.ret e.ret,aj many many,aj many many,aJ m m,bF gR gR,bQ M1 M1,aj e.tx e.tx,bQ M2 M2,aJ n n,bF (Aj o) (Aj o),aj a a,aj b b,aj c c,aj d d,aj x x,aj y y,aj e.tx e.tx,aj e.thread e.thread,aj e.obj e.obj,aj e.op e.op,aj e.key e.key,aj e.val e.val,aj e.ret e.ret,aj e.tx e.tx,aj e.thread e.thread,aj e.obj e.obj,aj e.op e.op,aj e.key e.key,aj e.val e.val,aj e.ret e.ret,aj e.obj e.obj,aj e.op e.op,aj e.key e.key,aj e.val e.val,aj many many,aJ (A.addN k 1) (A.addN k 1),bF (A.snoc (Aj dd) k (Bh [[aY .i64 e.obj,aY .i64 e.op,aY .i64 e.key,aY .i64 e.val,aY .i64 (ah 0),aY .i64 (ah 0),aY .i64 many,aY .i64 (fJ 0)]])) (A.snoc (Aj dd) k (Bh [[aY .i64 e.obj,aY .i64 e.op,aY .i64 e.key,aY .i64 e.val,aY .i64 (ah 0),aY .i64 (ah 0),aY .i64 many,aY .i64 (fJ 0)]]))] (aB (dQ,0,[aj (A.add .i64 many (ah 1)) many',aJ m m,aU m gR gR,bQ M1 M1,aj e.tx e.tx,bQ M2 M2,aJ n n,aU n (Aj o) (Aj o),aj a a',aj b b',aj c c',aj d d',aj x x',aj y y',aj (ah 2) z',aJ (A.addN k 1) k',aU (A.addN k 1) (A.snoc (Aj dd) k (Bh [[aY .i64 e.obj,aY .i64 e.op,aY .i64 e.key,aY .i64 e.val,aY .i64 (ah 0),aY .i64 (ah 0),aY .i64 many,aY .i64 (fJ 0)]])) gd']))))) (aB (bU (bf 12 329),0,[aj many many',aJ m m,aU m gR gR,bQ M1 M1,aj e.tx e.tx,bQ M2 M2,aJ n n,aU n (Aj o) (Aj o),aj a a',aj b b',aj c c',aj d d',aj x x',aj y y',aj z z',aJ k k',aU k (Aj dd) gd'])))))))))):=by kernel_rfl
theorem au4(A:Prim)(W:Wd)(n m:Nat)(o:Nat->Oj)(many:Int)(gR:Nat->List Sh)(M1 M2:Int->Option Value)(e:Ev)(many':Int):(run (C5 A W CU AP) 700 aC 79 [.code []] (LA 2 e (hpA n m o many gR M1 M2 [(e.tx,ay,.any)] []))).bind (toEnd [toN n m o many' gR M1 M2 [(e.tx,ay,.any)] []])=aF (A.eq many (ah 400)) (aB (bU (bf 6 329),0,[aj many many',aJ m m,aU m gR gR,bQ M1 M1,aj e.tx e.tx,bQ M2 M2,aJ n n,aU n (Aj o) (Aj o)])) (aH (Cm {kind:=ah 2,tx:=e.tx,thread:=e.thread,obj:=e.obj,op:=e.op,key:=e.key,val:=e.val,ret:=e.ret}) (aF (A.le (A.AZ n) e.obj) (aB (bU (bf 7 329),0,[aj many many',aJ m m,aU m gR gR,bQ M1 M1,aj e.tx e.tx,bQ M2 M2,aJ n n,aU n (Aj o) (Aj o)])) (aH (A.inB e.obj n) (aF (A.nt (A.eq (DV e.op) (o (A.toN e.obj)).kind)) (aB (bU (bf 8 329),0,[aj many many',aJ m m,aU m gR gR,bQ M1 M1,aj e.tx e.tx,bQ M2 M2,aJ n n,aU n (Aj o) (Aj o)])) (aH (A.eq e.tx e.tx) (aB (bU (bf 11 329),0,[aj many many',aJ m m,aU m gR gR,bQ M1 M1,aj e.tx e.tx,bQ M2 M2,aJ n n,aU n (Aj o) (Aj o)]))))))):=by kernel_rfl
theorem ajz(A:Prim)(W:Wd)(n m:Nat)(o:Nat->Oj)(many:Int)(gR:Nat->List Sh)(M1 M2:Int->Option Value)(e:Ev)(a b c d x y z:Int)(k:Nat)(dd:Nat->De)(many' a' b' c' d' x' y' z':Int)(k':Nat)(gd':Nat->List Sh):(run (C5 A W CU AP) 700 aC 79 [.code []] (LA 3 e (hpA n m o many gR M1 M2 [(e.tx,aC,.ptr 4 0)] []++hpR a b c d x y z k (Aj dd)))).bind (toEnd [toR n m o gR M1 M2 e many' a' b' c' d' x' y' z' k' gd' []])=aF (A.eq many (ah 400)) (aB (bU (bf 6 329),0,[aj many many',aJ m m,aU m gR gR,bQ M1 M1,aj e.tx e.tx,bQ M2 M2,aJ n n,aU n (Aj o) (Aj o),aj a a',aj b b',aj c c',aj d d',aj x x',aj y y',aj z z',aJ k k',aU k (Aj dd) gd'])) (aH (Cm {kind:=ah 3,tx:=e.tx,thread:=e.thread,obj:=e.obj,op:=e.op,key:=e.key,val:=e.val,ret:=e.ret}) (aH (A.eq e.tx e.tx) (aQ [aj e.tx e.tx,aj e.thread e.thread,aj e.obj e.obj,aj e.op e.op,aj e.key e.key,aj e.val e.val,aj e.ret e.ret,aj many many,aJ m m,bF gR gR,bQ M1 M1,aj e.tx e.tx,bQ M2 M2,aJ n n,bF (Aj o) (Aj o),aj a a,aj b b,aj c c,aj d d,aj x x,aj y y,aj z z,aJ k k,bF (Aj dd) (Aj dd),aj e.tx e.tx,aj e.thread e.thread,aj e.obj e.obj,aj e.op e.op,aj e.key e.key,aj e.val e.val,aj e.ret e.ret] (aQ [aj e.tx e.tx,aj e.thread e.thread,aj e.obj e.obj,aj e.op e.op,aj e.key e.key,aj e.val e.val,aj e.ret e.ret,aj many many,aJ m m,bF gR gR,bQ M1 M1,aj e.tx e.tx,bQ M2 M2,aJ n n,bF (Aj o) (Aj o),aj a a,aj b b,aj c c,aj d d,aj x x,aj y y,aj z z,aJ k k,bF (Aj dd) (Aj dd),aj e.tx e.tx,aj e.thread e.thread,aj e.obj e.obj,aj e.op e.op,aj e.key e.key,aj e.val e.val,aj e.ret e.ret] (aF (A.eq z (ah 2)) (aH (A.inB (A.sub .i64 (A.AZ k) (ah 1)) k) (aF (A.nt (O9 (dd (A.toN (A.sub .i64 (A.AZ k) (ah 1)))).op e.ret)) (aB (bU (bf 13 329),0,[aj many many',aJ m m,aU m gR gR,bQ M1 M1,aj e.tx e.tx,bQ M2 M2,aJ n n,aU n (Aj o) (Aj o),aj a a',aj b b',aj c c',aj d d',aj x x',aj y y',aj z z',aJ k k',aU k (Aj dd) gd'])) (aB (dQ,0,[aj (A.add .i64 many (ah 1)) many',aJ m m,aU m gR gR,bQ M1 M1,aj e.tx e.tx,bQ M2 M2,aJ n n,aU n (Aj o) (Aj o),aj a a',aj b b',aj c c',aj d d',aj x x',aj y y',aj (ah 1) z',aJ k k',aU k (A.upd (A.upd (A.upd (Aj dd) (A.toN (A.sub .i64 (A.AZ k) (ah 1))) 4 [aY .i64 e.ret]) (A.toN (A.sub .i64 (A.AZ k) (ah 1))) 5 [aY .i64 e.val]) (A.toN (A.sub .i64 (A.AZ k) (ah 1))) 7 [aY .i64 many]) gd'])))) (aB (bU (bf 12 329),0,[aj many many',aJ m m,aU m gR gR,bQ M1 M1,aj e.tx e.tx,bQ M2 M2,aJ n n,aU n (Aj o) (Aj o),aj a a',aj b b',aj c c',aj d d',aj x x',aj y y',aj z z',aJ k k',aU k (Aj dd) gd']))))))):=by kernel_rfl
theorem au5(A:Prim)(W:Wd)(n m:Nat)(o:Nat->Oj)(many:Int)(gR:Nat->List Sh)(M1 M2:Int->Option Value)(e:Ev)(many':Int):(run (C5 A W CU AP) 700 aC 79 [.code []] (LA 3 e (hpA n m o many gR M1 M2 [(e.tx,ay,.any)] []))).bind (toEnd [toN n m o many' gR M1 M2 [(e.tx,ay,.any)] []])=aF (A.eq many (ah 400)) (aB (bU (bf 6 329),0,[aj many many',aJ m m,aU m gR gR,bQ M1 M1,aj e.tx e.tx,bQ M2 M2,aJ n n,aU n (Aj o) (Aj o)])) (aH (Cm {kind:=ah 3,tx:=e.tx,thread:=e.thread,obj:=e.obj,op:=e.op,key:=e.key,val:=e.val,ret:=e.ret}) (aH (A.eq e.tx e.tx) (aB (bU (bf 11 329),0,[aj many many',aJ m m,aU m gR gR,bQ M1 M1,aj e.tx e.tx,bQ M2 M2,aJ n n,aU n (Aj o) (Aj o)])))):=by kernel_rfl
theorem apS(A:Prim)(W:Wd)(n m:Nat)(o:Nat->Oj)(many:Int)(gR:Nat->List Sh)(M1 M2:Int->Option Value)(e:Ev)(a b c d x y z:Int)(k:Nat)(dd:Nat->De)(many' a' b' c' d' x' y' z':Int)(k':Nat)(gd':Nat->List Sh):(run (C5 A W CU AP) 700 aC 79 [.code []] (LA 4 e (hpA n m o many gR M1 M2 [(e.tx,aC,.ptr 4 0)] []++hpR a b c d x y z k (Aj dd)))).bind (toEnd [toR n m o gR M1 M2 e many' a' b' c' d' x' y' z' k' gd' []])=aF (A.eq many (ah 400)) (aB (bU (bf 6 329),0,[aj many many',aJ m m,aU m gR gR,bQ M1 M1,aj e.tx e.tx,bQ M2 M2,aJ n n,aU n (Aj o) (Aj o),aj a a',aj b b',aj c c',aj d d',aj x x',aj y y',aj z z',aJ k k',aU k (Aj dd) gd'])) (aH (Cm {kind:=ah 4,tx:=e.tx,thread:=e.thread,obj:=e.obj,op:=e.op,key:=e.key,val:=e.val,ret:=e.ret}) (aH (A.eq e.tx e.tx) (aQ [aj e.tx e.tx,aj e.thread e.thread,aj e.obj e.obj,aj e.op e.op,aj e.key e.key,aj e.val e.val,aj e.ret e.ret,aj many many,aJ m m,bF gR gR,bQ M1 M1,aj e.tx e.tx,bQ M2 M2,aJ n n,bF (Aj o) (Aj o),aj a a,aj b b,aj c c,aj d d,aj x x,aj y y,aj z z,aJ k k,bF (Aj dd) (Aj dd),aj e.tx e.tx,aj e.thread e.thread,aj e.obj e.obj,aj e.op e.op,aj e.key e.key,aj e.val e.val,aj e.ret e.ret] (aQ [aj e.tx e.tx,aj e.thread e.thread,aj e.obj e.obj,aj e.op e.op,aj e.key e.key,aj e.val e.val,aj e.ret e.ret,aj many many,aJ m m,bF gR gR,bQ M1 M1,aj e.tx e.tx,bQ M2 M2,aJ n n,bF (Aj o) (Aj o),aj a a,aj b b,aj c c,aj d d,aj x x,aj y y,aj z z,aJ k k,bF (Aj dd) (Aj dd),aj e.tx e.tx,aj e.thread e.thread,aj e.obj e.obj,aj e.op e.op,aj e.key e.key,aj e.val e.val,aj e.ret e.ret] (aF (A.eq z (ah 1)) (aB (dQ,0,[aj (A.add .i64 many (ah 1)) many',aJ m m,aU m gR gR,bQ M1 M1,aj e.tx e.tx,bQ M2 M2,aJ n n,aU n (Aj o) (Aj o),aj a a',aj b b',aj (ah 2) c',aj d d',aj x x',aj many y',aj (ah 3) z',aJ k k',aU k (Aj dd) gd'])) (aB (bU (bf 12 329),0,[aj many many',aJ m m,aU m gR gR,bQ M1 M1,aj e.tx e.tx,bQ M2 M2,aJ n n,aU n (Aj o) (Aj o),aj a a',aj b b',aj c c',aj d d',aj x x',aj y y',aj z z',aJ k k',aU k (Aj dd) gd']))))))):=by kernel_rfl
theorem au6(A:Prim)(W:Wd)(n m:Nat)(o:Nat->Oj)(many:Int)(gR:Nat->List Sh)(M1 M2:Int->Option Value)(e:Ev)(many':Int):(run (C5 A W CU AP) 700 aC 79 [.code []] (LA 4 e (hpA n m o many gR M1 M2 [(e.tx,ay,.any)] []))).bind (toEnd [toN n m o many' gR M1 M2 [(e.tx,ay,.any)] []])=aF (A.eq many (ah 400)) (aB (bU (bf 6 329),0,[aj many many',aJ m m,aU m gR gR,bQ M1 M1,aj e.tx e.tx,bQ M2 M2,aJ n n,aU n (Aj o) (Aj o)])) (aH (Cm {kind:=ah 4,tx:=e.tx,thread:=e.thread,obj:=e.obj,op:=e.op,key:=e.key,val:=e.val,ret:=e.ret}) (aH (A.eq e.tx e.tx) (aB (bU (bf 11 329),0,[aj many many',aJ m m,aU m gR gR,bQ M1 M1,aj e.tx e.tx,bQ M2 M2,aJ n n,aU n (Aj o) (Aj o)])))):=by kernel_rfl
theorem apT(A:Prim)(W:Wd)(n m:Nat)(o:Nat->Oj)(many:Int)(gR:Nat->List Sh)(M1 M2:Int->Option Value)(e:Ev)(a b c d x y z:Int)(k:Nat)(dd:Nat->De)(many' a' b' c' d' x' y' z':Int)(k':Nat)(gd':Nat->List Sh):(run (C5 A W CU AP) 700 aC 79 [.code []] (LA 5 e (hpA n m o many gR M1 M2 [(e.tx,aC,.ptr 4 0)] []++hpR a b c d x y z k (Aj dd)))).bind (toEnd [toR n m o gR M1 M2 e many' a' b' c' d' x' y' z' k' gd' [],toR n m o gR M1 M2 e many' a' b' c' d' x' y' z' k' gd' [(b,ay,.any)]])=aF (A.eq many (ah 400)) (aB (bU (bf 6 329),0,[aj many many',aJ m m,aU m gR gR,bQ M1 M1,aj e.tx e.tx,bQ M2 M2,aJ n n,aU n (Aj o) (Aj o),aj a a',aj b b',aj c c',aj d d',aj x x',aj y y',aj z z',aJ k k',aU k (Aj dd) gd'])) (aH (Cm {kind:=ah 5,tx:=e.tx,thread:=e.thread,obj:=e.obj,op:=e.op,key:=e.key,val:=e.val,ret:=e.ret}) (aH (A.eq e.tx e.tx) (aQ [aj e.tx e.tx,aj e.thread e.thread,aj e.obj e.obj,aj e.op e.op,aj e.key e.key,aj e.val e.val,aj e.ret e.ret,aj many many,aJ m m,bF gR gR,bQ M1 M1,aj e.tx e.tx,bQ M2 M2,aJ n n,bF (Aj o) (Aj o),aj a a,aj b b,aj c c,aj d d,aj x x,aj y y,aj z z,aJ k k,bF (Aj dd) (Aj dd),aj e.tx e.tx,aj e.thread e.thread,aj e.obj e.obj,aj e.op e.op,aj e.key e.key,aj e.val e.val,aj e.ret e.ret] (aQ [aj e.tx e.tx,aj e.thread e.thread,aj e.obj e.obj,aj e.op e.op,aj e.key e.key,aj e.val e.val,aj e.ret e.ret,aj many many,aJ m m,bF gR gR,bQ M1 M1,aj e.tx e.tx,bQ M2 M2,aJ n n,bF (Aj o) (Aj o),aj a a,aj b b,aj c c,aj d d,aj x x,aj y y,aj z z,aJ k k,bF (Aj dd) (Aj dd),aj e.tx e.tx,aj e.thread e.thread,aj e.obj e.obj,aj e.op e.op,aj e.key e.key,aj e.val e.val,aj e.ret e.ret] (aF (A.eq z (ah 3)) (aB (dQ,1,[aj (A.add .i64 many (ah 1)) many',aJ m m,aU m gR gR,bQ M1 M1,aj e.tx e.tx,bQ M2 M2,aj b b,aJ n n,aU n (Aj o) (Aj o),aj a a',aj b b',aj (ah 3) c',aj d d',aj many x',aj y y',aj (ah 5) z',aJ k k',aU k (Aj dd) gd'])) (aB (bU (bf 12 329),0,[aj many many',aJ m m,aU m gR gR,bQ M1 M1,aj e.tx e.tx,bQ M2 M2,aJ n n,aU n (Aj o) (Aj o),aj a a',aj b b',aj c c',aj d d',aj x x',aj y y',aj z z',aJ k k',aU k (Aj dd) gd']))))))):=by kernel_rfl
theorem au7(A:Prim)(W:Wd)(n m:Nat)(o:Nat->Oj)(many:Int)(gR:Nat->List Sh)(M1 M2:Int->Option Value)(e:Ev)(many':Int):(run (C5 A W CU AP) 700 aC 79 [.code []] (LA 5 e (hpA n m o many gR M1 M2 [(e.tx,ay,.any)] []))).bind (toEnd [toN n m o many' gR M1 M2 [(e.tx,ay,.any)] []])=aF (A.eq many (ah 400)) (aB (bU (bf 6 329),0,[aj many many',aJ m m,aU m gR gR,bQ M1 M1,aj e.tx e.tx,bQ M2 M2,aJ n n,aU n (Aj o) (Aj o)])) (aH (Cm {kind:=ah 5,tx:=e.tx,thread:=e.thread,obj:=e.obj,op:=e.op,key:=e.key,val:=e.val,ret:=e.ret}) (aH (A.eq e.tx e.tx) (aB (bU (bf 11 329),0,[aj many many',aJ m m,aU m gR gR,bQ M1 M1,aj e.tx e.tx,bQ M2 M2,aJ n n,aU n (Aj o) (Aj o)])))):=by kernel_rfl
theorem apU(A:Prim)(W:Wd)(n m:Nat)(o:Nat->Oj)(many:Int)(gR:Nat->List Sh)(M1 M2:Int->Option Value)(e:Ev)(a b c d x y z:Int)(k:Nat)(dd:Nat->De)(many' a' b' c' d' x' y' z':Int)(k':Nat)(gd':Nat->List Sh):(run (C5 A W CU AP) 700 aC 79 [.code []] (LA 6 e (hpA n m o many gR M1 M2 [(e.tx,aC,.ptr 4 0)] []++hpR a b c d x y z k (Aj dd)))).bind (toEnd [toR n m o gR M1 M2 e many' a' b' c' d' x' y' z' k' gd' [],toR n m o gR M1 M2 e many' a' b' c' d' x' y' z' k' gd' [(b,ay,.any)]])=aF (A.eq many (ah 400)) (aB (bU (bf 6 329),0,[aj many many',aJ m m,aU m gR gR,bQ M1 M1,aj e.tx e.tx,bQ M2 M2,aJ n n,aU n (Aj o) (Aj o),aj a a',aj b b',aj c c',aj d d',aj x x',aj y y',aj z z',aJ k k',aU k (Aj dd) gd'])) (aH (Cm {kind:=ah 6,tx:=e.tx,thread:=e.thread,obj:=e.obj,op:=e.op,key:=e.key,val:=e.val,ret:=e.ret}) (aH (A.eq e.tx e.tx) (aQ [aj e.tx e.tx,aj e.thread e.thread,aj e.obj e.obj,aj e.op e.op,aj e.key e.key,aj e.val e.val,aj e.ret e.ret,aj many many,aJ m m,bF gR gR,bQ M1 M1,aj e.tx e.tx,bQ M2 M2,aJ n n,bF (Aj o) (Aj o),aj a a,aj b b,aj c c,aj d d,aj x x,aj y y,aj z z,aJ k k,bF (Aj dd) (Aj dd),aj e.tx e.tx,aj e.thread e.thread,aj e.obj e.obj,aj e.op e.op,aj e.key e.key,aj e.val e.val,aj e.ret e.ret] (aQ [aj e.tx e.tx,aj e.thread e.thread,aj e.obj e.obj,aj e.op e.op,aj e.key e.key,aj e.val e.val,aj e.ret e.ret,aj many many,aJ m m,bF gR gR,bQ M1 M1,aj e.tx e.tx,bQ M2 M2,aJ n n,bF (Aj o) (Aj o),aj a a,aj b b,aj c c,aj d d,aj x x,aj y y,aj z z,aJ k k,bF (Aj dd) (Aj dd),aj e.tx e.tx,aj e.thread e.thread,aj e.obj e.obj,aj e.op e.op,aj e.key e.key,aj e.val e.val,aj e.ret e.ret] (aF (A.eq z (ah 1)) (aB (dQ,1,[aj (A.add .i64 many (ah 1)) many',aJ m m,aU m gR gR,bQ M1 M1,aj e.tx e.tx,bQ M2 M2,aj b b,aJ n n,aU n (Aj o) (Aj o),aj a a',aj b b',aj (ah 4) c',aj d d',aj many x',aj y y',aj (ah 5) z',aJ k k',aU k (Aj dd) gd'])) (aF (A.eq z (ah 2)) (aB (dQ,1,[aj (A.add .i64 many (ah 1)) many',aJ m m,aU m gR gR,bQ M1 M1,aj e.tx e.tx,bQ M2 M2,aj b b,aJ n n,aU n (Aj o) (Aj o),aj a a',aj b b',aj (ah 4) c',aj d d',aj many x',aj y y',aj (ah 5) z',aJ k k',aU k (Aj dd) gd'])) (aF (A.eq z (ah 3)) (aB (dQ,1,[aj (A.add .i64 many (ah 1)) many',aJ m m,aU m gR gR,bQ M1 M1,aj e.tx e.tx,bQ M2 M2,aj b b,aJ n n,aU n (Aj o) (Aj o),aj a a',aj b b',aj (ah 4) c',aj d d',aj many x',aj y y',aj (ah 5) z',aJ k k',aU k (Aj dd) gd'])) (aF (A.eq z (ah 4)) (aB (dQ,1,[aj (A.add .i64 many (ah 1)) many',aJ m m,aU m gR gR,bQ M1 M1,aj e.tx e.tx,bQ M2 M2,aj b b,aJ n n,aU n (Aj o) (Aj o),aj a a',aj b b',aj (ah 4) c',aj d d',aj many x',aj y y',aj (ah 5) z',aJ k k',aU k (Aj dd) gd'])) (aB (bU (bf 12 329),0,[aj many many',aJ m m,aU m gR gR,bQ M1 M1,aj e.tx e.tx,bQ M2 M2,aJ n n,aU n (Aj o) (Aj o),aj a a',aj b b',aj c c',aj d d',aj x x',aj y y',aj z z',aJ k k',aU k (Aj dd) gd'])))))))))):=by kernel_rfl
theorem au8(A:Prim)(W:Wd)(n m:Nat)(o:Nat->Oj)(many:Int)(gR:Nat->List Sh)(M1 M2:Int->Option Value)(e:Ev)(many':Int):(run (C5 A W CU AP) 700 aC 79 [.code []] (LA 6 e (hpA n m o many gR M1 M2 [(e.tx,ay,.any)] []))).bind (toEnd [toN n m o many' gR M1 M2 [(e.tx,ay,.any)] []])=aF (A.eq many (ah 400)) (aB (bU (bf 6 329),0,[aj many many',aJ m m,aU m gR gR,bQ M1 M1,aj e.tx e.tx,bQ M2 M2,aJ n n,aU n (Aj o) (Aj o)])) (aH (Cm {kind:=ah 6,tx:=e.tx,thread:=e.thread,obj:=e.obj,op:=e.op,key:=e.key,val:=e.val,ret:=e.ret}) (aH (A.eq e.tx e.tx) (aB (bU (bf 11 329),0,[aj many many',aJ m m,aU m gR gR,bQ M1 M1,aj e.tx e.tx,bQ M2 M2,aJ n n,aU n (Aj o) (Aj o)])))):=by kernel_rfl
theorem apV(A:Prim)(W:Wd)(n m:Nat)(o:Nat->Oj)(many:Int)(gR:Nat->List Sh)(M1 M2:Int->Option Value)(e:Ev)(a b c d x y z:Int)(k:Nat)(dd:Nat->De)(many' a' b' c' d' x' y' z':Int)(k':Nat)(gd':Nat->List Sh):(run (C5 A W CU AP) 700 aC 79 [.code []] (LA 7 e (hpA n m o many gR M1 M2 [(e.tx,aC,.ptr 4 0)] []++hpR a b c d x y z k (Aj dd)))).bind (toEnd [toR n m o gR M1 M2 e many' a' b' c' d' x' y' z' k' gd' []])=aF (A.eq many (ah 400)) (aB (bU (bf 6 329),0,[aj many many',aJ m m,aU m gR gR,bQ M1 M1,aj e.tx e.tx,bQ M2 M2,aJ n n,aU n (Aj o) (Aj o),aj a a',aj b b',aj c c',aj d d',aj x x',aj y y',aj z z',aJ k k',aU k (Aj dd) gd'])) (aH (Cm {kind:=ah 7,tx:=e.tx,thread:=e.thread,obj:=e.obj,op:=e.op,key:=e.key,val:=e.val,ret:=e.ret}) (aH (A.eq e.tx e.tx) (aQ [aj e.tx e.tx,aj e.thread e.thread,aj e.obj e.obj,aj e.op e.op,aj e.key e.key,aj e.val e.val,aj e.ret e.ret,aj many many,aJ m m,bF gR gR,bQ M1 M1,aj e.tx e.tx,bQ M2 M2,aJ n n,bF (Aj o) (Aj o),aj a a,aj b b,aj c c,aj d d,aj x x,aj y y,aj z z,aJ k k,bF (Aj dd) (Aj dd),aj e.tx e.tx,aj e.thread e.thread,aj e.obj e.obj,aj e.op e.op,aj e.key e.key,aj e.val e.val,aj e.ret e.ret] (aQ [aj e.tx e.tx,aj e.thread e.thread,aj e.obj e.obj,aj e.op e.op,aj e.key e.key,aj e.val e.val,aj e.ret e.ret,aj many many,aJ m m,bF gR gR,bQ M1 M1,aj e.tx e.tx,bQ M2 M2,aJ n n,bF (Aj o) (Aj o),aj a a,aj b b,aj c c,aj d d,aj x x,aj y y,aj z z,aJ k k,bF (Aj dd) (Aj dd),aj e.tx e.tx,aj e.thread e.thread,aj e.obj e.obj,aj e.op e.op,aj e.key e.key,aj e.val e.val,aj e.ret e.ret] (aF (A.eq z (ah 1)) (aB (dQ,0,[aj (A.add .i64 many (ah 1)) many',aJ m m,aU m gR gR,bQ M1 M1,aj e.tx e.tx,bQ M2 M2,aJ n n,aU n (Aj o) (Aj o),aj a a',aj b b',aj c c',aj d d',aj x x',aj y y',aj (ah 4) z',aJ k k',aU k (Aj dd) gd'])) (aB (bU (bf 12 329),0,[aj many many',aJ m m,aU m gR gR,bQ M1 M1,aj e.tx e.tx,bQ M2 M2,aJ n n,aU n (Aj o) (Aj o),aj a a',aj b b',aj c c',aj d d',aj x x',aj y y',aj z z',aJ k k',aU k (Aj dd) gd']))))))):=by kernel_rfl
theorem au9(A:Prim)(W:Wd)(n m:Nat)(o:Nat->Oj)(many:Int)(gR:Nat->List Sh)(M1 M2:Int->Option Value)(e:Ev)(many':Int):(run (C5 A W CU AP) 700 aC 79 [.code []] (LA 7 e (hpA n m o many gR M1 M2 [(e.tx,ay,.any)] []))).bind (toEnd [toN n m o many' gR M1 M2 [(e.tx,ay,.any)] []])=aF (A.eq many (ah 400)) (aB (bU (bf 6 329),0,[aj many many',aJ m m,aU m gR gR,bQ M1 M1,aj e.tx e.tx,bQ M2 M2,aJ n n,aU n (Aj o) (Aj o)])) (aH (Cm {kind:=ah 7,tx:=e.tx,thread:=e.thread,obj:=e.obj,op:=e.op,key:=e.key,val:=e.val,ret:=e.ret}) (aH (A.eq e.tx e.tx) (aB (bU (bf 11 329),0,[aj many many',aJ m m,aU m gR gR,bQ M1 M1,aj e.tx e.tx,bQ M2 M2,aJ n n,aU n (Aj o) (Aj o)])))):=by kernel_rfl
theorem ava(A:Prim)(W:Wd)(n m:Nat)(o:Nat->Oj)(many:Int)(gR:Nat->List Sh)(M1 M2:Int->Option Value)(e:Ev)(a b c d x y z:Int)(k:Nat)(dd:Nat->De)(many' a' b' c' d' x' y' z':Int)(k':Nat)(gd':Nat->List Sh):(run (C5 A W CU AP) 700 aC 79 [.code []] (LA 1 e (hpA n m o many gR M1 M2 [(e.tx,aC,.ptr 4 0)] []++hpR a b c d x y z k (Aj dd)))).bind (toEnd [toR n m o gR M1 M2 e many' a' b' c' d' x' y' z' k' gd' []])=aF (A.eq many (ah 400)) (aB (bU (bf 6 329),0,[aj many many',aJ m m,aU m gR gR,bQ M1 M1,aj e.tx e.tx,bQ M2 M2,aJ n n,aU n (Aj o) (Aj o),aj a a',aj b b',aj c c',aj d d',aj x x',aj y y',aj z z',aJ k k',aU k (Aj dd) gd'])) (aH (Cm {kind:=ah 1,tx:=e.tx,thread:=e.thread,obj:=e.obj,op:=e.op,key:=e.key,val:=e.val,ret:=e.ret}) (aH (A.eq e.tx e.tx) (aB (bU (bf 9 329),0,[aj many many',aJ m m,aU m gR gR,bQ M1 M1,aj e.tx e.tx,bQ M2 M2,aJ n n,aU n (Aj o) (Aj o),aj a a',aj b b',aj c c',aj d d',aj x x',aj y y',aj z z',aJ k k',aU k (Aj dd) gd'])))):=by kernel_rfl
theorem avb(A:Prim)(W:Wd)(n m:Nat)(o:Nat->Oj)(many:Int)(gR:Nat->List Sh)(M1 M2:Int->Option Value)(e:Ev)(q:Nat)(many':Int):(run (C5 A W CU AP) 700 aC 79 [.code []] (LA 1 e (hpA n m o many gR M1 M2 [(e.tx,ay,.any)] [(e.thread,aC,.val (.pointer (ak ⟨q,0,aK⟩)))]))).bind (toEnd [toN n m o many' gR M1 M2 [(e.tx,ay,.any)] [(e.thread,aC,.val (.pointer (ak ⟨q,0,aK⟩)))]])=aF (A.eq many (ah 400)) (aB (bU (bf 6 329),0,[aj many many',aJ m m,aU m gR gR,bQ M1 M1,aj e.tx e.tx,bQ M2 M2,aj e.thread e.thread,jO (dZ (ak {block:=q,off:=0})) (dZ (ak {block:=q,off:=0})),aJ n n,aU n (Aj o) (Aj o)])) (aH (Cm {kind:=ah 1,tx:=e.tx,thread:=e.thread,obj:=e.obj,op:=e.op,key:=e.key,val:=e.val,ret:=e.ret}) (aH (A.eq e.tx e.tx) (aH (A.eq e.thread e.thread) (aB (bU (bf 10 329),0,[aj many many',aJ m m,aU m gR gR,bQ M1 M1,aj e.tx e.tx,bQ M2 M2,aj e.thread e.thread,jO (dZ (ak {block:=q,off:=0})) (dZ (ak {block:=q,off:=0})),aJ n n,aU n (Aj o) (Aj o)]))))):=by kernel_rfl
theorem avc(A:Prim)(W:Wd)(n m:Nat)(o:Nat->Oj)(many:Int)(gR:Nat->List Sh)(M1 M2:Int->Option Value)(e:Ev)(many' a' b' c' d' x' y' z':Int):(run (C5 A W CU AP) 700 aC 79 [.code []] (LA 1 e (hpA n m o many gR M1 M2 [(e.tx,ay,.any)] [(e.thread,ay,.any)]))).bind (toEnd [toB n m o gR M1 M2 e many' a' b' c' d' x' y' z'])=aF (A.eq many (ah 400)) Tree.fail (aH (Cm {kind:=ah 1,tx:=e.tx,thread:=e.thread,obj:=e.obj,op:=e.op,key:=e.key,val:=e.val,ret:=e.ret}) (aH (A.eq e.tx e.tx) (aH (A.eq e.thread e.thread) (aH (A.room (A.addN m 1) 8) (aH (A.eq e.tx e.tx) (aH (A.eq e.thread e.thread) (aB (dQ,0,[aj (A.add .i64 many (ah 1)) many',aJ n n,aU n (Aj o) (Aj o),aJ m m,aU m gR gR,bQ M1 M1,aj e.tx e.tx,aj e.tx e.tx,aj e.tx e.tx,bQ M2 M2,aj e.thread e.thread,aj e.thread e.thread,aj e.thread e.thread,aj e.tx a',aj e.thread b',aj (ah 1) c',aj many d',aj (fJ 0) x',aj (fJ 0) y',aj (ah 1) z'])))))))):=by kernel_rfl
end Go.Aw
namespace Go.BR
open Go Go.Sx
structure Rc where
 id:Int
 th:Int
 st:Int
 bg:Int
 en:Int
 tr:Int
 Ar:List De
 stand:Int
structure Au where
 many:Nat
 rs:List Rc
def Au.Ku(σ:Au)(k:Int):Option Nat:=σ.rs.findIdx? fun r=>r.id==k
def Rc.live(r:Rc):Bool:=!(r.stand==5)
def Au.Lr(σ:Au)(k:Int):Option Nat:=σ.rs.findIdx? fun r=>r.th==k&&r.live
def Gp{α:Type}(f:α->α):List α->List α
 |[]=>[] |[x]=>[f x] |x::y::l=>x::Gp f (y::l)
def Rc.step(many:Nat)(e:Ev)(r:Rc):Nat ⊕ Rc:=
 bif e.kind==2 then bif r.stand==1 then .inr {r with stand:=2,Ar:=r.Ar++[⟨e.obj,e.op,e.key,e.val,0,0,many,-1⟩]} else .inl 12
 else bif e.kind==3 then bif r.stand==2 then bif O9 (r.Ar.getLast?.getD Row.JI).op e.ret then .inr {r with stand:=1,Ar:=Gp (fun d=>{d with ret:=e.ret,got:=e.val,back:=many}) r.Ar} else .inl 13 else .inl 12
 else bif e.kind==4 then bif r.stand==1 then .inr {r with stand:=3,tr:=many,st:=2} else .inl 12
 else bif e.kind==7 then bif r.stand==1 then .inr {r with stand:=4} else .inl 12
 else bif e.kind==5 then bif r.stand==3 then .inr {r with stand:=5,en:=many,st:=3} else .inl 12
 else bif r.stand==1||r.stand==2||r.stand==3||r.stand==4 then .inr {r with stand:=5,en:=many,st:=4} else .inl 12
def Au.feed(σ:Au)(e:Ev):Option Nat×Au:=
 match σ.Ku e.tx with
 |some i=>bif e.kind==1 then (ak 9,σ) else match Rc.step σ.many e (σ.rs.getD i ⟨0,0,0,0,0,0,[],0⟩) with
  | .inl k=>(ak k,σ) | .inr r=>(aK,⟨σ.many+1,σ.rs.set i r⟩)
 |none=>bif e.kind==1 then (match σ.Lr e.thread with
  |some _=>(ak 10,σ) |none=>(aK,⟨σ.many+1,σ.rs++[⟨e.tx,e.thread,1,σ.many,-1,-1,[],1⟩]⟩)) else (ak 11,σ)
structure Au.OK(σ:Au):Prop where
 one:∀(i j:Nat) (r s:Rc),σ.rs[i]?=ak r->σ.rs[j]?=ak s->r.th=s.th->r.live=aC->s.live=aC->i=j
 deed:∀(i:Nat) (r:Rc),σ.rs[i]?=ak r->r.stand=2->r.Ar≠[]
 stands:∀(i:Nat) (r:Rc),σ.rs[i]?=ak r->1<=r.stand/\r.stand<=5
 len:σ.rs.length<=σ.many
 dl:∀(i:Nat) (r:Rc),σ.rs[i]?=ak r->r.Ar.length<=σ.many
end Go.BR
namespace Go.Sx
open Go.BR
def DK(b:Nat):Value:=.pointer (ak ⟨b,0,aK⟩)
structure Lay where
 p:Nat
 v0:Value
 v2:Value
 b1:Nat
 b2:Nat
 R:Nat->Nat
 D:Nat->Value
inductive Tg where
 |au|tx|Ls|bu|ob
 |rc (i:Nat)
 |de (i:Nat)
 deriving DecidableEq
def Lay.blk(L:Lay)(n:Nat):Tg->Option Nat
 | .au=>ak L.p | .tx=>AL L.v2 | .Ls=>ak L.b1 | .bu=>ak L.b2 | .ob=>AL L.v0 | .rc i=>if i<n then ak (L.R i) else aK
 | .de i=>if i<n then AL (L.D i) else aK
def Xx(r:Rc)(d:Value):Array Value:=#[.int .i64 r.id,.int .i64 r.th,.int .i64 r.st,.int .i64 r.bg,.int .i64 r.en,.int .i64 r.tr,d,.int .i64 r.stand]
def deV(d:De):List Value:=[.int .i64 d.obj,.int .i64 d.op,.int .i64 d.key,.int .i64 d.val,.int .i64 d.ret,.int .i64 d.got,.int .i64 d.here,.int .i64 d.back]
structure Dy(H:Mem)(w:World)(n0:Nat)(g0:Nat->List Sh)(σ:Au)(L:Lay):Prop where
 au:w.heap[L.p]?=ak (.cells #[L.v0,.int .i64 σ.many,L.v2,.map (ak L.b1),.map (ak L.b2)] 181 (0,0))
 ob:∃xs,w.ownsRow 0 140 2 L.v0 n0 xs/\Ci H 2 n0 g0 xs
 tx:w.ownsRow 0 182 1 L.v2 σ.rs.length ((aZ σ.rs.length).map fun i=>DK (L.R i))
 Ls:∃ms clk,w.heap[L.b1]?=ak (.map ms clk)/\FI .i64 ms.toList clk fun k=>(σ.Ku k).map fun i=>DK (L.R i)
 bu:∃ms clk,w.heap[L.b2]?=ak (.map ms clk)/\FI .i64 ms.toList clk fun k=>(σ.Lr k).map fun i=>DK (L.R i)
 rc:∀i r,σ.rs[i]?=ak r->w.heap[L.R i]?=ak (.cells (Xx r (L.D i)) 184 (0,0))
 de:∀i r,σ.rs[i]?=ak r->w.ownsRow 0 197 8 (L.D i) r.Ar.length (r.Ar.flatMap deV)
 Gq:∀s t b,L.blk σ.rs.length s=ak b->L.blk σ.rs.length t=ak b->s=t
 un:∀t b,L.blk σ.rs.length t=ak b->H b=aK
section
variable{H H':Mem}{w w':World}{n0:Nat}{g0:Nat->List Sh}{σ:Au}{L:Lay}
theorem ach{e st n:Nat}{v:Value}{xs:List Value}{b:Nat}(h:w.ownsRow 0 e st v n xs)(hb:AL v=ak b):b<w.heap.size:=by
 rcases h.2 with ⟨rfl,_⟩ |⟨g,cap,cur,rfl,_,hg,_⟩
 ·cases hb
 ·cases hb
  exact (bH.1 hg).1
theorem Dy.lt(h:Dy H w n0 g0 σ L){t:Tg}{b:Nat}(hb:L.blk σ.rs.length t=ak b):b<w.heap.size:=by
 cases t with
 |au=>cases hb;exact (bH.1 h.au).1 |tx=>exact ach h.tx hb |Ls=>cases hb;obtain ⟨ms,clk,h1,_⟩:=h.Ls;exact (bH.1 h1).1 |bu=>cases hb;obtain ⟨ms,clk,h1,_⟩:=h.bu;exact (bH.1 h1).1 |ob=>obtain ⟨xs,h1,_⟩:=h.ob;exact ach h1 hb |rc i=>
  simp only[Lay.blk] at hb;split at hb
  ·rename_i hi
   cases hb;exact (bH.1 (h.rc i _ (aS hi))).1
  ·cases hb
 |de i=>
  simp only[Lay.blk] at hb;split at hb
  ·rename_i hi
   exact ach (h.de i _ (aS hi)) hb
  ·cases hb
theorem Dy.keep(h:Dy H w n0 g0 σ L)(hH:H.le H')(hw:∀t b,L.blk σ.rs.length t=ak b->w'.heap[b]?=w.heap[b]?)(hu:∀t b,L.blk σ.rs.length t=ak b->H' b=aK):Dy H' w' n0 g0 σ L:=by
 refine ⟨by rw[hw .au _ rfl];exact h.au,(let ⟨xs,h1,h2⟩:=h.ob;⟨xs,Gs h1 fun b hb=>hw .ob b hb,h2.le hH⟩),Gs h.tx fun b hb=>hw .tx b hb,?_,?_,fun i r hi=>?_,fun i r hi=>Gs (h.de i r hi) fun b hb=>hw (.de i) b ?_,h.Gq,hu⟩
 ·obtain ⟨ms,clk,h1,h2⟩:=h.Ls
  exact ⟨ms,clk,by rw[hw .Ls _ rfl];exact h1,h2⟩
 ·obtain ⟨ms,clk,h1,h2⟩:=h.bu
  exact ⟨ms,clk,by rw[hw .bu _ rfl];exact h1,h2⟩
 ·have hlt:=(aV.1 hi).1
  rw[hw (.rc i) _ (by simp[Lay.blk,hlt])];exact h.rc i r hi
 ·have hlt:=(aV.1 hi).1
  simp[Lay.blk,hlt,hb]
end
open Go.BR
def svE:Option Nat->SV
 |none=>.DT |some k=>.sh (.er k 329)
end Go.Sx
namespace Go.BR
open Go Go.Sx
def Rc.out(many:Nat)(e:Ev)(r:Rc):Option Nat×Nat×Rc:=
 match Rc.step many e r with
 | .inl k=>(ak k,many,r) | .inr r'=>(aK,many+1,r')
theorem TD{α:Type}(f:α->α):∀l:List α,(Gp f l).length=l.length
 |[]=>rfl |[_]=>rfl |_::y::l=>by simp[Gp,TD f (y::l)]
theorem al8{α:Type}[Row α]{l:List α}(h:l≠[]):nth l (l.length - 1)=l.getLast?.getD Row.JI:=by
 simp[nth,List.getLast?_eq_getElem?]
theorem ZC{α:Type}[Row α](f:α->α):∀(l:List α) (i:Nat),i<l.length->nth (Gp f l) i=if i=l.length - 1 then f (nth l i) else nth l i
 |[],i,h=>by simp at h |[x],i,h=>by
  have:i=0:=by simp at h;exact h
  subst this;simp[Gp,nth]
 |x::y::l,0,_=>by simp[Gp,nth] |x::y::l,i+1,h=>by
  have ih:=ZC f (y::l) i (by simpa using h);have e1:nth (Gp f (x::y::l)) (i+1)=nth (Gp f (y::l)) i:=by simp[Gp,nth]
  have e2:nth (x::y::l) (i+1)=nth (y::l) i:=by simp[nth]
  rw[e1,ih,e2];by_cases q:i=(y::l).length - 1
  ·rw[if_pos q,if_pos (by simp at q ⊢;omega)]
  ·rw[if_neg q,if_neg (by simp at q ⊢;omega)]
end Go.BR
namespace Go.Aw
open Go Go.Sx Go.BR
theorem aw4:AV aA (FV W5) 101 apQ:=O56.mono fun H Bv args φ hr h=>by
 clear hr;unfold apQ at h;split at h
 ·rename_i l
  split at h
  ·rename_i e he
   obtain ⟨h1,h2⟩:=h;unfold Cm at h1;simp only[aI] at h1;show (match acf l with|some e=>_|none=>_:Tree Sh).All φ
   rw[he];refine ⟨h1.2,fun _=>?_,fun q=>?_⟩
   ·refine ⟨fun _=>h2,fun q=>?_⟩
    rw[h1.1.2] at q;cases q
   ·rw[h1.1.1] at q;cases q
  ·exact h.elim
 ·exact h.elim
theorem aw5:∀g F,CU g=ak F->AV aA (FV W5) g F:=fun g F h=>by
 unfold CU at h;split at h
 ·cases h;exact aw4
 ·cases h;exact O57
 ·cases h;exact O67
 ·cases h
theorem ajA(stop:Nat->List Nat->Bool):BP aA (C5 Ai W5 CU stop):=C5.Vo aw5 fun g h=>by
 unfold CU at h;split at h;all_goals first|(cases h;done) |kernel_rfl
theorem NY{a:Int}{k:Nat}(h:Ai.eq a (ah k)=aC):a=(k:Int):=by simpa[AX] using h
theorem eqF{a:Int}{k:Nat}(h:Ai.eq a (ah k)=ay):a≠(k:Int):=by simpa[AX] using h
theorem eqS(a:Int):Ai.eq a a=aC:=by simp[AX]
theorem wrapM{many:Nat}(hm:many<400):Ai.add .i64 (many:Int) 1=((many+1:Nat):Int):=by
 rw[Dq,Cj (by omega) (by omega)];rfl
def EI(n m:Nat)(o:Nat->Oj)(gR:Nat->List Sh)(M1 M2:Int->Option Value)(e:Ev)(many:Nat)(r:Rc)(us:List (Int×Bool×SV)):Ry:=
 toR n m o gR M1 M2 e many r.id r.th r.st r.bg r.en r.tr r.stand r.Ar.length (Aj (nth r.Ar)) us
def FW(r:Rc):List (Nat×SB):=hpR r.id r.th r.st r.bg r.en r.tr r.stand r.Ar.length (Aj (nth r.Ar))
section
variable{n m:Nat}{o:Nat->Oj}{many:Nat}{gR:Nat->List Sh}{M1 M2:Int->Option Value}
theorem apW(hm:many<400){e:Ev}(hk:e.kind=4)(hv:Cm e=aC)(r:Rc):
  ES (Gv [EI n m o gR M1 M2 e (Rc.out many e r).2.1 (Rc.out many e r).2.2 []] (fun sv k=>sv=svE (Rc.out many e r).1/\k=0)) ((run (C5 Ai W5 CU AP) 700 aC 79 [.code []] (LA 4 e (hpA n m o many gR M1 M2 [(e.tx,aC,.ptr 4 0)] []++FW r))).bind (toEnd [EI n m o gR M1 M2 e (Rc.out many e r).2.1 (Rc.out many e r).2.2 []])):=by
 obtain ⟨kind,tx,thread,obj,op,key,val,ret⟩:=e;obtain ⟨id,th,st,bg,en,tr,Ar,stand⟩:=r;have hk:kind=4:=hk;subst hk;have hw:=wrapM hm;by_cases hs:stand=1
 ·have e1:Rc.out many ⟨4,tx,thread,obj,op,key,val,ret⟩ ⟨id,th,st,bg,en,tr,Ar,stand⟩=(aK,many+1,⟨id,th,2,bg,en,many,Ar,3⟩):=by
   subst hs;rfl
  rw[e1];unfold EI FW;simp only;rw[apS Ai W5 n m o many gR M1 M2 ⟨4,tx,thread,obj,op,key,val,ret⟩ id th st bg en tr stand Ar.length (nth Ar) (many+1:Nat) id th 2 bg en many 3 Ar.length (Aj (nth Ar)),CQ];repeat' (first
   |exact trivial
   |exact hv
   |exact hw
   |exact eqS _
   |exact rfl
   |exact fun _ _=>rfl
   |(intro q;replace q:=NY q;first|(exfalso;omega) |skip)
   |(intro q;replace q:=eqF q;first|(exfalso;omega) |skip)
   |refine bP ?_ ?_)
 ·have e1:Rc.out many ⟨4,tx,thread,obj,op,key,val,ret⟩ ⟨id,th,st,bg,en,tr,Ar,stand⟩=(ak 12,many,⟨id,th,st,bg,en,tr,Ar,stand⟩):=by
   have d1:(stand==1)=ay:=by rw[beq_eq_false_iff_ne];omega
   simp only[Rc.out,Rc.step,d1];rfl
  rw[e1];unfold EI FW;simp only;rw[apS Ai W5 n m o many gR M1 M2 ⟨4,tx,thread,obj,op,key,val,ret⟩ id th st bg en tr stand Ar.length (nth Ar) (many:Nat) id th st bg en tr stand Ar.length (Aj (nth Ar)),CQ];repeat' (first
   |exact trivial
   |exact hv
   |exact hw
   |exact eqS _
   |exact rfl
   |exact fun _ _=>rfl
   |(intro q;replace q:=NY q;first|(exfalso;omega) |skip)
   |(intro q;replace q:=eqF q;first|(exfalso;omega) |skip)
   |refine bP ?_ ?_)
theorem apX(hm:many<400){e:Ev}(hk:e.kind=7)(hv:Cm e=aC)(r:Rc):
  ES (Gv [EI n m o gR M1 M2 e (Rc.out many e r).2.1 (Rc.out many e r).2.2 []] (fun sv k=>sv=svE (Rc.out many e r).1/\k=0)) ((run (C5 Ai W5 CU AP) 700 aC 79 [.code []] (LA 7 e (hpA n m o many gR M1 M2 [(e.tx,aC,.ptr 4 0)] []++FW r))).bind (toEnd [EI n m o gR M1 M2 e (Rc.out many e r).2.1 (Rc.out many e r).2.2 []])):=by
 obtain ⟨kind,tx,thread,obj,op,key,val,ret⟩:=e;obtain ⟨id,th,st,bg,en,tr,Ar,stand⟩:=r;have hk:kind=7:=hk;subst hk;have hw:=wrapM hm;by_cases hs:stand=1
 ·have e1:Rc.out many ⟨7,tx,thread,obj,op,key,val,ret⟩ ⟨id,th,st,bg,en,tr,Ar,stand⟩=(aK,many+1,⟨id,th,st,bg,en,tr,Ar,4⟩):=by
   subst hs;rfl
  rw[e1];unfold EI FW;simp only;rw[apV Ai W5 n m o many gR M1 M2 ⟨7,tx,thread,obj,op,key,val,ret⟩ id th st bg en tr stand Ar.length (nth Ar) (many+1:Nat) id th st bg en tr 4 Ar.length (Aj (nth Ar)),CQ];repeat' (first
   |exact trivial
   |exact hv
   |exact hw
   |exact eqS _
   |exact rfl
   |exact fun _ _=>rfl
   |(intro q;replace q:=NY q;first|(exfalso;omega) |skip)
   |(intro q;replace q:=eqF q;first|(exfalso;omega) |skip)
   |refine bP ?_ ?_)
 ·have e1:Rc.out many ⟨7,tx,thread,obj,op,key,val,ret⟩ ⟨id,th,st,bg,en,tr,Ar,stand⟩=(ak 12,many,⟨id,th,st,bg,en,tr,Ar,stand⟩):=by
   have d1:(stand==1)=ay:=by rw[beq_eq_false_iff_ne];omega
   simp only[Rc.out,Rc.step,d1];rfl
  rw[e1];unfold EI FW;simp only;rw[apV Ai W5 n m o many gR M1 M2 ⟨7,tx,thread,obj,op,key,val,ret⟩ id th st bg en tr stand Ar.length (nth Ar) (many:Nat) id th st bg en tr stand Ar.length (Aj (nth Ar)),CQ];repeat' (first
   |exact trivial
   |exact hv
   |exact hw
   |exact eqS _
   |exact rfl
   |exact fun _ _=>rfl
   |(intro q;replace q:=NY q;first|(exfalso;omega) |skip)
   |(intro q;replace q:=eqF q;first|(exfalso;omega) |skip)
   |refine bP ?_ ?_)
theorem apY(hm:many<400){e:Ev}(hk:e.kind=5)(hv:Cm e=aC)(r:Rc):
  ES (Gv [EI n m o gR M1 M2 e (Rc.out many e r).2.1 (Rc.out many e r).2.2 [],EI n m o gR M1 M2 e (Rc.out many e r).2.1 (Rc.out many e r).2.2 [(r.th,ay,.any)]] (fun sv k=>sv=svE (Rc.out many e r).1/\k=(bif (Rc.out many e r).1.isNone then 1 else 0))) ((run (C5 Ai W5 CU AP) 700 aC 79 [.code []] (LA 5 e (hpA n m o many gR M1 M2 [(e.tx,aC,.ptr 4 0)] []++FW r))).bind (toEnd [EI n m o gR M1 M2 e (Rc.out many e r).2.1 (Rc.out many e r).2.2 [],EI n m o gR M1 M2 e (Rc.out many e r).2.1 (Rc.out many e r).2.2 [(r.th,ay,.any)]])):=by
 obtain ⟨kind,tx,thread,obj,op,key,val,ret⟩:=e;obtain ⟨id,th,st,bg,en,tr,Ar,stand⟩:=r;have hk:kind=5:=hk;subst hk;have hw:=wrapM hm;by_cases hs:stand=3
 ·have e1:Rc.out many ⟨5,tx,thread,obj,op,key,val,ret⟩ ⟨id,th,st,bg,en,tr,Ar,stand⟩=(aK,many+1,⟨id,th,3,bg,many,tr,Ar,5⟩):=by
   subst hs;rfl
  rw[e1];unfold EI FW;simp only;rw[apT Ai W5 n m o many gR M1 M2 ⟨5,tx,thread,obj,op,key,val,ret⟩ id th st bg en tr stand Ar.length (nth Ar) (many+1:Nat) id th 3 bg many tr 5 Ar.length (Aj (nth Ar)),CQ];repeat' (first
   |exact trivial
   |exact hv
   |exact hw
   |exact eqS _
   |exact rfl
   |exact fun _ _=>rfl
   |(intro q;replace q:=NY q;first|(exfalso;omega) |skip)
   |(intro q;replace q:=eqF q;first|(exfalso;omega) |skip)
   |refine bP ?_ ?_)
 ·have e1:Rc.out many ⟨5,tx,thread,obj,op,key,val,ret⟩ ⟨id,th,st,bg,en,tr,Ar,stand⟩=(ak 12,many,⟨id,th,st,bg,en,tr,Ar,stand⟩):=by
   have d3:(stand==3)=ay:=by rw[beq_eq_false_iff_ne];omega
   simp only[Rc.out,Rc.step,d3,kR];rfl
  rw[e1];unfold EI FW;simp only;rw[apT Ai W5 n m o many gR M1 M2 ⟨5,tx,thread,obj,op,key,val,ret⟩ id th st bg en tr stand Ar.length (nth Ar) (many:Nat) id th st bg en tr stand Ar.length (Aj (nth Ar)),CQ];repeat' (first
   |exact trivial
   |exact hv
   |exact hw
   |exact eqS _
   |exact rfl
   |exact fun _ _=>rfl
   |(intro q;replace q:=NY q;first|(exfalso;omega) |skip)
   |(intro q;replace q:=eqF q;first|(exfalso;omega) |skip)
   |refine bP ?_ ?_)
theorem apZ(hm:many<400){e:Ev}(hk:e.kind=6)(hv:Cm e=aC)(r:Rc):
  ES (Gv [EI n m o gR M1 M2 e (Rc.out many e r).2.1 (Rc.out many e r).2.2 [],EI n m o gR M1 M2 e (Rc.out many e r).2.1 (Rc.out many e r).2.2 [(r.th,ay,.any)]] (fun sv k=>sv=svE (Rc.out many e r).1/\k=(bif (Rc.out many e r).1.isNone then 1 else 0))) ((run (C5 Ai W5 CU AP) 700 aC 79 [.code []] (LA 6 e (hpA n m o many gR M1 M2 [(e.tx,aC,.ptr 4 0)] []++FW r))).bind (toEnd [EI n m o gR M1 M2 e (Rc.out many e r).2.1 (Rc.out many e r).2.2 [],EI n m o gR M1 M2 e (Rc.out many e r).2.1 (Rc.out many e r).2.2 [(r.th,ay,.any)]])):=by
 obtain ⟨kind,tx,thread,obj,op,key,val,ret⟩:=e;obtain ⟨id,th,st,bg,en,tr,Ar,stand⟩:=r;have hk:kind=6:=hk;subst hk;have hw:=wrapM hm;by_cases hs:stand=1\/stand=2\/stand=3\/stand=4
 ·have e1:Rc.out many ⟨6,tx,thread,obj,op,key,val,ret⟩ ⟨id,th,st,bg,en,tr,Ar,stand⟩=(aK,many+1,⟨id,th,4,bg,many,tr,Ar,5⟩):=by
   rcases hs with rfl|rfl|rfl|rfl<;>rfl
  rw[e1];unfold EI FW;simp only;rw[apU Ai W5 n m o many gR M1 M2 ⟨6,tx,thread,obj,op,key,val,ret⟩ id th st bg en tr stand Ar.length (nth Ar) (many+1:Nat) id th 4 bg many tr 5 Ar.length (Aj (nth Ar)),CQ];repeat' (first
   |exact trivial
   |exact hv
   |exact hw
   |exact eqS _
   |exact rfl
   |exact fun _ _=>rfl
   |(intro q;replace q:=NY q;first|(exfalso;omega) |skip)
   |(intro q;replace q:=eqF q;first|(exfalso;omega) |skip)
   |refine bP ?_ ?_)
 ·have e1:Rc.out many ⟨6,tx,thread,obj,op,key,val,ret⟩ ⟨id,th,st,bg,en,tr,Ar,stand⟩=(ak 12,many,⟨id,th,st,bg,en,tr,Ar,stand⟩):=by
   have d1:(stand==1)=ay:=by rw[beq_eq_false_iff_ne];omega
   have d2:(stand==2)=ay:=by rw[beq_eq_false_iff_ne];omega
   have d3:(stand==3)=ay:=by rw[beq_eq_false_iff_ne];omega
   have d4:(stand==4)=ay:=by rw[beq_eq_false_iff_ne];omega
   simp only[Rc.out,Rc.step,d1,d2,d3,d4,kR];rfl
  rw[e1];unfold EI FW;simp only;rw[apU Ai W5 n m o many gR M1 M2 ⟨6,tx,thread,obj,op,key,val,ret⟩ id th st bg en tr stand Ar.length (nth Ar) (many:Nat) id th st bg en tr stand Ar.length (Aj (nth Ar)),CQ];repeat' (first
   |exact trivial
   |exact hv
   |exact hw
   |exact eqS _
   |exact rfl
   |exact fun _ _=>rfl
   |(intro q;replace q:=NY q;first|(exfalso;omega) |skip)
   |(intro q;replace q:=eqF q;first|(exfalso;omega) |skip)
   |refine bP ?_ ?_)
theorem ap0(hm:many<400){e:Ev}(hk:e.kind=2)(hv:Cm e=aC)(r:Rc)(hl:r.Ar.length<=1000)(h1:0<=e.obj)(h2:e.obj<n)(h3:DV e.op=(o e.obj.toNat).kind):
  ES (Gv [EI n m o gR M1 M2 e (Rc.out many e r).2.1 (Rc.out many e r).2.2 []] (fun sv k=>sv=svE (Rc.out many e r).1/\k=0)) ((run (C5 Ai W5 CU AP) 700 aC 79 [.code []] (LA 2 e (hpA n m o many gR M1 M2 [(e.tx,aC,.ptr 4 0)] []++FW r))).bind (toEnd [EI n m o gR M1 M2 e (Rc.out many e r).2.1 (Rc.out many e r).2.2 []])):=by
 obtain ⟨kind,tx,thread,obj,op,key,val,ret⟩:=e;obtain ⟨id,th,st,bg,en,tr,Ar,stand⟩:=r;have hk:kind=2:=hk;subst hk;have hw:=wrapM hm;have hl:Ar.length<=1000:=hl;have h1:0<=obj:=h1;have h2:obj<n:=h2;have h3:DV op=(o obj.toNat).kind:=h3;have ho:Ai.le (Ai.AZ n) obj=aC->False:=fun q=>by simp[DJ,AY] at q;omega
 have hi:Ai.inB obj n=aC:=by simp[BJ];omega
 have hq:Ai.nt (Ai.eq (DV op) (o (Ai.toN obj)).kind)=aC->False:=fun q=>by
  simp[CB,AX,CX] at q;exact q h3
 have hroom:Ai.room (Ai.addN Ar.length 1) 64=aC:=by
  show decide ((Ar.length+1)*64<=140737488355328/\Ar.length+1<=maxLen)=aC;rw[maxLen_eq];exact decide_eq_true ⟨by omega,by omega⟩
 have hsn:∀i,i<Ar.length+1->Ai.snoc (Aj (nth Ar)) Ar.length (Bh [[.i .i64 obj,.i .i64 op,.i .i64 key,.i .i64 val,.i .i64 0,.i .i64 0,.i .i64 many,.i .i64 (-1)]]) i=Aj (nth (Ar++[(⟨obj,op,key,val,0,0,many,-1⟩:De)])) i:=PU (α:=De) _ _ rfl;have hlen:Ar.length+1=(Ar++[(⟨obj,op,key,val,0,0,many,-1⟩:De)]).length:=by simp
 by_cases hs:stand=1
 ·have e1:Rc.out many ⟨2,tx,thread,obj,op,key,val,ret⟩ ⟨id,th,st,bg,en,tr,Ar,stand⟩=(aK,many+1,⟨id,th,st,bg,en,tr,Ar++[⟨obj,op,key,val,0,0,many,-1⟩],2⟩):=by
   subst hs;rfl
  rw[e1];unfold EI FW;simp only;rw[apR Ai W5 n m o many gR M1 M2 ⟨2,tx,thread,obj,op,key,val,ret⟩ id th st bg en tr stand Ar.length (nth Ar) (many+1:Nat) id th st bg en tr 2 (Ar++[(⟨obj,op,key,val,0,0,(many:Int),-1⟩:De)]).length (Aj (nth (Ar++[(⟨obj,op,key,val,0,0,(many:Int),-1⟩:De)]))),CQ];repeat' (first
   |exact trivial
   |exact hv
   |exact hw
   |exact hi
   |exact hroom
   |exact hlen
   |exact hsn
   |(intro q;exact (ho q).elim)
   |(intro q;exact (hq q).elim)
   |exact eqS _
   |exact rfl
   |exact fun _ _=>rfl
   |(intro q;replace q:=NY q;first|(exfalso;omega) |skip)
   |(intro q;replace q:=eqF q;first|(exfalso;omega) |skip)
   |intro _
   |refine bP ?_ ?_)
 ·have e1:Rc.out many ⟨2,tx,thread,obj,op,key,val,ret⟩ ⟨id,th,st,bg,en,tr,Ar,stand⟩=(ak 12,many,⟨id,th,st,bg,en,tr,Ar,stand⟩):=by
   have d1:(stand==1)=ay:=by rw[beq_eq_false_iff_ne];omega
   simp only[Rc.out,Rc.step,d1];rfl
  rw[e1];unfold EI FW;simp only;rw[apR Ai W5 n m o many gR M1 M2 ⟨2,tx,thread,obj,op,key,val,ret⟩ id th st bg en tr stand Ar.length (nth Ar) (many:Nat) id th st bg en tr stand Ar.length (Aj (nth Ar)),CQ];repeat' (first
   |exact trivial
   |exact hv
   |exact hw
   |exact hi
   |exact hroom
   |exact hlen
   |exact hsn
   |(intro q;exact (ho q).elim)
   |(intro q;exact (hq q).elim)
   |exact eqS _
   |exact rfl
   |exact fun _ _=>rfl
   |(intro q;replace q:=NY q;first|(exfalso;omega) |skip)
   |(intro q;replace q:=eqF q;first|(exfalso;omega) |skip)
   |intro _
   |refine bP ?_ ?_)
theorem ap1(hm:many<400){e:Ev}(hk:e.kind=3)(hv:Cm e=aC)(r:Rc)(hl:r.Ar.length<=1000)(hd:r.stand=2->r.Ar≠[]):
  ES (Gv [EI n m o gR M1 M2 e (Rc.out many e r).2.1 (Rc.out many e r).2.2 []] (fun sv k=>sv=svE (Rc.out many e r).1/\k=0)) ((run (C5 Ai W5 CU AP) 700 aC 79 [.code []] (LA 3 e (hpA n m o many gR M1 M2 [(e.tx,aC,.ptr 4 0)] []++FW r))).bind (toEnd [EI n m o gR M1 M2 e (Rc.out many e r).2.1 (Rc.out many e r).2.2 []])):=by
 obtain ⟨kind,tx,thread,obj,op,key,val,ret⟩:=e;obtain ⟨id,th,st,bg,en,tr,Ar,stand⟩:=r;have hk:kind=3:=hk;subst hk;have hw:=wrapM hm;have hl:Ar.length<=1000:=hl;have hd:stand=2->Ar≠[]:=hd;by_cases hs:stand=2
 ·have hd:=hd hs
  have hpos:0<Ar.length:=List.length_pos_iff.2 hd;have hix:Ai.toN (Ai.sub .i64 (Ai.AZ Ar.length) (ah 1))=Ar.length - 1:=by
   rw[Na,AY,CX,Cj (by simp only[fM];omega) (by simp only[fM];omega)];simp only[fM];omega
  have hi:Ai.inB (Ai.sub .i64 (Ai.AZ Ar.length) (ah 1)) Ar.length=aC:=by
   rw[Na,AY,Cj (by simp only[fM];omega) (by simp only[fM];omega),BJ];simp only[fM];exact decide_eq_true ⟨by omega,by omega⟩
  have hlast:nth Ar (Ar.length - 1)=Ar.getLast?.getD Row.JI:=al8 hd;by_cases hf:O9 (Ar.getLast?.getD Row.JI).op ret=aC
  ·have hq:Ai.nt (O9 (nth Ar (Ai.toN (Ai.sub .i64 (Ai.AZ Ar.length) (ah 1)))).op ret)=aC->False:=fun q=>by
    rw[hix,hlast,CB,hf] at q;cases q
   have hlen:Ar.length=(Gp (fun d:De=>{d with ret:=ret,got:=val,back:=(many:Int)}) Ar).length:=(TD _ _).symm
   have hup:∀i,i<Ar.length->Ai.upd (Ai.upd (Ai.upd (Aj (nth Ar)) (Ai.toN (Ai.sub .i64 (Ai.AZ Ar.length) (ah 1))) 4 [.i .i64 ret]) (Ai.toN (Ai.sub .i64 (Ai.AZ Ar.length) (ah 1))) 5 [.i .i64 val]) (Ai.toN (Ai.sub .i64 (Ai.AZ Ar.length) (ah 1))) 7 [.i .i64 many] i=Aj (nth (Gp (fun d:De=>{d with ret:=ret,got:=val,back:=(many:Int)}) Ar)) i:=fun i hi=>by
    rw[hix];simp only[Aj];rw[ZC _ _ _ hi];by_cases q:i=Ar.length - 1
    ·rw[if_pos q]
     subst q;simp only[Ai,if_true];rfl
    ·rw[if_neg q]
     simp only[Ai,if_neg q];rfl
   have e1:Rc.out many ⟨3,tx,thread,obj,op,key,val,ret⟩ ⟨id,th,st,bg,en,tr,Ar,stand⟩=(aK,many+1,⟨id,th,st,bg,en,tr,Gp (fun d=>{d with ret:=ret,got:=val,back:=many}) Ar,1⟩):=by
    subst hs;simp only[Rc.out,Rc.step,hf];rfl
   rw[e1];unfold EI FW;simp only;rw[ajz Ai W5 n m o many gR M1 M2 ⟨3,tx,thread,obj,op,key,val,ret⟩ id th st bg en tr stand Ar.length (nth Ar) (many+1:Nat) id th st bg en tr 1 (Gp (fun d:De=>{d with ret:=ret,got:=val,back:=(many:Int)}) Ar).length (Aj (nth (Gp (fun d:De=>{d with ret:=ret,got:=val,back:=(many:Int)}) Ar))),CQ]
   repeat' (first
    |exact trivial
    |exact hv
    |exact hw
    |exact hi
    |exact hlen
    |exact hup
    |(intro q;exact (hq q).elim)
    |exact eqS _
    |exact rfl
    |exact fun _ _=>rfl
    |(intro q;replace q:=NY q;first|(exfalso;omega) |skip)
    |(intro q;replace q:=eqF q;first|(exfalso;omega) |skip)
    |intro _
    |refine bP ?_ ?_)
  ·have hf:O9 (Ar.getLast?.getD Row.JI).op ret=ay:=by simpa using hf
   have hq:Ai.nt (O9 (nth Ar (Ai.toN (Ai.sub .i64 (Ai.AZ Ar.length) (ah 1)))).op ret)=ay->False:=fun q=>by
    rw[hix,hlast,CB,hf] at q;cases q
   have hlen:=hl;have hup:=hl;have e1:Rc.out many ⟨3,tx,thread,obj,op,key,val,ret⟩ ⟨id,th,st,bg,en,tr,Ar,stand⟩=(ak 13,many,⟨id,th,st,bg,en,tr,Ar,stand⟩):=by
    subst hs;simp only[Rc.out,Rc.step,hf];rfl
   rw[e1];unfold EI FW;simp only;rw[ajz Ai W5 n m o many gR M1 M2 ⟨3,tx,thread,obj,op,key,val,ret⟩ id th st bg en tr stand Ar.length (nth Ar) (many:Nat) id th st bg en tr stand Ar.length (Aj (nth Ar)),CQ];repeat' (first
    |exact trivial
    |exact hv
    |exact hw
    |exact hi
    |exact hlen
    |exact hup
    |(intro q;exact (hq q).elim)
    |exact eqS _
    |exact rfl
    |exact fun _ _=>rfl
    |(intro q;replace q:=NY q;first|(exfalso;omega) |skip)
    |(intro q;replace q:=eqF q;first|(exfalso;omega) |skip)
    |intro _
    |refine bP ?_ ?_)
 ·have hi:=hl
  have hlen:=hl;have hup:=hl;have hq:=hl;have e1:Rc.out many ⟨3,tx,thread,obj,op,key,val,ret⟩ ⟨id,th,st,bg,en,tr,Ar,stand⟩=(ak 12,many,⟨id,th,st,bg,en,tr,Ar,stand⟩):=by
   have d1:(stand==2)=ay:=by rw[beq_eq_false_iff_ne];omega
   simp only[Rc.out,Rc.step,d1];rfl
  rw[e1];unfold EI FW;simp only;rw[ajz Ai W5 n m o many gR M1 M2 ⟨3,tx,thread,obj,op,key,val,ret⟩ id th st bg en tr stand Ar.length (nth Ar) (many:Nat) id th st bg en tr stand Ar.length (Aj (nth Ar)),CQ];repeat' (first
   |exact trivial
   |exact hv
   |exact hw
   |exact eqS _
   |exact rfl
   |exact fun _ _=>rfl
   |(intro q;replace q:=NY q;first|(exfalso;omega) |skip)
   |(intro q;replace q:=eqF q;first|(exfalso;omega) |skip)
   |refine bP ?_ ?_)
end
end Go.Aw
namespace Go.Sx
open Go.BR
theorem OA(d:De):(deV d).length=8:=rfl
theorem flat_length:∀l:List De,(l.flatMap deV).length=l.length*8
 |[]=>rfl |d::l=>by simp[flat_length l,OA,Nat.add_mul];omega
theorem aci:∀(l:List De) (i j:Nat),j<8->(l.flatMap deV)[i*8+j]?=(l[i]?).bind fun d=>(deV d)[j]?
 |[],i,j,_=>by simp |d::l,0,j,hj=>by
  simp only[oO,Nat.zero_mul,Nat.zero_add,List.getElem?_cons_zero,eU];rw[dN (by rw[OA];exact hj)]
 |d::l,i+1,j,hj=>by
  simp only[oO,List.getElem?_cons_succ];rw[List.getElem?_append_right (by rw[OA];omega),OA,show (i+1)*8+j - 8=i*8+j by omega];exact aci l i j hj
theorem ap2(d:De):∀u∈deV d,u.oneCell'=aC:=fun u hu=>by
 simp[deV] at hu;rcases hu with rfl|rfl|rfl|rfl|rfl|rfl|rfl|rfl<;>rfl
theorem ap3{H:Mem}(d:De)(j:Nat)(s:Sh)(v:Value)(h1:(deR d)[j]?=ak s)(h2:(deV d)[j]?=ak v):Rep H s v:=by
 match j,h1,h2 with
 |0,h1,h2=>cases h1;cases h2;exact .i _ _ |1,h1,h2=>cases h1;cases h2;exact .i _ _ |2,h1,h2=>cases h1;cases h2;exact .i _ _ |3,h1,h2=>cases h1;cases h2;exact .i _ _ |4,h1,h2=>cases h1;cases h2;exact .i _ _ |5,h1,h2=>cases h1;cases h2;exact .i _ _ |6,h1,h2=>cases h1;cases h2;exact .i _ _ |7,h1,h2=>cases h1;cases h2;exact .i _ _ |j+8,h1,h2=>simp[deR] at h1
theorem aec{α:Type}[Row α]{l:List α}{i:Nat}(h:i<l.length):l[i]?=ak (nth l i):=by
 simp[nth,aX,h]
theorem ZE{H:Mem}(l:List De):Ci H 8 l.length (Aj (nth l)) (l.flatMap deV):=by
 refine ⟨flat_length l,fun i _=>rfl,fun u hu=>?_,fun i j s v hi h1 h2=>?_⟩
 ·obtain ⟨d,_,hd⟩:=List.mem_flatMap.1 hu
  exact ap2 d u hd
 ·have hj:j<8:=by
   have:=(aV.1 h1).1;exact this
  rw[aci l i j hj,aec hi] at h2;exact ap3 (nth l i) j s v h1 h2
theorem acj{H:Mem}{l:List De}{xs:List Value}(h:Ci H 8 l.length (Aj (nth l)) xs):xs=l.flatMap deV:=by
 apply lM;intro q;by_cases hq:q<l.length*8
 ·have hi:q / 8<l.length:=by omega
  have hj:q % 8<8:=by omega
  have e:q=q / 8*8+q % 8:=by omega
  rw[e,aci l _ _ hj,aec hi];have hx:q / 8*8+q % 8<xs.length:=by rw[h.1];omega
  rw[aS hx];simp only[eU];have hs:∃s,(deR (nth l (q / 8)))[q % 8]?=ak s:=⟨_,aS (by exact hj)⟩;obtain ⟨s,hs⟩:=hs;have hr:=h.2.2.2 (q / 8) (q % 8) s _ hi hs (aS hx);generalize xs[q / 8*8+q % 8]=v at hr;generalize q % 8=j at hs hj hr;match j,hs,hj with
  |0,hs,_=>cases hs;cases hr;rfl |1,hs,_=>cases hs;cases hr;rfl |2,hs,_=>cases hs;cases hr;rfl |3,hs,_=>cases hs;cases hr;rfl |4,hs,_=>cases hs;cases hr;rfl |5,hs,_=>cases hs;cases hr;rfl |6,hs,_=>cases hs;cases hr;rfl |7,hs,_=>cases hs;cases hr;rfl |j+8,_,hj=>omega
 ·rw[kE (by rw[h.1];omega),kE (by rw[flat_length];omega)]
def G9(R:Nat->Nat):Nat->List Sh:=fun j=>[.v (DK (R j))]
theorem al9{H:Mem}(R:Nat->Nat)(n:Nat):Ci H 1 n (G9 R) ((aZ n).map fun i=>DK (R i)):=by
 refine ⟨by simp,fun i _=>rfl,fun u hu=>?_,fun i j s v hi h1 h2=>?_⟩
 ·obtain ⟨i,_,rfl⟩:=List.mem_map.1 hu
  rfl
 ·have hj:j=0:=by
   have:=(aV.1 h1).1;simp[G9] at this;exact this
  subst hj;cases h1;simp[hi] at h2;subst h2;exact .v _ rfl
theorem QX{H:Mem}{R:Nat->Nat}{n:Nat}{xs:List Value}(h:Ci H 1 n (G9 R) xs):xs=(aZ n).map fun i=>DK (R i):=by
 apply lM;intro q;by_cases hq:q<n
 ·have hx:q<xs.length:=by rw[h.1];omega
  rw[aS hx];have hr:=h.2.2.2 q 0 _ xs[q] hq rfl (by rw[Nat.mul_one,Nat.add_zero];exact aS hx);generalize xs[q]=v at hr ⊢;cases hr;simp[hq]
 ·rw[kE (by rw[h.1];omega),kE (by simp;omega)]
section
variable{H H':Mem}{E E':Env}{w w':World}{n0:Nat}{g0:Nat->List Sh}{σ σ':Au}{L L':Lay}
theorem TF(hA:Dy H w n0 g0 σ L){own:Nat->Prop}{V:Tg->Prop}(hown:∀b,own b↔∃t,V t/\L.blk σ.rs.length t=ak b)(hW:Eh ⟨w,own,H⟩ H' w')(hH:H.le H')
  (hV:V .au/\V .tx/\V .Ls/\V .bu/\V .ob) (hV2:∀i,V (.rc i)↔V (.de i))
  (au:w'.heap[L'.p]?=ak (.cells #[L'.v0,.int .i64 σ'.many,L'.v2,.map (ak L'.b1),.map (ak L'.b2)] 181 (0,0))) (ob:∃xs,w'.ownsRow 0 140 2 L'.v0 n0 xs/\Ci H' 2 n0 g0 xs)
  (tx:w'.ownsRow 0 182 1 L'.v2 σ'.rs.length ((aZ σ'.rs.length).map fun i=>DK (L'.R i)))
  (Ls:∃ms clk,w'.heap[L'.b1]?=ak (.map ms clk)/\FI .i64 ms.toList clk fun k=>(σ'.Ku k).map fun i=>DK (L'.R i))
  (bu:∃ms clk,w'.heap[L'.b2]?=ak (.map ms clk)/\FI .i64 ms.toList clk fun k=>(σ'.Lr k).map fun i=>DK (L'.R i))
  (rcV:∀i r,σ'.rs[i]?=ak r->V (.rc i)->w'.heap[L'.R i]?=ak (.cells (Xx r (L'.D i)) 184 (0,0))/\w'.ownsRow 0 197 8 (L'.D i) r.Ar.length (r.Ar.flatMap deV))
  (old:∀i r,σ'.rs[i]?=ak r->¬V (.rc i)->σ.rs[i]?=ak r/\L'.R i=L.R i/\L'.D i=L.D i)
  (aaq:∀t b,V t->L'.blk σ'.rs.length t=ak b->H' b=aK/\(w.heap.size<=b\/own b))
  (ar0:∀s t b,V s->V t->L'.blk σ'.rs.length s=ak b->L'.blk σ'.rs.length t=ak b->s=t) :
  Dy H' w' n0 g0 σ' L'/\∀t b,L'.blk σ'.rs.length t=ak b->w.heap.size<=b\/∃t',L.blk σ.rs.length t'=ak b:=by
 have Ui:∀t b,¬V t->L'.blk σ'.rs.length t=ak b->L.blk σ.rs.length t=ak b:=fun t b hv hb=>by
  cases t with
  |au=>exact (hv hV.1).elim |tx=>exact (hv hV.2.1).elim |Ls=>exact (hv hV.2.2.1).elim |bu=>exact (hv hV.2.2.2.1).elim |ob=>exact (hv hV.2.2.2.2).elim |rc i=>
   simp only[Lay.blk] at hb ⊢;split at hb
   ·rename_i hi
    obtain ⟨o1,o2,o3⟩:=old i _ (aS hi) hv;rw[if_pos (aV.1 o1).1,<-o2];exact hb
   ·cases hb
  |de i=>
   simp only[Lay.blk] at hb ⊢;split at hb
   ·rename_i hi
    obtain ⟨o1,o2,o3⟩:=old i _ (aS hi) fun q=>hv ((hV2 i).1 q);rw[if_pos (aV.1 o1).1,<-o3];exact hb
   ·cases hb
 have aar:∀t b,¬V t->L.blk σ.rs.length t=ak b->¬own b:=fun t b hv hb ho=>by
  obtain ⟨t',h1,h2⟩:=(hown b).1 ho;have:=hA.Gq _ _ _ hb h2;subst this;exact hv h1
 have kept:∀t b,¬V t->L.blk σ.rs.length t=ak b->w'.heap[b]?=w.heap[b]?:=fun t b hv hb=>hW.kept b (hA.lt hb) (aar t b hv hb);refine ⟨⟨au,ob,tx,Ls,bu,fun i r hi=>?_,fun i r hi=>?_,fun s t b hs ht=>?_,fun t b hb=>?_⟩,fun t b hb=>?_⟩
 ·by_cases hv:V (.rc i)
  ·exact (rcV i r hi hv).1
  ·obtain ⟨o1,o2,o3⟩:=old i r hi hv
   rw[o2,o3,kept (.rc i) _ hv (by simp[Lay.blk,(aV.1 o1).1])];exact hA.rc i r o1
 ·by_cases hv:V (.rc i)
  ·exact (rcV i r hi hv).2
  ·obtain ⟨o1,o2,o3⟩:=old i r hi hv
   rw[o3];refine Gs (hA.de i r o1) fun b hb=>kept (.de i) b (fun q=>hv ((hV2 i).2 q)) ?_;simp[Lay.blk,(aV.1 o1).1,hb]
 ·by_cases vs:V s<;>by_cases vt:V t
  ·exact ar0 s t b vs vt hs ht
  ·exfalso
   have h1:=Ui t b vt ht;rcases (aaq s b vs hs).2 with q|q
   ·have:=hA.lt h1;omega
   ·exact aar t b vt h1 q
  ·exfalso
   have h1:=Ui s b vs hs;rcases (aaq t b vt ht).2 with q|q
   ·have:=hA.lt h1;omega
   ·exact aar s b vs h1 q
  ·exact hA.Gq s t b (Ui s b vs hs) (Ui t b vt ht)
 ·by_cases hv:V t
  ·exact (aaq t b hv hb).1
  ·have h1:=Ui t b hv hb
   cases hx:H' b with
   |none=>rfl |some o=>
    rcases hW.fresh b (by rw[hx];simp) with q|q|q
    ·exact (q (hA.un t b h1)).elim
    ·have:=hA.lt h1
     have q:w.heap.size<=b:=q;omega
    ·exact (aar t b hv h1 q).elim
 ·by_cases hv:V t
  ·rcases (aaq t b hv hb).2 with q|q
   ·exact .inl q
   ·obtain ⟨t',_,h2⟩:=(hown b).1 q
    exact .inr ⟨t',h2⟩
  ·exact .inr ⟨t,Ui t b hv hb⟩
end
open Go.BR Go.Aw
def Jg(σ:Au)(L:Lay):Int->Option Value:=fun k=>(σ.Ku k).map fun i=>DK (L.R i)
def I5(σ:Au)(L:Lay):Int->Option Value:=fun k=>(σ.Lr k).map fun i=>DK (L.R i)
def IV(L:Lay)(i:Option Nat):Env:=fun id=>match id with
 |0=>ak (DK L.p) |1=>ak L.v2 |2=>ak (.map (ak L.b1)) |3=>ak (.map (ak L.b2)) |4=>i.map fun i=>DK (L.R i) |5=>i.map fun i=>L.D i |6=>ak L.v0 |_=>aK
def Vw(i:Option Nat):Tg->Prop
 | .rc j=>i=ak j | .de j=>i=ak j |_=>True
def UL(i:Nat):Nat->Tg
 |0=>.au |1=>.tx |2=>.Ls |3=>.bu |4=>.rc i |5=>.de i |_=>.ob
def aw7:Tg->Nat
 | .au=>0 | .tx=>1 | .Ls=>2 | .bu=>3 | .rc _=>4 | .de _=>5 | .ob=>6
theorem ahC{i a:Nat}(h:a<7):aw7 (UL i a)=a:=by
 match a,h with
 |0,_|1,_|2,_|3,_|4,_|5,_|6,_=>rfl |a+7,h=>omega
theorem aed{i a b:Nat}(ha:a<7)(hb:b<7)(h:UL i a=UL i b):a=b:=by
 rw[<-ahC (i:=i) ha,<-ahC (i:=i) hb,h]
section
variable{H H':Mem}{E E':Env}{w w':World}{n:Nat}{o:Nat->Oj}{σ σ':Au}{L L':Lay}
def J7(n:Nat)(o:Nat->Oj)(σ:Au)(L:Lay)(f1 f2:List (Int×Bool×SV)):List (Nat×SB):=hpA n σ.rs.length o σ.many (G9 L.R) (Jg σ L) (I5 σ L) f1 f2
theorem ap4(hA:Dy H w n (Aj o) σ L)(i:Option Nat){own:Nat->Prop}(hown:∀t b,Vw i t->L.blk σ.rs.length t=ak b->own b){f1 f2:List (Int×Bool×SV)}{v1 v2:List (Int×Option Value)}(h1:Gz H (IV L i) f1 v1)(h2:Gz H (IV L i) f2 v2)
  (m1:∀k u,(k,u)∈v1->Jg σ L k=u) (m2:∀k u,(k,u)∈v2->I5 σ L k=u):∀id sb,Ak (J7 n o σ L f1 f2) id=ak sb->GI ⟨w,own,H⟩ H (IV L i) w id sb/\(id<4\/id=6)/\∀b,Bd (IV L i) id sb=ak b->L.blk σ.rs.length (UL 0 id)=ak b:=by
 intro id sb hl;have mine:∀t b,Vw i t->L.blk σ.rs.length t=ak b->Mine ⟨w,own,H⟩ H b:=fun t b hv hb=>⟨hA.un t b hb,.inr (hown t b hv hb)⟩;match id,hl with
 |0,hl=>
  cases hl;exact ⟨⟨L.p,_,rfl,hA.au,⟨⟨rfl,(let ⟨_,h1,_⟩:=hA.ob;JA h1)⟩,rfl,⟨rfl,JA hA.tx⟩,⟨_,rfl,rfl⟩,⟨_,rfl,rfl⟩,trivial⟩,mine .au _ trivial rfl⟩,by decide,fun b hb=>hb⟩
 |1,hl=>
  cases hl;exact ⟨⟨L.v2,_,rfl,hA.tx,al9 _ _,fun b hb=>mine .tx b trivial hb⟩,by decide,fun b hb=>hb⟩
 |2,hl=>
  cases hl;obtain ⟨ms,clk,a1,a2⟩:=hA.Ls;exact ⟨⟨L.b1,ms,clk,v1,[],rfl,a1,h1,trivial,m1,a2,trivial,mine .Ls _ trivial rfl⟩,by decide,fun b hb=>hb⟩
 |3,hl=>
  cases hl;obtain ⟨ms,clk,a1,a2⟩:=hA.bu;exact ⟨⟨L.b2,ms,clk,v2,[],rfl,a1,h2,trivial,m2,a2,trivial,mine .bu _ trivial rfl⟩,by decide,fun b hb=>hb⟩
 |6,hl=>
  cases hl;obtain ⟨xs,a1,a2⟩:=hA.ob;exact ⟨⟨L.v0,xs,rfl,a1,a2,fun b hb=>mine .ob b trivial hb⟩,by decide,fun b hb=>hb⟩
 |4,hl=>simp[J7,hpA,Ak] at hl |5,hl=>simp[J7,hpA,Ak] at hl |id+7,hl=>simp[J7,hpA,Ak] at hl
theorem ajB{n:Nat}{o:Nat->Oj}{σ:Au}{L:Lay}{f1 f2:List (Int×Bool×SV)}{r:Rc}{id:Nat}{sb:SB}(h:Ak (J7 n o σ L f1 f2++FW r) id=ak sb):
  Ak (J7 n o σ L f1 f2) id=ak sb\/(id=4/\sb=.box [.sym .i64 r.id,.sym .i64 r.th,.sym .i64 r.st,.sym .i64 r.bg,.sym .i64 r.en,.sym .i64 r.tr,.gs 5,.sym .i64 r.stand] 184)\/(id=5/\sb=.own 197 8 r.Ar.length (Aj (nth r.Ar))):=by
 match id,h with
 |0,h=>exact .inl h |1,h=>exact .inl h |2,h=>exact .inl h |3,h=>exact .inl h |4,h=>cases h;exact .inr (.inl ⟨rfl,rfl⟩) |5,h=>cases h;exact .inr (.inr ⟨rfl,rfl⟩) |6,h=>exact .inl h |id+7,h=>simp[J7,hpA,FW,hpR,Ak] at h
theorem ar1{i j id:Nat}(h:id<4\/id=6):UL i id=UL j id:=by
 match id,h with
 |0,_|1,_|2,_|3,_|6,_=>rfl |4,h=>omega |5,h=>omega |id+7,h=>omega
theorem ama(hA:Dy H w n (Aj o) σ L){i:Nat}{r:Rc}(hi:σ.rs[i]?=ak r){own:Nat->Prop}(hown:∀t b,Vw (ak i) t->L.blk σ.rs.length t=ak b->own b){f1 f2:List (Int×Bool×SV)}{v1 v2:List (Int×Option Value)}
  (h1:Gz H (IV L (ak i)) f1 v1) (h2:Gz H (IV L (ak i)) f2 v2) (m1:∀k u,(k,u)∈v1->Jg σ L k=u) (m2:∀k u,(k,u)∈v2->I5 σ L k=u) :
  AO ⟨w,own,H⟩ H (IV L (ak i)) w (J7 n o σ L f1 f2++FW r):=by
 have hlt:=(aV.1 hi).1;have key:∀id sb,Ak (J7 n o σ L f1 f2++FW r) id=ak sb->GI ⟨w,own,H⟩ H (IV L (ak i)) w id sb/\id<7/\∀b,Bd (IV L (ak i)) id sb=ak b->L.blk σ.rs.length (UL i id)=ak b:=fun id sb hl=>by
  rcases ajB hl with hl|⟨rfl,rfl⟩ |⟨rfl,rfl⟩
  ·obtain ⟨a1,a2,a3⟩:=ap4 hA (ak i) hown h1 h2 m1 m2 id sb hl
   exact ⟨a1,by omega,fun b hb=>by rw[ar1 (j:=0) a2];exact a3 b hb⟩
  ·have hb:L.blk σ.rs.length (.rc i)=ak (L.R i):=by simp[Lay.blk,hlt]
   exact ⟨⟨L.R i,_,rfl,hA.rc i r hi,⟨rfl,rfl,rfl,rfl,rfl,rfl,⟨rfl,JA (hA.de i r hi)⟩,rfl,trivial⟩,⟨hA.un _ _ hb,.inr (hown (.rc i) _ rfl hb)⟩⟩,by decide,fun b hb'=>by
    cases hb';exact hb⟩
  ·have hb:∀b,AL (L.D i)=ak b->L.blk σ.rs.length (.de i)=ak b:=fun b hb=>by simp[Lay.blk,hlt,hb]
   exact ⟨⟨L.D i,_,rfl,hA.de i r hi,ZE _,fun b hb'=>⟨hA.un _ _ (hb b hb'),.inr (hown (.de i) _ rfl (hb b hb'))⟩⟩,by decide,fun b hb'=>hb b hb'⟩
 refine ⟨fun id sb hl=>(key id sb hl).1,fun id id' sb sb' b l1 l2 o1 o2=>?_⟩;obtain ⟨_,a1,a2⟩:=key id sb l1;obtain ⟨_,b1,b2⟩:=key id' sb' l2;exact aed a1 b1 (hA.Gq _ _ _ (a2 b o1) (b2 b o2))
theorem acn(hA:Dy H w n (Aj o) σ L){own:Nat->Prop}(hown:∀t b,Vw aK t->L.blk σ.rs.length t=ak b->own b){f1 f2:List (Int×Bool×SV)}{v1 v2:List (Int×Option Value)}
  (h1:Gz H (IV L aK) f1 v1) (h2:Gz H (IV L aK) f2 v2) (m1:∀k u,(k,u)∈v1->Jg σ L k=u) (m2:∀k u,(k,u)∈v2->I5 σ L k=u) :
  AO ⟨w,own,H⟩ H (IV L aK) w (J7 n o σ L f1 f2):=by
 have key:=ap4 hA aK hown h1 h2 m1 m2;refine ⟨fun id sb hl=>(key id sb hl).1,fun id id' sb sb' b l1 l2 o1 o2=>?_⟩;obtain ⟨_,a1,a2⟩:=key id sb l1;obtain ⟨_,b1,b2⟩:=key id' sb' l2;exact aed (i:=0) (by omega) (by omega) (hA.Gq _ _ _ (a2 b o1) (b2 b o2))
theorem ap5(hA:Dy H w n (Aj o) σ L){i:Nat}{r:Rc}(hi:σ.rs[i]?=ak r){f1 f2:List (Int×Bool×SV)}(b:Nat):
  LQ (IV L (ak i)) (J7 n o σ L f1 f2++FW r) b↔∃t,Vw (ak i) t/\L.blk σ.rs.length t=ak b:=by
 have hlt:=(aV.1 hi).1;constructor
 ·rintro ⟨id,sb,hl,hb⟩
  match id,hl with
  |0,hl=>cases hl;exact ⟨.au,trivial,hb⟩ |1,hl=>cases hl;exact ⟨.tx,trivial,hb⟩ |2,hl=>cases hl;exact ⟨.Ls,trivial,hb⟩ |3,hl=>cases hl;exact ⟨.bu,trivial,hb⟩ |4,hl=>cases hl;exact ⟨.rc i,rfl,by cases hb;simp[Lay.blk,hlt]⟩ |5,hl=>cases hl;exact ⟨.de i,rfl,by simp only[Lay.blk,if_pos hlt];exact hb⟩ |6,hl=>cases hl;exact ⟨.ob,trivial,hb⟩ |id+7,hl=>simp[J7,hpA,FW,hpR,Ak] at hl
 ·rintro ⟨t,hv,hb⟩
  cases t with
  |au=>exact ⟨0,_,rfl,hb⟩ |tx=>exact ⟨1,_,rfl,hb⟩ |Ls=>exact ⟨2,_,rfl,hb⟩ |bu=>exact ⟨3,_,rfl,hb⟩ |ob=>exact ⟨6,_,rfl,hb⟩ |rc j=>
   cases hv;simp only[Lay.blk,if_pos hlt] at hb;exact ⟨4,_,rfl,hb⟩
  |de j=>
   cases hv;simp only[Lay.blk,if_pos hlt] at hb;exact ⟨5,_,rfl,hb⟩
theorem aee{f1 f2:List (Int×Bool×SV)}(b:Nat):
  LQ (IV L aK) (J7 n o σ L f1 f2) b↔∃t,Vw aK t/\L.blk σ.rs.length t=ak b:=by
 constructor
 ·rintro ⟨id,sb,hl,hb⟩
  match id,hl with
  |0,hl=>cases hl;exact ⟨.au,trivial,hb⟩ |1,hl=>cases hl;exact ⟨.tx,trivial,hb⟩ |2,hl=>cases hl;exact ⟨.Ls,trivial,hb⟩ |3,hl=>cases hl;exact ⟨.bu,trivial,hb⟩ |4,hl=>simp[J7,hpA,Ak] at hl |5,hl=>simp[J7,hpA,Ak] at hl |6,hl=>cases hl;exact ⟨.ob,trivial,hb⟩ |id+7,hl=>simp[J7,hpA,Ak] at hl
 ·rintro ⟨t,hv,hb⟩
  cases t with
  |au=>exact ⟨0,_,rfl,hb⟩ |tx=>exact ⟨1,_,rfl,hb⟩ |Ls=>exact ⟨2,_,rfl,hb⟩ |bu=>exact ⟨3,_,rfl,hb⟩ |ob=>exact ⟨6,_,rfl,hb⟩ |rc j=>cases hv |de j=>cases hv
end
open Go.BR Go.Aw
section
variable{H H':Mem}{E E':Env}{w w':World}{n:Nat}{o:Nat->Oj}{σ σ':Au}{L L':Lay}
theorem P9{r:List (Int×Option Value)}(h:Gz H E [] r):r=[]:=by
 cases r with
 |nil=>rfl |cons _ _=>exact h.elim
theorem amb{t:Int}{x:SV}{r:List (Int×Option Value)}(h:Gz H E [(t,ay,x)] r):r=[(t,aK)]:=by
 match r,h with
 |[(k,o)],⟨h1,h2,_⟩=>
  cases o with
  |none=>rw[h1] |some v=>exact h2.elim
 |[],h=>exact h.elim |(_,_)::_::_,⟨_,_,h⟩=>exact h.elim
def ahD(σ σ':Au)(us:List (Int×Bool×SV)):Prop:=
 (us=[]/\∀k,σ'.Lr k=σ.Lr k)\/∃t x,us=[(t,ay,x)]/\∀k,σ'.Lr k=if k=t then aK else σ.Lr k
theorem ajC{own:Nat->Prop}(hA:Dy H w n (Aj o) σ L){i:Nat}{r0:Rc}(hi:σ.rs[i]?=ak r0)(hown:∀b,own b↔∃t,Vw (ak i) t/\L.blk σ.rs.length t=ak b)
  {e:Ev} {many':Nat} {r:Rc} {us:List (Int×Bool×SV)} (hh:AO ⟨w,own,H⟩ H' E' w' (EI n σ.rs.length o (G9 L.R) (Jg σ L) (I5 σ L) e many' r us).hp) (hW:Eh ⟨w,own,H⟩ H' w') (hH:H.le H')
  (h0:E' 0=ak (DK L.p)) (h4:E' 4=ak (DK (L.R i))) (hby:∀k,(⟨many',σ.rs.set i r⟩:Au).Ku k=σ.Ku k) (hbu:ahD σ ⟨many',σ.rs.set i r⟩ us) :
  ∃L',Dy H' w' n (Aj o) ⟨many',σ.rs.set i r⟩ L'/\L'.p=L.p/\∀t b,L'.blk (σ.rs.set i r).length t=ak b->w.heap.size<=b\/∃t',L.blk σ.rs.length t'=ak b:=by
 have hlt:=(aV.1 hi).1;obtain ⟨p,⟨cs⟩,p1,p2,p3,p4⟩:=hh.ent 0 _ rfl;match cs,p3 with
 |[u0,u1,u2,u3,u4],⟨d0,d1,d2,d3,d4,_⟩=>
  have d1:u1=.int .i64 many':=d1;obtain ⟨d0,_⟩:E' 6=ak u0/\_:=d0;obtain ⟨d2,_⟩:E' 1=ak u2/\_:=d2;obtain ⟨b1,d3,d3'⟩:=d3;obtain ⟨b2,d4,d4'⟩:=d4;subst d1 d3' d4';rw[h0] at p1;have hp:L.p=p:=by
   have:=dH p1;simp[DK] at this;exact this
  subst hp;have hob:∃xs,w'.ownsRow 0 140 2 u0 n xs/\Ci H' 2 n (Aj o) xs:=by
   obtain ⟨v,xs,x1,x2,x3,_⟩:=hh.ent 6 _ rfl;rw[d0] at x1;cases x1;exact ⟨xs,x2,x3⟩
  obtain ⟨v2,xs,q1,q2,q3,q4⟩:=hh.ent 1 _ rfl;rw[d2] at q1;cases q1;obtain rfl:=QX q3;obtain ⟨b1',ms1,Xy,fv1,uv1,s1,s2,s3,s4,s5,s6,_,s7⟩:=hh.ent 2 _ rfl;rw[d3] at s1;cases s1;obtain rfl:=P9 s4;obtain ⟨b2',ms2,Xz,fv2,uv2,t1,t2,t3,t4,t5,t6,_,t7⟩:=hh.ent 3 _ rfl;rw[d4] at t1;cases t1;obtain ⟨pr,⟨cr⟩,r1,r2,r3,r4⟩:=hh.ent 4 _ rfl;rw[h4] at r1;have hpr:L.R i=pr:=by
   have:=dH r1;simp[DK] at this;exact this
  subst hpr;match cr,r3 with
  |[c0,c1,c2,c3,c4,c5,c6,c7],⟨e0,e1,e2,e3,e4,e5,e6,e7,_⟩=>
   have e0:c0=.int .i64 r.id:=e0;have e1:c1=.int .i64 r.th:=e1;have e2:c2=.int .i64 r.st:=e2;have e3:c3=.int .i64 r.bg:=e3;have e4:c4=.int .i64 r.en:=e4;have e5:c5=.int .i64 r.tr:=e5;have e7:c7=.int .i64 r.stand:=e7;obtain ⟨e6,_⟩:E' 5=ak c6/\_:=e6;subst e0 e1 e2 e3 e4 e5 e7;obtain ⟨vd,xd,g1,g2,g3,g4⟩:=hh.ent 5 _ rfl;rw[e6] at g1;cases g1;obtain rfl:=acj g3;let L':Lay:=⟨L.p,u0,u2,b1,b2,L.R,fun j=>if j=i then c6 else L.D j⟩
   have hlen:(σ.rs.set i r).length=σ.rs.length:=by simp
   have hbl:∀t b,Vw (ak i) t->L'.blk (σ.rs.set i r).length t=ak b->∃id sb,id<7/\UL i id=t/\Ak (EI n σ.rs.length o (G9 L.R) (Jg σ L) (I5 σ L) e many' r us).hp id=ak sb/\Bd E' id sb=ak b:=fun t b hv hb=>by
    cases t with
    |au=>exact ⟨0,_,by decide,rfl,rfl,by simp only[Bd,h0];exact hb⟩ |tx=>exact ⟨1,_,by decide,rfl,rfl,by simp only[Bd,d2];exact hb⟩ |Ls=>exact ⟨2,_,by decide,rfl,rfl,by simp only[Bd,d3];exact hb⟩ |bu=>exact ⟨3,_,by decide,rfl,rfl,by simp only[Bd,d4];exact hb⟩ |ob=>exact ⟨6,_,by decide,rfl,rfl,by simp only[Bd,d0];exact hb⟩ |rc j=>
     cases hv;refine ⟨4,_,by decide,rfl,rfl,?_⟩;simp only[Lay.blk,hlen,if_pos hlt] at hb;simp only[Bd,h4];exact hb
    |de j=>
     cases hv;refine ⟨5,_,by decide,rfl,rfl,?_⟩;simp only[Lay.blk,hlen,if_pos hlt,L'] at hb;simp only[Bd,e6];simpa using hb
   have mk:=TF (H':=H') (w':=w') (σ':=⟨many',σ.rs.set i r⟩) (L':=L') hA hown hW hH ⟨trivial,trivial,trivial,trivial,trivial⟩ (fun _=>zy) p2 hob (by rw[hlen];exact q2)
    ⟨ms1,Xy,s2,by
     have:(fun k=>((⟨many',σ.rs.set i r⟩:Au).Ku k).map fun i=>DK (L'.R i))=Ur (Jg σ L) []:=by
      funext k;rw[hby k];rfl
     rw[this];exact s6⟩
    ⟨ms2,Xz,t2,by
     have:(fun k=>((⟨many',σ.rs.set i r⟩:Au).Lr k).map fun i=>DK (L'.R i))=Ur (I5 σ L) uv2:=by
      rcases hbu with ⟨rfl,hb⟩ |⟨t,x,rfl,hb⟩
      ·obtain rfl:=P9 t4
       funext k;rw[hb k];rfl
      ·obtain rfl:=amb t4
       funext k;rw[hb k];simp only[Ur];by_cases hk:k=t
       ·simp[hk]
       ·simp[hk,I5,L']
     rw[this];exact t6⟩
    (fun j rj hj hv=>by
     cases hv;have:rj=r:=by
      simp[hlt] at hj;exact hj.symm
     subst this;simp only[L',if_true];exact ⟨r2,g2⟩)
    (fun j rj hj hv=>by
     have hne:¬j=i:=fun q=>hv (by rw[q];exact rfl);refine ⟨?_,rfl,if_neg hne⟩;simpa[lG,Ne.symm hne] using hj)
    (fun t b hv hb=>by
     obtain ⟨id,sb,_,_,a3,a4⟩:=hbl t b hv hb;exact ⟨((hh.ent _ _ a3).lt a4).2.1,((hh.ent _ _ a3).lt a4).2.2⟩)
    (fun s t b hs ht bs bt=>by
     obtain ⟨id,sb,a1,a2,a3,a4⟩:=hbl s b hs bs;obtain ⟨id',sb',b1,b2,b3,b4⟩:=hbl t b ht bt;have:=hh.Gq _ _ _ _ _ a3 b3 a4 b4;subst this;rw[<-a2,<-b2])
   exact ⟨L',mk.1,rfl,mk.2⟩
end
open Go.BR Go.Aw
section
variable{H H':Mem}{E E':Env}{w w':World}{n:Nat}{o:Nat->Oj}{σ σ':Au}{L L':Lay}
theorem ahE{own:Nat->Prop}(hA:Dy H w n (Aj o) σ L)(hown:∀b,own b↔∃t,Vw aK t/\L.blk σ.rs.length t=ak b)
  {f1 f2:List (Int×Bool×SV)} (hh:AO ⟨w,own,H⟩ H' E' w' (toN n σ.rs.length o σ.many (G9 L.R) (Jg σ L) (I5 σ L) f1 f2).hp) (hW:Eh ⟨w,own,H⟩ H' w') (hH:H.le H')
  (h0:E' 0=ak (DK L.p)) :
  ∃L',Dy H' w' n (Aj o) σ L'/\L'.p=L.p/\∀t b,L'.blk σ.rs.length t=ak b->w.heap.size<=b\/∃t',L.blk σ.rs.length t'=ak b:=by
 obtain ⟨p,⟨cs⟩,p1,p2,p3,p4⟩:=hh.ent 0 _ rfl;match cs,p3 with
 |[u0,u1,u2,u3,u4],⟨d0,d1,d2,d3,d4,_⟩=>
  have d1:u1=.int .i64 σ.many:=d1;obtain ⟨d0,_⟩:E' 6=ak u0/\_:=d0;obtain ⟨d2,_⟩:E' 1=ak u2/\_:=d2;obtain ⟨b1,d3,d3'⟩:=d3;obtain ⟨b2,d4,d4'⟩:=d4;subst d1 d3' d4';rw[h0] at p1;have hp:L.p=p:=by
   have:=dH p1;simp[DK] at this;exact this
  subst hp;have hob:∃xs,w'.ownsRow 0 140 2 u0 n xs/\Ci H' 2 n (Aj o) xs:=by
   obtain ⟨v,xs,x1,x2,x3,_⟩:=hh.ent 6 _ rfl;rw[d0] at x1;cases x1;exact ⟨xs,x2,x3⟩
  obtain ⟨v2,xs,q1,q2,q3,q4⟩:=hh.ent 1 _ rfl;rw[d2] at q1;cases q1;obtain rfl:=QX q3;obtain ⟨b1',ms1,Xy,fv1,uv1,s1,s2,s3,s4,s5,s6,_,s7⟩:=hh.ent 2 _ rfl;rw[d3] at s1;cases s1;obtain rfl:=P9 s4;obtain ⟨b2',ms2,Xz,fv2,uv2,t1,t2,t3,t4,t5,t6,_,t7⟩:=hh.ent 3 _ rfl;rw[d4] at t1;cases t1;obtain rfl:=P9 t4;let L':Lay:=⟨L.p,u0,u2,b1,b2,L.R,L.D⟩
  have hbl:∀t b,Vw aK t->L'.blk σ.rs.length t=ak b->∃id sb,id<7/\UL 0 id=t/\Ak (toN n σ.rs.length o σ.many (G9 L.R) (Jg σ L) (I5 σ L) f1 f2).hp id=ak sb/\Bd E' id sb=ak b:=fun t b hv hb=>by
   cases t with
   |au=>exact ⟨0,_,by decide,rfl,rfl,by simp only[Bd,h0];exact hb⟩ |tx=>exact ⟨1,_,by decide,rfl,rfl,by simp only[Bd,d2];exact hb⟩ |Ls=>exact ⟨2,_,by decide,rfl,rfl,by simp only[Bd,d3];exact hb⟩ |bu=>exact ⟨3,_,by decide,rfl,rfl,by simp only[Bd,d4];exact hb⟩ |ob=>exact ⟨6,_,by decide,rfl,rfl,by simp only[Bd,d0];exact hb⟩ |rc j=>cases hv |de j=>cases hv
  have mk:=TF (H':=H') (w':=w') (σ':=σ) (L':=L') hA hown hW hH ⟨trivial,trivial,trivial,trivial,trivial⟩ (fun _=>zy) p2 hob q2 ⟨ms1,Xy,s2,s6⟩ ⟨ms2,Xz,t2,t6⟩
   (fun j rj hj hv=>by cases hv) (fun j rj hj hv=>⟨hj,rfl,rfl⟩)
   (fun t b hv hb=>by
    obtain ⟨id,sb,_,_,a3,a4⟩:=hbl t b hv hb;exact ⟨((hh.ent _ _ a3).lt a4).2.1,((hh.ent _ _ a3).lt a4).2.2⟩)
   (fun s t b hs ht bs bt=>by
    obtain ⟨id,sb,a1,a2,a3,a4⟩:=hbl s b hs bs;obtain ⟨id',sb',b1,b2,b3,b4⟩:=hbl t b ht bt;have:=hh.Gq _ _ _ _ _ a3 b3 a4 b4;subst this;rw[<-a2,<-b2])
  exact ⟨L',mk.1,rfl,mk.2⟩
theorem aef{t:Int}{x y:SV}{r:List (Int×Option Value)}(h:Gz H E [(t,aC,x),(t,aC,y)] r):∃u v,r=[(t,ak u),(t,ak v)]/\Den H E x u:=by
 match r,h with
 |[(k,p),(k',q)],⟨h1,h2,h3,h4,_⟩=>
  cases p with
  |none=>exact h2.elim |some u=>
   cases q with
   |none=>exact h4.elim |some v=>exact ⟨u,v,by rw[h1,h3],h2.1⟩
 |[],h=>exact h.elim |[(_,_)],⟨_,_,h⟩=>exact h.elim |(_,_)::(_,_)::_::_,⟨_,_,_,_,h⟩=>exact h.elim
theorem ZF{α:Type}{p:α->Bool}{l:List α}{i:Nat}(h:l.findIdx? p=ak i):i<l.length:=by
 rw[List.findIdx?_eq_some_iff_findIdx_eq] at h;exact h.1
theorem ajD{own:Nat->Prop}(hA:Dy H w n (Aj o) σ L)(hown:∀b,own b↔∃t,Vw aK t/\L.blk σ.rs.length t=ak b)
  {e:Ev} {many':Nat} {r:Rc} (hd:r.Ar=[]) (hh:AO ⟨w,own,H⟩ H' E' w' (toB n σ.rs.length o (G9 L.R) (Jg σ L) (I5 σ L) e many' r.id r.th r.st r.bg r.en r.tr r.stand).hp) (hW:Eh ⟨w,own,H⟩ H' w') (hH:H.le H')
  (h0:E' 0=ak (DK L.p)) (hby:∀k,(⟨many',σ.rs++[r]⟩:Au).Ku k=if k=e.tx then ak σ.rs.length else σ.Ku k) (hbu:∀k,(⟨many',σ.rs++[r]⟩:Au).Lr k=if k=e.thread then ak σ.rs.length else σ.Lr k) :
  ∃L',Dy H' w' n (Aj o) ⟨many',σ.rs++[r]⟩ L'/\L'.p=L.p/\∀t b,L'.blk (σ.rs++[r]).length t=ak b->w.heap.size<=b\/∃t',L.blk σ.rs.length t'=ak b:=by
 obtain ⟨p,⟨cs⟩,p1,p2,p3,p4⟩:=hh.ent 0 _ rfl;match cs,p3 with
 |[u0,u1,u2,u3,u4],⟨d0,d1,d2,d3,d4,_⟩=>
  have d1:u1=.int .i64 many':=d1;obtain ⟨d0,_⟩:E' 6=ak u0/\_:=d0;obtain ⟨d2,_⟩:E' 1=ak u2/\_:=d2;obtain ⟨b1,d3,d3'⟩:=d3;obtain ⟨b2,d4,d4'⟩:=d4;subst d1 d3' d4';rw[h0] at p1;have hp:L.p=p:=by
   have:=dH p1;simp[DK] at this;exact this
  subst hp;obtain ⟨pr,⟨cr⟩,r1,r2,r3,r4⟩:=hh.ent 4 _ rfl;have ap6:∀{u:Value},Den H' E' (.ptr 4 0) u->u=DK pr:=fun {u} h=>by
   obtain ⟨b,h1,h2⟩:=h;rw[r1] at h1;cases h1;exact h2
  have hob:∃xs,w'.ownsRow 0 140 2 u0 n xs/\Ci H' 2 n (Aj o) xs:=by
   obtain ⟨v,xs,x1,x2,x3,_⟩:=hh.ent 6 _ rfl;rw[d0] at x1;cases x1;exact ⟨xs,x2,x3⟩
  obtain ⟨v2,xs,ys,q1,q2,q3,q5,_,_,q4⟩:=hh.ent 1 _ rfl;rw[d2] at q1;cases q1;obtain rfl:=QX q3;match ys,q5 with
  |[y],⟨q5,_⟩=>
  obtain rfl:=ap6 q5;obtain ⟨b1',ms1,Xy,fv1,uv1,s1,s2,s3,s4,s5,s6,_,s7⟩:=hh.ent 2 _ rfl;rw[d3] at s1;cases s1;obtain ⟨x1,x2,rfl,x3⟩:=aef s4;obtain rfl:=ap6 x3;obtain ⟨b2',ms2,Xz,fv2,uv2,t1,t2,t3,t4,t5,t6,_,t7⟩:=hh.ent 3 _ rfl;rw[d4] at t1;cases t1;obtain ⟨y1,y2,rfl,y3⟩:=aef t4;obtain rfl:=ap6 y3;match cr,r3 with
  |[c0,c1,c2,c3,c4,c5,c6,c7],⟨e0,e1,e2,e3,e4,e5,e6,e7,_⟩=>
   have e0:c0=.int .i64 r.id:=e0;have e1:c1=.int .i64 r.th:=e1;have e2:c2=.int .i64 r.st:=e2;have e3:c3=.int .i64 r.bg:=e3;have e4:c4=.int .i64 r.en:=e4;have e5:c5=.int .i64 r.tr:=e5;have e6:c6=.slice aK 0 0:=e6;have e7:c7=.int .i64 r.stand:=e7;subst e0 e1 e2 e3 e4 e5 e6 e7;let L':Lay:=⟨L.p,u0,u2,b1,b2,fun j=>if j=σ.rs.length then pr else L.R j,fun j=>if j=σ.rs.length then .slice aK 0 0 else L.D j⟩
   have hlen:(σ.rs++[r]).length=σ.rs.length+1:=by simp
   have hown':∀b,own b↔∃t,Vw (ak σ.rs.length) t/\L.blk σ.rs.length t=ak b:=fun b=>by
    rw[hown b];constructor
    ·rintro ⟨t,h1,h2⟩
     refine ⟨t,?_,h2⟩;cases t with
     |rc j=>cases h1 |de j=>cases h1 |_=>trivial
    ·rintro ⟨t,h1,h2⟩
     refine ⟨t,?_,h2⟩;cases t with
     |rc j=>cases h1;simp[Lay.blk] at h2 |de j=>cases h1;simp[Lay.blk] at h2 |_=>trivial
   have hbl:∀t b,Vw (ak σ.rs.length) t->L'.blk (σ.rs++[r]).length t=ak b->∃id sb,id<7/\UL σ.rs.length id=t/\Ak (toB n σ.rs.length o (G9 L.R) (Jg σ L) (I5 σ L) e many' r.id r.th r.st r.bg r.en r.tr r.stand).hp id=ak sb/\Bd E' id sb=ak b:=fun t b hv hb=>by
    cases t with
    |au=>exact ⟨0,_,by decide,rfl,rfl,by simp only[Bd,h0];exact hb⟩ |tx=>exact ⟨1,_,by decide,rfl,rfl,by simp only[Bd,d2];exact hb⟩ |Ls=>exact ⟨2,_,by decide,rfl,rfl,by simp only[Bd,d3];exact hb⟩ |bu=>exact ⟨3,_,by decide,rfl,rfl,by simp only[Bd,d4];exact hb⟩ |ob=>exact ⟨6,_,by decide,rfl,rfl,by simp only[Bd,d0];exact hb⟩ |rc j=>
     cases hv;refine ⟨4,_,by decide,rfl,rfl,?_⟩;simp[Lay.blk,L'] at hb;simp only[Bd,r1];rw[<-hb];rfl
    |de j=>
     cases hv;simp[Lay.blk,L',AL] at hb
   have hR:∀j,j<σ.rs.length->L'.R j=L.R j:=fun j hj=>if_neg (by omega);have hmap:∀(f:Option Nat),(∀j,f=ak j->j<σ.rs.length)->(f.map fun i=>DK (L'.R i))=f.map fun i=>DK (L.R i):=fun f hf=>by
    cases f with
    |none=>rfl |some j=>simp[hR j (hf j rfl)]
   have mk:=TF (H':=H') (w':=w') (σ':=⟨many',σ.rs++[r]⟩) (L':=L') hA hown' hW hH ⟨trivial,trivial,trivial,trivial,trivial⟩ (fun _=>zy) p2 hob
    (by
     have e:(aZ (σ.rs++[r]).length).map (fun i=>DK (L'.R i))=(aZ σ.rs.length).map (fun i=>DK (L.R i))++[DK pr]:=by
      rw[hlen,List.range_succ,List.map_append];congr 1
      ·exact List.map_congr_left fun i hi=>by rw[hR i (List.mem_range.1 hi)]
      ·simp[L']
     rw[e,hlen];exact q2)
    ⟨ms1,Xy,s2,by
     have:(fun k=>((⟨many',σ.rs++[r]⟩:Au).Ku k).map fun i=>DK (L'.R i))=Ur (Jg σ L) [(e.tx,ak (DK pr)),(e.tx,ak x2)]:=by
      funext k;rw[hby k];simp only[Ur];by_cases hk:k=e.tx
      ·simp[hk,L']
      ·rw[if_neg hk,if_neg hk,if_neg hk]
       exact hmap _ fun j hj=>ZF hj
     rw[this];exact s6⟩
    ⟨ms2,Xz,t2,by
     have:(fun k=>((⟨many',σ.rs++[r]⟩:Au).Lr k).map fun i=>DK (L'.R i))=Ur (I5 σ L) [(e.thread,ak (DK pr)),(e.thread,ak y2)]:=by
      funext k;rw[hbu k];simp only[Ur];by_cases hk:k=e.thread
      ·simp[hk,L']
      ·rw[if_neg hk,if_neg hk,if_neg hk]
       exact hmap _ fun j hj=>ZF hj
     rw[this];exact t6⟩
    (fun j rj hj hv=>by
     cases hv;have:rj=r:=by simpa using hj.symm
     subst this;simp only[L',if_true];refine ⟨r2,?_⟩;rw[hd];exact PG _ _ _)
    (fun j rj hj hv=>by
     have hne:¬j=σ.rs.length:=fun q=>hv (by rw[q];exact rfl);have hj2:=(aV.1 hj).1;rw[hlen] at hj2;refine ⟨?_,if_neg hne,if_neg hne⟩;rwa[dN (by omega)] at hj)
    (fun t b hv hb=>by
     obtain ⟨id,sb,_,_,a3,a4⟩:=hbl t b hv hb;exact ⟨((hh.ent _ _ a3).lt a4).2.1,((hh.ent _ _ a3).lt a4).2.2⟩)
    (fun s t b hs ht bs bt=>by
     obtain ⟨id,sb,a1,a2,a3,a4⟩:=hbl s b hs bs;obtain ⟨id',sb',b1,b2,b3,b4⟩:=hbl t b ht bt;have:=hh.Gq _ _ _ _ _ a3 b3 a4 b4;subst this;rw[<-a2,<-b2])
   exact ⟨L',mk.1,rfl,mk.2⟩
end
end Go.Sx
namespace Go.BR
open Go Go.Sx
theorem MO{α:Type}{p:α->Bool}{x:α}:∀{l:List α} {i:Nat} {y:α},l[i]?=ak y->p x=p y->(l.set i x).findIdx? p=l.findIdx? p
 |[],_,_,h,_=>by simp at h |a::l,0,y,h,hp=>by
  simp at h;subst h;simp[jI,hp]
 |a::l,i+1,y,h,hp=>by
  simp only[List.set_cons_succ,jI];rw[MO (l:=l) (by simpa using h) hp]
theorem TG{α:Type}{p:α->Bool}:∀{l:List α} {i:Nat},l.findIdx? p=ak i->∃y,l[i]?=ak y/\p y=aC
 |[],_,h=>by simp at h |a::l,i,h=>by
  rw[jI] at h;cases ha:p a with
  |true=>rw[ha] at h;simp at h;subst h;exact ⟨a,rfl,ha⟩ |false=>
   rw[ha] at h;simp at h;obtain ⟨j,hj,rfl⟩:=h;obtain ⟨y,h1,h2⟩:=TG hj;exact ⟨y,by simpa using h1,h2⟩
theorem ahF{α:Type}{p:α->Bool}{l:List α}(h:∀(i:Nat) (y:α),l[i]?=ak y->p y=ay):l.findIdx? p=aK:=by
 rw[List.findIdx?_eq_none_iff];intro x hx;obtain ⟨i,hi,rfl⟩:=List.getElem_of_mem hx;exact h i _ (aS hi)
theorem Pg{α:Type}{p:α->Bool}{x:α}:∀{l:List α},(l++[x]).findIdx? p=match l.findIdx? p with|some i=>ak i|none=>if p x then ak l.length else aK
 |[]=>by simp[jI] |a::l=>by
  simp only[List.cons_append,jI];cases ha:p a with
  |true=>simp |false=>
   simp only[Bool.false_eq_true,if_false];rw[Pg (l:=l)];cases l.findIdx? p with
   |some i=>rfl |none=>
    cases hx:p x<;>simp
theorem ave{α:Type}{P:α->Prop}{c:Bool}{a b:α}(ha:P a)(hb:P b):P (bif c then a else b):=by
 cases c
 ·exact hb
 ·exact ha
theorem QY{many:Nat}{e:Ev}{r r':Rc}(h:Rc.step many e r=.inr r'):r'.id=r.id/\r'.th=r.th:=by
 have:(fun x:Nat ⊕ Rc=>∀r',x=.inr r'->r'.id=r.id/\r'.th=r.th) (Rc.step many e r):=by
  unfold Rc.step;repeat' (refine ave (P:=fun x:Nat ⊕ Rc=>∀r',x=.inr r'->r'.id=r.id/\r'.th=r.th) ?_ ?_)
  all_goals
   intro r' h;first
    |(cases h;done)
    |(cases h;exact ⟨rfl,rfl⟩)
 exact this r' h
theorem VJ{many:Nat}{e:Ev}{r r':Rc}(h:Rc.step many e r=.inr r')(hk:2<=e.kind/\e.kind<=7)(hs:1<=r.stand/\r.stand<=5):r.live=aC/\(1<=r'.stand/\r'.stand<=5)/\(r'.live=aC↔¬(e.kind=5\/e.kind=6)):=by
 unfold Rc.step at h;unfold Rc.live;by_cases k2:e.kind=2
 ·simp only[k2,beq_self_eq_true,cond_true] at h
  by_cases q:r.stand=1
  ·simp only[q,beq_self_eq_true,cond_true] at h;cases h;simp[q];omega
  ·have:(r.stand==1)=ay:=by simpa using q
   rw[this] at h;cases h
 by_cases k3:e.kind=3
 ·simp only[k3,show ((3:Int)==2)=ay from rfl,beq_self_eq_true,cond_true,cond_false] at h
  by_cases q:r.stand=2
  ·simp only[q,beq_self_eq_true,cond_true] at h
   cases f:O9 (r.Ar.getLast?.getD Row.JI).op e.ret<;>simp only[f,cond_true,cond_false] at h<;>cases h
   simp[q];omega
  ·have:(r.stand==2)=ay:=by simpa using q
   rw[this] at h;cases h
 by_cases k4:e.kind=4
 ·simp only[k4,show ((4:Int)==2)=ay from rfl,show ((4:Int)==3)=ay from rfl,beq_self_eq_true,cond_true,cond_false] at h
  by_cases q:r.stand=1
  ·simp only[q,beq_self_eq_true,cond_true] at h;cases h;simp[q];omega
  ·have:(r.stand==1)=ay:=by simpa using q
   rw[this] at h;cases h
 by_cases k7:e.kind=7
 ·simp only[k7,show ((7:Int)==2)=ay from rfl,show ((7:Int)==3)=ay from rfl,show ((7:Int)==4)=ay from rfl,beq_self_eq_true,cond_true,cond_false] at h
  by_cases q:r.stand=1
  ·simp only[q,beq_self_eq_true,cond_true] at h;cases h;simp[q];omega
  ·have:(r.stand==1)=ay:=by simpa using q
   rw[this] at h;cases h
 by_cases k5:e.kind=5
 ·simp only[k5,show ((5:Int)==2)=ay from rfl,show ((5:Int)==3)=ay from rfl,show ((5:Int)==4)=ay from rfl,show ((5:Int)==7)=ay from rfl,beq_self_eq_true,cond_true,cond_false] at h
  by_cases q:r.stand=3
  ·simp only[q,beq_self_eq_true,cond_true] at h;cases h;simp[q];omega
  ·have:(r.stand==3)=ay:=by simpa using q
   rw[this] at h;cases h
 have k6:e.kind=6:=by omega
 simp only[k6,show ((6:Int)==2)=ay from rfl,show ((6:Int)==3)=ay from rfl,show ((6:Int)==4)=ay from rfl,show ((6:Int)==7)=ay from rfl,show ((6:Int)==5)=ay from rfl,cond_false] at h;by_cases q:r.stand=5
 ·rw[q] at h;cases h
 ·have:(r.stand==1||r.stand==2||r.stand==3||r.stand==4)=aC:=by
   simp;omega
  rw[this] at h;cases h;simp[q];omega
end Go.BR
namespace Go.Aw
open Go Go.Sx Go.BR
section
variable{n m:Nat}{o:Nat->Oj}{many:Nat}{gR:Nat->List Sh}{M1 M2:Int->Option Value}
theorem amc(hm:many<400){e:Ev}(h1:0<=e.obj)(h2:e.obj<n)(h3:DV e.op=(o e.obj.toNat).kind)(hk:e.kind=2)(hv:Cm e=aC):
  ES (Gv [toN n m o many gR M1 M2 [(e.tx,ay,.any)] []] (fun sv k=>sv=svE (ak 11)/\k=0)) ((run (C5 Ai W5 CU AP) 700 aC 79 [.code []] (LA 2 e (hpA n m o many gR M1 M2 [(e.tx,ay,.any)] []))).bind (toEnd [toN n m o many gR M1 M2 [(e.tx,ay,.any)] []])):=by
 obtain ⟨kind,tx,thread,obj,op,key,val,ret⟩:=e;have hk:kind=2:=hk;subst hk;have hw:=hm;have hroom:=hm;have h1:0<=obj:=h1;have h2:obj<n:=h2;have h3:DV op=(o obj.toNat).kind:=h3;have ho:Ai.le (Ai.AZ n) obj=aC->False:=fun q=>by simp[DJ,AY] at q;omega
 have hi:Ai.inB obj n=aC:=by simp[BJ];omega
 have hq:Ai.nt (Ai.eq (DV op) (o (Ai.toN obj)).kind)=aC->False:=fun q=>by
  simp[CB,AX,CX] at q;exact q h3
 rw[au4 Ai W5 n m o many gR M1 M2 ⟨2,tx,thread,obj,op,key,val,ret⟩ many,CQ];repeat' (first
  |exact trivial
  |exact hv
  |exact hw
  |exact hi
  |exact hroom
  |exact eqS _
  |exact rfl
  |exact fun _ _=>rfl
  |(intro q;exact (ho q).elim)
  |(intro q;exact (hq q).elim)
  |(intro q;replace q:=NY q;first|(exfalso;omega) |skip)
  |(intro q;replace q:=eqF q;first|(exfalso;omega) |skip)
  |intro _
  |refine bP ?_ ?_)
theorem amd(hm:many<400){e:Ev}(hk:e.kind=3)(hv:Cm e=aC):
  ES (Gv [toN n m o many gR M1 M2 [(e.tx,ay,.any)] []] (fun sv k=>sv=svE (ak 11)/\k=0)) ((run (C5 Ai W5 CU AP) 700 aC 79 [.code []] (LA 3 e (hpA n m o many gR M1 M2 [(e.tx,ay,.any)] []))).bind (toEnd [toN n m o many gR M1 M2 [(e.tx,ay,.any)] []])):=by
 obtain ⟨kind,tx,thread,obj,op,key,val,ret⟩:=e;have hk:kind=3:=hk;subst hk;have hw:=hm;have hroom:=hm;have ho:=hm;have hi:=hm;have hq:=hm;rw[au5 Ai W5 n m o many gR M1 M2 ⟨3,tx,thread,obj,op,key,val,ret⟩ many,CQ];repeat' (first
  |exact trivial
  |exact hv
  |exact hw
  |exact hi
  |exact hroom
  |exact eqS _
  |exact rfl
  |exact fun _ _=>rfl
  |(intro q;exact (ho q).elim)
  |(intro q;exact (hq q).elim)
  |(intro q;replace q:=NY q;first|(exfalso;omega) |skip)
  |(intro q;replace q:=eqF q;first|(exfalso;omega) |skip)
  |intro _
  |refine bP ?_ ?_)
theorem ame(hm:many<400){e:Ev}(hk:e.kind=4)(hv:Cm e=aC):
  ES (Gv [toN n m o many gR M1 M2 [(e.tx,ay,.any)] []] (fun sv k=>sv=svE (ak 11)/\k=0)) ((run (C5 Ai W5 CU AP) 700 aC 79 [.code []] (LA 4 e (hpA n m o many gR M1 M2 [(e.tx,ay,.any)] []))).bind (toEnd [toN n m o many gR M1 M2 [(e.tx,ay,.any)] []])):=by
 obtain ⟨kind,tx,thread,obj,op,key,val,ret⟩:=e;have hk:kind=4:=hk;subst hk;have hw:=hm;have hroom:=hm;have ho:=hm;have hi:=hm;have hq:=hm;rw[au6 Ai W5 n m o many gR M1 M2 ⟨4,tx,thread,obj,op,key,val,ret⟩ many,CQ];repeat' (first
  |exact trivial
  |exact hv
  |exact hw
  |exact hi
  |exact hroom
  |exact eqS _
  |exact rfl
  |exact fun _ _=>rfl
  |(intro q;exact (ho q).elim)
  |(intro q;exact (hq q).elim)
  |(intro q;replace q:=NY q;first|(exfalso;omega) |skip)
  |(intro q;replace q:=eqF q;first|(exfalso;omega) |skip)
  |intro _
  |refine bP ?_ ?_)
theorem amf(hm:many<400){e:Ev}(hk:e.kind=5)(hv:Cm e=aC):
  ES (Gv [toN n m o many gR M1 M2 [(e.tx,ay,.any)] []] (fun sv k=>sv=svE (ak 11)/\k=0)) ((run (C5 Ai W5 CU AP) 700 aC 79 [.code []] (LA 5 e (hpA n m o many gR M1 M2 [(e.tx,ay,.any)] []))).bind (toEnd [toN n m o many gR M1 M2 [(e.tx,ay,.any)] []])):=by
 obtain ⟨kind,tx,thread,obj,op,key,val,ret⟩:=e;have hk:kind=5:=hk;subst hk;have hw:=hm;have hroom:=hm;have ho:=hm;have hi:=hm;have hq:=hm;rw[au7 Ai W5 n m o many gR M1 M2 ⟨5,tx,thread,obj,op,key,val,ret⟩ many,CQ];repeat' (first
  |exact trivial
  |exact hv
  |exact hw
  |exact hi
  |exact hroom
  |exact eqS _
  |exact rfl
  |exact fun _ _=>rfl
  |(intro q;exact (ho q).elim)
  |(intro q;exact (hq q).elim)
  |(intro q;replace q:=NY q;first|(exfalso;omega) |skip)
  |(intro q;replace q:=eqF q;first|(exfalso;omega) |skip)
  |intro _
  |refine bP ?_ ?_)
theorem amg(hm:many<400){e:Ev}(hk:e.kind=6)(hv:Cm e=aC):
  ES (Gv [toN n m o many gR M1 M2 [(e.tx,ay,.any)] []] (fun sv k=>sv=svE (ak 11)/\k=0)) ((run (C5 Ai W5 CU AP) 700 aC 79 [.code []] (LA 6 e (hpA n m o many gR M1 M2 [(e.tx,ay,.any)] []))).bind (toEnd [toN n m o many gR M1 M2 [(e.tx,ay,.any)] []])):=by
 obtain ⟨kind,tx,thread,obj,op,key,val,ret⟩:=e;have hk:kind=6:=hk;subst hk;have hw:=hm;have hroom:=hm;have ho:=hm;have hi:=hm;have hq:=hm;rw[au8 Ai W5 n m o many gR M1 M2 ⟨6,tx,thread,obj,op,key,val,ret⟩ many,CQ];repeat' (first
  |exact trivial
  |exact hv
  |exact hw
  |exact hi
  |exact hroom
  |exact eqS _
  |exact rfl
  |exact fun _ _=>rfl
  |(intro q;exact (ho q).elim)
  |(intro q;exact (hq q).elim)
  |(intro q;replace q:=NY q;first|(exfalso;omega) |skip)
  |(intro q;replace q:=eqF q;first|(exfalso;omega) |skip)
  |intro _
  |refine bP ?_ ?_)
theorem amh(hm:many<400){e:Ev}(hk:e.kind=7)(hv:Cm e=aC):
  ES (Gv [toN n m o many gR M1 M2 [(e.tx,ay,.any)] []] (fun sv k=>sv=svE (ak 11)/\k=0)) ((run (C5 Ai W5 CU AP) 700 aC 79 [.code []] (LA 7 e (hpA n m o many gR M1 M2 [(e.tx,ay,.any)] []))).bind (toEnd [toN n m o many gR M1 M2 [(e.tx,ay,.any)] []])):=by
 obtain ⟨kind,tx,thread,obj,op,key,val,ret⟩:=e;have hk:kind=7:=hk;subst hk;have hw:=hm;have hroom:=hm;have ho:=hm;have hi:=hm;have hq:=hm;rw[au9 Ai W5 n m o many gR M1 M2 ⟨7,tx,thread,obj,op,key,val,ret⟩ many,CQ];repeat' (first
  |exact trivial
  |exact hv
  |exact hw
  |exact hi
  |exact hroom
  |exact eqS _
  |exact rfl
  |exact fun _ _=>rfl
  |(intro q;exact (ho q).elim)
  |(intro q;exact (hq q).elim)
  |(intro q;replace q:=NY q;first|(exfalso;omega) |skip)
  |(intro q;replace q:=eqF q;first|(exfalso;omega) |skip)
  |intro _
  |refine bP ?_ ?_)
theorem ap7(hm:many<400){e:Ev}(hk:e.kind=1)(hv:Cm e=aC)(r:Rc):
  ES (Gv [EI n m o gR M1 M2 e many r []] (fun sv k=>sv=svE (ak 9)/\k=0)) ((run (C5 Ai W5 CU AP) 700 aC 79 [.code []] (LA 1 e (hpA n m o many gR M1 M2 [(e.tx,aC,.ptr 4 0)] []++FW r))).bind (toEnd [EI n m o gR M1 M2 e many r []])):=by
 obtain ⟨kind,tx,thread,obj,op,key,val,ret⟩:=e;obtain ⟨id,th,st,bg,en,tr,Ar,stand⟩:=r;have hk:kind=1:=hk;subst hk;have hw:=hm;have hroom:=hm;have ho:=hm;have hi:=hm;have hq:=hm;unfold EI FW;simp only;rw[ava Ai W5 n m o many gR M1 M2 ⟨1,tx,thread,obj,op,key,val,ret⟩ id th st bg en tr stand Ar.length (nth Ar) many id th st bg en tr stand Ar.length (Aj (nth Ar)),CQ];repeat' (first
  |exact trivial
  |exact hv
  |exact hw
  |exact hi
  |exact hroom
  |exact eqS _
  |exact rfl
  |exact fun _ _=>rfl
  |(intro q;exact (ho q).elim)
  |(intro q;exact (hq q).elim)
  |(intro q;replace q:=NY q;first|(exfalso;omega) |skip)
  |(intro q;replace q:=eqF q;first|(exfalso;omega) |skip)
  |intro _
  |refine bP ?_ ?_)
theorem ar2(hm:many<400){e:Ev}(hk:e.kind=1)(hv:Cm e=aC)(q:Nat):
  ES (Gv [toN n m o many gR M1 M2 [(e.tx,ay,.any)] [(e.thread,aC,.val (.pointer (ak ⟨q,0,aK⟩)))]] (fun sv k=>sv=svE (ak 10)/\k=0)) ((run (C5 Ai W5 CU AP) 700 aC 79 [.code []] (LA 1 e (hpA n m o many gR M1 M2 [(e.tx,ay,.any)] [(e.thread,aC,.val (.pointer (ak ⟨q,0,aK⟩)))]))).bind (toEnd [toN n m o many gR M1 M2 [(e.tx,ay,.any)] [(e.thread,aC,.val (.pointer (ak ⟨q,0,aK⟩)))]])):=by
 obtain ⟨kind,tx,thread,obj,op,key,val,ret⟩:=e;have hk:kind=1:=hk;subst hk;have hw:=hm;have hroom:=hm;have ho:=hm;have hi:=hm;have hq:=hm;rw[avb Ai W5 n m o many gR M1 M2 ⟨1,tx,thread,obj,op,key,val,ret⟩ q many,CQ];repeat' (first
  |exact trivial
  |exact hv
  |exact hw
  |exact hi
  |exact hroom
  |exact eqS _
  |exact rfl
  |exact fun _ _=>rfl
  |(intro q;exact (ho q).elim)
  |(intro q;exact (hq q).elim)
  |(intro q;replace q:=NY q;first|(exfalso;omega) |skip)
  |(intro q;replace q:=eqF q;first|(exfalso;omega) |skip)
  |intro _
  |refine bP ?_ ?_)
theorem ap8(hm:many<400)(hl:m<=1000){e:Ev}(hk:e.kind=1)(hv:Cm e=aC):
  ES (Gv [toB n m o gR M1 M2 e (many+1:Nat) e.tx e.thread 1 many (-1) (-1) 1] (fun sv k=>sv=svE aK/\k=0)) ((run (C5 Ai W5 CU AP) 700 aC 79 [.code []] (LA 1 e (hpA n m o many gR M1 M2 [(e.tx,ay,.any)] [(e.thread,ay,.any)]))).bind (toEnd [toB n m o gR M1 M2 e (many+1:Nat) e.tx e.thread 1 many (-1) (-1) 1])):=by
 obtain ⟨kind,tx,thread,obj,op,key,val,ret⟩:=e;have hk:kind=1:=hk;subst hk;have hw:=wrapM hm;have hroom:Ai.room (Ai.addN m 1) 8=aC:=by
  show decide ((m+1)*8<=140737488355328/\m+1<=maxLen)=aC;rw[maxLen_eq];exact decide_eq_true ⟨by omega,by omega⟩
 have ho:=hm;have hi:=hm;have hq:=hm;rw[avc Ai W5 n m o many gR M1 M2 ⟨1,tx,thread,obj,op,key,val,ret⟩ (many+1:Nat) tx thread 1 many (-1) (-1) 1,CQ];repeat' (first
  |exact trivial
  |exact hv
  |exact hw
  |exact hi
  |exact hroom
  |exact eqS _
  |exact rfl
  |exact fun _ _=>rfl
  |(intro q;exact (ho q).elim)
  |(intro q;exact (hq q).elim)
  |(intro q;replace q:=NY q;first|(exfalso;omega) |skip)
  |(intro q;replace q:=eqF q;first|(exfalso;omega) |skip)
  |intro _
  |refine bP ?_ ?_)
end
open Go Go.Sx Go.BR
def ap9(H:Mem):Option Nat->Value->Prop
 |none,v=>v=.nilIface |some k,v=>Rep H (.er k 329) v
theorem aco{H:Mem}{E:Env}{x:Option Nat}{v:Value}(h:Den H E (svE x) v):ap9 H x v:=by
 cases x with
 |none=>exact h |some k=>exact h
def Ro(L:Lay)(k:Nat):Nat->Prop:=fun b=>∃t,L.blk k t=ak b
def Qa(H:Mem)(w:World)(n:Nat)(o:Nat->Oj)(σ:Au)(L:Lay)(x:Option Nat)(σ':Au)(en:Ending)(w':World):Prop:=
 ∃v H' L',en=.returned v/\ap9 H' x v/\Dy H' w' n (Aj o) σ' L'/\L'.p=L.p/\(∀t b,L'.blk σ'.rs.length t=ak b->w.heap.size<=b\/Ro L σ.rs.length b)/\H.le H'/\Eh ⟨w,Ro L σ.rs.length,H⟩ H' w'
theorem Uj{w w':World}{H H':Mem}{own own':Nat->Prop}(h:Eh ⟨w,own,H⟩ H' w')(ho:∀b,own b->own' b):Eh ⟨w,own',H⟩ H' w':=
 ⟨h.os,h.tape,h.output,h.size,fun b hb hn=>h.kept b hb fun q=>hn (ho b q),h.on,h.le,fun b hb=>by
  rcases h.fresh b hb with q|q|q
  ·exact .inl q
  ·exact .inr (.inl q)
  ·exact .inr (.inr (ho b q))⟩
def YI(e:Ev):Value:=.agg #[.int .i64 e.kind,.int .i64 e.tx,.int .i64 e.thread,.int .i64 e.obj,.int .i64 e.op,.int .i64 e.key,.int .i64 e.val,.int .i64 e.ret]
@[irreducible] def akZ (H:Mem) (E:Env) (l:List SV) (vs:List Value):Prop:=AA H E l vs
theorem ahG{H:Mem}{E:Env}{l:List SV}{vs:List Value}:akZ H E l vs=AA H E l vs:=by unfold akZ;rfl
theorem TI{P:Program}{C:Ctx}{H:Mem}{E:Env}{w:World}(hC:BG P C)(hF:BP P C){n g:Nat}{fn:Func}{c:Core}{args:Array Value}{ts:List Ry}{φ:SV->Nat->Prop}(hfn:C.fns.get g=ak fn)(hb:fn.body.isSome=aC)
  (hd:akZ H E c.tm (args++dY (fn.ntmps - args.size) undef).toList) (hh:AO ⟨w,LQ E c.hp,H⟩ H E w c.hp) (hon:H.on w) (hfree:Free E c) (hg:Dj C.gls H)
  (h:ES (Gv ts φ) ((run C n aC g [.code []] c).bind (toEnd ts))) :
  Calls P g args w fun e w'=>∃v sv k t H' E1 E',e=.returned v/\φ sv k/\ts[k]?=ak t/\Den H' E1 sv v/\AO ⟨w,LQ E c.hp,H⟩ H' E' w' t.hp/\Eh ⟨w,LQ E c.hp,H⟩ H' w'/\H.le H'/\∀i∈t.keep,∀u,E i=ak u->E' i=ak u:=by
 rw[ahG] at hd;exact aiQ hC hF hfn hb hd hh hon hfree hg h
theorem aqa(a b u:Value)(k:Nat):(#[a,b]++dY k u).toList=[a,b]++dU k u:=by simp
theorem afv{H:Mem}{E:Env}{L:Lay}{e:Ev}{kind:Int}{hp:List (Nat×SB)}(hk:e.kind=kind)(h0:E 0=ak (DK L.p)):akZ H E (LA kind e hp).tm (#[DK L.p,YI e]++dY (jo.ntmps - #[DK L.p,YI e].size) undef).toList:=by
 have hn:jo.ntmps=168:=by kernel_rfl
 rw[ahG,hn,aqa];have e1:(LA kind e hp).tm=[.ptr 0 0,evS kind e]++dU 166 .any:=rfl;have e3:168 - #[DK L.p,YI e].size=166:=rfl;rw[e1,e3];refine AA.append ⟨⟨L.p,by rw[h0];rfl,rfl⟩,⟨_,rfl,⟨by rw[<-hk];rfl,rfl,rfl,rfl,rfl,rfl,rfl,rfl,trivial⟩⟩,trivial⟩ (AA.any _ _ ?_);rw[List.length_replicate]
theorem VK{L:Lay}{i:Option Nat}{c:Core}(h:c.nx=7):Free (IV L i) c:=fun id h1 _=>by
 rw[h] at h1;match id,h1 with
 |id+7,_=>rfl
section
variable{H:Mem}{w:World}{n:Nat}{o:Nat->Oj}{σ:Au}{L:Lay}{e:Ev}
theorem KO(hA:Dy H w n (Aj o) σ L)(hon:H.on w)(hg:Dj (FV W5) H){i:Nat}{r:Rc}(hi:σ.rs[i]?=ak r)(hby:σ.Ku e.tx=ak i){kind:Int}(hk:e.kind=kind){ts:List Ry}{φ:SV->Nat->Prop}
  (hrun:ES (Gv ts φ) ((run (C5 Ai W5 CU AP) 700 aC 79 [.code []] (LA kind e (hpA n σ.rs.length o σ.many (G9 L.R) (Jg σ L) (I5 σ L) [(e.tx,aC,.ptr 4 0)] []++FW r))).bind (toEnd ts)))
  {x:Option Nat} {many':Nat} {r':Rc} (hid:r'.id=r.id)
  (hts:∀sv k t,φ sv k->ts[k]?=ak t->sv=svE x/\∃us,t=EI n σ.rs.length o (G9 L.R) (Jg σ L) (I5 σ L) e many' r' us/\ahD σ ⟨many',σ.rs.set i r'⟩ us) :
  Calls aA 79 #[DK L.p,YI e] w (Qa H w n o σ L x ⟨many',σ.rs.set i r'⟩):=by
 have hown:=ap5 (f1:=[(e.tx,aC,.ptr 4 0)]) (f2:=[]) hA hi;have acp:=ama (own:=LQ (IV L (ak i)) (J7 n o σ L [(e.tx,aC,.ptr 4 0)] []++FW r)) hA hi (fun t b h1 h2=>(hown b).2 ⟨t,h1,h2⟩) (f1:=[(e.tx,aC,.ptr 4 0)]) (f2:=[]) (v1:=[(e.tx,ak (DK (L.R i)))]) (v2:=[])
  ⟨rfl,⟨⟨L.R i,rfl,rfl⟩,rfl⟩,trivial⟩ trivial (fun k u hm=>by
   simp at hm;obtain ⟨rfl,rfl⟩:=hm;simp[Jg,hby]) (fun k u hm=>by simp at hm)
 have hd:=afv (H:=H) (E:=IV L (ak i)) (L:=L) (hp:=hpA n σ.rs.length o σ.many (G9 L.R) (Jg σ L) (I5 σ L) [(e.tx,aC,.ptr 4 0)] []++FW r) hk rfl;refine (TI (args:=#[DK L.p,YI e]) (fn:=jo) (c:=LA kind e (hpA n σ.rs.length o σ.many (G9 L.R) (Jg σ L) (I5 σ L) [(e.tx,aC,.ptr 4 0)] []++FW r)) (kG _ _) (ajA _) (by kernel_rfl) (by kernel_rfl) hd acp hon (VK rfl) hg hrun).mono fun en w' ⟨v,sv,k,t,H',E1,E',h1,h2,h3,h4,h5,h6,h7,h8⟩=>?_;obtain ⟨hsv,us,rfl,hus⟩:=hts sv k t h2 h3;subst hsv;obtain ⟨L',a1,a2,a3⟩:=ajC hA hi hown h5 h6 h7 (h8 0 (by simp[EI,toR]) _ rfl) (h8 4 (by simp[EI,toR]) _ rfl)
  (fun k=>MO hi (by simp[hid])) hus
 exact ⟨v,H',L',h1,aco h4,a1,a2,a3,h7,Uj h6 fun b hb=>by
  obtain ⟨t,_,q⟩:=(hown b).1 hb;exact ⟨t,q⟩⟩
theorem acr(hA:Dy H w n (Aj o) σ L)(hon:H.on w)(hg:Dj (FV W5) H)(hby:σ.Ku e.tx=aK){kind:Int}(hk:e.kind=kind){f2:List (Int×Bool×SV)}{v2:List (Int×Option Value)}(d2:Gz H (IV L aK) f2 v2)(m2:∀k u,(k,u)∈v2->I5 σ L k=u){x:Option Nat}
  (hrun:ES (Gv [toN n σ.rs.length o σ.many (G9 L.R) (Jg σ L) (I5 σ L) [(e.tx,ay,.any)] f2] (fun sv k=>sv=svE x/\k=0)) ((run (C5 Ai W5 CU AP) 700 aC 79 [.code []] (LA kind e (hpA n σ.rs.length o σ.many (G9 L.R) (Jg σ L) (I5 σ L) [(e.tx,ay,.any)] f2))).bind (toEnd [toN n σ.rs.length o σ.many (G9 L.R) (Jg σ L) (I5 σ L) [(e.tx,ay,.any)] f2]))) :
  Calls aA 79 #[DK L.p,YI e] w (Qa H w n o σ L x σ):=by
 have hown:=aee (n:=n) (o:=o) (σ:=σ) (L:=L) (f1:=[(e.tx,ay,.any)]) (f2:=f2);have acp:=acn (own:=LQ (IV L aK) (J7 n o σ L [(e.tx,ay,.any)] f2)) hA (fun t b h1 h2=>(hown b).2 ⟨t,h1,h2⟩) (f1:=[(e.tx,ay,.any)]) (f2:=f2) (v1:=[(e.tx,aK)]) (v2:=v2)
  ⟨rfl,trivial,trivial⟩ d2 (fun k u hm=>by
   simp at hm;obtain ⟨rfl,rfl⟩:=hm;simp[Jg,hby]) m2
 have hd:=afv (H:=H) (E:=IV L aK) (L:=L) (hp:=hpA n σ.rs.length o σ.many (G9 L.R) (Jg σ L) (I5 σ L) [(e.tx,ay,.any)] f2) hk rfl;refine (TI (args:=#[DK L.p,YI e]) (fn:=jo) (c:=LA kind e (hpA n σ.rs.length o σ.many (G9 L.R) (Jg σ L) (I5 σ L) [(e.tx,ay,.any)] f2)) (kG _ _) (ajA _) (by kernel_rfl) (by kernel_rfl) hd acp hon (VK rfl) hg hrun).mono fun en w' ⟨v,sv,k,t,H',E1,E',h1,h2,h3,h4,h5,h6,h7,h8⟩=>?_;obtain ⟨rfl,rfl⟩:=h2;cases h3;obtain ⟨L',a1,a2,a3⟩:=ahE hA hown h5 h6 h7 (h8 0 (by simp[toN]) _ rfl);exact ⟨v,H',L',h1,aco h4,a1,a2,a3,h7,Uj h6 fun b hb=>by
  obtain ⟨t,_,q⟩:=(hown b).1 hb;exact ⟨t,q⟩⟩
theorem ami(hA:Dy H w n (Aj o) σ L)(hon:H.on w)(hg:Dj (FV W5) H)(hm:σ.many<400)(hl:σ.rs.length<=1000)(hby:σ.Ku e.tx=aK)(hbu:σ.Lr e.thread=aK)(hk:e.kind=1)(hv:Cm e=aC):
  Calls aA 79 #[DK L.p,YI e] w (Qa H w n o σ L aK ⟨σ.many+1,σ.rs++[⟨e.tx,e.thread,1,σ.many,-1,-1,[],1⟩]⟩):=by
 have hown:=aee (n:=n) (o:=o) (σ:=σ) (L:=L) (f1:=[(e.tx,ay,.any)]) (f2:=[(e.thread,ay,.any)]);have acp:=acn (own:=LQ (IV L aK) (J7 n o σ L [(e.tx,ay,.any)] [(e.thread,ay,.any)])) hA (fun t b h1 h2=>(hown b).2 ⟨t,h1,h2⟩) (f1:=[(e.tx,ay,.any)]) (f2:=[(e.thread,ay,.any)]) (v1:=[(e.tx,aK)]) (v2:=[(e.thread,aK)])
  ⟨rfl,trivial,trivial⟩ ⟨rfl,trivial,trivial⟩ (fun k u hm=>by
   simp at hm;obtain ⟨rfl,rfl⟩:=hm;simp[Jg,hby]) (fun k u hm=>by
   simp at hm;obtain ⟨rfl,rfl⟩:=hm;simp[I5,hbu])
 have hd:=afv (H:=H) (E:=IV L aK) (L:=L) (hp:=hpA n σ.rs.length o σ.many (G9 L.R) (Jg σ L) (I5 σ L) [(e.tx,ay,.any)] [(e.thread,ay,.any)]) hk rfl;refine (TI (args:=#[DK L.p,YI e]) (fn:=jo) (c:=LA 1 e (hpA n σ.rs.length o σ.many (G9 L.R) (Jg σ L) (I5 σ L) [(e.tx,ay,.any)] [(e.thread,ay,.any)])) (kG _ _) (ajA _) (by kernel_rfl) (by kernel_rfl) hd acp hon (VK rfl) hg (ap8 hm hl hk hv)).mono fun en w' ⟨v,sv,k,t,H',E1,E',h1,h2,h3,h4,h5,h6,h7,h8⟩=>?_;obtain ⟨rfl,rfl⟩:=h2;cases h3;obtain ⟨L',a1,a2,a3⟩:=ajD (r:=⟨e.tx,e.thread,1,σ.many,-1,-1,[],1⟩) hA hown rfl h5 h6 h7 (h8 0 (by simp[toB]) _ rfl)
  (fun k=>by
   show (σ.rs++[_]).findIdx? _=_;rw[Pg];by_cases q:k=e.tx
   ·subst q
    rw[if_pos rfl,show σ.rs.findIdx? (fun r=>r.id==e.tx)=aK from hby];simp
   ·rw[if_neg q]
    unfold Au.Ku;cases σ.rs.findIdx? fun r=>r.id==k with
    |some j=>rfl |none=>simp;exact fun h=>(q h.symm).elim)
  (fun k=>by
   show (σ.rs++[_]).findIdx? _=_;rw[Pg];by_cases q:k=e.thread
   ·subst q
    rw[if_pos rfl,show σ.rs.findIdx? (fun r=>r.th==e.thread&&r.live)=aK from hbu];simp[Rc.live]
   ·rw[if_neg q]
    unfold Au.Lr;cases σ.rs.findIdx? fun r=>r.th==k&&r.live with
    |some j=>rfl |none=>simp;exact fun h=>(q h.symm).elim)
 exact ⟨v,H',L',h1,aco h4,a1,a2,a3,h7,Uj h6 fun b hb=>by
  obtain ⟨t,_,q⟩:=(hown b).1 hb;exact ⟨t,q⟩⟩
end
end Go.Aw
namespace Go.BR
open Go Go.Sx
theorem Uk{α:Type}{l:List α}{i:Nat}{x:α}(h:l[i]?=ak x):l.set i x=l:=by
 apply lM;intro j;rw[lG];by_cases q:i=j
 ·subst q
  rw[if_pos rfl,if_pos (aV.1 h).1,h]
 ·rw[if_neg q]
theorem Nh(many:Nat)(e:Ev)(r:Rc):(Rc.out many e r).2.2.id=r.id:=by
 unfold Rc.out;cases h:Rc.step many e r with
 |inl k=>rfl |inr r'=>exact (QY h).1
theorem ajE{σ:Au}{e:Ev}{i:Nat}{r:Rc}(hi:σ.rs[i]?=ak r)(hby:σ.Ku e.tx=ak i)(hk:¬e.kind=1):σ.feed e=((Rc.out σ.many e r).1,⟨(Rc.out σ.many e r).2.1,σ.rs.set i (Rc.out σ.many e r).2.2⟩):=by
 have h1:(e.kind==1)=ay:=by simpa using hk
 have hr:σ.rs.getD i ⟨0,0,0,0,0,0,[],0⟩=r:=by rw[aX,hi];rfl
 unfold Au.feed;rw[hby];simp only[h1,cond_false,hr];unfold Rc.out;cases h:Rc.step σ.many e r with
 |inl k=>simp only[Uk hi] |inr r'=>rfl
theorem ZG{e:Ev}(h:Cm e=aC):1<=e.kind/\e.kind<=7:=by
 unfold Cm at h;simp only[aI] at h;have:=of_decide_eq_true h.1.1;exact this.1
end Go.BR
namespace Go.Aw
open Go Go.Sx Go.BR
theorem TJ{σ:Au}{i:Nat}{r:Rc}{e:Ev}(hi:σ.rs[i]?=ak r)(hs:1<=r.stand/\r.stand<=5)(hk:2<=e.kind/\e.kind<=7)(hn:¬(e.kind=5\/e.kind=6)\/(Rc.out σ.many e r).1.isNone=ay):ahD σ ⟨(Rc.out σ.many e r).2.1,σ.rs.set i (Rc.out σ.many e r).2.2⟩ []:=by
 refine .inl ⟨rfl,fun k=>?_⟩;unfold Rc.out at hn ⊢;cases h:Rc.step σ.many e r with
 |inl x=>simp only[Uk hi] |inr r'=>
  rw[h] at hn;have hn:¬(e.kind=5\/e.kind=6):=by simpa using hn
  obtain ⟨l1,l2,l3⟩:=VJ h hk hs;exact MO hi (by rw[(QY h).2,l1,l3.2 hn])
theorem ar4{σ:Au}(hI:σ.OK){i:Nat}{r:Rc}{e:Ev}(hi:σ.rs[i]?=ak r)(hk:e.kind=5\/e.kind=6)(hn:(Rc.out σ.many e r).1.isNone=aC):ahD σ ⟨(Rc.out σ.many e r).2.1,σ.rs.set i (Rc.out σ.many e r).2.2⟩ [(r.th,ay,.any)]:=by
 refine .inr ⟨r.th,.any,rfl,fun k=>?_⟩;unfold Rc.out at hn ⊢;cases h:Rc.step σ.many e r with
 |inl x=>rw[h] at hn;cases hn |inr r'=>
  obtain ⟨l1,l2,l3⟩:=VJ h (by omega) (hI.stands i r hi);have hl:r'.live=ay:=by
   cases q:r'.live with
   |false=>rfl |true=>exact (l3.1 q hk).elim
  have ht:=(QY h).2;have hlt:=(aV.1 hi).1;by_cases q:k=r.th
  ·rw[if_pos q]
   subst q;refine ahF fun j y hj=>?_
   rw[lG] at hj;by_cases e1:i=j
   ·rw[if_pos e1,if_pos (by omega)] at hj
    cases hj;rw[hl,Bool.and_false]
   ·rw[if_neg e1] at hj
    cases h1:(y.th==r.th&&y.live) with
    |false=>rfl |true=>
     simp only[aI,beq_iff_eq] at h1;exact (e1 (hI.one i j r y hi hj h1.1.symm l1 h1.2)).elim
  ·rw[if_neg q]
   refine MO hi ?_;rw[ht];have:(r.th==k)=ay:=by simpa using fun h:r.th=k=>q h.symm
   rw[this];rfl
section
variable{H:Mem}{w:World}{n:Nat}{o:Nat->Oj}{σ:Au}{L:Lay}{e:Ev}
theorem ts1{t0 t:Ry}{k:Nat}(h:[t0][k]?=ak t)(hk:k=0):t=t0:=by
 subst hk;cases h;rfl
theorem aqc(hA:Dy H w n (Aj o) σ L)(hI:σ.OK)(hon:H.on w)(hg:Dj (FV W5) H)(hm:σ.many<400)(hv:Cm e=aC)(hob:e.kind=2->0<=e.obj/\e.obj<n/\DV e.op=(o e.obj.toNat).kind):
  Calls aA 79 #[DK L.p,YI e] w (Qa H w n o σ L (σ.feed e).1 (σ.feed e).2):=by
 have hkd:=ZG hv;have hlen:=hI.len;cases hby:σ.Ku e.tx with
 |some i=>
  obtain ⟨r,hi,hp⟩:=TG hby
  have hdl:=hI.dl i r hi;by_cases k1:e.kind=1
  ·have e1:σ.feed e=(ak 9,σ):=by
    unfold Au.feed;rw[hby];simp only[k1];rfl
   rw[e1];have:=KO hA hon hg hi hby k1 (ap7 (n:=n) (o:=o) hm k1 hv r) (x:=ak 9) (many':=σ.many) (r':=r) rfl fun sv k t h1 h2=>⟨h1.1,[],ts1 h2 h1.2,.inl ⟨rfl,fun k=>by rw[Uk hi]⟩⟩;rw[Uk hi] at this;exact this
  ·rw[ajE hi hby k1]
   have hst:=hI.stands i r hi;by_cases k2:e.kind=2
   ·obtain ⟨h1,h2,h3⟩:=hob k2
    exact KO hA hon hg hi hby k2 (ap0 hm k2 hv r (by omega) h1 h2 h3) (Nh _ _ _) fun sv k t h1 h2=>⟨h1.1,[],ts1 h2 h1.2,TJ hi hst (by omega) (.inl (by omega))⟩
   by_cases k3:e.kind=3
   ·exact KO hA hon hg hi hby k3 (ap1 hm k3 hv r (by omega) (hI.deed i r hi)) (Nh _ _ _) fun sv k t h1 h2=>⟨h1.1,[],ts1 h2 h1.2,TJ hi hst (by omega) (.inl (by omega))⟩
   by_cases k4:e.kind=4
   ·exact KO hA hon hg hi hby k4 (apW hm k4 hv r) (Nh _ _ _) fun sv k t h1 h2=>⟨h1.1,[],ts1 h2 h1.2,TJ hi hst (by omega) (.inl (by omega))⟩
   by_cases k7:e.kind=7
   ·exact KO hA hon hg hi hby k7 (apX hm k7 hv r) (Nh _ _ _) fun sv k t h1 h2=>⟨h1.1,[],ts1 h2 h1.2,TJ hi hst (by omega) (.inl (by omega))⟩
   have fin:∀(sv:SV) (k:Nat) (t:Ry),(sv=svE (Rc.out σ.many e r).1/\k=bif (Rc.out σ.many e r).1.isNone then 1 else 0)->
     [EI n σ.rs.length o (G9 L.R) (Jg σ L) (I5 σ L) e (Rc.out σ.many e r).2.1 (Rc.out σ.many e r).2.2 [],EI n σ.rs.length o (G9 L.R) (Jg σ L) (I5 σ L) e (Rc.out σ.many e r).2.1 (Rc.out σ.many e r).2.2 [(r.th,ay,.any)]][k]?=ak t->
     sv=svE (Rc.out σ.many e r).1/\∃us,t=EI n σ.rs.length o (G9 L.R) (Jg σ L) (I5 σ L) e (Rc.out σ.many e r).2.1 (Rc.out σ.many e r).2.2 us/\ahD σ ⟨(Rc.out σ.many e r).2.1,σ.rs.set i (Rc.out σ.many e r).2.2⟩ us:=fun sv k t h1 h2=>by
    obtain ⟨a,rfl⟩:=h1;refine ⟨a,?_⟩;cases hn:(Rc.out σ.many e r).1.isNone with
    |true=>
     rw[hn] at h2;cases h2;exact ⟨_,rfl,ar4 hI hi (by omega) hn⟩
    |false=>
     rw[hn] at h2;cases h2;exact ⟨_,rfl,TJ hi hst (by omega) (.inr hn)⟩
   by_cases k5:e.kind=5
   ·exact KO hA hon hg hi hby k5 (apY hm k5 hv r) (Nh _ _ _) fin
   have k6:e.kind=6:=by omega
   exact KO hA hon hg hi hby k6 (apZ hm k6 hv r) (Nh _ _ _) fin
 |none=>
  by_cases k1:e.kind=1
  ·have hb:(e.kind==1)=aC:=by simpa using k1
   cases hbu:σ.Lr e.thread with
   |some j=>
    have e1:σ.feed e=(ak 10,σ):=by
     unfold Au.feed;rw[hby];simp only[hb,cond_true,hbu]
    rw[e1];exact acr hA hon hg hby k1 (f2:=[(e.thread,aC,.val (.pointer (ak ⟨L.R j,0,aK⟩)))]) (v2:=[(e.thread,ak (DK (L.R j)))]) ⟨rfl,⟨⟨rfl,rfl⟩,rfl⟩,trivial⟩ (fun k u hm=>by
     simp at hm;obtain ⟨rfl,rfl⟩:=hm;simp[I5,hbu]) (ar2 hm k1 hv (L.R j))
   |none=>
    have e1:σ.feed e=(aK,⟨σ.many+1,σ.rs++[⟨e.tx,e.thread,1,σ.many,-1,-1,[],1⟩]⟩):=by
     unfold Au.feed;rw[hby];simp only[hb,cond_true,hbu]
    rw[e1];exact ami hA hon hg hm (by omega) hby hbu k1 hv
  ·have hb:(e.kind==1)=ay:=by simpa using k1
   have e1:σ.feed e=(ak 11,σ):=by
    unfold Au.feed;rw[hby];simp only[hb,cond_false]
   rw[e1];have go:∀kd:Int,e.kind=kd->ES (Gv [toN n σ.rs.length o σ.many (G9 L.R) (Jg σ L) (I5 σ L) [(e.tx,ay,.any)] []] (fun sv k=>sv=svE (ak 11)/\k=0)) ((run (C5 Ai W5 CU AP) 700 aC 79 [.code []] (LA kd e (hpA n σ.rs.length o σ.many (G9 L.R) (Jg σ L) (I5 σ L) [(e.tx,ay,.any)] []))).bind (toEnd [toN n σ.rs.length o σ.many (G9 L.R) (Jg σ L) (I5 σ L) [(e.tx,ay,.any)] []]))->
     Calls aA 79 #[DK L.p,YI e] w (Qa H w n o σ L (ak 11) σ):=fun kd hk hr=>acr hA hon hg hby hk (f2:=[]) (v2:=[]) trivial (fun k u hm=>by simp at hm) hr
   by_cases k2:e.kind=2
   ·obtain ⟨h1,h2,h3⟩:=hob k2
    exact go 2 k2 (amc hm h1 h2 h3 k2 hv)
   by_cases k3:e.kind=3
   ·exact go 3 k3 (amd hm k3 hv)
   by_cases k4:e.kind=4
   ·exact go 4 k4 (ame hm k4 hv)
   by_cases k5:e.kind=5
   ·exact go 5 k5 (amf hm k5 hv)
   by_cases k6:e.kind=6
   ·exact go 6 k6 (amg hm k6 hv)
   have k7:e.kind=7:=by omega
   exact go 7 k7 (amh hm k7 hv)
end
end Go.Aw
