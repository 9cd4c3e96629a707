/- Own work. -/
import Derived.Test.YthehnhaoiijkhaaGreatDoorS12
open Int (ofNat)
open And renaming intro->bY
open Array renaming getElem?_eq_some_iff->bH,replicate->dY
open Bool renaming true->aF,false->aA,and_eq_true->aJ,or_false->kN
open Go.Proofs.Tryz renaming prog->aB,f128->oU,f79->jo
open Go.AQ.C5 renaming ok->ku
open Go.Sx.BQ renaming int->ak,nat->aK,get->aV,mp->bT,L9->bF,val->kX
open Go.Sx.SV renaming sh->dO,Ed->fU
open Go.Sx.Sh renaming er->bC,i->aZ
open Go.Sx.Tree renaming node->aG,leaf->aC,need->aI,must->aT
open Go.Value renaming pointer->gJ
open Iff renaming rfl->zF
open Int renaming ofNat->ah,negSucc->fG,ofNat_eq_natCast->fQ
open List renaming replicate->dU,range->aY,getElem?_eq_getElem->aS,getElem?_eq_some_iff->aQ,flatMap_cons->oP,getElem?_append_left->dM,getD_eq_getElem?_getD->aX,ext_getElem?->lM,getElem?_eq_none->jY,getElem?_set->lG,findIdx?_cons->jH
open Option renaming some->ay,none->aN,bind_some->eP
open Option.some renaming inj->dH
namespace Go.Cc
open Go Go.Sx
def O5(x y:Int):Bool:=
 bif x==2 then y==1 else bif x==3 then y==1 else bif x==5 then y==1 else bif x==7 then y==1 else bif x==1 then y==3 else bif x==4 then y==3 else
 bif x==6 then (bif y==2 then aF else y==3) else bif x==8 then (bif y==2 then aF else y==3) else bif x==9 then (bif y==2 then aF else y==3) else aA
end Go.Cc
namespace Go.AQ
open Go Go.Sx Go.Cc
theorem ams{ψ:Bool->Prop}{b x y:Bool}(h:ψ (bif b then x else y)):(b=aF->ψ x)/\(b=aA->ψ y):=by
 cases b
 ·exact ⟨fun q=>(by cases q),fun _=>h⟩
 ·exact ⟨fun _=>h,fun q=>by cases q⟩
def F67:List Sh->Tree Sh
 |[s,t]=>match BH s with
  |some x=>match BH t with
   |some y=>.leaf (.b (O5 x y)) |none=>.fail
  |none=>.fail
 |_=>.fail
theorem O67:Bh aB (F9 W5) 128 F67:=by
 refine Io (C:=C5 Aw W5 noSpec A8) (ku _ _) (MB _) (n:=300) (L:=L0) (fn:=oU) (by kernel_rfl) (by kernel_rfl) fun H w BI args φ hrep h=>?_
 have hn:oU.ntmps=36:=by kernel_rfl
 unfold F67 at h;split at h
 ·rename_i s t
  split at h
  ·rename_i x hx
   split at h
   ·rename_i y hy
    match args,hrep with
    |[u,v],⟨hu,hv,_⟩=>
     refine ⟨[.i .i64 x,.i .i64 y],⟨EH hx hu,EH hy hv,trivial⟩,?_⟩;rw[hn,a67 Aw W5 x y,CJ];have h:φ (.b (O5 x y)):=h;have r:∀{b:Bool} {c d:Bool},φ (.b (bif b then c else d))->(b=aF->φ (.b c))/\(b=aA->φ (.b d)):=fun h=>ams (ψ:=fun b=>φ (.b b)) h;rw[<-CJ];have h1:=r h;refine ⟨h1.1,fun q=>?_⟩;have h1:=r (h1.2 q);refine ⟨h1.1,fun q=>?_⟩;have h1:=r (h1.2 q);refine ⟨h1.1,fun q=>?_⟩;have h1:=r (h1.2 q);refine ⟨h1.1,fun q=>?_⟩;have h1:=r (h1.2 q);refine ⟨h1.1,fun q=>?_⟩;have h1:=r (h1.2 q);refine ⟨h1.1,fun q=>?_⟩;have h1:=r (h1.2 q);refine ⟨fun q=>r (h1.1 q),fun q=>?_⟩;have h1:=r (h1.2 q);refine ⟨fun q=>r (h1.1 q),fun q=>?_⟩;have h1:=r (h1.2 q);exact ⟨fun q=>r (h1.1 q),h1.2⟩
   ·exact h.elim
  ·exact h.elim
 ·exact h.elim
end Go.AQ
namespace Go.Cc
open Go Go.Sx
def tmO(n:Nat)(l:List (Nat×SV)):List SV:=l.foldl (fun t p=>t.set p.1 p.2) (dU n .any)
structure De where
 obj:Int
 op:Int
 key:Int
 val:Int
 ret:Int
 got:Int
 here:Int
 back:Int
 deriving DecidableEq,Inhabited
def deR(e:De):List Sh:=[.i .i64 e.obj,.i .i64 e.op,.i .i64 e.key,.i .i64 e.val,.i .i64 e.ret,.i .i64 e.got,.i .i64 e.here,.i .i64 e.back]
instance:Row De where
 put:=deR
 get l:=match l with
  |[.i .i64 a,.i .i64 b,.i .i64 c,.i .i64 d,.i .i64 e,.i .i64 f,.i .i64 g,.i .i64 h]=>ay ⟨a,b,c,d,e,f,g,h⟩ |_=>aN
 DJ l a h:=by
  split at h
  ·cases h;rfl
  ·cases h
 get_put a:=rfl
 JJ:=⟨0,0,0,0,0,0,0,0⟩
def CS(e:Ev):Bool:=O1 e&&fieldsB e&&Dq e.ret
end Go.Cc
namespace Go.AQ
open Go Go.Sx Go.Cc
def ap8:List Sh->Tree Sh
 |[.agg l]=>match acw l with
  |some e=>.need (CS e) (.leaf (.v .nilIface)) |none=>.fail
 |_=>.fail
def Dc:Nat->Option (List Sh->Tree Sh)
 |101=>ay ap8 |102=>ay F57 |128=>ay F67 |_=>aN
def hpA(n m:Nat)(o:Nat->Oj)(many:Int)(gR:Nat->List Sh)(M1 M2:Int->Option Value)(f1 f2:List (Int×Bool×SV)):List (Nat×SB):=
 [(0,.box [.gs 6,.sym .i64 many,.gs 1,.mp 2,.mp 3] 181),(1,.own 182 1 m gR),(2,.fm .i64 M1 f1 [] aN),(3,.fm .i64 M2 f2 [] aN),(6,.own 140 2 n (Az o))]
def hpR(a b c d x y z:Int)(k:Nat)(gd:Nat->List Sh):List (Nat×SB):=
 [(4,.box [.sym .i64 a,.sym .i64 b,.sym .i64 c,.sym .i64 d,.sym .i64 x,.sym .i64 y,.gs 5,.sym .i64 z] 184),(5,.own 197 8 k gd)]
def evS(kind:Int)(e:Ev):SV:=.agg [.int .i64 kind,.sym .i64 e.tx,.sym .i64 e.thread,.sym .i64 e.obj,.sym .i64 e.op,.sym .i64 e.key,.sym .i64 e.val,.sym .i64 e.ret]
def LA(kind:Int)(e:Ev)(hp:List (Nat×SB)):Core:={tm:=tmO 168 [(0,.ptr 0 0),(1,evS kind e)],hp,nx:=7,lim:=L0,tc:=[]}
def toR(n m:Nat)(o:Nat->Oj)(gR:Nat->List Sh)(M1 M2:Int->Option Value)(e:Ev)(many' a' b' c' d' x' y' z':Int)(k':Nat)(gd':Nat->List Sh)(us:List (Int×Bool×SV)):Rw:=
 ⟨[(0,.box [.gs 6,.sym .i64 many',.gs 1,.mp 2,.mp 3] 181),(1,.own 182 1 m gR),(2,.fm .i64 M1 [(e.tx,aF,.ptr 4 0)] [] aN),(3,.fm .i64 M2 [] us aN),(6,.own 140 2 n (Az o)),
  (4,.box [.sym .i64 a',.sym .i64 b',.sym .i64 c',.sym .i64 d',.sym .i64 x',.sym .i64 y',.gs 5,.sym .i64 z'] 184),(5,.own 197 8 k' gd')],[0,4]⟩
def toN(n m:Nat)(o:Nat->Oj)(many':Int)(gR:Nat->List Sh)(M1 M2:Int->Option Value)(f1 f2:List (Int×Bool×SV)):Rw:=⟨hpA n m o many' gR M1 M2 f1 f2,[0]⟩
def toB(n m:Nat)(o:Nat->Oj)(gR:Nat->List Sh)(M1 M2:Int->Option Value)(e:Ev)(many' a' b' c' d' x' y' z':Int):Rw:=
 ⟨[(0,.box [.gs 6,.sym .i64 many',.gs 1,.mp 2,.mp 3] 181),(6,.own 140 2 n (Az o)),(1,.Hl 182 1 m gR [.ptr 4 0]),(2,.fm .i64 M1 [(e.tx,aA,.any)] [(e.tx,aF,.ptr 4 0),(e.tx,aF,.any)] aN),(3,.fm .i64 M2 [(e.thread,aA,.any)] [(e.thread,aF,.ptr 4 0),(e.thread,aF,.any)] aN),
  (4,.box [.sym .i64 a',.sym .i64 b',.sym .i64 c',.sym .i64 d',.sym .i64 x',.sym .i64 y',.Bj,.sym .i64 z'] 184)],[0]⟩
theorem ap9(A:Prim)(W:Wd)(n m:Nat)(o:Nat->Oj)(many:Int)(gR:Nat->List Sh)(M1 M2:Int->Option Value)(e:Ev)(a b c d x y z:Int)(k:Nat)(dd:Nat->De)(many' a' b' c' d' x' y' z':Int)(k':Nat)(gd':Nat->List Sh):(run (C5 A W Dc A8) 700 aF 79 [.code []] (LA 2 e (hpA n m o many gR M1 M2 [(e.tx,aF,.ptr 4 0)] []++hpR a b c d x y z k (Az dd)))).bind (toEnd [toR n m o gR M1 M2 e many' a' b' c' d' x' y' z' k' gd' []])=aG (A.eq many (ah 400)) (aC (dO (bC 6 329),0,[ak many many',aK m m,aV m gR gR,bT M1 M1,ak e.tx e.tx,bT M2 M2,aK n n,aV n (Az o) (Az o),ak a a',ak b b',ak c c',ak d d',ak x x',ak y y',ak z z',aK k k',aV k (Az dd) gd'])) (aI (CS {kind:=ah 2,tx:=e.tx,thread:=e.thread,obj:=e.obj,op:=e.op,key:=e.key,val:=e.val,ret:=e.ret}) (aG (A.le (A.Bl n) e.obj) (aC (dO (bC 7 329),0,[ak many many',aK m m,aV m gR gR,bT M1 M1,ak e.tx e.tx,bT M2 M2,aK n n,aV n (Az o) (Az o),ak a a',ak b b',ak c c',ak d d',ak x x',ak y y',ak z z',aK k k',aV k (Az dd) gd'])) (aI (A.inB e.obj n) (aG (A.nt (A.eq (D6 e.op) (o (A.toN e.obj)).kind)) (aC (dO (bC 8 329),0,[ak many many',aK m m,aV m gR gR,bT M1 M1,ak e.tx e.tx,bT M2 M2,aK n n,aV n (Az o) (Az o),ak a a',ak b b',ak c c',ak d d',ak x x',ak y y',ak z z',aK k k',aV k (Az dd) gd'])) (aI (A.eq e.tx e.tx) (aT [ak e.tx e.tx,ak e.thread e.thread,ak e.obj e.obj,ak e.op e.op,ak e.key e.key,ak e.val e.val,ak e.ret e.ret,ak many many,aK m m,bF gR gR,bT M1 M1,ak e.tx e.tx,bT M2 M2,aK n n,bF (Az o) (Az o),ak a a,ak b b,ak c c,ak d d,ak x x,ak y y,ak z z,aK k k,bF (Az dd) (Az dd),ak e.tx e.tx,ak e.thread e.thread,ak e.obj e.obj,ak e.op e.op,ak e.key e.key,ak e.val e.val,ak e.ret e.ret] (aT [ak e.tx e.tx,ak e.thread e.thread,ak e.obj e.obj,ak e.op e.op,ak e.key e.key,ak e.val e.val,ak e.ret e.ret,ak many many,aK m m,bF gR gR,bT M1 M1,ak e.tx e.tx,bT M2 M2,aK n n,bF (Az o) (Az o),ak a a,ak b b,ak c c,ak d d,ak x x,ak y y,ak z z,aK k k,bF (Az dd) (Az dd),ak e.tx e.tx,ak e.thread e.thread,ak e.obj e.obj,ak e.op e.op,ak e.key e.key,ak e.val e.val,ak e.ret e.ret] (aG (A.eq z (ah 1)) (aI (A.room (A.addN k 1) 64) (aI (A.room (A.addN k 1) 64) (aT [ak e.tx e.tx,ak e.thread e.thread,ak e.obj e.obj,ak e.op e.op,ak e.key e.key,ak e.val e.val,ak e.ret e.ret,ak many many,ak many many,aK m m,bF gR gR,bT M1 M1,ak e.tx e.tx,bT M2 M2,aK n n,bF (Az o) (Az o),ak a a,ak b b,ak c c,ak d d,ak x x,ak y y,ak e.tx e.tx,ak e.thread e.thread,ak e.obj e.obj,ak e.op e.op,ak e.key e.key,ak e.val e.val,ak e.ret e.ret,ak e.tx e.tx,ak e.thread e.thread,ak e.obj e.obj,ak e.op e.op,ak e.key e.key,ak e.val e.val,ak e.ret e.ret,ak e.obj e.obj,ak e.op e.op,ak e.key e.key,ak e.val e.val,ak many many,aK (A.addN k 1) (A.addN k 1),bF (A.snoc (Az dd) k (BD [[aZ .i64 e.obj,aZ .i64 e.op,aZ .i64 e.key,aZ .i64 e.val,aZ .i64 (ah 0),aZ .i64 (ah 0),aZ .i64 many,aZ .i64 (fG 0)]])) (A.snoc (Az dd) k (BD [[aZ .i64 e.obj,aZ .i64 e.op,aZ .i64 e.key,aZ .i64 e.val,aZ .i64 (ah 0),aZ .i64 (ah 0),aZ .i64 many,aZ .i64 (fG 0)]]))] (aC (fU,0,[ak (A.add .i64 many (ah 1)) many',aK m m,aV m gR gR,bT M1 M1,ak e.tx e.tx,bT M2 M2,aK n n,aV n (Az o) (Az o),ak a a',ak b b',ak c c',ak d d',ak x x',ak y y',ak (ah 2) z',aK (A.addN k 1) k',aV (A.addN k 1) (A.snoc (Az dd) k (BD [[aZ .i64 e.obj,aZ .i64 e.op,aZ .i64 e.key,aZ .i64 e.val,aZ .i64 (ah 0),aZ .i64 (ah 0),aZ .i64 many,aZ .i64 (fG 0)]])) gd']))))) (aC (dO (bC 12 329),0,[ak many many',aK m m,aV m gR gR,bT M1 M1,ak e.tx e.tx,bT M2 M2,aK n n,aV n (Az o) (Az o),ak a a',ak b b',ak c c',ak d d',ak x x',ak y y',ak z z',aK k k',aV k (Az dd) gd'])))))))))):=by kernel_rfl
theorem avh(A:Prim)(W:Wd)(n m:Nat)(o:Nat->Oj)(many:Int)(gR:Nat->List Sh)(M1 M2:Int->Option Value)(e:Ev)(many':Int):(run (C5 A W Dc A8) 700 aF 79 [.code []] (LA 2 e (hpA n m o many gR M1 M2 [(e.tx,aA,.any)] []))).bind (toEnd [toN n m o many' gR M1 M2 [(e.tx,aA,.any)] []])=aG (A.eq many (ah 400)) (aC (dO (bC 6 329),0,[ak many many',aK m m,aV m gR gR,bT M1 M1,ak e.tx e.tx,bT M2 M2,aK n n,aV n (Az o) (Az o)])) (aI (CS {kind:=ah 2,tx:=e.tx,thread:=e.thread,obj:=e.obj,op:=e.op,key:=e.key,val:=e.val,ret:=e.ret}) (aG (A.le (A.Bl n) e.obj) (aC (dO (bC 7 329),0,[ak many many',aK m m,aV m gR gR,bT M1 M1,ak e.tx e.tx,bT M2 M2,aK n n,aV n (Az o) (Az o)])) (aI (A.inB e.obj n) (aG (A.nt (A.eq (D6 e.op) (o (A.toN e.obj)).kind)) (aC (dO (bC 8 329),0,[ak many many',aK m m,aV m gR gR,bT M1 M1,ak e.tx e.tx,bT M2 M2,aK n n,aV n (Az o) (Az o)])) (aI (A.eq e.tx e.tx) (aC (dO (bC 11 329),0,[ak many many',aK m m,aV m gR gR,bT M1 M1,ak e.tx e.tx,bT M2 M2,aK n n,aV n (Az o) (Az o)]))))))):=by kernel_rfl
theorem ajW(A:Prim)(W:Wd)(n m:Nat)(o:Nat->Oj)(many:Int)(gR:Nat->List Sh)(M1 M2:Int->Option Value)(e:Ev)(a b c d x y z:Int)(k:Nat)(dd:Nat->De)(many' a' b' c' d' x' y' z':Int)(k':Nat)(gd':Nat->List Sh):(run (C5 A W Dc A8) 700 aF 79 [.code []] (LA 3 e (hpA n m o many gR M1 M2 [(e.tx,aF,.ptr 4 0)] []++hpR a b c d x y z k (Az dd)))).bind (toEnd [toR n m o gR M1 M2 e many' a' b' c' d' x' y' z' k' gd' []])=aG (A.eq many (ah 400)) (aC (dO (bC 6 329),0,[ak many many',aK m m,aV m gR gR,bT M1 M1,ak e.tx e.tx,bT M2 M2,aK n n,aV n (Az o) (Az o),ak a a',ak b b',ak c c',ak d d',ak x x',ak y y',ak z z',aK k k',aV k (Az dd) gd'])) (aI (CS {kind:=ah 3,tx:=e.tx,thread:=e.thread,obj:=e.obj,op:=e.op,key:=e.key,val:=e.val,ret:=e.ret}) (aI (A.eq e.tx e.tx) (aT [ak e.tx e.tx,ak e.thread e.thread,ak e.obj e.obj,ak e.op e.op,ak e.key e.key,ak e.val e.val,ak e.ret e.ret,ak many many,aK m m,bF gR gR,bT M1 M1,ak e.tx e.tx,bT M2 M2,aK n n,bF (Az o) (Az o),ak a a,ak b b,ak c c,ak d d,ak x x,ak y y,ak z z,aK k k,bF (Az dd) (Az dd),ak e.tx e.tx,ak e.thread e.thread,ak e.obj e.obj,ak e.op e.op,ak e.key e.key,ak e.val e.val,ak e.ret e.ret] (aT [ak e.tx e.tx,ak e.thread e.thread,ak e.obj e.obj,ak e.op e.op,ak e.key e.key,ak e.val e.val,ak e.ret e.ret,ak many many,aK m m,bF gR gR,bT M1 M1,ak e.tx e.tx,bT M2 M2,aK n n,bF (Az o) (Az o),ak a a,ak b b,ak c c,ak d d,ak x x,ak y y,ak z z,aK k k,bF (Az dd) (Az dd),ak e.tx e.tx,ak e.thread e.thread,ak e.obj e.obj,ak e.op e.op,ak e.key e.key,ak e.val e.val,ak e.ret e.ret] (aG (A.eq z (ah 2)) (aI (A.inB (A.sub .i64 (A.Bl k) (ah 1)) k) (aG (A.nt (O5 (dd (A.toN (A.sub .i64 (A.Bl k) (ah 1)))).op e.ret)) (aC (dO (bC 13 329),0,[ak many many',aK m m,aV m gR gR,bT M1 M1,ak e.tx e.tx,bT M2 M2,aK n n,aV n (Az o) (Az o),ak a a',ak b b',ak c c',ak d d',ak x x',ak y y',ak z z',aK k k',aV k (Az dd) gd'])) (aC (fU,0,[ak (A.add .i64 many (ah 1)) many',aK m m,aV m gR gR,bT M1 M1,ak e.tx e.tx,bT M2 M2,aK n n,aV n (Az o) (Az o),ak a a',ak b b',ak c c',ak d d',ak x x',ak y y',ak (ah 1) z',aK k k',aV k (A.upd (A.upd (A.upd (Az dd) (A.toN (A.sub .i64 (A.Bl k) (ah 1))) 4 [aZ .i64 e.ret]) (A.toN (A.sub .i64 (A.Bl k) (ah 1))) 5 [aZ .i64 e.val]) (A.toN (A.sub .i64 (A.Bl k) (ah 1))) 7 [aZ .i64 many]) gd'])))) (aC (dO (bC 12 329),0,[ak many many',aK m m,aV m gR gR,bT M1 M1,ak e.tx e.tx,bT M2 M2,aK n n,aV n (Az o) (Az o),ak a a',ak b b',ak c c',ak d d',ak x x',ak y y',ak z z',aK k k',aV k (Az dd) gd']))))))):=by kernel_rfl
theorem avi(A:Prim)(W:Wd)(n m:Nat)(o:Nat->Oj)(many:Int)(gR:Nat->List Sh)(M1 M2:Int->Option Value)(e:Ev)(many':Int):(run (C5 A W Dc A8) 700 aF 79 [.code []] (LA 3 e (hpA n m o many gR M1 M2 [(e.tx,aA,.any)] []))).bind (toEnd [toN n m o many' gR M1 M2 [(e.tx,aA,.any)] []])=aG (A.eq many (ah 400)) (aC (dO (bC 6 329),0,[ak many many',aK m m,aV m gR gR,bT M1 M1,ak e.tx e.tx,bT M2 M2,aK n n,aV n (Az o) (Az o)])) (aI (CS {kind:=ah 3,tx:=e.tx,thread:=e.thread,obj:=e.obj,op:=e.op,key:=e.key,val:=e.val,ret:=e.ret}) (aI (A.eq e.tx e.tx) (aC (dO (bC 11 329),0,[ak many many',aK m m,aV m gR gR,bT M1 M1,ak e.tx e.tx,bT M2 M2,aK n n,aV n (Az o) (Az o)])))):=by kernel_rfl
theorem aqa(A:Prim)(W:Wd)(n m:Nat)(o:Nat->Oj)(many:Int)(gR:Nat->List Sh)(M1 M2:Int->Option Value)(e:Ev)(a b c d x y z:Int)(k:Nat)(dd:Nat->De)(many' a' b' c' d' x' y' z':Int)(k':Nat)(gd':Nat->List Sh):(run (C5 A W Dc A8) 700 aF 79 [.code []] (LA 4 e (hpA n m o many gR M1 M2 [(e.tx,aF,.ptr 4 0)] []++hpR a b c d x y z k (Az dd)))).bind (toEnd [toR n m o gR M1 M2 e many' a' b' c' d' x' y' z' k' gd' []])=aG (A.eq many (ah 400)) (aC (dO (bC 6 329),0,[ak many many',aK m m,aV m gR gR,bT M1 M1,ak e.tx e.tx,bT M2 M2,aK n n,aV n (Az o) (Az o),ak a a',ak b b',ak c c',ak d d',ak x x',ak y y',ak z z',aK k k',aV k (Az dd) gd'])) (aI (CS {kind:=ah 4,tx:=e.tx,thread:=e.thread,obj:=e.obj,op:=e.op,key:=e.key,val:=e.val,ret:=e.ret}) (aI (A.eq e.tx e.tx) (aT [ak e.tx e.tx,ak e.thread e.thread,ak e.obj e.obj,ak e.op e.op,ak e.key e.key,ak e.val e.val,ak e.ret e.ret,ak many many,aK m m,bF gR gR,bT M1 M1,ak e.tx e.tx,bT M2 M2,aK n n,bF (Az o) (Az o),ak a a,ak b b,ak c c,ak d d,ak x x,ak y y,ak z z,aK k k,bF (Az dd) (Az dd),ak e.tx e.tx,ak e.thread e.thread,ak e.obj e.obj,ak e.op e.op,ak e.key e.key,ak e.val e.val,ak e.ret e.ret] (aT [ak e.tx e.tx,ak e.thread e.thread,ak e.obj e.obj,ak e.op e.op,ak e.key e.key,ak e.val e.val,ak e.ret e.ret,ak many many,aK m m,bF gR gR,bT M1 M1,ak e.tx e.tx,bT M2 M2,aK n n,bF (Az o) (Az o),ak a a,ak b b,ak c c,ak d d,ak x x,ak y y,ak z z,aK k k,bF (Az dd) (Az dd),ak e.tx e.tx,ak e.thread e.thread,ak e.obj e.obj,ak e.op e.op,ak e.key e.key,ak e.val e.val,ak e.ret e.ret] (aG (A.eq z (ah 1)) (aC (fU,0,[ak (A.add .i64 many (ah 1)) many',aK m m,aV m gR gR,bT M1 M1,ak e.tx e.tx,bT M2 M2,aK n n,aV n (Az o) (Az o),ak a a',ak b b',ak (ah 2) c',ak d d',ak x x',ak many y',ak (ah 3) z',aK k k',aV k (Az dd) gd'])) (aC (dO (bC 12 329),0,[ak many many',aK m m,aV m gR gR,bT M1 M1,ak e.tx e.tx,bT M2 M2,aK n n,aV n (Az o) (Az o),ak a a',ak b b',ak c c',ak d d',ak x x',ak y y',ak z z',aK k k',aV k (Az dd) gd']))))))):=by kernel_rfl
theorem avj(A:Prim)(W:Wd)(n m:Nat)(o:Nat->Oj)(many:Int)(gR:Nat->List Sh)(M1 M2:Int->Option Value)(e:Ev)(many':Int):(run (C5 A W Dc A8) 700 aF 79 [.code []] (LA 4 e (hpA n m o many gR M1 M2 [(e.tx,aA,.any)] []))).bind (toEnd [toN n m o many' gR M1 M2 [(e.tx,aA,.any)] []])=aG (A.eq many (ah 400)) (aC (dO (bC 6 329),0,[ak many many',aK m m,aV m gR gR,bT M1 M1,ak e.tx e.tx,bT M2 M2,aK n n,aV n (Az o) (Az o)])) (aI (CS {kind:=ah 4,tx:=e.tx,thread:=e.thread,obj:=e.obj,op:=e.op,key:=e.key,val:=e.val,ret:=e.ret}) (aI (A.eq e.tx e.tx) (aC (dO (bC 11 329),0,[ak many many',aK m m,aV m gR gR,bT M1 M1,ak e.tx e.tx,bT M2 M2,aK n n,aV n (Az o) (Az o)])))):=by kernel_rfl
theorem aqb(A:Prim)(W:Wd)(n m:Nat)(o:Nat->Oj)(many:Int)(gR:Nat->List Sh)(M1 M2:Int->Option Value)(e:Ev)(a b c d x y z:Int)(k:Nat)(dd:Nat->De)(many' a' b' c' d' x' y' z':Int)(k':Nat)(gd':Nat->List Sh):(run (C5 A W Dc A8) 700 aF 79 [.code []] (LA 5 e (hpA n m o many gR M1 M2 [(e.tx,aF,.ptr 4 0)] []++hpR a b c d x y z k (Az dd)))).bind (toEnd [toR n m o gR M1 M2 e many' a' b' c' d' x' y' z' k' gd' [],toR n m o gR M1 M2 e many' a' b' c' d' x' y' z' k' gd' [(b,aA,.any)]])=aG (A.eq many (ah 400)) (aC (dO (bC 6 329),0,[ak many many',aK m m,aV m gR gR,bT M1 M1,ak e.tx e.tx,bT M2 M2,aK n n,aV n (Az o) (Az o),ak a a',ak b b',ak c c',ak d d',ak x x',ak y y',ak z z',aK k k',aV k (Az dd) gd'])) (aI (CS {kind:=ah 5,tx:=e.tx,thread:=e.thread,obj:=e.obj,op:=e.op,key:=e.key,val:=e.val,ret:=e.ret}) (aI (A.eq e.tx e.tx) (aT [ak e.tx e.tx,ak e.thread e.thread,ak e.obj e.obj,ak e.op e.op,ak e.key e.key,ak e.val e.val,ak e.ret e.ret,ak many many,aK m m,bF gR gR,bT M1 M1,ak e.tx e.tx,bT M2 M2,aK n n,bF (Az o) (Az o),ak a a,ak b b,ak c c,ak d d,ak x x,ak y y,ak z z,aK k k,bF (Az dd) (Az dd),ak e.tx e.tx,ak e.thread e.thread,ak e.obj e.obj,ak e.op e.op,ak e.key e.key,ak e.val e.val,ak e.ret e.ret] (aT [ak e.tx e.tx,ak e.thread e.thread,ak e.obj e.obj,ak e.op e.op,ak e.key e.key,ak e.val e.val,ak e.ret e.ret,ak many many,aK m m,bF gR gR,bT M1 M1,ak e.tx e.tx,bT M2 M2,aK n n,bF (Az o) (Az o),ak a a,ak b b,ak c c,ak d d,ak x x,ak y y,ak z z,aK k k,bF (Az dd) (Az dd),ak e.tx e.tx,ak e.thread e.thread,ak e.obj e.obj,ak e.op e.op,ak e.key e.key,ak e.val e.val,ak e.ret e.ret] (aG (A.eq z (ah 3)) (aC (fU,1,[ak (A.add .i64 many (ah 1)) many',aK m m,aV m gR gR,bT M1 M1,ak e.tx e.tx,bT M2 M2,ak b b,aK n n,aV n (Az o) (Az o),ak a a',ak b b',ak (ah 3) c',ak d d',ak many x',ak y y',ak (ah 5) z',aK k k',aV k (Az dd) gd'])) (aC (dO (bC 12 329),0,[ak many many',aK m m,aV m gR gR,bT M1 M1,ak e.tx e.tx,bT M2 M2,aK n n,aV n (Az o) (Az o),ak a a',ak b b',ak c c',ak d d',ak x x',ak y y',ak z z',aK k k',aV k (Az dd) gd']))))))):=by kernel_rfl
theorem avk(A:Prim)(W:Wd)(n m:Nat)(o:Nat->Oj)(many:Int)(gR:Nat->List Sh)(M1 M2:Int->Option Value)(e:Ev)(many':Int):(run (C5 A W Dc A8) 700 aF 79 [.code []] (LA 5 e (hpA n m o many gR M1 M2 [(e.tx,aA,.any)] []))).bind (toEnd [toN n m o many' gR M1 M2 [(e.tx,aA,.any)] []])=aG (A.eq many (ah 400)) (aC (dO (bC 6 329),0,[ak many many',aK m m,aV m gR gR,bT M1 M1,ak e.tx e.tx,bT M2 M2,aK n n,aV n (Az o) (Az o)])) (aI (CS {kind:=ah 5,tx:=e.tx,thread:=e.thread,obj:=e.obj,op:=e.op,key:=e.key,val:=e.val,ret:=e.ret}) (aI (A.eq e.tx e.tx) (aC (dO (bC 11 329),0,[ak many many',aK m m,aV m gR gR,bT M1 M1,ak e.tx e.tx,bT M2 M2,aK n n,aV n (Az o) (Az o)])))):=by kernel_rfl
theorem aqc(A:Prim)(W:Wd)(n m:Nat)(o:Nat->Oj)(many:Int)(gR:Nat->List Sh)(M1 M2:Int->Option Value)(e:Ev)(a b c d x y z:Int)(k:Nat)(dd:Nat->De)(many' a' b' c' d' x' y' z':Int)(k':Nat)(gd':Nat->List Sh):(run (C5 A W Dc A8) 700 aF 79 [.code []] (LA 6 e (hpA n m o many gR M1 M2 [(e.tx,aF,.ptr 4 0)] []++hpR a b c d x y z k (Az dd)))).bind (toEnd [toR n m o gR M1 M2 e many' a' b' c' d' x' y' z' k' gd' [],toR n m o gR M1 M2 e many' a' b' c' d' x' y' z' k' gd' [(b,aA,.any)]])=aG (A.eq many (ah 400)) (aC (dO (bC 6 329),0,[ak many many',aK m m,aV m gR gR,bT M1 M1,ak e.tx e.tx,bT M2 M2,aK n n,aV n (Az o) (Az o),ak a a',ak b b',ak c c',ak d d',ak x x',ak y y',ak z z',aK k k',aV k (Az dd) gd'])) (aI (CS {kind:=ah 6,tx:=e.tx,thread:=e.thread,obj:=e.obj,op:=e.op,key:=e.key,val:=e.val,ret:=e.ret}) (aI (A.eq e.tx e.tx) (aT [ak e.tx e.tx,ak e.thread e.thread,ak e.obj e.obj,ak e.op e.op,ak e.key e.key,ak e.val e.val,ak e.ret e.ret,ak many many,aK m m,bF gR gR,bT M1 M1,ak e.tx e.tx,bT M2 M2,aK n n,bF (Az o) (Az o),ak a a,ak b b,ak c c,ak d d,ak x x,ak y y,ak z z,aK k k,bF (Az dd) (Az dd),ak e.tx e.tx,ak e.thread e.thread,ak e.obj e.obj,ak e.op e.op,ak e.key e.key,ak e.val e.val,ak e.ret e.ret] (aT [ak e.tx e.tx,ak e.thread e.thread,ak e.obj e.obj,ak e.op e.op,ak e.key e.key,ak e.val e.val,ak e.ret e.ret,ak many many,aK m m,bF gR gR,bT M1 M1,ak e.tx e.tx,bT M2 M2,aK n n,bF (Az o) (Az o),ak a a,ak b b,ak c c,ak d d,ak x x,ak y y,ak z z,aK k k,bF (Az dd) (Az dd),ak e.tx e.tx,ak e.thread e.thread,ak e.obj e.obj,ak e.op e.op,ak e.key e.key,ak e.val e.val,ak e.ret e.ret] (aG (A.eq z (ah 1)) (aC (fU,1,[ak (A.add .i64 many (ah 1)) many',aK m m,aV m gR gR,bT M1 M1,ak e.tx e.tx,bT M2 M2,ak b b,aK n n,aV n (Az o) (Az o),ak a a',ak b b',ak (ah 4) c',ak d d',ak many x',ak y y',ak (ah 5) z',aK k k',aV k (Az dd) gd'])) (aG (A.eq z (ah 2)) (aC (fU,1,[ak (A.add .i64 many (ah 1)) many',aK m m,aV m gR gR,bT M1 M1,ak e.tx e.tx,bT M2 M2,ak b b,aK n n,aV n (Az o) (Az o),ak a a',ak b b',ak (ah 4) c',ak d d',ak many x',ak y y',ak (ah 5) z',aK k k',aV k (Az dd) gd'])) (aG (A.eq z (ah 3)) (aC (fU,1,[ak (A.add .i64 many (ah 1)) many',aK m m,aV m gR gR,bT M1 M1,ak e.tx e.tx,bT M2 M2,ak b b,aK n n,aV n (Az o) (Az o),ak a a',ak b b',ak (ah 4) c',ak d d',ak many x',ak y y',ak (ah 5) z',aK k k',aV k (Az dd) gd'])) (aG (A.eq z (ah 4)) (aC (fU,1,[ak (A.add .i64 many (ah 1)) many',aK m m,aV m gR gR,bT M1 M1,ak e.tx e.tx,bT M2 M2,ak b b,aK n n,aV n (Az o) (Az o),ak a a',ak b b',ak (ah 4) c',ak d d',ak many x',ak y y',ak (ah 5) z',aK k k',aV k (Az dd) gd'])) (aC (dO (bC 12 329),0,[ak many many',aK m m,aV m gR gR,bT M1 M1,ak e.tx e.tx,bT M2 M2,aK n n,aV n (Az o) (Az o),ak a a',ak b b',ak c c',ak d d',ak x x',ak y y',ak z z',aK k k',aV k (Az dd) gd'])))))))))):=by kernel_rfl
theorem avl(A:Prim)(W:Wd)(n m:Nat)(o:Nat->Oj)(many:Int)(gR:Nat->List Sh)(M1 M2:Int->Option Value)(e:Ev)(many':Int):(run (C5 A W Dc A8) 700 aF 79 [.code []] (LA 6 e (hpA n m o many gR M1 M2 [(e.tx,aA,.any)] []))).bind (toEnd [toN n m o many' gR M1 M2 [(e.tx,aA,.any)] []])=aG (A.eq many (ah 400)) (aC (dO (bC 6 329),0,[ak many many',aK m m,aV m gR gR,bT M1 M1,ak e.tx e.tx,bT M2 M2,aK n n,aV n (Az o) (Az o)])) (aI (CS {kind:=ah 6,tx:=e.tx,thread:=e.thread,obj:=e.obj,op:=e.op,key:=e.key,val:=e.val,ret:=e.ret}) (aI (A.eq e.tx e.tx) (aC (dO (bC 11 329),0,[ak many many',aK m m,aV m gR gR,bT M1 M1,ak e.tx e.tx,bT M2 M2,aK n n,aV n (Az o) (Az o)])))):=by kernel_rfl
theorem aqd(A:Prim)(W:Wd)(n m:Nat)(o:Nat->Oj)(many:Int)(gR:Nat->List Sh)(M1 M2:Int->Option Value)(e:Ev)(a b c d x y z:Int)(k:Nat)(dd:Nat->De)(many' a' b' c' d' x' y' z':Int)(k':Nat)(gd':Nat->List Sh):(run (C5 A W Dc A8) 700 aF 79 [.code []] (LA 7 e (hpA n m o many gR M1 M2 [(e.tx,aF,.ptr 4 0)] []++hpR a b c d x y z k (Az dd)))).bind (toEnd [toR n m o gR M1 M2 e many' a' b' c' d' x' y' z' k' gd' []])=aG (A.eq many (ah 400)) (aC (dO (bC 6 329),0,[ak many many',aK m m,aV m gR gR,bT M1 M1,ak e.tx e.tx,bT M2 M2,aK n n,aV n (Az o) (Az o),ak a a',ak b b',ak c c',ak d d',ak x x',ak y y',ak z z',aK k k',aV k (Az dd) gd'])) (aI (CS {kind:=ah 7,tx:=e.tx,thread:=e.thread,obj:=e.obj,op:=e.op,key:=e.key,val:=e.val,ret:=e.ret}) (aI (A.eq e.tx e.tx) (aT [ak e.tx e.tx,ak e.thread e.thread,ak e.obj e.obj,ak e.op e.op,ak e.key e.key,ak e.val e.val,ak e.ret e.ret,ak many many,aK m m,bF gR gR,bT M1 M1,ak e.tx e.tx,bT M2 M2,aK n n,bF (Az o) (Az o),ak a a,ak b b,ak c c,ak d d,ak x x,ak y y,ak z z,aK k k,bF (Az dd) (Az dd),ak e.tx e.tx,ak e.thread e.thread,ak e.obj e.obj,ak e.op e.op,ak e.key e.key,ak e.val e.val,ak e.ret e.ret] (aT [ak e.tx e.tx,ak e.thread e.thread,ak e.obj e.obj,ak e.op e.op,ak e.key e.key,ak e.val e.val,ak e.ret e.ret,ak many many,aK m m,bF gR gR,bT M1 M1,ak e.tx e.tx,bT M2 M2,aK n n,bF (Az o) (Az o),ak a a,ak b b,ak c c,ak d d,ak x x,ak y y,ak z z,aK k k,bF (Az dd) (Az dd),ak e.tx e.tx,ak e.thread e.thread,ak e.obj e.obj,ak e.op e.op,ak e.key e.key,ak e.val e.val,ak e.ret e.ret] (aG (A.eq z (ah 1)) (aC (fU,0,[ak (A.add .i64 many (ah 1)) many',aK m m,aV m gR gR,bT M1 M1,ak e.tx e.tx,bT M2 M2,aK n n,aV n (Az o) (Az o),ak a a',ak b b',ak c c',ak d d',ak x x',ak y y',ak (ah 4) z',aK k k',aV k (Az dd) gd'])) (aC (dO (bC 12 329),0,[ak many many',aK m m,aV m gR gR,bT M1 M1,ak e.tx e.tx,bT M2 M2,aK n n,aV n (Az o) (Az o),ak a a',ak b b',ak c c',ak d d',ak x x',ak y y',ak z z',aK k k',aV k (Az dd) gd']))))))):=by kernel_rfl
theorem avm(A:Prim)(W:Wd)(n m:Nat)(o:Nat->Oj)(many:Int)(gR:Nat->List Sh)(M1 M2:Int->Option Value)(e:Ev)(many':Int):(run (C5 A W Dc A8) 700 aF 79 [.code []] (LA 7 e (hpA n m o many gR M1 M2 [(e.tx,aA,.any)] []))).bind (toEnd [toN n m o many' gR M1 M2 [(e.tx,aA,.any)] []])=aG (A.eq many (ah 400)) (aC (dO (bC 6 329),0,[ak many many',aK m m,aV m gR gR,bT M1 M1,ak e.tx e.tx,bT M2 M2,aK n n,aV n (Az o) (Az o)])) (aI (CS {kind:=ah 7,tx:=e.tx,thread:=e.thread,obj:=e.obj,op:=e.op,key:=e.key,val:=e.val,ret:=e.ret}) (aI (A.eq e.tx e.tx) (aC (dO (bC 11 329),0,[ak many many',aK m m,aV m gR gR,bT M1 M1,ak e.tx e.tx,bT M2 M2,aK n n,aV n (Az o) (Az o)])))):=by kernel_rfl
theorem avn(A:Prim)(W:Wd)(n m:Nat)(o:Nat->Oj)(many:Int)(gR:Nat->List Sh)(M1 M2:Int->Option Value)(e:Ev)(a b c d x y z:Int)(k:Nat)(dd:Nat->De)(many' a' b' c' d' x' y' z':Int)(k':Nat)(gd':Nat->List Sh):(run (C5 A W Dc A8) 700 aF 79 [.code []] (LA 1 e (hpA n m o many gR M1 M2 [(e.tx,aF,.ptr 4 0)] []++hpR a b c d x y z k (Az dd)))).bind (toEnd [toR n m o gR M1 M2 e many' a' b' c' d' x' y' z' k' gd' []])=aG (A.eq many (ah 400)) (aC (dO (bC 6 329),0,[ak many many',aK m m,aV m gR gR,bT M1 M1,ak e.tx e.tx,bT M2 M2,aK n n,aV n (Az o) (Az o),ak a a',ak b b',ak c c',ak d d',ak x x',ak y y',ak z z',aK k k',aV k (Az dd) gd'])) (aI (CS {kind:=ah 1,tx:=e.tx,thread:=e.thread,obj:=e.obj,op:=e.op,key:=e.key,val:=e.val,ret:=e.ret}) (aI (A.eq e.tx e.tx) (aC (dO (bC 9 329),0,[ak many many',aK m m,aV m gR gR,bT M1 M1,ak e.tx e.tx,bT M2 M2,aK n n,aV n (Az o) (Az o),ak a a',ak b b',ak c c',ak d d',ak x x',ak y y',ak z z',aK k k',aV k (Az dd) gd'])))):=by kernel_rfl
theorem avo(A:Prim)(W:Wd)(n m:Nat)(o:Nat->Oj)(many:Int)(gR:Nat->List Sh)(M1 M2:Int->Option Value)(e:Ev)(q:Nat)(many':Int):(run (C5 A W Dc A8) 700 aF 79 [.code []] (LA 1 e (hpA n m o many gR M1 M2 [(e.tx,aA,.any)] [(e.thread,aF,.val (.pointer (ay ⟨q,0,aN⟩)))]))).bind (toEnd [toN n m o many' gR M1 M2 [(e.tx,aA,.any)] [(e.thread,aF,.val (.pointer (ay ⟨q,0,aN⟩)))]])=aG (A.eq many (ah 400)) (aC (dO (bC 6 329),0,[ak many many',aK m m,aV m gR gR,bT M1 M1,ak e.tx e.tx,bT M2 M2,ak e.thread e.thread,kX (gJ (ay {block:=q,off:=0})) (gJ (ay {block:=q,off:=0})),aK n n,aV n (Az o) (Az o)])) (aI (CS {kind:=ah 1,tx:=e.tx,thread:=e.thread,obj:=e.obj,op:=e.op,key:=e.key,val:=e.val,ret:=e.ret}) (aI (A.eq e.tx e.tx) (aI (A.eq e.thread e.thread) (aC (dO (bC 10 329),0,[ak many many',aK m m,aV m gR gR,bT M1 M1,ak e.tx e.tx,bT M2 M2,ak e.thread e.thread,kX (gJ (ay {block:=q,off:=0})) (gJ (ay {block:=q,off:=0})),aK n n,aV n (Az o) (Az o)]))))):=by kernel_rfl
theorem avp(A:Prim)(W:Wd)(n m:Nat)(o:Nat->Oj)(many:Int)(gR:Nat->List Sh)(M1 M2:Int->Option Value)(e:Ev)(many' a' b' c' d' x' y' z':Int):(run (C5 A W Dc A8) 700 aF 79 [.code []] (LA 1 e (hpA n m o many gR M1 M2 [(e.tx,aA,.any)] [(e.thread,aA,.any)]))).bind (toEnd [toB n m o gR M1 M2 e many' a' b' c' d' x' y' z'])=aG (A.eq many (ah 400)) Tree.fail (aI (CS {kind:=ah 1,tx:=e.tx,thread:=e.thread,obj:=e.obj,op:=e.op,key:=e.key,val:=e.val,ret:=e.ret}) (aI (A.eq e.tx e.tx) (aI (A.eq e.thread e.thread) (aI (A.room (A.addN m 1) 8) (aI (A.eq e.tx e.tx) (aI (A.eq e.thread e.thread) (aC (fU,0,[ak (A.add .i64 many (ah 1)) many',aK n n,aV n (Az o) (Az o),aK m m,aV m gR gR,bT M1 M1,ak e.tx e.tx,ak e.tx e.tx,ak e.tx e.tx,bT M2 M2,ak e.thread e.thread,ak e.thread e.thread,ak e.thread e.thread,ak e.tx a',ak e.thread b',ak (ah 1) c',ak many d',ak (fG 0) x',ak (fG 0) y',ak (ah 1) z'])))))))):=by kernel_rfl
end Go.AQ
namespace Go.Cc
open Go Go.Sx
structure Rc where
 id:Int
 th:Int
 st:Int
 bg:Int
 en:Int
 tr:Int
 AP:List De
 stand:Int
structure Au where
 many:Nat
 rs:List Rc
def Au.Ko(σ:Au)(k:Int):Option Nat:=σ.rs.findIdx? fun r=>r.id==k
def Rc.live(r:Rc):Bool:=!(r.stand==5)
def Au.Kw(σ:Au)(k:Int):Option Nat:=σ.rs.findIdx? fun r=>r.th==k&&r.live
def Gt{α:Type}(f:α->α):List α->List α
 |[]=>[] |[x]=>[f x] |x::y::l=>x::Gt f (y::l)
def Rc.step(many:Nat)(e:Ev)(r:Rc):Nat ⊕ Rc:=
 bif e.kind==2 then bif r.stand==1 then .inr {r with stand:=2,AP:=r.AP++[⟨e.obj,e.op,e.key,e.val,0,0,many,-1⟩]} else .inl 12
 else bif e.kind==3 then bif r.stand==2 then bif O5 (r.AP.getLast?.getD Row.JJ).op e.ret then .inr {r with stand:=1,AP:=Gt (fun d=>{d with ret:=e.ret,got:=e.val,back:=many}) r.AP} else .inl 13 else .inl 12
 else bif e.kind==4 then bif r.stand==1 then .inr {r with stand:=3,tr:=many,st:=2} else .inl 12
 else bif e.kind==7 then bif r.stand==1 then .inr {r with stand:=4} else .inl 12
 else bif e.kind==5 then bif r.stand==3 then .inr {r with stand:=5,en:=many,st:=3} else .inl 12
 else bif r.stand==1||r.stand==2||r.stand==3||r.stand==4 then .inr {r with stand:=5,en:=many,st:=4} else .inl 12
def Au.feed(σ:Au)(e:Ev):Option Nat×Au:=
 match σ.Ko e.tx with
 |some i=>bif e.kind==1 then (ay 9,σ) else match Rc.step σ.many e (σ.rs.getD i ⟨0,0,0,0,0,0,[],0⟩) with
  | .inl k=>(ay k,σ) | .inr r=>(aN,⟨σ.many+1,σ.rs.set i r⟩)
 |none=>bif e.kind==1 then (match σ.Kw e.thread with
  |some _=>(ay 10,σ) |none=>(aN,⟨σ.many+1,σ.rs++[⟨e.tx,e.thread,1,σ.many,-1,-1,[],1⟩]⟩)) else (ay 11,σ)
structure Au.OK(σ:Au):Prop where
 one:∀(i j:Nat) (r s:Rc),σ.rs[i]?=ay r->σ.rs[j]?=ay s->r.th=s.th->r.live=aF->s.live=aF->i=j
 deed:∀(i:Nat) (r:Rc),σ.rs[i]?=ay r->r.stand=2->r.AP≠[]
 stands:∀(i:Nat) (r:Rc),σ.rs[i]?=ay r->1<=r.stand/\r.stand<=5
 len:σ.rs.length<=σ.many
 dl:∀(i:Nat) (r:Rc),σ.rs[i]?=ay r->r.AP.length<=σ.many
end Go.Cc
namespace Go.Sx
open Go.Cc
def DW(b:Nat):Value:=.pointer (ay ⟨b,0,aN⟩)
structure Lay where
 p:Nat
 v0:Value
 v2:Value
 b1:Nat
 b2:Nat
 R:Nat->Nat
 D:Nat->Value
inductive Tg where
 |au|tx|Ls|bu|ob
 |rc (i:Nat)
 |de (i:Nat)
 deriving DecidableEq
def Lay.blk(L:Lay)(n:Nat):Tg->Option Nat
 | .au=>ay L.p | .tx=>AY L.v2 | .Ls=>ay L.b1 | .bu=>ay L.b2 | .ob=>AY L.v0 | .rc i=>if i<n then ay (L.R i) else aN
 | .de i=>if i<n then AY (L.D i) else aN
def Xw(r:Rc)(d:Value):Array Value:=#[.int .i64 r.id,.int .i64 r.th,.int .i64 r.st,.int .i64 r.bg,.int .i64 r.en,.int .i64 r.tr,d,.int .i64 r.stand]
def deV(d:De):List Value:=[.int .i64 d.obj,.int .i64 d.op,.int .i64 d.key,.int .i64 d.val,.int .i64 d.ret,.int .i64 d.got,.int .i64 d.here,.int .i64 d.back]
structure DN(H:Mem)(w:World)(n0:Nat)(g0:Nat->List Sh)(σ:Au)(L:Lay):Prop where
 au:w.heap[L.p]?=ay (.cells #[L.v0,.int .i64 σ.many,L.v2,.map (ay L.b1),.map (ay L.b2)] 181 (0,0))
 ob:∃xs,w.ownsRow 0 140 2 L.v0 n0 xs/\CQ H 2 n0 g0 xs
 tx:w.ownsRow 0 182 1 L.v2 σ.rs.length ((aY σ.rs.length).map fun i=>DW (L.R i))
 Ls:∃ms clk,w.heap[L.b1]?=ay (.map ms clk)/\FP .i64 ms.toList clk fun k=>(σ.Ko k).map fun i=>DW (L.R i)
 bu:∃ms clk,w.heap[L.b2]?=ay (.map ms clk)/\FP .i64 ms.toList clk fun k=>(σ.Kw k).map fun i=>DW (L.R i)
 rc:∀i r,σ.rs[i]?=ay r->w.heap[L.R i]?=ay (.cells (Xw r (L.D i)) 184 (0,0))
 de:∀i r,σ.rs[i]?=ay r->w.ownsRow 0 197 8 (L.D i) r.AP.length (r.AP.flatMap deV)
 Gu:∀s t b,L.blk σ.rs.length s=ay b->L.blk σ.rs.length t=ay b->s=t
 un:∀t b,L.blk σ.rs.length t=ay b->H b=aN
section
variable{H H':Mem}{w w':World}{n0:Nat}{g0:Nat->List Sh}{σ:Au}{L:Lay}
theorem acz{e st n:Nat}{v:Value}{xs:List Value}{b:Nat}(h:w.ownsRow 0 e st v n xs)(hb:AY v=ay b):b<w.heap.size:=by
 rcases h.2 with ⟨rfl,_⟩ |⟨g,cap,cur,rfl,_,hg,_⟩
 ·cases hb
 ·cases hb
  exact (bH.1 hg).1
theorem DN.lt(h:DN H w n0 g0 σ L){t:Tg}{b:Nat}(hb:L.blk σ.rs.length t=ay b):b<w.heap.size:=by
 cases t with
 |au=>cases hb;exact (bH.1 h.au).1 |tx=>exact acz h.tx hb |Ls=>cases hb;obtain ⟨ms,clk,h1,_⟩:=h.Ls;exact (bH.1 h1).1 |bu=>cases hb;obtain ⟨ms,clk,h1,_⟩:=h.bu;exact (bH.1 h1).1 |ob=>obtain ⟨xs,h1,_⟩:=h.ob;exact acz h1 hb |rc i=>
  simp only[Lay.blk] at hb;split at hb
  ·rename_i hi
   cases hb;exact (bH.1 (h.rc i _ (aS hi))).1
  ·cases hb
 |de i=>
  simp only[Lay.blk] at hb;split at hb
  ·rename_i hi
   exact acz (h.de i _ (aS hi)) hb
  ·cases hb
theorem DN.keep(h:DN H w n0 g0 σ L)(hH:H.le H')(hw:∀t b,L.blk σ.rs.length t=ay b->w'.heap[b]?=w.heap[b]?)(hu:∀t b,L.blk σ.rs.length t=ay b->H' b=aN):DN H' w' n0 g0 σ L:=by
 refine ⟨by rw[hw .au _ rfl];exact h.au,(let ⟨xs,h1,h2⟩:=h.ob;⟨xs,Gv h1 fun b hb=>hw .ob b hb,h2.le hH⟩),Gv h.tx fun b hb=>hw .tx b hb,?_,?_,fun i r hi=>?_,fun i r hi=>Gv (h.de i r hi) fun b hb=>hw (.de i) b ?_,h.Gu,hu⟩
 ·obtain ⟨ms,clk,h1,h2⟩:=h.Ls
  exact ⟨ms,clk,by rw[hw .Ls _ rfl];exact h1,h2⟩
 ·obtain ⟨ms,clk,h1,h2⟩:=h.bu
  exact ⟨ms,clk,by rw[hw .bu _ rfl];exact h1,h2⟩
 ·have hlt:=(aQ.1 hi).1
  rw[hw (.rc i) _ (by simp[Lay.blk,hlt])];exact h.rc i r hi
 ·have hlt:=(aQ.1 hi).1
  simp[Lay.blk,hlt,hb]
end
open Go.Cc
def svE:Option Nat->SV
 |none=>.Ed |some k=>.sh (.er k 329)
end Go.Sx
namespace Go.Cc
open Go Go.Sx
def Rc.out(many:Nat)(e:Ev)(r:Rc):Option Nat×Nat×Rc:=
 match Rc.step many e r with
 | .inl k=>(ay k,many,r) | .inr r'=>(aN,many+1,r')
theorem Tt{α:Type}(f:α->α):∀l:List α,(Gt f l).length=l.length
 |[]=>rfl |[_]=>rfl |_::y::l=>by simp[Gt,Tt f (y::l)]
theorem amu{α:Type}[Row α]{l:List α}(h:l≠[]):nth l (l.length - 1)=l.getLast?.getD Row.JJ:=by
 simp[nth,List.getLast?_eq_getElem?]
theorem ZE{α:Type}[Row α](f:α->α):∀(l:List α) (i:Nat),i<l.length->nth (Gt f l) i=if i=l.length - 1 then f (nth l i) else nth l i
 |[],i,h=>by simp at h |[x],i,h=>by
  have:i=0:=by simp at h;exact h
  subst this;simp[Gt,nth]
 |x::y::l,0,_=>by simp[Gt,nth] |x::y::l,i+1,h=>by
  have ih:=ZE f (y::l) i (by simpa using h);have e1:nth (Gt f (x::y::l)) (i+1)=nth (Gt f (y::l)) i:=by simp[Gt,nth]
  have e2:nth (x::y::l) (i+1)=nth (y::l) i:=by simp[nth]
  rw[e1,ih,e2];by_cases q:i=(y::l).length - 1
  ·rw[if_pos q,if_pos (by simp at q ⊢;omega)]
  ·rw[if_neg q,if_neg (by simp at q ⊢;omega)]
end Go.Cc
namespace Go.AQ
open Go Go.Sx Go.Cc
theorem axb:Bh aB (F9 W5) 101 ap8:=O56.mono fun H BI args φ hr h=>by
 clear hr;unfold ap8 at h;split at h
 ·rename_i l
  split at h
  ·rename_i e he
   obtain ⟨h1,h2⟩:=h;unfold CS at h1;simp only[aJ] at h1;show (match acw l with|some e=>_|none=>_:Tree Sh).All φ
   rw[he];refine ⟨h1.2,fun _=>?_,fun q=>?_⟩
   ·refine ⟨fun _=>h2,fun q=>?_⟩
    rw[h1.1.2] at q;cases q
   ·rw[h1.1.1] at q;cases q
  ·exact h.elim
 ·exact h.elim
theorem axc:∀g F,Dc g=ay F->Bh aB (F9 W5) g F:=fun g F h=>by
 unfold Dc at h;split at h
 ·cases h;exact axb
 ·cases h;exact O57
 ·cases h;exact O67
 ·cases h
theorem ajX(stop:Nat->List Nat->Bool):Cb aB (C5 Aw W5 Dc stop):=C5.Um axc fun g h=>by
 unfold Dc at h;split at h;all_goals first|(cases h;done) |kernel_rfl
theorem NW{a:Int}{k:Nat}(h:Aw.eq a (ah k)=aF):a=(k:Int):=by simpa[Bd] using h
theorem eqF{a:Int}{k:Nat}(h:Aw.eq a (ah k)=aA):a≠(k:Int):=by simpa[Bd] using h
theorem eqS(a:Int):Aw.eq a a=aF:=by simp[Bd]
theorem wrapM{many:Nat}(hm:many<400):Aw.add .i64 (many:Int) 1=((many+1:Nat):Int):=by
 rw[DR,CO (by omega) (by omega)];rfl
def EO(n m:Nat)(o:Nat->Oj)(gR:Nat->List Sh)(M1 M2:Int->Option Value)(e:Ev)(many:Nat)(r:Rc)(us:List (Int×Bool×SV)):Rw:=
 toR n m o gR M1 M2 e many r.id r.th r.st r.bg r.en r.tr r.stand r.AP.length (Az (nth r.AP)) us
def FZ(r:Rc):List (Nat×SB):=hpR r.id r.th r.st r.bg r.en r.tr r.stand r.AP.length (Az (nth r.AP))
section
variable{n m:Nat}{o:Nat->Oj}{many:Nat}{gR:Nat->List Sh}{M1 M2:Int->Option Value}
theorem aqe(hm:many<400){e:Ev}(hk:e.kind=4)(hv:CS e=aF)(r:Rc):
  EZ (Gz [EO n m o gR M1 M2 e (Rc.out many e r).2.1 (Rc.out many e r).2.2 []] (fun sv k=>sv=svE (Rc.out many e r).1/\k=0)) ((run (C5 Aw W5 Dc A8) 700 aF 79 [.code []] (LA 4 e (hpA n m o many gR M1 M2 [(e.tx,aF,.ptr 4 0)] []++FZ r))).bind (toEnd [EO n m o gR M1 M2 e (Rc.out many e r).2.1 (Rc.out many e r).2.2 []])):=by
 obtain ⟨kind,tx,thread,obj,op,key,val,ret⟩:=e;obtain ⟨id,th,st,bg,en,tr,AP,stand⟩:=r;have hk:kind=4:=hk;subst hk;have hw:=wrapM hm;by_cases hs:stand=1
 ·have e1:Rc.out many ⟨4,tx,thread,obj,op,key,val,ret⟩ ⟨id,th,st,bg,en,tr,AP,stand⟩=(aN,many+1,⟨id,th,2,bg,en,many,AP,3⟩):=by
   subst hs;rfl
  rw[e1];unfold EO FZ;simp only;rw[aqa Aw W5 n m o many gR M1 M2 ⟨4,tx,thread,obj,op,key,val,ret⟩ id th st bg en tr stand AP.length (nth AP) (many+1:Nat) id th 2 bg en many 3 AP.length (Az (nth AP)),C9];repeat' (first
   |exact trivial
   |exact hv
   |exact hw
   |exact eqS _
   |exact rfl
   |exact fun _ _=>rfl
   |(intro q;replace q:=NW q;first|(exfalso;omega) |skip)
   |(intro q;replace q:=eqF q;first|(exfalso;omega) |skip)
   |refine bY ?_ ?_)
 ·have e1:Rc.out many ⟨4,tx,thread,obj,op,key,val,ret⟩ ⟨id,th,st,bg,en,tr,AP,stand⟩=(ay 12,many,⟨id,th,st,bg,en,tr,AP,stand⟩):=by
   have d1:(stand==1)=aA:=by rw[beq_eq_false_iff_ne];omega
   simp only[Rc.out,Rc.step,d1];rfl
  rw[e1];unfold EO FZ;simp only;rw[aqa Aw W5 n m o many gR M1 M2 ⟨4,tx,thread,obj,op,key,val,ret⟩ id th st bg en tr stand AP.length (nth AP) (many:Nat) id th st bg en tr stand AP.length (Az (nth AP)),C9];repeat' (first
   |exact trivial
   |exact hv
   |exact hw
   |exact eqS _
   |exact rfl
   |exact fun _ _=>rfl
   |(intro q;replace q:=NW q;first|(exfalso;omega) |skip)
   |(intro q;replace q:=eqF q;first|(exfalso;omega) |skip)
   |refine bY ?_ ?_)
theorem aqf(hm:many<400){e:Ev}(hk:e.kind=7)(hv:CS e=aF)(r:Rc):
  EZ (Gz [EO n m o gR M1 M2 e (Rc.out many e r).2.1 (Rc.out many e r).2.2 []] (fun sv k=>sv=svE (Rc.out many e r).1/\k=0)) ((run (C5 Aw W5 Dc A8) 700 aF 79 [.code []] (LA 7 e (hpA n m o many gR M1 M2 [(e.tx,aF,.ptr 4 0)] []++FZ r))).bind (toEnd [EO n m o gR M1 M2 e (Rc.out many e r).2.1 (Rc.out many e r).2.2 []])):=by
 obtain ⟨kind,tx,thread,obj,op,key,val,ret⟩:=e;obtain ⟨id,th,st,bg,en,tr,AP,stand⟩:=r;have hk:kind=7:=hk;subst hk;have hw:=wrapM hm;by_cases hs:stand=1
 ·have e1:Rc.out many ⟨7,tx,thread,obj,op,key,val,ret⟩ ⟨id,th,st,bg,en,tr,AP,stand⟩=(aN,many+1,⟨id,th,st,bg,en,tr,AP,4⟩):=by
   subst hs;rfl
  rw[e1];unfold EO FZ;simp only;rw[aqd Aw W5 n m o many gR M1 M2 ⟨7,tx,thread,obj,op,key,val,ret⟩ id th st bg en tr stand AP.length (nth AP) (many+1:Nat) id th st bg en tr 4 AP.length (Az (nth AP)),C9];repeat' (first
   |exact trivial
   |exact hv
   |exact hw
   |exact eqS _
   |exact rfl
   |exact fun _ _=>rfl
   |(intro q;replace q:=NW q;first|(exfalso;omega) |skip)
   |(intro q;replace q:=eqF q;first|(exfalso;omega) |skip)
   |refine bY ?_ ?_)
 ·have e1:Rc.out many ⟨7,tx,thread,obj,op,key,val,ret⟩ ⟨id,th,st,bg,en,tr,AP,stand⟩=(ay 12,many,⟨id,th,st,bg,en,tr,AP,stand⟩):=by
   have d1:(stand==1)=aA:=by rw[beq_eq_false_iff_ne];omega
   simp only[Rc.out,Rc.step,d1];rfl
  rw[e1];unfold EO FZ;simp only;rw[aqd Aw W5 n m o many gR M1 M2 ⟨7,tx,thread,obj,op,key,val,ret⟩ id th st bg en tr stand AP.length (nth AP) (many:Nat) id th st bg en tr stand AP.length (Az (nth AP)),C9];repeat' (first
   |exact trivial
   |exact hv
   |exact hw
   |exact eqS _
   |exact rfl
   |exact fun _ _=>rfl
   |(intro q;replace q:=NW q;first|(exfalso;omega) |skip)
   |(intro q;replace q:=eqF q;first|(exfalso;omega) |skip)
   |refine bY ?_ ?_)
theorem aqg(hm:many<400){e:Ev}(hk:e.kind=5)(hv:CS e=aF)(r:Rc):
  EZ (Gz [EO n m o gR M1 M2 e (Rc.out many e r).2.1 (Rc.out many e r).2.2 [],EO n m o gR M1 M2 e (Rc.out many e r).2.1 (Rc.out many e r).2.2 [(r.th,aA,.any)]] (fun sv k=>sv=svE (Rc.out many e r).1/\k=(bif (Rc.out many e r).1.isNone then 1 else 0))) ((run (C5 Aw W5 Dc A8) 700 aF 79 [.code []] (LA 5 e (hpA n m o many gR M1 M2 [(e.tx,aF,.ptr 4 0)] []++FZ r))).bind (toEnd [EO n m o gR M1 M2 e (Rc.out many e r).2.1 (Rc.out many e r).2.2 [],EO n m o gR M1 M2 e (Rc.out many e r).2.1 (Rc.out many e r).2.2 [(r.th,aA,.any)]])):=by
 obtain ⟨kind,tx,thread,obj,op,key,val,ret⟩:=e;obtain ⟨id,th,st,bg,en,tr,AP,stand⟩:=r;have hk:kind=5:=hk;subst hk;have hw:=wrapM hm;by_cases hs:stand=3
 ·have e1:Rc.out many ⟨5,tx,thread,obj,op,key,val,ret⟩ ⟨id,th,st,bg,en,tr,AP,stand⟩=(aN,many+1,⟨id,th,3,bg,many,tr,AP,5⟩):=by
   subst hs;rfl
  rw[e1];unfold EO FZ;simp only;rw[aqb Aw W5 n m o many gR M1 M2 ⟨5,tx,thread,obj,op,key,val,ret⟩ id th st bg en tr stand AP.length (nth AP) (many+1:Nat) id th 3 bg many tr 5 AP.length (Az (nth AP)),C9];repeat' (first
   |exact trivial
   |exact hv
   |exact hw
   |exact eqS _
   |exact rfl
   |exact fun _ _=>rfl
   |(intro q;replace q:=NW q;first|(exfalso;omega) |skip)
   |(intro q;replace q:=eqF q;first|(exfalso;omega) |skip)
   |refine bY ?_ ?_)
 ·have e1:Rc.out many ⟨5,tx,thread,obj,op,key,val,ret⟩ ⟨id,th,st,bg,en,tr,AP,stand⟩=(ay 12,many,⟨id,th,st,bg,en,tr,AP,stand⟩):=by
   have d3:(stand==3)=aA:=by rw[beq_eq_false_iff_ne];omega
   simp only[Rc.out,Rc.step,d3,kN];rfl
  rw[e1];unfold EO FZ;simp only;rw[aqb Aw W5 n m o many gR M1 M2 ⟨5,tx,thread,obj,op,key,val,ret⟩ id th st bg en tr stand AP.length (nth AP) (many:Nat) id th st bg en tr stand AP.length (Az (nth AP)),C9];repeat' (first
   |exact trivial
   |exact hv
   |exact hw
   |exact eqS _
   |exact rfl
   |exact fun _ _=>rfl
   |(intro q;replace q:=NW q;first|(exfalso;omega) |skip)
   |(intro q;replace q:=eqF q;first|(exfalso;omega) |skip)
   |refine bY ?_ ?_)
theorem aqh(hm:many<400){e:Ev}(hk:e.kind=6)(hv:CS e=aF)(r:Rc):
  EZ (Gz [EO n m o gR M1 M2 e (Rc.out many e r).2.1 (Rc.out many e r).2.2 [],EO n m o gR M1 M2 e (Rc.out many e r).2.1 (Rc.out many e r).2.2 [(r.th,aA,.any)]] (fun sv k=>sv=svE (Rc.out many e r).1/\k=(bif (Rc.out many e r).1.isNone then 1 else 0))) ((run (C5 Aw W5 Dc A8) 700 aF 79 [.code []] (LA 6 e (hpA n m o many gR M1 M2 [(e.tx,aF,.ptr 4 0)] []++FZ r))).bind (toEnd [EO n m o gR M1 M2 e (Rc.out many e r).2.1 (Rc.out many e r).2.2 [],EO n m o gR M1 M2 e (Rc.out many e r).2.1 (Rc.out many e r).2.2 [(r.th,aA,.any)]])):=by
 obtain ⟨kind,tx,thread,obj,op,key,val,ret⟩:=e;obtain ⟨id,th,st,bg,en,tr,AP,stand⟩:=r;have hk:kind=6:=hk;subst hk;have hw:=wrapM hm;by_cases hs:stand=1\/stand=2\/stand=3\/stand=4
 ·have e1:Rc.out many ⟨6,tx,thread,obj,op,key,val,ret⟩ ⟨id,th,st,bg,en,tr,AP,stand⟩=(aN,many+1,⟨id,th,4,bg,many,tr,AP,5⟩):=by
   rcases hs with rfl|rfl|rfl|rfl<;>rfl
  rw[e1];unfold EO FZ;simp only;rw[aqc Aw W5 n m o many gR M1 M2 ⟨6,tx,thread,obj,op,key,val,ret⟩ id th st bg en tr stand AP.length (nth AP) (many+1:Nat) id th 4 bg many tr 5 AP.length (Az (nth AP)),C9];repeat' (first
   |exact trivial
   |exact hv
   |exact hw
   |exact eqS _
   |exact rfl
   |exact fun _ _=>rfl
   |(intro q;replace q:=NW q;first|(exfalso;omega) |skip)
   |(intro q;replace q:=eqF q;first|(exfalso;omega) |skip)
   |refine bY ?_ ?_)
 ·have e1:Rc.out many ⟨6,tx,thread,obj,op,key,val,ret⟩ ⟨id,th,st,bg,en,tr,AP,stand⟩=(ay 12,many,⟨id,th,st,bg,en,tr,AP,stand⟩):=by
   have d1:(stand==1)=aA:=by rw[beq_eq_false_iff_ne];omega
   have d2:(stand==2)=aA:=by rw[beq_eq_false_iff_ne];omega
   have d3:(stand==3)=aA:=by rw[beq_eq_false_iff_ne];omega
   have d4:(stand==4)=aA:=by rw[beq_eq_false_iff_ne];omega
   simp only[Rc.out,Rc.step,d1,d2,d3,d4,kN];rfl
  rw[e1];unfold EO FZ;simp only;rw[aqc Aw W5 n m o many gR M1 M2 ⟨6,tx,thread,obj,op,key,val,ret⟩ id th st bg en tr stand AP.length (nth AP) (many:Nat) id th st bg en tr stand AP.length (Az (nth AP)),C9];repeat' (first
   |exact trivial
   |exact hv
   |exact hw
   |exact eqS _
   |exact rfl
   |exact fun _ _=>rfl
   |(intro q;replace q:=NW q;first|(exfalso;omega) |skip)
   |(intro q;replace q:=eqF q;first|(exfalso;omega) |skip)
   |refine bY ?_ ?_)
theorem aqi(hm:many<400){e:Ev}(hk:e.kind=2)(hv:CS e=aF)(r:Rc)(hl:r.AP.length<=1000)(h1:0<=e.obj)(h2:e.obj<n)(h3:D6 e.op=(o e.obj.toNat).kind):
  EZ (Gz [EO n m o gR M1 M2 e (Rc.out many e r).2.1 (Rc.out many e r).2.2 []] (fun sv k=>sv=svE (Rc.out many e r).1/\k=0)) ((run (C5 Aw W5 Dc A8) 700 aF 79 [.code []] (LA 2 e (hpA n m o many gR M1 M2 [(e.tx,aF,.ptr 4 0)] []++FZ r))).bind (toEnd [EO n m o gR M1 M2 e (Rc.out many e r).2.1 (Rc.out many e r).2.2 []])):=by
 obtain ⟨kind,tx,thread,obj,op,key,val,ret⟩:=e;obtain ⟨id,th,st,bg,en,tr,AP,stand⟩:=r;have hk:kind=2:=hk;subst hk;have hw:=wrapM hm;have hl:AP.length<=1000:=hl;have h1:0<=obj:=h1;have h2:obj<n:=h2;have h3:D6 op=(o obj.toNat).kind:=h3;have ho:Aw.le (Aw.Bl n) obj=aF->False:=fun q=>by simp[DK,Bg] at q;omega
 have hi:Aw.inB obj n=aF:=by simp[BO];omega
 have hq:Aw.nt (Aw.eq (D6 op) (o (Aw.toN obj)).kind)=aF->False:=fun q=>by
  simp[CU,Bd,Dn] at q;exact q h3
 have hroom:Aw.room (Aw.addN AP.length 1) 64=aF:=by
  show decide ((AP.length+1)*64<=140737488355328/\AP.length+1<=maxLen)=aF;rw[maxLen_eq];exact decide_eq_true ⟨by omega,by omega⟩
 have hsn:∀i,i<AP.length+1->Aw.snoc (Az (nth AP)) AP.length (BD [[.i .i64 obj,.i .i64 op,.i .i64 key,.i .i64 val,.i .i64 0,.i .i64 0,.i .i64 many,.i .i64 (-1)]]) i=Az (nth (AP++[(⟨obj,op,key,val,0,0,many,-1⟩:De)])) i:=PE (α:=De) _ _ rfl;have hlen:AP.length+1=(AP++[(⟨obj,op,key,val,0,0,many,-1⟩:De)]).length:=by simp
 by_cases hs:stand=1
 ·have e1:Rc.out many ⟨2,tx,thread,obj,op,key,val,ret⟩ ⟨id,th,st,bg,en,tr,AP,stand⟩=(aN,many+1,⟨id,th,st,bg,en,tr,AP++[⟨obj,op,key,val,0,0,many,-1⟩],2⟩):=by
   subst hs;rfl
  rw[e1];unfold EO FZ;simp only;rw[ap9 Aw W5 n m o many gR M1 M2 ⟨2,tx,thread,obj,op,key,val,ret⟩ id th st bg en tr stand AP.length (nth AP) (many+1:Nat) id th st bg en tr 2 (AP++[(⟨obj,op,key,val,0,0,(many:Int),-1⟩:De)]).length (Az (nth (AP++[(⟨obj,op,key,val,0,0,(many:Int),-1⟩:De)]))),C9];repeat' (first
   |exact trivial
   |exact hv
   |exact hw
   |exact hi
   |exact hroom
   |exact hlen
   |exact hsn
   |(intro q;exact (ho q).elim)
   |(intro q;exact (hq q).elim)
   |exact eqS _
   |exact rfl
   |exact fun _ _=>rfl
   |(intro q;replace q:=NW q;first|(exfalso;omega) |skip)
   |(intro q;replace q:=eqF q;first|(exfalso;omega) |skip)
   |intro _
   |refine bY ?_ ?_)
 ·have e1:Rc.out many ⟨2,tx,thread,obj,op,key,val,ret⟩ ⟨id,th,st,bg,en,tr,AP,stand⟩=(ay 12,many,⟨id,th,st,bg,en,tr,AP,stand⟩):=by
   have d1:(stand==1)=aA:=by rw[beq_eq_false_iff_ne];omega
   simp only[Rc.out,Rc.step,d1];rfl
  rw[e1];unfold EO FZ;simp only;rw[ap9 Aw W5 n m o many gR M1 M2 ⟨2,tx,thread,obj,op,key,val,ret⟩ id th st bg en tr stand AP.length (nth AP) (many:Nat) id th st bg en tr stand AP.length (Az (nth AP)),C9];repeat' (first
   |exact trivial
   |exact hv
   |exact hw
   |exact hi
   |exact hroom
   |exact hlen
   |exact hsn
   |(intro q;exact (ho q).elim)
   |(intro q;exact (hq q).elim)
   |exact eqS _
   |exact rfl
   |exact fun _ _=>rfl
   |(intro q;replace q:=NW q;first|(exfalso;omega) |skip)
   |(intro q;replace q:=eqF q;first|(exfalso;omega) |skip)
   |intro _
   |refine bY ?_ ?_)
theorem aqj(hm:many<400){e:Ev}(hk:e.kind=3)(hv:CS e=aF)(r:Rc)(hl:r.AP.length<=1000)(hd:r.stand=2->r.AP≠[]):
  EZ (Gz [EO n m o gR M1 M2 e (Rc.out many e r).2.1 (Rc.out many e r).2.2 []] (fun sv k=>sv=svE (Rc.out many e r).1/\k=0)) ((run (C5 Aw W5 Dc A8) 700 aF 79 [.code []] (LA 3 e (hpA n m o many gR M1 M2 [(e.tx,aF,.ptr 4 0)] []++FZ r))).bind (toEnd [EO n m o gR M1 M2 e (Rc.out many e r).2.1 (Rc.out many e r).2.2 []])):=by
 obtain ⟨kind,tx,thread,obj,op,key,val,ret⟩:=e;obtain ⟨id,th,st,bg,en,tr,AP,stand⟩:=r;have hk:kind=3:=hk;subst hk;have hw:=wrapM hm;have hl:AP.length<=1000:=hl;have hd:stand=2->AP≠[]:=hd;by_cases hs:stand=2
 ·have hd:=hd hs
  have hpos:0<AP.length:=List.length_pos_iff.2 hd;have hix:Aw.toN (Aw.sub .i64 (Aw.Bl AP.length) (ah 1))=AP.length - 1:=by
   rw[MZ,Bg,Dn,CO (by simp only[fQ];omega) (by simp only[fQ];omega)];simp only[fQ];omega
  have hi:Aw.inB (Aw.sub .i64 (Aw.Bl AP.length) (ah 1)) AP.length=aF:=by
   rw[MZ,Bg,CO (by simp only[fQ];omega) (by simp only[fQ];omega),BO];simp only[fQ];exact decide_eq_true ⟨by omega,by omega⟩
  have hlast:nth AP (AP.length - 1)=AP.getLast?.getD Row.JJ:=amu hd;by_cases hf:O5 (AP.getLast?.getD Row.JJ).op ret=aF
  ·have hq:Aw.nt (O5 (nth AP (Aw.toN (Aw.sub .i64 (Aw.Bl AP.length) (ah 1)))).op ret)=aF->False:=fun q=>by
    rw[hix,hlast,CU,hf] at q;cases q
   have hlen:AP.length=(Gt (fun d:De=>{d with ret:=ret,got:=val,back:=(many:Int)}) AP).length:=(Tt _ _).symm
   have hup:∀i,i<AP.length->Aw.upd (Aw.upd (Aw.upd (Az (nth AP)) (Aw.toN (Aw.sub .i64 (Aw.Bl AP.length) (ah 1))) 4 [.i .i64 ret]) (Aw.toN (Aw.sub .i64 (Aw.Bl AP.length) (ah 1))) 5 [.i .i64 val]) (Aw.toN (Aw.sub .i64 (Aw.Bl AP.length) (ah 1))) 7 [.i .i64 many] i=Az (nth (Gt (fun d:De=>{d with ret:=ret,got:=val,back:=(many:Int)}) AP)) i:=fun i hi=>by
    rw[hix];simp only[Az];rw[ZE _ _ _ hi];by_cases q:i=AP.length - 1
    ·rw[if_pos q]
     subst q;simp only[Aw,if_true];rfl
    ·rw[if_neg q]
     simp only[Aw,if_neg q];rfl
   have e1:Rc.out many ⟨3,tx,thread,obj,op,key,val,ret⟩ ⟨id,th,st,bg,en,tr,AP,stand⟩=(aN,many+1,⟨id,th,st,bg,en,tr,Gt (fun d=>{d with ret:=ret,got:=val,back:=many}) AP,1⟩):=by
    subst hs;simp only[Rc.out,Rc.step,hf];rfl
   rw[e1];unfold EO FZ;simp only;rw[ajW Aw W5 n m o many gR M1 M2 ⟨3,tx,thread,obj,op,key,val,ret⟩ id th st bg en tr stand AP.length (nth AP) (many+1:Nat) id th st bg en tr 1 (Gt (fun d:De=>{d with ret:=ret,got:=val,back:=(many:Int)}) AP).length (Az (nth (Gt (fun d:De=>{d with ret:=ret,got:=val,back:=(many:Int)}) AP))),C9]
   repeat' (first
    |exact trivial
    |exact hv
    |exact hw
    |exact hi
    |exact hlen
    |exact hup
    |(intro q;exact (hq q).elim)
    |exact eqS _
    |exact rfl
    |exact fun _ _=>rfl
    |(intro q;replace q:=NW q;first|(exfalso;omega) |skip)
    |(intro q;replace q:=eqF q;first|(exfalso;omega) |skip)
    |intro _
    |refine bY ?_ ?_)
  ·have hf:O5 (AP.getLast?.getD Row.JJ).op ret=aA:=by simpa using hf
   have hq:Aw.nt (O5 (nth AP (Aw.toN (Aw.sub .i64 (Aw.Bl AP.length) (ah 1)))).op ret)=aA->False:=fun q=>by
    rw[hix,hlast,CU,hf] at q;cases q
   have hlen:=hl;have hup:=hl;have e1:Rc.out many ⟨3,tx,thread,obj,op,key,val,ret⟩ ⟨id,th,st,bg,en,tr,AP,stand⟩=(ay 13,many,⟨id,th,st,bg,en,tr,AP,stand⟩):=by
    subst hs;simp only[Rc.out,Rc.step,hf];rfl
   rw[e1];unfold EO FZ;simp only;rw[ajW Aw W5 n m o many gR M1 M2 ⟨3,tx,thread,obj,op,key,val,ret⟩ id th st bg en tr stand AP.length (nth AP) (many:Nat) id th st bg en tr stand AP.length (Az (nth AP)),C9];repeat' (first
    |exact trivial
    |exact hv
    |exact hw
    |exact hi
    |exact hlen
    |exact hup
    |(intro q;exact (hq q).elim)
    |exact eqS _
    |exact rfl
    |exact fun _ _=>rfl
    |(intro q;replace q:=NW q;first|(exfalso;omega) |skip)
    |(intro q;replace q:=eqF q;first|(exfalso;omega) |skip)
    |intro _
    |refine bY ?_ ?_)
 ·have hi:=hl
  have hlen:=hl;have hup:=hl;have hq:=hl;have e1:Rc.out many ⟨3,tx,thread,obj,op,key,val,ret⟩ ⟨id,th,st,bg,en,tr,AP,stand⟩=(ay 12,many,⟨id,th,st,bg,en,tr,AP,stand⟩):=by
   have d1:(stand==2)=aA:=by rw[beq_eq_false_iff_ne];omega
   simp only[Rc.out,Rc.step,d1];rfl
  rw[e1];unfold EO FZ;simp only;rw[ajW Aw W5 n m o many gR M1 M2 ⟨3,tx,thread,obj,op,key,val,ret⟩ id th st bg en tr stand AP.length (nth AP) (many:Nat) id th st bg en tr stand AP.length (Az (nth AP)),C9];repeat' (first
   |exact trivial
   |exact hv
   |exact hw
   |exact eqS _
   |exact rfl
   |exact fun _ _=>rfl
   |(intro q;replace q:=NW q;first|(exfalso;omega) |skip)
   |(intro q;replace q:=eqF q;first|(exfalso;omega) |skip)
   |refine bY ?_ ?_)
end
end Go.AQ
namespace Go.Sx
open Go.Cc
theorem Ov(d:De):(deV d).length=8:=rfl
theorem flat_length:∀l:List De,(l.flatMap deV).length=l.length*8
 |[]=>rfl |d::l=>by simp[flat_length l,Ov,Nat.add_mul];omega
theorem acA:∀(l:List De) (i j:Nat),j<8->(l.flatMap deV)[i*8+j]?=(l[i]?).bind fun d=>(deV d)[j]?
 |[],i,j,_=>by simp |d::l,0,j,hj=>by
  simp only[oP,Nat.zero_mul,Nat.zero_add,List.getElem?_cons_zero,eP];rw[dM (by rw[Ov];exact hj)]
 |d::l,i+1,j,hj=>by
  simp only[oP,List.getElem?_cons_succ];rw[List.getElem?_append_right (by rw[Ov];omega),Ov,show (i+1)*8+j - 8=i*8+j by omega];exact acA l i j hj
theorem aqk(d:De):∀u∈deV d,u.oneCell'=aF:=fun u hu=>by
 simp[deV] at hu;rcases hu with rfl|rfl|rfl|rfl|rfl|rfl|rfl|rfl<;>rfl
theorem aql{H:Mem}(d:De)(j:Nat)(s:Sh)(v:Value)(h1:(deR d)[j]?=ay s)(h2:(deV d)[j]?=ay v):Rep H s v:=by
 match j,h1,h2 with
 |0,h1,h2=>cases h1;cases h2;exact .i _ _ |1,h1,h2=>cases h1;cases h2;exact .i _ _ |2,h1,h2=>cases h1;cases h2;exact .i _ _ |3,h1,h2=>cases h1;cases h2;exact .i _ _ |4,h1,h2=>cases h1;cases h2;exact .i _ _ |5,h1,h2=>cases h1;cases h2;exact .i _ _ |6,h1,h2=>cases h1;cases h2;exact .i _ _ |7,h1,h2=>cases h1;cases h2;exact .i _ _ |j+8,h1,h2=>simp[deR] at h1
theorem aes{α:Type}[Row α]{l:List α}{i:Nat}(h:i<l.length):l[i]?=ay (nth l i):=by
 simp[nth,aX,h]
theorem ZF{H:Mem}(l:List De):CQ H 8 l.length (Az (nth l)) (l.flatMap deV):=by
 refine ⟨flat_length l,fun i _=>rfl,fun u hu=>?_,fun i j s v hi h1 h2=>?_⟩
 ·obtain ⟨d,_,hd⟩:=List.mem_flatMap.1 hu
  exact aqk d u hd
 ·have hj:j<8:=by
   have:=(aQ.1 h1).1;exact this
  rw[acA l i j hj,aes hi] at h2;exact aql (nth l i) j s v h1 h2
theorem acB{H:Mem}{l:List De}{xs:List Value}(h:CQ H 8 l.length (Az (nth l)) xs):xs=l.flatMap deV:=by
 apply lM;intro q;by_cases hq:q<l.length*8
 ·have hi:q / 8<l.length:=by omega
  have hj:q % 8<8:=by omega
  have e:q=q / 8*8+q % 8:=by omega
  rw[e,acA l _ _ hj,aes hi];have hx:q / 8*8+q % 8<xs.length:=by rw[h.1];omega
  rw[aS hx];simp only[eP];have hs:∃s,(deR (nth l (q / 8)))[q % 8]?=ay s:=⟨_,aS (by exact hj)⟩;obtain ⟨s,hs⟩:=hs;have hr:=h.2.2.2 (q / 8) (q % 8) s _ hi hs (aS hx);generalize xs[q / 8*8+q % 8]=v at hr;generalize q % 8=j at hs hj hr;match j,hs,hj with
  |0,hs,_=>cases hs;cases hr;rfl |1,hs,_=>cases hs;cases hr;rfl |2,hs,_=>cases hs;cases hr;rfl |3,hs,_=>cases hs;cases hr;rfl |4,hs,_=>cases hs;cases hr;rfl |5,hs,_=>cases hs;cases hr;rfl |6,hs,_=>cases hs;cases hr;rfl |7,hs,_=>cases hs;cases hr;rfl |j+8,_,hj=>omega
 ·rw[jY (by rw[h.1];omega),jY (by rw[flat_length];omega)]
def He(R:Nat->Nat):Nat->List Sh:=fun j=>[.v (DW (R j))]
theorem amv{H:Mem}(R:Nat->Nat)(n:Nat):CQ H 1 n (He R) ((aY n).map fun i=>DW (R i)):=by
 refine ⟨by simp,fun i _=>rfl,fun u hu=>?_,fun i j s v hi h1 h2=>?_⟩
 ·obtain ⟨i,_,rfl⟩:=List.mem_map.1 hu
  rfl
 ·have hj:j=0:=by
   have:=(aQ.1 h1).1;simp[He] at this;exact this
  subst hj;cases h1;simp[hi] at h2;subst h2;exact .v _ rfl
theorem QX{H:Mem}{R:Nat->Nat}{n:Nat}{xs:List Value}(h:CQ H 1 n (He R) xs):xs=(aY n).map fun i=>DW (R i):=by
 apply lM;intro q;by_cases hq:q<n
 ·have hx:q<xs.length:=by rw[h.1];omega
  rw[aS hx];have hr:=h.2.2.2 q 0 _ xs[q] hq rfl (by rw[Nat.mul_one,Nat.add_zero];exact aS hx);generalize xs[q]=v at hr ⊢;cases hr;simp[hq]
 ·rw[jY (by rw[h.1];omega),jY (by simp;omega)]
section
variable{H H':Mem}{E E':Env}{w w':World}{n0:Nat}{g0:Nat->List Sh}{σ σ':Au}{L L':Lay}
theorem Tv(hA:DN H w n0 g0 σ L){own:Nat->Prop}{V:Tg->Prop}(hown:∀b,own b↔∃t,V t/\L.blk σ.rs.length t=ay b)(hW:Es ⟨w,own,H⟩ H' w')(hH:H.le H')
  (hV:V .au/\V .tx/\V .Ls/\V .bu/\V .ob) (hV2:∀i,V (.rc i)↔V (.de i))
  (au:w'.heap[L'.p]?=ay (.cells #[L'.v0,.int .i64 σ'.many,L'.v2,.map (ay L'.b1),.map (ay L'.b2)] 181 (0,0))) (ob:∃xs,w'.ownsRow 0 140 2 L'.v0 n0 xs/\CQ H' 2 n0 g0 xs)
  (tx:w'.ownsRow 0 182 1 L'.v2 σ'.rs.length ((aY σ'.rs.length).map fun i=>DW (L'.R i)))
  (Ls:∃ms clk,w'.heap[L'.b1]?=ay (.map ms clk)/\FP .i64 ms.toList clk fun k=>(σ'.Ko k).map fun i=>DW (L'.R i))
  (bu:∃ms clk,w'.heap[L'.b2]?=ay (.map ms clk)/\FP .i64 ms.toList clk fun k=>(σ'.Kw k).map fun i=>DW (L'.R i))
  (rcV:∀i r,σ'.rs[i]?=ay r->V (.rc i)->w'.heap[L'.R i]?=ay (.cells (Xw r (L'.D i)) 184 (0,0))/\w'.ownsRow 0 197 8 (L'.D i) r.AP.length (r.AP.flatMap deV))
  (old:∀i r,σ'.rs[i]?=ay r->¬V (.rc i)->σ.rs[i]?=ay r/\L'.R i=L.R i/\L'.D i=L.D i)
  (aau:∀t b,V t->L'.blk σ'.rs.length t=ay b->H' b=aN/\(w.heap.size<=b\/own b))
  (asj:∀s t b,V s->V t->L'.blk σ'.rs.length s=ay b->L'.blk σ'.rs.length t=ay b->s=t) :
  DN H' w' n0 g0 σ' L'/\∀t b,L'.blk σ'.rs.length t=ay b->w.heap.size<=b\/∃t',L.blk σ.rs.length t'=ay b:=by
 have Ub:∀t b,¬V t->L'.blk σ'.rs.length t=ay b->L.blk σ.rs.length t=ay b:=fun t b hv hb=>by
  cases t with
  |au=>exact (hv hV.1).elim |tx=>exact (hv hV.2.1).elim |Ls=>exact (hv hV.2.2.1).elim |bu=>exact (hv hV.2.2.2.1).elim |ob=>exact (hv hV.2.2.2.2).elim |rc i=>
   simp only[Lay.blk] at hb ⊢;split at hb
   ·rename_i hi
    obtain ⟨o1,o2,o3⟩:=old i _ (aS hi) hv;rw[if_pos (aQ.1 o1).1,<-o2];exact hb
   ·cases hb
  |de i=>
   simp only[Lay.blk] at hb ⊢;split at hb
   ·rename_i hi
    obtain ⟨o1,o2,o3⟩:=old i _ (aS hi) fun q=>hv ((hV2 i).1 q);rw[if_pos (aQ.1 o1).1,<-o3];exact hb
   ·cases hb
 have aav:∀t b,¬V t->L.blk σ.rs.length t=ay b->¬own b:=fun t b hv hb ho=>by
  obtain ⟨t',h1,h2⟩:=(hown b).1 ho;have:=hA.Gu _ _ _ hb h2;subst this;exact hv h1
 have kept:∀t b,¬V t->L.blk σ.rs.length t=ay b->w'.heap[b]?=w.heap[b]?:=fun t b hv hb=>hW.kept b (hA.lt hb) (aav t b hv hb);refine ⟨⟨au,ob,tx,Ls,bu,fun i r hi=>?_,fun i r hi=>?_,fun s t b hs ht=>?_,fun t b hb=>?_⟩,fun t b hb=>?_⟩
 ·by_cases hv:V (.rc i)
  ·exact (rcV i r hi hv).1
  ·obtain ⟨o1,o2,o3⟩:=old i r hi hv
   rw[o2,o3,kept (.rc i) _ hv (by simp[Lay.blk,(aQ.1 o1).1])];exact hA.rc i r o1
 ·by_cases hv:V (.rc i)
  ·exact (rcV i r hi hv).2
  ·obtain ⟨o1,o2,o3⟩:=old i r hi hv
   rw[o3];refine Gv (hA.de i r o1) fun b hb=>kept (.de i) b (fun q=>hv ((hV2 i).2 q)) ?_;simp[Lay.blk,(aQ.1 o1).1,hb]
 ·by_cases vs:V s<;>by_cases vt:V t
  ·exact asj s t b vs vt hs ht
  ·exfalso
   have h1:=Ub t b vt ht;rcases (aau s b vs hs).2 with q|q
   ·have:=hA.lt h1;omega
   ·exact aav t b vt h1 q
  ·exfalso
   have h1:=Ub s b vs hs;rcases (aau t b vt ht).2 with q|q
   ·have:=hA.lt h1;omega
   ·exact aav s b vs h1 q
  ·exact hA.Gu s t b (Ub s b vs hs) (Ub t b vt ht)
 ·by_cases hv:V t
  ·exact (aau t b hv hb).1
  ·have h1:=Ub t b hv hb
   cases hx:H' b with
   |none=>rfl |some o=>
    rcases hW.fresh b (by rw[hx];simp) with q|q|q
    ·exact (q (hA.un t b h1)).elim
    ·have:=hA.lt h1
     have q:w.heap.size<=b:=q;omega
    ·exact (aav t b hv h1 q).elim
 ·by_cases hv:V t
  ·rcases (aau t b hv hb).2 with q|q
   ·exact .inl q
   ·obtain ⟨t',_,h2⟩:=(hown b).1 q
    exact .inr ⟨t',h2⟩
  ·exact .inr ⟨t,Ub t b hv hb⟩
end
open Go.Cc Go.AQ
def Ji(σ:Au)(L:Lay):Int->Option Value:=fun k=>(σ.Ko k).map fun i=>DW (L.R i)
def I9(σ:Au)(L:Lay):Int->Option Value:=fun k=>(σ.Kw k).map fun i=>DW (L.R i)
def I4(L:Lay)(i:Option Nat):Env:=fun id=>match id with
 |0=>ay (DW L.p) |1=>ay L.v2 |2=>ay (.map (ay L.b1)) |3=>ay (.map (ay L.b2)) |4=>i.map fun i=>DW (L.R i) |5=>i.map fun i=>L.D i |6=>ay L.v0 |_=>aN
def Vw(i:Option Nat):Tg->Prop
 | .rc j=>i=ay j | .de j=>i=ay j |_=>True
def UH(i:Nat):Nat->Tg
 |0=>.au |1=>.tx |2=>.Ls |3=>.bu |4=>.rc i |5=>.de i |_=>.ob
def axe:Tg->Nat
 | .au=>0 | .tx=>1 | .Ls=>2 | .bu=>3 | .rc _=>4 | .de _=>5 | .ob=>6
theorem ahY{i a:Nat}(h:a<7):axe (UH i a)=a:=by
 match a,h with
 |0,_|1,_|2,_|3,_|4,_|5,_|6,_=>rfl |a+7,h=>omega
theorem aeu{i a b:Nat}(ha:a<7)(hb:b<7)(h:UH i a=UH i b):a=b:=by
 rw[<-ahY (i:=i) ha,<-ahY (i:=i) hb,h]
section
variable{H H':Mem}{E E':Env}{w w':World}{n:Nat}{o:Nat->Oj}{σ σ':Au}{L L':Lay}
def Kq(n:Nat)(o:Nat->Oj)(σ:Au)(L:Lay)(f1 f2:List (Int×Bool×SV)):List (Nat×SB):=hpA n σ.rs.length o σ.many (He L.R) (Ji σ L) (I9 σ L) f1 f2
theorem aqm(hA:DN H w n (Az o) σ L)(i:Option Nat){own:Nat->Prop}(hown:∀t b,Vw i t->L.blk σ.rs.length t=ay b->own b){f1 f2:List (Int×Bool×SV)}{v1 v2:List (Int×Option Value)}(h1:GR H (I4 L i) f1 v1)(h2:GR H (I4 L i) f2 v2)
  (m1:∀k u,(k,u)∈v1->Ji σ L k=u) (m2:∀k u,(k,u)∈v2->I9 σ L k=u):∀id sb,AA (Kq n o σ L f1 f2) id=ay sb->GV ⟨w,own,H⟩ H (I4 L i) w id sb/\(id<4\/id=6)/\∀b,Bv (I4 L i) id sb=ay b->L.blk σ.rs.length (UH 0 id)=ay b:=by
 intro id sb hl;have mine:∀t b,Vw i t->L.blk σ.rs.length t=ay b->Mine ⟨w,own,H⟩ H b:=fun t b hv hb=>⟨hA.un t b hb,.inr (hown t b hv hb)⟩;match id,hl with
 |0,hl=>
  cases hl;exact ⟨⟨L.p,_,rfl,hA.au,⟨⟨rfl,(let ⟨_,h1,_⟩:=hA.ob;JE h1)⟩,rfl,⟨rfl,JE hA.tx⟩,⟨_,rfl,rfl⟩,⟨_,rfl,rfl⟩,trivial⟩,mine .au _ trivial rfl⟩,by decide,fun b hb=>hb⟩
 |1,hl=>
  cases hl;exact ⟨⟨L.v2,_,rfl,hA.tx,amv _ _,fun b hb=>mine .tx b trivial hb⟩,by decide,fun b hb=>hb⟩
 |2,hl=>
  cases hl;obtain ⟨ms,clk,a1,a2⟩:=hA.Ls;exact ⟨⟨L.b1,ms,clk,v1,[],rfl,a1,h1,trivial,m1,a2,trivial,mine .Ls _ trivial rfl⟩,by decide,fun b hb=>hb⟩
 |3,hl=>
  cases hl;obtain ⟨ms,clk,a1,a2⟩:=hA.bu;exact ⟨⟨L.b2,ms,clk,v2,[],rfl,a1,h2,trivial,m2,a2,trivial,mine .bu _ trivial rfl⟩,by decide,fun b hb=>hb⟩
 |6,hl=>
  cases hl;obtain ⟨xs,a1,a2⟩:=hA.ob;exact ⟨⟨L.v0,xs,rfl,a1,a2,fun b hb=>mine .ob b trivial hb⟩,by decide,fun b hb=>hb⟩
 |4,hl=>simp[Kq,hpA,AA] at hl |5,hl=>simp[Kq,hpA,AA] at hl |id+7,hl=>simp[Kq,hpA,AA] at hl
theorem ajY{n:Nat}{o:Nat->Oj}{σ:Au}{L:Lay}{f1 f2:List (Int×Bool×SV)}{r:Rc}{id:Nat}{sb:SB}(h:AA (Kq n o σ L f1 f2++FZ r) id=ay sb):
  AA (Kq n o σ L f1 f2) id=ay sb\/(id=4/\sb=.box [.sym .i64 r.id,.sym .i64 r.th,.sym .i64 r.st,.sym .i64 r.bg,.sym .i64 r.en,.sym .i64 r.tr,.gs 5,.sym .i64 r.stand] 184)\/(id=5/\sb=.own 197 8 r.AP.length (Az (nth r.AP))):=by
 match id,h with
 |0,h=>exact .inl h |1,h=>exact .inl h |2,h=>exact .inl h |3,h=>exact .inl h |4,h=>cases h;exact .inr (.inl ⟨rfl,rfl⟩) |5,h=>cases h;exact .inr (.inr ⟨rfl,rfl⟩) |6,h=>exact .inl h |id+7,h=>simp[Kq,hpA,FZ,hpR,AA] at h
theorem asl{i j id:Nat}(h:id<4\/id=6):UH i id=UH j id:=by
 match id,h with
 |0,_|1,_|2,_|3,_|6,_=>rfl |4,h=>omega |5,h=>omega |id+7,h=>omega
theorem amw(hA:DN H w n (Az o) σ L){i:Nat}{r:Rc}(hi:σ.rs[i]?=ay r){own:Nat->Prop}(hown:∀t b,Vw (ay i) t->L.blk σ.rs.length t=ay b->own b){f1 f2:List (Int×Bool×SV)}{v1 v2:List (Int×Option Value)}
  (h1:GR H (I4 L (ay i)) f1 v1) (h2:GR H (I4 L (ay i)) f2 v2) (m1:∀k u,(k,u)∈v1->Ji σ L k=u) (m2:∀k u,(k,u)∈v2->I9 σ L k=u) :
  AZ ⟨w,own,H⟩ H (I4 L (ay i)) w (Kq n o σ L f1 f2++FZ r):=by
 have hlt:=(aQ.1 hi).1;have key:∀id sb,AA (Kq n o σ L f1 f2++FZ r) id=ay sb->GV ⟨w,own,H⟩ H (I4 L (ay i)) w id sb/\id<7/\∀b,Bv (I4 L (ay i)) id sb=ay b->L.blk σ.rs.length (UH i id)=ay b:=fun id sb hl=>by
  rcases ajY hl with hl|⟨rfl,rfl⟩ |⟨rfl,rfl⟩
  ·obtain ⟨a1,a2,a3⟩:=aqm hA (ay i) hown h1 h2 m1 m2 id sb hl
   exact ⟨a1,by omega,fun b hb=>by rw[asl (j:=0) a2];exact a3 b hb⟩
  ·have hb:L.blk σ.rs.length (.rc i)=ay (L.R i):=by simp[Lay.blk,hlt]
   exact ⟨⟨L.R i,_,rfl,hA.rc i r hi,⟨rfl,rfl,rfl,rfl,rfl,rfl,⟨rfl,JE (hA.de i r hi)⟩,rfl,trivial⟩,⟨hA.un _ _ hb,.inr (hown (.rc i) _ rfl hb)⟩⟩,by decide,fun b hb'=>by
    cases hb';exact hb⟩
  ·have hb:∀b,AY (L.D i)=ay b->L.blk σ.rs.length (.de i)=ay b:=fun b hb=>by simp[Lay.blk,hlt,hb]
   exact ⟨⟨L.D i,_,rfl,hA.de i r hi,ZF _,fun b hb'=>⟨hA.un _ _ (hb b hb'),.inr (hown (.de i) _ rfl (hb b hb'))⟩⟩,by decide,fun b hb'=>hb b hb'⟩
 refine ⟨fun id sb hl=>(key id sb hl).1,fun id id' sb sb' b l1 l2 o1 o2=>?_⟩;obtain ⟨_,a1,a2⟩:=key id sb l1;obtain ⟨_,b1,b2⟩:=key id' sb' l2;exact aeu a1 b1 (hA.Gu _ _ _ (a2 b o1) (b2 b o2))
theorem acC(hA:DN H w n (Az o) σ L){own:Nat->Prop}(hown:∀t b,Vw aN t->L.blk σ.rs.length t=ay b->own b){f1 f2:List (Int×Bool×SV)}{v1 v2:List (Int×Option Value)}
  (h1:GR H (I4 L aN) f1 v1) (h2:GR H (I4 L aN) f2 v2) (m1:∀k u,(k,u)∈v1->Ji σ L k=u) (m2:∀k u,(k,u)∈v2->I9 σ L k=u) :
  AZ ⟨w,own,H⟩ H (I4 L aN) w (Kq n o σ L f1 f2):=by
 have key:=aqm hA aN hown h1 h2 m1 m2;refine ⟨fun id sb hl=>(key id sb hl).1,fun id id' sb sb' b l1 l2 o1 o2=>?_⟩;obtain ⟨_,a1,a2⟩:=key id sb l1;obtain ⟨_,b1,b2⟩:=key id' sb' l2;exact aeu (i:=0) (by omega) (by omega) (hA.Gu _ _ _ (a2 b o1) (b2 b o2))
theorem aqn(hA:DN H w n (Az o) σ L){i:Nat}{r:Rc}(hi:σ.rs[i]?=ay r){f1 f2:List (Int×Bool×SV)}(b:Nat):
  LU (I4 L (ay i)) (Kq n o σ L f1 f2++FZ r) b↔∃t,Vw (ay i) t/\L.blk σ.rs.length t=ay b:=by
 have hlt:=(aQ.1 hi).1;constructor
 ·rintro ⟨id,sb,hl,hb⟩
  match id,hl with
  |0,hl=>cases hl;exact ⟨.au,trivial,hb⟩ |1,hl=>cases hl;exact ⟨.tx,trivial,hb⟩ |2,hl=>cases hl;exact ⟨.Ls,trivial,hb⟩ |3,hl=>cases hl;exact ⟨.bu,trivial,hb⟩ |4,hl=>cases hl;exact ⟨.rc i,rfl,by cases hb;simp[Lay.blk,hlt]⟩ |5,hl=>cases hl;exact ⟨.de i,rfl,by simp only[Lay.blk,if_pos hlt];exact hb⟩ |6,hl=>cases hl;exact ⟨.ob,trivial,hb⟩ |id+7,hl=>simp[Kq,hpA,FZ,hpR,AA] at hl
 ·rintro ⟨t,hv,hb⟩
  cases t with
  |au=>exact ⟨0,_,rfl,hb⟩ |tx=>exact ⟨1,_,rfl,hb⟩ |Ls=>exact ⟨2,_,rfl,hb⟩ |bu=>exact ⟨3,_,rfl,hb⟩ |ob=>exact ⟨6,_,rfl,hb⟩ |rc j=>
   cases hv;simp only[Lay.blk,if_pos hlt] at hb;exact ⟨4,_,rfl,hb⟩
  |de j=>
   cases hv;simp only[Lay.blk,if_pos hlt] at hb;exact ⟨5,_,rfl,hb⟩
theorem aev{f1 f2:List (Int×Bool×SV)}(b:Nat):
  LU (I4 L aN) (Kq n o σ L f1 f2) b↔∃t,Vw aN t/\L.blk σ.rs.length t=ay b:=by
 constructor
 ·rintro ⟨id,sb,hl,hb⟩
  match id,hl with
  |0,hl=>cases hl;exact ⟨.au,trivial,hb⟩ |1,hl=>cases hl;exact ⟨.tx,trivial,hb⟩ |2,hl=>cases hl;exact ⟨.Ls,trivial,hb⟩ |3,hl=>cases hl;exact ⟨.bu,trivial,hb⟩ |4,hl=>simp[Kq,hpA,AA] at hl |5,hl=>simp[Kq,hpA,AA] at hl |6,hl=>cases hl;exact ⟨.ob,trivial,hb⟩ |id+7,hl=>simp[Kq,hpA,AA] at hl
 ·rintro ⟨t,hv,hb⟩
  cases t with
  |au=>exact ⟨0,_,rfl,hb⟩ |tx=>exact ⟨1,_,rfl,hb⟩ |Ls=>exact ⟨2,_,rfl,hb⟩ |bu=>exact ⟨3,_,rfl,hb⟩ |ob=>exact ⟨6,_,rfl,hb⟩ |rc j=>cases hv |de j=>cases hv
end
open Go.Cc Go.AQ
section
variable{H H':Mem}{E E':Env}{w w':World}{n:Nat}{o:Nat->Oj}{σ σ':Au}{L L':Lay}
theorem PY{r:List (Int×Option Value)}(h:GR H E [] r):r=[]:=by
 cases r with
 |nil=>rfl |cons _ _=>exact h.elim
theorem amx{t:Int}{x:SV}{r:List (Int×Option Value)}(h:GR H E [(t,aA,x)] r):r=[(t,aN)]:=by
 match r,h with
 |[(k,o)],⟨h1,h2,_⟩=>
  cases o with
  |none=>rw[h1] |some v=>exact h2.elim
 |[],h=>exact h.elim |(_,_)::_::_,⟨_,_,h⟩=>exact h.elim
def ahZ(σ σ':Au)(us:List (Int×Bool×SV)):Prop:=
 (us=[]/\∀k,σ'.Kw k=σ.Kw k)\/∃t x,us=[(t,aA,x)]/\∀k,σ'.Kw k=if k=t then aN else σ.Kw k
theorem ajZ{own:Nat->Prop}(hA:DN H w n (Az o) σ L){i:Nat}{r0:Rc}(hi:σ.rs[i]?=ay r0)(hown:∀b,own b↔∃t,Vw (ay i) t/\L.blk σ.rs.length t=ay b)
  {e:Ev} {many':Nat} {r:Rc} {us:List (Int×Bool×SV)} (hh:AZ ⟨w,own,H⟩ H' E' w' (EO n σ.rs.length o (He L.R) (Ji σ L) (I9 σ L) e many' r us).hp) (hW:Es ⟨w,own,H⟩ H' w') (hH:H.le H')
  (h0:E' 0=ay (DW L.p)) (h4:E' 4=ay (DW (L.R i))) (hby:∀k,(⟨many',σ.rs.set i r⟩:Au).Ko k=σ.Ko k) (hbu:ahZ σ ⟨many',σ.rs.set i r⟩ us) :
  ∃L',DN H' w' n (Az o) ⟨many',σ.rs.set i r⟩ L'/\L'.p=L.p/\∀t b,L'.blk (σ.rs.set i r).length t=ay b->w.heap.size<=b\/∃t',L.blk σ.rs.length t'=ay b:=by
 have hlt:=(aQ.1 hi).1;obtain ⟨p,⟨cs⟩,p1,p2,p3,p4⟩:=hh.ent 0 _ rfl;match cs,p3 with
 |[u0,u1,u2,u3,u4],⟨d0,d1,d2,d3,d4,_⟩=>
  have d1:u1=.int .i64 many':=d1;obtain ⟨d0,_⟩:E' 6=ay u0/\_:=d0;obtain ⟨d2,_⟩:E' 1=ay u2/\_:=d2;obtain ⟨b1,d3,d3'⟩:=d3;obtain ⟨b2,d4,d4'⟩:=d4;subst d1 d3' d4';rw[h0] at p1;have hp:L.p=p:=by
   have:=dH p1;simp[DW] at this;exact this
  subst hp;have hob:∃xs,w'.ownsRow 0 140 2 u0 n xs/\CQ H' 2 n (Az o) xs:=by
   obtain ⟨v,xs,x1,x2,x3,_⟩:=hh.ent 6 _ rfl;rw[d0] at x1;cases x1;exact ⟨xs,x2,x3⟩
  obtain ⟨v2,xs,q1,q2,q3,q4⟩:=hh.ent 1 _ rfl;rw[d2] at q1;cases q1;obtain rfl:=QX q3;obtain ⟨b1',ms1,Xx,fv1,uv1,s1,s2,s3,s4,s5,s6,_,s7⟩:=hh.ent 2 _ rfl;rw[d3] at s1;cases s1;obtain rfl:=PY s4;obtain ⟨b2',ms2,Xy,fv2,uv2,t1,t2,t3,t4,t5,t6,_,t7⟩:=hh.ent 3 _ rfl;rw[d4] at t1;cases t1;obtain ⟨pr,⟨cr⟩,r1,r2,r3,r4⟩:=hh.ent 4 _ rfl;rw[h4] at r1;have hpr:L.R i=pr:=by
   have:=dH r1;simp[DW] at this;exact this
  subst hpr;match cr,r3 with
  |[c0,c1,c2,c3,c4,c5,c6,c7],⟨e0,e1,e2,e3,e4,e5,e6,e7,_⟩=>
   have e0:c0=.int .i64 r.id:=e0;have e1:c1=.int .i64 r.th:=e1;have e2:c2=.int .i64 r.st:=e2;have e3:c3=.int .i64 r.bg:=e3;have e4:c4=.int .i64 r.en:=e4;have e5:c5=.int .i64 r.tr:=e5;have e7:c7=.int .i64 r.stand:=e7;obtain ⟨e6,_⟩:E' 5=ay c6/\_:=e6;subst e0 e1 e2 e3 e4 e5 e7;obtain ⟨vd,xd,g1,g2,g3,g4⟩:=hh.ent 5 _ rfl;rw[e6] at g1;cases g1;obtain rfl:=acB g3;let L':Lay:=⟨L.p,u0,u2,b1,b2,L.R,fun j=>if j=i then c6 else L.D j⟩
   have hlen:(σ.rs.set i r).length=σ.rs.length:=by simp
   have hbl:∀t b,Vw (ay i) t->L'.blk (σ.rs.set i r).length t=ay b->∃id sb,id<7/\UH i id=t/\AA (EO n σ.rs.length o (He L.R) (Ji σ L) (I9 σ L) e many' r us).hp id=ay sb/\Bv E' id sb=ay b:=fun t b hv hb=>by
    cases t with
    |au=>exact ⟨0,_,by decide,rfl,rfl,by simp only[Bv,h0];exact hb⟩ |tx=>exact ⟨1,_,by decide,rfl,rfl,by simp only[Bv,d2];exact hb⟩ |Ls=>exact ⟨2,_,by decide,rfl,rfl,by simp only[Bv,d3];exact hb⟩ |bu=>exact ⟨3,_,by decide,rfl,rfl,by simp only[Bv,d4];exact hb⟩ |ob=>exact ⟨6,_,by decide,rfl,rfl,by simp only[Bv,d0];exact hb⟩ |rc j=>
     cases hv;refine ⟨4,_,by decide,rfl,rfl,?_⟩;simp only[Lay.blk,hlen,if_pos hlt] at hb;simp only[Bv,h4];exact hb
    |de j=>
     cases hv;refine ⟨5,_,by decide,rfl,rfl,?_⟩;simp only[Lay.blk,hlen,if_pos hlt,L'] at hb;simp only[Bv,e6];simpa using hb
   have mk:=Tv (H':=H') (w':=w') (σ':=⟨many',σ.rs.set i r⟩) (L':=L') hA hown hW hH ⟨trivial,trivial,trivial,trivial,trivial⟩ (fun _=>zF) p2 hob (by rw[hlen];exact q2)
    ⟨ms1,Xx,s2,by
     have:(fun k=>((⟨many',σ.rs.set i r⟩:Au).Ko k).map fun i=>DW (L'.R i))=Uj (Ji σ L) []:=by
      funext k;rw[hby k];rfl
     rw[this];exact s6⟩
    ⟨ms2,Xy,t2,by
     have:(fun k=>((⟨many',σ.rs.set i r⟩:Au).Kw k).map fun i=>DW (L'.R i))=Uj (I9 σ L) uv2:=by
      rcases hbu with ⟨rfl,hb⟩ |⟨t,x,rfl,hb⟩
      ·obtain rfl:=PY t4
       funext k;rw[hb k];rfl
      ·obtain rfl:=amx t4
       funext k;rw[hb k];simp only[Uj];by_cases hk:k=t
       ·simp[hk]
       ·simp[hk,I9,L']
     rw[this];exact t6⟩
    (fun j rj hj hv=>by
     cases hv;have:rj=r:=by
      simp[hlt] at hj;exact hj.symm
     subst this;simp only[L',if_true];exact ⟨r2,g2⟩)
    (fun j rj hj hv=>by
     have hne:¬j=i:=fun q=>hv (by rw[q];exact rfl);refine ⟨?_,rfl,if_neg hne⟩;simpa[lG,Ne.symm hne] using hj)
    (fun t b hv hb=>by
     obtain ⟨id,sb,_,_,a3,a4⟩:=hbl t b hv hb;exact ⟨((hh.ent _ _ a3).lt a4).2.1,((hh.ent _ _ a3).lt a4).2.2⟩)
    (fun s t b hs ht bs bt=>by
     obtain ⟨id,sb,a1,a2,a3,a4⟩:=hbl s b hs bs;obtain ⟨id',sb',b1,b2,b3,b4⟩:=hbl t b ht bt;have:=hh.Gu _ _ _ _ _ a3 b3 a4 b4;subst this;rw[<-a2,<-b2])
   exact ⟨L',mk.1,rfl,mk.2⟩
end
open Go.Cc Go.AQ
section
variable{H H':Mem}{E E':Env}{w w':World}{n:Nat}{o:Nat->Oj}{σ σ':Au}{L L':Lay}
theorem ah0{own:Nat->Prop}(hA:DN H w n (Az o) σ L)(hown:∀b,own b↔∃t,Vw aN t/\L.blk σ.rs.length t=ay b)
  {f1 f2:List (Int×Bool×SV)} (hh:AZ ⟨w,own,H⟩ H' E' w' (toN n σ.rs.length o σ.many (He L.R) (Ji σ L) (I9 σ L) f1 f2).hp) (hW:Es ⟨w,own,H⟩ H' w') (hH:H.le H')
  (h0:E' 0=ay (DW L.p)) :
  ∃L',DN H' w' n (Az o) σ L'/\L'.p=L.p/\∀t b,L'.blk σ.rs.length t=ay b->w.heap.size<=b\/∃t',L.blk σ.rs.length t'=ay b:=by
 obtain ⟨p,⟨cs⟩,p1,p2,p3,p4⟩:=hh.ent 0 _ rfl;match cs,p3 with
 |[u0,u1,u2,u3,u4],⟨d0,d1,d2,d3,d4,_⟩=>
  have d1:u1=.int .i64 σ.many:=d1;obtain ⟨d0,_⟩:E' 6=ay u0/\_:=d0;obtain ⟨d2,_⟩:E' 1=ay u2/\_:=d2;obtain ⟨b1,d3,d3'⟩:=d3;obtain ⟨b2,d4,d4'⟩:=d4;subst d1 d3' d4';rw[h0] at p1;have hp:L.p=p:=by
   have:=dH p1;simp[DW] at this;exact this
  subst hp;have hob:∃xs,w'.ownsRow 0 140 2 u0 n xs/\CQ H' 2 n (Az o) xs:=by
   obtain ⟨v,xs,x1,x2,x3,_⟩:=hh.ent 6 _ rfl;rw[d0] at x1;cases x1;exact ⟨xs,x2,x3⟩
  obtain ⟨v2,xs,q1,q2,q3,q4⟩:=hh.ent 1 _ rfl;rw[d2] at q1;cases q1;obtain rfl:=QX q3;obtain ⟨b1',ms1,Xx,fv1,uv1,s1,s2,s3,s4,s5,s6,_,s7⟩:=hh.ent 2 _ rfl;rw[d3] at s1;cases s1;obtain rfl:=PY s4;obtain ⟨b2',ms2,Xy,fv2,uv2,t1,t2,t3,t4,t5,t6,_,t7⟩:=hh.ent 3 _ rfl;rw[d4] at t1;cases t1;obtain rfl:=PY t4;let L':Lay:=⟨L.p,u0,u2,b1,b2,L.R,L.D⟩
  have hbl:∀t b,Vw aN t->L'.blk σ.rs.length t=ay b->∃id sb,id<7/\UH 0 id=t/\AA (toN n σ.rs.length o σ.many (He L.R) (Ji σ L) (I9 σ L) f1 f2).hp id=ay sb/\Bv E' id sb=ay b:=fun t b hv hb=>by
   cases t with
   |au=>exact ⟨0,_,by decide,rfl,rfl,by simp only[Bv,h0];exact hb⟩ |tx=>exact ⟨1,_,by decide,rfl,rfl,by simp only[Bv,d2];exact hb⟩ |Ls=>exact ⟨2,_,by decide,rfl,rfl,by simp only[Bv,d3];exact hb⟩ |bu=>exact ⟨3,_,by decide,rfl,rfl,by simp only[Bv,d4];exact hb⟩ |ob=>exact ⟨6,_,by decide,rfl,rfl,by simp only[Bv,d0];exact hb⟩ |rc j=>cases hv |de j=>cases hv
  have mk:=Tv (H':=H') (w':=w') (σ':=σ) (L':=L') hA hown hW hH ⟨trivial,trivial,trivial,trivial,trivial⟩ (fun _=>zF) p2 hob q2 ⟨ms1,Xx,s2,s6⟩ ⟨ms2,Xy,t2,t6⟩
   (fun j rj hj hv=>by cases hv) (fun j rj hj hv=>⟨hj,rfl,rfl⟩)
   (fun t b hv hb=>by
    obtain ⟨id,sb,_,_,a3,a4⟩:=hbl t b hv hb;exact ⟨((hh.ent _ _ a3).lt a4).2.1,((hh.ent _ _ a3).lt a4).2.2⟩)
   (fun s t b hs ht bs bt=>by
    obtain ⟨id,sb,a1,a2,a3,a4⟩:=hbl s b hs bs;obtain ⟨id',sb',b1,b2,b3,b4⟩:=hbl t b ht bt;have:=hh.Gu _ _ _ _ _ a3 b3 a4 b4;subst this;rw[<-a2,<-b2])
  exact ⟨L',mk.1,rfl,mk.2⟩
theorem aew{t:Int}{x y:SV}{r:List (Int×Option Value)}(h:GR H E [(t,aF,x),(t,aF,y)] r):∃u v,r=[(t,ay u),(t,ay v)]/\Den H E x u:=by
 match r,h with
 |[(k,p),(k',q)],⟨h1,h2,h3,h4,_⟩=>
  cases p with
  |none=>exact h2.elim |some u=>
   cases q with
   |none=>exact h4.elim |some v=>exact ⟨u,v,by rw[h1,h3],h2.1⟩
 |[],h=>exact h.elim |[(_,_)],⟨_,_,h⟩=>exact h.elim |(_,_)::(_,_)::_::_,⟨_,_,_,_,h⟩=>exact h.elim
theorem ZG{α:Type}{p:α->Bool}{l:List α}{i:Nat}(h:l.findIdx? p=ay i):i<l.length:=by
 rw[List.findIdx?_eq_some_iff_findIdx_eq] at h;exact h.1
theorem aj0{own:Nat->Prop}(hA:DN H w n (Az o) σ L)(hown:∀b,own b↔∃t,Vw aN t/\L.blk σ.rs.length t=ay b)
  {e:Ev} {many':Nat} {r:Rc} (hd:r.AP=[]) (hh:AZ ⟨w,own,H⟩ H' E' w' (toB n σ.rs.length o (He L.R) (Ji σ L) (I9 σ L) e many' r.id r.th r.st r.bg r.en r.tr r.stand).hp) (hW:Es ⟨w,own,H⟩ H' w') (hH:H.le H')
  (h0:E' 0=ay (DW L.p)) (hby:∀k,(⟨many',σ.rs++[r]⟩:Au).Ko k=if k=e.tx then ay σ.rs.length else σ.Ko k) (hbu:∀k,(⟨many',σ.rs++[r]⟩:Au).Kw k=if k=e.thread then ay σ.rs.length else σ.Kw k) :
  ∃L',DN H' w' n (Az o) ⟨many',σ.rs++[r]⟩ L'/\L'.p=L.p/\∀t b,L'.blk (σ.rs++[r]).length t=ay b->w.heap.size<=b\/∃t',L.blk σ.rs.length t'=ay b:=by
 obtain ⟨p,⟨cs⟩,p1,p2,p3,p4⟩:=hh.ent 0 _ rfl;match cs,p3 with
 |[u0,u1,u2,u3,u4],⟨d0,d1,d2,d3,d4,_⟩=>
  have d1:u1=.int .i64 many':=d1;obtain ⟨d0,_⟩:E' 6=ay u0/\_:=d0;obtain ⟨d2,_⟩:E' 1=ay u2/\_:=d2;obtain ⟨b1,d3,d3'⟩:=d3;obtain ⟨b2,d4,d4'⟩:=d4;subst d1 d3' d4';rw[h0] at p1;have hp:L.p=p:=by
   have:=dH p1;simp[DW] at this;exact this
  subst hp;obtain ⟨pr,⟨cr⟩,r1,r2,r3,r4⟩:=hh.ent 4 _ rfl;have aqo:∀{u:Value},Den H' E' (.ptr 4 0) u->u=DW pr:=fun {u} h=>by
   obtain ⟨b,h1,h2⟩:=h;rw[r1] at h1;cases h1;exact h2
  have hob:∃xs,w'.ownsRow 0 140 2 u0 n xs/\CQ H' 2 n (Az o) xs:=by
   obtain ⟨v,xs,x1,x2,x3,_⟩:=hh.ent 6 _ rfl;rw[d0] at x1;cases x1;exact ⟨xs,x2,x3⟩
  obtain ⟨v2,xs,ys,q1,q2,q3,q5,_,_,q4⟩:=hh.ent 1 _ rfl;rw[d2] at q1;cases q1;obtain rfl:=QX q3;match ys,q5 with
  |[y],⟨q5,_⟩=>
  obtain rfl:=aqo q5;obtain ⟨b1',ms1,Xx,fv1,uv1,s1,s2,s3,s4,s5,s6,_,s7⟩:=hh.ent 2 _ rfl;rw[d3] at s1;cases s1;obtain ⟨x1,x2,rfl,x3⟩:=aew s4;obtain rfl:=aqo x3;obtain ⟨b2',ms2,Xy,fv2,uv2,t1,t2,t3,t4,t5,t6,_,t7⟩:=hh.ent 3 _ rfl;rw[d4] at t1;cases t1;obtain ⟨y1,y2,rfl,y3⟩:=aew t4;obtain rfl:=aqo y3;match cr,r3 with
  |[c0,c1,c2,c3,c4,c5,c6,c7],⟨e0,e1,e2,e3,e4,e5,e6,e7,_⟩=>
   have e0:c0=.int .i64 r.id:=e0;have e1:c1=.int .i64 r.th:=e1;have e2:c2=.int .i64 r.st:=e2;have e3:c3=.int .i64 r.bg:=e3;have e4:c4=.int .i64 r.en:=e4;have e5:c5=.int .i64 r.tr:=e5;have e6:c6=.slice aN 0 0:=e6;have e7:c7=.int .i64 r.stand:=e7;subst e0 e1 e2 e3 e4 e5 e6 e7;let L':Lay:=⟨L.p,u0,u2,b1,b2,fun j=>if j=σ.rs.length then pr else L.R j,fun j=>if j=σ.rs.length then .slice aN 0 0 else L.D j⟩
   have hlen:(σ.rs++[r]).length=σ.rs.length+1:=by simp
   have hown':∀b,own b↔∃t,Vw (ay σ.rs.length) t/\L.blk σ.rs.length t=ay b:=fun b=>by
    rw[hown b];constructor
    ·rintro ⟨t,h1,h2⟩
     refine ⟨t,?_,h2⟩;cases t with
     |rc j=>cases h1 |de j=>cases h1 |_=>trivial
    ·rintro ⟨t,h1,h2⟩
     refine ⟨t,?_,h2⟩;cases t with
     |rc j=>cases h1;simp[Lay.blk] at h2 |de j=>cases h1;simp[Lay.blk] at h2 |_=>trivial
   have hbl:∀t b,Vw (ay σ.rs.length) t->L'.blk (σ.rs++[r]).length t=ay b->∃id sb,id<7/\UH σ.rs.length id=t/\AA (toB n σ.rs.length o (He L.R) (Ji σ L) (I9 σ L) e many' r.id r.th r.st r.bg r.en r.tr r.stand).hp id=ay sb/\Bv E' id sb=ay b:=fun t b hv hb=>by
    cases t with
    |au=>exact ⟨0,_,by decide,rfl,rfl,by simp only[Bv,h0];exact hb⟩ |tx=>exact ⟨1,_,by decide,rfl,rfl,by simp only[Bv,d2];exact hb⟩ |Ls=>exact ⟨2,_,by decide,rfl,rfl,by simp only[Bv,d3];exact hb⟩ |bu=>exact ⟨3,_,by decide,rfl,rfl,by simp only[Bv,d4];exact hb⟩ |ob=>exact ⟨6,_,by decide,rfl,rfl,by simp only[Bv,d0];exact hb⟩ |rc j=>
     cases hv;refine ⟨4,_,by decide,rfl,rfl,?_⟩;simp[Lay.blk,L'] at hb;simp only[Bv,r1];rw[<-hb];rfl
    |de j=>
     cases hv;simp[Lay.blk,L',AY] at hb
   have hR:∀j,j<σ.rs.length->L'.R j=L.R j:=fun j hj=>if_neg (by omega);have hmap:∀(f:Option Nat),(∀j,f=ay j->j<σ.rs.length)->(f.map fun i=>DW (L'.R i))=f.map fun i=>DW (L.R i):=fun f hf=>by
    cases f with
    |none=>rfl |some j=>simp[hR j (hf j rfl)]
   have mk:=Tv (H':=H') (w':=w') (σ':=⟨many',σ.rs++[r]⟩) (L':=L') hA hown' hW hH ⟨trivial,trivial,trivial,trivial,trivial⟩ (fun _=>zF) p2 hob
    (by
     have e:(aY (σ.rs++[r]).length).map (fun i=>DW (L'.R i))=(aY σ.rs.length).map (fun i=>DW (L.R i))++[DW pr]:=by
      rw[hlen,List.range_succ,List.map_append];congr 1
      ·exact List.map_congr_left fun i hi=>by rw[hR i (List.mem_range.1 hi)]
      ·simp[L']
     rw[e,hlen];exact q2)
    ⟨ms1,Xx,s2,by
     have:(fun k=>((⟨many',σ.rs++[r]⟩:Au).Ko k).map fun i=>DW (L'.R i))=Uj (Ji σ L) [(e.tx,ay (DW pr)),(e.tx,ay x2)]:=by
      funext k;rw[hby k];simp only[Uj];by_cases hk:k=e.tx
      ·simp[hk,L']
      ·rw[if_neg hk,if_neg hk,if_neg hk]
       exact hmap _ fun j hj=>ZG hj
     rw[this];exact s6⟩
    ⟨ms2,Xy,t2,by
     have:(fun k=>((⟨many',σ.rs++[r]⟩:Au).Kw k).map fun i=>DW (L'.R i))=Uj (I9 σ L) [(e.thread,ay (DW pr)),(e.thread,ay y2)]:=by
      funext k;rw[hbu k];simp only[Uj];by_cases hk:k=e.thread
      ·simp[hk,L']
      ·rw[if_neg hk,if_neg hk,if_neg hk]
       exact hmap _ fun j hj=>ZG hj
     rw[this];exact t6⟩
    (fun j rj hj hv=>by
     cases hv;have:rj=r:=by simpa using hj.symm
     subst this;simp only[L',if_true];refine ⟨r2,?_⟩;rw[hd];exact Po _ _ _)
    (fun j rj hj hv=>by
     have hne:¬j=σ.rs.length:=fun q=>hv (by rw[q];exact rfl);have hj2:=(aQ.1 hj).1;rw[hlen] at hj2;refine ⟨?_,if_neg hne,if_neg hne⟩;rwa[dM (by omega)] at hj)
    (fun t b hv hb=>by
     obtain ⟨id,sb,_,_,a3,a4⟩:=hbl t b hv hb;exact ⟨((hh.ent _ _ a3).lt a4).2.1,((hh.ent _ _ a3).lt a4).2.2⟩)
    (fun s t b hs ht bs bt=>by
     obtain ⟨id,sb,a1,a2,a3,a4⟩:=hbl s b hs bs;obtain ⟨id',sb',b1,b2,b3,b4⟩:=hbl t b ht bt;have:=hh.Gu _ _ _ _ _ a3 b3 a4 b4;subst this;rw[<-a2,<-b2])
   exact ⟨L',mk.1,rfl,mk.2⟩
end
end Go.Sx
namespace Go.Cc
open Go Go.Sx
theorem MO{α:Type}{p:α->Bool}{x:α}:∀{l:List α} {i:Nat} {y:α},l[i]?=ay y->p x=p y->(l.set i x).findIdx? p=l.findIdx? p
 |[],_,_,h,_=>by simp at h |a::l,0,y,h,hp=>by
  simp at h;subst h;simp[jH,hp]
 |a::l,i+1,y,h,hp=>by
  simp only[List.set_cons_succ,jH];rw[MO (l:=l) (by simpa using h) hp]
theorem Ox{α:Type}{p:α->Bool}:∀{l:List α} {i:Nat},l.findIdx? p=ay i->∃y,l[i]?=ay y/\p y=aF
 |[],_,h=>by simp at h |a::l,i,h=>by
  rw[jH] at h;cases ha:p a with
  |true=>rw[ha] at h;simp at h;subst h;exact ⟨a,rfl,ha⟩ |false=>
   rw[ha] at h;simp at h;obtain ⟨j,hj,rfl⟩:=h;obtain ⟨y,h1,h2⟩:=Ox hj;exact ⟨y,by simpa using h1,h2⟩
theorem ah1{α:Type}{p:α->Bool}{l:List α}(h:∀(i:Nat) (y:α),l[i]?=ay y->p y=aA):l.findIdx? p=aN:=by
 rw[List.findIdx?_eq_none_iff];intro x hx;obtain ⟨i,hi,rfl⟩:=List.getElem_of_mem hx;exact h i _ (aS hi)
theorem O6{α:Type}{p:α->Bool}{x:α}:∀{l:List α},(l++[x]).findIdx? p=match l.findIdx? p with|some i=>ay i|none=>if p x then ay l.length else aN
 |[]=>by simp[jH] |a::l=>by
  simp only[List.cons_append,jH];cases ha:p a with
  |true=>simp |false=>
   simp only[Bool.false_eq_true,if_false];rw[O6 (l:=l)];cases l.findIdx? p with
   |some i=>rfl |none=>
    cases hx:p x<;>simp
theorem avr{α:Type}{P:α->Prop}{c:Bool}{a b:α}(ha:P a)(hb:P b):P (bif c then a else b):=by
 cases c
 ·exact hb
 ·exact ha
theorem NY{many:Nat}{e:Ev}{r r':Rc}(h:Rc.step many e r=.inr r'):r'.id=r.id/\r'.th=r.th:=by
 have:(fun x:Nat ⊕ Rc=>∀r',x=.inr r'->r'.id=r.id/\r'.th=r.th) (Rc.step many e r):=by
  unfold Rc.step;repeat' (refine avr (P:=fun x:Nat ⊕ Rc=>∀r',x=.inr r'->r'.id=r.id/\r'.th=r.th) ?_ ?_)
  all_goals
   intro r' h;first
    |(cases h;done)
    |(cases h;exact ⟨rfl,rfl⟩)
 exact this r' h
theorem VA{many:Nat}{e:Ev}{r r':Rc}(h:Rc.step many e r=.inr r')(hk:2<=e.kind/\e.kind<=7)(hs:1<=r.stand/\r.stand<=5):r.live=aF/\(1<=r'.stand/\r'.stand<=5)/\(r'.live=aF↔¬(e.kind=5\/e.kind=6)):=by
 unfold Rc.step at h;unfold Rc.live;by_cases k2:e.kind=2
 ·simp only[k2,beq_self_eq_true,cond_true] at h
  by_cases q:r.stand=1
  ·simp only[q,beq_self_eq_true,cond_true] at h;cases h;simp[q];omega
  ·have:(r.stand==1)=aA:=by simpa using q
   rw[this] at h;cases h
 by_cases k3:e.kind=3
 ·simp only[k3,show ((3:Int)==2)=aA from rfl,beq_self_eq_true,cond_true,cond_false] at h
  by_cases q:r.stand=2
  ·simp only[q,beq_self_eq_true,cond_true] at h
   cases f:O5 (r.AP.getLast?.getD Row.JJ).op e.ret<;>simp only[f,cond_true,cond_false] at h<;>cases h
   simp[q];omega
  ·have:(r.stand==2)=aA:=by simpa using q
   rw[this] at h;cases h
 by_cases k4:e.kind=4
 ·simp only[k4,show ((4:Int)==2)=aA from rfl,show ((4:Int)==3)=aA from rfl,beq_self_eq_true,cond_true,cond_false] at h
  by_cases q:r.stand=1
  ·simp only[q,beq_self_eq_true,cond_true] at h;cases h;simp[q];omega
  ·have:(r.stand==1)=aA:=by simpa using q
   rw[this] at h;cases h
 by_cases k7:e.kind=7
 ·simp only[k7,show ((7:Int)==2)=aA from rfl,show ((7:Int)==3)=aA from rfl,show ((7:Int)==4)=aA from rfl,beq_self_eq_true,cond_true,cond_false] at h
  by_cases q:r.stand=1
  ·simp only[q,beq_self_eq_true,cond_true] at h;cases h;simp[q];omega
  ·have:(r.stand==1)=aA:=by simpa using q
   rw[this] at h;cases h
 by_cases k5:e.kind=5
 ·simp only[k5,show ((5:Int)==2)=aA from rfl,show ((5:Int)==3)=aA from rfl,show ((5:Int)==4)=aA from rfl,show ((5:Int)==7)=aA from rfl,beq_self_eq_true,cond_true,cond_false] at h
  by_cases q:r.stand=3
  ·simp only[q,beq_self_eq_true,cond_true] at h;cases h;simp[q];omega
  ·have:(r.stand==3)=aA:=by simpa using q
   rw[this] at h;cases h
 have k6:e.kind=6:=by omega
 simp only[k6,show ((6:Int)==2)=aA from rfl,show ((6:Int)==3)=aA from rfl,show ((6:Int)==4)=aA from rfl,show ((6:Int)==7)=aA from rfl,show ((6:Int)==5)=aA from rfl,cond_false] at h;by_cases q:r.stand=5
 ·rw[q] at h;cases h
 ·have:(r.stand==1||r.stand==2||r.stand==3||r.stand==4)=aF:=by
   simp;omega
  rw[this] at h;cases h;simp[q];omega
end Go.Cc
namespace Go.AQ
open Go Go.Sx Go.Cc
section
variable{n m:Nat}{o:Nat->Oj}{many:Nat}{gR:Nat->List Sh}{M1 M2:Int->Option Value}
theorem amy(hm:many<400){e:Ev}(h1:0<=e.obj)(h2:e.obj<n)(h3:D6 e.op=(o e.obj.toNat).kind)(hk:e.kind=2)(hv:CS e=aF):
  EZ (Gz [toN n m o many gR M1 M2 [(e.tx,aA,.any)] []] (fun sv k=>sv=svE (ay 11)/\k=0)) ((run (C5 Aw W5 Dc A8) 700 aF 79 [.code []] (LA 2 e (hpA n m o many gR M1 M2 [(e.tx,aA,.any)] []))).bind (toEnd [toN n m o many gR M1 M2 [(e.tx,aA,.any)] []])):=by
 obtain ⟨kind,tx,thread,obj,op,key,val,ret⟩:=e;have hk:kind=2:=hk;subst hk;have hw:=hm;have hroom:=hm;have h1:0<=obj:=h1;have h2:obj<n:=h2;have h3:D6 op=(o obj.toNat).kind:=h3;have ho:Aw.le (Aw.Bl n) obj=aF->False:=fun q=>by simp[DK,Bg] at q;omega
 have hi:Aw.inB obj n=aF:=by simp[BO];omega
 have hq:Aw.nt (Aw.eq (D6 op) (o (Aw.toN obj)).kind)=aF->False:=fun q=>by
  simp[CU,Bd,Dn] at q;exact q h3
 rw[avh Aw W5 n m o many gR M1 M2 ⟨2,tx,thread,obj,op,key,val,ret⟩ many,C9];repeat' (first
  |exact trivial
  |exact hv
  |exact hw
  |exact hi
  |exact hroom
  |exact eqS _
  |exact rfl
  |exact fun _ _=>rfl
  |(intro q;exact (ho q).elim)
  |(intro q;exact (hq q).elim)
  |(intro q;replace q:=NW q;first|(exfalso;omega) |skip)
  |(intro q;replace q:=eqF q;first|(exfalso;omega) |skip)
  |intro _
  |refine bY ?_ ?_)
theorem amA(hm:many<400){e:Ev}(hk:e.kind=3)(hv:CS e=aF):
  EZ (Gz [toN n m o many gR M1 M2 [(e.tx,aA,.any)] []] (fun sv k=>sv=svE (ay 11)/\k=0)) ((run (C5 Aw W5 Dc A8) 700 aF 79 [.code []] (LA 3 e (hpA n m o many gR M1 M2 [(e.tx,aA,.any)] []))).bind (toEnd [toN n m o many gR M1 M2 [(e.tx,aA,.any)] []])):=by
 obtain ⟨kind,tx,thread,obj,op,key,val,ret⟩:=e;have hk:kind=3:=hk;subst hk;have hw:=hm;have hroom:=hm;have ho:=hm;have hi:=hm;have hq:=hm;rw[avi Aw W5 n m o many gR M1 M2 ⟨3,tx,thread,obj,op,key,val,ret⟩ many,C9];repeat' (first
  |exact trivial
  |exact hv
  |exact hw
  |exact hi
  |exact hroom
  |exact eqS _
  |exact rfl
  |exact fun _ _=>rfl
  |(intro q;exact (ho q).elim)
  |(intro q;exact (hq q).elim)
  |(intro q;replace q:=NW q;first|(exfalso;omega) |skip)
  |(intro q;replace q:=eqF q;first|(exfalso;omega) |skip)
  |intro _
  |refine bY ?_ ?_)
theorem amB(hm:many<400){e:Ev}(hk:e.kind=4)(hv:CS e=aF):
  EZ (Gz [toN n m o many gR M1 M2 [(e.tx,aA,.any)] []] (fun sv k=>sv=svE (ay 11)/\k=0)) ((run (C5 Aw W5 Dc A8) 700 aF 79 [.code []] (LA 4 e (hpA n m o many gR M1 M2 [(e.tx,aA,.any)] []))).bind (toEnd [toN n m o many gR M1 M2 [(e.tx,aA,.any)] []])):=by
 obtain ⟨kind,tx,thread,obj,op,key,val,ret⟩:=e;have hk:kind=4:=hk;subst hk;have hw:=hm;have hroom:=hm;have ho:=hm;have hi:=hm;have hq:=hm;rw[avj Aw W5 n m o many gR M1 M2 ⟨4,tx,thread,obj,op,key,val,ret⟩ many,C9];repeat' (first
  |exact trivial
  |exact hv
  |exact hw
  |exact hi
  |exact hroom
  |exact eqS _
  |exact rfl
  |exact fun _ _=>rfl
  |(intro q;exact (ho q).elim)
  |(intro q;exact (hq q).elim)
  |(intro q;replace q:=NW q;first|(exfalso;omega) |skip)
  |(intro q;replace q:=eqF q;first|(exfalso;omega) |skip)
  |intro _
  |refine bY ?_ ?_)
theorem amC(hm:many<400){e:Ev}(hk:e.kind=5)(hv:CS e=aF):
  EZ (Gz [toN n m o many gR M1 M2 [(e.tx,aA,.any)] []] (fun sv k=>sv=svE (ay 11)/\k=0)) ((run (C5 Aw W5 Dc A8) 700 aF 79 [.code []] (LA 5 e (hpA n m o many gR M1 M2 [(e.tx,aA,.any)] []))).bind (toEnd [toN n m o many gR M1 M2 [(e.tx,aA,.any)] []])):=by
 obtain ⟨kind,tx,thread,obj,op,key,val,ret⟩:=e;have hk:kind=5:=hk;subst hk;have hw:=hm;have hroom:=hm;have ho:=hm;have hi:=hm;have hq:=hm;rw[avk Aw W5 n m o many gR M1 M2 ⟨5,tx,thread,obj,op,key,val,ret⟩ many,C9];repeat' (first
  |exact trivial
  |exact hv
  |exact hw
  |exact hi
  |exact hroom
  |exact eqS _
  |exact rfl
  |exact fun _ _=>rfl
  |(intro q;exact (ho q).elim)
  |(intro q;exact (hq q).elim)
  |(intro q;replace q:=NW q;first|(exfalso;omega) |skip)
  |(intro q;replace q:=eqF q;first|(exfalso;omega) |skip)
  |intro _
  |refine bY ?_ ?_)
theorem amD(hm:many<400){e:Ev}(hk:e.kind=6)(hv:CS e=aF):
  EZ (Gz [toN n m o many gR M1 M2 [(e.tx,aA,.any)] []] (fun sv k=>sv=svE (ay 11)/\k=0)) ((run (C5 Aw W5 Dc A8) 700 aF 79 [.code []] (LA 6 e (hpA n m o many gR M1 M2 [(e.tx,aA,.any)] []))).bind (toEnd [toN n m o many gR M1 M2 [(e.tx,aA,.any)] []])):=by
 obtain ⟨kind,tx,thread,obj,op,key,val,ret⟩:=e;have hk:kind=6:=hk;subst hk;have hw:=hm;have hroom:=hm;have ho:=hm;have hi:=hm;have hq:=hm;rw[avl Aw W5 n m o many gR M1 M2 ⟨6,tx,thread,obj,op,key,val,ret⟩ many,C9];repeat' (first
  |exact trivial
  |exact hv
  |exact hw
  |exact hi
  |exact hroom
  |exact eqS _
  |exact rfl
  |exact fun _ _=>rfl
  |(intro q;exact (ho q).elim)
  |(intro q;exact (hq q).elim)
  |(intro q;replace q:=NW q;first|(exfalso;omega) |skip)
  |(intro q;replace q:=eqF q;first|(exfalso;omega) |skip)
  |intro _
  |refine bY ?_ ?_)
theorem amE(hm:many<400){e:Ev}(hk:e.kind=7)(hv:CS e=aF):
  EZ (Gz [toN n m o many gR M1 M2 [(e.tx,aA,.any)] []] (fun sv k=>sv=svE (ay 11)/\k=0)) ((run (C5 Aw W5 Dc A8) 700 aF 79 [.code []] (LA 7 e (hpA n m o many gR M1 M2 [(e.tx,aA,.any)] []))).bind (toEnd [toN n m o many gR M1 M2 [(e.tx,aA,.any)] []])):=by
 obtain ⟨kind,tx,thread,obj,op,key,val,ret⟩:=e;have hk:kind=7:=hk;subst hk;have hw:=hm;have hroom:=hm;have ho:=hm;have hi:=hm;have hq:=hm;rw[avm Aw W5 n m o many gR M1 M2 ⟨7,tx,thread,obj,op,key,val,ret⟩ many,C9];repeat' (first
  |exact trivial
  |exact hv
  |exact hw
  |exact hi
  |exact hroom
  |exact eqS _
  |exact rfl
  |exact fun _ _=>rfl
  |(intro q;exact (ho q).elim)
  |(intro q;exact (hq q).elim)
  |(intro q;replace q:=NW q;first|(exfalso;omega) |skip)
  |(intro q;replace q:=eqF q;first|(exfalso;omega) |skip)
  |intro _
  |refine bY ?_ ?_)
theorem aqp(hm:many<400){e:Ev}(hk:e.kind=1)(hv:CS e=aF)(r:Rc):
  EZ (Gz [EO n m o gR M1 M2 e many r []] (fun sv k=>sv=svE (ay 9)/\k=0)) ((run (C5 Aw W5 Dc A8) 700 aF 79 [.code []] (LA 1 e (hpA n m o many gR M1 M2 [(e.tx,aF,.ptr 4 0)] []++FZ r))).bind (toEnd [EO n m o gR M1 M2 e many r []])):=by
 obtain ⟨kind,tx,thread,obj,op,key,val,ret⟩:=e;obtain ⟨id,th,st,bg,en,tr,AP,stand⟩:=r;have hk:kind=1:=hk;subst hk;have hw:=hm;have hroom:=hm;have ho:=hm;have hi:=hm;have hq:=hm;unfold EO FZ;simp only;rw[avn Aw W5 n m o many gR M1 M2 ⟨1,tx,thread,obj,op,key,val,ret⟩ id th st bg en tr stand AP.length (nth AP) many id th st bg en tr stand AP.length (Az (nth AP)),C9];repeat' (first
  |exact trivial
  |exact hv
  |exact hw
  |exact hi
  |exact hroom
  |exact eqS _
  |exact rfl
  |exact fun _ _=>rfl
  |(intro q;exact (ho q).elim)
  |(intro q;exact (hq q).elim)
  |(intro q;replace q:=NW q;first|(exfalso;omega) |skip)
  |(intro q;replace q:=eqF q;first|(exfalso;omega) |skip)
  |intro _
  |refine bY ?_ ?_)
theorem asn(hm:many<400){e:Ev}(hk:e.kind=1)(hv:CS e=aF)(q:Nat):
  EZ (Gz [toN n m o many gR M1 M2 [(e.tx,aA,.any)] [(e.thread,aF,.val (.pointer (ay ⟨q,0,aN⟩)))]] (fun sv k=>sv=svE (ay 10)/\k=0)) ((run (C5 Aw W5 Dc A8) 700 aF 79 [.code []] (LA 1 e (hpA n m o many gR M1 M2 [(e.tx,aA,.any)] [(e.thread,aF,.val (.pointer (ay ⟨q,0,aN⟩)))]))).bind (toEnd [toN n m o many gR M1 M2 [(e.tx,aA,.any)] [(e.thread,aF,.val (.pointer (ay ⟨q,0,aN⟩)))]])):=by
 obtain ⟨kind,tx,thread,obj,op,key,val,ret⟩:=e;have hk:kind=1:=hk;subst hk;have hw:=hm;have hroom:=hm;have ho:=hm;have hi:=hm;have hq:=hm;rw[avo Aw W5 n m o many gR M1 M2 ⟨1,tx,thread,obj,op,key,val,ret⟩ q many,C9];repeat' (first
  |exact trivial
  |exact hv
  |exact hw
  |exact hi
  |exact hroom
  |exact eqS _
  |exact rfl
  |exact fun _ _=>rfl
  |(intro q;exact (ho q).elim)
  |(intro q;exact (hq q).elim)
  |(intro q;replace q:=NW q;first|(exfalso;omega) |skip)
  |(intro q;replace q:=eqF q;first|(exfalso;omega) |skip)
  |intro _
  |refine bY ?_ ?_)
theorem aqr(hm:many<400)(hl:m<=1000){e:Ev}(hk:e.kind=1)(hv:CS e=aF):
  EZ (Gz [toB n m o gR M1 M2 e (many+1:Nat) e.tx e.thread 1 many (-1) (-1) 1] (fun sv k=>sv=svE aN/\k=0)) ((run (C5 Aw W5 Dc A8) 700 aF 79 [.code []] (LA 1 e (hpA n m o many gR M1 M2 [(e.tx,aA,.any)] [(e.thread,aA,.any)]))).bind (toEnd [toB n m o gR M1 M2 e (many+1:Nat) e.tx e.thread 1 many (-1) (-1) 1])):=by
 obtain ⟨kind,tx,thread,obj,op,key,val,ret⟩:=e;have hk:kind=1:=hk;subst hk;have hw:=wrapM hm;have hroom:Aw.room (Aw.addN m 1) 8=aF:=by
  show decide ((m+1)*8<=140737488355328/\m+1<=maxLen)=aF;rw[maxLen_eq];exact decide_eq_true ⟨by omega,by omega⟩
 have ho:=hm;have hi:=hm;have hq:=hm;rw[avp Aw W5 n m o many gR M1 M2 ⟨1,tx,thread,obj,op,key,val,ret⟩ (many+1:Nat) tx thread 1 many (-1) (-1) 1,C9];repeat' (first
  |exact trivial
  |exact hv
  |exact hw
  |exact hi
  |exact hroom
  |exact eqS _
  |exact rfl
  |exact fun _ _=>rfl
  |(intro q;exact (ho q).elim)
  |(intro q;exact (hq q).elim)
  |(intro q;replace q:=NW q;first|(exfalso;omega) |skip)
  |(intro q;replace q:=eqF q;first|(exfalso;omega) |skip)
  |intro _
  |refine bY ?_ ?_)
end
open Go Go.Sx Go.Cc
def aqs(H:Mem):Option Nat->Value->Prop
 |none,v=>v=.nilIface |some k,v=>Rep H (.er k 329) v
theorem acD{H:Mem}{E:Env}{x:Option Nat}{v:Value}(h:Den H E (svE x) v):aqs H x v:=by
 cases x with
 |none=>exact h |some k=>exact h
def Ro(L:Lay)(k:Nat):Nat->Prop:=fun b=>∃t,L.blk k t=ay b
def PZ(H:Mem)(w:World)(n:Nat)(o:Nat->Oj)(σ:Au)(L:Lay)(x:Option Nat)(σ':Au)(en:Ending)(w':World):Prop:=
 ∃v H' L',en=.returned v/\aqs H' x v/\DN H' w' n (Az o) σ' L'/\L'.p=L.p/\(∀t b,L'.blk σ'.rs.length t=ay b->w.heap.size<=b\/Ro L σ.rs.length b)/\H.le H'/\Es ⟨w,Ro L σ.rs.length,H⟩ H' w'
theorem Uc{w w':World}{H H':Mem}{own own':Nat->Prop}(h:Es ⟨w,own,H⟩ H' w')(ho:∀b,own b->own' b):Es ⟨w,own',H⟩ H' w':=
 ⟨h.os,h.tape,h.output,h.size,fun b hb hn=>h.kept b hb fun q=>hn (ho b q),h.on,h.le,fun b hb=>by
  rcases h.fresh b hb with q|q|q
  ·exact .inl q
  ·exact .inr (.inl q)
  ·exact .inr (.inr (ho b q))⟩
def YK(e:Ev):Value:=.agg #[.int .i64 e.kind,.int .i64 e.tx,.int .i64 e.thread,.int .i64 e.obj,.int .i64 e.op,.int .i64 e.key,.int .i64 e.val,.int .i64 e.ret]
@[irreducible] def alj (H:Mem) (E:Env) (l:List SV) (vs:List Value):Prop:=AV H E l vs
theorem ah2{H:Mem}{E:Env}{l:List SV}{vs:List Value}:alj H E l vs=AV H E l vs:=by unfold alj;rfl
theorem Tz{P:Program}{C:Ctx}{H:Mem}{E:Env}{w:World}(hC:BL P C)(hF:Cb P C){n g:Nat}{fn:Func}{c:Core}{args:Array Value}{ts:List Rw}{φ:SV->Nat->Prop}(hfn:C.fns.get g=ay fn)(hb:fn.body.isSome=aF)
  (hd:alj H E c.tm (args++dY (fn.ntmps - args.size) undef).toList) (hh:AZ ⟨w,LU E c.hp,H⟩ H E w c.hp) (hon:H.on w) (hfree:Free E c) (hg:Dt C.gls H)
  (h:EZ (Gz ts φ) ((run C n aF g [.code []] c).bind (toEnd ts))) :
  Calls P g args w fun e w'=>∃v sv k t H' E1 E',e=.returned v/\φ sv k/\ts[k]?=ay t/\Den H' E1 sv v/\AZ ⟨w,LU E c.hp,H⟩ H' E' w' t.hp/\Es ⟨w,LU E c.hp,H⟩ H' w'/\H.le H'/\∀i∈t.keep,∀u,E i=ay u->E' i=ay u:=by
 rw[ah2] at hd;exact aje hC hF hfn hb hd hh hon hfree hg h
theorem aqt(a b u:Value)(k:Nat):(#[a,b]++dY k u).toList=[a,b]++dU k u:=by simp
theorem afK{H:Mem}{E:Env}{L:Lay}{e:Ev}{kind:Int}{hp:List (Nat×SB)}(hk:e.kind=kind)(h0:E 0=ay (DW L.p)):alj H E (LA kind e hp).tm (#[DW L.p,YK e]++dY (jo.ntmps - #[DW L.p,YK e].size) undef).toList:=by
 have hn:jo.ntmps=168:=by kernel_rfl
 rw[ah2,hn,aqt];have e1:(LA kind e hp).tm=[.ptr 0 0,evS kind e]++dU 166 .any:=rfl;have e3:168 - #[DW L.p,YK e].size=166:=rfl;rw[e1,e3];refine AV.append ⟨⟨L.p,by rw[h0];rfl,rfl⟩,⟨_,rfl,⟨by rw[<-hk];rfl,rfl,rfl,rfl,rfl,rfl,rfl,rfl,trivial⟩⟩,trivial⟩ (AV.any _ _ ?_);rw[List.length_replicate]
theorem VB{L:Lay}{i:Option Nat}{c:Core}(h:c.nx=7):Free (I4 L i) c:=fun id h1 _=>by
 rw[h] at h1;match id,h1 with
 |id+7,_=>rfl
section
variable{H:Mem}{w:World}{n:Nat}{o:Nat->Oj}{σ:Au}{L:Lay}{e:Ev}
theorem KP(hA:DN H w n (Az o) σ L)(hon:H.on w)(hg:Dt (F9 W5) H){i:Nat}{r:Rc}(hi:σ.rs[i]?=ay r)(hby:σ.Ko e.tx=ay i){kind:Int}(hk:e.kind=kind){ts:List Rw}{φ:SV->Nat->Prop}
  (hrun:EZ (Gz ts φ) ((run (C5 Aw W5 Dc A8) 700 aF 79 [.code []] (LA kind e (hpA n σ.rs.length o σ.many (He L.R) (Ji σ L) (I9 σ L) [(e.tx,aF,.ptr 4 0)] []++FZ r))).bind (toEnd ts)))
  {x:Option Nat} {many':Nat} {r':Rc} (hid:r'.id=r.id)
  (hts:∀sv k t,φ sv k->ts[k]?=ay t->sv=svE x/\∃us,t=EO n σ.rs.length o (He L.R) (Ji σ L) (I9 σ L) e many' r' us/\ahZ σ ⟨many',σ.rs.set i r'⟩ us) :
  Calls aB 79 #[DW L.p,YK e] w (PZ H w n o σ L x ⟨many',σ.rs.set i r'⟩):=by
 have hown:=aqn (f1:=[(e.tx,aF,.ptr 4 0)]) (f2:=[]) hA hi;have acE:=amw (own:=LU (I4 L (ay i)) (Kq n o σ L [(e.tx,aF,.ptr 4 0)] []++FZ r)) hA hi (fun t b h1 h2=>(hown b).2 ⟨t,h1,h2⟩) (f1:=[(e.tx,aF,.ptr 4 0)]) (f2:=[]) (v1:=[(e.tx,ay (DW (L.R i)))]) (v2:=[])
  ⟨rfl,⟨⟨L.R i,rfl,rfl⟩,rfl⟩,trivial⟩ trivial (fun k u hm=>by
   simp at hm;obtain ⟨rfl,rfl⟩:=hm;simp[Ji,hby]) (fun k u hm=>by simp at hm)
 have hd:=afK (H:=H) (E:=I4 L (ay i)) (L:=L) (hp:=hpA n σ.rs.length o σ.many (He L.R) (Ji σ L) (I9 σ L) [(e.tx,aF,.ptr 4 0)] []++FZ r) hk rfl;refine (Tz (args:=#[DW L.p,YK e]) (fn:=jo) (c:=LA kind e (hpA n σ.rs.length o σ.many (He L.R) (Ji σ L) (I9 σ L) [(e.tx,aF,.ptr 4 0)] []++FZ r)) (ku _ _) (ajX _) (by kernel_rfl) (by kernel_rfl) hd acE hon (VB rfl) hg hrun).mono fun en w' ⟨v,sv,k,t,H',E1,E',h1,h2,h3,h4,h5,h6,h7,h8⟩=>?_;obtain ⟨hsv,us,rfl,hus⟩:=hts sv k t h2 h3;subst hsv;obtain ⟨L',a1,a2,a3⟩:=ajZ hA hi hown h5 h6 h7 (h8 0 (by simp[EO,toR]) _ rfl) (h8 4 (by simp[EO,toR]) _ rfl)
  (fun k=>MO hi (by simp[hid])) hus
 exact ⟨v,H',L',h1,acD h4,a1,a2,a3,h7,Uc h6 fun b hb=>by
  obtain ⟨t,_,q⟩:=(hown b).1 hb;exact ⟨t,q⟩⟩
theorem acF(hA:DN H w n (Az o) σ L)(hon:H.on w)(hg:Dt (F9 W5) H)(hby:σ.Ko e.tx=aN){kind:Int}(hk:e.kind=kind){f2:List (Int×Bool×SV)}{v2:List (Int×Option Value)}(d2:GR H (I4 L aN) f2 v2)(m2:∀k u,(k,u)∈v2->I9 σ L k=u){x:Option Nat}
  (hrun:EZ (Gz [toN n σ.rs.length o σ.many (He L.R) (Ji σ L) (I9 σ L) [(e.tx,aA,.any)] f2] (fun sv k=>sv=svE x/\k=0)) ((run (C5 Aw W5 Dc A8) 700 aF 79 [.code []] (LA kind e (hpA n σ.rs.length o σ.many (He L.R) (Ji σ L) (I9 σ L) [(e.tx,aA,.any)] f2))).bind (toEnd [toN n σ.rs.length o σ.many (He L.R) (Ji σ L) (I9 σ L) [(e.tx,aA,.any)] f2]))) :
  Calls aB 79 #[DW L.p,YK e] w (PZ H w n o σ L x σ):=by
 have hown:=aev (n:=n) (o:=o) (σ:=σ) (L:=L) (f1:=[(e.tx,aA,.any)]) (f2:=f2);have acE:=acC (own:=LU (I4 L aN) (Kq n o σ L [(e.tx,aA,.any)] f2)) hA (fun t b h1 h2=>(hown b).2 ⟨t,h1,h2⟩) (f1:=[(e.tx,aA,.any)]) (f2:=f2) (v1:=[(e.tx,aN)]) (v2:=v2)
  ⟨rfl,trivial,trivial⟩ d2 (fun k u hm=>by
   simp at hm;obtain ⟨rfl,rfl⟩:=hm;simp[Ji,hby]) m2
 have hd:=afK (H:=H) (E:=I4 L aN) (L:=L) (hp:=hpA n σ.rs.length o σ.many (He L.R) (Ji σ L) (I9 σ L) [(e.tx,aA,.any)] f2) hk rfl;refine (Tz (args:=#[DW L.p,YK e]) (fn:=jo) (c:=LA kind e (hpA n σ.rs.length o σ.many (He L.R) (Ji σ L) (I9 σ L) [(e.tx,aA,.any)] f2)) (ku _ _) (ajX _) (by kernel_rfl) (by kernel_rfl) hd acE hon (VB rfl) hg hrun).mono fun en w' ⟨v,sv,k,t,H',E1,E',h1,h2,h3,h4,h5,h6,h7,h8⟩=>?_;obtain ⟨rfl,rfl⟩:=h2;cases h3;obtain ⟨L',a1,a2,a3⟩:=ah0 hA hown h5 h6 h7 (h8 0 (by simp[toN]) _ rfl);exact ⟨v,H',L',h1,acD h4,a1,a2,a3,h7,Uc h6 fun b hb=>by
  obtain ⟨t,_,q⟩:=(hown b).1 hb;exact ⟨t,q⟩⟩
theorem amF(hA:DN H w n (Az o) σ L)(hon:H.on w)(hg:Dt (F9 W5) H)(hm:σ.many<400)(hl:σ.rs.length<=1000)(hby:σ.Ko e.tx=aN)(hbu:σ.Kw e.thread=aN)(hk:e.kind=1)(hv:CS e=aF):
  Calls aB 79 #[DW L.p,YK e] w (PZ H w n o σ L aN ⟨σ.many+1,σ.rs++[⟨e.tx,e.thread,1,σ.many,-1,-1,[],1⟩]⟩):=by
 have hown:=aev (n:=n) (o:=o) (σ:=σ) (L:=L) (f1:=[(e.tx,aA,.any)]) (f2:=[(e.thread,aA,.any)]);have acE:=acC (own:=LU (I4 L aN) (Kq n o σ L [(e.tx,aA,.any)] [(e.thread,aA,.any)])) hA (fun t b h1 h2=>(hown b).2 ⟨t,h1,h2⟩) (f1:=[(e.tx,aA,.any)]) (f2:=[(e.thread,aA,.any)]) (v1:=[(e.tx,aN)]) (v2:=[(e.thread,aN)])
  ⟨rfl,trivial,trivial⟩ ⟨rfl,trivial,trivial⟩ (fun k u hm=>by
   simp at hm;obtain ⟨rfl,rfl⟩:=hm;simp[Ji,hby]) (fun k u hm=>by
   simp at hm;obtain ⟨rfl,rfl⟩:=hm;simp[I9,hbu])
 have hd:=afK (H:=H) (E:=I4 L aN) (L:=L) (hp:=hpA n σ.rs.length o σ.many (He L.R) (Ji σ L) (I9 σ L) [(e.tx,aA,.any)] [(e.thread,aA,.any)]) hk rfl;refine (Tz (args:=#[DW L.p,YK e]) (fn:=jo) (c:=LA 1 e (hpA n σ.rs.length o σ.many (He L.R) (Ji σ L) (I9 σ L) [(e.tx,aA,.any)] [(e.thread,aA,.any)])) (ku _ _) (ajX _) (by kernel_rfl) (by kernel_rfl) hd acE hon (VB rfl) hg (aqr hm hl hk hv)).mono fun en w' ⟨v,sv,k,t,H',E1,E',h1,h2,h3,h4,h5,h6,h7,h8⟩=>?_;obtain ⟨rfl,rfl⟩:=h2;cases h3;obtain ⟨L',a1,a2,a3⟩:=aj0 (r:=⟨e.tx,e.thread,1,σ.many,-1,-1,[],1⟩) hA hown rfl h5 h6 h7 (h8 0 (by simp[toB]) _ rfl)
  (fun k=>by
   show (σ.rs++[_]).findIdx? _=_;rw[O6];by_cases q:k=e.tx
   ·subst q
    rw[if_pos rfl,show σ.rs.findIdx? (fun r=>r.id==e.tx)=aN from hby];simp
   ·rw[if_neg q]
    unfold Au.Ko;cases σ.rs.findIdx? fun r=>r.id==k with
    |some j=>rfl |none=>simp;exact fun h=>(q h.symm).elim)
  (fun k=>by
   show (σ.rs++[_]).findIdx? _=_;rw[O6];by_cases q:k=e.thread
   ·subst q
    rw[if_pos rfl,show σ.rs.findIdx? (fun r=>r.th==e.thread&&r.live)=aN from hbu];simp[Rc.live]
   ·rw[if_neg q]
    unfold Au.Kw;cases σ.rs.findIdx? fun r=>r.th==k&&r.live with
    |some j=>rfl |none=>simp;exact fun h=>(q h.symm).elim)
 exact ⟨v,H',L',h1,acD h4,a1,a2,a3,h7,Uc h6 fun b hb=>by
  obtain ⟨t,_,q⟩:=(hown b).1 hb;exact ⟨t,q⟩⟩
end
end Go.AQ
namespace Go.Cc
open Go Go.Sx
theorem Ud{α:Type}{l:List α}{i:Nat}{x:α}(h:l[i]?=ay x):l.set i x=l:=by
 apply lM;intro j;rw[lG];by_cases q:i=j
 ·subst q
  rw[if_pos rfl,if_pos (aQ.1 h).1,h]
 ·rw[if_neg q]
theorem Nj(many:Nat)(e:Ev)(r:Rc):(Rc.out many e r).2.2.id=r.id:=by
 unfold Rc.out;cases h:Rc.step many e r with
 |inl k=>rfl |inr r'=>exact (NY h).1
theorem aj1{σ:Au}{e:Ev}{i:Nat}{r:Rc}(hi:σ.rs[i]?=ay r)(hby:σ.Ko e.tx=ay i)(hk:¬e.kind=1):σ.feed e=((Rc.out σ.many e r).1,⟨(Rc.out σ.many e r).2.1,σ.rs.set i (Rc.out σ.many e r).2.2⟩):=by
 have h1:(e.kind==1)=aA:=by simpa using hk
 have hr:σ.rs.getD i ⟨0,0,0,0,0,0,[],0⟩=r:=by rw[aX,hi];rfl
 unfold Au.feed;rw[hby];simp only[h1,cond_false,hr];unfold Rc.out;cases h:Rc.step σ.many e r with
 |inl k=>simp only[Ud hi] |inr r'=>rfl
theorem ZH{e:Ev}(h:CS e=aF):1<=e.kind/\e.kind<=7:=by
 unfold CS at h;simp only[aJ] at h;have:=of_decide_eq_true h.1.1;exact this.1
end Go.Cc
namespace Go.AQ
open Go Go.Sx Go.Cc
theorem TA{σ:Au}{i:Nat}{r:Rc}{e:Ev}(hi:σ.rs[i]?=ay r)(hs:1<=r.stand/\r.stand<=5)(hk:2<=e.kind/\e.kind<=7)(hn:¬(e.kind=5\/e.kind=6)\/(Rc.out σ.many e r).1.isNone=aA):ahZ σ ⟨(Rc.out σ.many e r).2.1,σ.rs.set i (Rc.out σ.many e r).2.2⟩ []:=by
 refine .inl ⟨rfl,fun k=>?_⟩;unfold Rc.out at hn ⊢;cases h:Rc.step σ.many e r with
 |inl x=>simp only[Ud hi] |inr r'=>
  rw[h] at hn;have hn:¬(e.kind=5\/e.kind=6):=by simpa using hn
  obtain ⟨l1,l2,l3⟩:=VA h hk hs;exact MO hi (by rw[(NY h).2,l1,l3.2 hn])
theorem aso{σ:Au}(hI:σ.OK){i:Nat}{r:Rc}{e:Ev}(hi:σ.rs[i]?=ay r)(hk:e.kind=5\/e.kind=6)(hn:(Rc.out σ.many e r).1.isNone=aF):ahZ σ ⟨(Rc.out σ.many e r).2.1,σ.rs.set i (Rc.out σ.many e r).2.2⟩ [(r.th,aA,.any)]:=by
 refine .inr ⟨r.th,.any,rfl,fun k=>?_⟩;unfold Rc.out at hn ⊢;cases h:Rc.step σ.many e r with
 |inl x=>rw[h] at hn;cases hn |inr r'=>
  obtain ⟨l1,l2,l3⟩:=VA h (by omega) (hI.stands i r hi);have hl:r'.live=aA:=by
   cases q:r'.live with
   |false=>rfl |true=>exact (l3.1 q hk).elim
  have ht:=(NY h).2;have hlt:=(aQ.1 hi).1;by_cases q:k=r.th
  ·rw[if_pos q]
   subst q;refine ah1 fun j y hj=>?_
   rw[lG] at hj;by_cases e1:i=j
   ·rw[if_pos e1,if_pos (by omega)] at hj
    cases hj;rw[hl,Bool.and_false]
   ·rw[if_neg e1] at hj
    cases h1:(y.th==r.th&&y.live) with
    |false=>rfl |true=>
     simp only[aJ,beq_iff_eq] at h1;exact (e1 (hI.one i j r y hi hj h1.1.symm l1 h1.2)).elim
  ·rw[if_neg q]
   refine MO hi ?_;rw[ht];have:(r.th==k)=aA:=by simpa using fun h:r.th=k=>q h.symm
   rw[this];rfl
section
variable{H:Mem}{w:World}{n:Nat}{o:Nat->Oj}{σ:Au}{L:Lay}{e:Ev}
theorem ts1{t0 t:Rw}{k:Nat}(h:[t0][k]?=ay t)(hk:k=0):t=t0:=by
 subst hk;cases h;rfl
theorem aqv(hA:DN H w n (Az o) σ L)(hI:σ.OK)(hon:H.on w)(hg:Dt (F9 W5) H)(hm:σ.many<400)(hv:CS e=aF)(hob:e.kind=2->0<=e.obj/\e.obj<n/\D6 e.op=(o e.obj.toNat).kind):
  Calls aB 79 #[DW L.p,YK e] w (PZ H w n o σ L (σ.feed e).1 (σ.feed e).2):=by
 have hkd:=ZH hv;have hlen:=hI.len;cases hby:σ.Ko e.tx with
 |some i=>
  obtain ⟨r,hi,hp⟩:=Ox hby
  have hdl:=hI.dl i r hi;by_cases k1:e.kind=1
  ·have e1:σ.feed e=(ay 9,σ):=by
    unfold Au.feed;rw[hby];simp only[k1];rfl
   rw[e1];have:=KP hA hon hg hi hby k1 (aqp (n:=n) (o:=o) hm k1 hv r) (x:=ay 9) (many':=σ.many) (r':=r) rfl fun sv k t h1 h2=>⟨h1.1,[],ts1 h2 h1.2,.inl ⟨rfl,fun k=>by rw[Ud hi]⟩⟩;rw[Ud hi] at this;exact this
  ·rw[aj1 hi hby k1]
   have hst:=hI.stands i r hi;by_cases k2:e.kind=2
   ·obtain ⟨h1,h2,h3⟩:=hob k2
    exact KP hA hon hg hi hby k2 (aqi hm k2 hv r (by omega) h1 h2 h3) (Nj _ _ _) fun sv k t h1 h2=>⟨h1.1,[],ts1 h2 h1.2,TA hi hst (by omega) (.inl (by omega))⟩
   by_cases k3:e.kind=3
   ·exact KP hA hon hg hi hby k3 (aqj hm k3 hv r (by omega) (hI.deed i r hi)) (Nj _ _ _) fun sv k t h1 h2=>⟨h1.1,[],ts1 h2 h1.2,TA hi hst (by omega) (.inl (by omega))⟩
   by_cases k4:e.kind=4
   ·exact KP hA hon hg hi hby k4 (aqe hm k4 hv r) (Nj _ _ _) fun sv k t h1 h2=>⟨h1.1,[],ts1 h2 h1.2,TA hi hst (by omega) (.inl (by omega))⟩
   by_cases k7:e.kind=7
   ·exact KP hA hon hg hi hby k7 (aqf hm k7 hv r) (Nj _ _ _) fun sv k t h1 h2=>⟨h1.1,[],ts1 h2 h1.2,TA hi hst (by omega) (.inl (by omega))⟩
   have fin:∀(sv:SV) (k:Nat) (t:Rw),(sv=svE (Rc.out σ.many e r).1/\k=bif (Rc.out σ.many e r).1.isNone then 1 else 0)->
     [EO n σ.rs.length o (He L.R) (Ji σ L) (I9 σ L) e (Rc.out σ.many e r).2.1 (Rc.out σ.many e r).2.2 [],EO n σ.rs.length o (He L.R) (Ji σ L) (I9 σ L) e (Rc.out σ.many e r).2.1 (Rc.out σ.many e r).2.2 [(r.th,aA,.any)]][k]?=ay t->
     sv=svE (Rc.out σ.many e r).1/\∃us,t=EO n σ.rs.length o (He L.R) (Ji σ L) (I9 σ L) e (Rc.out σ.many e r).2.1 (Rc.out σ.many e r).2.2 us/\ahZ σ ⟨(Rc.out σ.many e r).2.1,σ.rs.set i (Rc.out σ.many e r).2.2⟩ us:=fun sv k t h1 h2=>by
    obtain ⟨a,rfl⟩:=h1;refine ⟨a,?_⟩;cases hn:(Rc.out σ.many e r).1.isNone with
    |true=>
     rw[hn] at h2;cases h2;exact ⟨_,rfl,aso hI hi (by omega) hn⟩
    |false=>
     rw[hn] at h2;cases h2;exact ⟨_,rfl,TA hi hst (by omega) (.inr hn)⟩
   by_cases k5:e.kind=5
   ·exact KP hA hon hg hi hby k5 (aqg hm k5 hv r) (Nj _ _ _) fin
   have k6:e.kind=6:=by omega
   exact KP hA hon hg hi hby k6 (aqh hm k6 hv r) (Nj _ _ _) fin
 |none=>
  by_cases k1:e.kind=1
  ·have hb:(e.kind==1)=aF:=by simpa using k1
   cases hbu:σ.Kw e.thread with
   |some j=>
    have e1:σ.feed e=(ay 10,σ):=by
     unfold Au.feed;rw[hby];simp only[hb,cond_true,hbu]
    rw[e1];exact acF hA hon hg hby k1 (f2:=[(e.thread,aF,.val (.pointer (ay ⟨L.R j,0,aN⟩)))]) (v2:=[(e.thread,ay (DW (L.R j)))]) ⟨rfl,⟨⟨rfl,rfl⟩,rfl⟩,trivial⟩ (fun k u hm=>by
     simp at hm;obtain ⟨rfl,rfl⟩:=hm;simp[I9,hbu]) (asn hm k1 hv (L.R j))
   |none=>
    have e1:σ.feed e=(aN,⟨σ.many+1,σ.rs++[⟨e.tx,e.thread,1,σ.many,-1,-1,[],1⟩]⟩):=by
     unfold Au.feed;rw[hby];simp only[hb,cond_true,hbu]
    rw[e1];exact amF hA hon hg hm (by omega) hby hbu k1 hv
  ·have hb:(e.kind==1)=aA:=by simpa using k1
   have e1:σ.feed e=(ay 11,σ):=by
    unfold Au.feed;rw[hby];simp only[hb,cond_false]
   rw[e1];have go:∀kd:Int,e.kind=kd->EZ (Gz [toN n σ.rs.length o σ.many (He L.R) (Ji σ L) (I9 σ L) [(e.tx,aA,.any)] []] (fun sv k=>sv=svE (ay 11)/\k=0)) ((run (C5 Aw W5 Dc A8) 700 aF 79 [.code []] (LA kd e (hpA n σ.rs.length o σ.many (He L.R) (Ji σ L) (I9 σ L) [(e.tx,aA,.any)] []))).bind (toEnd [toN n σ.rs.length o σ.many (He L.R) (Ji σ L) (I9 σ L) [(e.tx,aA,.any)] []]))->
     Calls aB 79 #[DW L.p,YK e] w (PZ H w n o σ L (ay 11) σ):=fun kd hk hr=>acF hA hon hg hby hk (f2:=[]) (v2:=[]) trivial (fun k u hm=>by simp at hm) hr
   by_cases k2:e.kind=2
   ·obtain ⟨h1,h2,h3⟩:=hob k2
    exact go 2 k2 (amy hm h1 h2 h3 k2 hv)
   by_cases k3:e.kind=3
   ·exact go 3 k3 (amA hm k3 hv)
   by_cases k4:e.kind=4
   ·exact go 4 k4 (amB hm k4 hv)
   by_cases k5:e.kind=5
   ·exact go 5 k5 (amC hm k5 hv)
   by_cases k6:e.kind=6
   ·exact go 6 k6 (amD hm k6 hv)
   have k7:e.kind=7:=by omega
   exact go 7 k7 (amE hm k7 hv)
end
end Go.AQ
