/- Own work. -/
import Derived.Test.YthehnhaoiijkhaaGreatDoorM12
open Int (ofNat)
open And renaming intro->bW
open Array renaming getElem?_eq_some_iff->bG,replicate->dX
open Bool renaming true->aC,false->ak,and_eq_true->aH,or_false->kE
open Go.Proofs.Tryz renaming prog->aB,f128->oD,f79->jh
open Go.Ad.C5 renaming ok->jU
open Go.Sx.Bh renaming int->aj,nat->aJ,get->aS,mp->bQ,Le->bC,val->kQ
open Go.Sx.SV renaming sh->dL,DK->fQ
open Go.Sx.Sh renaming er->aZ,i->aW
open Go.Sx.Tree renaming node->aF,leaf->aA,need->aI,must->aQ
open Go.Value renaming pointer->gB
open Iff renaming rfl->yX
open Int renaming ofNat->ah,negSucc->fF,ofNat_eq_natCast->fP
open List renaming replicate->dR,range->aX,getElem?_eq_getElem->aV,getElem?_eq_some_iff->aU,flatMap_cons->oz,getElem?_append_left->dI,getD_eq_getElem?_getD->aY,ext_getElem?->lC,getElem?_eq_none->jS,getElem?_set->kY,findIdx?_cons->jD
open Option renaming some->ay,none->aK,bind_some->eU
open Option.some renaming inj->dD
namespace Go.BF
open Go Go.Sx
def Ov(x y:Int):Bool:=
 bif x==2 then y==1 else bif x==3 then y==1 else bif x==5 then y==1 else bif x==7 then y==1 else bif x==1 then y==3 else bif x==4 then y==3 else
 bif x==6 then (bif y==2 then aC else y==3) else bif x==8 then (bif y==2 then aC else y==3) else bif x==9 then (bif y==2 then aC else y==3) else ak
end Go.BF
namespace Go.Ad
open Go Go.Sx Go.BF
theorem alI{ψ:Bool->Prop}{b x y:Bool}(h:ψ (bif b then x else y)):(b=aC->ψ x)/\(b=ak->ψ y):=by
 cases b
 ·exact ⟨fun q=>(by cases q),fun _=>h⟩
 ·exact ⟨fun _=>h,fun q=>by cases q⟩
def F67:List Sh->Tree Sh
 |[s,t]=>match AZ s with
  |some x=>match AZ t with
   |some y=>.leaf (.b (Ov x y)) |none=>.fail
  |none=>.fail
 |_=>.fail
theorem O67:Aq aB (Fv W5) 128 F67:=by
 refine Hu (C:=C5 zV W5 noSpec Ak) (jU _ _) (MZ _) (n:=300) (L:=L0) (fn:=oD) (by kernel_rfl) (by kernel_rfl) fun H w AX args φ hrep h=>?_
 have hn:oD.ntmps=36:=by kernel_rfl
 unfold F67 at h;split at h
 ·rename_i s t
  split at h
  ·rename_i x hx
   split at h
   ·rename_i y hy
    match args,hrep with
    |[u,v],⟨hu,hv,_⟩=>
     refine ⟨[.i .i64 x,.i .i64 y],⟨Ei hx hu,Ei hy hv,trivial⟩,?_⟩;rw[hn,a67 zV W5 x y,BK];have h:φ (.b (Ov x y)):=h;have r:∀{b:Bool} {c d:Bool},φ (.b (bif b then c else d))->(b=aC->φ (.b c))/\(b=ak->φ (.b d)):=fun h=>alI (ψ:=fun b=>φ (.b b)) h;rw[<-BK];have h1:=r h;refine ⟨h1.1,fun q=>?_⟩;have h1:=r (h1.2 q);refine ⟨h1.1,fun q=>?_⟩;have h1:=r (h1.2 q);refine ⟨h1.1,fun q=>?_⟩;have h1:=r (h1.2 q);refine ⟨h1.1,fun q=>?_⟩;have h1:=r (h1.2 q);refine ⟨h1.1,fun q=>?_⟩;have h1:=r (h1.2 q);refine ⟨h1.1,fun q=>?_⟩;have h1:=r (h1.2 q);refine ⟨fun q=>r (h1.1 q),fun q=>?_⟩;have h1:=r (h1.2 q);refine ⟨fun q=>r (h1.1 q),fun q=>?_⟩;have h1:=r (h1.2 q);exact ⟨fun q=>r (h1.1 q),h1.2⟩
   ·exact h.elim
  ·exact h.elim
 ·exact h.elim
end Go.Ad
namespace Go.BF
open Go Go.Sx
def tmO(n:Nat)(l:List (Nat×SV)):List SV:=l.foldl (fun t p=>t.set p.1 p.2) (dR n .any)
structure De where
 obj:Int
 op:Int
 key:Int
 val:Int
 ret:Int
 got:Int
 here:Int
 back:Int
 deriving DecidableEq,Inhabited
def deR(e:De):List Sh:=[.i .i64 e.obj,.i .i64 e.op,.i .i64 e.key,.i .i64 e.val,.i .i64 e.ret,.i .i64 e.got,.i .i64 e.here,.i .i64 e.back]
instance:Row De where
 put:=deR
 get l:=match l with
  |[.i .i64 a,.i .i64 b,.i .i64 c,.i .i64 d,.i .i64 e,.i .i64 f,.i .i64 g,.i .i64 h]=>ay ⟨a,b,c,d,e,f,g,h⟩ |_=>aK
 Dl l a h:=by
  split at h
  ·cases h;rfl
  ·cases h
 get_put a:=rfl
 Jk:=⟨0,0,0,0,0,0,0,0⟩
def BO(e:Ev):Bool:=Ou e&&fieldsB e&&CQ e.ret
end Go.BF
namespace Go.Ad
open Go Go.Sx Go.BF
def apr:List Sh->Tree Sh
 |[.agg l]=>match abK l with
  |some e=>.need (BO e) (.leaf (.v .nilIface)) |none=>.fail
 |_=>.fail
def Cc:Nat->Option (List Sh->Tree Sh)
 |101=>ay apr |102=>ay F57 |128=>ay F67 |_=>aK
def hpA(n m:Nat)(o:Nat->Oj)(many:Int)(gR:Nat->List Sh)(M1 M2:Int->Option Value)(f1 f2:List (Int×Bool×SV)):List (Nat×SB):=
 [(0,.box [.gs 6,.sym .i64 many,.gs 1,.mp 2,.mp 3] 181),(1,.own 182 1 m gR),(2,.fm .i64 M1 f1 [] aK),(3,.fm .i64 M2 f2 [] aK),(6,.own 140 2 n (zW o))]
def hpR(a b c d x y z:Int)(k:Nat)(gd:Nat->List Sh):List (Nat×SB):=
 [(4,.box [.sym .i64 a,.sym .i64 b,.sym .i64 c,.sym .i64 d,.sym .i64 x,.sym .i64 y,.gs 5,.sym .i64 z] 184),(5,.own 197 8 k gd)]
def evS(kind:Int)(e:Ev):SV:=.agg [.int .i64 kind,.sym .i64 e.tx,.sym .i64 e.thread,.sym .i64 e.obj,.sym .i64 e.op,.sym .i64 e.key,.sym .i64 e.val,.sym .i64 e.ret]
def LA(kind:Int)(e:Ev)(hp:List (Nat×SB)):Core:={tm:=tmO 168 [(0,.ptr 0 0),(1,evS kind e)],hp,nx:=7,lim:=L0,tc:=[]}
def toR(n m:Nat)(o:Nat->Oj)(gR:Nat->List Sh)(M1 M2:Int->Option Value)(e:Ev)(many' a' b' c' d' x' y' z':Int)(k':Nat)(gd':Nat->List Sh)(us:List (Int×Bool×SV)):QK:=
 ⟨[(0,.box [.gs 6,.sym .i64 many',.gs 1,.mp 2,.mp 3] 181),(1,.own 182 1 m gR),(2,.fm .i64 M1 [(e.tx,aC,.ptr 4 0)] [] aK),(3,.fm .i64 M2 [] us aK),(6,.own 140 2 n (zW o)),
  (4,.box [.sym .i64 a',.sym .i64 b',.sym .i64 c',.sym .i64 d',.sym .i64 x',.sym .i64 y',.gs 5,.sym .i64 z'] 184),(5,.own 197 8 k' gd')],[0,4]⟩
def toN(n m:Nat)(o:Nat->Oj)(many':Int)(gR:Nat->List Sh)(M1 M2:Int->Option Value)(f1 f2:List (Int×Bool×SV)):QK:=⟨hpA n m o many' gR M1 M2 f1 f2,[0]⟩
def toB(n m:Nat)(o:Nat->Oj)(gR:Nat->List Sh)(M1 M2:Int->Option Value)(e:Ev)(many' a' b' c' d' x' y' z':Int):QK:=
 ⟨[(0,.box [.gs 6,.sym .i64 many',.gs 1,.mp 2,.mp 3] 181),(6,.own 140 2 n (zW o)),(1,.Gx 182 1 m gR [.ptr 4 0]),(2,.fm .i64 M1 [(e.tx,ak,.any)] [(e.tx,aC,.ptr 4 0),(e.tx,aC,.any)] aK),(3,.fm .i64 M2 [(e.thread,ak,.any)] [(e.thread,aC,.ptr 4 0),(e.thread,aC,.any)] aK),
  (4,.box [.sym .i64 a',.sym .i64 b',.sym .i64 c',.sym .i64 d',.sym .i64 x',.sym .i64 y',.Aw,.sym .i64 z'] 184)],[0]⟩
theorem aps(A:Prim)(W:Wd)(n m:Nat)(o:Nat->Oj)(many:Int)(gR:Nat->List Sh)(M1 M2:Int->Option Value)(e:Ev)(a b c d x y z:Int)(k:Nat)(dd:Nat->De)(many' a' b' c' d' x' y' z':Int)(k':Nat)(gd':Nat->List Sh):(run (C5 A W Cc Ak) 700 aC 79 [.code []] (LA 2 e (hpA n m o many gR M1 M2 [(e.tx,aC,.ptr 4 0)] []++hpR a b c d x y z k (zW dd)))).bind (toEnd [toR n m o gR M1 M2 e many' a' b' c' d' x' y' z' k' gd' []])=aF (A.eq many (ah 400)) (aA (dL (aZ 6 329),0,[aj many many',aJ m m,aS m gR gR,bQ M1 M1,aj e.tx e.tx,bQ M2 M2,aJ n n,aS n (zW o) (zW o),aj a a',aj b b',aj c c',aj d d',aj x x',aj y y',aj z z',aJ k k',aS k (zW dd) gd'])) (aI (BO {kind:=ah 2,tx:=e.tx,thread:=e.thread,obj:=e.obj,op:=e.op,key:=e.key,val:=e.val,ret:=e.ret}) (aF (A.le (A.Az n) e.obj) (aA (dL (aZ 7 329),0,[aj many many',aJ m m,aS m gR gR,bQ M1 M1,aj e.tx e.tx,bQ M2 M2,aJ n n,aS n (zW o) (zW o),aj a a',aj b b',aj c c',aj d d',aj x x',aj y y',aj z z',aJ k k',aS k (zW dd) gd'])) (aI (A.inB e.obj n) (aF (A.nt (A.eq (Dy e.op) (o (A.toN e.obj)).kind)) (aA (dL (aZ 8 329),0,[aj many many',aJ m m,aS m gR gR,bQ M1 M1,aj e.tx e.tx,bQ M2 M2,aJ n n,aS n (zW o) (zW o),aj a a',aj b b',aj c c',aj d d',aj x x',aj y y',aj z z',aJ k k',aS k (zW dd) gd'])) (aI (A.eq e.tx e.tx) (aQ [aj e.tx e.tx,aj e.thread e.thread,aj e.obj e.obj,aj e.op e.op,aj e.key e.key,aj e.val e.val,aj e.ret e.ret,aj many many,aJ m m,bC gR gR,bQ M1 M1,aj e.tx e.tx,bQ M2 M2,aJ n n,bC (zW o) (zW o),aj a a,aj b b,aj c c,aj d d,aj x x,aj y y,aj z z,aJ k k,bC (zW dd) (zW dd),aj e.tx e.tx,aj e.thread e.thread,aj e.obj e.obj,aj e.op e.op,aj e.key e.key,aj e.val e.val,aj e.ret e.ret] (aQ [aj e.tx e.tx,aj e.thread e.thread,aj e.obj e.obj,aj e.op e.op,aj e.key e.key,aj e.val e.val,aj e.ret e.ret,aj many many,aJ m m,bC gR gR,bQ M1 M1,aj e.tx e.tx,bQ M2 M2,aJ n n,bC (zW o) (zW o),aj a a,aj b b,aj c c,aj d d,aj x x,aj y y,aj z z,aJ k k,bC (zW dd) (zW dd),aj e.tx e.tx,aj e.thread e.thread,aj e.obj e.obj,aj e.op e.op,aj e.key e.key,aj e.val e.val,aj e.ret e.ret] (aF (A.eq z (ah 1)) (aI (A.room (A.addN k 1) 64) (aI (A.room (A.addN k 1) 64) (aQ [aj e.tx e.tx,aj e.thread e.thread,aj e.obj e.obj,aj e.op e.op,aj e.key e.key,aj e.val e.val,aj e.ret e.ret,aj many many,aj many many,aJ m m,bC gR gR,bQ M1 M1,aj e.tx e.tx,bQ M2 M2,aJ n n,bC (zW o) (zW o),aj a a,aj b b,aj c c,aj d d,aj x x,aj y y,aj e.tx e.tx,aj e.thread e.thread,aj e.obj e.obj,aj e.op e.op,aj e.key e.key,aj e.val e.val,aj e.ret e.ret,aj e.tx e.tx,aj e.thread e.thread,aj e.obj e.obj,aj e.op e.op,aj e.key e.key,aj e.val e.val,aj e.ret e.ret,aj e.obj e.obj,aj e.op e.op,aj e.key e.key,aj e.val e.val,aj many many,aJ (A.addN k 1) (A.addN k 1),bC (A.snoc (zW dd) k (AQ [[aW .i64 e.obj,aW .i64 e.op,aW .i64 e.key,aW .i64 e.val,aW .i64 (ah 0),aW .i64 (ah 0),aW .i64 many,aW .i64 (fF 0)]])) (A.snoc (zW dd) k (AQ [[aW .i64 e.obj,aW .i64 e.op,aW .i64 e.key,aW .i64 e.val,aW .i64 (ah 0),aW .i64 (ah 0),aW .i64 many,aW .i64 (fF 0)]]))] (aA (fQ,0,[aj (A.add .i64 many (ah 1)) many',aJ m m,aS m gR gR,bQ M1 M1,aj e.tx e.tx,bQ M2 M2,aJ n n,aS n (zW o) (zW o),aj a a',aj b b',aj c c',aj d d',aj x x',aj y y',aj (ah 2) z',aJ (A.addN k 1) k',aS (A.addN k 1) (A.snoc (zW dd) k (AQ [[aW .i64 e.obj,aW .i64 e.op,aW .i64 e.key,aW .i64 e.val,aW .i64 (ah 0),aW .i64 (ah 0),aW .i64 many,aW .i64 (fF 0)]])) gd']))))) (aA (dL (aZ 12 329),0,[aj many many',aJ m m,aS m gR gR,bQ M1 M1,aj e.tx e.tx,bQ M2 M2,aJ n n,aS n (zW o) (zW o),aj a a',aj b b',aj c c',aj d d',aj x x',aj y y',aj z z',aJ k k',aS k (zW dd) gd'])))))))))):=by kernel_rfl
theorem aut(A:Prim)(W:Wd)(n m:Nat)(o:Nat->Oj)(many:Int)(gR:Nat->List Sh)(M1 M2:Int->Option Value)(e:Ev)(many':Int):(run (C5 A W Cc Ak) 700 aC 79 [.code []] (LA 2 e (hpA n m o many gR M1 M2 [(e.tx,ak,.any)] []))).bind (toEnd [toN n m o many' gR M1 M2 [(e.tx,ak,.any)] []])=aF (A.eq many (ah 400)) (aA (dL (aZ 6 329),0,[aj many many',aJ m m,aS m gR gR,bQ M1 M1,aj e.tx e.tx,bQ M2 M2,aJ n n,aS n (zW o) (zW o)])) (aI (BO {kind:=ah 2,tx:=e.tx,thread:=e.thread,obj:=e.obj,op:=e.op,key:=e.key,val:=e.val,ret:=e.ret}) (aF (A.le (A.Az n) e.obj) (aA (dL (aZ 7 329),0,[aj many many',aJ m m,aS m gR gR,bQ M1 M1,aj e.tx e.tx,bQ M2 M2,aJ n n,aS n (zW o) (zW o)])) (aI (A.inB e.obj n) (aF (A.nt (A.eq (Dy e.op) (o (A.toN e.obj)).kind)) (aA (dL (aZ 8 329),0,[aj many many',aJ m m,aS m gR gR,bQ M1 M1,aj e.tx e.tx,bQ M2 M2,aJ n n,aS n (zW o) (zW o)])) (aI (A.eq e.tx e.tx) (aA (dL (aZ 11 329),0,[aj many many',aJ m m,aS m gR gR,bQ M1 M1,aj e.tx e.tx,bQ M2 M2,aJ n n,aS n (zW o) (zW o)]))))))):=by kernel_rfl
theorem ajc(A:Prim)(W:Wd)(n m:Nat)(o:Nat->Oj)(many:Int)(gR:Nat->List Sh)(M1 M2:Int->Option Value)(e:Ev)(a b c d x y z:Int)(k:Nat)(dd:Nat->De)(many' a' b' c' d' x' y' z':Int)(k':Nat)(gd':Nat->List Sh):(run (C5 A W Cc Ak) 700 aC 79 [.code []] (LA 3 e (hpA n m o many gR M1 M2 [(e.tx,aC,.ptr 4 0)] []++hpR a b c d x y z k (zW dd)))).bind (toEnd [toR n m o gR M1 M2 e many' a' b' c' d' x' y' z' k' gd' []])=aF (A.eq many (ah 400)) (aA (dL (aZ 6 329),0,[aj many many',aJ m m,aS m gR gR,bQ M1 M1,aj e.tx e.tx,bQ M2 M2,aJ n n,aS n (zW o) (zW o),aj a a',aj b b',aj c c',aj d d',aj x x',aj y y',aj z z',aJ k k',aS k (zW dd) gd'])) (aI (BO {kind:=ah 3,tx:=e.tx,thread:=e.thread,obj:=e.obj,op:=e.op,key:=e.key,val:=e.val,ret:=e.ret}) (aI (A.eq e.tx e.tx) (aQ [aj e.tx e.tx,aj e.thread e.thread,aj e.obj e.obj,aj e.op e.op,aj e.key e.key,aj e.val e.val,aj e.ret e.ret,aj many many,aJ m m,bC gR gR,bQ M1 M1,aj e.tx e.tx,bQ M2 M2,aJ n n,bC (zW o) (zW o),aj a a,aj b b,aj c c,aj d d,aj x x,aj y y,aj z z,aJ k k,bC (zW dd) (zW dd),aj e.tx e.tx,aj e.thread e.thread,aj e.obj e.obj,aj e.op e.op,aj e.key e.key,aj e.val e.val,aj e.ret e.ret] (aQ [aj e.tx e.tx,aj e.thread e.thread,aj e.obj e.obj,aj e.op e.op,aj e.key e.key,aj e.val e.val,aj e.ret e.ret,aj many many,aJ m m,bC gR gR,bQ M1 M1,aj e.tx e.tx,bQ M2 M2,aJ n n,bC (zW o) (zW o),aj a a,aj b b,aj c c,aj d d,aj x x,aj y y,aj z z,aJ k k,bC (zW dd) (zW dd),aj e.tx e.tx,aj e.thread e.thread,aj e.obj e.obj,aj e.op e.op,aj e.key e.key,aj e.val e.val,aj e.ret e.ret] (aF (A.eq z (ah 2)) (aI (A.inB (A.sub .i64 (A.Az k) (ah 1)) k) (aF (A.nt (Ov (dd (A.toN (A.sub .i64 (A.Az k) (ah 1)))).op e.ret)) (aA (dL (aZ 13 329),0,[aj many many',aJ m m,aS m gR gR,bQ M1 M1,aj e.tx e.tx,bQ M2 M2,aJ n n,aS n (zW o) (zW o),aj a a',aj b b',aj c c',aj d d',aj x x',aj y y',aj z z',aJ k k',aS k (zW dd) gd'])) (aA (fQ,0,[aj (A.add .i64 many (ah 1)) many',aJ m m,aS m gR gR,bQ M1 M1,aj e.tx e.tx,bQ M2 M2,aJ n n,aS n (zW o) (zW o),aj a a',aj b b',aj c c',aj d d',aj x x',aj y y',aj (ah 1) z',aJ k k',aS k (A.upd (A.upd (A.upd (zW dd) (A.toN (A.sub .i64 (A.Az k) (ah 1))) 4 [aW .i64 e.ret]) (A.toN (A.sub .i64 (A.Az k) (ah 1))) 5 [aW .i64 e.val]) (A.toN (A.sub .i64 (A.Az k) (ah 1))) 7 [aW .i64 many]) gd'])))) (aA (dL (aZ 12 329),0,[aj many many',aJ m m,aS m gR gR,bQ M1 M1,aj e.tx e.tx,bQ M2 M2,aJ n n,aS n (zW o) (zW o),aj a a',aj b b',aj c c',aj d d',aj x x',aj y y',aj z z',aJ k k',aS k (zW dd) gd']))))))):=by kernel_rfl
theorem auu(A:Prim)(W:Wd)(n m:Nat)(o:Nat->Oj)(many:Int)(gR:Nat->List Sh)(M1 M2:Int->Option Value)(e:Ev)(many':Int):(run (C5 A W Cc Ak) 700 aC 79 [.code []] (LA 3 e (hpA n m o many gR M1 M2 [(e.tx,ak,.any)] []))).bind (toEnd [toN n m o many' gR M1 M2 [(e.tx,ak,.any)] []])=aF (A.eq many (ah 400)) (aA (dL (aZ 6 329),0,[aj many many',aJ m m,aS m gR gR,bQ M1 M1,aj e.tx e.tx,bQ M2 M2,aJ n n,aS n (zW o) (zW o)])) (aI (BO {kind:=ah 3,tx:=e.tx,thread:=e.thread,obj:=e.obj,op:=e.op,key:=e.key,val:=e.val,ret:=e.ret}) (aI (A.eq e.tx e.tx) (aA (dL (aZ 11 329),0,[aj many many',aJ m m,aS m gR gR,bQ M1 M1,aj e.tx e.tx,bQ M2 M2,aJ n n,aS n (zW o) (zW o)])))):=by kernel_rfl
theorem apt(A:Prim)(W:Wd)(n m:Nat)(o:Nat->Oj)(many:Int)(gR:Nat->List Sh)(M1 M2:Int->Option Value)(e:Ev)(a b c d x y z:Int)(k:Nat)(dd:Nat->De)(many' a' b' c' d' x' y' z':Int)(k':Nat)(gd':Nat->List Sh):(run (C5 A W Cc Ak) 700 aC 79 [.code []] (LA 4 e (hpA n m o many gR M1 M2 [(e.tx,aC,.ptr 4 0)] []++hpR a b c d x y z k (zW dd)))).bind (toEnd [toR n m o gR M1 M2 e many' a' b' c' d' x' y' z' k' gd' []])=aF (A.eq many (ah 400)) (aA (dL (aZ 6 329),0,[aj many many',aJ m m,aS m gR gR,bQ M1 M1,aj e.tx e.tx,bQ M2 M2,aJ n n,aS n (zW o) (zW o),aj a a',aj b b',aj c c',aj d d',aj x x',aj y y',aj z z',aJ k k',aS k (zW dd) gd'])) (aI (BO {kind:=ah 4,tx:=e.tx,thread:=e.thread,obj:=e.obj,op:=e.op,key:=e.key,val:=e.val,ret:=e.ret}) (aI (A.eq e.tx e.tx) (aQ [aj e.tx e.tx,aj e.thread e.thread,aj e.obj e.obj,aj e.op e.op,aj e.key e.key,aj e.val e.val,aj e.ret e.ret,aj many many,aJ m m,bC gR gR,bQ M1 M1,aj e.tx e.tx,bQ M2 M2,aJ n n,bC (zW o) (zW o),aj a a,aj b b,aj c c,aj d d,aj x x,aj y y,aj z z,aJ k k,bC (zW dd) (zW dd),aj e.tx e.tx,aj e.thread e.thread,aj e.obj e.obj,aj e.op e.op,aj e.key e.key,aj e.val e.val,aj e.ret e.ret] (aQ [aj e.tx e.tx,aj e.thread e.thread,aj e.obj e.obj,aj e.op e.op,aj e.key e.key,aj e.val e.val,aj e.ret e.ret,aj many many,aJ m m,bC gR gR,bQ M1 M1,aj e.tx e.tx,bQ M2 M2,aJ n n,bC (zW o) (zW o),aj a a,aj b b,aj c c,aj d d,aj x x,aj y y,aj z z,aJ k k,bC (zW dd) (zW dd),aj e.tx e.tx,aj e.thread e.thread,aj e.obj e.obj,aj e.op e.op,aj e.key e.key,aj e.val e.val,aj e.ret e.ret] (aF (A.eq z (ah 1)) (aA (fQ,0,[aj (A.add .i64 many (ah 1)) many',aJ m m,aS m gR gR,bQ M1 M1,aj e.tx e.tx,bQ M2 M2,aJ n n,aS n (zW o) (zW o),aj a a',aj b b',aj (ah 2) c',aj d d',aj x x',aj many y',aj (ah 3) z',aJ k k',aS k (zW dd) gd'])) (aA (dL (aZ 12 329),0,[aj many many',aJ m m,aS m gR gR,bQ M1 M1,aj e.tx e.tx,bQ M2 M2,aJ n n,aS n (zW o) (zW o),aj a a',aj b b',aj c c',aj d d',aj x x',aj y y',aj z z',aJ k k',aS k (zW dd) gd']))))))):=by kernel_rfl
theorem auv(A:Prim)(W:Wd)(n m:Nat)(o:Nat->Oj)(many:Int)(gR:Nat->List Sh)(M1 M2:Int->Option Value)(e:Ev)(many':Int):(run (C5 A W Cc Ak) 700 aC 79 [.code []] (LA 4 e (hpA n m o many gR M1 M2 [(e.tx,ak,.any)] []))).bind (toEnd [toN n m o many' gR M1 M2 [(e.tx,ak,.any)] []])=aF (A.eq many (ah 400)) (aA (dL (aZ 6 329),0,[aj many many',aJ m m,aS m gR gR,bQ M1 M1,aj e.tx e.tx,bQ M2 M2,aJ n n,aS n (zW o) (zW o)])) (aI (BO {kind:=ah 4,tx:=e.tx,thread:=e.thread,obj:=e.obj,op:=e.op,key:=e.key,val:=e.val,ret:=e.ret}) (aI (A.eq e.tx e.tx) (aA (dL (aZ 11 329),0,[aj many many',aJ m m,aS m gR gR,bQ M1 M1,aj e.tx e.tx,bQ M2 M2,aJ n n,aS n (zW o) (zW o)])))):=by kernel_rfl
theorem apu(A:Prim)(W:Wd)(n m:Nat)(o:Nat->Oj)(many:Int)(gR:Nat->List Sh)(M1 M2:Int->Option Value)(e:Ev)(a b c d x y z:Int)(k:Nat)(dd:Nat->De)(many' a' b' c' d' x' y' z':Int)(k':Nat)(gd':Nat->List Sh):(run (C5 A W Cc Ak) 700 aC 79 [.code []] (LA 5 e (hpA n m o many gR M1 M2 [(e.tx,aC,.ptr 4 0)] []++hpR a b c d x y z k (zW dd)))).bind (toEnd [toR n m o gR M1 M2 e many' a' b' c' d' x' y' z' k' gd' [],toR n m o gR M1 M2 e many' a' b' c' d' x' y' z' k' gd' [(b,ak,.any)]])=aF (A.eq many (ah 400)) (aA (dL (aZ 6 329),0,[aj many many',aJ m m,aS m gR gR,bQ M1 M1,aj e.tx e.tx,bQ M2 M2,aJ n n,aS n (zW o) (zW o),aj a a',aj b b',aj c c',aj d d',aj x x',aj y y',aj z z',aJ k k',aS k (zW dd) gd'])) (aI (BO {kind:=ah 5,tx:=e.tx,thread:=e.thread,obj:=e.obj,op:=e.op,key:=e.key,val:=e.val,ret:=e.ret}) (aI (A.eq e.tx e.tx) (aQ [aj e.tx e.tx,aj e.thread e.thread,aj e.obj e.obj,aj e.op e.op,aj e.key e.key,aj e.val e.val,aj e.ret e.ret,aj many many,aJ m m,bC gR gR,bQ M1 M1,aj e.tx e.tx,bQ M2 M2,aJ n n,bC (zW o) (zW o),aj a a,aj b b,aj c c,aj d d,aj x x,aj y y,aj z z,aJ k k,bC (zW dd) (zW dd),aj e.tx e.tx,aj e.thread e.thread,aj e.obj e.obj,aj e.op e.op,aj e.key e.key,aj e.val e.val,aj e.ret e.ret] (aQ [aj e.tx e.tx,aj e.thread e.thread,aj e.obj e.obj,aj e.op e.op,aj e.key e.key,aj e.val e.val,aj e.ret e.ret,aj many many,aJ m m,bC gR gR,bQ M1 M1,aj e.tx e.tx,bQ M2 M2,aJ n n,bC (zW o) (zW o),aj a a,aj b b,aj c c,aj d d,aj x x,aj y y,aj z z,aJ k k,bC (zW dd) (zW dd),aj e.tx e.tx,aj e.thread e.thread,aj e.obj e.obj,aj e.op e.op,aj e.key e.key,aj e.val e.val,aj e.ret e.ret] (aF (A.eq z (ah 3)) (aA (fQ,1,[aj (A.add .i64 many (ah 1)) many',aJ m m,aS m gR gR,bQ M1 M1,aj e.tx e.tx,bQ M2 M2,aj b b,aJ n n,aS n (zW o) (zW o),aj a a',aj b b',aj (ah 3) c',aj d d',aj many x',aj y y',aj (ah 5) z',aJ k k',aS k (zW dd) gd'])) (aA (dL (aZ 12 329),0,[aj many many',aJ m m,aS m gR gR,bQ M1 M1,aj e.tx e.tx,bQ M2 M2,aJ n n,aS n (zW o) (zW o),aj a a',aj b b',aj c c',aj d d',aj x x',aj y y',aj z z',aJ k k',aS k (zW dd) gd']))))))):=by kernel_rfl
theorem auw(A:Prim)(W:Wd)(n m:Nat)(o:Nat->Oj)(many:Int)(gR:Nat->List Sh)(M1 M2:Int->Option Value)(e:Ev)(many':Int):(run (C5 A W Cc Ak) 700 aC 79 [.code []] (LA 5 e (hpA n m o many gR M1 M2 [(e.tx,ak,.any)] []))).bind (toEnd [toN n m o many' gR M1 M2 [(e.tx,ak,.any)] []])=aF (A.eq many (ah 400)) (aA (dL (aZ 6 329),0,[aj many many',aJ m m,aS m gR gR,bQ M1 M1,aj e.tx e.tx,bQ M2 M2,aJ n n,aS n (zW o) (zW o)])) (aI (BO {kind:=ah 5,tx:=e.tx,thread:=e.thread,obj:=e.obj,op:=e.op,key:=e.key,val:=e.val,ret:=e.ret}) (aI (A.eq e.tx e.tx) (aA (dL (aZ 11 329),0,[aj many many',aJ m m,aS m gR gR,bQ M1 M1,aj e.tx e.tx,bQ M2 M2,aJ n n,aS n (zW o) (zW o)])))):=by kernel_rfl
theorem apv(A:Prim)(W:Wd)(n m:Nat)(o:Nat->Oj)(many:Int)(gR:Nat->List Sh)(M1 M2:Int->Option Value)(e:Ev)(a b c d x y z:Int)(k:Nat)(dd:Nat->De)(many' a' b' c' d' x' y' z':Int)(k':Nat)(gd':Nat->List Sh):(run (C5 A W Cc Ak) 700 aC 79 [.code []] (LA 6 e (hpA n m o many gR M1 M2 [(e.tx,aC,.ptr 4 0)] []++hpR a b c d x y z k (zW dd)))).bind (toEnd [toR n m o gR M1 M2 e many' a' b' c' d' x' y' z' k' gd' [],toR n m o gR M1 M2 e many' a' b' c' d' x' y' z' k' gd' [(b,ak,.any)]])=aF (A.eq many (ah 400)) (aA (dL (aZ 6 329),0,[aj many many',aJ m m,aS m gR gR,bQ M1 M1,aj e.tx e.tx,bQ M2 M2,aJ n n,aS n (zW o) (zW o),aj a a',aj b b',aj c c',aj d d',aj x x',aj y y',aj z z',aJ k k',aS k (zW dd) gd'])) (aI (BO {kind:=ah 6,tx:=e.tx,thread:=e.thread,obj:=e.obj,op:=e.op,key:=e.key,val:=e.val,ret:=e.ret}) (aI (A.eq e.tx e.tx) (aQ [aj e.tx e.tx,aj e.thread e.thread,aj e.obj e.obj,aj e.op e.op,aj e.key e.key,aj e.val e.val,aj e.ret e.ret,aj many many,aJ m m,bC gR gR,bQ M1 M1,aj e.tx e.tx,bQ M2 M2,aJ n n,bC (zW o) (zW o),aj a a,aj b b,aj c c,aj d d,aj x x,aj y y,aj z z,aJ k k,bC (zW dd) (zW dd),aj e.tx e.tx,aj e.thread e.thread,aj e.obj e.obj,aj e.op e.op,aj e.key e.key,aj e.val e.val,aj e.ret e.ret] (aQ [aj e.tx e.tx,aj e.thread e.thread,aj e.obj e.obj,aj e.op e.op,aj e.key e.key,aj e.val e.val,aj e.ret e.ret,aj many many,aJ m m,bC gR gR,bQ M1 M1,aj e.tx e.tx,bQ M2 M2,aJ n n,bC (zW o) (zW o),aj a a,aj b b,aj c c,aj d d,aj x x,aj y y,aj z z,aJ k k,bC (zW dd) (zW dd),aj e.tx e.tx,aj e.thread e.thread,aj e.obj e.obj,aj e.op e.op,aj e.key e.key,aj e.val e.val,aj e.ret e.ret] (aF (A.eq z (ah 1)) (aA (fQ,1,[aj (A.add .i64 many (ah 1)) many',aJ m m,aS m gR gR,bQ M1 M1,aj e.tx e.tx,bQ M2 M2,aj b b,aJ n n,aS n (zW o) (zW o),aj a a',aj b b',aj (ah 4) c',aj d d',aj many x',aj y y',aj (ah 5) z',aJ k k',aS k (zW dd) gd'])) (aF (A.eq z (ah 2)) (aA (fQ,1,[aj (A.add .i64 many (ah 1)) many',aJ m m,aS m gR gR,bQ M1 M1,aj e.tx e.tx,bQ M2 M2,aj b b,aJ n n,aS n (zW o) (zW o),aj a a',aj b b',aj (ah 4) c',aj d d',aj many x',aj y y',aj (ah 5) z',aJ k k',aS k (zW dd) gd'])) (aF (A.eq z (ah 3)) (aA (fQ,1,[aj (A.add .i64 many (ah 1)) many',aJ m m,aS m gR gR,bQ M1 M1,aj e.tx e.tx,bQ M2 M2,aj b b,aJ n n,aS n (zW o) (zW o),aj a a',aj b b',aj (ah 4) c',aj d d',aj many x',aj y y',aj (ah 5) z',aJ k k',aS k (zW dd) gd'])) (aF (A.eq z (ah 4)) (aA (fQ,1,[aj (A.add .i64 many (ah 1)) many',aJ m m,aS m gR gR,bQ M1 M1,aj e.tx e.tx,bQ M2 M2,aj b b,aJ n n,aS n (zW o) (zW o),aj a a',aj b b',aj (ah 4) c',aj d d',aj many x',aj y y',aj (ah 5) z',aJ k k',aS k (zW dd) gd'])) (aA (dL (aZ 12 329),0,[aj many many',aJ m m,aS m gR gR,bQ M1 M1,aj e.tx e.tx,bQ M2 M2,aJ n n,aS n (zW o) (zW o),aj a a',aj b b',aj c c',aj d d',aj x x',aj y y',aj z z',aJ k k',aS k (zW dd) gd'])))))))))):=by kernel_rfl
theorem auy(A:Prim)(W:Wd)(n m:Nat)(o:Nat->Oj)(many:Int)(gR:Nat->List Sh)(M1 M2:Int->Option Value)(e:Ev)(many':Int):(run (C5 A W Cc Ak) 700 aC 79 [.code []] (LA 6 e (hpA n m o many gR M1 M2 [(e.tx,ak,.any)] []))).bind (toEnd [toN n m o many' gR M1 M2 [(e.tx,ak,.any)] []])=aF (A.eq many (ah 400)) (aA (dL (aZ 6 329),0,[aj many many',aJ m m,aS m gR gR,bQ M1 M1,aj e.tx e.tx,bQ M2 M2,aJ n n,aS n (zW o) (zW o)])) (aI (BO {kind:=ah 6,tx:=e.tx,thread:=e.thread,obj:=e.obj,op:=e.op,key:=e.key,val:=e.val,ret:=e.ret}) (aI (A.eq e.tx e.tx) (aA (dL (aZ 11 329),0,[aj many many',aJ m m,aS m gR gR,bQ M1 M1,aj e.tx e.tx,bQ M2 M2,aJ n n,aS n (zW o) (zW o)])))):=by kernel_rfl
theorem apw(A:Prim)(W:Wd)(n m:Nat)(o:Nat->Oj)(many:Int)(gR:Nat->List Sh)(M1 M2:Int->Option Value)(e:Ev)(a b c d x y z:Int)(k:Nat)(dd:Nat->De)(many' a' b' c' d' x' y' z':Int)(k':Nat)(gd':Nat->List Sh):(run (C5 A W Cc Ak) 700 aC 79 [.code []] (LA 7 e (hpA n m o many gR M1 M2 [(e.tx,aC,.ptr 4 0)] []++hpR a b c d x y z k (zW dd)))).bind (toEnd [toR n m o gR M1 M2 e many' a' b' c' d' x' y' z' k' gd' []])=aF (A.eq many (ah 400)) (aA (dL (aZ 6 329),0,[aj many many',aJ m m,aS m gR gR,bQ M1 M1,aj e.tx e.tx,bQ M2 M2,aJ n n,aS n (zW o) (zW o),aj a a',aj b b',aj c c',aj d d',aj x x',aj y y',aj z z',aJ k k',aS k (zW dd) gd'])) (aI (BO {kind:=ah 7,tx:=e.tx,thread:=e.thread,obj:=e.obj,op:=e.op,key:=e.key,val:=e.val,ret:=e.ret}) (aI (A.eq e.tx e.tx) (aQ [aj e.tx e.tx,aj e.thread e.thread,aj e.obj e.obj,aj e.op e.op,aj e.key e.key,aj e.val e.val,aj e.ret e.ret,aj many many,aJ m m,bC gR gR,bQ M1 M1,aj e.tx e.tx,bQ M2 M2,aJ n n,bC (zW o) (zW o),aj a a,aj b b,aj c c,aj d d,aj x x,aj y y,aj z z,aJ k k,bC (zW dd) (zW dd),aj e.tx e.tx,aj e.thread e.thread,aj e.obj e.obj,aj e.op e.op,aj e.key e.key,aj e.val e.val,aj e.ret e.ret] (aQ [aj e.tx e.tx,aj e.thread e.thread,aj e.obj e.obj,aj e.op e.op,aj e.key e.key,aj e.val e.val,aj e.ret e.ret,aj many many,aJ m m,bC gR gR,bQ M1 M1,aj e.tx e.tx,bQ M2 M2,aJ n n,bC (zW o) (zW o),aj a a,aj b b,aj c c,aj d d,aj x x,aj y y,aj z z,aJ k k,bC (zW dd) (zW dd),aj e.tx e.tx,aj e.thread e.thread,aj e.obj e.obj,aj e.op e.op,aj e.key e.key,aj e.val e.val,aj e.ret e.ret] (aF (A.eq z (ah 1)) (aA (fQ,0,[aj (A.add .i64 many (ah 1)) many',aJ m m,aS m gR gR,bQ M1 M1,aj e.tx e.tx,bQ M2 M2,aJ n n,aS n (zW o) (zW o),aj a a',aj b b',aj c c',aj d d',aj x x',aj y y',aj (ah 4) z',aJ k k',aS k (zW dd) gd'])) (aA (dL (aZ 12 329),0,[aj many many',aJ m m,aS m gR gR,bQ M1 M1,aj e.tx e.tx,bQ M2 M2,aJ n n,aS n (zW o) (zW o),aj a a',aj b b',aj c c',aj d d',aj x x',aj y y',aj z z',aJ k k',aS k (zW dd) gd']))))))):=by kernel_rfl
theorem auz(A:Prim)(W:Wd)(n m:Nat)(o:Nat->Oj)(many:Int)(gR:Nat->List Sh)(M1 M2:Int->Option Value)(e:Ev)(many':Int):(run (C5 A W Cc Ak) 700 aC 79 [.code []] (LA 7 e (hpA n m o many gR M1 M2 [(e.tx,ak,.any)] []))).bind (toEnd [toN n m o many' gR M1 M2 [(e.tx,ak,.any)] []])=aF (A.eq many (ah 400)) (aA (dL (aZ 6 329),0,[aj many many',aJ m m,aS m gR gR,bQ M1 M1,aj e.tx e.tx,bQ M2 M2,aJ n n,aS n (zW o) (zW o)])) (aI (BO {kind:=ah 7,tx:=e.tx,thread:=e.thread,obj:=e.obj,op:=e.op,key:=e.key,val:=e.val,ret:=e.ret}) (aI (A.eq e.tx e.tx) (aA (dL (aZ 11 329),0,[aj many many',aJ m m,aS m gR gR,bQ M1 M1,aj e.tx e.tx,bQ M2 M2,aJ n n,aS n (zW o) (zW o)])))):=by kernel_rfl
theorem auA(A:Prim)(W:Wd)(n m:Nat)(o:Nat->Oj)(many:Int)(gR:Nat->List Sh)(M1 M2:Int->Option Value)(e:Ev)(a b c d x y z:Int)(k:Nat)(dd:Nat->De)(many' a' b' c' d' x' y' z':Int)(k':Nat)(gd':Nat->List Sh):(run (C5 A W Cc Ak) 700 aC 79 [.code []] (LA 1 e (hpA n m o many gR M1 M2 [(e.tx,aC,.ptr 4 0)] []++hpR a b c d x y z k (zW dd)))).bind (toEnd [toR n m o gR M1 M2 e many' a' b' c' d' x' y' z' k' gd' []])=aF (A.eq many (ah 400)) (aA (dL (aZ 6 329),0,[aj many many',aJ m m,aS m gR gR,bQ M1 M1,aj e.tx e.tx,bQ M2 M2,aJ n n,aS n (zW o) (zW o),aj a a',aj b b',aj c c',aj d d',aj x x',aj y y',aj z z',aJ k k',aS k (zW dd) gd'])) (aI (BO {kind:=ah 1,tx:=e.tx,thread:=e.thread,obj:=e.obj,op:=e.op,key:=e.key,val:=e.val,ret:=e.ret}) (aI (A.eq e.tx e.tx) (aA (dL (aZ 9 329),0,[aj many many',aJ m m,aS m gR gR,bQ M1 M1,aj e.tx e.tx,bQ M2 M2,aJ n n,aS n (zW o) (zW o),aj a a',aj b b',aj c c',aj d d',aj x x',aj y y',aj z z',aJ k k',aS k (zW dd) gd'])))):=by kernel_rfl
theorem auB(A:Prim)(W:Wd)(n m:Nat)(o:Nat->Oj)(many:Int)(gR:Nat->List Sh)(M1 M2:Int->Option Value)(e:Ev)(q:Nat)(many':Int):(run (C5 A W Cc Ak) 700 aC 79 [.code []] (LA 1 e (hpA n m o many gR M1 M2 [(e.tx,ak,.any)] [(e.thread,aC,.val (.pointer (ay ⟨q,0,aK⟩)))]))).bind (toEnd [toN n m o many' gR M1 M2 [(e.tx,ak,.any)] [(e.thread,aC,.val (.pointer (ay ⟨q,0,aK⟩)))]])=aF (A.eq many (ah 400)) (aA (dL (aZ 6 329),0,[aj many many',aJ m m,aS m gR gR,bQ M1 M1,aj e.tx e.tx,bQ M2 M2,aj e.thread e.thread,kQ (gB (ay {block:=q,off:=0})) (gB (ay {block:=q,off:=0})),aJ n n,aS n (zW o) (zW o)])) (aI (BO {kind:=ah 1,tx:=e.tx,thread:=e.thread,obj:=e.obj,op:=e.op,key:=e.key,val:=e.val,ret:=e.ret}) (aI (A.eq e.tx e.tx) (aI (A.eq e.thread e.thread) (aA (dL (aZ 10 329),0,[aj many many',aJ m m,aS m gR gR,bQ M1 M1,aj e.tx e.tx,bQ M2 M2,aj e.thread e.thread,kQ (gB (ay {block:=q,off:=0})) (gB (ay {block:=q,off:=0})),aJ n n,aS n (zW o) (zW o)]))))):=by kernel_rfl
theorem auC(A:Prim)(W:Wd)(n m:Nat)(o:Nat->Oj)(many:Int)(gR:Nat->List Sh)(M1 M2:Int->Option Value)(e:Ev)(many' a' b' c' d' x' y' z':Int):(run (C5 A W Cc Ak) 700 aC 79 [.code []] (LA 1 e (hpA n m o many gR M1 M2 [(e.tx,ak,.any)] [(e.thread,ak,.any)]))).bind (toEnd [toB n m o gR M1 M2 e many' a' b' c' d' x' y' z'])=aF (A.eq many (ah 400)) Tree.fail (aI (BO {kind:=ah 1,tx:=e.tx,thread:=e.thread,obj:=e.obj,op:=e.op,key:=e.key,val:=e.val,ret:=e.ret}) (aI (A.eq e.tx e.tx) (aI (A.eq e.thread e.thread) (aI (A.room (A.addN m 1) 8) (aI (A.eq e.tx e.tx) (aI (A.eq e.thread e.thread) (aA (fQ,0,[aj (A.add .i64 many (ah 1)) many',aJ n n,aS n (zW o) (zW o),aJ m m,aS m gR gR,bQ M1 M1,aj e.tx e.tx,aj e.tx e.tx,aj e.tx e.tx,bQ M2 M2,aj e.thread e.thread,aj e.thread e.thread,aj e.thread e.thread,aj e.tx a',aj e.thread b',aj (ah 1) c',aj many d',aj (fF 0) x',aj (fF 0) y',aj (ah 1) z'])))))))):=by kernel_rfl
end Go.Ad
namespace Go.BF
open Go Go.Sx
structure Rc where
 id:Int
 th:Int
 st:Int
 bg:Int
 en:Int
 tr:Int
 Ac:List De
 stand:Int
structure Au where
 many:Nat
 rs:List Rc
def Au.JM(σ:Au)(k:Int):Option Nat:=σ.rs.findIdx? fun r=>r.id==k
def Rc.live(r:Rc):Bool:=!(r.stand==5)
def Au.KO(σ:Au)(k:Int):Option Nat:=σ.rs.findIdx? fun r=>r.th==k&&r.live
def FP{α:Type}(f:α->α):List α->List α
 |[]=>[] |[x]=>[f x] |x::y::l=>x::FP f (y::l)
def Rc.step(many:Nat)(e:Ev)(r:Rc):Nat ⊕ Rc:=
 bif e.kind==2 then bif r.stand==1 then .inr {r with stand:=2,Ac:=r.Ac++[⟨e.obj,e.op,e.key,e.val,0,0,many,-1⟩]} else .inl 12
 else bif e.kind==3 then bif r.stand==2 then bif Ov (r.Ac.getLast?.getD Row.Jk).op e.ret then .inr {r with stand:=1,Ac:=FP (fun d=>{d with ret:=e.ret,got:=e.val,back:=many}) r.Ac} else .inl 13 else .inl 12
 else bif e.kind==4 then bif r.stand==1 then .inr {r with stand:=3,tr:=many,st:=2} else .inl 12
 else bif e.kind==7 then bif r.stand==1 then .inr {r with stand:=4} else .inl 12
 else bif e.kind==5 then bif r.stand==3 then .inr {r with stand:=5,en:=many,st:=3} else .inl 12
 else bif r.stand==1||r.stand==2||r.stand==3||r.stand==4 then .inr {r with stand:=5,en:=many,st:=4} else .inl 12
def Au.feed(σ:Au)(e:Ev):Option Nat×Au:=
 match σ.JM e.tx with
 |some i=>bif e.kind==1 then (ay 9,σ) else match Rc.step σ.many e (σ.rs.getD i ⟨0,0,0,0,0,0,[],0⟩) with
  | .inl k=>(ay k,σ) | .inr r=>(aK,⟨σ.many+1,σ.rs.set i r⟩)
 |none=>bif e.kind==1 then (match σ.KO e.thread with
  |some _=>(ay 10,σ) |none=>(aK,⟨σ.many+1,σ.rs++[⟨e.tx,e.thread,1,σ.many,-1,-1,[],1⟩]⟩)) else (ay 11,σ)
structure Au.OK(σ:Au):Prop where
 one:∀(i j:Nat) (r s:Rc),σ.rs[i]?=ay r->σ.rs[j]?=ay s->r.th=s.th->r.live=aC->s.live=aC->i=j
 deed:∀(i:Nat) (r:Rc),σ.rs[i]?=ay r->r.stand=2->r.Ac≠[]
 stands:∀(i:Nat) (r:Rc),σ.rs[i]?=ay r->1<=r.stand/\r.stand<=5
 len:σ.rs.length<=σ.many
 dl:∀(i:Nat) (r:Rc),σ.rs[i]?=ay r->r.Ac.length<=σ.many
end Go.BF
namespace Go.Sx
open Go.BF
def Dn(b:Nat):Value:=.pointer (ay ⟨b,0,aK⟩)
structure Lay where
 p:Nat
 v0:Value
 v2:Value
 b1:Nat
 b2:Nat
 R:Nat->Nat
 D:Nat->Value
inductive Tg where
 |au|tx|KP|bu|ob
 |rc (i:Nat)
 |de (i:Nat)
 deriving DecidableEq
def Lay.blk(L:Lay)(n:Nat):Tg->Option Nat
 | .au=>ay L.p | .tx=>Ah L.v2 | .KP=>ay L.b1 | .bu=>ay L.b2 | .ob=>Ah L.v0 | .rc i=>if i<n then ay (L.R i) else aK
 | .de i=>if i<n then Ah (L.D i) else aK
def WS(r:Rc)(d:Value):Array Value:=#[.int .i64 r.id,.int .i64 r.th,.int .i64 r.st,.int .i64 r.bg,.int .i64 r.en,.int .i64 r.tr,d,.int .i64 r.stand]
def deV(d:De):List Value:=[.int .i64 d.obj,.int .i64 d.op,.int .i64 d.key,.int .i64 d.val,.int .i64 d.ret,.int .i64 d.got,.int .i64 d.here,.int .i64 d.back]
structure Dc(H:Mem)(w:World)(n0:Nat)(g0:Nat->List Sh)(σ:Au)(L:Lay):Prop where
 au:w.heap[L.p]?=ay (.cells #[L.v0,.int .i64 σ.many,L.v2,.map (ay L.b1),.map (ay L.b2)] 181 (0,0))
 ob:∃xs,w.ownsRow 0 140 2 L.v0 n0 xs/\BN H 2 n0 g0 xs
 tx:w.ownsRow 0 182 1 L.v2 σ.rs.length ((aX σ.rs.length).map fun i=>Dn (L.R i))
 KP:∃ms clk,w.heap[L.b1]?=ay (.map ms clk)/\EY .i64 ms.toList clk fun k=>(σ.JM k).map fun i=>Dn (L.R i)
 bu:∃ms clk,w.heap[L.b2]?=ay (.map ms clk)/\EY .i64 ms.toList clk fun k=>(σ.KO k).map fun i=>Dn (L.R i)
 rc:∀i r,σ.rs[i]?=ay r->w.heap[L.R i]?=ay (.cells (WS r (L.D i)) 184 (0,0))
 de:∀i r,σ.rs[i]?=ay r->w.ownsRow 0 197 8 (L.D i) r.Ac.length (r.Ac.flatMap deV)
 FQ:∀s t b,L.blk σ.rs.length s=ay b->L.blk σ.rs.length t=ay b->s=t
 un:∀t b,L.blk σ.rs.length t=ay b->H b=aK
section
variable{H H':Mem}{w w':World}{n0:Nat}{g0:Nat->List Sh}{σ:Au}{L:Lay}
theorem abM{e st n:Nat}{v:Value}{xs:List Value}{b:Nat}(h:w.ownsRow 0 e st v n xs)(hb:Ah v=ay b):b<w.heap.size:=by
 rcases h.2 with ⟨rfl,_⟩ |⟨g,cap,cur,rfl,_,hg,_⟩
 ·cases hb
 ·cases hb
  exact (bG.1 hg).1
theorem Dc.lt(h:Dc H w n0 g0 σ L){t:Tg}{b:Nat}(hb:L.blk σ.rs.length t=ay b):b<w.heap.size:=by
 cases t with
 |au=>cases hb;exact (bG.1 h.au).1 |tx=>exact abM h.tx hb |KP=>cases hb;obtain ⟨ms,clk,h1,_⟩:=h.KP;exact (bG.1 h1).1 |bu=>cases hb;obtain ⟨ms,clk,h1,_⟩:=h.bu;exact (bG.1 h1).1 |ob=>obtain ⟨xs,h1,_⟩:=h.ob;exact abM h1 hb |rc i=>
  simp only[Lay.blk] at hb;split at hb
  ·rename_i hi
   cases hb;exact (bG.1 (h.rc i _ (aV hi))).1
  ·cases hb
 |de i=>
  simp only[Lay.blk] at hb;split at hb
  ·rename_i hi
   exact abM (h.de i _ (aV hi)) hb
  ·cases hb
theorem Dc.keep(h:Dc H w n0 g0 σ L)(hH:H.le H')(hw:∀t b,L.blk σ.rs.length t=ay b->w'.heap[b]?=w.heap[b]?)(hu:∀t b,L.blk σ.rs.length t=ay b->H' b=aK):Dc H' w' n0 g0 σ L:=by
 refine ⟨by rw[hw .au _ rfl];exact h.au,(let ⟨xs,h1,h2⟩:=h.ob;⟨xs,FT h1 fun b hb=>hw .ob b hb,h2.le hH⟩),FT h.tx fun b hb=>hw .tx b hb,?_,?_,fun i r hi=>?_,fun i r hi=>FT (h.de i r hi) fun b hb=>hw (.de i) b ?_,h.FQ,hu⟩
 ·obtain ⟨ms,clk,h1,h2⟩:=h.KP
  exact ⟨ms,clk,by rw[hw .KP _ rfl];exact h1,h2⟩
 ·obtain ⟨ms,clk,h1,h2⟩:=h.bu
  exact ⟨ms,clk,by rw[hw .bu _ rfl];exact h1,h2⟩
 ·have hlt:=(aU.1 hi).1
  rw[hw (.rc i) _ (by simp[Lay.blk,hlt])];exact h.rc i r hi
 ·have hlt:=(aU.1 hi).1
  simp[Lay.blk,hlt,hb]
end
open Go.BF
def svE:Option Nat->SV
 |none=>.DK |some k=>.sh (.er k 329)
end Go.Sx
namespace Go.BF
open Go Go.Sx
def Rc.out(many:Nat)(e:Ev)(r:Rc):Option Nat×Nat×Rc:=
 match Rc.step many e r with
 | .inl k=>(ay k,many,r) | .inr r'=>(aK,many+1,r')
theorem Sl{α:Type}(f:α->α):∀l:List α,(FP f l).length=l.length
 |[]=>rfl |[_]=>rfl |_::y::l=>by simp[FP,Sl f (y::l)]
theorem alJ{α:Type}[Row α]{l:List α}(h:l≠[]):nth l (l.length - 1)=l.getLast?.getD Row.Jk:=by
 simp[nth,List.getLast?_eq_getElem?]
theorem Y9{α:Type}[Row α](f:α->α):∀(l:List α) (i:Nat),i<l.length->nth (FP f l) i=if i=l.length - 1 then f (nth l i) else nth l i
 |[],i,h=>by simp at h |[x],i,h=>by
  have:i=0:=by simp at h;exact h
  subst this;simp[FP,nth]
 |x::y::l,0,_=>by simp[FP,nth] |x::y::l,i+1,h=>by
  have ih:=Y9 f (y::l) i (by simpa using h);have e1:nth (FP f (x::y::l)) (i+1)=nth (FP f (y::l)) i:=by simp[FP,nth]
  have e2:nth (x::y::l) (i+1)=nth (y::l) i:=by simp[nth]
  rw[e1,ih,e2];by_cases q:i=(y::l).length - 1
  ·rw[if_pos q,if_pos (by simp at q ⊢;omega)]
  ·rw[if_neg q,if_neg (by simp at q ⊢;omega)]
end Go.BF
namespace Go.Ad
open Go Go.Sx Go.BF
theorem awm:Aq aB (Fv W5) 101 apr:=O56.mono fun H AX args φ hr h=>by
 clear hr;unfold apr at h;split at h
 ·rename_i l
  split at h
  ·rename_i e he
   obtain ⟨h1,h2⟩:=h;unfold BO at h1;simp only[aH] at h1;show (match abK l with|some e=>_|none=>_:Tree Sh).All φ
   rw[he];refine ⟨h1.2,fun _=>?_,fun q=>?_⟩
   ·refine ⟨fun _=>h2,fun q=>?_⟩
    rw[h1.1.2] at q;cases q
   ·rw[h1.1.1] at q;cases q
  ·exact h.elim
 ·exact h.elim
theorem awn:∀g F,Cc g=ay F->Aq aB (Fv W5) g F:=fun g F h=>by
 unfold Cc at h;split at h
 ·cases h;exact awm
 ·cases h;exact O57
 ·cases h;exact O67
 ·cases h
theorem ajd(stop:Nat->List Nat->Bool):Bz aB (C5 zV W5 Cc stop):=C5.UK awn fun g h=>by
 unfold Cc at h;split at h;all_goals first|(cases h;done) |kernel_rfl
theorem Nq{a:Int}{k:Nat}(h:zV.eq a (ah k)=aC):a=(k:Int):=by simpa[Ap] using h
theorem eqF{a:Int}{k:Nat}(h:zV.eq a (ah k)=ak):a≠(k:Int):=by simpa[Ap] using h
theorem eqS(a:Int):zV.eq a a=aC:=by simp[Ap]
theorem wrapM{many:Nat}(hm:many<400):zV.add .i64 (many:Int) 1=((many+1:Nat):Int):=by
 rw[Df,BL (by omega) (by omega)];rfl
def Eo(n m:Nat)(o:Nat->Oj)(gR:Nat->List Sh)(M1 M2:Int->Option Value)(e:Ev)(many:Nat)(r:Rc)(us:List (Int×Bool×SV)):QK:=
 toR n m o gR M1 M2 e many r.id r.th r.st r.bg r.en r.tr r.stand r.Ac.length (zW (nth r.Ac)) us
def Fh(r:Rc):List (Nat×SB):=hpR r.id r.th r.st r.bg r.en r.tr r.stand r.Ac.length (zW (nth r.Ac))
section
variable{n m:Nat}{o:Nat->Oj}{many:Nat}{gR:Nat->List Sh}{M1 M2:Int->Option Value}
theorem apx(hm:many<400){e:Ev}(hk:e.kind=4)(hv:BO e=aC)(r:Rc):
  Ez (FX [Eo n m o gR M1 M2 e (Rc.out many e r).2.1 (Rc.out many e r).2.2 []] (fun sv k=>sv=svE (Rc.out many e r).1/\k=0)) ((run (C5 zV W5 Cc Ak) 700 aC 79 [.code []] (LA 4 e (hpA n m o many gR M1 M2 [(e.tx,aC,.ptr 4 0)] []++Fh r))).bind (toEnd [Eo n m o gR M1 M2 e (Rc.out many e r).2.1 (Rc.out many e r).2.2 []])):=by
 obtain ⟨kind,tx,thread,obj,op,key,val,ret⟩:=e;obtain ⟨id,th,st,bg,en,tr,Ac,stand⟩:=r;have hk:kind=4:=hk;subst hk;have hw:=wrapM hm;by_cases hs:stand=1
 ·have e1:Rc.out many ⟨4,tx,thread,obj,op,key,val,ret⟩ ⟨id,th,st,bg,en,tr,Ac,stand⟩=(aK,many+1,⟨id,th,2,bg,en,many,Ac,3⟩):=by
   subst hs;rfl
  rw[e1];unfold Eo Fh;simp only;rw[apt zV W5 n m o many gR M1 M2 ⟨4,tx,thread,obj,op,key,val,ret⟩ id th st bg en tr stand Ac.length (nth Ac) (many+1:Nat) id th 2 bg en many 3 Ac.length (zW (nth Ac)),BZ];repeat' (first
   |exact trivial
   |exact hv
   |exact hw
   |exact eqS _
   |exact rfl
   |exact fun _ _=>rfl
   |(intro q;replace q:=Nq q;first|(exfalso;omega) |skip)
   |(intro q;replace q:=eqF q;first|(exfalso;omega) |skip)
   |refine bW ?_ ?_)
 ·have e1:Rc.out many ⟨4,tx,thread,obj,op,key,val,ret⟩ ⟨id,th,st,bg,en,tr,Ac,stand⟩=(ay 12,many,⟨id,th,st,bg,en,tr,Ac,stand⟩):=by
   have d1:(stand==1)=ak:=by rw[beq_eq_false_iff_ne];omega
   simp only[Rc.out,Rc.step,d1,kE];rfl
  rw[e1];unfold Eo Fh;simp only;rw[apt zV W5 n m o many gR M1 M2 ⟨4,tx,thread,obj,op,key,val,ret⟩ id th st bg en tr stand Ac.length (nth Ac) (many:Nat) id th st bg en tr stand Ac.length (zW (nth Ac)),BZ];repeat' (first
   |exact trivial
   |exact hv
   |exact hw
   |exact eqS _
   |exact rfl
   |exact fun _ _=>rfl
   |(intro q;replace q:=Nq q;first|(exfalso;omega) |skip)
   |(intro q;replace q:=eqF q;first|(exfalso;omega) |skip)
   |refine bW ?_ ?_)
theorem apy(hm:many<400){e:Ev}(hk:e.kind=7)(hv:BO e=aC)(r:Rc):
  Ez (FX [Eo n m o gR M1 M2 e (Rc.out many e r).2.1 (Rc.out many e r).2.2 []] (fun sv k=>sv=svE (Rc.out many e r).1/\k=0)) ((run (C5 zV W5 Cc Ak) 700 aC 79 [.code []] (LA 7 e (hpA n m o many gR M1 M2 [(e.tx,aC,.ptr 4 0)] []++Fh r))).bind (toEnd [Eo n m o gR M1 M2 e (Rc.out many e r).2.1 (Rc.out many e r).2.2 []])):=by
 obtain ⟨kind,tx,thread,obj,op,key,val,ret⟩:=e;obtain ⟨id,th,st,bg,en,tr,Ac,stand⟩:=r;have hk:kind=7:=hk;subst hk;have hw:=wrapM hm;by_cases hs:stand=1
 ·have e1:Rc.out many ⟨7,tx,thread,obj,op,key,val,ret⟩ ⟨id,th,st,bg,en,tr,Ac,stand⟩=(aK,many+1,⟨id,th,st,bg,en,tr,Ac,4⟩):=by
   subst hs;rfl
  rw[e1];unfold Eo Fh;simp only;rw[apw zV W5 n m o many gR M1 M2 ⟨7,tx,thread,obj,op,key,val,ret⟩ id th st bg en tr stand Ac.length (nth Ac) (many+1:Nat) id th st bg en tr 4 Ac.length (zW (nth Ac)),BZ];repeat' (first
   |exact trivial
   |exact hv
   |exact hw
   |exact eqS _
   |exact rfl
   |exact fun _ _=>rfl
   |(intro q;replace q:=Nq q;first|(exfalso;omega) |skip)
   |(intro q;replace q:=eqF q;first|(exfalso;omega) |skip)
   |refine bW ?_ ?_)
 ·have e1:Rc.out many ⟨7,tx,thread,obj,op,key,val,ret⟩ ⟨id,th,st,bg,en,tr,Ac,stand⟩=(ay 12,many,⟨id,th,st,bg,en,tr,Ac,stand⟩):=by
   have d1:(stand==1)=ak:=by rw[beq_eq_false_iff_ne];omega
   simp only[Rc.out,Rc.step,d1,kE];rfl
  rw[e1];unfold Eo Fh;simp only;rw[apw zV W5 n m o many gR M1 M2 ⟨7,tx,thread,obj,op,key,val,ret⟩ id th st bg en tr stand Ac.length (nth Ac) (many:Nat) id th st bg en tr stand Ac.length (zW (nth Ac)),BZ];repeat' (first
   |exact trivial
   |exact hv
   |exact hw
   |exact eqS _
   |exact rfl
   |exact fun _ _=>rfl
   |(intro q;replace q:=Nq q;first|(exfalso;omega) |skip)
   |(intro q;replace q:=eqF q;first|(exfalso;omega) |skip)
   |refine bW ?_ ?_)
theorem apz(hm:many<400){e:Ev}(hk:e.kind=5)(hv:BO e=aC)(r:Rc):
  Ez (FX [Eo n m o gR M1 M2 e (Rc.out many e r).2.1 (Rc.out many e r).2.2 [],Eo n m o gR M1 M2 e (Rc.out many e r).2.1 (Rc.out many e r).2.2 [(r.th,ak,.any)]] (fun sv k=>sv=svE (Rc.out many e r).1/\k=(bif (Rc.out many e r).1.isNone then 1 else 0))) ((run (C5 zV W5 Cc Ak) 700 aC 79 [.code []] (LA 5 e (hpA n m o many gR M1 M2 [(e.tx,aC,.ptr 4 0)] []++Fh r))).bind (toEnd [Eo n m o gR M1 M2 e (Rc.out many e r).2.1 (Rc.out many e r).2.2 [],Eo n m o gR M1 M2 e (Rc.out many e r).2.1 (Rc.out many e r).2.2 [(r.th,ak,.any)]])):=by
 obtain ⟨kind,tx,thread,obj,op,key,val,ret⟩:=e;obtain ⟨id,th,st,bg,en,tr,Ac,stand⟩:=r;have hk:kind=5:=hk;subst hk;have hw:=wrapM hm;by_cases hs:stand=3
 ·have e1:Rc.out many ⟨5,tx,thread,obj,op,key,val,ret⟩ ⟨id,th,st,bg,en,tr,Ac,stand⟩=(aK,many+1,⟨id,th,3,bg,many,tr,Ac,5⟩):=by
   subst hs;rfl
  rw[e1];unfold Eo Fh;simp only;rw[apu zV W5 n m o many gR M1 M2 ⟨5,tx,thread,obj,op,key,val,ret⟩ id th st bg en tr stand Ac.length (nth Ac) (many+1:Nat) id th 3 bg many tr 5 Ac.length (zW (nth Ac)),BZ];repeat' (first
   |exact trivial
   |exact hv
   |exact hw
   |exact eqS _
   |exact rfl
   |exact fun _ _=>rfl
   |(intro q;replace q:=Nq q;first|(exfalso;omega) |skip)
   |(intro q;replace q:=eqF q;first|(exfalso;omega) |skip)
   |refine bW ?_ ?_)
 ·have e1:Rc.out many ⟨5,tx,thread,obj,op,key,val,ret⟩ ⟨id,th,st,bg,en,tr,Ac,stand⟩=(ay 12,many,⟨id,th,st,bg,en,tr,Ac,stand⟩):=by
   have d3:(stand==3)=ak:=by rw[beq_eq_false_iff_ne];omega
   simp only[Rc.out,Rc.step,d3,kE];rfl
  rw[e1];unfold Eo Fh;simp only;rw[apu zV W5 n m o many gR M1 M2 ⟨5,tx,thread,obj,op,key,val,ret⟩ id th st bg en tr stand Ac.length (nth Ac) (many:Nat) id th st bg en tr stand Ac.length (zW (nth Ac)),BZ];repeat' (first
   |exact trivial
   |exact hv
   |exact hw
   |exact eqS _
   |exact rfl
   |exact fun _ _=>rfl
   |(intro q;replace q:=Nq q;first|(exfalso;omega) |skip)
   |(intro q;replace q:=eqF q;first|(exfalso;omega) |skip)
   |refine bW ?_ ?_)
theorem apA(hm:many<400){e:Ev}(hk:e.kind=6)(hv:BO e=aC)(r:Rc):
  Ez (FX [Eo n m o gR M1 M2 e (Rc.out many e r).2.1 (Rc.out many e r).2.2 [],Eo n m o gR M1 M2 e (Rc.out many e r).2.1 (Rc.out many e r).2.2 [(r.th,ak,.any)]] (fun sv k=>sv=svE (Rc.out many e r).1/\k=(bif (Rc.out many e r).1.isNone then 1 else 0))) ((run (C5 zV W5 Cc Ak) 700 aC 79 [.code []] (LA 6 e (hpA n m o many gR M1 M2 [(e.tx,aC,.ptr 4 0)] []++Fh r))).bind (toEnd [Eo n m o gR M1 M2 e (Rc.out many e r).2.1 (Rc.out many e r).2.2 [],Eo n m o gR M1 M2 e (Rc.out many e r).2.1 (Rc.out many e r).2.2 [(r.th,ak,.any)]])):=by
 obtain ⟨kind,tx,thread,obj,op,key,val,ret⟩:=e;obtain ⟨id,th,st,bg,en,tr,Ac,stand⟩:=r;have hk:kind=6:=hk;subst hk;have hw:=wrapM hm;by_cases hs:stand=1\/stand=2\/stand=3\/stand=4
 ·have e1:Rc.out many ⟨6,tx,thread,obj,op,key,val,ret⟩ ⟨id,th,st,bg,en,tr,Ac,stand⟩=(aK,many+1,⟨id,th,4,bg,many,tr,Ac,5⟩):=by
   rcases hs with rfl|rfl|rfl|rfl<;>rfl
  rw[e1];unfold Eo Fh;simp only;rw[apv zV W5 n m o many gR M1 M2 ⟨6,tx,thread,obj,op,key,val,ret⟩ id th st bg en tr stand Ac.length (nth Ac) (many+1:Nat) id th 4 bg many tr 5 Ac.length (zW (nth Ac)),BZ];repeat' (first
   |exact trivial
   |exact hv
   |exact hw
   |exact eqS _
   |exact rfl
   |exact fun _ _=>rfl
   |(intro q;replace q:=Nq q;first|(exfalso;omega) |skip)
   |(intro q;replace q:=eqF q;first|(exfalso;omega) |skip)
   |refine bW ?_ ?_)
 ·have e1:Rc.out many ⟨6,tx,thread,obj,op,key,val,ret⟩ ⟨id,th,st,bg,en,tr,Ac,stand⟩=(ay 12,many,⟨id,th,st,bg,en,tr,Ac,stand⟩):=by
   have d1:(stand==1)=ak:=by rw[beq_eq_false_iff_ne];omega
   have d2:(stand==2)=ak:=by rw[beq_eq_false_iff_ne];omega
   have d3:(stand==3)=ak:=by rw[beq_eq_false_iff_ne];omega
   have d4:(stand==4)=ak:=by rw[beq_eq_false_iff_ne];omega
   simp only[Rc.out,Rc.step,d1,d2,d3,d4,kE];rfl
  rw[e1];unfold Eo Fh;simp only;rw[apv zV W5 n m o many gR M1 M2 ⟨6,tx,thread,obj,op,key,val,ret⟩ id th st bg en tr stand Ac.length (nth Ac) (many:Nat) id th st bg en tr stand Ac.length (zW (nth Ac)),BZ];repeat' (first
   |exact trivial
   |exact hv
   |exact hw
   |exact eqS _
   |exact rfl
   |exact fun _ _=>rfl
   |(intro q;replace q:=Nq q;first|(exfalso;omega) |skip)
   |(intro q;replace q:=eqF q;first|(exfalso;omega) |skip)
   |refine bW ?_ ?_)
theorem apB(hm:many<400){e:Ev}(hk:e.kind=2)(hv:BO e=aC)(r:Rc)(hl:r.Ac.length<=1000)(h1:0<=e.obj)(h2:e.obj<n)(h3:Dy e.op=(o e.obj.toNat).kind):
  Ez (FX [Eo n m o gR M1 M2 e (Rc.out many e r).2.1 (Rc.out many e r).2.2 []] (fun sv k=>sv=svE (Rc.out many e r).1/\k=0)) ((run (C5 zV W5 Cc Ak) 700 aC 79 [.code []] (LA 2 e (hpA n m o many gR M1 M2 [(e.tx,aC,.ptr 4 0)] []++Fh r))).bind (toEnd [Eo n m o gR M1 M2 e (Rc.out many e r).2.1 (Rc.out many e r).2.2 []])):=by
 obtain ⟨kind,tx,thread,obj,op,key,val,ret⟩:=e;obtain ⟨id,th,st,bg,en,tr,Ac,stand⟩:=r;have hk:kind=2:=hk;subst hk;have hw:=wrapM hm;have hl:Ac.length<=1000:=hl;have h1:0<=obj:=h1;have h2:obj<n:=h2;have h3:Dy op=(o obj.toNat).kind:=h3;have ho:zV.le (zV.Az n) obj=aC->False:=fun q=>by simp[Dw,Ar] at q;omega
 have hi:zV.inB obj n=aC:=by simp[Bj];omega
 have hq:zV.nt (zV.eq (Dy op) (o (zV.toN obj)).kind)=aC->False:=fun q=>by
  simp[BP,Ap,CJ] at q;exact q h3
 have hroom:zV.room (zV.addN Ac.length 1) 64=aC:=by
  show decide ((Ac.length+1)*64<=140737488355328/\Ac.length+1<=maxLen)=aC;rw[maxLen_eq];exact decide_eq_true ⟨by omega,by omega⟩
 have hsn:∀i,i<Ac.length+1->zV.snoc (zW (nth Ac)) Ac.length (AQ [[.i .i64 obj,.i .i64 op,.i .i64 key,.i .i64 val,.i .i64 0,.i .i64 0,.i .i64 many,.i .i64 (-1)]]) i=zW (nth (Ac++[(⟨obj,op,key,val,0,0,many,-1⟩:De)])) i:=OT (α:=De) _ _ rfl;have hlen:Ac.length+1=(Ac++[(⟨obj,op,key,val,0,0,many,-1⟩:De)]).length:=by simp
 by_cases hs:stand=1
 ·have e1:Rc.out many ⟨2,tx,thread,obj,op,key,val,ret⟩ ⟨id,th,st,bg,en,tr,Ac,stand⟩=(aK,many+1,⟨id,th,st,bg,en,tr,Ac++[⟨obj,op,key,val,0,0,many,-1⟩],2⟩):=by
   subst hs;rfl
  rw[e1];unfold Eo Fh;simp only;rw[aps zV W5 n m o many gR M1 M2 ⟨2,tx,thread,obj,op,key,val,ret⟩ id th st bg en tr stand Ac.length (nth Ac) (many+1:Nat) id th st bg en tr 2 (Ac++[(⟨obj,op,key,val,0,0,(many:Int),-1⟩:De)]).length (zW (nth (Ac++[(⟨obj,op,key,val,0,0,(many:Int),-1⟩:De)]))),BZ];repeat' (first
   |exact trivial
   |exact hv
   |exact hw
   |exact hi
   |exact hroom
   |exact hlen
   |exact hsn
   |(intro q;exact (ho q).elim)
   |(intro q;exact (hq q).elim)
   |exact eqS _
   |exact rfl
   |exact fun _ _=>rfl
   |(intro q;replace q:=Nq q;first|(exfalso;omega) |skip)
   |(intro q;replace q:=eqF q;first|(exfalso;omega) |skip)
   |intro _
   |refine bW ?_ ?_)
 ·have e1:Rc.out many ⟨2,tx,thread,obj,op,key,val,ret⟩ ⟨id,th,st,bg,en,tr,Ac,stand⟩=(ay 12,many,⟨id,th,st,bg,en,tr,Ac,stand⟩):=by
   have d1:(stand==1)=ak:=by rw[beq_eq_false_iff_ne];omega
   simp only[Rc.out,Rc.step,d1];rfl
  rw[e1];unfold Eo Fh;simp only;rw[aps zV W5 n m o many gR M1 M2 ⟨2,tx,thread,obj,op,key,val,ret⟩ id th st bg en tr stand Ac.length (nth Ac) (many:Nat) id th st bg en tr stand Ac.length (zW (nth Ac)),BZ];repeat' (first
   |exact trivial
   |exact hv
   |exact hw
   |exact hi
   |exact hroom
   |exact hlen
   |exact hsn
   |(intro q;exact (ho q).elim)
   |(intro q;exact (hq q).elim)
   |exact eqS _
   |exact rfl
   |exact fun _ _=>rfl
   |(intro q;replace q:=Nq q;first|(exfalso;omega) |skip)
   |(intro q;replace q:=eqF q;first|(exfalso;omega) |skip)
   |intro _
   |refine bW ?_ ?_)
theorem apC(hm:many<400){e:Ev}(hk:e.kind=3)(hv:BO e=aC)(r:Rc)(hl:r.Ac.length<=1000)(hd:r.stand=2->r.Ac≠[]):
  Ez (FX [Eo n m o gR M1 M2 e (Rc.out many e r).2.1 (Rc.out many e r).2.2 []] (fun sv k=>sv=svE (Rc.out many e r).1/\k=0)) ((run (C5 zV W5 Cc Ak) 700 aC 79 [.code []] (LA 3 e (hpA n m o many gR M1 M2 [(e.tx,aC,.ptr 4 0)] []++Fh r))).bind (toEnd [Eo n m o gR M1 M2 e (Rc.out many e r).2.1 (Rc.out many e r).2.2 []])):=by
 obtain ⟨kind,tx,thread,obj,op,key,val,ret⟩:=e;obtain ⟨id,th,st,bg,en,tr,Ac,stand⟩:=r;have hk:kind=3:=hk;subst hk;have hw:=wrapM hm;have hl:Ac.length<=1000:=hl;have hd:stand=2->Ac≠[]:=hd;by_cases hs:stand=2
 ·have hd:=hd hs
  have hpos:0<Ac.length:=List.length_pos_iff.2 hd;have hix:zV.toN (zV.sub .i64 (zV.Az Ac.length) (ah 1))=Ac.length - 1:=by
   rw[L9,Ar,CJ,BL (by simp only[fP];omega) (by simp only[fP];omega)];simp only[fP];omega
  have hi:zV.inB (zV.sub .i64 (zV.Az Ac.length) (ah 1)) Ac.length=aC:=by
   rw[L9,Ar,BL (by simp only[fP];omega) (by simp only[fP];omega),Bj];simp only[fP];exact decide_eq_true ⟨by omega,by omega⟩
  have hlast:nth Ac (Ac.length - 1)=Ac.getLast?.getD Row.Jk:=alJ hd;by_cases hf:Ov (Ac.getLast?.getD Row.Jk).op ret=aC
  ·have hq:zV.nt (Ov (nth Ac (zV.toN (zV.sub .i64 (zV.Az Ac.length) (ah 1)))).op ret)=aC->False:=fun q=>by
    rw[hix,hlast,BP,hf] at q;cases q
   have hlen:Ac.length=(FP (fun d:De=>{d with ret:=ret,got:=val,back:=(many:Int)}) Ac).length:=(Sl _ _).symm
   have hup:∀i,i<Ac.length->zV.upd (zV.upd (zV.upd (zW (nth Ac)) (zV.toN (zV.sub .i64 (zV.Az Ac.length) (ah 1))) 4 [.i .i64 ret]) (zV.toN (zV.sub .i64 (zV.Az Ac.length) (ah 1))) 5 [.i .i64 val]) (zV.toN (zV.sub .i64 (zV.Az Ac.length) (ah 1))) 7 [.i .i64 many] i=zW (nth (FP (fun d:De=>{d with ret:=ret,got:=val,back:=(many:Int)}) Ac)) i:=fun i hi=>by
    rw[hix];simp only[zW];rw[Y9 _ _ _ hi];by_cases q:i=Ac.length - 1
    ·rw[if_pos q]
     subst q;simp only[zV,if_true];rfl
    ·rw[if_neg q]
     simp only[zV,if_neg q];rfl
   have e1:Rc.out many ⟨3,tx,thread,obj,op,key,val,ret⟩ ⟨id,th,st,bg,en,tr,Ac,stand⟩=(aK,many+1,⟨id,th,st,bg,en,tr,FP (fun d=>{d with ret:=ret,got:=val,back:=many}) Ac,1⟩):=by
    subst hs;simp only[Rc.out,Rc.step,hf];rfl
   rw[e1];unfold Eo Fh;simp only;rw[ajc zV W5 n m o many gR M1 M2 ⟨3,tx,thread,obj,op,key,val,ret⟩ id th st bg en tr stand Ac.length (nth Ac) (many+1:Nat) id th st bg en tr 1 (FP (fun d:De=>{d with ret:=ret,got:=val,back:=(many:Int)}) Ac).length (zW (nth (FP (fun d:De=>{d with ret:=ret,got:=val,back:=(many:Int)}) Ac))),BZ]
   repeat' (first
    |exact trivial
    |exact hv
    |exact hw
    |exact hi
    |exact hlen
    |exact hup
    |(intro q;exact (hq q).elim)
    |exact eqS _
    |exact rfl
    |exact fun _ _=>rfl
    |(intro q;replace q:=Nq q;first|(exfalso;omega) |skip)
    |(intro q;replace q:=eqF q;first|(exfalso;omega) |skip)
    |intro _
    |refine bW ?_ ?_)
  ·have hf:Ov (Ac.getLast?.getD Row.Jk).op ret=ak:=by simpa using hf
   have hq:zV.nt (Ov (nth Ac (zV.toN (zV.sub .i64 (zV.Az Ac.length) (ah 1)))).op ret)=ak->False:=fun q=>by
    rw[hix,hlast,BP,hf] at q;cases q
   have hlen:=hl;have hup:=hl;have e1:Rc.out many ⟨3,tx,thread,obj,op,key,val,ret⟩ ⟨id,th,st,bg,en,tr,Ac,stand⟩=(ay 13,many,⟨id,th,st,bg,en,tr,Ac,stand⟩):=by
    subst hs;simp only[Rc.out,Rc.step,hf];rfl
   rw[e1];unfold Eo Fh;simp only;rw[ajc zV W5 n m o many gR M1 M2 ⟨3,tx,thread,obj,op,key,val,ret⟩ id th st bg en tr stand Ac.length (nth Ac) (many:Nat) id th st bg en tr stand Ac.length (zW (nth Ac)),BZ];repeat' (first
    |exact trivial
    |exact hv
    |exact hw
    |exact hi
    |exact hlen
    |exact hup
    |(intro q;exact (hq q).elim)
    |exact eqS _
    |exact rfl
    |exact fun _ _=>rfl
    |(intro q;replace q:=Nq q;first|(exfalso;omega) |skip)
    |(intro q;replace q:=eqF q;first|(exfalso;omega) |skip)
    |intro _
    |refine bW ?_ ?_)
 ·have hi:=hl
  have hlen:=hl;have hup:=hl;have hq:=hl;have e1:Rc.out many ⟨3,tx,thread,obj,op,key,val,ret⟩ ⟨id,th,st,bg,en,tr,Ac,stand⟩=(ay 12,many,⟨id,th,st,bg,en,tr,Ac,stand⟩):=by
   have d1:(stand==2)=ak:=by rw[beq_eq_false_iff_ne];omega
   simp only[Rc.out,Rc.step,d1];rfl
  rw[e1];unfold Eo Fh;simp only;rw[ajc zV W5 n m o many gR M1 M2 ⟨3,tx,thread,obj,op,key,val,ret⟩ id th st bg en tr stand Ac.length (nth Ac) (many:Nat) id th st bg en tr stand Ac.length (zW (nth Ac)),BZ];repeat' (first
   |exact trivial
   |exact hv
   |exact hw
   |exact eqS _
   |exact rfl
   |exact fun _ _=>rfl
   |(intro q;replace q:=Nq q;first|(exfalso;omega) |skip)
   |(intro q;replace q:=eqF q;first|(exfalso;omega) |skip)
   |refine bW ?_ ?_)
end
end Go.Ad
namespace Go.Sx
open Go.BF
theorem NR(d:De):(deV d).length=8:=rfl
theorem flat_length:∀l:List De,(l.flatMap deV).length=l.length*8
 |[]=>rfl |d::l=>by simp[flat_length l,NR,Nat.add_mul];omega
theorem abN:∀(l:List De) (i j:Nat),j<8->(l.flatMap deV)[i*8+j]?=(l[i]?).bind fun d=>(deV d)[j]?
 |[],i,j,_=>by simp |d::l,0,j,hj=>by
  simp only[oz,Nat.zero_mul,Nat.zero_add,List.getElem?_cons_zero,eU];rw[dI (by rw[NR];exact hj)]
 |d::l,i+1,j,hj=>by
  simp only[oz,List.getElem?_cons_succ];rw[List.getElem?_append_right (by rw[NR];omega),NR,show (i+1)*8+j - 8=i*8+j by omega];exact abN l i j hj
theorem apD(d:De):∀u∈deV d,u.oneCell'=aC:=fun u hu=>by
 simp[deV] at hu;rcases hu with rfl|rfl|rfl|rfl|rfl|rfl|rfl|rfl<;>rfl
theorem apE{H:Mem}(d:De)(j:Nat)(s:Sh)(v:Value)(h1:(deR d)[j]?=ay s)(h2:(deV d)[j]?=ay v):Rep H s v:=by
 match j,h1,h2 with
 |0,h1,h2=>cases h1;cases h2;exact .i _ _ |1,h1,h2=>cases h1;cases h2;exact .i _ _ |2,h1,h2=>cases h1;cases h2;exact .i _ _ |3,h1,h2=>cases h1;cases h2;exact .i _ _ |4,h1,h2=>cases h1;cases h2;exact .i _ _ |5,h1,h2=>cases h1;cases h2;exact .i _ _ |6,h1,h2=>cases h1;cases h2;exact .i _ _ |7,h1,h2=>cases h1;cases h2;exact .i _ _ |j+8,h1,h2=>simp[deR] at h1
theorem adL{α:Type}[Row α]{l:List α}{i:Nat}(h:i<l.length):l[i]?=ay (nth l i):=by
 simp[nth,aY,h]
theorem Za{H:Mem}(l:List De):BN H 8 l.length (zW (nth l)) (l.flatMap deV):=by
 refine ⟨flat_length l,fun i _=>rfl,fun u hu=>?_,fun i j s v hi h1 h2=>?_⟩
 ·obtain ⟨d,_,hd⟩:=List.mem_flatMap.1 hu
  exact apD d u hd
 ·have hj:j<8:=by
   have:=(aU.1 h1).1;exact this
  rw[abN l i j hj,adL hi] at h2;exact apE (nth l i) j s v h1 h2
theorem abO{H:Mem}{l:List De}{xs:List Value}(h:BN H 8 l.length (zW (nth l)) xs):xs=l.flatMap deV:=by
 apply lC;intro q;by_cases hq:q<l.length*8
 ·have hi:q / 8<l.length:=by omega
  have hj:q % 8<8:=by omega
  have e:q=q / 8*8+q % 8:=by omega
  rw[e,abN l _ _ hj,adL hi];have hx:q / 8*8+q % 8<xs.length:=by rw[h.1];omega
  rw[aV hx];simp only[eU];have hs:∃s,(deR (nth l (q / 8)))[q % 8]?=ay s:=⟨_,aV (by exact hj)⟩;obtain ⟨s,hs⟩:=hs;have hr:=h.2.2.2 (q / 8) (q % 8) s _ hi hs (aV hx);generalize xs[q / 8*8+q % 8]=v at hr;generalize q % 8=j at hs hj hr;match j,hs,hj with
  |0,hs,_=>cases hs;cases hr;rfl |1,hs,_=>cases hs;cases hr;rfl |2,hs,_=>cases hs;cases hr;rfl |3,hs,_=>cases hs;cases hr;rfl |4,hs,_=>cases hs;cases hr;rfl |5,hs,_=>cases hs;cases hr;rfl |6,hs,_=>cases hs;cases hr;rfl |7,hs,_=>cases hs;cases hr;rfl |j+8,_,hj=>omega
 ·rw[jS (by rw[h.1];omega),jS (by rw[flat_length];omega)]
def Gv(R:Nat->Nat):Nat->List Sh:=fun j=>[.v (Dn (R j))]
theorem alK{H:Mem}(R:Nat->Nat)(n:Nat):BN H 1 n (Gv R) ((aX n).map fun i=>Dn (R i)):=by
 refine ⟨by simp,fun i _=>rfl,fun u hu=>?_,fun i j s v hi h1 h2=>?_⟩
 ·obtain ⟨i,_,rfl⟩:=List.mem_map.1 hu
  rfl
 ·have hj:j=0:=by
   have:=(aU.1 h1).1;simp[Gv] at this;exact this
  subst hj;cases h1;simp[hi] at h2;subst h2;exact .v _ rfl
theorem Qu{H:Mem}{R:Nat->Nat}{n:Nat}{xs:List Value}(h:BN H 1 n (Gv R) xs):xs=(aX n).map fun i=>Dn (R i):=by
 apply lC;intro q;by_cases hq:q<n
 ·have hx:q<xs.length:=by rw[h.1];omega
  rw[aV hx];have hr:=h.2.2.2 q 0 _ xs[q] hq rfl (by rw[Nat.mul_one,Nat.add_zero];exact aV hx);generalize xs[q]=v at hr ⊢;cases hr;simp[hq]
 ·rw[jS (by rw[h.1];omega),jS (by simp;omega)]
section
variable{H H':Mem}{E E':Env}{w w':World}{n0:Nat}{g0:Nat->List Sh}{σ σ':Au}{L L':Lay}
theorem Sm(hA:Dc H w n0 g0 σ L){own:Nat->Prop}{V:Tg->Prop}(hown:∀b,own b↔∃t,V t/\L.blk σ.rs.length t=ay b)(hW:DX ⟨w,own,H⟩ H' w')(hH:H.le H')
  (hV:V .au/\V .tx/\V .KP/\V .bu/\V .ob) (hV2:∀i,V (.rc i)↔V (.de i))
  (au:w'.heap[L'.p]?=ay (.cells #[L'.v0,.int .i64 σ'.many,L'.v2,.map (ay L'.b1),.map (ay L'.b2)] 181 (0,0))) (ob:∃xs,w'.ownsRow 0 140 2 L'.v0 n0 xs/\BN H' 2 n0 g0 xs)
  (tx:w'.ownsRow 0 182 1 L'.v2 σ'.rs.length ((aX σ'.rs.length).map fun i=>Dn (L'.R i)))
  (KP:∃ms clk,w'.heap[L'.b1]?=ay (.map ms clk)/\EY .i64 ms.toList clk fun k=>(σ'.JM k).map fun i=>Dn (L'.R i))
  (bu:∃ms clk,w'.heap[L'.b2]?=ay (.map ms clk)/\EY .i64 ms.toList clk fun k=>(σ'.KO k).map fun i=>Dn (L'.R i))
  (rcV:∀i r,σ'.rs[i]?=ay r->V (.rc i)->w'.heap[L'.R i]?=ay (.cells (WS r (L'.D i)) 184 (0,0))/\w'.ownsRow 0 197 8 (L'.D i) r.Ac.length (r.Ac.flatMap deV))
  (old:∀i r,σ'.rs[i]?=ay r->¬V (.rc i)->σ.rs[i]?=ay r/\L'.R i=L.R i/\L'.D i=L.D i)
  (ZN:∀t b,V t->L'.blk σ'.rs.length t=ay b->H' b=aK/\(w.heap.size<=b\/own b))
  (arv:∀s t b,V s->V t->L'.blk σ'.rs.length s=ay b->L'.blk σ'.rs.length t=ay b->s=t) :
  Dc H' w' n0 g0 σ' L'/\∀t b,L'.blk σ'.rs.length t=ay b->w.heap.size<=b\/∃t',L.blk σ.rs.length t'=ay b:=by
 have Tt:∀t b,¬V t->L'.blk σ'.rs.length t=ay b->L.blk σ.rs.length t=ay b:=fun t b hv hb=>by
  cases t with
  |au=>exact (hv hV.1).elim |tx=>exact (hv hV.2.1).elim |KP=>exact (hv hV.2.2.1).elim |bu=>exact (hv hV.2.2.2.1).elim |ob=>exact (hv hV.2.2.2.2).elim |rc i=>
   simp only[Lay.blk] at hb ⊢;split at hb
   ·rename_i hi
    obtain ⟨o1,o2,o3⟩:=old i _ (aV hi) hv;rw[if_pos (aU.1 o1).1,<-o2];exact hb
   ·cases hb
  |de i=>
   simp only[Lay.blk] at hb ⊢;split at hb
   ·rename_i hi
    obtain ⟨o1,o2,o3⟩:=old i _ (aV hi) fun q=>hv ((hV2 i).1 q);rw[if_pos (aU.1 o1).1,<-o3];exact hb
   ·cases hb
 have ZO:∀t b,¬V t->L.blk σ.rs.length t=ay b->¬own b:=fun t b hv hb ho=>by
  obtain ⟨t',h1,h2⟩:=(hown b).1 ho;have:=hA.FQ _ _ _ hb h2;subst this;exact hv h1
 have kept:∀t b,¬V t->L.blk σ.rs.length t=ay b->w'.heap[b]?=w.heap[b]?:=fun t b hv hb=>hW.kept b (hA.lt hb) (ZO t b hv hb);refine ⟨⟨au,ob,tx,KP,bu,fun i r hi=>?_,fun i r hi=>?_,fun s t b hs ht=>?_,fun t b hb=>?_⟩,fun t b hb=>?_⟩
 ·by_cases hv:V (.rc i)
  ·exact (rcV i r hi hv).1
  ·obtain ⟨o1,o2,o3⟩:=old i r hi hv
   rw[o2,o3,kept (.rc i) _ hv (by simp[Lay.blk,(aU.1 o1).1])];exact hA.rc i r o1
 ·by_cases hv:V (.rc i)
  ·exact (rcV i r hi hv).2
  ·obtain ⟨o1,o2,o3⟩:=old i r hi hv
   rw[o3];refine FT (hA.de i r o1) fun b hb=>kept (.de i) b (fun q=>hv ((hV2 i).2 q)) ?_;simp[Lay.blk,(aU.1 o1).1,hb]
 ·by_cases vs:V s<;>by_cases vt:V t
  ·exact arv s t b vs vt hs ht
  ·exfalso
   have h1:=Tt t b vt ht;rcases (ZN s b vs hs).2 with q|q
   ·have:=hA.lt h1;omega
   ·exact ZO t b vt h1 q
  ·exfalso
   have h1:=Tt s b vs hs;rcases (ZN t b vt ht).2 with q|q
   ·have:=hA.lt h1;omega
   ·exact ZO s b vs h1 q
  ·exact hA.FQ s t b (Tt s b vs hs) (Tt t b vt ht)
 ·by_cases hv:V t
  ·exact (ZN t b hv hb).1
  ·have h1:=Tt t b hv hb
   cases hx:H' b with
   |none=>rfl |some o=>
    rcases hW.fresh b (by rw[hx];simp) with q|q|q
    ·exact (q (hA.un t b h1)).elim
    ·have:=hA.lt h1
     have q:w.heap.size<=b:=q;omega
    ·exact (ZO t b hv h1 q).elim
 ·by_cases hv:V t
  ·rcases (ZN t b hv hb).2 with q|q
   ·exact .inl q
   ·obtain ⟨t',_,h2⟩:=(hown b).1 q
    exact .inr ⟨t',h2⟩
  ·exact .inr ⟨t,Tt t b hv hb⟩
end
open Go.BF Go.Ad
def IQ(σ:Au)(L:Lay):Int->Option Value:=fun k=>(σ.JM k).map fun i=>Dn (L.R i)
def Iz(σ:Au)(L:Lay):Int->Option Value:=fun k=>(σ.KO k).map fun i=>Dn (L.R i)
def Ir(L:Lay)(i:Option Nat):Env:=fun id=>match id with
 |0=>ay (Dn L.p) |1=>ay L.v2 |2=>ay (.map (ay L.b1)) |3=>ay (.map (ay L.b2)) |4=>i.map fun i=>Dn (L.R i) |5=>i.map fun i=>L.D i |6=>ay L.v0 |_=>aK
def Vw(i:Option Nat):Tg->Prop
 | .rc j=>i=ay j | .de j=>i=ay j |_=>True
def Ub(i:Nat):Nat->Tg
 |0=>.au |1=>.tx |2=>.KP |3=>.bu |4=>.rc i |5=>.de i |_=>.ob
def awp:Tg->Nat
 | .au=>0 | .tx=>1 | .KP=>2 | .bu=>3 | .rc _=>4 | .de _=>5 | .ob=>6
theorem ahj{i a:Nat}(h:a<7):awp (Ub i a)=a:=by
 match a,h with
 |0,_|1,_|2,_|3,_|4,_|5,_|6,_=>rfl |a+7,h=>omega
theorem adM{i a b:Nat}(ha:a<7)(hb:b<7)(h:Ub i a=Ub i b):a=b:=by
 rw[<-ahj (i:=i) ha,<-ahj (i:=i) hb,h]
section
variable{H H':Mem}{E E':Env}{w w':World}{n:Nat}{o:Nat->Oj}{σ σ':Au}{L L':Lay}
def JH(n:Nat)(o:Nat->Oj)(σ:Au)(L:Lay)(f1 f2:List (Int×Bool×SV)):List (Nat×SB):=hpA n σ.rs.length o σ.many (Gv L.R) (IQ σ L) (Iz σ L) f1 f2
theorem apF(hA:Dc H w n (zW o) σ L)(i:Option Nat){own:Nat->Prop}(hown:∀t b,Vw i t->L.blk σ.rs.length t=ay b->own b){f1 f2:List (Int×Bool×SV)}{v1 v2:List (Int×Option Value)}(h1:F8 H (Ir L i) f1 v1)(h2:F8 H (Ir L i) f2 v2)
  (m1:∀k u,(k,u)∈v1->IQ σ L k=u) (m2:∀k u,(k,u)∈v2->Iz σ L k=u):∀id sb,zX (JH n o σ L f1 f2) id=ay sb->Gg ⟨w,own,H⟩ H (Ir L i) w id sb/\(id<4\/id=6)/\∀b,AL (Ir L i) id sb=ay b->L.blk σ.rs.length (Ub 0 id)=ay b:=by
 intro id sb hl;have mine:∀t b,Vw i t->L.blk σ.rs.length t=ay b->Mine ⟨w,own,H⟩ H b:=fun t b hv hb=>⟨hA.un t b hb,.inr (hown t b hv hb)⟩;match id,hl with
 |0,hl=>
  cases hl;exact ⟨⟨L.p,_,rfl,hA.au,⟨⟨rfl,(let ⟨_,h1,_⟩:=hA.ob;Jf h1)⟩,rfl,⟨rfl,Jf hA.tx⟩,⟨_,rfl,rfl⟩,⟨_,rfl,rfl⟩,trivial⟩,mine .au _ trivial rfl⟩,by decide,fun b hb=>hb⟩
 |1,hl=>
  cases hl;exact ⟨⟨L.v2,_,rfl,hA.tx,alK _ _,fun b hb=>mine .tx b trivial hb⟩,by decide,fun b hb=>hb⟩
 |2,hl=>
  cases hl;obtain ⟨ms,clk,a1,a2⟩:=hA.KP;exact ⟨⟨L.b1,ms,clk,v1,[],rfl,a1,h1,trivial,m1,a2,trivial,mine .KP _ trivial rfl⟩,by decide,fun b hb=>hb⟩
 |3,hl=>
  cases hl;obtain ⟨ms,clk,a1,a2⟩:=hA.bu;exact ⟨⟨L.b2,ms,clk,v2,[],rfl,a1,h2,trivial,m2,a2,trivial,mine .bu _ trivial rfl⟩,by decide,fun b hb=>hb⟩
 |6,hl=>
  cases hl;obtain ⟨xs,a1,a2⟩:=hA.ob;exact ⟨⟨L.v0,xs,rfl,a1,a2,fun b hb=>mine .ob b trivial hb⟩,by decide,fun b hb=>hb⟩
 |4,hl=>simp[JH,hpA,zX] at hl |5,hl=>simp[JH,hpA,zX] at hl |id+7,hl=>simp[JH,hpA,zX] at hl
theorem aje{n:Nat}{o:Nat->Oj}{σ:Au}{L:Lay}{f1 f2:List (Int×Bool×SV)}{r:Rc}{id:Nat}{sb:SB}(h:zX (JH n o σ L f1 f2++Fh r) id=ay sb):
  zX (JH n o σ L f1 f2) id=ay sb\/(id=4/\sb=.box [.sym .i64 r.id,.sym .i64 r.th,.sym .i64 r.st,.sym .i64 r.bg,.sym .i64 r.en,.sym .i64 r.tr,.gs 5,.sym .i64 r.stand] 184)\/(id=5/\sb=.own 197 8 r.Ac.length (zW (nth r.Ac))):=by
 match id,h with
 |0,h=>exact .inl h |1,h=>exact .inl h |2,h=>exact .inl h |3,h=>exact .inl h |4,h=>cases h;exact .inr (.inl ⟨rfl,rfl⟩) |5,h=>cases h;exact .inr (.inr ⟨rfl,rfl⟩) |6,h=>exact .inl h |id+7,h=>simp[JH,hpA,Fh,hpR,zX] at h
theorem arw{i j id:Nat}(h:id<4\/id=6):Ub i id=Ub j id:=by
 match id,h with
 |0,_|1,_|2,_|3,_|6,_=>rfl |4,h=>omega |5,h=>omega |id+7,h=>omega
theorem alL(hA:Dc H w n (zW o) σ L){i:Nat}{r:Rc}(hi:σ.rs[i]?=ay r){own:Nat->Prop}(hown:∀t b,Vw (ay i) t->L.blk σ.rs.length t=ay b->own b){f1 f2:List (Int×Bool×SV)}{v1 v2:List (Int×Option Value)}
  (h1:F8 H (Ir L (ay i)) f1 v1) (h2:F8 H (Ir L (ay i)) f2 v2) (m1:∀k u,(k,u)∈v1->IQ σ L k=u) (m2:∀k u,(k,u)∈v2->Iz σ L k=u) :
  Ai ⟨w,own,H⟩ H (Ir L (ay i)) w (JH n o σ L f1 f2++Fh r):=by
 have hlt:=(aU.1 hi).1;have key:∀id sb,zX (JH n o σ L f1 f2++Fh r) id=ay sb->Gg ⟨w,own,H⟩ H (Ir L (ay i)) w id sb/\id<7/\∀b,AL (Ir L (ay i)) id sb=ay b->L.blk σ.rs.length (Ub i id)=ay b:=fun id sb hl=>by
  rcases aje hl with hl|⟨rfl,rfl⟩ |⟨rfl,rfl⟩
  ·obtain ⟨a1,a2,a3⟩:=apF hA (ay i) hown h1 h2 m1 m2 id sb hl
   exact ⟨a1,by omega,fun b hb=>by rw[arw (j:=0) a2];exact a3 b hb⟩
  ·have hb:L.blk σ.rs.length (.rc i)=ay (L.R i):=by simp[Lay.blk,hlt]
   exact ⟨⟨L.R i,_,rfl,hA.rc i r hi,⟨rfl,rfl,rfl,rfl,rfl,rfl,⟨rfl,Jf (hA.de i r hi)⟩,rfl,trivial⟩,⟨hA.un _ _ hb,.inr (hown (.rc i) _ rfl hb)⟩⟩,by decide,fun b hb'=>by
    cases hb';exact hb⟩
  ·have hb:∀b,Ah (L.D i)=ay b->L.blk σ.rs.length (.de i)=ay b:=fun b hb=>by simp[Lay.blk,hlt,hb]
   exact ⟨⟨L.D i,_,rfl,hA.de i r hi,Za _,fun b hb'=>⟨hA.un _ _ (hb b hb'),.inr (hown (.de i) _ rfl (hb b hb'))⟩⟩,by decide,fun b hb'=>hb b hb'⟩
 refine ⟨fun id sb hl=>(key id sb hl).1,fun id id' sb sb' b l1 l2 o1 o2=>?_⟩;obtain ⟨_,a1,a2⟩:=key id sb l1;obtain ⟨_,b1,b2⟩:=key id' sb' l2;exact adM a1 b1 (hA.FQ _ _ _ (a2 b o1) (b2 b o2))
theorem abP(hA:Dc H w n (zW o) σ L){own:Nat->Prop}(hown:∀t b,Vw aK t->L.blk σ.rs.length t=ay b->own b){f1 f2:List (Int×Bool×SV)}{v1 v2:List (Int×Option Value)}
  (h1:F8 H (Ir L aK) f1 v1) (h2:F8 H (Ir L aK) f2 v2) (m1:∀k u,(k,u)∈v1->IQ σ L k=u) (m2:∀k u,(k,u)∈v2->Iz σ L k=u) :
  Ai ⟨w,own,H⟩ H (Ir L aK) w (JH n o σ L f1 f2):=by
 have key:=apF hA aK hown h1 h2 m1 m2;refine ⟨fun id sb hl=>(key id sb hl).1,fun id id' sb sb' b l1 l2 o1 o2=>?_⟩;obtain ⟨_,a1,a2⟩:=key id sb l1;obtain ⟨_,b1,b2⟩:=key id' sb' l2;exact adM (i:=0) (by omega) (by omega) (hA.FQ _ _ _ (a2 b o1) (b2 b o2))
theorem apG(hA:Dc H w n (zW o) σ L){i:Nat}{r:Rc}(hi:σ.rs[i]?=ay r){f1 f2:List (Int×Bool×SV)}(b:Nat):
  KX (Ir L (ay i)) (JH n o σ L f1 f2++Fh r) b↔∃t,Vw (ay i) t/\L.blk σ.rs.length t=ay b:=by
 have hlt:=(aU.1 hi).1;constructor
 ·rintro ⟨id,sb,hl,hb⟩
  match id,hl with
  |0,hl=>cases hl;exact ⟨.au,trivial,hb⟩ |1,hl=>cases hl;exact ⟨.tx,trivial,hb⟩ |2,hl=>cases hl;exact ⟨.KP,trivial,hb⟩ |3,hl=>cases hl;exact ⟨.bu,trivial,hb⟩ |4,hl=>cases hl;exact ⟨.rc i,rfl,by cases hb;simp[Lay.blk,hlt]⟩ |5,hl=>cases hl;exact ⟨.de i,rfl,by simp only[Lay.blk,if_pos hlt];exact hb⟩ |6,hl=>cases hl;exact ⟨.ob,trivial,hb⟩ |id+7,hl=>simp[JH,hpA,Fh,hpR,zX] at hl
 ·rintro ⟨t,hv,hb⟩
  cases t with
  |au=>exact ⟨0,_,rfl,hb⟩ |tx=>exact ⟨1,_,rfl,hb⟩ |KP=>exact ⟨2,_,rfl,hb⟩ |bu=>exact ⟨3,_,rfl,hb⟩ |ob=>exact ⟨6,_,rfl,hb⟩ |rc j=>
   cases hv;simp only[Lay.blk,if_pos hlt] at hb;exact ⟨4,_,rfl,hb⟩
  |de j=>
   cases hv;simp only[Lay.blk,if_pos hlt] at hb;exact ⟨5,_,rfl,hb⟩
theorem adN{f1 f2:List (Int×Bool×SV)}(b:Nat):
  KX (Ir L aK) (JH n o σ L f1 f2) b↔∃t,Vw aK t/\L.blk σ.rs.length t=ay b:=by
 constructor
 ·rintro ⟨id,sb,hl,hb⟩
  match id,hl with
  |0,hl=>cases hl;exact ⟨.au,trivial,hb⟩ |1,hl=>cases hl;exact ⟨.tx,trivial,hb⟩ |2,hl=>cases hl;exact ⟨.KP,trivial,hb⟩ |3,hl=>cases hl;exact ⟨.bu,trivial,hb⟩ |4,hl=>simp[JH,hpA,zX] at hl |5,hl=>simp[JH,hpA,zX] at hl |6,hl=>cases hl;exact ⟨.ob,trivial,hb⟩ |id+7,hl=>simp[JH,hpA,zX] at hl
 ·rintro ⟨t,hv,hb⟩
  cases t with
  |au=>exact ⟨0,_,rfl,hb⟩ |tx=>exact ⟨1,_,rfl,hb⟩ |KP=>exact ⟨2,_,rfl,hb⟩ |bu=>exact ⟨3,_,rfl,hb⟩ |ob=>exact ⟨6,_,rfl,hb⟩ |rc j=>cases hv |de j=>cases hv
end
open Go.BF Go.Ad
section
variable{H H':Mem}{E E':Env}{w w':World}{n:Nat}{o:Nat->Oj}{σ σ':Au}{L L':Lay}
theorem O8{r:List (Int×Option Value)}(h:F8 H E [] r):r=[]:=by
 cases r with
 |nil=>rfl |cons _ _=>exact h.elim
theorem alM{t:Int}{x:SV}{r:List (Int×Option Value)}(h:F8 H E [(t,ak,x)] r):r=[(t,aK)]:=by
 match r,h with
 |[(k,o)],⟨h1,h2,_⟩=>
  cases o with
  |none=>rw[h1] |some v=>exact h2.elim
 |[],h=>exact h.elim |(_,_)::_::_,⟨_,_,h⟩=>exact h.elim
def ahk(σ σ':Au)(us:List (Int×Bool×SV)):Prop:=
 (us=[]/\∀k,σ'.KO k=σ.KO k)\/∃t x,us=[(t,ak,x)]/\∀k,σ'.KO k=if k=t then aK else σ.KO k
theorem ajf{own:Nat->Prop}(hA:Dc H w n (zW o) σ L){i:Nat}{r0:Rc}(hi:σ.rs[i]?=ay r0)(hown:∀b,own b↔∃t,Vw (ay i) t/\L.blk σ.rs.length t=ay b)
  {e:Ev} {many':Nat} {r:Rc} {us:List (Int×Bool×SV)} (hh:Ai ⟨w,own,H⟩ H' E' w' (Eo n σ.rs.length o (Gv L.R) (IQ σ L) (Iz σ L) e many' r us).hp) (hW:DX ⟨w,own,H⟩ H' w') (hH:H.le H')
  (h0:E' 0=ay (Dn L.p)) (h4:E' 4=ay (Dn (L.R i))) (hby:∀k,(⟨many',σ.rs.set i r⟩:Au).JM k=σ.JM k) (hbu:ahk σ ⟨many',σ.rs.set i r⟩ us) :
  ∃L',Dc H' w' n (zW o) ⟨many',σ.rs.set i r⟩ L'/\L'.p=L.p/\∀t b,L'.blk (σ.rs.set i r).length t=ay b->w.heap.size<=b\/∃t',L.blk σ.rs.length t'=ay b:=by
 have hlt:=(aU.1 hi).1;obtain ⟨p,⟨cs⟩,p1,p2,p3,p4⟩:=hh.ent 0 _ rfl;match cs,p3 with
 |[u0,u1,u2,u3,u4],⟨d0,d1,d2,d3,d4,_⟩=>
  have d1:u1=.int .i64 many':=d1;obtain ⟨d0,_⟩:E' 6=ay u0/\_:=d0;obtain ⟨d2,_⟩:E' 1=ay u2/\_:=d2;obtain ⟨b1,d3,d3'⟩:=d3;obtain ⟨b2,d4,d4'⟩:=d4;subst d1 d3' d4';rw[h0] at p1;have hp:L.p=p:=by
   have:=dD p1;simp[Dn] at this;exact this
  subst hp;have hob:∃xs,w'.ownsRow 0 140 2 u0 n xs/\BN H' 2 n (zW o) xs:=by
   obtain ⟨v,xs,x1,x2,x3,_⟩:=hh.ent 6 _ rfl;rw[d0] at x1;cases x1;exact ⟨xs,x2,x3⟩
  obtain ⟨v2,xs,q1,q2,q3,q4⟩:=hh.ent 1 _ rfl;rw[d2] at q1;cases q1;obtain rfl:=Qu q3;obtain ⟨b1',ms1,WT,fv1,uv1,s1,s2,s3,s4,s5,s6,_,s7⟩:=hh.ent 2 _ rfl;rw[d3] at s1;cases s1;obtain rfl:=O8 s4;obtain ⟨b2',ms2,WU,fv2,uv2,t1,t2,t3,t4,t5,t6,_,t7⟩:=hh.ent 3 _ rfl;rw[d4] at t1;cases t1;obtain ⟨pr,⟨cr⟩,r1,r2,r3,r4⟩:=hh.ent 4 _ rfl;rw[h4] at r1;have hpr:L.R i=pr:=by
   have:=dD r1;simp[Dn] at this;exact this
  subst hpr;match cr,r3 with
  |[c0,c1,c2,c3,c4,c5,c6,c7],⟨e0,e1,e2,e3,e4,e5,e6,e7,_⟩=>
   have e0:c0=.int .i64 r.id:=e0;have e1:c1=.int .i64 r.th:=e1;have e2:c2=.int .i64 r.st:=e2;have e3:c3=.int .i64 r.bg:=e3;have e4:c4=.int .i64 r.en:=e4;have e5:c5=.int .i64 r.tr:=e5;have e7:c7=.int .i64 r.stand:=e7;obtain ⟨e6,_⟩:E' 5=ay c6/\_:=e6;subst e0 e1 e2 e3 e4 e5 e7;obtain ⟨vd,xd,g1,g2,g3,g4⟩:=hh.ent 5 _ rfl;rw[e6] at g1;cases g1;obtain rfl:=abO g3;let L':Lay:=⟨L.p,u0,u2,b1,b2,L.R,fun j=>if j=i then c6 else L.D j⟩
   have hlen:(σ.rs.set i r).length=σ.rs.length:=by simp
   have hbl:∀t b,Vw (ay i) t->L'.blk (σ.rs.set i r).length t=ay b->∃id sb,id<7/\Ub i id=t/\zX (Eo n σ.rs.length o (Gv L.R) (IQ σ L) (Iz σ L) e many' r us).hp id=ay sb/\AL E' id sb=ay b:=fun t b hv hb=>by
    cases t with
    |au=>exact ⟨0,_,by decide,rfl,rfl,by simp only[AL,h0];exact hb⟩ |tx=>exact ⟨1,_,by decide,rfl,rfl,by simp only[AL,d2];exact hb⟩ |KP=>exact ⟨2,_,by decide,rfl,rfl,by simp only[AL,d3];exact hb⟩ |bu=>exact ⟨3,_,by decide,rfl,rfl,by simp only[AL,d4];exact hb⟩ |ob=>exact ⟨6,_,by decide,rfl,rfl,by simp only[AL,d0];exact hb⟩ |rc j=>
     cases hv;refine ⟨4,_,by decide,rfl,rfl,?_⟩;simp only[Lay.blk,hlen,if_pos hlt] at hb;simp only[AL,h4];exact hb
    |de j=>
     cases hv;refine ⟨5,_,by decide,rfl,rfl,?_⟩;simp only[Lay.blk,hlen,if_pos hlt,L'] at hb;simp only[AL,e6];simpa using hb
   have mk:=Sm (H':=H') (w':=w') (σ':=⟨many',σ.rs.set i r⟩) (L':=L') hA hown hW hH ⟨trivial,trivial,trivial,trivial,trivial⟩ (fun _=>yX) p2 hob (by rw[hlen];exact q2)
    ⟨ms1,WT,s2,by
     have:(fun k=>((⟨many',σ.rs.set i r⟩:Au).JM k).map fun i=>Dn (L'.R i))=TI (IQ σ L) []:=by
      funext k;rw[hby k];rfl
     rw[this];exact s6⟩
    ⟨ms2,WU,t2,by
     have:(fun k=>((⟨many',σ.rs.set i r⟩:Au).KO k).map fun i=>Dn (L'.R i))=TI (Iz σ L) uv2:=by
      rcases hbu with ⟨rfl,hb⟩ |⟨t,x,rfl,hb⟩
      ·obtain rfl:=O8 t4
       funext k;rw[hb k];rfl
      ·obtain rfl:=alM t4
       funext k;rw[hb k];simp only[TI];by_cases hk:k=t
       ·simp[hk]
       ·simp[hk,Iz,L']
     rw[this];exact t6⟩
    (fun j rj hj hv=>by
     cases hv;have:rj=r:=by
      simp[kY,hlt] at hj;exact hj.symm
     subst this;simp only[L',if_true];exact ⟨r2,g2⟩)
    (fun j rj hj hv=>by
     have hne:¬j=i:=fun q=>hv (by rw[q];exact rfl);refine ⟨?_,rfl,if_neg hne⟩;simpa[kY,Ne.symm hne] using hj)
    (fun t b hv hb=>by
     obtain ⟨id,sb,_,_,a3,a4⟩:=hbl t b hv hb;exact ⟨((hh.ent _ _ a3).lt a4).2.1,((hh.ent _ _ a3).lt a4).2.2⟩)
    (fun s t b hs ht bs bt=>by
     obtain ⟨id,sb,a1,a2,a3,a4⟩:=hbl s b hs bs;obtain ⟨id',sb',b1,b2,b3,b4⟩:=hbl t b ht bt;have:=hh.FQ _ _ _ _ _ a3 b3 a4 b4;subst this;rw[<-a2,<-b2])
   exact ⟨L',mk.1,rfl,mk.2⟩
end
open Go.BF Go.Ad
section
variable{H H':Mem}{E E':Env}{w w':World}{n:Nat}{o:Nat->Oj}{σ σ':Au}{L L':Lay}
theorem ahl{own:Nat->Prop}(hA:Dc H w n (zW o) σ L)(hown:∀b,own b↔∃t,Vw aK t/\L.blk σ.rs.length t=ay b)
  {f1 f2:List (Int×Bool×SV)} (hh:Ai ⟨w,own,H⟩ H' E' w' (toN n σ.rs.length o σ.many (Gv L.R) (IQ σ L) (Iz σ L) f1 f2).hp) (hW:DX ⟨w,own,H⟩ H' w') (hH:H.le H')
  (h0:E' 0=ay (Dn L.p)) :
  ∃L',Dc H' w' n (zW o) σ L'/\L'.p=L.p/\∀t b,L'.blk σ.rs.length t=ay b->w.heap.size<=b\/∃t',L.blk σ.rs.length t'=ay b:=by
 obtain ⟨p,⟨cs⟩,p1,p2,p3,p4⟩:=hh.ent 0 _ rfl;match cs,p3 with
 |[u0,u1,u2,u3,u4],⟨d0,d1,d2,d3,d4,_⟩=>
  have d1:u1=.int .i64 σ.many:=d1;obtain ⟨d0,_⟩:E' 6=ay u0/\_:=d0;obtain ⟨d2,_⟩:E' 1=ay u2/\_:=d2;obtain ⟨b1,d3,d3'⟩:=d3;obtain ⟨b2,d4,d4'⟩:=d4;subst d1 d3' d4';rw[h0] at p1;have hp:L.p=p:=by
   have:=dD p1;simp[Dn] at this;exact this
  subst hp;have hob:∃xs,w'.ownsRow 0 140 2 u0 n xs/\BN H' 2 n (zW o) xs:=by
   obtain ⟨v,xs,x1,x2,x3,_⟩:=hh.ent 6 _ rfl;rw[d0] at x1;cases x1;exact ⟨xs,x2,x3⟩
  obtain ⟨v2,xs,q1,q2,q3,q4⟩:=hh.ent 1 _ rfl;rw[d2] at q1;cases q1;obtain rfl:=Qu q3;obtain ⟨b1',ms1,WT,fv1,uv1,s1,s2,s3,s4,s5,s6,_,s7⟩:=hh.ent 2 _ rfl;rw[d3] at s1;cases s1;obtain rfl:=O8 s4;obtain ⟨b2',ms2,WU,fv2,uv2,t1,t2,t3,t4,t5,t6,_,t7⟩:=hh.ent 3 _ rfl;rw[d4] at t1;cases t1;obtain rfl:=O8 t4;let L':Lay:=⟨L.p,u0,u2,b1,b2,L.R,L.D⟩
  have hbl:∀t b,Vw aK t->L'.blk σ.rs.length t=ay b->∃id sb,id<7/\Ub 0 id=t/\zX (toN n σ.rs.length o σ.many (Gv L.R) (IQ σ L) (Iz σ L) f1 f2).hp id=ay sb/\AL E' id sb=ay b:=fun t b hv hb=>by
   cases t with
   |au=>exact ⟨0,_,by decide,rfl,rfl,by simp only[AL,h0];exact hb⟩ |tx=>exact ⟨1,_,by decide,rfl,rfl,by simp only[AL,d2];exact hb⟩ |KP=>exact ⟨2,_,by decide,rfl,rfl,by simp only[AL,d3];exact hb⟩ |bu=>exact ⟨3,_,by decide,rfl,rfl,by simp only[AL,d4];exact hb⟩ |ob=>exact ⟨6,_,by decide,rfl,rfl,by simp only[AL,d0];exact hb⟩ |rc j=>cases hv |de j=>cases hv
  have mk:=Sm (H':=H') (w':=w') (σ':=σ) (L':=L') hA hown hW hH ⟨trivial,trivial,trivial,trivial,trivial⟩ (fun _=>yX) p2 hob q2 ⟨ms1,WT,s2,s6⟩ ⟨ms2,WU,t2,t6⟩
   (fun j rj hj hv=>by cases hv) (fun j rj hj hv=>⟨hj,rfl,rfl⟩)
   (fun t b hv hb=>by
    obtain ⟨id,sb,_,_,a3,a4⟩:=hbl t b hv hb;exact ⟨((hh.ent _ _ a3).lt a4).2.1,((hh.ent _ _ a3).lt a4).2.2⟩)
   (fun s t b hs ht bs bt=>by
    obtain ⟨id,sb,a1,a2,a3,a4⟩:=hbl s b hs bs;obtain ⟨id',sb',b1,b2,b3,b4⟩:=hbl t b ht bt;have:=hh.FQ _ _ _ _ _ a3 b3 a4 b4;subst this;rw[<-a2,<-b2])
  exact ⟨L',mk.1,rfl,mk.2⟩
theorem adO{t:Int}{x y:SV}{r:List (Int×Option Value)}(h:F8 H E [(t,aC,x),(t,aC,y)] r):∃u v,r=[(t,ay u),(t,ay v)]/\Den H E x u:=by
 match r,h with
 |[(k,p),(k',q)],⟨h1,h2,h3,h4,_⟩=>
  cases p with
  |none=>exact h2.elim |some u=>
   cases q with
   |none=>exact h4.elim |some v=>exact ⟨u,v,by rw[h1,h3],h2.1⟩
 |[],h=>exact h.elim |[(_,_)],⟨_,_,h⟩=>exact h.elim |(_,_)::(_,_)::_::_,⟨_,_,_,_,h⟩=>exact h.elim
theorem Zb{α:Type}{p:α->Bool}{l:List α}{i:Nat}(h:l.findIdx? p=ay i):i<l.length:=by
 rw[List.findIdx?_eq_some_iff_findIdx_eq] at h;exact h.1
theorem ajg{own:Nat->Prop}(hA:Dc H w n (zW o) σ L)(hown:∀b,own b↔∃t,Vw aK t/\L.blk σ.rs.length t=ay b)
  {e:Ev} {many':Nat} {r:Rc} (hd:r.Ac=[]) (hh:Ai ⟨w,own,H⟩ H' E' w' (toB n σ.rs.length o (Gv L.R) (IQ σ L) (Iz σ L) e many' r.id r.th r.st r.bg r.en r.tr r.stand).hp) (hW:DX ⟨w,own,H⟩ H' w') (hH:H.le H')
  (h0:E' 0=ay (Dn L.p)) (hby:∀k,(⟨many',σ.rs++[r]⟩:Au).JM k=if k=e.tx then ay σ.rs.length else σ.JM k) (hbu:∀k,(⟨many',σ.rs++[r]⟩:Au).KO k=if k=e.thread then ay σ.rs.length else σ.KO k) :
  ∃L',Dc H' w' n (zW o) ⟨many',σ.rs++[r]⟩ L'/\L'.p=L.p/\∀t b,L'.blk (σ.rs++[r]).length t=ay b->w.heap.size<=b\/∃t',L.blk σ.rs.length t'=ay b:=by
 obtain ⟨p,⟨cs⟩,p1,p2,p3,p4⟩:=hh.ent 0 _ rfl;match cs,p3 with
 |[u0,u1,u2,u3,u4],⟨d0,d1,d2,d3,d4,_⟩=>
  have d1:u1=.int .i64 many':=d1;obtain ⟨d0,_⟩:E' 6=ay u0/\_:=d0;obtain ⟨d2,_⟩:E' 1=ay u2/\_:=d2;obtain ⟨b1,d3,d3'⟩:=d3;obtain ⟨b2,d4,d4'⟩:=d4;subst d1 d3' d4';rw[h0] at p1;have hp:L.p=p:=by
   have:=dD p1;simp[Dn] at this;exact this
  subst hp;obtain ⟨pr,⟨cr⟩,r1,r2,r3,r4⟩:=hh.ent 4 _ rfl;have apH:∀{u:Value},Den H' E' (.ptr 4 0) u->u=Dn pr:=fun {u} h=>by
   obtain ⟨b,h1,h2⟩:=h;rw[r1] at h1;cases h1;exact h2
  have hob:∃xs,w'.ownsRow 0 140 2 u0 n xs/\BN H' 2 n (zW o) xs:=by
   obtain ⟨v,xs,x1,x2,x3,_⟩:=hh.ent 6 _ rfl;rw[d0] at x1;cases x1;exact ⟨xs,x2,x3⟩
  obtain ⟨v2,xs,ys,q1,q2,q3,q5,_,_,q4⟩:=hh.ent 1 _ rfl;rw[d2] at q1;cases q1;obtain rfl:=Qu q3;match ys,q5 with
  |[y],⟨q5,_⟩=>
  obtain rfl:=apH q5;obtain ⟨b1',ms1,WT,fv1,uv1,s1,s2,s3,s4,s5,s6,_,s7⟩:=hh.ent 2 _ rfl;rw[d3] at s1;cases s1;obtain ⟨x1,x2,rfl,x3⟩:=adO s4;obtain rfl:=apH x3;obtain ⟨b2',ms2,WU,fv2,uv2,t1,t2,t3,t4,t5,t6,_,t7⟩:=hh.ent 3 _ rfl;rw[d4] at t1;cases t1;obtain ⟨y1,y2,rfl,y3⟩:=adO t4;obtain rfl:=apH y3;match cr,r3 with
  |[c0,c1,c2,c3,c4,c5,c6,c7],⟨e0,e1,e2,e3,e4,e5,e6,e7,_⟩=>
   have e0:c0=.int .i64 r.id:=e0;have e1:c1=.int .i64 r.th:=e1;have e2:c2=.int .i64 r.st:=e2;have e3:c3=.int .i64 r.bg:=e3;have e4:c4=.int .i64 r.en:=e4;have e5:c5=.int .i64 r.tr:=e5;have e6:c6=.slice aK 0 0:=e6;have e7:c7=.int .i64 r.stand:=e7;subst e0 e1 e2 e3 e4 e5 e6 e7;let L':Lay:=⟨L.p,u0,u2,b1,b2,fun j=>if j=σ.rs.length then pr else L.R j,fun j=>if j=σ.rs.length then .slice aK 0 0 else L.D j⟩
   have hlen:(σ.rs++[r]).length=σ.rs.length+1:=by simp
   have hown':∀b,own b↔∃t,Vw (ay σ.rs.length) t/\L.blk σ.rs.length t=ay b:=fun b=>by
    rw[hown b];constructor
    ·rintro ⟨t,h1,h2⟩
     refine ⟨t,?_,h2⟩;cases t with
     |rc j=>cases h1 |de j=>cases h1 |_=>trivial
    ·rintro ⟨t,h1,h2⟩
     refine ⟨t,?_,h2⟩;cases t with
     |rc j=>cases h1;simp[Lay.blk] at h2 |de j=>cases h1;simp[Lay.blk] at h2 |_=>trivial
   have hbl:∀t b,Vw (ay σ.rs.length) t->L'.blk (σ.rs++[r]).length t=ay b->∃id sb,id<7/\Ub σ.rs.length id=t/\zX (toB n σ.rs.length o (Gv L.R) (IQ σ L) (Iz σ L) e many' r.id r.th r.st r.bg r.en r.tr r.stand).hp id=ay sb/\AL E' id sb=ay b:=fun t b hv hb=>by
    cases t with
    |au=>exact ⟨0,_,by decide,rfl,rfl,by simp only[AL,h0];exact hb⟩ |tx=>exact ⟨1,_,by decide,rfl,rfl,by simp only[AL,d2];exact hb⟩ |KP=>exact ⟨2,_,by decide,rfl,rfl,by simp only[AL,d3];exact hb⟩ |bu=>exact ⟨3,_,by decide,rfl,rfl,by simp only[AL,d4];exact hb⟩ |ob=>exact ⟨6,_,by decide,rfl,rfl,by simp only[AL,d0];exact hb⟩ |rc j=>
     cases hv;refine ⟨4,_,by decide,rfl,rfl,?_⟩;simp[Lay.blk,L'] at hb;simp only[AL,r1];rw[<-hb];rfl
    |de j=>
     cases hv;simp[Lay.blk,L',Ah] at hb
   have hR:∀j,j<σ.rs.length->L'.R j=L.R j:=fun j hj=>if_neg (by omega);have hmap:∀(f:Option Nat),(∀j,f=ay j->j<σ.rs.length)->(f.map fun i=>Dn (L'.R i))=f.map fun i=>Dn (L.R i):=fun f hf=>by
    cases f with
    |none=>rfl |some j=>simp[hR j (hf j rfl)]
   have mk:=Sm (H':=H') (w':=w') (σ':=⟨many',σ.rs++[r]⟩) (L':=L') hA hown' hW hH ⟨trivial,trivial,trivial,trivial,trivial⟩ (fun _=>yX) p2 hob
    (by
     have e:(aX (σ.rs++[r]).length).map (fun i=>Dn (L'.R i))=(aX σ.rs.length).map (fun i=>Dn (L.R i))++[Dn pr]:=by
      rw[hlen,List.range_succ,List.map_append];congr 1
      ·exact List.map_congr_left fun i hi=>by rw[hR i (List.mem_range.1 hi)]
      ·simp[L']
     rw[e,hlen];exact q2)
    ⟨ms1,WT,s2,by
     have:(fun k=>((⟨many',σ.rs++[r]⟩:Au).JM k).map fun i=>Dn (L'.R i))=TI (IQ σ L) [(e.tx,ay (Dn pr)),(e.tx,ay x2)]:=by
      funext k;rw[hby k];simp only[TI];by_cases hk:k=e.tx
      ·simp[hk,L']
      ·rw[if_neg hk,if_neg hk,if_neg hk]
       exact hmap _ fun j hj=>Zb hj
     rw[this];exact s6⟩
    ⟨ms2,WU,t2,by
     have:(fun k=>((⟨many',σ.rs++[r]⟩:Au).KO k).map fun i=>Dn (L'.R i))=TI (Iz σ L) [(e.thread,ay (Dn pr)),(e.thread,ay y2)]:=by
      funext k;rw[hbu k];simp only[TI];by_cases hk:k=e.thread
      ·simp[hk,L']
      ·rw[if_neg hk,if_neg hk,if_neg hk]
       exact hmap _ fun j hj=>Zb hj
     rw[this];exact t6⟩
    (fun j rj hj hv=>by
     cases hv;have:rj=r:=by simpa using hj.symm
     subst this;simp only[L',if_true];refine ⟨r2,?_⟩;rw[hd];exact OI _ _ _)
    (fun j rj hj hv=>by
     have hne:¬j=σ.rs.length:=fun q=>hv (by rw[q];exact rfl);have hj2:=(aU.1 hj).1;rw[hlen] at hj2;refine ⟨?_,if_neg hne,if_neg hne⟩;rwa[dI (by omega)] at hj)
    (fun t b hv hb=>by
     obtain ⟨id,sb,_,_,a3,a4⟩:=hbl t b hv hb;exact ⟨((hh.ent _ _ a3).lt a4).2.1,((hh.ent _ _ a3).lt a4).2.2⟩)
    (fun s t b hs ht bs bt=>by
     obtain ⟨id,sb,a1,a2,a3,a4⟩:=hbl s b hs bs;obtain ⟨id',sb',b1,b2,b3,b4⟩:=hbl t b ht bt;have:=hh.FQ _ _ _ _ _ a3 b3 a4 b4;subst this;rw[<-a2,<-b2])
   exact ⟨L',mk.1,rfl,mk.2⟩
end
end Go.Sx
namespace Go.BF
open Go Go.Sx
theorem LQ{α:Type}{p:α->Bool}{x:α}:∀{l:List α} {i:Nat} {y:α},l[i]?=ay y->p x=p y->(l.set i x).findIdx? p=l.findIdx? p
 |[],_,_,h,_=>by simp at h |a::l,0,y,h,hp=>by
  simp at h;subst h;simp[jD,hp]
 |a::l,i+1,y,h,hp=>by
  simp only[List.set_cons_succ,jD];rw[LQ (l:=l) (by simpa using h) hp]
theorem Sr{α:Type}{p:α->Bool}:∀{l:List α} {i:Nat},l.findIdx? p=ay i->∃y,l[i]?=ay y/\p y=aC
 |[],_,h=>by simp at h |a::l,i,h=>by
  rw[jD] at h;cases ha:p a with
  |true=>rw[ha] at h;simp at h;subst h;exact ⟨a,rfl,ha⟩ |false=>
   rw[ha] at h;simp at h;obtain ⟨j,hj,rfl⟩:=h;obtain ⟨y,h1,h2⟩:=Sr hj;exact ⟨y,by simpa using h1,h2⟩
theorem ahm{α:Type}{p:α->Bool}{l:List α}(h:∀(i:Nat) (y:α),l[i]?=ay y->p y=ak):l.findIdx? p=aK:=by
 rw[List.findIdx?_eq_none_iff];intro x hx;obtain ⟨i,hi,rfl⟩:=List.getElem_of_mem hx;exact h i _ (aV hi)
theorem Ox{α:Type}{p:α->Bool}{x:α}:∀{l:List α},(l++[x]).findIdx? p=match l.findIdx? p with|some i=>ay i|none=>if p x then ay l.length else aK
 |[]=>by simp[jD] |a::l=>by
  simp only[List.cons_append,jD];cases ha:p a with
  |true=>simp |false=>
   simp only[Bool.false_eq_true,if_false];rw[Ox (l:=l)];cases l.findIdx? p with
   |some i=>rfl |none=>
    cases hx:p x<;>simp
theorem auE{α:Type}{P:α->Prop}{c:Bool}{a b:α}(ha:P a)(hb:P b):P (bif c then a else b):=by
 cases c
 ·exact hb
 ·exact ha
theorem Qv{many:Nat}{e:Ev}{r r':Rc}(h:Rc.step many e r=.inr r'):r'.id=r.id/\r'.th=r.th:=by
 have:(fun x:Nat ⊕ Rc=>∀r',x=.inr r'->r'.id=r.id/\r'.th=r.th) (Rc.step many e r):=by
  unfold Rc.step;repeat' (refine auE (P:=fun x:Nat ⊕ Rc=>∀r',x=.inr r'->r'.id=r.id/\r'.th=r.th) ?_ ?_)
  all_goals
   intro r' h;first
    |(cases h;done)
    |(cases h;exact ⟨rfl,rfl⟩)
 exact this r' h
theorem U5{many:Nat}{e:Ev}{r r':Rc}(h:Rc.step many e r=.inr r')(hk:2<=e.kind/\e.kind<=7)(hs:1<=r.stand/\r.stand<=5):r.live=aC/\(1<=r'.stand/\r'.stand<=5)/\(r'.live=aC↔¬(e.kind=5\/e.kind=6)):=by
 unfold Rc.step at h;unfold Rc.live;by_cases k2:e.kind=2
 ·simp only[k2,beq_self_eq_true,cond_true] at h
  by_cases q:r.stand=1
  ·simp only[q,beq_self_eq_true,cond_true] at h;cases h;simp[q];omega
  ·have:(r.stand==1)=ak:=by simpa using q
   rw[this] at h;cases h
 by_cases k3:e.kind=3
 ·simp only[k3,show ((3:Int)==2)=ak from rfl,beq_self_eq_true,cond_true,cond_false] at h
  by_cases q:r.stand=2
  ·simp only[q,beq_self_eq_true,cond_true] at h
   cases f:Ov (r.Ac.getLast?.getD Row.Jk).op e.ret<;>simp only[f,cond_true,cond_false] at h<;>cases h
   simp[q];omega
  ·have:(r.stand==2)=ak:=by simpa using q
   rw[this] at h;cases h
 by_cases k4:e.kind=4
 ·simp only[k4,show ((4:Int)==2)=ak from rfl,show ((4:Int)==3)=ak from rfl,beq_self_eq_true,cond_true,cond_false] at h
  by_cases q:r.stand=1
  ·simp only[q,beq_self_eq_true,cond_true] at h;cases h;simp[q];omega
  ·have:(r.stand==1)=ak:=by simpa using q
   rw[this] at h;cases h
 by_cases k7:e.kind=7
 ·simp only[k7,show ((7:Int)==2)=ak from rfl,show ((7:Int)==3)=ak from rfl,show ((7:Int)==4)=ak from rfl,beq_self_eq_true,cond_true,cond_false] at h
  by_cases q:r.stand=1
  ·simp only[q,beq_self_eq_true,cond_true] at h;cases h;simp[q];omega
  ·have:(r.stand==1)=ak:=by simpa using q
   rw[this] at h;cases h
 by_cases k5:e.kind=5
 ·simp only[k5,show ((5:Int)==2)=ak from rfl,show ((5:Int)==3)=ak from rfl,show ((5:Int)==4)=ak from rfl,show ((5:Int)==7)=ak from rfl,beq_self_eq_true,cond_true,cond_false] at h
  by_cases q:r.stand=3
  ·simp only[q,beq_self_eq_true,cond_true] at h;cases h;simp[q];omega
  ·have:(r.stand==3)=ak:=by simpa using q
   rw[this] at h;cases h
 have k6:e.kind=6:=by omega
 simp only[k6,show ((6:Int)==2)=ak from rfl,show ((6:Int)==3)=ak from rfl,show ((6:Int)==4)=ak from rfl,show ((6:Int)==7)=ak from rfl,show ((6:Int)==5)=ak from rfl,cond_false] at h;by_cases q:r.stand=5
 ·rw[q] at h;cases h
 ·have:(r.stand==1||r.stand==2||r.stand==3||r.stand==4)=aC:=by
   simp;omega
  rw[this] at h;cases h;simp[q];omega
end Go.BF
namespace Go.Ad
open Go Go.Sx Go.BF
section
variable{n m:Nat}{o:Nat->Oj}{many:Nat}{gR:Nat->List Sh}{M1 M2:Int->Option Value}
theorem alN(hm:many<400){e:Ev}(h1:0<=e.obj)(h2:e.obj<n)(h3:Dy e.op=(o e.obj.toNat).kind)(hk:e.kind=2)(hv:BO e=aC):
  Ez (FX [toN n m o many gR M1 M2 [(e.tx,ak,.any)] []] (fun sv k=>sv=svE (ay 11)/\k=0)) ((run (C5 zV W5 Cc Ak) 700 aC 79 [.code []] (LA 2 e (hpA n m o many gR M1 M2 [(e.tx,ak,.any)] []))).bind (toEnd [toN n m o many gR M1 M2 [(e.tx,ak,.any)] []])):=by
 obtain ⟨kind,tx,thread,obj,op,key,val,ret⟩:=e;have hk:kind=2:=hk;subst hk;have hw:=hm;have hroom:=hm;have h1:0<=obj:=h1;have h2:obj<n:=h2;have h3:Dy op=(o obj.toNat).kind:=h3;have ho:zV.le (zV.Az n) obj=aC->False:=fun q=>by simp[Dw,Ar] at q;omega
 have hi:zV.inB obj n=aC:=by simp[Bj];omega
 have hq:zV.nt (zV.eq (Dy op) (o (zV.toN obj)).kind)=aC->False:=fun q=>by
  simp[BP,Ap,CJ] at q;exact q h3
 rw[aut zV W5 n m o many gR M1 M2 ⟨2,tx,thread,obj,op,key,val,ret⟩ many,BZ];repeat' (first
  |exact trivial
  |exact hv
  |exact hw
  |exact hi
  |exact hroom
  |exact eqS _
  |exact rfl
  |exact fun _ _=>rfl
  |(intro q;exact (ho q).elim)
  |(intro q;exact (hq q).elim)
  |(intro q;replace q:=Nq q;first|(exfalso;omega) |skip)
  |(intro q;replace q:=eqF q;first|(exfalso;omega) |skip)
  |intro _
  |refine bW ?_ ?_)
theorem alO(hm:many<400){e:Ev}(hk:e.kind=3)(hv:BO e=aC):
  Ez (FX [toN n m o many gR M1 M2 [(e.tx,ak,.any)] []] (fun sv k=>sv=svE (ay 11)/\k=0)) ((run (C5 zV W5 Cc Ak) 700 aC 79 [.code []] (LA 3 e (hpA n m o many gR M1 M2 [(e.tx,ak,.any)] []))).bind (toEnd [toN n m o many gR M1 M2 [(e.tx,ak,.any)] []])):=by
 obtain ⟨kind,tx,thread,obj,op,key,val,ret⟩:=e;have hk:kind=3:=hk;subst hk;have hw:=hm;have hroom:=hm;have ho:=hm;have hi:=hm;have hq:=hm;rw[auu zV W5 n m o many gR M1 M2 ⟨3,tx,thread,obj,op,key,val,ret⟩ many,BZ];repeat' (first
  |exact trivial
  |exact hv
  |exact hw
  |exact hi
  |exact hroom
  |exact eqS _
  |exact rfl
  |exact fun _ _=>rfl
  |(intro q;exact (ho q).elim)
  |(intro q;exact (hq q).elim)
  |(intro q;replace q:=Nq q;first|(exfalso;omega) |skip)
  |(intro q;replace q:=eqF q;first|(exfalso;omega) |skip)
  |intro _
  |refine bW ?_ ?_)
theorem alP(hm:many<400){e:Ev}(hk:e.kind=4)(hv:BO e=aC):
  Ez (FX [toN n m o many gR M1 M2 [(e.tx,ak,.any)] []] (fun sv k=>sv=svE (ay 11)/\k=0)) ((run (C5 zV W5 Cc Ak) 700 aC 79 [.code []] (LA 4 e (hpA n m o many gR M1 M2 [(e.tx,ak,.any)] []))).bind (toEnd [toN n m o many gR M1 M2 [(e.tx,ak,.any)] []])):=by
 obtain ⟨kind,tx,thread,obj,op,key,val,ret⟩:=e;have hk:kind=4:=hk;subst hk;have hw:=hm;have hroom:=hm;have ho:=hm;have hi:=hm;have hq:=hm;rw[auv zV W5 n m o many gR M1 M2 ⟨4,tx,thread,obj,op,key,val,ret⟩ many,BZ];repeat' (first
  |exact trivial
  |exact hv
  |exact hw
  |exact hi
  |exact hroom
  |exact eqS _
  |exact rfl
  |exact fun _ _=>rfl
  |(intro q;exact (ho q).elim)
  |(intro q;exact (hq q).elim)
  |(intro q;replace q:=Nq q;first|(exfalso;omega) |skip)
  |(intro q;replace q:=eqF q;first|(exfalso;omega) |skip)
  |intro _
  |refine bW ?_ ?_)
theorem alQ(hm:many<400){e:Ev}(hk:e.kind=5)(hv:BO e=aC):
  Ez (FX [toN n m o many gR M1 M2 [(e.tx,ak,.any)] []] (fun sv k=>sv=svE (ay 11)/\k=0)) ((run (C5 zV W5 Cc Ak) 700 aC 79 [.code []] (LA 5 e (hpA n m o many gR M1 M2 [(e.tx,ak,.any)] []))).bind (toEnd [toN n m o many gR M1 M2 [(e.tx,ak,.any)] []])):=by
 obtain ⟨kind,tx,thread,obj,op,key,val,ret⟩:=e;have hk:kind=5:=hk;subst hk;have hw:=hm;have hroom:=hm;have ho:=hm;have hi:=hm;have hq:=hm;rw[auw zV W5 n m o many gR M1 M2 ⟨5,tx,thread,obj,op,key,val,ret⟩ many,BZ];repeat' (first
  |exact trivial
  |exact hv
  |exact hw
  |exact hi
  |exact hroom
  |exact eqS _
  |exact rfl
  |exact fun _ _=>rfl
  |(intro q;exact (ho q).elim)
  |(intro q;exact (hq q).elim)
  |(intro q;replace q:=Nq q;first|(exfalso;omega) |skip)
  |(intro q;replace q:=eqF q;first|(exfalso;omega) |skip)
  |intro _
  |refine bW ?_ ?_)
theorem alR(hm:many<400){e:Ev}(hk:e.kind=6)(hv:BO e=aC):
  Ez (FX [toN n m o many gR M1 M2 [(e.tx,ak,.any)] []] (fun sv k=>sv=svE (ay 11)/\k=0)) ((run (C5 zV W5 Cc Ak) 700 aC 79 [.code []] (LA 6 e (hpA n m o many gR M1 M2 [(e.tx,ak,.any)] []))).bind (toEnd [toN n m o many gR M1 M2 [(e.tx,ak,.any)] []])):=by
 obtain ⟨kind,tx,thread,obj,op,key,val,ret⟩:=e;have hk:kind=6:=hk;subst hk;have hw:=hm;have hroom:=hm;have ho:=hm;have hi:=hm;have hq:=hm;rw[auy zV W5 n m o many gR M1 M2 ⟨6,tx,thread,obj,op,key,val,ret⟩ many,BZ];repeat' (first
  |exact trivial
  |exact hv
  |exact hw
  |exact hi
  |exact hroom
  |exact eqS _
  |exact rfl
  |exact fun _ _=>rfl
  |(intro q;exact (ho q).elim)
  |(intro q;exact (hq q).elim)
  |(intro q;replace q:=Nq q;first|(exfalso;omega) |skip)
  |(intro q;replace q:=eqF q;first|(exfalso;omega) |skip)
  |intro _
  |refine bW ?_ ?_)
theorem alS(hm:many<400){e:Ev}(hk:e.kind=7)(hv:BO e=aC):
  Ez (FX [toN n m o many gR M1 M2 [(e.tx,ak,.any)] []] (fun sv k=>sv=svE (ay 11)/\k=0)) ((run (C5 zV W5 Cc Ak) 700 aC 79 [.code []] (LA 7 e (hpA n m o many gR M1 M2 [(e.tx,ak,.any)] []))).bind (toEnd [toN n m o many gR M1 M2 [(e.tx,ak,.any)] []])):=by
 obtain ⟨kind,tx,thread,obj,op,key,val,ret⟩:=e;have hk:kind=7:=hk;subst hk;have hw:=hm;have hroom:=hm;have ho:=hm;have hi:=hm;have hq:=hm;rw[auz zV W5 n m o many gR M1 M2 ⟨7,tx,thread,obj,op,key,val,ret⟩ many,BZ];repeat' (first
  |exact trivial
  |exact hv
  |exact hw
  |exact hi
  |exact hroom
  |exact eqS _
  |exact rfl
  |exact fun _ _=>rfl
  |(intro q;exact (ho q).elim)
  |(intro q;exact (hq q).elim)
  |(intro q;replace q:=Nq q;first|(exfalso;omega) |skip)
  |(intro q;replace q:=eqF q;first|(exfalso;omega) |skip)
  |intro _
  |refine bW ?_ ?_)
theorem apI(hm:many<400){e:Ev}(hk:e.kind=1)(hv:BO e=aC)(r:Rc):
  Ez (FX [Eo n m o gR M1 M2 e many r []] (fun sv k=>sv=svE (ay 9)/\k=0)) ((run (C5 zV W5 Cc Ak) 700 aC 79 [.code []] (LA 1 e (hpA n m o many gR M1 M2 [(e.tx,aC,.ptr 4 0)] []++Fh r))).bind (toEnd [Eo n m o gR M1 M2 e many r []])):=by
 obtain ⟨kind,tx,thread,obj,op,key,val,ret⟩:=e;obtain ⟨id,th,st,bg,en,tr,Ac,stand⟩:=r;have hk:kind=1:=hk;subst hk;have hw:=hm;have hroom:=hm;have ho:=hm;have hi:=hm;have hq:=hm;unfold Eo Fh;simp only;rw[auA zV W5 n m o many gR M1 M2 ⟨1,tx,thread,obj,op,key,val,ret⟩ id th st bg en tr stand Ac.length (nth Ac) many id th st bg en tr stand Ac.length (zW (nth Ac)),BZ];repeat' (first
  |exact trivial
  |exact hv
  |exact hw
  |exact hi
  |exact hroom
  |exact eqS _
  |exact rfl
  |exact fun _ _=>rfl
  |(intro q;exact (ho q).elim)
  |(intro q;exact (hq q).elim)
  |(intro q;replace q:=Nq q;first|(exfalso;omega) |skip)
  |(intro q;replace q:=eqF q;first|(exfalso;omega) |skip)
  |intro _
  |refine bW ?_ ?_)
theorem arx(hm:many<400){e:Ev}(hk:e.kind=1)(hv:BO e=aC)(q:Nat):
  Ez (FX [toN n m o many gR M1 M2 [(e.tx,ak,.any)] [(e.thread,aC,.val (.pointer (ay ⟨q,0,aK⟩)))]] (fun sv k=>sv=svE (ay 10)/\k=0)) ((run (C5 zV W5 Cc Ak) 700 aC 79 [.code []] (LA 1 e (hpA n m o many gR M1 M2 [(e.tx,ak,.any)] [(e.thread,aC,.val (.pointer (ay ⟨q,0,aK⟩)))]))).bind (toEnd [toN n m o many gR M1 M2 [(e.tx,ak,.any)] [(e.thread,aC,.val (.pointer (ay ⟨q,0,aK⟩)))]])):=by
 obtain ⟨kind,tx,thread,obj,op,key,val,ret⟩:=e;have hk:kind=1:=hk;subst hk;have hw:=hm;have hroom:=hm;have ho:=hm;have hi:=hm;have hq:=hm;rw[auB zV W5 n m o many gR M1 M2 ⟨1,tx,thread,obj,op,key,val,ret⟩ q many,BZ];repeat' (first
  |exact trivial
  |exact hv
  |exact hw
  |exact hi
  |exact hroom
  |exact eqS _
  |exact rfl
  |exact fun _ _=>rfl
  |(intro q;exact (ho q).elim)
  |(intro q;exact (hq q).elim)
  |(intro q;replace q:=Nq q;first|(exfalso;omega) |skip)
  |(intro q;replace q:=eqF q;first|(exfalso;omega) |skip)
  |intro _
  |refine bW ?_ ?_)
theorem apJ(hm:many<400)(hl:m<=1000){e:Ev}(hk:e.kind=1)(hv:BO e=aC):
  Ez (FX [toB n m o gR M1 M2 e (many+1:Nat) e.tx e.thread 1 many (-1) (-1) 1] (fun sv k=>sv=svE aK/\k=0)) ((run (C5 zV W5 Cc Ak) 700 aC 79 [.code []] (LA 1 e (hpA n m o many gR M1 M2 [(e.tx,ak,.any)] [(e.thread,ak,.any)]))).bind (toEnd [toB n m o gR M1 M2 e (many+1:Nat) e.tx e.thread 1 many (-1) (-1) 1])):=by
 obtain ⟨kind,tx,thread,obj,op,key,val,ret⟩:=e;have hk:kind=1:=hk;subst hk;have hw:=wrapM hm;have hroom:zV.room (zV.addN m 1) 8=aC:=by
  show decide ((m+1)*8<=140737488355328/\m+1<=maxLen)=aC;rw[maxLen_eq];exact decide_eq_true ⟨by omega,by omega⟩
 have ho:=hm;have hi:=hm;have hq:=hm;rw[auC zV W5 n m o many gR M1 M2 ⟨1,tx,thread,obj,op,key,val,ret⟩ (many+1:Nat) tx thread 1 many (-1) (-1) 1,BZ];repeat' (first
  |exact trivial
  |exact hv
  |exact hw
  |exact hi
  |exact hroom
  |exact eqS _
  |exact rfl
  |exact fun _ _=>rfl
  |(intro q;exact (ho q).elim)
  |(intro q;exact (hq q).elim)
  |(intro q;replace q:=Nq q;first|(exfalso;omega) |skip)
  |(intro q;replace q:=eqF q;first|(exfalso;omega) |skip)
  |intro _
  |refine bW ?_ ?_)
end
open Go Go.Sx Go.BF
def apK(H:Mem):Option Nat->Value->Prop
 |none,v=>v=.nilIface |some k,v=>Rep H (.er k 329) v
theorem abQ{H:Mem}{E:Env}{x:Option Nat}{v:Value}(h:Den H E (svE x) v):apK H x v:=by
 cases x with
 |none=>exact h |some k=>exact h
def QG(L:Lay)(k:Nat):Nat->Prop:=fun b=>∃t,L.blk k t=ay b
def O9(H:Mem)(w:World)(n:Nat)(o:Nat->Oj)(σ:Au)(L:Lay)(x:Option Nat)(σ':Au)(en:Ending)(w':World):Prop:=
 ∃v H' L',en=.returned v/\apK H' x v/\Dc H' w' n (zW o) σ' L'/\L'.p=L.p/\(∀t b,L'.blk σ'.rs.length t=ay b->w.heap.size<=b\/QG L σ.rs.length b)/\H.le H'/\DX ⟨w,QG L σ.rs.length,H⟩ H' w'
theorem Tv{w w':World}{H H':Mem}{own own':Nat->Prop}(h:DX ⟨w,own,H⟩ H' w')(ho:∀b,own b->own' b):DX ⟨w,own',H⟩ H' w':=
 ⟨h.os,h.tape,h.output,h.size,fun b hb hn=>h.kept b hb fun q=>hn (ho b q),h.on,h.le,fun b hb=>by
  rcases h.fresh b hb with q|q|q
  ·exact .inl q
  ·exact .inr (.inl q)
  ·exact .inr (.inr (ho b q))⟩
def Yi(e:Ev):Value:=.agg #[.int .i64 e.kind,.int .i64 e.tx,.int .i64 e.thread,.int .i64 e.obj,.int .i64 e.op,.int .i64 e.key,.int .i64 e.val,.int .i64 e.ret]
@[irreducible] def akB (H:Mem) (E:Env) (l:List SV) (vs:List Value):Prop:=Af H E l vs
theorem ahn{H:Mem}{E:Env}{l:List SV}{vs:List Value}:akB H E l vs=Af H E l vs:=by unfold akB;rfl
theorem Sv{P:Program}{C:Ctx}{H:Mem}{E:Env}{w:World}(hC:A8 P C)(hF:Bz P C){n g:Nat}{fn:Func}{c:Core}{args:Array Value}{ts:List QK}{φ:SV->Nat->Prop}(hfn:C.fns.get g=ay fn)(hb:fn.body.isSome=aC)
  (hd:akB H E c.tm (args++dX (fn.ntmps - args.size) undef).toList) (hh:Ai ⟨w,KX E c.hp,H⟩ H E w c.hp) (hon:H.on w) (hfree:Free E c) (hg:CS C.gls H)
  (h:Ez (FX ts φ) ((run C n aC g [.code []] c).bind (toEnd ts))) :
  Calls P g args w fun e w'=>∃v sv k t H' E1 E',e=.returned v/\φ sv k/\ts[k]?=ay t/\Den H' E1 sv v/\Ai ⟨w,KX E c.hp,H⟩ H' E' w' t.hp/\DX ⟨w,KX E c.hp,H⟩ H' w'/\H.le H'/\∀i∈t.keep,∀u,E i=ay u->E' i=ay u:=by
 rw[ahn] at hd;exact ait hC hF hfn hb hd hh hon hfree hg h
theorem apL(a b u:Value)(k:Nat):(#[a,b]++dX k u).toList=[a,b]++dR k u:=by simp
theorem ae5{H:Mem}{E:Env}{L:Lay}{e:Ev}{kind:Int}{hp:List (Nat×SB)}(hk:e.kind=kind)(h0:E 0=ay (Dn L.p)):akB H E (LA kind e hp).tm (#[Dn L.p,Yi e]++dX (jh.ntmps - #[Dn L.p,Yi e].size) undef).toList:=by
 have hn:jh.ntmps=168:=by kernel_rfl
 rw[ahn,hn,apL];have e1:(LA kind e hp).tm=[.ptr 0 0,evS kind e]++dR 166 .any:=rfl;have e3:168 - #[Dn L.p,Yi e].size=166:=rfl;rw[e1,e3];refine Af.append ⟨⟨L.p,by rw[h0];rfl,rfl⟩,⟨_,rfl,⟨by rw[<-hk];rfl,rfl,rfl,rfl,rfl,rfl,rfl,rfl,trivial⟩⟩,trivial⟩ (Af.any _ _ ?_);rw[List.length_replicate]
theorem U6{L:Lay}{i:Option Nat}{c:Core}(h:c.nx=7):Free (Ir L i) c:=fun id h1 _=>by
 rw[h] at h1;match id,h1 with
 |id+7,_=>rfl
section
variable{H:Mem}{w:World}{n:Nat}{o:Nat->Oj}{σ:Au}{L:Lay}{e:Ev}
theorem J9(hA:Dc H w n (zW o) σ L)(hon:H.on w)(hg:CS (Fv W5) H){i:Nat}{r:Rc}(hi:σ.rs[i]?=ay r)(hby:σ.JM e.tx=ay i){kind:Int}(hk:e.kind=kind){ts:List QK}{φ:SV->Nat->Prop}
  (hrun:Ez (FX ts φ) ((run (C5 zV W5 Cc Ak) 700 aC 79 [.code []] (LA kind e (hpA n σ.rs.length o σ.many (Gv L.R) (IQ σ L) (Iz σ L) [(e.tx,aC,.ptr 4 0)] []++Fh r))).bind (toEnd ts)))
  {x:Option Nat} {many':Nat} {r':Rc} (hid:r'.id=r.id)
  (hts:∀sv k t,φ sv k->ts[k]?=ay t->sv=svE x/\∃us,t=Eo n σ.rs.length o (Gv L.R) (IQ σ L) (Iz σ L) e many' r' us/\ahk σ ⟨many',σ.rs.set i r'⟩ us) :
  Calls aB 79 #[Dn L.p,Yi e] w (O9 H w n o σ L x ⟨many',σ.rs.set i r'⟩):=by
 have hown:=apG (f1:=[(e.tx,aC,.ptr 4 0)]) (f2:=[]) hA hi;have abR:=alL (own:=KX (Ir L (ay i)) (JH n o σ L [(e.tx,aC,.ptr 4 0)] []++Fh r)) hA hi (fun t b h1 h2=>(hown b).2 ⟨t,h1,h2⟩) (f1:=[(e.tx,aC,.ptr 4 0)]) (f2:=[]) (v1:=[(e.tx,ay (Dn (L.R i)))]) (v2:=[])
  ⟨rfl,⟨⟨L.R i,rfl,rfl⟩,rfl⟩,trivial⟩ trivial (fun k u hm=>by
   simp at hm;obtain ⟨rfl,rfl⟩:=hm;simp[IQ,hby]) (fun k u hm=>by simp at hm)
 have hd:=ae5 (H:=H) (E:=Ir L (ay i)) (L:=L) (hp:=hpA n σ.rs.length o σ.many (Gv L.R) (IQ σ L) (Iz σ L) [(e.tx,aC,.ptr 4 0)] []++Fh r) hk rfl;refine (Sv (args:=#[Dn L.p,Yi e]) (fn:=jh) (c:=LA kind e (hpA n σ.rs.length o σ.many (Gv L.R) (IQ σ L) (Iz σ L) [(e.tx,aC,.ptr 4 0)] []++Fh r)) (jU _ _) (ajd _) (by kernel_rfl) (by kernel_rfl) hd abR hon (U6 rfl) hg hrun).mono fun en w' ⟨v,sv,k,t,H',E1,E',h1,h2,h3,h4,h5,h6,h7,h8⟩=>?_;obtain ⟨hsv,us,rfl,hus⟩:=hts sv k t h2 h3;subst hsv;obtain ⟨L',a1,a2,a3⟩:=ajf hA hi hown h5 h6 h7 (h8 0 (by simp[Eo,toR]) _ rfl) (h8 4 (by simp[Eo,toR]) _ rfl)
  (fun k=>LQ hi (by simp[hid])) hus
 exact ⟨v,H',L',h1,abQ h4,a1,a2,a3,h7,Tv h6 fun b hb=>by
  obtain ⟨t,_,q⟩:=(hown b).1 hb;exact ⟨t,q⟩⟩
theorem abS(hA:Dc H w n (zW o) σ L)(hon:H.on w)(hg:CS (Fv W5) H)(hby:σ.JM e.tx=aK){kind:Int}(hk:e.kind=kind){f2:List (Int×Bool×SV)}{v2:List (Int×Option Value)}(d2:F8 H (Ir L aK) f2 v2)(m2:∀k u,(k,u)∈v2->Iz σ L k=u){x:Option Nat}
  (hrun:Ez (FX [toN n σ.rs.length o σ.many (Gv L.R) (IQ σ L) (Iz σ L) [(e.tx,ak,.any)] f2] (fun sv k=>sv=svE x/\k=0)) ((run (C5 zV W5 Cc Ak) 700 aC 79 [.code []] (LA kind e (hpA n σ.rs.length o σ.many (Gv L.R) (IQ σ L) (Iz σ L) [(e.tx,ak,.any)] f2))).bind (toEnd [toN n σ.rs.length o σ.many (Gv L.R) (IQ σ L) (Iz σ L) [(e.tx,ak,.any)] f2]))) :
  Calls aB 79 #[Dn L.p,Yi e] w (O9 H w n o σ L x σ):=by
 have hown:=adN (n:=n) (o:=o) (σ:=σ) (L:=L) (f1:=[(e.tx,ak,.any)]) (f2:=f2);have abR:=abP (own:=KX (Ir L aK) (JH n o σ L [(e.tx,ak,.any)] f2)) hA (fun t b h1 h2=>(hown b).2 ⟨t,h1,h2⟩) (f1:=[(e.tx,ak,.any)]) (f2:=f2) (v1:=[(e.tx,aK)]) (v2:=v2)
  ⟨rfl,trivial,trivial⟩ d2 (fun k u hm=>by
   simp at hm;obtain ⟨rfl,rfl⟩:=hm;simp[IQ,hby]) m2
 have hd:=ae5 (H:=H) (E:=Ir L aK) (L:=L) (hp:=hpA n σ.rs.length o σ.many (Gv L.R) (IQ σ L) (Iz σ L) [(e.tx,ak,.any)] f2) hk rfl;refine (Sv (args:=#[Dn L.p,Yi e]) (fn:=jh) (c:=LA kind e (hpA n σ.rs.length o σ.many (Gv L.R) (IQ σ L) (Iz σ L) [(e.tx,ak,.any)] f2)) (jU _ _) (ajd _) (by kernel_rfl) (by kernel_rfl) hd abR hon (U6 rfl) hg hrun).mono fun en w' ⟨v,sv,k,t,H',E1,E',h1,h2,h3,h4,h5,h6,h7,h8⟩=>?_;obtain ⟨rfl,rfl⟩:=h2;cases h3;obtain ⟨L',a1,a2,a3⟩:=ahl hA hown h5 h6 h7 (h8 0 (by simp[toN]) _ rfl);exact ⟨v,H',L',h1,abQ h4,a1,a2,a3,h7,Tv h6 fun b hb=>by
  obtain ⟨t,_,q⟩:=(hown b).1 hb;exact ⟨t,q⟩⟩
theorem alT(hA:Dc H w n (zW o) σ L)(hon:H.on w)(hg:CS (Fv W5) H)(hm:σ.many<400)(hl:σ.rs.length<=1000)(hby:σ.JM e.tx=aK)(hbu:σ.KO e.thread=aK)(hk:e.kind=1)(hv:BO e=aC):
  Calls aB 79 #[Dn L.p,Yi e] w (O9 H w n o σ L aK ⟨σ.many+1,σ.rs++[⟨e.tx,e.thread,1,σ.many,-1,-1,[],1⟩]⟩):=by
 have hown:=adN (n:=n) (o:=o) (σ:=σ) (L:=L) (f1:=[(e.tx,ak,.any)]) (f2:=[(e.thread,ak,.any)]);have abR:=abP (own:=KX (Ir L aK) (JH n o σ L [(e.tx,ak,.any)] [(e.thread,ak,.any)])) hA (fun t b h1 h2=>(hown b).2 ⟨t,h1,h2⟩) (f1:=[(e.tx,ak,.any)]) (f2:=[(e.thread,ak,.any)]) (v1:=[(e.tx,aK)]) (v2:=[(e.thread,aK)])
  ⟨rfl,trivial,trivial⟩ ⟨rfl,trivial,trivial⟩ (fun k u hm=>by
   simp at hm;obtain ⟨rfl,rfl⟩:=hm;simp[IQ,hby]) (fun k u hm=>by
   simp at hm;obtain ⟨rfl,rfl⟩:=hm;simp[Iz,hbu])
 have hd:=ae5 (H:=H) (E:=Ir L aK) (L:=L) (hp:=hpA n σ.rs.length o σ.many (Gv L.R) (IQ σ L) (Iz σ L) [(e.tx,ak,.any)] [(e.thread,ak,.any)]) hk rfl;refine (Sv (args:=#[Dn L.p,Yi e]) (fn:=jh) (c:=LA 1 e (hpA n σ.rs.length o σ.many (Gv L.R) (IQ σ L) (Iz σ L) [(e.tx,ak,.any)] [(e.thread,ak,.any)])) (jU _ _) (ajd _) (by kernel_rfl) (by kernel_rfl) hd abR hon (U6 rfl) hg (apJ hm hl hk hv)).mono fun en w' ⟨v,sv,k,t,H',E1,E',h1,h2,h3,h4,h5,h6,h7,h8⟩=>?_;obtain ⟨rfl,rfl⟩:=h2;cases h3;obtain ⟨L',a1,a2,a3⟩:=ajg (r:=⟨e.tx,e.thread,1,σ.many,-1,-1,[],1⟩) hA hown rfl h5 h6 h7 (h8 0 (by simp[toB]) _ rfl)
  (fun k=>by
   show (σ.rs++[_]).findIdx? _=_;rw[Ox];by_cases q:k=e.tx
   ·subst q
    rw[if_pos rfl,show σ.rs.findIdx? (fun r=>r.id==e.tx)=aK from hby];simp
   ·rw[if_neg q]
    unfold Au.JM;cases σ.rs.findIdx? fun r=>r.id==k with
    |some j=>rfl |none=>simp;exact fun h=>(q h.symm).elim)
  (fun k=>by
   show (σ.rs++[_]).findIdx? _=_;rw[Ox];by_cases q:k=e.thread
   ·subst q
    rw[if_pos rfl,show σ.rs.findIdx? (fun r=>r.th==e.thread&&r.live)=aK from hbu];simp[Rc.live]
   ·rw[if_neg q]
    unfold Au.KO;cases σ.rs.findIdx? fun r=>r.th==k&&r.live with
    |some j=>rfl |none=>simp;exact fun h=>(q h.symm).elim)
 exact ⟨v,H',L',h1,abQ h4,a1,a2,a3,h7,Tv h6 fun b hb=>by
  obtain ⟨t,_,q⟩:=(hown b).1 hb;exact ⟨t,q⟩⟩
end
end Go.Ad
namespace Go.BF
open Go Go.Sx
theorem Tz{α:Type}{l:List α}{i:Nat}{x:α}(h:l[i]?=ay x):l.set i x=l:=by
 apply lC;intro j;rw[kY];by_cases q:i=j
 ·subst q
  rw[if_pos rfl,if_pos (aU.1 h).1,h]
 ·rw[if_neg q]
theorem MB(many:Nat)(e:Ev)(r:Rc):(Rc.out many e r).2.2.id=r.id:=by
 unfold Rc.out;cases h:Rc.step many e r with
 |inl k=>rfl |inr r'=>exact (Qv h).1
theorem ajh{σ:Au}{e:Ev}{i:Nat}{r:Rc}(hi:σ.rs[i]?=ay r)(hby:σ.JM e.tx=ay i)(hk:¬e.kind=1):σ.feed e=((Rc.out σ.many e r).1,⟨(Rc.out σ.many e r).2.1,σ.rs.set i (Rc.out σ.many e r).2.2⟩):=by
 have h1:(e.kind==1)=ak:=by simpa using hk
 have hr:σ.rs.getD i ⟨0,0,0,0,0,0,[],0⟩=r:=by rw[aY,hi];rfl
 unfold Au.feed;rw[hby];simp only[h1,cond_false,hr];unfold Rc.out;cases h:Rc.step σ.many e r with
 |inl k=>simp only[Tz hi] |inr r'=>rfl
theorem Zc{e:Ev}(h:BO e=aC):1<=e.kind/\e.kind<=7:=by
 unfold BO at h;simp only[aH] at h;have:=of_decide_eq_true h.1.1;exact this.1
end Go.BF
namespace Go.Ad
open Go Go.Sx Go.BF
theorem Sz{σ:Au}{i:Nat}{r:Rc}{e:Ev}(hi:σ.rs[i]?=ay r)(hs:1<=r.stand/\r.stand<=5)(hk:2<=e.kind/\e.kind<=7)(hn:¬(e.kind=5\/e.kind=6)\/(Rc.out σ.many e r).1.isNone=ak):ahk σ ⟨(Rc.out σ.many e r).2.1,σ.rs.set i (Rc.out σ.many e r).2.2⟩ []:=by
 refine .inl ⟨rfl,fun k=>?_⟩;unfold Rc.out at hn ⊢;cases h:Rc.step σ.many e r with
 |inl x=>simp only[Tz hi] |inr r'=>
  rw[h] at hn;have hn:¬(e.kind=5\/e.kind=6):=by simpa using hn
  obtain ⟨l1,l2,l3⟩:=U5 h hk hs;exact LQ hi (by rw[(Qv h).2,l1,l3.2 hn])
theorem arz{σ:Au}(hI:σ.OK){i:Nat}{r:Rc}{e:Ev}(hi:σ.rs[i]?=ay r)(hk:e.kind=5\/e.kind=6)(hn:(Rc.out σ.many e r).1.isNone=aC):ahk σ ⟨(Rc.out σ.many e r).2.1,σ.rs.set i (Rc.out σ.many e r).2.2⟩ [(r.th,ak,.any)]:=by
 refine .inr ⟨r.th,.any,rfl,fun k=>?_⟩;unfold Rc.out at hn ⊢;cases h:Rc.step σ.many e r with
 |inl x=>rw[h] at hn;cases hn |inr r'=>
  obtain ⟨l1,l2,l3⟩:=U5 h (by omega) (hI.stands i r hi);have hl:r'.live=ak:=by
   cases q:r'.live with
   |false=>rfl |true=>exact (l3.1 q hk).elim
  have ht:=(Qv h).2;have hlt:=(aU.1 hi).1;by_cases q:k=r.th
  ·rw[if_pos q]
   subst q;refine ahm fun j y hj=>?_
   rw[kY] at hj;by_cases e1:i=j
   ·rw[if_pos e1,if_pos (by omega)] at hj
    cases hj;rw[hl,Bool.and_false]
   ·rw[if_neg e1] at hj
    cases h1:(y.th==r.th&&y.live) with
    |false=>rfl |true=>
     simp only[aH,beq_iff_eq] at h1;exact (e1 (hI.one i j r y hi hj h1.1.symm l1 h1.2)).elim
  ·rw[if_neg q]
   refine LQ hi ?_;rw[ht];have:(r.th==k)=ak:=by simpa using fun h:r.th=k=>q h.symm
   rw[this];rfl
section
variable{H:Mem}{w:World}{n:Nat}{o:Nat->Oj}{σ:Au}{L:Lay}{e:Ev}
theorem ts1{t0 t:QK}{k:Nat}(h:[t0][k]?=ay t)(hk:k=0):t=t0:=by
 subst hk;cases h;rfl
theorem apN(hA:Dc H w n (zW o) σ L)(hI:σ.OK)(hon:H.on w)(hg:CS (Fv W5) H)(hm:σ.many<400)(hv:BO e=aC)(hob:e.kind=2->0<=e.obj/\e.obj<n/\Dy e.op=(o e.obj.toNat).kind):
  Calls aB 79 #[Dn L.p,Yi e] w (O9 H w n o σ L (σ.feed e).1 (σ.feed e).2):=by
 have hkd:=Zc hv;have hlen:=hI.len;cases hby:σ.JM e.tx with
 |some i=>
  obtain ⟨r,hi,hp⟩:=Sr hby
  have hdl:=hI.dl i r hi;by_cases k1:e.kind=1
  ·have e1:σ.feed e=(ay 9,σ):=by
    unfold Au.feed;rw[hby];simp only[k1];rfl
   rw[e1];have:=J9 hA hon hg hi hby k1 (apI (n:=n) (o:=o) hm k1 hv r) (x:=ay 9) (many':=σ.many) (r':=r) rfl fun sv k t h1 h2=>⟨h1.1,[],ts1 h2 h1.2,.inl ⟨rfl,fun k=>by rw[Tz hi]⟩⟩;rw[Tz hi] at this;exact this
  ·rw[ajh hi hby k1]
   have hst:=hI.stands i r hi;by_cases k2:e.kind=2
   ·obtain ⟨h1,h2,h3⟩:=hob k2
    exact J9 hA hon hg hi hby k2 (apB hm k2 hv r (by omega) h1 h2 h3) (MB _ _ _) fun sv k t h1 h2=>⟨h1.1,[],ts1 h2 h1.2,Sz hi hst (by omega) (.inl (by omega))⟩
   by_cases k3:e.kind=3
   ·exact J9 hA hon hg hi hby k3 (apC hm k3 hv r (by omega) (hI.deed i r hi)) (MB _ _ _) fun sv k t h1 h2=>⟨h1.1,[],ts1 h2 h1.2,Sz hi hst (by omega) (.inl (by omega))⟩
   by_cases k4:e.kind=4
   ·exact J9 hA hon hg hi hby k4 (apx hm k4 hv r) (MB _ _ _) fun sv k t h1 h2=>⟨h1.1,[],ts1 h2 h1.2,Sz hi hst (by omega) (.inl (by omega))⟩
   by_cases k7:e.kind=7
   ·exact J9 hA hon hg hi hby k7 (apy hm k7 hv r) (MB _ _ _) fun sv k t h1 h2=>⟨h1.1,[],ts1 h2 h1.2,Sz hi hst (by omega) (.inl (by omega))⟩
   have fin:∀(sv:SV) (k:Nat) (t:QK),(sv=svE (Rc.out σ.many e r).1/\k=bif (Rc.out σ.many e r).1.isNone then 1 else 0)->
     [Eo n σ.rs.length o (Gv L.R) (IQ σ L) (Iz σ L) e (Rc.out σ.many e r).2.1 (Rc.out σ.many e r).2.2 [],Eo n σ.rs.length o (Gv L.R) (IQ σ L) (Iz σ L) e (Rc.out σ.many e r).2.1 (Rc.out σ.many e r).2.2 [(r.th,ak,.any)]][k]?=ay t->
     sv=svE (Rc.out σ.many e r).1/\∃us,t=Eo n σ.rs.length o (Gv L.R) (IQ σ L) (Iz σ L) e (Rc.out σ.many e r).2.1 (Rc.out σ.many e r).2.2 us/\ahk σ ⟨(Rc.out σ.many e r).2.1,σ.rs.set i (Rc.out σ.many e r).2.2⟩ us:=fun sv k t h1 h2=>by
    obtain ⟨a,rfl⟩:=h1;refine ⟨a,?_⟩;cases hn:(Rc.out σ.many e r).1.isNone with
    |true=>
     rw[hn] at h2;cases h2;exact ⟨_,rfl,arz hI hi (by omega) hn⟩
    |false=>
     rw[hn] at h2;cases h2;exact ⟨_,rfl,Sz hi hst (by omega) (.inr hn)⟩
   by_cases k5:e.kind=5
   ·exact J9 hA hon hg hi hby k5 (apz hm k5 hv r) (MB _ _ _) fin
   have k6:e.kind=6:=by omega
   exact J9 hA hon hg hi hby k6 (apA hm k6 hv r) (MB _ _ _) fin
 |none=>
  by_cases k1:e.kind=1
  ·have hb:(e.kind==1)=aC:=by simpa using k1
   cases hbu:σ.KO e.thread with
   |some j=>
    have e1:σ.feed e=(ay 10,σ):=by
     unfold Au.feed;rw[hby];simp only[hb,cond_true,hbu]
    rw[e1];exact abS hA hon hg hby k1 (f2:=[(e.thread,aC,.val (.pointer (ay ⟨L.R j,0,aK⟩)))]) (v2:=[(e.thread,ay (Dn (L.R j)))]) ⟨rfl,⟨⟨rfl,rfl⟩,rfl⟩,trivial⟩ (fun k u hm=>by
     simp at hm;obtain ⟨rfl,rfl⟩:=hm;simp[Iz,hbu]) (arx hm k1 hv (L.R j))
   |none=>
    have e1:σ.feed e=(aK,⟨σ.many+1,σ.rs++[⟨e.tx,e.thread,1,σ.many,-1,-1,[],1⟩]⟩):=by
     unfold Au.feed;rw[hby];simp only[hb,cond_true,hbu]
    rw[e1];exact alT hA hon hg hm (by omega) hby hbu k1 hv
  ·have hb:(e.kind==1)=ak:=by simpa using k1
   have e1:σ.feed e=(ay 11,σ):=by
    unfold Au.feed;rw[hby];simp only[hb,cond_false]
   rw[e1];have go:∀kd:Int,e.kind=kd->Ez (FX [toN n σ.rs.length o σ.many (Gv L.R) (IQ σ L) (Iz σ L) [(e.tx,ak,.any)] []] (fun sv k=>sv=svE (ay 11)/\k=0)) ((run (C5 zV W5 Cc Ak) 700 aC 79 [.code []] (LA kd e (hpA n σ.rs.length o σ.many (Gv L.R) (IQ σ L) (Iz σ L) [(e.tx,ak,.any)] []))).bind (toEnd [toN n σ.rs.length o σ.many (Gv L.R) (IQ σ L) (Iz σ L) [(e.tx,ak,.any)] []]))->
     Calls aB 79 #[Dn L.p,Yi e] w (O9 H w n o σ L (ay 11) σ):=fun kd hk hr=>abS hA hon hg hby hk (f2:=[]) (v2:=[]) trivial (fun k u hm=>by simp at hm) hr
   by_cases k2:e.kind=2
   ·obtain ⟨h1,h2,h3⟩:=hob k2
    exact go 2 k2 (alN hm h1 h2 h3 k2 hv)
   by_cases k3:e.kind=3
   ·exact go 3 k3 (alO hm k3 hv)
   by_cases k4:e.kind=4
   ·exact go 4 k4 (alP hm k4 hv)
   by_cases k5:e.kind=5
   ·exact go 5 k5 (alQ hm k5 hv)
   by_cases k6:e.kind=6
   ·exact go 6 k6 (alR hm k6 hv)
   have k7:e.kind=7:=by omega
   exact go 7 k7 (alS hm k7 hv)
end
end Go.Ad
