/- Own work. -/
import Derived.Test.YthehnhaoiijkhaaGreatDoorZ12
open Int (ofNat)
open And renaming intro->bW
open Array renaming getElem?_eq_some_iff->bF,replicate->dY
open Bool renaming true->aC,false->ak,and_eq_true->aI,or_false->kF
open Go.Proofs.Tryz renaming prog->aB,f128->oI,f79->ji
open Go.Ae.C5 renaming ok->jU
open Go.Sx.Bj renaming int->aj,nat->aJ,get->aT,mp->bQ,Lp->bC,val->kR
open Go.Sx.SV renaming sh->dL,DN->fV
open Go.Sx.Sh renaming er->aZ,i->aW
open Go.Sx.Tree renaming node->aF,leaf->aA,need->aH,must->aS
open Go.Value renaming pointer->gG
open Iff renaming rfl->yV
open Int renaming ofNat->ah,negSucc->fG,ofNat_eq_natCast->fU
open List renaming replicate->dS,range->aX,getElem?_eq_getElem->aV,getElem?_eq_some_iff->aU,flatMap_cons->oG,getElem?_append_left->dJ,getD_eq_getElem?_getD->aY,ext_getElem?->lD,getElem?_eq_none->jl,getElem?_set->kZ,findIdx?_cons->jE
open Option renaming some->ay,none->aK,bind_some->eX
open Option.some renaming inj->dh
namespace Go.BF
open Go Go.Sx
def OE(x y:Int):Bool:=
 bif x==2 then y==1 else bif x==3 then y==1 else bif x==5 then y==1 else bif x==7 then y==1 else bif x==1 then y==3 else bif x==4 then y==3 else
 bif x==6 then (bif y==2 then aC else y==3) else bif x==8 then (bif y==2 then aC else y==3) else bif x==9 then (bif y==2 then aC else y==3) else ak
end Go.BF
namespace Go.Ae
open Go Go.Sx Go.BF
theorem alL{ψ:Bool->Prop}{b x y:Bool}(h:ψ (bif b then x else y)):(b=aC->ψ x)/\(b=ak->ψ y):=by
 cases b
 ·exact ⟨fun q=>(by cases q),fun _=>h⟩
 ·exact ⟨fun _=>h,fun q=>by cases q⟩
def F67:List Sh->Tree Sh
 |[s,t]=>match AY s with
  |some x=>match AY t with
   |some y=>.leaf (.b (OE x y)) |none=>.fail
  |none=>.fail
 |_=>.fail
theorem O67:Ar aB (Fv W5) 128 F67:=by
 refine Hy (C:=C5 zW W5 noSpec Am) (jU _ _) (Nl _) (n:=300) (L:=L0) (fn:=oI) (by kernel_rfl) (by kernel_rfl) fun H w A8 args φ hrep h=>?_
 have hn:oI.ntmps=36:=by kernel_rfl
 unfold F67 at h;split at h
 ·rename_i s t
  split at h
  ·rename_i x hx
   split at h
   ·rename_i y hy
    match args,hrep with
    |[u,v],⟨hu,hv,_⟩=>
     refine ⟨[.i .i64 x,.i .i64 y],⟨Ej hx hu,Ej hy hv,trivial⟩,?_⟩;rw[hn,a67 zW W5 x y,BM];have h:φ (.b (OE x y)):=h;have r:∀{b:Bool} {c d:Bool},φ (.b (bif b then c else d))->(b=aC->φ (.b c))/\(b=ak->φ (.b d)):=fun h=>alL (ψ:=fun b=>φ (.b b)) h;rw[<-BM];have h1:=r h;refine ⟨h1.1,fun q=>?_⟩;have h1:=r (h1.2 q);refine ⟨h1.1,fun q=>?_⟩;have h1:=r (h1.2 q);refine ⟨h1.1,fun q=>?_⟩;have h1:=r (h1.2 q);refine ⟨h1.1,fun q=>?_⟩;have h1:=r (h1.2 q);refine ⟨h1.1,fun q=>?_⟩;have h1:=r (h1.2 q);refine ⟨h1.1,fun q=>?_⟩;have h1:=r (h1.2 q);refine ⟨fun q=>r (h1.1 q),fun q=>?_⟩;have h1:=r (h1.2 q);refine ⟨fun q=>r (h1.1 q),fun q=>?_⟩;have h1:=r (h1.2 q);exact ⟨fun q=>r (h1.1 q),h1.2⟩
   ·exact h.elim
  ·exact h.elim
 ·exact h.elim
end Go.Ae
namespace Go.BF
open Go Go.Sx
def tmO(n:Nat)(l:List (Nat×SV)):List SV:=l.foldl (fun t p=>t.set p.1 p.2) (dS n .any)
structure De where
 obj:Int
 op:Int
 key:Int
 val:Int
 ret:Int
 got:Int
 here:Int
 back:Int
 deriving DecidableEq,Inhabited
def deR(e:De):List Sh:=[.i .i64 e.obj,.i .i64 e.op,.i .i64 e.key,.i .i64 e.val,.i .i64 e.ret,.i .i64 e.got,.i .i64 e.here,.i .i64 e.back]
instance:Row De where
 put:=deR
 get l:=match l with
  |[.i .i64 a,.i .i64 b,.i .i64 c,.i .i64 d,.i .i64 e,.i .i64 f,.i .i64 g,.i .i64 h]=>ay ⟨a,b,c,d,e,f,g,h⟩ |_=>aK
 Dp l a h:=by
  split at h
  ·cases h;rfl
  ·cases h
 get_put a:=rfl
 Jm:=⟨0,0,0,0,0,0,0,0⟩
def BP(e:Ev):Bool:=OC e&&fieldsB e&&CQ e.ret
end Go.BF
namespace Go.Ae
open Go Go.Sx Go.BF
def apv:List Sh->Tree Sh
 |[.agg l]=>match abQ l with
  |some e=>.need (BP e) (.leaf (.v .nilIface)) |none=>.fail
 |_=>.fail
def Ce:Nat->Option (List Sh->Tree Sh)
 |101=>ay apv |102=>ay F57 |128=>ay F67 |_=>aK
def hpA(n m:Nat)(o:Nat->Oj)(many:Int)(gR:Nat->List Sh)(M1 M2:Int->Option Value)(f1 f2:List (Int×Bool×SV)):List (Nat×SB):=
 [(0,.box [.gs 6,.sym .i64 many,.gs 1,.mp 2,.mp 3] 181),(1,.own 182 1 m gR),(2,.fm .i64 M1 f1 [] aK),(3,.fm .i64 M2 f2 [] aK),(6,.own 140 2 n (zX o))]
def hpR(a b c d x y z:Int)(k:Nat)(gd:Nat->List Sh):List (Nat×SB):=
 [(4,.box [.sym .i64 a,.sym .i64 b,.sym .i64 c,.sym .i64 d,.sym .i64 x,.sym .i64 y,.gs 5,.sym .i64 z] 184),(5,.own 197 8 k gd)]
def evS(kind:Int)(e:Ev):SV:=.agg [.int .i64 kind,.sym .i64 e.tx,.sym .i64 e.thread,.sym .i64 e.obj,.sym .i64 e.op,.sym .i64 e.key,.sym .i64 e.val,.sym .i64 e.ret]
def LA(kind:Int)(e:Ev)(hp:List (Nat×SB)):Core:={tm:=tmO 168 [(0,.ptr 0 0),(1,evS kind e)],hp,nx:=7,lim:=L0,tc:=[]}
def toR(n m:Nat)(o:Nat->Oj)(gR:Nat->List Sh)(M1 M2:Int->Option Value)(e:Ev)(many' a' b' c' d' x' y' z':Int)(k':Nat)(gd':Nat->List Sh)(us:List (Int×Bool×SV)):QU:=
 ⟨[(0,.box [.gs 6,.sym .i64 many',.gs 1,.mp 2,.mp 3] 181),(1,.own 182 1 m gR),(2,.fm .i64 M1 [(e.tx,aC,.ptr 4 0)] [] aK),(3,.fm .i64 M2 [] us aK),(6,.own 140 2 n (zX o)),
  (4,.box [.sym .i64 a',.sym .i64 b',.sym .i64 c',.sym .i64 d',.sym .i64 x',.sym .i64 y',.gs 5,.sym .i64 z'] 184),(5,.own 197 8 k' gd')],[0,4]⟩
def toN(n m:Nat)(o:Nat->Oj)(many':Int)(gR:Nat->List Sh)(M1 M2:Int->Option Value)(f1 f2:List (Int×Bool×SV)):QU:=⟨hpA n m o many' gR M1 M2 f1 f2,[0]⟩
def toB(n m:Nat)(o:Nat->Oj)(gR:Nat->List Sh)(M1 M2:Int->Option Value)(e:Ev)(many' a' b' c' d' x' y' z':Int):QU:=
 ⟨[(0,.box [.gs 6,.sym .i64 many',.gs 1,.mp 2,.mp 3] 181),(6,.own 140 2 n (zX o)),(1,.GH 182 1 m gR [.ptr 4 0]),(2,.fm .i64 M1 [(e.tx,ak,.any)] [(e.tx,aC,.ptr 4 0),(e.tx,aC,.any)] aK),(3,.fm .i64 M2 [(e.thread,ak,.any)] [(e.thread,aC,.ptr 4 0),(e.thread,aC,.any)] aK),
  (4,.box [.sym .i64 a',.sym .i64 b',.sym .i64 c',.sym .i64 d',.sym .i64 x',.sym .i64 y',.Aw,.sym .i64 z'] 184)],[0]⟩
theorem apw(A:Prim)(W:Wd)(n m:Nat)(o:Nat->Oj)(many:Int)(gR:Nat->List Sh)(M1 M2:Int->Option Value)(e:Ev)(a b c d x y z:Int)(k:Nat)(dd:Nat->De)(many' a' b' c' d' x' y' z':Int)(k':Nat)(gd':Nat->List Sh):(run (C5 A W Ce Am) 700 aC 79 [.code []] (LA 2 e (hpA n m o many gR M1 M2 [(e.tx,aC,.ptr 4 0)] []++hpR a b c d x y z k (zX dd)))).bind (toEnd [toR n m o gR M1 M2 e many' a' b' c' d' x' y' z' k' gd' []])=aF (A.eq many (ah 400)) (aA (dL (aZ 6 329),0,[aj many many',aJ m m,aT m gR gR,bQ M1 M1,aj e.tx e.tx,bQ M2 M2,aJ n n,aT n (zX o) (zX o),aj a a',aj b b',aj c c',aj d d',aj x x',aj y y',aj z z',aJ k k',aT k (zX dd) gd'])) (aH (BP {kind:=ah 2,tx:=e.tx,thread:=e.thread,obj:=e.obj,op:=e.op,key:=e.key,val:=e.val,ret:=e.ret}) (aF (A.le (A.AO n) e.obj) (aA (dL (aZ 7 329),0,[aj many many',aJ m m,aT m gR gR,bQ M1 M1,aj e.tx e.tx,bQ M2 M2,aJ n n,aT n (zX o) (zX o),aj a a',aj b b',aj c c',aj d d',aj x x',aj y y',aj z z',aJ k k',aT k (zX dd) gd'])) (aH (A.inB e.obj n) (aF (A.nt (A.eq (Dz e.op) (o (A.toN e.obj)).kind)) (aA (dL (aZ 8 329),0,[aj many many',aJ m m,aT m gR gR,bQ M1 M1,aj e.tx e.tx,bQ M2 M2,aJ n n,aT n (zX o) (zX o),aj a a',aj b b',aj c c',aj d d',aj x x',aj y y',aj z z',aJ k k',aT k (zX dd) gd'])) (aH (A.eq e.tx e.tx) (aS [aj e.tx e.tx,aj e.thread e.thread,aj e.obj e.obj,aj e.op e.op,aj e.key e.key,aj e.val e.val,aj e.ret e.ret,aj many many,aJ m m,bC gR gR,bQ M1 M1,aj e.tx e.tx,bQ M2 M2,aJ n n,bC (zX o) (zX o),aj a a,aj b b,aj c c,aj d d,aj x x,aj y y,aj z z,aJ k k,bC (zX dd) (zX dd),aj e.tx e.tx,aj e.thread e.thread,aj e.obj e.obj,aj e.op e.op,aj e.key e.key,aj e.val e.val,aj e.ret e.ret] (aS [aj e.tx e.tx,aj e.thread e.thread,aj e.obj e.obj,aj e.op e.op,aj e.key e.key,aj e.val e.val,aj e.ret e.ret,aj many many,aJ m m,bC gR gR,bQ M1 M1,aj e.tx e.tx,bQ M2 M2,aJ n n,bC (zX o) (zX o),aj a a,aj b b,aj c c,aj d d,aj x x,aj y y,aj z z,aJ k k,bC (zX dd) (zX dd),aj e.tx e.tx,aj e.thread e.thread,aj e.obj e.obj,aj e.op e.op,aj e.key e.key,aj e.val e.val,aj e.ret e.ret] (aF (A.eq z (ah 1)) (aH (A.room (A.addN k 1) 64) (aH (A.room (A.addN k 1) 64) (aS [aj e.tx e.tx,aj e.thread e.thread,aj e.obj e.obj,aj e.op e.op,aj e.key e.key,aj e.val e.val,aj e.ret e.ret,aj many many,aj many many,aJ m m,bC gR gR,bQ M1 M1,aj e.tx e.tx,bQ M2 M2,aJ n n,bC (zX o) (zX o),aj a a,aj b b,aj c c,aj d d,aj x x,aj y y,aj e.tx e.tx,aj e.thread e.thread,aj e.obj e.obj,aj e.op e.op,aj e.key e.key,aj e.val e.val,aj e.ret e.ret,aj e.tx e.tx,aj e.thread e.thread,aj e.obj e.obj,aj e.op e.op,aj e.key e.key,aj e.val e.val,aj e.ret e.ret,aj e.obj e.obj,aj e.op e.op,aj e.key e.key,aj e.val e.val,aj many many,aJ (A.addN k 1) (A.addN k 1),bC (A.snoc (zX dd) k (AU [[aW .i64 e.obj,aW .i64 e.op,aW .i64 e.key,aW .i64 e.val,aW .i64 (ah 0),aW .i64 (ah 0),aW .i64 many,aW .i64 (fG 0)]])) (A.snoc (zX dd) k (AU [[aW .i64 e.obj,aW .i64 e.op,aW .i64 e.key,aW .i64 e.val,aW .i64 (ah 0),aW .i64 (ah 0),aW .i64 many,aW .i64 (fG 0)]]))] (aA (fV,0,[aj (A.add .i64 many (ah 1)) many',aJ m m,aT m gR gR,bQ M1 M1,aj e.tx e.tx,bQ M2 M2,aJ n n,aT n (zX o) (zX o),aj a a',aj b b',aj c c',aj d d',aj x x',aj y y',aj (ah 2) z',aJ (A.addN k 1) k',aT (A.addN k 1) (A.snoc (zX dd) k (AU [[aW .i64 e.obj,aW .i64 e.op,aW .i64 e.key,aW .i64 e.val,aW .i64 (ah 0),aW .i64 (ah 0),aW .i64 many,aW .i64 (fG 0)]])) gd']))))) (aA (dL (aZ 12 329),0,[aj many many',aJ m m,aT m gR gR,bQ M1 M1,aj e.tx e.tx,bQ M2 M2,aJ n n,aT n (zX o) (zX o),aj a a',aj b b',aj c c',aj d d',aj x x',aj y y',aj z z',aJ k k',aT k (zX dd) gd'])))))))))):=by kernel_rfl
theorem auz(A:Prim)(W:Wd)(n m:Nat)(o:Nat->Oj)(many:Int)(gR:Nat->List Sh)(M1 M2:Int->Option Value)(e:Ev)(many':Int):(run (C5 A W Ce Am) 700 aC 79 [.code []] (LA 2 e (hpA n m o many gR M1 M2 [(e.tx,ak,.any)] []))).bind (toEnd [toN n m o many' gR M1 M2 [(e.tx,ak,.any)] []])=aF (A.eq many (ah 400)) (aA (dL (aZ 6 329),0,[aj many many',aJ m m,aT m gR gR,bQ M1 M1,aj e.tx e.tx,bQ M2 M2,aJ n n,aT n (zX o) (zX o)])) (aH (BP {kind:=ah 2,tx:=e.tx,thread:=e.thread,obj:=e.obj,op:=e.op,key:=e.key,val:=e.val,ret:=e.ret}) (aF (A.le (A.AO n) e.obj) (aA (dL (aZ 7 329),0,[aj many many',aJ m m,aT m gR gR,bQ M1 M1,aj e.tx e.tx,bQ M2 M2,aJ n n,aT n (zX o) (zX o)])) (aH (A.inB e.obj n) (aF (A.nt (A.eq (Dz e.op) (o (A.toN e.obj)).kind)) (aA (dL (aZ 8 329),0,[aj many many',aJ m m,aT m gR gR,bQ M1 M1,aj e.tx e.tx,bQ M2 M2,aJ n n,aT n (zX o) (zX o)])) (aH (A.eq e.tx e.tx) (aA (dL (aZ 11 329),0,[aj many many',aJ m m,aT m gR gR,bQ M1 M1,aj e.tx e.tx,bQ M2 M2,aJ n n,aT n (zX o) (zX o)]))))))):=by kernel_rfl
theorem ajf(A:Prim)(W:Wd)(n m:Nat)(o:Nat->Oj)(many:Int)(gR:Nat->List Sh)(M1 M2:Int->Option Value)(e:Ev)(a b c d x y z:Int)(k:Nat)(dd:Nat->De)(many' a' b' c' d' x' y' z':Int)(k':Nat)(gd':Nat->List Sh):(run (C5 A W Ce Am) 700 aC 79 [.code []] (LA 3 e (hpA n m o many gR M1 M2 [(e.tx,aC,.ptr 4 0)] []++hpR a b c d x y z k (zX dd)))).bind (toEnd [toR n m o gR M1 M2 e many' a' b' c' d' x' y' z' k' gd' []])=aF (A.eq many (ah 400)) (aA (dL (aZ 6 329),0,[aj many many',aJ m m,aT m gR gR,bQ M1 M1,aj e.tx e.tx,bQ M2 M2,aJ n n,aT n (zX o) (zX o),aj a a',aj b b',aj c c',aj d d',aj x x',aj y y',aj z z',aJ k k',aT k (zX dd) gd'])) (aH (BP {kind:=ah 3,tx:=e.tx,thread:=e.thread,obj:=e.obj,op:=e.op,key:=e.key,val:=e.val,ret:=e.ret}) (aH (A.eq e.tx e.tx) (aS [aj e.tx e.tx,aj e.thread e.thread,aj e.obj e.obj,aj e.op e.op,aj e.key e.key,aj e.val e.val,aj e.ret e.ret,aj many many,aJ m m,bC gR gR,bQ M1 M1,aj e.tx e.tx,bQ M2 M2,aJ n n,bC (zX o) (zX o),aj a a,aj b b,aj c c,aj d d,aj x x,aj y y,aj z z,aJ k k,bC (zX dd) (zX dd),aj e.tx e.tx,aj e.thread e.thread,aj e.obj e.obj,aj e.op e.op,aj e.key e.key,aj e.val e.val,aj e.ret e.ret] (aS [aj e.tx e.tx,aj e.thread e.thread,aj e.obj e.obj,aj e.op e.op,aj e.key e.key,aj e.val e.val,aj e.ret e.ret,aj many many,aJ m m,bC gR gR,bQ M1 M1,aj e.tx e.tx,bQ M2 M2,aJ n n,bC (zX o) (zX o),aj a a,aj b b,aj c c,aj d d,aj x x,aj y y,aj z z,aJ k k,bC (zX dd) (zX dd),aj e.tx e.tx,aj e.thread e.thread,aj e.obj e.obj,aj e.op e.op,aj e.key e.key,aj e.val e.val,aj e.ret e.ret] (aF (A.eq z (ah 2)) (aH (A.inB (A.sub .i64 (A.AO k) (ah 1)) k) (aF (A.nt (OE (dd (A.toN (A.sub .i64 (A.AO k) (ah 1)))).op e.ret)) (aA (dL (aZ 13 329),0,[aj many many',aJ m m,aT m gR gR,bQ M1 M1,aj e.tx e.tx,bQ M2 M2,aJ n n,aT n (zX o) (zX o),aj a a',aj b b',aj c c',aj d d',aj x x',aj y y',aj z z',aJ k k',aT k (zX dd) gd'])) (aA (fV,0,[aj (A.add .i64 many (ah 1)) many',aJ m m,aT m gR gR,bQ M1 M1,aj e.tx e.tx,bQ M2 M2,aJ n n,aT n (zX o) (zX o),aj a a',aj b b',aj c c',aj d d',aj x x',aj y y',aj (ah 1) z',aJ k k',aT k (A.upd (A.upd (A.upd (zX dd) (A.toN (A.sub .i64 (A.AO k) (ah 1))) 4 [aW .i64 e.ret]) (A.toN (A.sub .i64 (A.AO k) (ah 1))) 5 [aW .i64 e.val]) (A.toN (A.sub .i64 (A.AO k) (ah 1))) 7 [aW .i64 many]) gd'])))) (aA (dL (aZ 12 329),0,[aj many many',aJ m m,aT m gR gR,bQ M1 M1,aj e.tx e.tx,bQ M2 M2,aJ n n,aT n (zX o) (zX o),aj a a',aj b b',aj c c',aj d d',aj x x',aj y y',aj z z',aJ k k',aT k (zX dd) gd']))))))):=by kernel_rfl
theorem auA(A:Prim)(W:Wd)(n m:Nat)(o:Nat->Oj)(many:Int)(gR:Nat->List Sh)(M1 M2:Int->Option Value)(e:Ev)(many':Int):(run (C5 A W Ce Am) 700 aC 79 [.code []] (LA 3 e (hpA n m o many gR M1 M2 [(e.tx,ak,.any)] []))).bind (toEnd [toN n m o many' gR M1 M2 [(e.tx,ak,.any)] []])=aF (A.eq many (ah 400)) (aA (dL (aZ 6 329),0,[aj many many',aJ m m,aT m gR gR,bQ M1 M1,aj e.tx e.tx,bQ M2 M2,aJ n n,aT n (zX o) (zX o)])) (aH (BP {kind:=ah 3,tx:=e.tx,thread:=e.thread,obj:=e.obj,op:=e.op,key:=e.key,val:=e.val,ret:=e.ret}) (aH (A.eq e.tx e.tx) (aA (dL (aZ 11 329),0,[aj many many',aJ m m,aT m gR gR,bQ M1 M1,aj e.tx e.tx,bQ M2 M2,aJ n n,aT n (zX o) (zX o)])))):=by kernel_rfl
theorem apx(A:Prim)(W:Wd)(n m:Nat)(o:Nat->Oj)(many:Int)(gR:Nat->List Sh)(M1 M2:Int->Option Value)(e:Ev)(a b c d x y z:Int)(k:Nat)(dd:Nat->De)(many' a' b' c' d' x' y' z':Int)(k':Nat)(gd':Nat->List Sh):(run (C5 A W Ce Am) 700 aC 79 [.code []] (LA 4 e (hpA n m o many gR M1 M2 [(e.tx,aC,.ptr 4 0)] []++hpR a b c d x y z k (zX dd)))).bind (toEnd [toR n m o gR M1 M2 e many' a' b' c' d' x' y' z' k' gd' []])=aF (A.eq many (ah 400)) (aA (dL (aZ 6 329),0,[aj many many',aJ m m,aT m gR gR,bQ M1 M1,aj e.tx e.tx,bQ M2 M2,aJ n n,aT n (zX o) (zX o),aj a a',aj b b',aj c c',aj d d',aj x x',aj y y',aj z z',aJ k k',aT k (zX dd) gd'])) (aH (BP {kind:=ah 4,tx:=e.tx,thread:=e.thread,obj:=e.obj,op:=e.op,key:=e.key,val:=e.val,ret:=e.ret}) (aH (A.eq e.tx e.tx) (aS [aj e.tx e.tx,aj e.thread e.thread,aj e.obj e.obj,aj e.op e.op,aj e.key e.key,aj e.val e.val,aj e.ret e.ret,aj many many,aJ m m,bC gR gR,bQ M1 M1,aj e.tx e.tx,bQ M2 M2,aJ n n,bC (zX o) (zX o),aj a a,aj b b,aj c c,aj d d,aj x x,aj y y,aj z z,aJ k k,bC (zX dd) (zX dd),aj e.tx e.tx,aj e.thread e.thread,aj e.obj e.obj,aj e.op e.op,aj e.key e.key,aj e.val e.val,aj e.ret e.ret] (aS [aj e.tx e.tx,aj e.thread e.thread,aj e.obj e.obj,aj e.op e.op,aj e.key e.key,aj e.val e.val,aj e.ret e.ret,aj many many,aJ m m,bC gR gR,bQ M1 M1,aj e.tx e.tx,bQ M2 M2,aJ n n,bC (zX o) (zX o),aj a a,aj b b,aj c c,aj d d,aj x x,aj y y,aj z z,aJ k k,bC (zX dd) (zX dd),aj e.tx e.tx,aj e.thread e.thread,aj e.obj e.obj,aj e.op e.op,aj e.key e.key,aj e.val e.val,aj e.ret e.ret] (aF (A.eq z (ah 1)) (aA (fV,0,[aj (A.add .i64 many (ah 1)) many',aJ m m,aT m gR gR,bQ M1 M1,aj e.tx e.tx,bQ M2 M2,aJ n n,aT n (zX o) (zX o),aj a a',aj b b',aj (ah 2) c',aj d d',aj x x',aj many y',aj (ah 3) z',aJ k k',aT k (zX dd) gd'])) (aA (dL (aZ 12 329),0,[aj many many',aJ m m,aT m gR gR,bQ M1 M1,aj e.tx e.tx,bQ M2 M2,aJ n n,aT n (zX o) (zX o),aj a a',aj b b',aj c c',aj d d',aj x x',aj y y',aj z z',aJ k k',aT k (zX dd) gd']))))))):=by kernel_rfl
theorem auB(A:Prim)(W:Wd)(n m:Nat)(o:Nat->Oj)(many:Int)(gR:Nat->List Sh)(M1 M2:Int->Option Value)(e:Ev)(many':Int):(run (C5 A W Ce Am) 700 aC 79 [.code []] (LA 4 e (hpA n m o many gR M1 M2 [(e.tx,ak,.any)] []))).bind (toEnd [toN n m o many' gR M1 M2 [(e.tx,ak,.any)] []])=aF (A.eq many (ah 400)) (aA (dL (aZ 6 329),0,[aj many many',aJ m m,aT m gR gR,bQ M1 M1,aj e.tx e.tx,bQ M2 M2,aJ n n,aT n (zX o) (zX o)])) (aH (BP {kind:=ah 4,tx:=e.tx,thread:=e.thread,obj:=e.obj,op:=e.op,key:=e.key,val:=e.val,ret:=e.ret}) (aH (A.eq e.tx e.tx) (aA (dL (aZ 11 329),0,[aj many many',aJ m m,aT m gR gR,bQ M1 M1,aj e.tx e.tx,bQ M2 M2,aJ n n,aT n (zX o) (zX o)])))):=by kernel_rfl
theorem apy(A:Prim)(W:Wd)(n m:Nat)(o:Nat->Oj)(many:Int)(gR:Nat->List Sh)(M1 M2:Int->Option Value)(e:Ev)(a b c d x y z:Int)(k:Nat)(dd:Nat->De)(many' a' b' c' d' x' y' z':Int)(k':Nat)(gd':Nat->List Sh):(run (C5 A W Ce Am) 700 aC 79 [.code []] (LA 5 e (hpA n m o many gR M1 M2 [(e.tx,aC,.ptr 4 0)] []++hpR a b c d x y z k (zX dd)))).bind (toEnd [toR n m o gR M1 M2 e many' a' b' c' d' x' y' z' k' gd' [],toR n m o gR M1 M2 e many' a' b' c' d' x' y' z' k' gd' [(b,ak,.any)]])=aF (A.eq many (ah 400)) (aA (dL (aZ 6 329),0,[aj many many',aJ m m,aT m gR gR,bQ M1 M1,aj e.tx e.tx,bQ M2 M2,aJ n n,aT n (zX o) (zX o),aj a a',aj b b',aj c c',aj d d',aj x x',aj y y',aj z z',aJ k k',aT k (zX dd) gd'])) (aH (BP {kind:=ah 5,tx:=e.tx,thread:=e.thread,obj:=e.obj,op:=e.op,key:=e.key,val:=e.val,ret:=e.ret}) (aH (A.eq e.tx e.tx) (aS [aj e.tx e.tx,aj e.thread e.thread,aj e.obj e.obj,aj e.op e.op,aj e.key e.key,aj e.val e.val,aj e.ret e.ret,aj many many,aJ m m,bC gR gR,bQ M1 M1,aj e.tx e.tx,bQ M2 M2,aJ n n,bC (zX o) (zX o),aj a a,aj b b,aj c c,aj d d,aj x x,aj y y,aj z z,aJ k k,bC (zX dd) (zX dd),aj e.tx e.tx,aj e.thread e.thread,aj e.obj e.obj,aj e.op e.op,aj e.key e.key,aj e.val e.val,aj e.ret e.ret] (aS [aj e.tx e.tx,aj e.thread e.thread,aj e.obj e.obj,aj e.op e.op,aj e.key e.key,aj e.val e.val,aj e.ret e.ret,aj many many,aJ m m,bC gR gR,bQ M1 M1,aj e.tx e.tx,bQ M2 M2,aJ n n,bC (zX o) (zX o),aj a a,aj b b,aj c c,aj d d,aj x x,aj y y,aj z z,aJ k k,bC (zX dd) (zX dd),aj e.tx e.tx,aj e.thread e.thread,aj e.obj e.obj,aj e.op e.op,aj e.key e.key,aj e.val e.val,aj e.ret e.ret] (aF (A.eq z (ah 3)) (aA (fV,1,[aj (A.add .i64 many (ah 1)) many',aJ m m,aT m gR gR,bQ M1 M1,aj e.tx e.tx,bQ M2 M2,aj b b,aJ n n,aT n (zX o) (zX o),aj a a',aj b b',aj (ah 3) c',aj d d',aj many x',aj y y',aj (ah 5) z',aJ k k',aT k (zX dd) gd'])) (aA (dL (aZ 12 329),0,[aj many many',aJ m m,aT m gR gR,bQ M1 M1,aj e.tx e.tx,bQ M2 M2,aJ n n,aT n (zX o) (zX o),aj a a',aj b b',aj c c',aj d d',aj x x',aj y y',aj z z',aJ k k',aT k (zX dd) gd']))))))):=by kernel_rfl
theorem auC(A:Prim)(W:Wd)(n m:Nat)(o:Nat->Oj)(many:Int)(gR:Nat->List Sh)(M1 M2:Int->Option Value)(e:Ev)(many':Int):(run (C5 A W Ce Am) 700 aC 79 [.code []] (LA 5 e (hpA n m o many gR M1 M2 [(e.tx,ak,.any)] []))).bind (toEnd [toN n m o many' gR M1 M2 [(e.tx,ak,.any)] []])=aF (A.eq many (ah 400)) (aA (dL (aZ 6 329),0,[aj many many',aJ m m,aT m gR gR,bQ M1 M1,aj e.tx e.tx,bQ M2 M2,aJ n n,aT n (zX o) (zX o)])) (aH (BP {kind:=ah 5,tx:=e.tx,thread:=e.thread,obj:=e.obj,op:=e.op,key:=e.key,val:=e.val,ret:=e.ret}) (aH (A.eq e.tx e.tx) (aA (dL (aZ 11 329),0,[aj many many',aJ m m,aT m gR gR,bQ M1 M1,aj e.tx e.tx,bQ M2 M2,aJ n n,aT n (zX o) (zX o)])))):=by kernel_rfl
theorem apz(A:Prim)(W:Wd)(n m:Nat)(o:Nat->Oj)(many:Int)(gR:Nat->List Sh)(M1 M2:Int->Option Value)(e:Ev)(a b c d x y z:Int)(k:Nat)(dd:Nat->De)(many' a' b' c' d' x' y' z':Int)(k':Nat)(gd':Nat->List Sh):(run (C5 A W Ce Am) 700 aC 79 [.code []] (LA 6 e (hpA n m o many gR M1 M2 [(e.tx,aC,.ptr 4 0)] []++hpR a b c d x y z k (zX dd)))).bind (toEnd [toR n m o gR M1 M2 e many' a' b' c' d' x' y' z' k' gd' [],toR n m o gR M1 M2 e many' a' b' c' d' x' y' z' k' gd' [(b,ak,.any)]])=aF (A.eq many (ah 400)) (aA (dL (aZ 6 329),0,[aj many many',aJ m m,aT m gR gR,bQ M1 M1,aj e.tx e.tx,bQ M2 M2,aJ n n,aT n (zX o) (zX o),aj a a',aj b b',aj c c',aj d d',aj x x',aj y y',aj z z',aJ k k',aT k (zX dd) gd'])) (aH (BP {kind:=ah 6,tx:=e.tx,thread:=e.thread,obj:=e.obj,op:=e.op,key:=e.key,val:=e.val,ret:=e.ret}) (aH (A.eq e.tx e.tx) (aS [aj e.tx e.tx,aj e.thread e.thread,aj e.obj e.obj,aj e.op e.op,aj e.key e.key,aj e.val e.val,aj e.ret e.ret,aj many many,aJ m m,bC gR gR,bQ M1 M1,aj e.tx e.tx,bQ M2 M2,aJ n n,bC (zX o) (zX o),aj a a,aj b b,aj c c,aj d d,aj x x,aj y y,aj z z,aJ k k,bC (zX dd) (zX dd),aj e.tx e.tx,aj e.thread e.thread,aj e.obj e.obj,aj e.op e.op,aj e.key e.key,aj e.val e.val,aj e.ret e.ret] (aS [aj e.tx e.tx,aj e.thread e.thread,aj e.obj e.obj,aj e.op e.op,aj e.key e.key,aj e.val e.val,aj e.ret e.ret,aj many many,aJ m m,bC gR gR,bQ M1 M1,aj e.tx e.tx,bQ M2 M2,aJ n n,bC (zX o) (zX o),aj a a,aj b b,aj c c,aj d d,aj x x,aj y y,aj z z,aJ k k,bC (zX dd) (zX dd),aj e.tx e.tx,aj e.thread e.thread,aj e.obj e.obj,aj e.op e.op,aj e.key e.key,aj e.val e.val,aj e.ret e.ret] (aF (A.eq z (ah 1)) (aA (fV,1,[aj (A.add .i64 many (ah 1)) many',aJ m m,aT m gR gR,bQ M1 M1,aj e.tx e.tx,bQ M2 M2,aj b b,aJ n n,aT n (zX o) (zX o),aj a a',aj b b',aj (ah 4) c',aj d d',aj many x',aj y y',aj (ah 5) z',aJ k k',aT k (zX dd) gd'])) (aF (A.eq z (ah 2)) (aA (fV,1,[aj (A.add .i64 many (ah 1)) many',aJ m m,aT m gR gR,bQ M1 M1,aj e.tx e.tx,bQ M2 M2,aj b b,aJ n n,aT n (zX o) (zX o),aj a a',aj b b',aj (ah 4) c',aj d d',aj many x',aj y y',aj (ah 5) z',aJ k k',aT k (zX dd) gd'])) (aF (A.eq z (ah 3)) (aA (fV,1,[aj (A.add .i64 many (ah 1)) many',aJ m m,aT m gR gR,bQ M1 M1,aj e.tx e.tx,bQ M2 M2,aj b b,aJ n n,aT n (zX o) (zX o),aj a a',aj b b',aj (ah 4) c',aj d d',aj many x',aj y y',aj (ah 5) z',aJ k k',aT k (zX dd) gd'])) (aF (A.eq z (ah 4)) (aA (fV,1,[aj (A.add .i64 many (ah 1)) many',aJ m m,aT m gR gR,bQ M1 M1,aj e.tx e.tx,bQ M2 M2,aj b b,aJ n n,aT n (zX o) (zX o),aj a a',aj b b',aj (ah 4) c',aj d d',aj many x',aj y y',aj (ah 5) z',aJ k k',aT k (zX dd) gd'])) (aA (dL (aZ 12 329),0,[aj many many',aJ m m,aT m gR gR,bQ M1 M1,aj e.tx e.tx,bQ M2 M2,aJ n n,aT n (zX o) (zX o),aj a a',aj b b',aj c c',aj d d',aj x x',aj y y',aj z z',aJ k k',aT k (zX dd) gd'])))))))))):=by kernel_rfl
theorem auD(A:Prim)(W:Wd)(n m:Nat)(o:Nat->Oj)(many:Int)(gR:Nat->List Sh)(M1 M2:Int->Option Value)(e:Ev)(many':Int):(run (C5 A W Ce Am) 700 aC 79 [.code []] (LA 6 e (hpA n m o many gR M1 M2 [(e.tx,ak,.any)] []))).bind (toEnd [toN n m o many' gR M1 M2 [(e.tx,ak,.any)] []])=aF (A.eq many (ah 400)) (aA (dL (aZ 6 329),0,[aj many many',aJ m m,aT m gR gR,bQ M1 M1,aj e.tx e.tx,bQ M2 M2,aJ n n,aT n (zX o) (zX o)])) (aH (BP {kind:=ah 6,tx:=e.tx,thread:=e.thread,obj:=e.obj,op:=e.op,key:=e.key,val:=e.val,ret:=e.ret}) (aH (A.eq e.tx e.tx) (aA (dL (aZ 11 329),0,[aj many many',aJ m m,aT m gR gR,bQ M1 M1,aj e.tx e.tx,bQ M2 M2,aJ n n,aT n (zX o) (zX o)])))):=by kernel_rfl
theorem apA(A:Prim)(W:Wd)(n m:Nat)(o:Nat->Oj)(many:Int)(gR:Nat->List Sh)(M1 M2:Int->Option Value)(e:Ev)(a b c d x y z:Int)(k:Nat)(dd:Nat->De)(many' a' b' c' d' x' y' z':Int)(k':Nat)(gd':Nat->List Sh):(run (C5 A W Ce Am) 700 aC 79 [.code []] (LA 7 e (hpA n m o many gR M1 M2 [(e.tx,aC,.ptr 4 0)] []++hpR a b c d x y z k (zX dd)))).bind (toEnd [toR n m o gR M1 M2 e many' a' b' c' d' x' y' z' k' gd' []])=aF (A.eq many (ah 400)) (aA (dL (aZ 6 329),0,[aj many many',aJ m m,aT m gR gR,bQ M1 M1,aj e.tx e.tx,bQ M2 M2,aJ n n,aT n (zX o) (zX o),aj a a',aj b b',aj c c',aj d d',aj x x',aj y y',aj z z',aJ k k',aT k (zX dd) gd'])) (aH (BP {kind:=ah 7,tx:=e.tx,thread:=e.thread,obj:=e.obj,op:=e.op,key:=e.key,val:=e.val,ret:=e.ret}) (aH (A.eq e.tx e.tx) (aS [aj e.tx e.tx,aj e.thread e.thread,aj e.obj e.obj,aj e.op e.op,aj e.key e.key,aj e.val e.val,aj e.ret e.ret,aj many many,aJ m m,bC gR gR,bQ M1 M1,aj e.tx e.tx,bQ M2 M2,aJ n n,bC (zX o) (zX o),aj a a,aj b b,aj c c,aj d d,aj x x,aj y y,aj z z,aJ k k,bC (zX dd) (zX dd),aj e.tx e.tx,aj e.thread e.thread,aj e.obj e.obj,aj e.op e.op,aj e.key e.key,aj e.val e.val,aj e.ret e.ret] (aS [aj e.tx e.tx,aj e.thread e.thread,aj e.obj e.obj,aj e.op e.op,aj e.key e.key,aj e.val e.val,aj e.ret e.ret,aj many many,aJ m m,bC gR gR,bQ M1 M1,aj e.tx e.tx,bQ M2 M2,aJ n n,bC (zX o) (zX o),aj a a,aj b b,aj c c,aj d d,aj x x,aj y y,aj z z,aJ k k,bC (zX dd) (zX dd),aj e.tx e.tx,aj e.thread e.thread,aj e.obj e.obj,aj e.op e.op,aj e.key e.key,aj e.val e.val,aj e.ret e.ret] (aF (A.eq z (ah 1)) (aA (fV,0,[aj (A.add .i64 many (ah 1)) many',aJ m m,aT m gR gR,bQ M1 M1,aj e.tx e.tx,bQ M2 M2,aJ n n,aT n (zX o) (zX o),aj a a',aj b b',aj c c',aj d d',aj x x',aj y y',aj (ah 4) z',aJ k k',aT k (zX dd) gd'])) (aA (dL (aZ 12 329),0,[aj many many',aJ m m,aT m gR gR,bQ M1 M1,aj e.tx e.tx,bQ M2 M2,aJ n n,aT n (zX o) (zX o),aj a a',aj b b',aj c c',aj d d',aj x x',aj y y',aj z z',aJ k k',aT k (zX dd) gd']))))))):=by kernel_rfl
theorem auE(A:Prim)(W:Wd)(n m:Nat)(o:Nat->Oj)(many:Int)(gR:Nat->List Sh)(M1 M2:Int->Option Value)(e:Ev)(many':Int):(run (C5 A W Ce Am) 700 aC 79 [.code []] (LA 7 e (hpA n m o many gR M1 M2 [(e.tx,ak,.any)] []))).bind (toEnd [toN n m o many' gR M1 M2 [(e.tx,ak,.any)] []])=aF (A.eq many (ah 400)) (aA (dL (aZ 6 329),0,[aj many many',aJ m m,aT m gR gR,bQ M1 M1,aj e.tx e.tx,bQ M2 M2,aJ n n,aT n (zX o) (zX o)])) (aH (BP {kind:=ah 7,tx:=e.tx,thread:=e.thread,obj:=e.obj,op:=e.op,key:=e.key,val:=e.val,ret:=e.ret}) (aH (A.eq e.tx e.tx) (aA (dL (aZ 11 329),0,[aj many many',aJ m m,aT m gR gR,bQ M1 M1,aj e.tx e.tx,bQ M2 M2,aJ n n,aT n (zX o) (zX o)])))):=by kernel_rfl
theorem auF(A:Prim)(W:Wd)(n m:Nat)(o:Nat->Oj)(many:Int)(gR:Nat->List Sh)(M1 M2:Int->Option Value)(e:Ev)(a b c d x y z:Int)(k:Nat)(dd:Nat->De)(many' a' b' c' d' x' y' z':Int)(k':Nat)(gd':Nat->List Sh):(run (C5 A W Ce Am) 700 aC 79 [.code []] (LA 1 e (hpA n m o many gR M1 M2 [(e.tx,aC,.ptr 4 0)] []++hpR a b c d x y z k (zX dd)))).bind (toEnd [toR n m o gR M1 M2 e many' a' b' c' d' x' y' z' k' gd' []])=aF (A.eq many (ah 400)) (aA (dL (aZ 6 329),0,[aj many many',aJ m m,aT m gR gR,bQ M1 M1,aj e.tx e.tx,bQ M2 M2,aJ n n,aT n (zX o) (zX o),aj a a',aj b b',aj c c',aj d d',aj x x',aj y y',aj z z',aJ k k',aT k (zX dd) gd'])) (aH (BP {kind:=ah 1,tx:=e.tx,thread:=e.thread,obj:=e.obj,op:=e.op,key:=e.key,val:=e.val,ret:=e.ret}) (aH (A.eq e.tx e.tx) (aA (dL (aZ 9 329),0,[aj many many',aJ m m,aT m gR gR,bQ M1 M1,aj e.tx e.tx,bQ M2 M2,aJ n n,aT n (zX o) (zX o),aj a a',aj b b',aj c c',aj d d',aj x x',aj y y',aj z z',aJ k k',aT k (zX dd) gd'])))):=by kernel_rfl
theorem auG(A:Prim)(W:Wd)(n m:Nat)(o:Nat->Oj)(many:Int)(gR:Nat->List Sh)(M1 M2:Int->Option Value)(e:Ev)(q:Nat)(many':Int):(run (C5 A W Ce Am) 700 aC 79 [.code []] (LA 1 e (hpA n m o many gR M1 M2 [(e.tx,ak,.any)] [(e.thread,aC,.val (.pointer (ay ⟨q,0,aK⟩)))]))).bind (toEnd [toN n m o many' gR M1 M2 [(e.tx,ak,.any)] [(e.thread,aC,.val (.pointer (ay ⟨q,0,aK⟩)))]])=aF (A.eq many (ah 400)) (aA (dL (aZ 6 329),0,[aj many many',aJ m m,aT m gR gR,bQ M1 M1,aj e.tx e.tx,bQ M2 M2,aj e.thread e.thread,kR (gG (ay {block:=q,off:=0})) (gG (ay {block:=q,off:=0})),aJ n n,aT n (zX o) (zX o)])) (aH (BP {kind:=ah 1,tx:=e.tx,thread:=e.thread,obj:=e.obj,op:=e.op,key:=e.key,val:=e.val,ret:=e.ret}) (aH (A.eq e.tx e.tx) (aH (A.eq e.thread e.thread) (aA (dL (aZ 10 329),0,[aj many many',aJ m m,aT m gR gR,bQ M1 M1,aj e.tx e.tx,bQ M2 M2,aj e.thread e.thread,kR (gG (ay {block:=q,off:=0})) (gG (ay {block:=q,off:=0})),aJ n n,aT n (zX o) (zX o)]))))):=by kernel_rfl
theorem auH(A:Prim)(W:Wd)(n m:Nat)(o:Nat->Oj)(many:Int)(gR:Nat->List Sh)(M1 M2:Int->Option Value)(e:Ev)(many' a' b' c' d' x' y' z':Int):(run (C5 A W Ce Am) 700 aC 79 [.code []] (LA 1 e (hpA n m o many gR M1 M2 [(e.tx,ak,.any)] [(e.thread,ak,.any)]))).bind (toEnd [toB n m o gR M1 M2 e many' a' b' c' d' x' y' z'])=aF (A.eq many (ah 400)) Tree.fail (aH (BP {kind:=ah 1,tx:=e.tx,thread:=e.thread,obj:=e.obj,op:=e.op,key:=e.key,val:=e.val,ret:=e.ret}) (aH (A.eq e.tx e.tx) (aH (A.eq e.thread e.thread) (aH (A.room (A.addN m 1) 8) (aH (A.eq e.tx e.tx) (aH (A.eq e.thread e.thread) (aA (fV,0,[aj (A.add .i64 many (ah 1)) many',aJ n n,aT n (zX o) (zX o),aJ m m,aT m gR gR,bQ M1 M1,aj e.tx e.tx,aj e.tx e.tx,aj e.tx e.tx,bQ M2 M2,aj e.thread e.thread,aj e.thread e.thread,aj e.thread e.thread,aj e.tx a',aj e.thread b',aj (ah 1) c',aj many d',aj (fG 0) x',aj (fG 0) y',aj (ah 1) z'])))))))):=by kernel_rfl
end Go.Ae
namespace Go.BF
open Go Go.Sx
structure Rc where
 id:Int
 th:Int
 st:Int
 bg:Int
 en:Int
 tr:Int
 Ac:List De
 stand:Int
structure Au where
 many:Nat
 rs:List Rc
def Au.JR(σ:Au)(k:Int):Option Nat:=σ.rs.findIdx? fun r=>r.id==k
def Rc.live(r:Rc):Bool:=!(r.stand==5)
def Au.KR(σ:Au)(k:Int):Option Nat:=σ.rs.findIdx? fun r=>r.th==k&&r.live
def FT{α:Type}(f:α->α):List α->List α
 |[]=>[] |[x]=>[f x] |x::y::l=>x::FT f (y::l)
def Rc.step(many:Nat)(e:Ev)(r:Rc):Nat ⊕ Rc:=
 bif e.kind==2 then bif r.stand==1 then .inr {r with stand:=2,Ac:=r.Ac++[⟨e.obj,e.op,e.key,e.val,0,0,many,-1⟩]} else .inl 12
 else bif e.kind==3 then bif r.stand==2 then bif OE (r.Ac.getLast?.getD Row.Jm).op e.ret then .inr {r with stand:=1,Ac:=FT (fun d=>{d with ret:=e.ret,got:=e.val,back:=many}) r.Ac} else .inl 13 else .inl 12
 else bif e.kind==4 then bif r.stand==1 then .inr {r with stand:=3,tr:=many,st:=2} else .inl 12
 else bif e.kind==7 then bif r.stand==1 then .inr {r with stand:=4} else .inl 12
 else bif e.kind==5 then bif r.stand==3 then .inr {r with stand:=5,en:=many,st:=3} else .inl 12
 else bif r.stand==1||r.stand==2||r.stand==3||r.stand==4 then .inr {r with stand:=5,en:=many,st:=4} else .inl 12
def Au.feed(σ:Au)(e:Ev):Option Nat×Au:=
 match σ.JR e.tx with
 |some i=>bif e.kind==1 then (ay 9,σ) else match Rc.step σ.many e (σ.rs.getD i ⟨0,0,0,0,0,0,[],0⟩) with
  | .inl k=>(ay k,σ) | .inr r=>(aK,⟨σ.many+1,σ.rs.set i r⟩)
 |none=>bif e.kind==1 then (match σ.KR e.thread with
  |some _=>(ay 10,σ) |none=>(aK,⟨σ.many+1,σ.rs++[⟨e.tx,e.thread,1,σ.many,-1,-1,[],1⟩]⟩)) else (ay 11,σ)
structure Au.OK(σ:Au):Prop where
 one:∀(i j:Nat) (r s:Rc),σ.rs[i]?=ay r->σ.rs[j]?=ay s->r.th=s.th->r.live=aC->s.live=aC->i=j
 deed:∀(i:Nat) (r:Rc),σ.rs[i]?=ay r->r.stand=2->r.Ac≠[]
 stands:∀(i:Nat) (r:Rc),σ.rs[i]?=ay r->1<=r.stand/\r.stand<=5
 len:σ.rs.length<=σ.many
 dl:∀(i:Nat) (r:Rc),σ.rs[i]?=ay r->r.Ac.length<=σ.many
end Go.BF
namespace Go.Sx
open Go.BF
def Dq(b:Nat):Value:=.pointer (ay ⟨b,0,aK⟩)
structure Lay where
 p:Nat
 v0:Value
 v2:Value
 b1:Nat
 b2:Nat
 R:Nat->Nat
 D:Nat->Value
inductive Tg where
 |au|tx|KT|bu|ob
 |rc (i:Nat)
 |de (i:Nat)
 deriving DecidableEq
def Lay.blk(L:Lay)(n:Nat):Tg->Option Nat
 | .au=>ay L.p | .tx=>Ai L.v2 | .KT=>ay L.b1 | .bu=>ay L.b2 | .ob=>Ai L.v0 | .rc i=>if i<n then ay (L.R i) else aK
 | .de i=>if i<n then Ai (L.D i) else aK
def Xa(r:Rc)(d:Value):Array Value:=#[.int .i64 r.id,.int .i64 r.th,.int .i64 r.st,.int .i64 r.bg,.int .i64 r.en,.int .i64 r.tr,d,.int .i64 r.stand]
def deV(d:De):List Value:=[.int .i64 d.obj,.int .i64 d.op,.int .i64 d.key,.int .i64 d.val,.int .i64 d.ret,.int .i64 d.got,.int .i64 d.here,.int .i64 d.back]
structure Di(H:Mem)(w:World)(n0:Nat)(g0:Nat->List Sh)(σ:Au)(L:Lay):Prop where
 au:w.heap[L.p]?=ay (.cells #[L.v0,.int .i64 σ.many,L.v2,.map (ay L.b1),.map (ay L.b2)] 181 (0,0))
 ob:∃xs,w.ownsRow 0 140 2 L.v0 n0 xs/\BO H 2 n0 g0 xs
 tx:w.ownsRow 0 182 1 L.v2 σ.rs.length ((aX σ.rs.length).map fun i=>Dq (L.R i))
 KT:∃ms clk,w.heap[L.b1]?=ay (.map ms clk)/\E5 .i64 ms.toList clk fun k=>(σ.JR k).map fun i=>Dq (L.R i)
 bu:∃ms clk,w.heap[L.b2]?=ay (.map ms clk)/\E5 .i64 ms.toList clk fun k=>(σ.KR k).map fun i=>Dq (L.R i)
 rc:∀i r,σ.rs[i]?=ay r->w.heap[L.R i]?=ay (.cells (Xa r (L.D i)) 184 (0,0))
 de:∀i r,σ.rs[i]?=ay r->w.ownsRow 0 197 8 (L.D i) r.Ac.length (r.Ac.flatMap deV)
 FU:∀s t b,L.blk σ.rs.length s=ay b->L.blk σ.rs.length t=ay b->s=t
 un:∀t b,L.blk σ.rs.length t=ay b->H b=aK
section
variable{H H':Mem}{w w':World}{n0:Nat}{g0:Nat->List Sh}{σ:Au}{L:Lay}
theorem abS{e st n:Nat}{v:Value}{xs:List Value}{b:Nat}(h:w.ownsRow 0 e st v n xs)(hb:Ai v=ay b):b<w.heap.size:=by
 rcases h.2 with ⟨rfl,_⟩ |⟨g,cap,cur,rfl,_,hg,_⟩
 ·cases hb
 ·cases hb
  exact (bF.1 hg).1
theorem Di.lt(h:Di H w n0 g0 σ L){t:Tg}{b:Nat}(hb:L.blk σ.rs.length t=ay b):b<w.heap.size:=by
 cases t with
 |au=>cases hb;exact (bF.1 h.au).1 |tx=>exact abS h.tx hb |KT=>cases hb;obtain ⟨ms,clk,h1,_⟩:=h.KT;exact (bF.1 h1).1 |bu=>cases hb;obtain ⟨ms,clk,h1,_⟩:=h.bu;exact (bF.1 h1).1 |ob=>obtain ⟨xs,h1,_⟩:=h.ob;exact abS h1 hb |rc i=>
  simp only[Lay.blk] at hb;split at hb
  ·rename_i hi
   cases hb;exact (bF.1 (h.rc i _ (aV hi))).1
  ·cases hb
 |de i=>
  simp only[Lay.blk] at hb;split at hb
  ·rename_i hi
   exact abS (h.de i _ (aV hi)) hb
  ·cases hb
theorem Di.keep(h:Di H w n0 g0 σ L)(hH:H.le H')(hw:∀t b,L.blk σ.rs.length t=ay b->w'.heap[b]?=w.heap[b]?)(hu:∀t b,L.blk σ.rs.length t=ay b->H' b=aK):Di H' w' n0 g0 σ L:=by
 refine ⟨by rw[hw .au _ rfl];exact h.au,(let ⟨xs,h1,h2⟩:=h.ob;⟨xs,FV h1 fun b hb=>hw .ob b hb,h2.le hH⟩),FV h.tx fun b hb=>hw .tx b hb,?_,?_,fun i r hi=>?_,fun i r hi=>FV (h.de i r hi) fun b hb=>hw (.de i) b ?_,h.FU,hu⟩
 ·obtain ⟨ms,clk,h1,h2⟩:=h.KT
  exact ⟨ms,clk,by rw[hw .KT _ rfl];exact h1,h2⟩
 ·obtain ⟨ms,clk,h1,h2⟩:=h.bu
  exact ⟨ms,clk,by rw[hw .bu _ rfl];exact h1,h2⟩
 ·have hlt:=(aU.1 hi).1
  rw[hw (.rc i) _ (by simp[Lay.blk,hlt])];exact h.rc i r hi
 ·have hlt:=(aU.1 hi).1
  simp[Lay.blk,hlt,hb]
end
open Go.BF
def svE:Option Nat->SV
 |none=>.DN |some k=>.sh (.er k 329)
end Go.Sx
namespace Go.BF
open Go Go.Sx
def Rc.out(many:Nat)(e:Ev)(r:Rc):Option Nat×Nat×Rc:=
 match Rc.step many e r with
 | .inl k=>(ay k,many,r) | .inr r'=>(aK,many+1,r')
theorem SE{α:Type}(f:α->α):∀l:List α,(FT f l).length=l.length
 |[]=>rfl |[_]=>rfl |_::y::l=>by simp[FT,SE f (y::l)]
theorem alM{α:Type}[Row α]{l:List α}(h:l≠[]):nth l (l.length - 1)=l.getLast?.getD Row.Jm:=by
 simp[nth,List.getLast?_eq_getElem?]
theorem Zg{α:Type}[Row α](f:α->α):∀(l:List α) (i:Nat),i<l.length->nth (FT f l) i=if i=l.length - 1 then f (nth l i) else nth l i
 |[],i,h=>by simp at h |[x],i,h=>by
  have:i=0:=by simp at h;exact h
  subst this;simp[FT,nth]
 |x::y::l,0,_=>by simp[FT,nth] |x::y::l,i+1,h=>by
  have ih:=Zg f (y::l) i (by simpa using h);have e1:nth (FT f (x::y::l)) (i+1)=nth (FT f (y::l)) i:=by simp[FT,nth]
  have e2:nth (x::y::l) (i+1)=nth (y::l) i:=by simp[nth]
  rw[e1,ih,e2];by_cases q:i=(y::l).length - 1
  ·rw[if_pos q,if_pos (by simp at q ⊢;omega)]
  ·rw[if_neg q,if_neg (by simp at q ⊢;omega)]
end Go.BF
namespace Go.Ae
open Go Go.Sx Go.BF
theorem awo:Ar aB (Fv W5) 101 apv:=O56.mono fun H A8 args φ hr h=>by
 clear hr;unfold apv at h;split at h
 ·rename_i l
  split at h
  ·rename_i e he
   obtain ⟨h1,h2⟩:=h;unfold BP at h1;simp only[aI] at h1;show (match abQ l with|some e=>_|none=>_:Tree Sh).All φ
   rw[he];refine ⟨h1.2,fun _=>?_,fun q=>?_⟩
   ·refine ⟨fun _=>h2,fun q=>?_⟩
    rw[h1.1.2] at q;cases q
   ·rw[h1.1.1] at q;cases q
  ·exact h.elim
 ·exact h.elim
theorem awp:∀g F,Ce g=ay F->Ar aB (Fv W5) g F:=fun g F h=>by
 unfold Ce at h;split at h
 ·cases h;exact awo
 ·cases h;exact O57
 ·cases h;exact O67
 ·cases h
theorem ajg(stop:Nat->List Nat->Bool):BA aB (C5 zW W5 Ce stop):=C5.WI awp fun g h=>by
 unfold Ce at h;split at h;all_goals first|(cases h;done) |kernel_rfl
theorem Nz{a:Int}{k:Nat}(h:zW.eq a (ah k)=aC):a=(k:Int):=by simpa[Aq] using h
theorem eqF{a:Int}{k:Nat}(h:zW.eq a (ah k)=ak):a≠(k:Int):=by simpa[Aq] using h
theorem eqS(a:Int):zW.eq a a=aC:=by simp[Aq]
theorem wrapM{many:Nat}(hm:many<400):zW.add .i64 (many:Int) 1=((many+1:Nat):Int):=by
 rw[Dj,BL (by omega) (by omega)];rfl
def Ep(n m:Nat)(o:Nat->Oj)(gR:Nat->List Sh)(M1 M2:Int->Option Value)(e:Ev)(many:Nat)(r:Rc)(us:List (Int×Bool×SV)):QU:=
 toR n m o gR M1 M2 e many r.id r.th r.st r.bg r.en r.tr r.stand r.Ac.length (zX (nth r.Ac)) us
def Fh(r:Rc):List (Nat×SB):=hpR r.id r.th r.st r.bg r.en r.tr r.stand r.Ac.length (zX (nth r.Ac))
section
variable{n m:Nat}{o:Nat->Oj}{many:Nat}{gR:Nat->List Sh}{M1 M2:Int->Option Value}
theorem apB(hm:many<400){e:Ev}(hk:e.kind=4)(hv:BP e=aC)(r:Rc):
  EF (FZ [Ep n m o gR M1 M2 e (Rc.out many e r).2.1 (Rc.out many e r).2.2 []] (fun sv k=>sv=svE (Rc.out many e r).1/\k=0)) ((run (C5 zW W5 Ce Am) 700 aC 79 [.code []] (LA 4 e (hpA n m o many gR M1 M2 [(e.tx,aC,.ptr 4 0)] []++Fh r))).bind (toEnd [Ep n m o gR M1 M2 e (Rc.out many e r).2.1 (Rc.out many e r).2.2 []])):=by
 obtain ⟨kind,tx,thread,obj,op,key,val,ret⟩:=e;obtain ⟨id,th,st,bg,en,tr,Ac,stand⟩:=r;have hk:kind=4:=hk;subst hk;have hw:=wrapM hm;by_cases hs:stand=1
 ·have e1:Rc.out many ⟨4,tx,thread,obj,op,key,val,ret⟩ ⟨id,th,st,bg,en,tr,Ac,stand⟩=(aK,many+1,⟨id,th,2,bg,en,many,Ac,3⟩):=by
   subst hs;rfl
  rw[e1];unfold Ep Fh;simp only;rw[apx zW W5 n m o many gR M1 M2 ⟨4,tx,thread,obj,op,key,val,ret⟩ id th st bg en tr stand Ac.length (nth Ac) (many+1:Nat) id th 2 bg en many 3 Ac.length (zX (nth Ac)),Cb];repeat' (first
   |exact trivial
   |exact hv
   |exact hw
   |exact eqS _
   |exact rfl
   |exact fun _ _=>rfl
   |(intro q;replace q:=Nz q;first|(exfalso;omega) |skip)
   |(intro q;replace q:=eqF q;first|(exfalso;omega) |skip)
   |refine bW ?_ ?_)
 ·have e1:Rc.out many ⟨4,tx,thread,obj,op,key,val,ret⟩ ⟨id,th,st,bg,en,tr,Ac,stand⟩=(ay 12,many,⟨id,th,st,bg,en,tr,Ac,stand⟩):=by
   have d1:(stand==1)=ak:=by rw[beq_eq_false_iff_ne];omega
   simp only[Rc.out,Rc.step,d1,kF];rfl
  rw[e1];unfold Ep Fh;simp only;rw[apx zW W5 n m o many gR M1 M2 ⟨4,tx,thread,obj,op,key,val,ret⟩ id th st bg en tr stand Ac.length (nth Ac) (many:Nat) id th st bg en tr stand Ac.length (zX (nth Ac)),Cb];repeat' (first
   |exact trivial
   |exact hv
   |exact hw
   |exact eqS _
   |exact rfl
   |exact fun _ _=>rfl
   |(intro q;replace q:=Nz q;first|(exfalso;omega) |skip)
   |(intro q;replace q:=eqF q;first|(exfalso;omega) |skip)
   |refine bW ?_ ?_)
theorem apC(hm:many<400){e:Ev}(hk:e.kind=7)(hv:BP e=aC)(r:Rc):
  EF (FZ [Ep n m o gR M1 M2 e (Rc.out many e r).2.1 (Rc.out many e r).2.2 []] (fun sv k=>sv=svE (Rc.out many e r).1/\k=0)) ((run (C5 zW W5 Ce Am) 700 aC 79 [.code []] (LA 7 e (hpA n m o many gR M1 M2 [(e.tx,aC,.ptr 4 0)] []++Fh r))).bind (toEnd [Ep n m o gR M1 M2 e (Rc.out many e r).2.1 (Rc.out many e r).2.2 []])):=by
 obtain ⟨kind,tx,thread,obj,op,key,val,ret⟩:=e;obtain ⟨id,th,st,bg,en,tr,Ac,stand⟩:=r;have hk:kind=7:=hk;subst hk;have hw:=wrapM hm;by_cases hs:stand=1
 ·have e1:Rc.out many ⟨7,tx,thread,obj,op,key,val,ret⟩ ⟨id,th,st,bg,en,tr,Ac,stand⟩=(aK,many+1,⟨id,th,st,bg,en,tr,Ac,4⟩):=by
   subst hs;rfl
  rw[e1];unfold Ep Fh;simp only;rw[apA zW W5 n m o many gR M1 M2 ⟨7,tx,thread,obj,op,key,val,ret⟩ id th st bg en tr stand Ac.length (nth Ac) (many+1:Nat) id th st bg en tr 4 Ac.length (zX (nth Ac)),Cb];repeat' (first
   |exact trivial
   |exact hv
   |exact hw
   |exact eqS _
   |exact rfl
   |exact fun _ _=>rfl
   |(intro q;replace q:=Nz q;first|(exfalso;omega) |skip)
   |(intro q;replace q:=eqF q;first|(exfalso;omega) |skip)
   |refine bW ?_ ?_)
 ·have e1:Rc.out many ⟨7,tx,thread,obj,op,key,val,ret⟩ ⟨id,th,st,bg,en,tr,Ac,stand⟩=(ay 12,many,⟨id,th,st,bg,en,tr,Ac,stand⟩):=by
   have d1:(stand==1)=ak:=by rw[beq_eq_false_iff_ne];omega
   simp only[Rc.out,Rc.step,d1,kF];rfl
  rw[e1];unfold Ep Fh;simp only;rw[apA zW W5 n m o many gR M1 M2 ⟨7,tx,thread,obj,op,key,val,ret⟩ id th st bg en tr stand Ac.length (nth Ac) (many:Nat) id th st bg en tr stand Ac.length (zX (nth Ac)),Cb];repeat' (first
   |exact trivial
   |exact hv
   |exact hw
   |exact eqS _
   |exact rfl
   |exact fun _ _=>rfl
   |(intro q;replace q:=Nz q;first|(exfalso;omega) |skip)
   |(intro q;replace q:=eqF q;first|(exfalso;omega) |skip)
   |refine bW ?_ ?_)
theorem apD(hm:many<400){e:Ev}(hk:e.kind=5)(hv:BP e=aC)(r:Rc):
  EF (FZ [Ep n m o gR M1 M2 e (Rc.out many e r).2.1 (Rc.out many e r).2.2 [],Ep n m o gR M1 M2 e (Rc.out many e r).2.1 (Rc.out many e r).2.2 [(r.th,ak,.any)]] (fun sv k=>sv=svE (Rc.out many e r).1/\k=(bif (Rc.out many e r).1.isNone then 1 else 0))) ((run (C5 zW W5 Ce Am) 700 aC 79 [.code []] (LA 5 e (hpA n m o many gR M1 M2 [(e.tx,aC,.ptr 4 0)] []++Fh r))).bind (toEnd [Ep n m o gR M1 M2 e (Rc.out many e r).2.1 (Rc.out many e r).2.2 [],Ep n m o gR M1 M2 e (Rc.out many e r).2.1 (Rc.out many e r).2.2 [(r.th,ak,.any)]])):=by
 obtain ⟨kind,tx,thread,obj,op,key,val,ret⟩:=e;obtain ⟨id,th,st,bg,en,tr,Ac,stand⟩:=r;have hk:kind=5:=hk;subst hk;have hw:=wrapM hm;by_cases hs:stand=3
 ·have e1:Rc.out many ⟨5,tx,thread,obj,op,key,val,ret⟩ ⟨id,th,st,bg,en,tr,Ac,stand⟩=(aK,many+1,⟨id,th,3,bg,many,tr,Ac,5⟩):=by
   subst hs;rfl
  rw[e1];unfold Ep Fh;simp only;rw[apy zW W5 n m o many gR M1 M2 ⟨5,tx,thread,obj,op,key,val,ret⟩ id th st bg en tr stand Ac.length (nth Ac) (many+1:Nat) id th 3 bg many tr 5 Ac.length (zX (nth Ac)),Cb];repeat' (first
   |exact trivial
   |exact hv
   |exact hw
   |exact eqS _
   |exact rfl
   |exact fun _ _=>rfl
   |(intro q;replace q:=Nz q;first|(exfalso;omega) |skip)
   |(intro q;replace q:=eqF q;first|(exfalso;omega) |skip)
   |refine bW ?_ ?_)
 ·have e1:Rc.out many ⟨5,tx,thread,obj,op,key,val,ret⟩ ⟨id,th,st,bg,en,tr,Ac,stand⟩=(ay 12,many,⟨id,th,st,bg,en,tr,Ac,stand⟩):=by
   have d3:(stand==3)=ak:=by rw[beq_eq_false_iff_ne];omega
   simp only[Rc.out,Rc.step,d3,kF];rfl
  rw[e1];unfold Ep Fh;simp only;rw[apy zW W5 n m o many gR M1 M2 ⟨5,tx,thread,obj,op,key,val,ret⟩ id th st bg en tr stand Ac.length (nth Ac) (many:Nat) id th st bg en tr stand Ac.length (zX (nth Ac)),Cb];repeat' (first
   |exact trivial
   |exact hv
   |exact hw
   |exact eqS _
   |exact rfl
   |exact fun _ _=>rfl
   |(intro q;replace q:=Nz q;first|(exfalso;omega) |skip)
   |(intro q;replace q:=eqF q;first|(exfalso;omega) |skip)
   |refine bW ?_ ?_)
theorem apE(hm:many<400){e:Ev}(hk:e.kind=6)(hv:BP e=aC)(r:Rc):
  EF (FZ [Ep n m o gR M1 M2 e (Rc.out many e r).2.1 (Rc.out many e r).2.2 [],Ep n m o gR M1 M2 e (Rc.out many e r).2.1 (Rc.out many e r).2.2 [(r.th,ak,.any)]] (fun sv k=>sv=svE (Rc.out many e r).1/\k=(bif (Rc.out many e r).1.isNone then 1 else 0))) ((run (C5 zW W5 Ce Am) 700 aC 79 [.code []] (LA 6 e (hpA n m o many gR M1 M2 [(e.tx,aC,.ptr 4 0)] []++Fh r))).bind (toEnd [Ep n m o gR M1 M2 e (Rc.out many e r).2.1 (Rc.out many e r).2.2 [],Ep n m o gR M1 M2 e (Rc.out many e r).2.1 (Rc.out many e r).2.2 [(r.th,ak,.any)]])):=by
 obtain ⟨kind,tx,thread,obj,op,key,val,ret⟩:=e;obtain ⟨id,th,st,bg,en,tr,Ac,stand⟩:=r;have hk:kind=6:=hk;subst hk;have hw:=wrapM hm;by_cases hs:stand=1\/stand=2\/stand=3\/stand=4
 ·have e1:Rc.out many ⟨6,tx,thread,obj,op,key,val,ret⟩ ⟨id,th,st,bg,en,tr,Ac,stand⟩=(aK,many+1,⟨id,th,4,bg,many,tr,Ac,5⟩):=by
   rcases hs with rfl|rfl|rfl|rfl<;>rfl
  rw[e1];unfold Ep Fh;simp only;rw[apz zW W5 n m o many gR M1 M2 ⟨6,tx,thread,obj,op,key,val,ret⟩ id th st bg en tr stand Ac.length (nth Ac) (many+1:Nat) id th 4 bg many tr 5 Ac.length (zX (nth Ac)),Cb];repeat' (first
   |exact trivial
   |exact hv
   |exact hw
   |exact eqS _
   |exact rfl
   |exact fun _ _=>rfl
   |(intro q;replace q:=Nz q;first|(exfalso;omega) |skip)
   |(intro q;replace q:=eqF q;first|(exfalso;omega) |skip)
   |refine bW ?_ ?_)
 ·have e1:Rc.out many ⟨6,tx,thread,obj,op,key,val,ret⟩ ⟨id,th,st,bg,en,tr,Ac,stand⟩=(ay 12,many,⟨id,th,st,bg,en,tr,Ac,stand⟩):=by
   have d1:(stand==1)=ak:=by rw[beq_eq_false_iff_ne];omega
   have d2:(stand==2)=ak:=by rw[beq_eq_false_iff_ne];omega
   have d3:(stand==3)=ak:=by rw[beq_eq_false_iff_ne];omega
   have d4:(stand==4)=ak:=by rw[beq_eq_false_iff_ne];omega
   simp only[Rc.out,Rc.step,d1,d2,d3,d4,kF];rfl
  rw[e1];unfold Ep Fh;simp only;rw[apz zW W5 n m o many gR M1 M2 ⟨6,tx,thread,obj,op,key,val,ret⟩ id th st bg en tr stand Ac.length (nth Ac) (many:Nat) id th st bg en tr stand Ac.length (zX (nth Ac)),Cb];repeat' (first
   |exact trivial
   |exact hv
   |exact hw
   |exact eqS _
   |exact rfl
   |exact fun _ _=>rfl
   |(intro q;replace q:=Nz q;first|(exfalso;omega) |skip)
   |(intro q;replace q:=eqF q;first|(exfalso;omega) |skip)
   |refine bW ?_ ?_)
theorem apF(hm:many<400){e:Ev}(hk:e.kind=2)(hv:BP e=aC)(r:Rc)(hl:r.Ac.length<=1000)(h1:0<=e.obj)(h2:e.obj<n)(h3:Dz e.op=(o e.obj.toNat).kind):
  EF (FZ [Ep n m o gR M1 M2 e (Rc.out many e r).2.1 (Rc.out many e r).2.2 []] (fun sv k=>sv=svE (Rc.out many e r).1/\k=0)) ((run (C5 zW W5 Ce Am) 700 aC 79 [.code []] (LA 2 e (hpA n m o many gR M1 M2 [(e.tx,aC,.ptr 4 0)] []++Fh r))).bind (toEnd [Ep n m o gR M1 M2 e (Rc.out many e r).2.1 (Rc.out many e r).2.2 []])):=by
 obtain ⟨kind,tx,thread,obj,op,key,val,ret⟩:=e;obtain ⟨id,th,st,bg,en,tr,Ac,stand⟩:=r;have hk:kind=2:=hk;subst hk;have hw:=wrapM hm;have hl:Ac.length<=1000:=hl;have h1:0<=obj:=h1;have h2:obj<n:=h2;have h3:Dz op=(o obj.toNat).kind:=h3;have ho:zW.le (zW.AO n) obj=aC->False:=fun q=>by simp[Df,Az] at q;omega
 have hi:zW.inB obj n=aC:=by simp[Bl];omega
 have hq:zW.nt (zW.eq (Dz op) (o (zW.toN obj)).kind)=aC->False:=fun q=>by
  simp[BQ,Aq,CJ] at q;exact q h3
 have hroom:zW.room (zW.addN Ac.length 1) 64=aC:=by
  show decide ((Ac.length+1)*64<=140737488355328/\Ac.length+1<=maxLen)=aC;rw[maxLen_eq];exact decide_eq_true ⟨by omega,by omega⟩
 have hsn:∀i,i<Ac.length+1->zW.snoc (zX (nth Ac)) Ac.length (AU [[.i .i64 obj,.i .i64 op,.i .i64 key,.i .i64 val,.i .i64 0,.i .i64 0,.i .i64 many,.i .i64 (-1)]]) i=zX (nth (Ac++[(⟨obj,op,key,val,0,0,many,-1⟩:De)])) i:=O1 (α:=De) _ _ rfl;have hlen:Ac.length+1=(Ac++[(⟨obj,op,key,val,0,0,many,-1⟩:De)]).length:=by simp
 by_cases hs:stand=1
 ·have e1:Rc.out many ⟨2,tx,thread,obj,op,key,val,ret⟩ ⟨id,th,st,bg,en,tr,Ac,stand⟩=(aK,many+1,⟨id,th,st,bg,en,tr,Ac++[⟨obj,op,key,val,0,0,many,-1⟩],2⟩):=by
   subst hs;rfl
  rw[e1];unfold Ep Fh;simp only;rw[apw zW W5 n m o many gR M1 M2 ⟨2,tx,thread,obj,op,key,val,ret⟩ id th st bg en tr stand Ac.length (nth Ac) (many+1:Nat) id th st bg en tr 2 (Ac++[(⟨obj,op,key,val,0,0,(many:Int),-1⟩:De)]).length (zX (nth (Ac++[(⟨obj,op,key,val,0,0,(many:Int),-1⟩:De)]))),Cb];repeat' (first
   |exact trivial
   |exact hv
   |exact hw
   |exact hi
   |exact hroom
   |exact hlen
   |exact hsn
   |(intro q;exact (ho q).elim)
   |(intro q;exact (hq q).elim)
   |exact eqS _
   |exact rfl
   |exact fun _ _=>rfl
   |(intro q;replace q:=Nz q;first|(exfalso;omega) |skip)
   |(intro q;replace q:=eqF q;first|(exfalso;omega) |skip)
   |intro _
   |refine bW ?_ ?_)
 ·have e1:Rc.out many ⟨2,tx,thread,obj,op,key,val,ret⟩ ⟨id,th,st,bg,en,tr,Ac,stand⟩=(ay 12,many,⟨id,th,st,bg,en,tr,Ac,stand⟩):=by
   have d1:(stand==1)=ak:=by rw[beq_eq_false_iff_ne];omega
   simp only[Rc.out,Rc.step,d1];rfl
  rw[e1];unfold Ep Fh;simp only;rw[apw zW W5 n m o many gR M1 M2 ⟨2,tx,thread,obj,op,key,val,ret⟩ id th st bg en tr stand Ac.length (nth Ac) (many:Nat) id th st bg en tr stand Ac.length (zX (nth Ac)),Cb];repeat' (first
   |exact trivial
   |exact hv
   |exact hw
   |exact hi
   |exact hroom
   |exact hlen
   |exact hsn
   |(intro q;exact (ho q).elim)
   |(intro q;exact (hq q).elim)
   |exact eqS _
   |exact rfl
   |exact fun _ _=>rfl
   |(intro q;replace q:=Nz q;first|(exfalso;omega) |skip)
   |(intro q;replace q:=eqF q;first|(exfalso;omega) |skip)
   |intro _
   |refine bW ?_ ?_)
theorem apG(hm:many<400){e:Ev}(hk:e.kind=3)(hv:BP e=aC)(r:Rc)(hl:r.Ac.length<=1000)(hd:r.stand=2->r.Ac≠[]):
  EF (FZ [Ep n m o gR M1 M2 e (Rc.out many e r).2.1 (Rc.out many e r).2.2 []] (fun sv k=>sv=svE (Rc.out many e r).1/\k=0)) ((run (C5 zW W5 Ce Am) 700 aC 79 [.code []] (LA 3 e (hpA n m o many gR M1 M2 [(e.tx,aC,.ptr 4 0)] []++Fh r))).bind (toEnd [Ep n m o gR M1 M2 e (Rc.out many e r).2.1 (Rc.out many e r).2.2 []])):=by
 obtain ⟨kind,tx,thread,obj,op,key,val,ret⟩:=e;obtain ⟨id,th,st,bg,en,tr,Ac,stand⟩:=r;have hk:kind=3:=hk;subst hk;have hw:=wrapM hm;have hl:Ac.length<=1000:=hl;have hd:stand=2->Ac≠[]:=hd;by_cases hs:stand=2
 ·have hd:=hd hs
  have hpos:0<Ac.length:=List.length_pos_iff.2 hd;have hix:zW.toN (zW.sub .i64 (zW.AO Ac.length) (ah 1))=Ac.length - 1:=by
   rw[MC,Az,CJ,BL (by simp only[fU];omega) (by simp only[fU];omega)];simp only[fU];omega
  have hi:zW.inB (zW.sub .i64 (zW.AO Ac.length) (ah 1)) Ac.length=aC:=by
   rw[MC,Az,BL (by simp only[fU];omega) (by simp only[fU];omega),Bl];simp only[fU];exact decide_eq_true ⟨by omega,by omega⟩
  have hlast:nth Ac (Ac.length - 1)=Ac.getLast?.getD Row.Jm:=alM hd;by_cases hf:OE (Ac.getLast?.getD Row.Jm).op ret=aC
  ·have hq:zW.nt (OE (nth Ac (zW.toN (zW.sub .i64 (zW.AO Ac.length) (ah 1)))).op ret)=aC->False:=fun q=>by
    rw[hix,hlast,BQ,hf] at q;cases q
   have hlen:Ac.length=(FT (fun d:De=>{d with ret:=ret,got:=val,back:=(many:Int)}) Ac).length:=(SE _ _).symm
   have hup:∀i,i<Ac.length->zW.upd (zW.upd (zW.upd (zX (nth Ac)) (zW.toN (zW.sub .i64 (zW.AO Ac.length) (ah 1))) 4 [.i .i64 ret]) (zW.toN (zW.sub .i64 (zW.AO Ac.length) (ah 1))) 5 [.i .i64 val]) (zW.toN (zW.sub .i64 (zW.AO Ac.length) (ah 1))) 7 [.i .i64 many] i=zX (nth (FT (fun d:De=>{d with ret:=ret,got:=val,back:=(many:Int)}) Ac)) i:=fun i hi=>by
    rw[hix];simp only[zX];rw[Zg _ _ _ hi];by_cases q:i=Ac.length - 1
    ·rw[if_pos q]
     subst q;simp only[zW,if_true];rfl
    ·rw[if_neg q]
     simp only[zW,if_neg q];rfl
   have e1:Rc.out many ⟨3,tx,thread,obj,op,key,val,ret⟩ ⟨id,th,st,bg,en,tr,Ac,stand⟩=(aK,many+1,⟨id,th,st,bg,en,tr,FT (fun d=>{d with ret:=ret,got:=val,back:=many}) Ac,1⟩):=by
    subst hs;simp only[Rc.out,Rc.step,hf];rfl
   rw[e1];unfold Ep Fh;simp only;rw[ajf zW W5 n m o many gR M1 M2 ⟨3,tx,thread,obj,op,key,val,ret⟩ id th st bg en tr stand Ac.length (nth Ac) (many+1:Nat) id th st bg en tr 1 (FT (fun d:De=>{d with ret:=ret,got:=val,back:=(many:Int)}) Ac).length (zX (nth (FT (fun d:De=>{d with ret:=ret,got:=val,back:=(many:Int)}) Ac))),Cb]
   repeat' (first
    |exact trivial
    |exact hv
    |exact hw
    |exact hi
    |exact hlen
    |exact hup
    |(intro q;exact (hq q).elim)
    |exact eqS _
    |exact rfl
    |exact fun _ _=>rfl
    |(intro q;replace q:=Nz q;first|(exfalso;omega) |skip)
    |(intro q;replace q:=eqF q;first|(exfalso;omega) |skip)
    |intro _
    |refine bW ?_ ?_)
  ·have hf:OE (Ac.getLast?.getD Row.Jm).op ret=ak:=by simpa using hf
   have hq:zW.nt (OE (nth Ac (zW.toN (zW.sub .i64 (zW.AO Ac.length) (ah 1)))).op ret)=ak->False:=fun q=>by
    rw[hix,hlast,BQ,hf] at q;cases q
   have hlen:=hl;have hup:=hl;have e1:Rc.out many ⟨3,tx,thread,obj,op,key,val,ret⟩ ⟨id,th,st,bg,en,tr,Ac,stand⟩=(ay 13,many,⟨id,th,st,bg,en,tr,Ac,stand⟩):=by
    subst hs;simp only[Rc.out,Rc.step,hf];rfl
   rw[e1];unfold Ep Fh;simp only;rw[ajf zW W5 n m o many gR M1 M2 ⟨3,tx,thread,obj,op,key,val,ret⟩ id th st bg en tr stand Ac.length (nth Ac) (many:Nat) id th st bg en tr stand Ac.length (zX (nth Ac)),Cb];repeat' (first
    |exact trivial
    |exact hv
    |exact hw
    |exact hi
    |exact hlen
    |exact hup
    |(intro q;exact (hq q).elim)
    |exact eqS _
    |exact rfl
    |exact fun _ _=>rfl
    |(intro q;replace q:=Nz q;first|(exfalso;omega) |skip)
    |(intro q;replace q:=eqF q;first|(exfalso;omega) |skip)
    |intro _
    |refine bW ?_ ?_)
 ·have hi:=hl
  have hlen:=hl;have hup:=hl;have hq:=hl;have e1:Rc.out many ⟨3,tx,thread,obj,op,key,val,ret⟩ ⟨id,th,st,bg,en,tr,Ac,stand⟩=(ay 12,many,⟨id,th,st,bg,en,tr,Ac,stand⟩):=by
   have d1:(stand==2)=ak:=by rw[beq_eq_false_iff_ne];omega
   simp only[Rc.out,Rc.step,d1];rfl
  rw[e1];unfold Ep Fh;simp only;rw[ajf zW W5 n m o many gR M1 M2 ⟨3,tx,thread,obj,op,key,val,ret⟩ id th st bg en tr stand Ac.length (nth Ac) (many:Nat) id th st bg en tr stand Ac.length (zX (nth Ac)),Cb];repeat' (first
   |exact trivial
   |exact hv
   |exact hw
   |exact eqS _
   |exact rfl
   |exact fun _ _=>rfl
   |(intro q;replace q:=Nz q;first|(exfalso;omega) |skip)
   |(intro q;replace q:=eqF q;first|(exfalso;omega) |skip)
   |refine bW ?_ ?_)
end
end Go.Ae
namespace Go.Sx
open Go.BF
theorem NZ(d:De):(deV d).length=8:=rfl
theorem flat_length:∀l:List De,(l.flatMap deV).length=l.length*8
 |[]=>rfl |d::l=>by simp[flat_length l,NZ,Nat.add_mul];omega
theorem abT:∀(l:List De) (i j:Nat),j<8->(l.flatMap deV)[i*8+j]?=(l[i]?).bind fun d=>(deV d)[j]?
 |[],i,j,_=>by simp |d::l,0,j,hj=>by
  simp only[oG,Nat.zero_mul,Nat.zero_add,List.getElem?_cons_zero,eX];rw[dJ (by rw[NZ];exact hj)]
 |d::l,i+1,j,hj=>by
  simp only[oG,List.getElem?_cons_succ];rw[List.getElem?_append_right (by rw[NZ];omega),NZ,show (i+1)*8+j - 8=i*8+j by omega];exact abT l i j hj
theorem apH(d:De):∀u∈deV d,u.oneCell'=aC:=fun u hu=>by
 simp[deV] at hu;rcases hu with rfl|rfl|rfl|rfl|rfl|rfl|rfl|rfl<;>rfl
theorem apI{H:Mem}(d:De)(j:Nat)(s:Sh)(v:Value)(h1:(deR d)[j]?=ay s)(h2:(deV d)[j]?=ay v):Rep H s v:=by
 match j,h1,h2 with
 |0,h1,h2=>cases h1;cases h2;exact .i _ _ |1,h1,h2=>cases h1;cases h2;exact .i _ _ |2,h1,h2=>cases h1;cases h2;exact .i _ _ |3,h1,h2=>cases h1;cases h2;exact .i _ _ |4,h1,h2=>cases h1;cases h2;exact .i _ _ |5,h1,h2=>cases h1;cases h2;exact .i _ _ |6,h1,h2=>cases h1;cases h2;exact .i _ _ |7,h1,h2=>cases h1;cases h2;exact .i _ _ |j+8,h1,h2=>simp[deR] at h1
theorem adR{α:Type}[Row α]{l:List α}{i:Nat}(h:i<l.length):l[i]?=ay (nth l i):=by
 simp[nth,aY,h]
theorem Zh{H:Mem}(l:List De):BO H 8 l.length (zX (nth l)) (l.flatMap deV):=by
 refine ⟨flat_length l,fun i _=>rfl,fun u hu=>?_,fun i j s v hi h1 h2=>?_⟩
 ·obtain ⟨d,_,hd⟩:=List.mem_flatMap.1 hu
  exact apH d u hd
 ·have hj:j<8:=by
   have:=(aU.1 h1).1;exact this
  rw[abT l i j hj,adR hi] at h2;exact apI (nth l i) j s v h1 h2
theorem abU{H:Mem}{l:List De}{xs:List Value}(h:BO H 8 l.length (zX (nth l)) xs):xs=l.flatMap deV:=by
 apply lD;intro q;by_cases hq:q<l.length*8
 ·have hi:q / 8<l.length:=by omega
  have hj:q % 8<8:=by omega
  have e:q=q / 8*8+q % 8:=by omega
  rw[e,abT l _ _ hj,adR hi];have hx:q / 8*8+q % 8<xs.length:=by rw[h.1];omega
  rw[aV hx];simp only[eX];have hs:∃s,(deR (nth l (q / 8)))[q % 8]?=ay s:=⟨_,aV (by exact hj)⟩;obtain ⟨s,hs⟩:=hs;have hr:=h.2.2.2 (q / 8) (q % 8) s _ hi hs (aV hx);generalize xs[q / 8*8+q % 8]=v at hr;generalize q % 8=j at hs hj hr;match j,hs,hj with
  |0,hs,_=>cases hs;cases hr;rfl |1,hs,_=>cases hs;cases hr;rfl |2,hs,_=>cases hs;cases hr;rfl |3,hs,_=>cases hs;cases hr;rfl |4,hs,_=>cases hs;cases hr;rfl |5,hs,_=>cases hs;cases hr;rfl |6,hs,_=>cases hs;cases hr;rfl |7,hs,_=>cases hs;cases hr;rfl |j+8,_,hj=>omega
 ·rw[jl (by rw[h.1];omega),jl (by rw[flat_length];omega)]
def Gy(R:Nat->Nat):Nat->List Sh:=fun j=>[.v (Dq (R j))]
theorem alN{H:Mem}(R:Nat->Nat)(n:Nat):BO H 1 n (Gy R) ((aX n).map fun i=>Dq (R i)):=by
 refine ⟨by simp,fun i _=>rfl,fun u hu=>?_,fun i j s v hi h1 h2=>?_⟩
 ·obtain ⟨i,_,rfl⟩:=List.mem_map.1 hu
  rfl
 ·have hj:j=0:=by
   have:=(aU.1 h1).1;simp[Gy] at this;exact this
  subst hj;cases h1;simp[hi] at h2;subst h2;exact .v _ rfl
theorem QC{H:Mem}{R:Nat->Nat}{n:Nat}{xs:List Value}(h:BO H 1 n (Gy R) xs):xs=(aX n).map fun i=>Dq (R i):=by
 apply lD;intro q;by_cases hq:q<n
 ·have hx:q<xs.length:=by rw[h.1];omega
  rw[aV hx];have hr:=h.2.2.2 q 0 _ xs[q] hq rfl (by rw[Nat.mul_one,Nat.add_zero];exact aV hx);generalize xs[q]=v at hr ⊢;cases hr;simp[hq]
 ·rw[jl (by rw[h.1];omega),jl (by simp;omega)]
section
variable{H H':Mem}{E E':Env}{w w':World}{n0:Nat}{g0:Nat->List Sh}{σ σ':Au}{L L':Lay}
theorem SH(hA:Di H w n0 g0 σ L){own:Nat->Prop}{V:Tg->Prop}(hown:∀b,own b↔∃t,V t/\L.blk σ.rs.length t=ay b)(hW:DZ ⟨w,own,H⟩ H' w')(hH:H.le H')
  (hV:V .au/\V .tx/\V .KT/\V .bu/\V .ob) (hV2:∀i,V (.rc i)↔V (.de i))
  (au:w'.heap[L'.p]?=ay (.cells #[L'.v0,.int .i64 σ'.many,L'.v2,.map (ay L'.b1),.map (ay L'.b2)] 181 (0,0))) (ob:∃xs,w'.ownsRow 0 140 2 L'.v0 n0 xs/\BO H' 2 n0 g0 xs)
  (tx:w'.ownsRow 0 182 1 L'.v2 σ'.rs.length ((aX σ'.rs.length).map fun i=>Dq (L'.R i)))
  (KT:∃ms clk,w'.heap[L'.b1]?=ay (.map ms clk)/\E5 .i64 ms.toList clk fun k=>(σ'.JR k).map fun i=>Dq (L'.R i))
  (bu:∃ms clk,w'.heap[L'.b2]?=ay (.map ms clk)/\E5 .i64 ms.toList clk fun k=>(σ'.KR k).map fun i=>Dq (L'.R i))
  (rcV:∀i r,σ'.rs[i]?=ay r->V (.rc i)->w'.heap[L'.R i]?=ay (.cells (Xa r (L'.D i)) 184 (0,0))/\w'.ownsRow 0 197 8 (L'.D i) r.Ac.length (r.Ac.flatMap deV))
  (old:∀i r,σ'.rs[i]?=ay r->¬V (.rc i)->σ.rs[i]?=ay r/\L'.R i=L.R i/\L'.D i=L.D i)
  (ZV:∀t b,V t->L'.blk σ'.rs.length t=ay b->H' b=aK/\(w.heap.size<=b\/own b))
  (arB:∀s t b,V s->V t->L'.blk σ'.rs.length s=ay b->L'.blk σ'.rs.length t=ay b->s=t) :
  Di H' w' n0 g0 σ' L'/\∀t b,L'.blk σ'.rs.length t=ay b->w.heap.size<=b\/∃t',L.blk σ.rs.length t'=ay b:=by
 have TI:∀t b,¬V t->L'.blk σ'.rs.length t=ay b->L.blk σ.rs.length t=ay b:=fun t b hv hb=>by
  cases t with
  |au=>exact (hv hV.1).elim |tx=>exact (hv hV.2.1).elim |KT=>exact (hv hV.2.2.1).elim |bu=>exact (hv hV.2.2.2.1).elim |ob=>exact (hv hV.2.2.2.2).elim |rc i=>
   simp only[Lay.blk] at hb ⊢;split at hb
   ·rename_i hi
    obtain ⟨o1,o2,o3⟩:=old i _ (aV hi) hv;rw[if_pos (aU.1 o1).1,<-o2];exact hb
   ·cases hb
  |de i=>
   simp only[Lay.blk] at hb ⊢;split at hb
   ·rename_i hi
    obtain ⟨o1,o2,o3⟩:=old i _ (aV hi) fun q=>hv ((hV2 i).1 q);rw[if_pos (aU.1 o1).1,<-o3];exact hb
   ·cases hb
 have ZW:∀t b,¬V t->L.blk σ.rs.length t=ay b->¬own b:=fun t b hv hb ho=>by
  obtain ⟨t',h1,h2⟩:=(hown b).1 ho;have:=hA.FU _ _ _ hb h2;subst this;exact hv h1
 have kept:∀t b,¬V t->L.blk σ.rs.length t=ay b->w'.heap[b]?=w.heap[b]?:=fun t b hv hb=>hW.kept b (hA.lt hb) (ZW t b hv hb);refine ⟨⟨au,ob,tx,KT,bu,fun i r hi=>?_,fun i r hi=>?_,fun s t b hs ht=>?_,fun t b hb=>?_⟩,fun t b hb=>?_⟩
 ·by_cases hv:V (.rc i)
  ·exact (rcV i r hi hv).1
  ·obtain ⟨o1,o2,o3⟩:=old i r hi hv
   rw[o2,o3,kept (.rc i) _ hv (by simp[Lay.blk,(aU.1 o1).1])];exact hA.rc i r o1
 ·by_cases hv:V (.rc i)
  ·exact (rcV i r hi hv).2
  ·obtain ⟨o1,o2,o3⟩:=old i r hi hv
   rw[o3];refine FV (hA.de i r o1) fun b hb=>kept (.de i) b (fun q=>hv ((hV2 i).2 q)) ?_;simp[Lay.blk,(aU.1 o1).1,hb]
 ·by_cases vs:V s<;>by_cases vt:V t
  ·exact arB s t b vs vt hs ht
  ·exfalso
   have h1:=TI t b vt ht;rcases (ZV s b vs hs).2 with q|q
   ·have:=hA.lt h1;omega
   ·exact ZW t b vt h1 q
  ·exfalso
   have h1:=TI s b vs hs;rcases (ZV t b vt ht).2 with q|q
   ·have:=hA.lt h1;omega
   ·exact ZW s b vs h1 q
  ·exact hA.FU s t b (TI s b vs hs) (TI t b vt ht)
 ·by_cases hv:V t
  ·exact (ZV t b hv hb).1
  ·have h1:=TI t b hv hb
   cases hx:H' b with
   |none=>rfl |some o=>
    rcases hW.fresh b (by rw[hx];simp) with q|q|q
    ·exact (q (hA.un t b h1)).elim
    ·have:=hA.lt h1
     have q:w.heap.size<=b:=q;omega
    ·exact (ZW t b hv h1 q).elim
 ·by_cases hv:V t
  ·rcases (ZV t b hv hb).2 with q|q
   ·exact .inl q
   ·obtain ⟨t',_,h2⟩:=(hown b).1 q
    exact .inr ⟨t',h2⟩
  ·exact .inr ⟨t,TI t b hv hb⟩
end
open Go.BF Go.Ae
def IV(σ:Au)(L:Lay):Int->Option Value:=fun k=>(σ.JR k).map fun i=>Dq (L.R i)
def IC(σ:Au)(L:Lay):Int->Option Value:=fun k=>(σ.KR k).map fun i=>Dq (L.R i)
def Iw(L:Lay)(i:Option Nat):Env:=fun id=>match id with
 |0=>ay (Dq L.p) |1=>ay L.v2 |2=>ay (.map (ay L.b1)) |3=>ay (.map (ay L.b2)) |4=>i.map fun i=>Dq (L.R i) |5=>i.map fun i=>L.D i |6=>ay L.v0 |_=>aK
def Vw(i:Option Nat):Tg->Prop
 | .rc j=>i=ay j | .de j=>i=ay j |_=>True
def Um(i:Nat):Nat->Tg
 |0=>.au |1=>.tx |2=>.KT |3=>.bu |4=>.rc i |5=>.de i |_=>.ob
def awr:Tg->Nat
 | .au=>0 | .tx=>1 | .KT=>2 | .bu=>3 | .rc _=>4 | .de _=>5 | .ob=>6
theorem ahq{i a:Nat}(h:a<7):awr (Um i a)=a:=by
 match a,h with
 |0,_|1,_|2,_|3,_|4,_|5,_|6,_=>rfl |a+7,h=>omega
theorem adS{i a b:Nat}(ha:a<7)(hb:b<7)(h:Um i a=Um i b):a=b:=by
 rw[<-ahq (i:=i) ha,<-ahq (i:=i) hb,h]
section
variable{H H':Mem}{E E':Env}{w w':World}{n:Nat}{o:Nat->Oj}{σ σ':Au}{L L':Lay}
def JK(n:Nat)(o:Nat->Oj)(σ:Au)(L:Lay)(f1 f2:List (Int×Bool×SV)):List (Nat×SB):=hpA n σ.rs.length o σ.many (Gy L.R) (IV σ L) (IC σ L) f1 f2
theorem apJ(hA:Di H w n (zX o) σ L)(i:Option Nat){own:Nat->Prop}(hown:∀t b,Vw i t->L.blk σ.rs.length t=ay b->own b){f1 f2:List (Int×Bool×SV)}{v1 v2:List (Int×Option Value)}(h1:Gf H (Iw L i) f1 v1)(h2:Gf H (Iw L i) f2 v2)
  (m1:∀k u,(k,u)∈v1->IV σ L k=u) (m2:∀k u,(k,u)∈v2->IC σ L k=u):∀id sb,zY (JK n o σ L f1 f2) id=ay sb->Gi ⟨w,own,H⟩ H (Iw L i) w id sb/\(id<4\/id=6)/\∀b,AL (Iw L i) id sb=ay b->L.blk σ.rs.length (Um 0 id)=ay b:=by
 intro id sb hl;have mine:∀t b,Vw i t->L.blk σ.rs.length t=ay b->Mine ⟨w,own,H⟩ H b:=fun t b hv hb=>⟨hA.un t b hb,.inr (hown t b hv hb)⟩;match id,hl with
 |0,hl=>
  cases hl;exact ⟨⟨L.p,_,rfl,hA.au,⟨⟨rfl,(let ⟨_,h1,_⟩:=hA.ob;Jh h1)⟩,rfl,⟨rfl,Jh hA.tx⟩,⟨_,rfl,rfl⟩,⟨_,rfl,rfl⟩,trivial⟩,mine .au _ trivial rfl⟩,by decide,fun b hb=>hb⟩
 |1,hl=>
  cases hl;exact ⟨⟨L.v2,_,rfl,hA.tx,alN _ _,fun b hb=>mine .tx b trivial hb⟩,by decide,fun b hb=>hb⟩
 |2,hl=>
  cases hl;obtain ⟨ms,clk,a1,a2⟩:=hA.KT;exact ⟨⟨L.b1,ms,clk,v1,[],rfl,a1,h1,trivial,m1,a2,trivial,mine .KT _ trivial rfl⟩,by decide,fun b hb=>hb⟩
 |3,hl=>
  cases hl;obtain ⟨ms,clk,a1,a2⟩:=hA.bu;exact ⟨⟨L.b2,ms,clk,v2,[],rfl,a1,h2,trivial,m2,a2,trivial,mine .bu _ trivial rfl⟩,by decide,fun b hb=>hb⟩
 |6,hl=>
  cases hl;obtain ⟨xs,a1,a2⟩:=hA.ob;exact ⟨⟨L.v0,xs,rfl,a1,a2,fun b hb=>mine .ob b trivial hb⟩,by decide,fun b hb=>hb⟩
 |4,hl=>simp[JK,hpA,zY] at hl |5,hl=>simp[JK,hpA,zY] at hl |id+7,hl=>simp[JK,hpA,zY] at hl
theorem ajh{n:Nat}{o:Nat->Oj}{σ:Au}{L:Lay}{f1 f2:List (Int×Bool×SV)}{r:Rc}{id:Nat}{sb:SB}(h:zY (JK n o σ L f1 f2++Fh r) id=ay sb):
  zY (JK n o σ L f1 f2) id=ay sb\/(id=4/\sb=.box [.sym .i64 r.id,.sym .i64 r.th,.sym .i64 r.st,.sym .i64 r.bg,.sym .i64 r.en,.sym .i64 r.tr,.gs 5,.sym .i64 r.stand] 184)\/(id=5/\sb=.own 197 8 r.Ac.length (zX (nth r.Ac))):=by
 match id,h with
 |0,h=>exact .inl h |1,h=>exact .inl h |2,h=>exact .inl h |3,h=>exact .inl h |4,h=>cases h;exact .inr (.inl ⟨rfl,rfl⟩) |5,h=>cases h;exact .inr (.inr ⟨rfl,rfl⟩) |6,h=>exact .inl h |id+7,h=>simp[JK,hpA,Fh,hpR,zY] at h
theorem arC{i j id:Nat}(h:id<4\/id=6):Um i id=Um j id:=by
 match id,h with
 |0,_|1,_|2,_|3,_|6,_=>rfl |4,h=>omega |5,h=>omega |id+7,h=>omega
theorem alO(hA:Di H w n (zX o) σ L){i:Nat}{r:Rc}(hi:σ.rs[i]?=ay r){own:Nat->Prop}(hown:∀t b,Vw (ay i) t->L.blk σ.rs.length t=ay b->own b){f1 f2:List (Int×Bool×SV)}{v1 v2:List (Int×Option Value)}
  (h1:Gf H (Iw L (ay i)) f1 v1) (h2:Gf H (Iw L (ay i)) f2 v2) (m1:∀k u,(k,u)∈v1->IV σ L k=u) (m2:∀k u,(k,u)∈v2->IC σ L k=u) :
  Aj ⟨w,own,H⟩ H (Iw L (ay i)) w (JK n o σ L f1 f2++Fh r):=by
 have hlt:=(aU.1 hi).1;have key:∀id sb,zY (JK n o σ L f1 f2++Fh r) id=ay sb->Gi ⟨w,own,H⟩ H (Iw L (ay i)) w id sb/\id<7/\∀b,AL (Iw L (ay i)) id sb=ay b->L.blk σ.rs.length (Um i id)=ay b:=fun id sb hl=>by
  rcases ajh hl with hl|⟨rfl,rfl⟩ |⟨rfl,rfl⟩
  ·obtain ⟨a1,a2,a3⟩:=apJ hA (ay i) hown h1 h2 m1 m2 id sb hl
   exact ⟨a1,by omega,fun b hb=>by rw[arC (j:=0) a2];exact a3 b hb⟩
  ·have hb:L.blk σ.rs.length (.rc i)=ay (L.R i):=by simp[Lay.blk,hlt]
   exact ⟨⟨L.R i,_,rfl,hA.rc i r hi,⟨rfl,rfl,rfl,rfl,rfl,rfl,⟨rfl,Jh (hA.de i r hi)⟩,rfl,trivial⟩,⟨hA.un _ _ hb,.inr (hown (.rc i) _ rfl hb)⟩⟩,by decide,fun b hb'=>by
    cases hb';exact hb⟩
  ·have hb:∀b,Ai (L.D i)=ay b->L.blk σ.rs.length (.de i)=ay b:=fun b hb=>by simp[Lay.blk,hlt,hb]
   exact ⟨⟨L.D i,_,rfl,hA.de i r hi,Zh _,fun b hb'=>⟨hA.un _ _ (hb b hb'),.inr (hown (.de i) _ rfl (hb b hb'))⟩⟩,by decide,fun b hb'=>hb b hb'⟩
 refine ⟨fun id sb hl=>(key id sb hl).1,fun id id' sb sb' b l1 l2 o1 o2=>?_⟩;obtain ⟨_,a1,a2⟩:=key id sb l1;obtain ⟨_,b1,b2⟩:=key id' sb' l2;exact adS a1 b1 (hA.FU _ _ _ (a2 b o1) (b2 b o2))
theorem abV(hA:Di H w n (zX o) σ L){own:Nat->Prop}(hown:∀t b,Vw aK t->L.blk σ.rs.length t=ay b->own b){f1 f2:List (Int×Bool×SV)}{v1 v2:List (Int×Option Value)}
  (h1:Gf H (Iw L aK) f1 v1) (h2:Gf H (Iw L aK) f2 v2) (m1:∀k u,(k,u)∈v1->IV σ L k=u) (m2:∀k u,(k,u)∈v2->IC σ L k=u) :
  Aj ⟨w,own,H⟩ H (Iw L aK) w (JK n o σ L f1 f2):=by
 have key:=apJ hA aK hown h1 h2 m1 m2;refine ⟨fun id sb hl=>(key id sb hl).1,fun id id' sb sb' b l1 l2 o1 o2=>?_⟩;obtain ⟨_,a1,a2⟩:=key id sb l1;obtain ⟨_,b1,b2⟩:=key id' sb' l2;exact adS (i:=0) (by omega) (by omega) (hA.FU _ _ _ (a2 b o1) (b2 b o2))
theorem apK(hA:Di H w n (zX o) σ L){i:Nat}{r:Rc}(hi:σ.rs[i]?=ay r){f1 f2:List (Int×Bool×SV)}(b:Nat):
  La (Iw L (ay i)) (JK n o σ L f1 f2++Fh r) b↔∃t,Vw (ay i) t/\L.blk σ.rs.length t=ay b:=by
 have hlt:=(aU.1 hi).1;constructor
 ·rintro ⟨id,sb,hl,hb⟩
  match id,hl with
  |0,hl=>cases hl;exact ⟨.au,trivial,hb⟩ |1,hl=>cases hl;exact ⟨.tx,trivial,hb⟩ |2,hl=>cases hl;exact ⟨.KT,trivial,hb⟩ |3,hl=>cases hl;exact ⟨.bu,trivial,hb⟩ |4,hl=>cases hl;exact ⟨.rc i,rfl,by cases hb;simp[Lay.blk,hlt]⟩ |5,hl=>cases hl;exact ⟨.de i,rfl,by simp only[Lay.blk,if_pos hlt];exact hb⟩ |6,hl=>cases hl;exact ⟨.ob,trivial,hb⟩ |id+7,hl=>simp[JK,hpA,Fh,hpR,zY] at hl
 ·rintro ⟨t,hv,hb⟩
  cases t with
  |au=>exact ⟨0,_,rfl,hb⟩ |tx=>exact ⟨1,_,rfl,hb⟩ |KT=>exact ⟨2,_,rfl,hb⟩ |bu=>exact ⟨3,_,rfl,hb⟩ |ob=>exact ⟨6,_,rfl,hb⟩ |rc j=>
   cases hv;simp only[Lay.blk,if_pos hlt] at hb;exact ⟨4,_,rfl,hb⟩
  |de j=>
   cases hv;simp only[Lay.blk,if_pos hlt] at hb;exact ⟨5,_,rfl,hb⟩
theorem adT{f1 f2:List (Int×Bool×SV)}(b:Nat):
  La (Iw L aK) (JK n o σ L f1 f2) b↔∃t,Vw aK t/\L.blk σ.rs.length t=ay b:=by
 constructor
 ·rintro ⟨id,sb,hl,hb⟩
  match id,hl with
  |0,hl=>cases hl;exact ⟨.au,trivial,hb⟩ |1,hl=>cases hl;exact ⟨.tx,trivial,hb⟩ |2,hl=>cases hl;exact ⟨.KT,trivial,hb⟩ |3,hl=>cases hl;exact ⟨.bu,trivial,hb⟩ |4,hl=>simp[JK,hpA,zY] at hl |5,hl=>simp[JK,hpA,zY] at hl |6,hl=>cases hl;exact ⟨.ob,trivial,hb⟩ |id+7,hl=>simp[JK,hpA,zY] at hl
 ·rintro ⟨t,hv,hb⟩
  cases t with
  |au=>exact ⟨0,_,rfl,hb⟩ |tx=>exact ⟨1,_,rfl,hb⟩ |KT=>exact ⟨2,_,rfl,hb⟩ |bu=>exact ⟨3,_,rfl,hb⟩ |ob=>exact ⟨6,_,rfl,hb⟩ |rc j=>cases hv |de j=>cases hv
end
open Go.BF Go.Ae
section
variable{H H':Mem}{E E':Env}{w w':World}{n:Nat}{o:Nat->Oj}{σ σ':Au}{L L':Lay}
theorem Pn{r:List (Int×Option Value)}(h:Gf H E [] r):r=[]:=by
 cases r with
 |nil=>rfl |cons _ _=>exact h.elim
theorem alP{t:Int}{x:SV}{r:List (Int×Option Value)}(h:Gf H E [(t,ak,x)] r):r=[(t,aK)]:=by
 match r,h with
 |[(k,o)],⟨h1,h2,_⟩=>
  cases o with
  |none=>rw[h1] |some v=>exact h2.elim
 |[],h=>exact h.elim |(_,_)::_::_,⟨_,_,h⟩=>exact h.elim
def ahr(σ σ':Au)(us:List (Int×Bool×SV)):Prop:=
 (us=[]/\∀k,σ'.KR k=σ.KR k)\/∃t x,us=[(t,ak,x)]/\∀k,σ'.KR k=if k=t then aK else σ.KR k
theorem aji{own:Nat->Prop}(hA:Di H w n (zX o) σ L){i:Nat}{r0:Rc}(hi:σ.rs[i]?=ay r0)(hown:∀b,own b↔∃t,Vw (ay i) t/\L.blk σ.rs.length t=ay b)
  {e:Ev} {many':Nat} {r:Rc} {us:List (Int×Bool×SV)} (hh:Aj ⟨w,own,H⟩ H' E' w' (Ep n σ.rs.length o (Gy L.R) (IV σ L) (IC σ L) e many' r us).hp) (hW:DZ ⟨w,own,H⟩ H' w') (hH:H.le H')
  (h0:E' 0=ay (Dq L.p)) (h4:E' 4=ay (Dq (L.R i))) (hby:∀k,(⟨many',σ.rs.set i r⟩:Au).JR k=σ.JR k) (hbu:ahr σ ⟨many',σ.rs.set i r⟩ us) :
  ∃L',Di H' w' n (zX o) ⟨many',σ.rs.set i r⟩ L'/\L'.p=L.p/\∀t b,L'.blk (σ.rs.set i r).length t=ay b->w.heap.size<=b\/∃t',L.blk σ.rs.length t'=ay b:=by
 have hlt:=(aU.1 hi).1;obtain ⟨p,⟨cs⟩,p1,p2,p3,p4⟩:=hh.ent 0 _ rfl;match cs,p3 with
 |[u0,u1,u2,u3,u4],⟨d0,d1,d2,d3,d4,_⟩=>
  have d1:u1=.int .i64 many':=d1;obtain ⟨d0,_⟩:E' 6=ay u0/\_:=d0;obtain ⟨d2,_⟩:E' 1=ay u2/\_:=d2;obtain ⟨b1,d3,d3'⟩:=d3;obtain ⟨b2,d4,d4'⟩:=d4;subst d1 d3' d4';rw[h0] at p1;have hp:L.p=p:=by
   have:=dh p1;simp[Dq] at this;exact this
  subst hp;have hob:∃xs,w'.ownsRow 0 140 2 u0 n xs/\BO H' 2 n (zX o) xs:=by
   obtain ⟨v,xs,x1,x2,x3,_⟩:=hh.ent 6 _ rfl;rw[d0] at x1;cases x1;exact ⟨xs,x2,x3⟩
  obtain ⟨v2,xs,q1,q2,q3,q4⟩:=hh.ent 1 _ rfl;rw[d2] at q1;cases q1;obtain rfl:=QC q3;obtain ⟨b1',ms1,Xb,fv1,uv1,s1,s2,s3,s4,s5,s6,_,s7⟩:=hh.ent 2 _ rfl;rw[d3] at s1;cases s1;obtain rfl:=Pn s4;obtain ⟨b2',ms2,Xc,fv2,uv2,t1,t2,t3,t4,t5,t6,_,t7⟩:=hh.ent 3 _ rfl;rw[d4] at t1;cases t1;obtain ⟨pr,⟨cr⟩,r1,r2,r3,r4⟩:=hh.ent 4 _ rfl;rw[h4] at r1;have hpr:L.R i=pr:=by
   have:=dh r1;simp[Dq] at this;exact this
  subst hpr;match cr,r3 with
  |[c0,c1,c2,c3,c4,c5,c6,c7],⟨e0,e1,e2,e3,e4,e5,e6,e7,_⟩=>
   have e0:c0=.int .i64 r.id:=e0;have e1:c1=.int .i64 r.th:=e1;have e2:c2=.int .i64 r.st:=e2;have e3:c3=.int .i64 r.bg:=e3;have e4:c4=.int .i64 r.en:=e4;have e5:c5=.int .i64 r.tr:=e5;have e7:c7=.int .i64 r.stand:=e7;obtain ⟨e6,_⟩:E' 5=ay c6/\_:=e6;subst e0 e1 e2 e3 e4 e5 e7;obtain ⟨vd,xd,g1,g2,g3,g4⟩:=hh.ent 5 _ rfl;rw[e6] at g1;cases g1;obtain rfl:=abU g3;let L':Lay:=⟨L.p,u0,u2,b1,b2,L.R,fun j=>if j=i then c6 else L.D j⟩
   have hlen:(σ.rs.set i r).length=σ.rs.length:=by simp
   have hbl:∀t b,Vw (ay i) t->L'.blk (σ.rs.set i r).length t=ay b->∃id sb,id<7/\Um i id=t/\zY (Ep n σ.rs.length o (Gy L.R) (IV σ L) (IC σ L) e many' r us).hp id=ay sb/\AL E' id sb=ay b:=fun t b hv hb=>by
    cases t with
    |au=>exact ⟨0,_,by decide,rfl,rfl,by simp only[AL,h0];exact hb⟩ |tx=>exact ⟨1,_,by decide,rfl,rfl,by simp only[AL,d2];exact hb⟩ |KT=>exact ⟨2,_,by decide,rfl,rfl,by simp only[AL,d3];exact hb⟩ |bu=>exact ⟨3,_,by decide,rfl,rfl,by simp only[AL,d4];exact hb⟩ |ob=>exact ⟨6,_,by decide,rfl,rfl,by simp only[AL,d0];exact hb⟩ |rc j=>
     cases hv;refine ⟨4,_,by decide,rfl,rfl,?_⟩;simp only[Lay.blk,hlen,if_pos hlt] at hb;simp only[AL,h4];exact hb
    |de j=>
     cases hv;refine ⟨5,_,by decide,rfl,rfl,?_⟩;simp only[Lay.blk,hlen,if_pos hlt,L'] at hb;simp only[AL,e6];simpa using hb
   have mk:=SH (H':=H') (w':=w') (σ':=⟨many',σ.rs.set i r⟩) (L':=L') hA hown hW hH ⟨trivial,trivial,trivial,trivial,trivial⟩ (fun _=>yV) p2 hob (by rw[hlen];exact q2)
    ⟨ms1,Xb,s2,by
     have:(fun k=>((⟨many',σ.rs.set i r⟩:Au).JR k).map fun i=>Dq (L'.R i))=TR (IV σ L) []:=by
      funext k;rw[hby k];rfl
     rw[this];exact s6⟩
    ⟨ms2,Xc,t2,by
     have:(fun k=>((⟨many',σ.rs.set i r⟩:Au).KR k).map fun i=>Dq (L'.R i))=TR (IC σ L) uv2:=by
      rcases hbu with ⟨rfl,hb⟩ |⟨t,x,rfl,hb⟩
      ·obtain rfl:=Pn t4
       funext k;rw[hb k];rfl
      ·obtain rfl:=alP t4
       funext k;rw[hb k];simp only[TR];by_cases hk:k=t
       ·simp[hk]
       ·simp[hk,IC,L']
     rw[this];exact t6⟩
    (fun j rj hj hv=>by
     cases hv;have:rj=r:=by
      simp[kZ,hlt] at hj;exact hj.symm
     subst this;simp only[L',if_true];exact ⟨r2,g2⟩)
    (fun j rj hj hv=>by
     have hne:¬j=i:=fun q=>hv (by rw[q];exact rfl);refine ⟨?_,rfl,if_neg hne⟩;simpa[kZ,Ne.symm hne] using hj)
    (fun t b hv hb=>by
     obtain ⟨id,sb,_,_,a3,a4⟩:=hbl t b hv hb;exact ⟨((hh.ent _ _ a3).lt a4).2.1,((hh.ent _ _ a3).lt a4).2.2⟩)
    (fun s t b hs ht bs bt=>by
     obtain ⟨id,sb,a1,a2,a3,a4⟩:=hbl s b hs bs;obtain ⟨id',sb',b1,b2,b3,b4⟩:=hbl t b ht bt;have:=hh.FU _ _ _ _ _ a3 b3 a4 b4;subst this;rw[<-a2,<-b2])
   exact ⟨L',mk.1,rfl,mk.2⟩
end
open Go.BF Go.Ae
section
variable{H H':Mem}{E E':Env}{w w':World}{n:Nat}{o:Nat->Oj}{σ σ':Au}{L L':Lay}
theorem ahs{own:Nat->Prop}(hA:Di H w n (zX o) σ L)(hown:∀b,own b↔∃t,Vw aK t/\L.blk σ.rs.length t=ay b)
  {f1 f2:List (Int×Bool×SV)} (hh:Aj ⟨w,own,H⟩ H' E' w' (toN n σ.rs.length o σ.many (Gy L.R) (IV σ L) (IC σ L) f1 f2).hp) (hW:DZ ⟨w,own,H⟩ H' w') (hH:H.le H')
  (h0:E' 0=ay (Dq L.p)) :
  ∃L',Di H' w' n (zX o) σ L'/\L'.p=L.p/\∀t b,L'.blk σ.rs.length t=ay b->w.heap.size<=b\/∃t',L.blk σ.rs.length t'=ay b:=by
 obtain ⟨p,⟨cs⟩,p1,p2,p3,p4⟩:=hh.ent 0 _ rfl;match cs,p3 with
 |[u0,u1,u2,u3,u4],⟨d0,d1,d2,d3,d4,_⟩=>
  have d1:u1=.int .i64 σ.many:=d1;obtain ⟨d0,_⟩:E' 6=ay u0/\_:=d0;obtain ⟨d2,_⟩:E' 1=ay u2/\_:=d2;obtain ⟨b1,d3,d3'⟩:=d3;obtain ⟨b2,d4,d4'⟩:=d4;subst d1 d3' d4';rw[h0] at p1;have hp:L.p=p:=by
   have:=dh p1;simp[Dq] at this;exact this
  subst hp;have hob:∃xs,w'.ownsRow 0 140 2 u0 n xs/\BO H' 2 n (zX o) xs:=by
   obtain ⟨v,xs,x1,x2,x3,_⟩:=hh.ent 6 _ rfl;rw[d0] at x1;cases x1;exact ⟨xs,x2,x3⟩
  obtain ⟨v2,xs,q1,q2,q3,q4⟩:=hh.ent 1 _ rfl;rw[d2] at q1;cases q1;obtain rfl:=QC q3;obtain ⟨b1',ms1,Xb,fv1,uv1,s1,s2,s3,s4,s5,s6,_,s7⟩:=hh.ent 2 _ rfl;rw[d3] at s1;cases s1;obtain rfl:=Pn s4;obtain ⟨b2',ms2,Xc,fv2,uv2,t1,t2,t3,t4,t5,t6,_,t7⟩:=hh.ent 3 _ rfl;rw[d4] at t1;cases t1;obtain rfl:=Pn t4;let L':Lay:=⟨L.p,u0,u2,b1,b2,L.R,L.D⟩
  have hbl:∀t b,Vw aK t->L'.blk σ.rs.length t=ay b->∃id sb,id<7/\Um 0 id=t/\zY (toN n σ.rs.length o σ.many (Gy L.R) (IV σ L) (IC σ L) f1 f2).hp id=ay sb/\AL E' id sb=ay b:=fun t b hv hb=>by
   cases t with
   |au=>exact ⟨0,_,by decide,rfl,rfl,by simp only[AL,h0];exact hb⟩ |tx=>exact ⟨1,_,by decide,rfl,rfl,by simp only[AL,d2];exact hb⟩ |KT=>exact ⟨2,_,by decide,rfl,rfl,by simp only[AL,d3];exact hb⟩ |bu=>exact ⟨3,_,by decide,rfl,rfl,by simp only[AL,d4];exact hb⟩ |ob=>exact ⟨6,_,by decide,rfl,rfl,by simp only[AL,d0];exact hb⟩ |rc j=>cases hv |de j=>cases hv
  have mk:=SH (H':=H') (w':=w') (σ':=σ) (L':=L') hA hown hW hH ⟨trivial,trivial,trivial,trivial,trivial⟩ (fun _=>yV) p2 hob q2 ⟨ms1,Xb,s2,s6⟩ ⟨ms2,Xc,t2,t6⟩
   (fun j rj hj hv=>by cases hv) (fun j rj hj hv=>⟨hj,rfl,rfl⟩)
   (fun t b hv hb=>by
    obtain ⟨id,sb,_,_,a3,a4⟩:=hbl t b hv hb;exact ⟨((hh.ent _ _ a3).lt a4).2.1,((hh.ent _ _ a3).lt a4).2.2⟩)
   (fun s t b hs ht bs bt=>by
    obtain ⟨id,sb,a1,a2,a3,a4⟩:=hbl s b hs bs;obtain ⟨id',sb',b1,b2,b3,b4⟩:=hbl t b ht bt;have:=hh.FU _ _ _ _ _ a3 b3 a4 b4;subst this;rw[<-a2,<-b2])
  exact ⟨L',mk.1,rfl,mk.2⟩
theorem adU{t:Int}{x y:SV}{r:List (Int×Option Value)}(h:Gf H E [(t,aC,x),(t,aC,y)] r):∃u v,r=[(t,ay u),(t,ay v)]/\Den H E x u:=by
 match r,h with
 |[(k,p),(k',q)],⟨h1,h2,h3,h4,_⟩=>
  cases p with
  |none=>exact h2.elim |some u=>
   cases q with
   |none=>exact h4.elim |some v=>exact ⟨u,v,by rw[h1,h3],h2.1⟩
 |[],h=>exact h.elim |[(_,_)],⟨_,_,h⟩=>exact h.elim |(_,_)::(_,_)::_::_,⟨_,_,_,_,h⟩=>exact h.elim
theorem Zi{α:Type}{p:α->Bool}{l:List α}{i:Nat}(h:l.findIdx? p=ay i):i<l.length:=by
 rw[List.findIdx?_eq_some_iff_findIdx_eq] at h;exact h.1
theorem ajj{own:Nat->Prop}(hA:Di H w n (zX o) σ L)(hown:∀b,own b↔∃t,Vw aK t/\L.blk σ.rs.length t=ay b)
  {e:Ev} {many':Nat} {r:Rc} (hd:r.Ac=[]) (hh:Aj ⟨w,own,H⟩ H' E' w' (toB n σ.rs.length o (Gy L.R) (IV σ L) (IC σ L) e many' r.id r.th r.st r.bg r.en r.tr r.stand).hp) (hW:DZ ⟨w,own,H⟩ H' w') (hH:H.le H')
  (h0:E' 0=ay (Dq L.p)) (hby:∀k,(⟨many',σ.rs++[r]⟩:Au).JR k=if k=e.tx then ay σ.rs.length else σ.JR k) (hbu:∀k,(⟨many',σ.rs++[r]⟩:Au).KR k=if k=e.thread then ay σ.rs.length else σ.KR k) :
  ∃L',Di H' w' n (zX o) ⟨many',σ.rs++[r]⟩ L'/\L'.p=L.p/\∀t b,L'.blk (σ.rs++[r]).length t=ay b->w.heap.size<=b\/∃t',L.blk σ.rs.length t'=ay b:=by
 obtain ⟨p,⟨cs⟩,p1,p2,p3,p4⟩:=hh.ent 0 _ rfl;match cs,p3 with
 |[u0,u1,u2,u3,u4],⟨d0,d1,d2,d3,d4,_⟩=>
  have d1:u1=.int .i64 many':=d1;obtain ⟨d0,_⟩:E' 6=ay u0/\_:=d0;obtain ⟨d2,_⟩:E' 1=ay u2/\_:=d2;obtain ⟨b1,d3,d3'⟩:=d3;obtain ⟨b2,d4,d4'⟩:=d4;subst d1 d3' d4';rw[h0] at p1;have hp:L.p=p:=by
   have:=dh p1;simp[Dq] at this;exact this
  subst hp;obtain ⟨pr,⟨cr⟩,r1,r2,r3,r4⟩:=hh.ent 4 _ rfl;have apL:∀{u:Value},Den H' E' (.ptr 4 0) u->u=Dq pr:=fun {u} h=>by
   obtain ⟨b,h1,h2⟩:=h;rw[r1] at h1;cases h1;exact h2
  have hob:∃xs,w'.ownsRow 0 140 2 u0 n xs/\BO H' 2 n (zX o) xs:=by
   obtain ⟨v,xs,x1,x2,x3,_⟩:=hh.ent 6 _ rfl;rw[d0] at x1;cases x1;exact ⟨xs,x2,x3⟩
  obtain ⟨v2,xs,ys,q1,q2,q3,q5,_,_,q4⟩:=hh.ent 1 _ rfl;rw[d2] at q1;cases q1;obtain rfl:=QC q3;match ys,q5 with
  |[y],⟨q5,_⟩=>
  obtain rfl:=apL q5;obtain ⟨b1',ms1,Xb,fv1,uv1,s1,s2,s3,s4,s5,s6,_,s7⟩:=hh.ent 2 _ rfl;rw[d3] at s1;cases s1;obtain ⟨x1,x2,rfl,x3⟩:=adU s4;obtain rfl:=apL x3;obtain ⟨b2',ms2,Xc,fv2,uv2,t1,t2,t3,t4,t5,t6,_,t7⟩:=hh.ent 3 _ rfl;rw[d4] at t1;cases t1;obtain ⟨y1,y2,rfl,y3⟩:=adU t4;obtain rfl:=apL y3;match cr,r3 with
  |[c0,c1,c2,c3,c4,c5,c6,c7],⟨e0,e1,e2,e3,e4,e5,e6,e7,_⟩=>
   have e0:c0=.int .i64 r.id:=e0;have e1:c1=.int .i64 r.th:=e1;have e2:c2=.int .i64 r.st:=e2;have e3:c3=.int .i64 r.bg:=e3;have e4:c4=.int .i64 r.en:=e4;have e5:c5=.int .i64 r.tr:=e5;have e6:c6=.slice aK 0 0:=e6;have e7:c7=.int .i64 r.stand:=e7;subst e0 e1 e2 e3 e4 e5 e6 e7;let L':Lay:=⟨L.p,u0,u2,b1,b2,fun j=>if j=σ.rs.length then pr else L.R j,fun j=>if j=σ.rs.length then .slice aK 0 0 else L.D j⟩
   have hlen:(σ.rs++[r]).length=σ.rs.length+1:=by simp
   have hown':∀b,own b↔∃t,Vw (ay σ.rs.length) t/\L.blk σ.rs.length t=ay b:=fun b=>by
    rw[hown b];constructor
    ·rintro ⟨t,h1,h2⟩
     refine ⟨t,?_,h2⟩;cases t with
     |rc j=>cases h1 |de j=>cases h1 |_=>trivial
    ·rintro ⟨t,h1,h2⟩
     refine ⟨t,?_,h2⟩;cases t with
     |rc j=>cases h1;simp[Lay.blk] at h2 |de j=>cases h1;simp[Lay.blk] at h2 |_=>trivial
   have hbl:∀t b,Vw (ay σ.rs.length) t->L'.blk (σ.rs++[r]).length t=ay b->∃id sb,id<7/\Um σ.rs.length id=t/\zY (toB n σ.rs.length o (Gy L.R) (IV σ L) (IC σ L) e many' r.id r.th r.st r.bg r.en r.tr r.stand).hp id=ay sb/\AL E' id sb=ay b:=fun t b hv hb=>by
    cases t with
    |au=>exact ⟨0,_,by decide,rfl,rfl,by simp only[AL,h0];exact hb⟩ |tx=>exact ⟨1,_,by decide,rfl,rfl,by simp only[AL,d2];exact hb⟩ |KT=>exact ⟨2,_,by decide,rfl,rfl,by simp only[AL,d3];exact hb⟩ |bu=>exact ⟨3,_,by decide,rfl,rfl,by simp only[AL,d4];exact hb⟩ |ob=>exact ⟨6,_,by decide,rfl,rfl,by simp only[AL,d0];exact hb⟩ |rc j=>
     cases hv;refine ⟨4,_,by decide,rfl,rfl,?_⟩;simp[Lay.blk,L'] at hb;simp only[AL,r1];rw[<-hb];rfl
    |de j=>
     cases hv;simp[Lay.blk,L',Ai] at hb
   have hR:∀j,j<σ.rs.length->L'.R j=L.R j:=fun j hj=>if_neg (by omega);have hmap:∀(f:Option Nat),(∀j,f=ay j->j<σ.rs.length)->(f.map fun i=>Dq (L'.R i))=f.map fun i=>Dq (L.R i):=fun f hf=>by
    cases f with
    |none=>rfl |some j=>simp[hR j (hf j rfl)]
   have mk:=SH (H':=H') (w':=w') (σ':=⟨many',σ.rs++[r]⟩) (L':=L') hA hown' hW hH ⟨trivial,trivial,trivial,trivial,trivial⟩ (fun _=>yV) p2 hob
    (by
     have e:(aX (σ.rs++[r]).length).map (fun i=>Dq (L'.R i))=(aX σ.rs.length).map (fun i=>Dq (L.R i))++[Dq pr]:=by
      rw[hlen,List.range_succ,List.map_append];congr 1
      ·exact List.map_congr_left fun i hi=>by rw[hR i (List.mem_range.1 hi)]
      ·simp[L']
     rw[e,hlen];exact q2)
    ⟨ms1,Xb,s2,by
     have:(fun k=>((⟨many',σ.rs++[r]⟩:Au).JR k).map fun i=>Dq (L'.R i))=TR (IV σ L) [(e.tx,ay (Dq pr)),(e.tx,ay x2)]:=by
      funext k;rw[hby k];simp only[TR];by_cases hk:k=e.tx
      ·simp[hk,L']
      ·rw[if_neg hk,if_neg hk,if_neg hk]
       exact hmap _ fun j hj=>Zi hj
     rw[this];exact s6⟩
    ⟨ms2,Xc,t2,by
     have:(fun k=>((⟨many',σ.rs++[r]⟩:Au).KR k).map fun i=>Dq (L'.R i))=TR (IC σ L) [(e.thread,ay (Dq pr)),(e.thread,ay y2)]:=by
      funext k;rw[hbu k];simp only[TR];by_cases hk:k=e.thread
      ·simp[hk,L']
      ·rw[if_neg hk,if_neg hk,if_neg hk]
       exact hmap _ fun j hj=>Zi hj
     rw[this];exact t6⟩
    (fun j rj hj hv=>by
     cases hv;have:rj=r:=by simpa using hj.symm
     subst this;simp only[L',if_true];refine ⟨r2,?_⟩;rw[hd];exact OU _ _ _)
    (fun j rj hj hv=>by
     have hne:¬j=σ.rs.length:=fun q=>hv (by rw[q];exact rfl);have hj2:=(aU.1 hj).1;rw[hlen] at hj2;refine ⟨?_,if_neg hne,if_neg hne⟩;rwa[dJ (by omega)] at hj)
    (fun t b hv hb=>by
     obtain ⟨id,sb,_,_,a3,a4⟩:=hbl t b hv hb;exact ⟨((hh.ent _ _ a3).lt a4).2.1,((hh.ent _ _ a3).lt a4).2.2⟩)
    (fun s t b hs ht bs bt=>by
     obtain ⟨id,sb,a1,a2,a3,a4⟩:=hbl s b hs bs;obtain ⟨id',sb',b1,b2,b3,b4⟩:=hbl t b ht bt;have:=hh.FU _ _ _ _ _ a3 b3 a4 b4;subst this;rw[<-a2,<-b2])
   exact ⟨L',mk.1,rfl,mk.2⟩
end
end Go.Sx
namespace Go.BF
open Go Go.Sx
theorem LY{α:Type}{p:α->Bool}{x:α}:∀{l:List α} {i:Nat} {y:α},l[i]?=ay y->p x=p y->(l.set i x).findIdx? p=l.findIdx? p
 |[],_,_,h,_=>by simp at h |a::l,0,y,h,hp=>by
  simp at h;subst h;simp[jE,hp]
 |a::l,i+1,y,h,hp=>by
  simp only[List.set_cons_succ,jE];rw[LY (l:=l) (by simpa using h) hp]
theorem SI{α:Type}{p:α->Bool}:∀{l:List α} {i:Nat},l.findIdx? p=ay i->∃y,l[i]?=ay y/\p y=aC
 |[],_,h=>by simp at h |a::l,i,h=>by
  rw[jE] at h;cases ha:p a with
  |true=>rw[ha] at h;simp at h;subst h;exact ⟨a,rfl,ha⟩ |false=>
   rw[ha] at h;simp at h;obtain ⟨j,hj,rfl⟩:=h;obtain ⟨y,h1,h2⟩:=SI hj;exact ⟨y,by simpa using h1,h2⟩
theorem aht{α:Type}{p:α->Bool}{l:List α}(h:∀(i:Nat) (y:α),l[i]?=ay y->p y=ak):l.findIdx? p=aK:=by
 rw[List.findIdx?_eq_none_iff];intro x hx;obtain ⟨i,hi,rfl⟩:=List.getElem_of_mem hx;exact h i _ (aV hi)
theorem OG{α:Type}{p:α->Bool}{x:α}:∀{l:List α},(l++[x]).findIdx? p=match l.findIdx? p with|some i=>ay i|none=>if p x then ay l.length else aK
 |[]=>by simp[jE] |a::l=>by
  simp only[List.cons_append,jE];cases ha:p a with
  |true=>simp |false=>
   simp only[Bool.false_eq_true,if_false];rw[OG (l:=l)];cases l.findIdx? p with
   |some i=>rfl |none=>
    cases hx:p x<;>simp
theorem auJ{α:Type}{P:α->Prop}{c:Bool}{a b:α}(ha:P a)(hb:P b):P (bif c then a else b):=by
 cases c
 ·exact hb
 ·exact ha
theorem QD{many:Nat}{e:Ev}{r r':Rc}(h:Rc.step many e r=.inr r'):r'.id=r.id/\r'.th=r.th:=by
 have:(fun x:Nat ⊕ Rc=>∀r',x=.inr r'->r'.id=r.id/\r'.th=r.th) (Rc.step many e r):=by
  unfold Rc.step;repeat' (refine auJ (P:=fun x:Nat ⊕ Rc=>∀r',x=.inr r'->r'.id=r.id/\r'.th=r.th) ?_ ?_)
  all_goals
   intro r' h;first
    |(cases h;done)
    |(cases h;exact ⟨rfl,rfl⟩)
 exact this r' h
theorem Vd{many:Nat}{e:Ev}{r r':Rc}(h:Rc.step many e r=.inr r')(hk:2<=e.kind/\e.kind<=7)(hs:1<=r.stand/\r.stand<=5):r.live=aC/\(1<=r'.stand/\r'.stand<=5)/\(r'.live=aC↔¬(e.kind=5\/e.kind=6)):=by
 unfold Rc.step at h;unfold Rc.live;by_cases k2:e.kind=2
 ·simp only[k2,beq_self_eq_true,cond_true] at h
  by_cases q:r.stand=1
  ·simp only[q,beq_self_eq_true,cond_true] at h;cases h;simp[q];omega
  ·have:(r.stand==1)=ak:=by simpa using q
   rw[this] at h;cases h
 by_cases k3:e.kind=3
 ·simp only[k3,show ((3:Int)==2)=ak from rfl,beq_self_eq_true,cond_true,cond_false] at h
  by_cases q:r.stand=2
  ·simp only[q,beq_self_eq_true,cond_true] at h
   cases f:OE (r.Ac.getLast?.getD Row.Jm).op e.ret<;>simp only[f,cond_true,cond_false] at h<;>cases h
   simp[q];omega
  ·have:(r.stand==2)=ak:=by simpa using q
   rw[this] at h;cases h
 by_cases k4:e.kind=4
 ·simp only[k4,show ((4:Int)==2)=ak from rfl,show ((4:Int)==3)=ak from rfl,beq_self_eq_true,cond_true,cond_false] at h
  by_cases q:r.stand=1
  ·simp only[q,beq_self_eq_true,cond_true] at h;cases h;simp[q];omega
  ·have:(r.stand==1)=ak:=by simpa using q
   rw[this] at h;cases h
 by_cases k7:e.kind=7
 ·simp only[k7,show ((7:Int)==2)=ak from rfl,show ((7:Int)==3)=ak from rfl,show ((7:Int)==4)=ak from rfl,beq_self_eq_true,cond_true,cond_false] at h
  by_cases q:r.stand=1
  ·simp only[q,beq_self_eq_true,cond_true] at h;cases h;simp[q];omega
  ·have:(r.stand==1)=ak:=by simpa using q
   rw[this] at h;cases h
 by_cases k5:e.kind=5
 ·simp only[k5,show ((5:Int)==2)=ak from rfl,show ((5:Int)==3)=ak from rfl,show ((5:Int)==4)=ak from rfl,show ((5:Int)==7)=ak from rfl,beq_self_eq_true,cond_true,cond_false] at h
  by_cases q:r.stand=3
  ·simp only[q,beq_self_eq_true,cond_true] at h;cases h;simp[q];omega
  ·have:(r.stand==3)=ak:=by simpa using q
   rw[this] at h;cases h
 have k6:e.kind=6:=by omega
 simp only[k6,show ((6:Int)==2)=ak from rfl,show ((6:Int)==3)=ak from rfl,show ((6:Int)==4)=ak from rfl,show ((6:Int)==7)=ak from rfl,show ((6:Int)==5)=ak from rfl,cond_false] at h;by_cases q:r.stand=5
 ·rw[q] at h;cases h
 ·have:(r.stand==1||r.stand==2||r.stand==3||r.stand==4)=aC:=by
   simp;omega
  rw[this] at h;cases h;simp[q];omega
end Go.BF
namespace Go.Ae
open Go Go.Sx Go.BF
section
variable{n m:Nat}{o:Nat->Oj}{many:Nat}{gR:Nat->List Sh}{M1 M2:Int->Option Value}
theorem alQ(hm:many<400){e:Ev}(h1:0<=e.obj)(h2:e.obj<n)(h3:Dz e.op=(o e.obj.toNat).kind)(hk:e.kind=2)(hv:BP e=aC):
  EF (FZ [toN n m o many gR M1 M2 [(e.tx,ak,.any)] []] (fun sv k=>sv=svE (ay 11)/\k=0)) ((run (C5 zW W5 Ce Am) 700 aC 79 [.code []] (LA 2 e (hpA n m o many gR M1 M2 [(e.tx,ak,.any)] []))).bind (toEnd [toN n m o many gR M1 M2 [(e.tx,ak,.any)] []])):=by
 obtain ⟨kind,tx,thread,obj,op,key,val,ret⟩:=e;have hk:kind=2:=hk;subst hk;have hw:=hm;have hroom:=hm;have h1:0<=obj:=h1;have h2:obj<n:=h2;have h3:Dz op=(o obj.toNat).kind:=h3;have ho:zW.le (zW.AO n) obj=aC->False:=fun q=>by simp[Df,Az] at q;omega
 have hi:zW.inB obj n=aC:=by simp[Bl];omega
 have hq:zW.nt (zW.eq (Dz op) (o (zW.toN obj)).kind)=aC->False:=fun q=>by
  simp[BQ,Aq,CJ] at q;exact q h3
 rw[auz zW W5 n m o many gR M1 M2 ⟨2,tx,thread,obj,op,key,val,ret⟩ many,Cb];repeat' (first
  |exact trivial
  |exact hv
  |exact hw
  |exact hi
  |exact hroom
  |exact eqS _
  |exact rfl
  |exact fun _ _=>rfl
  |(intro q;exact (ho q).elim)
  |(intro q;exact (hq q).elim)
  |(intro q;replace q:=Nz q;first|(exfalso;omega) |skip)
  |(intro q;replace q:=eqF q;first|(exfalso;omega) |skip)
  |intro _
  |refine bW ?_ ?_)
theorem alR(hm:many<400){e:Ev}(hk:e.kind=3)(hv:BP e=aC):
  EF (FZ [toN n m o many gR M1 M2 [(e.tx,ak,.any)] []] (fun sv k=>sv=svE (ay 11)/\k=0)) ((run (C5 zW W5 Ce Am) 700 aC 79 [.code []] (LA 3 e (hpA n m o many gR M1 M2 [(e.tx,ak,.any)] []))).bind (toEnd [toN n m o many gR M1 M2 [(e.tx,ak,.any)] []])):=by
 obtain ⟨kind,tx,thread,obj,op,key,val,ret⟩:=e;have hk:kind=3:=hk;subst hk;have hw:=hm;have hroom:=hm;have ho:=hm;have hi:=hm;have hq:=hm;rw[auA zW W5 n m o many gR M1 M2 ⟨3,tx,thread,obj,op,key,val,ret⟩ many,Cb];repeat' (first
  |exact trivial
  |exact hv
  |exact hw
  |exact hi
  |exact hroom
  |exact eqS _
  |exact rfl
  |exact fun _ _=>rfl
  |(intro q;exact (ho q).elim)
  |(intro q;exact (hq q).elim)
  |(intro q;replace q:=Nz q;first|(exfalso;omega) |skip)
  |(intro q;replace q:=eqF q;first|(exfalso;omega) |skip)
  |intro _
  |refine bW ?_ ?_)
theorem alS(hm:many<400){e:Ev}(hk:e.kind=4)(hv:BP e=aC):
  EF (FZ [toN n m o many gR M1 M2 [(e.tx,ak,.any)] []] (fun sv k=>sv=svE (ay 11)/\k=0)) ((run (C5 zW W5 Ce Am) 700 aC 79 [.code []] (LA 4 e (hpA n m o many gR M1 M2 [(e.tx,ak,.any)] []))).bind (toEnd [toN n m o many gR M1 M2 [(e.tx,ak,.any)] []])):=by
 obtain ⟨kind,tx,thread,obj,op,key,val,ret⟩:=e;have hk:kind=4:=hk;subst hk;have hw:=hm;have hroom:=hm;have ho:=hm;have hi:=hm;have hq:=hm;rw[auB zW W5 n m o many gR M1 M2 ⟨4,tx,thread,obj,op,key,val,ret⟩ many,Cb];repeat' (first
  |exact trivial
  |exact hv
  |exact hw
  |exact hi
  |exact hroom
  |exact eqS _
  |exact rfl
  |exact fun _ _=>rfl
  |(intro q;exact (ho q).elim)
  |(intro q;exact (hq q).elim)
  |(intro q;replace q:=Nz q;first|(exfalso;omega) |skip)
  |(intro q;replace q:=eqF q;first|(exfalso;omega) |skip)
  |intro _
  |refine bW ?_ ?_)
theorem alT(hm:many<400){e:Ev}(hk:e.kind=5)(hv:BP e=aC):
  EF (FZ [toN n m o many gR M1 M2 [(e.tx,ak,.any)] []] (fun sv k=>sv=svE (ay 11)/\k=0)) ((run (C5 zW W5 Ce Am) 700 aC 79 [.code []] (LA 5 e (hpA n m o many gR M1 M2 [(e.tx,ak,.any)] []))).bind (toEnd [toN n m o many gR M1 M2 [(e.tx,ak,.any)] []])):=by
 obtain ⟨kind,tx,thread,obj,op,key,val,ret⟩:=e;have hk:kind=5:=hk;subst hk;have hw:=hm;have hroom:=hm;have ho:=hm;have hi:=hm;have hq:=hm;rw[auC zW W5 n m o many gR M1 M2 ⟨5,tx,thread,obj,op,key,val,ret⟩ many,Cb];repeat' (first
  |exact trivial
  |exact hv
  |exact hw
  |exact hi
  |exact hroom
  |exact eqS _
  |exact rfl
  |exact fun _ _=>rfl
  |(intro q;exact (ho q).elim)
  |(intro q;exact (hq q).elim)
  |(intro q;replace q:=Nz q;first|(exfalso;omega) |skip)
  |(intro q;replace q:=eqF q;first|(exfalso;omega) |skip)
  |intro _
  |refine bW ?_ ?_)
theorem alU(hm:many<400){e:Ev}(hk:e.kind=6)(hv:BP e=aC):
  EF (FZ [toN n m o many gR M1 M2 [(e.tx,ak,.any)] []] (fun sv k=>sv=svE (ay 11)/\k=0)) ((run (C5 zW W5 Ce Am) 700 aC 79 [.code []] (LA 6 e (hpA n m o many gR M1 M2 [(e.tx,ak,.any)] []))).bind (toEnd [toN n m o many gR M1 M2 [(e.tx,ak,.any)] []])):=by
 obtain ⟨kind,tx,thread,obj,op,key,val,ret⟩:=e;have hk:kind=6:=hk;subst hk;have hw:=hm;have hroom:=hm;have ho:=hm;have hi:=hm;have hq:=hm;rw[auD zW W5 n m o many gR M1 M2 ⟨6,tx,thread,obj,op,key,val,ret⟩ many,Cb];repeat' (first
  |exact trivial
  |exact hv
  |exact hw
  |exact hi
  |exact hroom
  |exact eqS _
  |exact rfl
  |exact fun _ _=>rfl
  |(intro q;exact (ho q).elim)
  |(intro q;exact (hq q).elim)
  |(intro q;replace q:=Nz q;first|(exfalso;omega) |skip)
  |(intro q;replace q:=eqF q;first|(exfalso;omega) |skip)
  |intro _
  |refine bW ?_ ?_)
theorem alV(hm:many<400){e:Ev}(hk:e.kind=7)(hv:BP e=aC):
  EF (FZ [toN n m o many gR M1 M2 [(e.tx,ak,.any)] []] (fun sv k=>sv=svE (ay 11)/\k=0)) ((run (C5 zW W5 Ce Am) 700 aC 79 [.code []] (LA 7 e (hpA n m o many gR M1 M2 [(e.tx,ak,.any)] []))).bind (toEnd [toN n m o many gR M1 M2 [(e.tx,ak,.any)] []])):=by
 obtain ⟨kind,tx,thread,obj,op,key,val,ret⟩:=e;have hk:kind=7:=hk;subst hk;have hw:=hm;have hroom:=hm;have ho:=hm;have hi:=hm;have hq:=hm;rw[auE zW W5 n m o many gR M1 M2 ⟨7,tx,thread,obj,op,key,val,ret⟩ many,Cb];repeat' (first
  |exact trivial
  |exact hv
  |exact hw
  |exact hi
  |exact hroom
  |exact eqS _
  |exact rfl
  |exact fun _ _=>rfl
  |(intro q;exact (ho q).elim)
  |(intro q;exact (hq q).elim)
  |(intro q;replace q:=Nz q;first|(exfalso;omega) |skip)
  |(intro q;replace q:=eqF q;first|(exfalso;omega) |skip)
  |intro _
  |refine bW ?_ ?_)
theorem apM(hm:many<400){e:Ev}(hk:e.kind=1)(hv:BP e=aC)(r:Rc):
  EF (FZ [Ep n m o gR M1 M2 e many r []] (fun sv k=>sv=svE (ay 9)/\k=0)) ((run (C5 zW W5 Ce Am) 700 aC 79 [.code []] (LA 1 e (hpA n m o many gR M1 M2 [(e.tx,aC,.ptr 4 0)] []++Fh r))).bind (toEnd [Ep n m o gR M1 M2 e many r []])):=by
 obtain ⟨kind,tx,thread,obj,op,key,val,ret⟩:=e;obtain ⟨id,th,st,bg,en,tr,Ac,stand⟩:=r;have hk:kind=1:=hk;subst hk;have hw:=hm;have hroom:=hm;have ho:=hm;have hi:=hm;have hq:=hm;unfold Ep Fh;simp only;rw[auF zW W5 n m o many gR M1 M2 ⟨1,tx,thread,obj,op,key,val,ret⟩ id th st bg en tr stand Ac.length (nth Ac) many id th st bg en tr stand Ac.length (zX (nth Ac)),Cb];repeat' (first
  |exact trivial
  |exact hv
  |exact hw
  |exact hi
  |exact hroom
  |exact eqS _
  |exact rfl
  |exact fun _ _=>rfl
  |(intro q;exact (ho q).elim)
  |(intro q;exact (hq q).elim)
  |(intro q;replace q:=Nz q;first|(exfalso;omega) |skip)
  |(intro q;replace q:=eqF q;first|(exfalso;omega) |skip)
  |intro _
  |refine bW ?_ ?_)
theorem arD(hm:many<400){e:Ev}(hk:e.kind=1)(hv:BP e=aC)(q:Nat):
  EF (FZ [toN n m o many gR M1 M2 [(e.tx,ak,.any)] [(e.thread,aC,.val (.pointer (ay ⟨q,0,aK⟩)))]] (fun sv k=>sv=svE (ay 10)/\k=0)) ((run (C5 zW W5 Ce Am) 700 aC 79 [.code []] (LA 1 e (hpA n m o many gR M1 M2 [(e.tx,ak,.any)] [(e.thread,aC,.val (.pointer (ay ⟨q,0,aK⟩)))]))).bind (toEnd [toN n m o many gR M1 M2 [(e.tx,ak,.any)] [(e.thread,aC,.val (.pointer (ay ⟨q,0,aK⟩)))]])):=by
 obtain ⟨kind,tx,thread,obj,op,key,val,ret⟩:=e;have hk:kind=1:=hk;subst hk;have hw:=hm;have hroom:=hm;have ho:=hm;have hi:=hm;have hq:=hm;rw[auG zW W5 n m o many gR M1 M2 ⟨1,tx,thread,obj,op,key,val,ret⟩ q many,Cb];repeat' (first
  |exact trivial
  |exact hv
  |exact hw
  |exact hi
  |exact hroom
  |exact eqS _
  |exact rfl
  |exact fun _ _=>rfl
  |(intro q;exact (ho q).elim)
  |(intro q;exact (hq q).elim)
  |(intro q;replace q:=Nz q;first|(exfalso;omega) |skip)
  |(intro q;replace q:=eqF q;first|(exfalso;omega) |skip)
  |intro _
  |refine bW ?_ ?_)
theorem apN(hm:many<400)(hl:m<=1000){e:Ev}(hk:e.kind=1)(hv:BP e=aC):
  EF (FZ [toB n m o gR M1 M2 e (many+1:Nat) e.tx e.thread 1 many (-1) (-1) 1] (fun sv k=>sv=svE aK/\k=0)) ((run (C5 zW W5 Ce Am) 700 aC 79 [.code []] (LA 1 e (hpA n m o many gR M1 M2 [(e.tx,ak,.any)] [(e.thread,ak,.any)]))).bind (toEnd [toB n m o gR M1 M2 e (many+1:Nat) e.tx e.thread 1 many (-1) (-1) 1])):=by
 obtain ⟨kind,tx,thread,obj,op,key,val,ret⟩:=e;have hk:kind=1:=hk;subst hk;have hw:=wrapM hm;have hroom:zW.room (zW.addN m 1) 8=aC:=by
  show decide ((m+1)*8<=140737488355328/\m+1<=maxLen)=aC;rw[maxLen_eq];exact decide_eq_true ⟨by omega,by omega⟩
 have ho:=hm;have hi:=hm;have hq:=hm;rw[auH zW W5 n m o many gR M1 M2 ⟨1,tx,thread,obj,op,key,val,ret⟩ (many+1:Nat) tx thread 1 many (-1) (-1) 1,Cb];repeat' (first
  |exact trivial
  |exact hv
  |exact hw
  |exact hi
  |exact hroom
  |exact eqS _
  |exact rfl
  |exact fun _ _=>rfl
  |(intro q;exact (ho q).elim)
  |(intro q;exact (hq q).elim)
  |(intro q;replace q:=Nz q;first|(exfalso;omega) |skip)
  |(intro q;replace q:=eqF q;first|(exfalso;omega) |skip)
  |intro _
  |refine bW ?_ ?_)
end
open Go Go.Sx Go.BF
def apO(H:Mem):Option Nat->Value->Prop
 |none,v=>v=.nilIface |some k,v=>Rep H (.er k 329) v
theorem abW{H:Mem}{E:Env}{x:Option Nat}{v:Value}(h:Den H E (svE x) v):apO H x v:=by
 cases x with
 |none=>exact h |some k=>exact h
def QN(L:Lay)(k:Nat):Nat->Prop:=fun b=>∃t,L.blk k t=ay b
def Po(H:Mem)(w:World)(n:Nat)(o:Nat->Oj)(σ:Au)(L:Lay)(x:Option Nat)(σ':Au)(en:Ending)(w':World):Prop:=
 ∃v H' L',en=.returned v/\apO H' x v/\Di H' w' n (zX o) σ' L'/\L'.p=L.p/\(∀t b,L'.blk σ'.rs.length t=ay b->w.heap.size<=b\/QN L σ.rs.length b)/\H.le H'/\DZ ⟨w,QN L σ.rs.length,H⟩ H' w'
theorem TJ{w w':World}{H H':Mem}{own own':Nat->Prop}(h:DZ ⟨w,own,H⟩ H' w')(ho:∀b,own b->own' b):DZ ⟨w,own',H⟩ H' w':=
 ⟨h.os,h.tape,h.output,h.size,fun b hb hn=>h.kept b hb fun q=>hn (ho b q),h.on,h.le,fun b hb=>by
  rcases h.fresh b hb with q|q|q
  ·exact .inl q
  ·exact .inr (.inl q)
  ·exact .inr (.inr (ho b q))⟩
def Yp(e:Ev):Value:=.agg #[.int .i64 e.kind,.int .i64 e.tx,.int .i64 e.thread,.int .i64 e.obj,.int .i64 e.op,.int .i64 e.key,.int .i64 e.val,.int .i64 e.ret]
@[irreducible] def akG (H:Mem) (E:Env) (l:List SV) (vs:List Value):Prop:=Ag H E l vs
theorem ahu{H:Mem}{E:Env}{l:List SV}{vs:List Value}:akG H E l vs=Ag H E l vs:=by unfold akG;rfl
theorem SK{P:Program}{C:Ctx}{H:Mem}{E:Env}{w:World}(hC:Ba P C)(hF:BA P C){n g:Nat}{fn:Func}{c:Core}{args:Array Value}{ts:List QU}{φ:SV->Nat->Prop}(hfn:C.fns.get g=ay fn)(hb:fn.body.isSome=aC)
  (hd:akG H E c.tm (args++dY (fn.ntmps - args.size) undef).toList) (hh:Aj ⟨w,La E c.hp,H⟩ H E w c.hp) (hon:H.on w) (hfree:Free E c) (hg:CU C.gls H)
  (h:EF (FZ ts φ) ((run C n aC g [.code []] c).bind (toEnd ts))) :
  Calls P g args w fun e w'=>∃v sv k t H' E1 E',e=.returned v/\φ sv k/\ts[k]?=ay t/\Den H' E1 sv v/\Aj ⟨w,La E c.hp,H⟩ H' E' w' t.hp/\DZ ⟨w,La E c.hp,H⟩ H' w'/\H.le H'/\∀i∈t.keep,∀u,E i=ay u->E' i=ay u:=by
 rw[ahu] at hd;exact aiw hC hF hfn hb hd hh hon hfree hg h
theorem apP(a b u:Value)(k:Nat):(#[a,b]++dY k u).toList=[a,b]++dS k u:=by simp
theorem aff{H:Mem}{E:Env}{L:Lay}{e:Ev}{kind:Int}{hp:List (Nat×SB)}(hk:e.kind=kind)(h0:E 0=ay (Dq L.p)):akG H E (LA kind e hp).tm (#[Dq L.p,Yp e]++dY (ji.ntmps - #[Dq L.p,Yp e].size) undef).toList:=by
 have hn:ji.ntmps=168:=by kernel_rfl
 rw[ahu,hn,apP];have e1:(LA kind e hp).tm=[.ptr 0 0,evS kind e]++dS 166 .any:=rfl;have e3:168 - #[Dq L.p,Yp e].size=166:=rfl;rw[e1,e3];refine Ag.append ⟨⟨L.p,by rw[h0];rfl,rfl⟩,⟨_,rfl,⟨by rw[<-hk];rfl,rfl,rfl,rfl,rfl,rfl,rfl,rfl,trivial⟩⟩,trivial⟩ (Ag.any _ _ ?_);rw[List.length_replicate]
theorem Ve{L:Lay}{i:Option Nat}{c:Core}(h:c.nx=7):Free (Iw L i) c:=fun id h1 _=>by
 rw[h] at h1;match id,h1 with
 |id+7,_=>rfl
section
variable{H:Mem}{w:World}{n:Nat}{o:Nat->Oj}{σ:Au}{L:Lay}{e:Ev}
theorem Kt(hA:Di H w n (zX o) σ L)(hon:H.on w)(hg:CU (Fv W5) H){i:Nat}{r:Rc}(hi:σ.rs[i]?=ay r)(hby:σ.JR e.tx=ay i){kind:Int}(hk:e.kind=kind){ts:List QU}{φ:SV->Nat->Prop}
  (hrun:EF (FZ ts φ) ((run (C5 zW W5 Ce Am) 700 aC 79 [.code []] (LA kind e (hpA n σ.rs.length o σ.many (Gy L.R) (IV σ L) (IC σ L) [(e.tx,aC,.ptr 4 0)] []++Fh r))).bind (toEnd ts)))
  {x:Option Nat} {many':Nat} {r':Rc} (hid:r'.id=r.id)
  (hts:∀sv k t,φ sv k->ts[k]?=ay t->sv=svE x/\∃us,t=Ep n σ.rs.length o (Gy L.R) (IV σ L) (IC σ L) e many' r' us/\ahr σ ⟨many',σ.rs.set i r'⟩ us) :
  Calls aB 79 #[Dq L.p,Yp e] w (Po H w n o σ L x ⟨many',σ.rs.set i r'⟩):=by
 have hown:=apK (f1:=[(e.tx,aC,.ptr 4 0)]) (f2:=[]) hA hi;have abX:=alO (own:=La (Iw L (ay i)) (JK n o σ L [(e.tx,aC,.ptr 4 0)] []++Fh r)) hA hi (fun t b h1 h2=>(hown b).2 ⟨t,h1,h2⟩) (f1:=[(e.tx,aC,.ptr 4 0)]) (f2:=[]) (v1:=[(e.tx,ay (Dq (L.R i)))]) (v2:=[])
  ⟨rfl,⟨⟨L.R i,rfl,rfl⟩,rfl⟩,trivial⟩ trivial (fun k u hm=>by
   simp at hm;obtain ⟨rfl,rfl⟩:=hm;simp[IV,hby]) (fun k u hm=>by simp at hm)
 have hd:=aff (H:=H) (E:=Iw L (ay i)) (L:=L) (hp:=hpA n σ.rs.length o σ.many (Gy L.R) (IV σ L) (IC σ L) [(e.tx,aC,.ptr 4 0)] []++Fh r) hk rfl;refine (SK (args:=#[Dq L.p,Yp e]) (fn:=ji) (c:=LA kind e (hpA n σ.rs.length o σ.many (Gy L.R) (IV σ L) (IC σ L) [(e.tx,aC,.ptr 4 0)] []++Fh r)) (jU _ _) (ajg _) (by kernel_rfl) (by kernel_rfl) hd abX hon (Ve rfl) hg hrun).mono fun en w' ⟨v,sv,k,t,H',E1,E',h1,h2,h3,h4,h5,h6,h7,h8⟩=>?_;obtain ⟨hsv,us,rfl,hus⟩:=hts sv k t h2 h3;subst hsv;obtain ⟨L',a1,a2,a3⟩:=aji hA hi hown h5 h6 h7 (h8 0 (by simp[Ep,toR]) _ rfl) (h8 4 (by simp[Ep,toR]) _ rfl)
  (fun k=>LY hi (by simp[hid])) hus
 exact ⟨v,H',L',h1,abW h4,a1,a2,a3,h7,TJ h6 fun b hb=>by
  obtain ⟨t,_,q⟩:=(hown b).1 hb;exact ⟨t,q⟩⟩
theorem abY(hA:Di H w n (zX o) σ L)(hon:H.on w)(hg:CU (Fv W5) H)(hby:σ.JR e.tx=aK){kind:Int}(hk:e.kind=kind){f2:List (Int×Bool×SV)}{v2:List (Int×Option Value)}(d2:Gf H (Iw L aK) f2 v2)(m2:∀k u,(k,u)∈v2->IC σ L k=u){x:Option Nat}
  (hrun:EF (FZ [toN n σ.rs.length o σ.many (Gy L.R) (IV σ L) (IC σ L) [(e.tx,ak,.any)] f2] (fun sv k=>sv=svE x/\k=0)) ((run (C5 zW W5 Ce Am) 700 aC 79 [.code []] (LA kind e (hpA n σ.rs.length o σ.many (Gy L.R) (IV σ L) (IC σ L) [(e.tx,ak,.any)] f2))).bind (toEnd [toN n σ.rs.length o σ.many (Gy L.R) (IV σ L) (IC σ L) [(e.tx,ak,.any)] f2]))) :
  Calls aB 79 #[Dq L.p,Yp e] w (Po H w n o σ L x σ):=by
 have hown:=adT (n:=n) (o:=o) (σ:=σ) (L:=L) (f1:=[(e.tx,ak,.any)]) (f2:=f2);have abX:=abV (own:=La (Iw L aK) (JK n o σ L [(e.tx,ak,.any)] f2)) hA (fun t b h1 h2=>(hown b).2 ⟨t,h1,h2⟩) (f1:=[(e.tx,ak,.any)]) (f2:=f2) (v1:=[(e.tx,aK)]) (v2:=v2)
  ⟨rfl,trivial,trivial⟩ d2 (fun k u hm=>by
   simp at hm;obtain ⟨rfl,rfl⟩:=hm;simp[IV,hby]) m2
 have hd:=aff (H:=H) (E:=Iw L aK) (L:=L) (hp:=hpA n σ.rs.length o σ.many (Gy L.R) (IV σ L) (IC σ L) [(e.tx,ak,.any)] f2) hk rfl;refine (SK (args:=#[Dq L.p,Yp e]) (fn:=ji) (c:=LA kind e (hpA n σ.rs.length o σ.many (Gy L.R) (IV σ L) (IC σ L) [(e.tx,ak,.any)] f2)) (jU _ _) (ajg _) (by kernel_rfl) (by kernel_rfl) hd abX hon (Ve rfl) hg hrun).mono fun en w' ⟨v,sv,k,t,H',E1,E',h1,h2,h3,h4,h5,h6,h7,h8⟩=>?_;obtain ⟨rfl,rfl⟩:=h2;cases h3;obtain ⟨L',a1,a2,a3⟩:=ahs hA hown h5 h6 h7 (h8 0 (by simp[toN]) _ rfl);exact ⟨v,H',L',h1,abW h4,a1,a2,a3,h7,TJ h6 fun b hb=>by
  obtain ⟨t,_,q⟩:=(hown b).1 hb;exact ⟨t,q⟩⟩
theorem alW(hA:Di H w n (zX o) σ L)(hon:H.on w)(hg:CU (Fv W5) H)(hm:σ.many<400)(hl:σ.rs.length<=1000)(hby:σ.JR e.tx=aK)(hbu:σ.KR e.thread=aK)(hk:e.kind=1)(hv:BP e=aC):
  Calls aB 79 #[Dq L.p,Yp e] w (Po H w n o σ L aK ⟨σ.many+1,σ.rs++[⟨e.tx,e.thread,1,σ.many,-1,-1,[],1⟩]⟩):=by
 have hown:=adT (n:=n) (o:=o) (σ:=σ) (L:=L) (f1:=[(e.tx,ak,.any)]) (f2:=[(e.thread,ak,.any)]);have abX:=abV (own:=La (Iw L aK) (JK n o σ L [(e.tx,ak,.any)] [(e.thread,ak,.any)])) hA (fun t b h1 h2=>(hown b).2 ⟨t,h1,h2⟩) (f1:=[(e.tx,ak,.any)]) (f2:=[(e.thread,ak,.any)]) (v1:=[(e.tx,aK)]) (v2:=[(e.thread,aK)])
  ⟨rfl,trivial,trivial⟩ ⟨rfl,trivial,trivial⟩ (fun k u hm=>by
   simp at hm;obtain ⟨rfl,rfl⟩:=hm;simp[IV,hby]) (fun k u hm=>by
   simp at hm;obtain ⟨rfl,rfl⟩:=hm;simp[IC,hbu])
 have hd:=aff (H:=H) (E:=Iw L aK) (L:=L) (hp:=hpA n σ.rs.length o σ.many (Gy L.R) (IV σ L) (IC σ L) [(e.tx,ak,.any)] [(e.thread,ak,.any)]) hk rfl;refine (SK (args:=#[Dq L.p,Yp e]) (fn:=ji) (c:=LA 1 e (hpA n σ.rs.length o σ.many (Gy L.R) (IV σ L) (IC σ L) [(e.tx,ak,.any)] [(e.thread,ak,.any)])) (jU _ _) (ajg _) (by kernel_rfl) (by kernel_rfl) hd abX hon (Ve rfl) hg (apN hm hl hk hv)).mono fun en w' ⟨v,sv,k,t,H',E1,E',h1,h2,h3,h4,h5,h6,h7,h8⟩=>?_;obtain ⟨rfl,rfl⟩:=h2;cases h3;obtain ⟨L',a1,a2,a3⟩:=ajj (r:=⟨e.tx,e.thread,1,σ.many,-1,-1,[],1⟩) hA hown rfl h5 h6 h7 (h8 0 (by simp[toB]) _ rfl)
  (fun k=>by
   show (σ.rs++[_]).findIdx? _=_;rw[OG];by_cases q:k=e.tx
   ·subst q
    rw[if_pos rfl,show σ.rs.findIdx? (fun r=>r.id==e.tx)=aK from hby];simp
   ·rw[if_neg q]
    unfold Au.JR;cases σ.rs.findIdx? fun r=>r.id==k with
    |some j=>rfl |none=>simp;exact fun h=>(q h.symm).elim)
  (fun k=>by
   show (σ.rs++[_]).findIdx? _=_;rw[OG];by_cases q:k=e.thread
   ·subst q
    rw[if_pos rfl,show σ.rs.findIdx? (fun r=>r.th==e.thread&&r.live)=aK from hbu];simp[Rc.live]
   ·rw[if_neg q]
    unfold Au.KR;cases σ.rs.findIdx? fun r=>r.th==k&&r.live with
    |some j=>rfl |none=>simp;exact fun h=>(q h.symm).elim)
 exact ⟨v,H',L',h1,abW h4,a1,a2,a3,h7,TJ h6 fun b hb=>by
  obtain ⟨t,_,q⟩:=(hown b).1 hb;exact ⟨t,q⟩⟩
end
end Go.Ae
namespace Go.BF
open Go Go.Sx
theorem TK{α:Type}{l:List α}{i:Nat}{x:α}(h:l[i]?=ay x):l.set i x=l:=by
 apply lD;intro j;rw[kZ];by_cases q:i=j
 ·subst q
  rw[if_pos rfl,if_pos (aU.1 h).1,h]
 ·rw[if_neg q]
theorem MJ(many:Nat)(e:Ev)(r:Rc):(Rc.out many e r).2.2.id=r.id:=by
 unfold Rc.out;cases h:Rc.step many e r with
 |inl k=>rfl |inr r'=>exact (QD h).1
theorem ajk{σ:Au}{e:Ev}{i:Nat}{r:Rc}(hi:σ.rs[i]?=ay r)(hby:σ.JR e.tx=ay i)(hk:¬e.kind=1):σ.feed e=((Rc.out σ.many e r).1,⟨(Rc.out σ.many e r).2.1,σ.rs.set i (Rc.out σ.many e r).2.2⟩):=by
 have h1:(e.kind==1)=ak:=by simpa using hk
 have hr:σ.rs.getD i ⟨0,0,0,0,0,0,[],0⟩=r:=by rw[aY,hi];rfl
 unfold Au.feed;rw[hby];simp only[h1,cond_false,hr];unfold Rc.out;cases h:Rc.step σ.many e r with
 |inl k=>simp only[TK hi] |inr r'=>rfl
theorem Zj{e:Ev}(h:BP e=aC):1<=e.kind/\e.kind<=7:=by
 unfold BP at h;simp only[aI] at h;have:=of_decide_eq_true h.1.1;exact this.1
end Go.BF
namespace Go.Ae
open Go Go.Sx Go.BF
theorem SL{σ:Au}{i:Nat}{r:Rc}{e:Ev}(hi:σ.rs[i]?=ay r)(hs:1<=r.stand/\r.stand<=5)(hk:2<=e.kind/\e.kind<=7)(hn:¬(e.kind=5\/e.kind=6)\/(Rc.out σ.many e r).1.isNone=ak):ahr σ ⟨(Rc.out σ.many e r).2.1,σ.rs.set i (Rc.out σ.many e r).2.2⟩ []:=by
 refine .inl ⟨rfl,fun k=>?_⟩;unfold Rc.out at hn ⊢;cases h:Rc.step σ.many e r with
 |inl x=>simp only[TK hi] |inr r'=>
  rw[h] at hn;have hn:¬(e.kind=5\/e.kind=6):=by simpa using hn
  obtain ⟨l1,l2,l3⟩:=Vd h hk hs;exact LY hi (by rw[(QD h).2,l1,l3.2 hn])
theorem arE{σ:Au}(hI:σ.OK){i:Nat}{r:Rc}{e:Ev}(hi:σ.rs[i]?=ay r)(hk:e.kind=5\/e.kind=6)(hn:(Rc.out σ.many e r).1.isNone=aC):ahr σ ⟨(Rc.out σ.many e r).2.1,σ.rs.set i (Rc.out σ.many e r).2.2⟩ [(r.th,ak,.any)]:=by
 refine .inr ⟨r.th,.any,rfl,fun k=>?_⟩;unfold Rc.out at hn ⊢;cases h:Rc.step σ.many e r with
 |inl x=>rw[h] at hn;cases hn |inr r'=>
  obtain ⟨l1,l2,l3⟩:=Vd h (by omega) (hI.stands i r hi);have hl:r'.live=ak:=by
   cases q:r'.live with
   |false=>rfl |true=>exact (l3.1 q hk).elim
  have ht:=(QD h).2;have hlt:=(aU.1 hi).1;by_cases q:k=r.th
  ·rw[if_pos q]
   subst q;refine aht fun j y hj=>?_
   rw[kZ] at hj;by_cases e1:i=j
   ·rw[if_pos e1,if_pos (by omega)] at hj
    cases hj;rw[hl,Bool.and_false]
   ·rw[if_neg e1] at hj
    cases h1:(y.th==r.th&&y.live) with
    |false=>rfl |true=>
     simp only[aI,beq_iff_eq] at h1;exact (e1 (hI.one i j r y hi hj h1.1.symm l1 h1.2)).elim
  ·rw[if_neg q]
   refine LY hi ?_;rw[ht];have:(r.th==k)=ak:=by simpa using fun h:r.th=k=>q h.symm
   rw[this];rfl
section
variable{H:Mem}{w:World}{n:Nat}{o:Nat->Oj}{σ:Au}{L:Lay}{e:Ev}
theorem ts1{t0 t:QU}{k:Nat}(h:[t0][k]?=ay t)(hk:k=0):t=t0:=by
 subst hk;cases h;rfl
theorem apR(hA:Di H w n (zX o) σ L)(hI:σ.OK)(hon:H.on w)(hg:CU (Fv W5) H)(hm:σ.many<400)(hv:BP e=aC)(hob:e.kind=2->0<=e.obj/\e.obj<n/\Dz e.op=(o e.obj.toNat).kind):
  Calls aB 79 #[Dq L.p,Yp e] w (Po H w n o σ L (σ.feed e).1 (σ.feed e).2):=by
 have hkd:=Zj hv;have hlen:=hI.len;cases hby:σ.JR e.tx with
 |some i=>
  obtain ⟨r,hi,hp⟩:=SI hby
  have hdl:=hI.dl i r hi;by_cases k1:e.kind=1
  ·have e1:σ.feed e=(ay 9,σ):=by
    unfold Au.feed;rw[hby];simp only[k1];rfl
   rw[e1];have:=Kt hA hon hg hi hby k1 (apM (n:=n) (o:=o) hm k1 hv r) (x:=ay 9) (many':=σ.many) (r':=r) rfl fun sv k t h1 h2=>⟨h1.1,[],ts1 h2 h1.2,.inl ⟨rfl,fun k=>by rw[TK hi]⟩⟩;rw[TK hi] at this;exact this
  ·rw[ajk hi hby k1]
   have hst:=hI.stands i r hi;by_cases k2:e.kind=2
   ·obtain ⟨h1,h2,h3⟩:=hob k2
    exact Kt hA hon hg hi hby k2 (apF hm k2 hv r (by omega) h1 h2 h3) (MJ _ _ _) fun sv k t h1 h2=>⟨h1.1,[],ts1 h2 h1.2,SL hi hst (by omega) (.inl (by omega))⟩
   by_cases k3:e.kind=3
   ·exact Kt hA hon hg hi hby k3 (apG hm k3 hv r (by omega) (hI.deed i r hi)) (MJ _ _ _) fun sv k t h1 h2=>⟨h1.1,[],ts1 h2 h1.2,SL hi hst (by omega) (.inl (by omega))⟩
   by_cases k4:e.kind=4
   ·exact Kt hA hon hg hi hby k4 (apB hm k4 hv r) (MJ _ _ _) fun sv k t h1 h2=>⟨h1.1,[],ts1 h2 h1.2,SL hi hst (by omega) (.inl (by omega))⟩
   by_cases k7:e.kind=7
   ·exact Kt hA hon hg hi hby k7 (apC hm k7 hv r) (MJ _ _ _) fun sv k t h1 h2=>⟨h1.1,[],ts1 h2 h1.2,SL hi hst (by omega) (.inl (by omega))⟩
   have fin:∀(sv:SV) (k:Nat) (t:QU),(sv=svE (Rc.out σ.many e r).1/\k=bif (Rc.out σ.many e r).1.isNone then 1 else 0)->
     [Ep n σ.rs.length o (Gy L.R) (IV σ L) (IC σ L) e (Rc.out σ.many e r).2.1 (Rc.out σ.many e r).2.2 [],Ep n σ.rs.length o (Gy L.R) (IV σ L) (IC σ L) e (Rc.out σ.many e r).2.1 (Rc.out σ.many e r).2.2 [(r.th,ak,.any)]][k]?=ay t->
     sv=svE (Rc.out σ.many e r).1/\∃us,t=Ep n σ.rs.length o (Gy L.R) (IV σ L) (IC σ L) e (Rc.out σ.many e r).2.1 (Rc.out σ.many e r).2.2 us/\ahr σ ⟨(Rc.out σ.many e r).2.1,σ.rs.set i (Rc.out σ.many e r).2.2⟩ us:=fun sv k t h1 h2=>by
    obtain ⟨a,rfl⟩:=h1;refine ⟨a,?_⟩;cases hn:(Rc.out σ.many e r).1.isNone with
    |true=>
     rw[hn] at h2;cases h2;exact ⟨_,rfl,arE hI hi (by omega) hn⟩
    |false=>
     rw[hn] at h2;cases h2;exact ⟨_,rfl,SL hi hst (by omega) (.inr hn)⟩
   by_cases k5:e.kind=5
   ·exact Kt hA hon hg hi hby k5 (apD hm k5 hv r) (MJ _ _ _) fin
   have k6:e.kind=6:=by omega
   exact Kt hA hon hg hi hby k6 (apE hm k6 hv r) (MJ _ _ _) fin
 |none=>
  by_cases k1:e.kind=1
  ·have hb:(e.kind==1)=aC:=by simpa using k1
   cases hbu:σ.KR e.thread with
   |some j=>
    have e1:σ.feed e=(ay 10,σ):=by
     unfold Au.feed;rw[hby];simp only[hb,cond_true,hbu]
    rw[e1];exact abY hA hon hg hby k1 (f2:=[(e.thread,aC,.val (.pointer (ay ⟨L.R j,0,aK⟩)))]) (v2:=[(e.thread,ay (Dq (L.R j)))]) ⟨rfl,⟨⟨rfl,rfl⟩,rfl⟩,trivial⟩ (fun k u hm=>by
     simp at hm;obtain ⟨rfl,rfl⟩:=hm;simp[IC,hbu]) (arD hm k1 hv (L.R j))
   |none=>
    have e1:σ.feed e=(aK,⟨σ.many+1,σ.rs++[⟨e.tx,e.thread,1,σ.many,-1,-1,[],1⟩]⟩):=by
     unfold Au.feed;rw[hby];simp only[hb,cond_true,hbu]
    rw[e1];exact alW hA hon hg hm (by omega) hby hbu k1 hv
  ·have hb:(e.kind==1)=ak:=by simpa using k1
   have e1:σ.feed e=(ay 11,σ):=by
    unfold Au.feed;rw[hby];simp only[hb,cond_false]
   rw[e1];have go:∀kd:Int,e.kind=kd->EF (FZ [toN n σ.rs.length o σ.many (Gy L.R) (IV σ L) (IC σ L) [(e.tx,ak,.any)] []] (fun sv k=>sv=svE (ay 11)/\k=0)) ((run (C5 zW W5 Ce Am) 700 aC 79 [.code []] (LA kd e (hpA n σ.rs.length o σ.many (Gy L.R) (IV σ L) (IC σ L) [(e.tx,ak,.any)] []))).bind (toEnd [toN n σ.rs.length o σ.many (Gy L.R) (IV σ L) (IC σ L) [(e.tx,ak,.any)] []]))->
     Calls aB 79 #[Dq L.p,Yp e] w (Po H w n o σ L (ay 11) σ):=fun kd hk hr=>abY hA hon hg hby hk (f2:=[]) (v2:=[]) trivial (fun k u hm=>by simp at hm) hr
   by_cases k2:e.kind=2
   ·obtain ⟨h1,h2,h3⟩:=hob k2
    exact go 2 k2 (alQ hm h1 h2 h3 k2 hv)
   by_cases k3:e.kind=3
   ·exact go 3 k3 (alR hm k3 hv)
   by_cases k4:e.kind=4
   ·exact go 4 k4 (alS hm k4 hv)
   by_cases k5:e.kind=5
   ·exact go 5 k5 (alT hm k5 hv)
   by_cases k6:e.kind=6
   ·exact go 6 k6 (alU hm k6 hv)
   have k7:e.kind=7:=by omega
   exact go 7 k7 (alV hm k7 hv)
end
end Go.Ae
