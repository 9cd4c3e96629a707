/- Own work. -/
import Derived.Test.YtemojddccikgkaaGreatDoorB08
open Int (ofNat)
open Array renaming getElem?_eq_some_iff->aI
open Bool renaming true->ah,and_eq_true->ak,false->ag,eq_iff_iff->ka
open Classical renaming propDecidable->ay
open Go.IntKind renaming i64->az
open Go.Proofs renaming W7->mJ,aew->mK,L0->dW
open Go.Proofs.C7 renaming Hq->cO
open Go.Proofs.Tryz renaming tys->eU,fns->fi,live->lK,prog->ai,tysB_->lL,fnsAre_->cu,mixed_->lM,entersB_->cI,f81->lN,f79->hZ,f80->lO,f62->cG,f47->ip,f26->iq
open Go.Sx.oM renaming sh->aw,int->ac,nat->am,get->ax,mp->aK,Gf->aF,val->dL
open Go.Sx.pI renaming ret->ar,at_->aH
open Go.Sx.It renaming code->aA,inBlock->aM
open Go.Sx.SV renaming sh->bc,sS->bQ
open Go.Sx.Sh renaming i->av,er->aX,sl->aj,qK->fj,pt->gz,mX->aL,agg->aN
open Go.Sx.Tree renaming node->aq,leaf->ap,need->al,must->aR
open Go.Value renaming nilIface->bd,pointer->bP
open Int renaming ofNat->ab,toNat_natCast->bm,negSucc->bW
open List renaming range->aD,map_congr_left->dU,getElem?_eq_getElem->aC,getElem?_eq_some_iff->aJ
open Nat renaming beq->bJ
open Option renaming some->ae,none->ao
namespace Go.oH
open Go Go.Sx
abbrev Wd:=Go.Proofs.Wd
abbrev QU:=Go.Proofs.QU
abbrev DW:=Go.Proofs.nJ
abbrev W5:=mJ
abbrev noSpec:=Go.Proofs.noSpec
noncomputable def C5(A:Prim)(W:Wd)(spec:Nat->Option (List Sh->Tree Sh))(stop:Nat->List Nat->Bool):Ctx:=
 {A,tys:=eU,fns:=fi,spec,eqs:=[73,53],Ox:=[288],Cm:=stop,gls:=DW W,live:=lK,VB:=[114],Wv:=Go.Proofs.aiD}
theorem avj:QH ai eU [73,53]=ah:=by kernel_rfl
theorem avk:ad9 ai [288]=ah:=by kernel_rfl
instance C5.ok(spec:Nat->Option (List Sh->Tree Sh))(stop:Nat->List Nat->Bool):oC ai (C5 mM W5 spec stop):=
 ⟨QE lL,Fv cu,rfl,lM,fun t i h hi xs ys w h1 h2 x y=>Ns (FB avj t i h hi) xs ys w h1 h2 x y,Lm avk,mK⟩
theorem C5.Hq{spec:Nat->Option (List Sh->Tree Sh)}{stop:Nat->List Nat->Bool}(hs:∀g F,spec g=ae F->nD ai (DW W5) g F)(he:∀g,(spec g).isSome=ah->(fi.get g).isSome=ah):oD ai (C5 mM W5 spec stop):=
 ⟨hs,fun g h=>by
  rcases h with h|h
  ·exact uz cu cI g (he g h)
  ·exact uz cu cI g h,fun _ _ _ h=>(by cases h),fun _ _ _ h=>(by cases h)⟩
theorem vk(stop:Nat->List Nat->Bool):oD ai (C5 mM W5 noSpec stop):=C5.Hq (fun _ _ h=>by cases h) (fun _ h=>by cases h)
abbrev oN:=Go.Proofs.oN
abbrev mZ:=Go.Proofs.mZ
abbrev tX:=Go.Proofs.tX
abbrev L0:=dW
end Go.oH
namespace Go.oz
open Go Go.Sx
structure Oj where
 kind:Int
 init:Int
 deriving DecidableEq,Inhabited
structure Ev where
 kind:Int
 tx:Int
 thread:Int
 obj:Int
 op:Int
 key:Int
 val:Int
 ret:Int
 deriving DecidableEq,Inhabited
def obR(o:Oj):List Sh:=[.i .i64 o.kind,.i .i64 o.init]
def Hr(e:Ev):List Sh:=[.i .i64 e.kind,.i .i64 e.tx,.i .i64 e.thread,.i .i64 e.obj,.i .i64 e.op,.i .i64 e.key,.i .i64 e.val,.i .i64 e.ret]
def inR(n:Int):List Sh:=[.i .i64 n]
class Row(α:Type)where
 put:α->List Sh
 get:List Sh->Option α
 qQ:∀l a,get l=ae a->put a=l
 get_put:∀a,get (put a)=ae a
 Ad:α
instance:Row Oj where
 put:=obR
 get l:=match l with
  |[.i .i64 a,.i .i64 b]=>ae ⟨a,b⟩ |_=>ao
 qQ l a h:=by
  split at h
  ·cases h;rfl
  ·cases h
 get_put a:=rfl
 Ad:=⟨0,0⟩
instance:Row Ev where
 put:=Hr
 get l:=match l with
  |[.i .i64 a,.i .i64 b,.i .i64 c,.i .i64 d,.i .i64 e,.i .i64 f,.i .i64 g,.i .i64 h]=>ae ⟨a,b,c,d,e,f,g,h⟩ |_=>ao
 qQ l a h:=by
  split at h
  ·cases h;rfl
  ·cases h
 get_put a:=rfl
 Ad:=⟨0,0,0,0,0,0,0,0⟩
instance:Row Int where
 put:=inR
 get l:=match l with
  |[.i .i64 a]=>ae a |_=>ao
 qQ l a h:=by
  split at h
  ·cases h;rfl
  ·cases h
 get_put a:=rfl
 Ad:=0
def okB(α:Type)[Row α](n:Nat)(g:Nat->List Sh):Bool:=
 match n with
 |0=>ah |n+1=>okB α n g&&(Row.get (α:=α) (g n)).isSome
def mP{α:Type}[Row α](g:Nat->List Sh)(i:Nat):α:=(Row.get (g i)).getD Row.Ad
def lst(α:Type)[Row α](n:Nat)(g:Nat->List Sh):List α:=(aD n).map (mP g)
def nth{α:Type}[Row α](l:List α)(i:Nat):α:=l.getD i Row.Ad
def mO{α:Type}[Row α](o:Nat->α):Nat->List Sh:=fun j=>Row.put (o j)
section
variable{α:Type}[Row α]
theorem zh{n:Nat}{g:Nat->List Sh}(h:okB α n g=ah):∀i,i<n->g i=Row.put (mP (α:=α) g i):=by
 induction n with
 |zero=>omega |succ n ih=>
  simp only[okB,ak] at h;grind [Option.isSome_iff_exists,mP,Row.qQ]
theorem o9(o:Nat->α):∀n,okB α n (mO o)=ah
 |0=>rfl |n+1=>by simp[okB,o9 o n,mO,Row.get_put]
theorem Jv{g:Nat->List Sh}{o:Nat->α}:∀{n:Nat},(∀i,i<n->g i=Row.put (o i))->okB α n g=ah
 |0,_=>rfl |n+1,h=>by simp[okB,Jv (n:=n) fun i hi=>h i (by omega),h n (by omega),Row.get_put]
theorem Dh(o:Nat->α)(i:Nat):mP (mO o) i=o i:=by simp[mP,mO,Row.get_put]
@[simp] theorem uV (n:Nat) (g:Nat->List Sh):(lst α n g).length=n:=by simp[lst]
end
theorem qN{H:Mem}{st n:Nat}{g g':Nat->List Sh}{v:Value}(h:Rep H (.sl st n g) v)(hg:∀j,j<n->g j=g' j):Rep H (.sl st n g') v:=by
 cases h with
 |sl0 _ _ A cap hc=>exact .sl0 _ _ _ _ hc |sl _ _ _ b off cap c h1 h2 h3 h4 h5 h6=>exact .sl _ _ _ b off cap c h1 h2 (fun i hi=>by simp_all) h4 h5 fun i j s hi e=>h6 i j s hi (by simp_all)
theorem pX{α:Type}[Row α]{H:Mem}{st n:Nat}{g:Nat->List Sh}{v:Value}(h:Rep H (.sl st n g) v)(hg:okB α n g=ah):Rep H (.sl st n (mO (mP (α:=α) g))) v:=
 qN h fun j hj=>zh hg j hj
def len{α:Type}(l:List α):Nat:=l.length
open Go Go.Sx
theorem mW(a b:Int):mM.lt a b=decide (a<b):=rfl
theorem tN(a b:Int):mM.le a b=decide (a<=b):=rfl
theorem nG(a b:Int):mM.eq a b=(a==b):=rfl
theorem nN(a:Int)(n:Nat):mM.inB a n=decide (0<=a/\a<n):=rfl
theorem vG(a:Int)(n:Nat):mM.upTo a n=decide (0<=a/\a<=n):=rfl
theorem uK(n b:Nat):mM.room n b=decide (n*b<=140737488355328/\n<=maxLen):=rfl
theorem oZ(a:Int):mM.toN a=a.toNat:=rfl
theorem ny(n:Nat):mM.nK n=(n:Int):=rfl
theorem uo(n m:Nat):mM.addN n m=n+m:=rfl
theorem TA(n m:Nat):mM.Wu n m=decide (n<=m):=rfl
theorem oL(b:Bool):mM.nt b=!b:=rfl
theorem aaJ(a b c:Bool):mM.ite a b c=bif a then b else c:=rfl
theorem rP(a b:Int):mM.add .i64 a b=az.wrap (a+b):=rfl
theorem Di(a b:Int):mM.sub .i64 a b=az.wrap (a - b):=rfl
theorem Iw(a b:Int):mM.max a b=if b>a then b else a:=rfl
theorem rH(g:Nat->List Sh)(n:Nat)(h:Nat->List Sh)(i:Nat):mM.snoc g n h i=if i<n then g i else h (i - n):=rfl
theorem pF{a:Int}(h1:-9223372036854775808<=a)(h2:a<=9223372036854775807):az.wrap a=a:=by
 rw[IntKind.wrap_i64];omega
theorem zi:ab 1=1:=rfl
theorem maxLen_eq:maxLen=9223372036854775807:=rfl
theorem TB{α:Type}[Row α]{k:Nat}{o:Nat->α}{l:List (List Sh)}(h:nM l 0=Row.put (o k)):∀i,i<k+1->mM.snoc (mO o) k (nM l) i=mO o i:=fun i hi=>by
 rw[rH];split
 ·rfl
 ·have:i=k:=by omega
  subst this;rw[Nat.sub_self,h];rfl
def pq(n b:Nat):Bool:=mM.room n b
def idx(c:Int):Int:=az.wrap ((if (0:Int)>c then 0 else c) - 1)
def inW(m:Nat)(c:Int):Bool:=decide (0<=idx c/\idx c<(m:Int))
def Cj(c:Int):Int:=
 bif c==1 then 1 else bif c==2 then 1 else bif c==3 then 2 else bif c==4 then 2 else bif c==5 then 3 else bif c==6 then 3 else bif c==7 then 4 else bif c==8 then 4 else bif c==9 then 4 else 0
def wO(x y:Int):Bool:=
 bif x==2 then y==1 else bif x==3 then y==1 else bif x==5 then y==1 else bif x==7 then y==1 else bif x==1 then y==3 else bif x==4 then y==3 else
 bif x==6 then (bif y==2 then ah else y==3) else bif x==8 then (bif y==2 then ah else y==3) else bif x==9 then (bif y==2 then ah else y==3) else ag
end Go.oz
namespace Go.Pl
open Go Go.Sx Go.Proofs
def F1{α:Type}(u:α->Sh)(f:Int->α):List Sh->Tree Sh
 |[t]=>match nO t with
  |some a=>.leaf (u (f a)) |none=>.fail
 |_=>.fail
def F2{α:Type}(u:α->Sh)(f:Int->Int->α):List Sh->Tree Sh
 |[t,v]=>match nO t,nO v with
  |some a,ae b=>.leaf (u (f a b)) |_,_=>.fail
 |_=>.fail
abbrev F1B:=F1 Sh.b
abbrev F1I:=F1 (av .i64)
abbrev F2B:=F2 Sh.b
noncomputable def rn0(g n:Nat)(l:List Sh):Tree pI:=nR (C7 mM W7 noSpec oN) qm 300 3000 g [.code []] (nX n l L0) [] []
end Go.Pl
namespace Go.Proofs
open Go Go.Sx Go.Pl
section
variable{α:Type}[Inhabited α]{d:Sh->Option α}{u:α->Sh}{g:Nat}
theorem fn1(hd:∀{s c},d s=ae c->s=u c)(hw:∀c,Wk (u c) (u c)){f:Int->α}(fn:Func)(h:∀a,Ans d (rn0 g fn.ntmps [.i .i64 a]) (f a))(hfn:(C7 mM W7 noSpec oN).fns.get g=ae fn:=by kernel_rfl)(hb:fn.body.isSome=ah:=by kernel_rfl):nD ai (nJ W7) g (F1 u f):=by
 refine pJ (vk oN) 300 3000 L0 fn (hfn:=hfn) (hb:=hb) fun H w nY args φ hrep hφ=>?_
 unfold F1 at hφ;split at hφ
 ·split at hφ
  ·rename_i a ha
   match args,hrep with
   |[v],⟨hv,_⟩=>exact ⟨[.i .i64 a],⟨rO ha hv,trivial⟩,by rw[<-qc];exact aaT hd (nP (hw _) hφ) (h a)⟩
  ·exact hφ.elim
 ·exact hφ.elim
theorem vX(hd:∀{s c},d s=ae c->s=u c)(hw:∀c,Wk (u c) (u c)){f:Int->Int->α}(fn:Func)(h:∀a b,Ans d (rn0 g fn.ntmps [.i .i64 a,.i .i64 b]) (f a b))(hfn:(C7 mM W7 noSpec oN).fns.get g=ae fn:=by kernel_rfl)(hb:fn.body.isSome=ah:=by kernel_rfl):nD ai (nJ W7) g (F2 u f):=by
 refine pJ (vk oN) 300 3000 L0 fn (hfn:=hfn) (hb:=hb) fun H w nY args φ hrep hφ=>?_
 unfold F2 at hφ;split at hφ
 ·split at hφ
  ·rename_i a b ha hb
   match args,hrep with
   |[v,w],⟨hv,hw',_⟩=>exact ⟨[.i .i64 a,.i .i64 b],⟨rO ha hv,rO hb hw',trivial⟩,by rw[<-qc];exact aaT hd (nP (hw _) hφ) (h a b)⟩
  ·exact hφ.elim
 ·exact hφ.elim
theorem arE{f:Int->Bool}(fn:Func)(h:∀a,Ans dB (rn0 g fn.ntmps [.i .i64 a]) (f a))(hfn:(C7 mM W7 noSpec oN).fns.get g=ae fn:=by kernel_rfl)(hb:fn.body.isSome=ah:=by kernel_rfl):nD ai (nJ W7) g (F1B f):=fn1 ag5 (fun _=>.inl rfl) fn h hfn hb
theorem arF{f:Int->Int->Bool}(fn:Func)(h:∀a b,Ans dB (rn0 g fn.ntmps [.i .i64 a,.i .i64 b]) (f a b))(hfn:(C7 mM W7 noSpec oN).fns.get g=ae fn:=by kernel_rfl)(hb:fn.body.isSome=ah:=by kernel_rfl):nD ai (nJ W7) g (F2B f):=vX ag5 (fun _=>.inl rfl) fn h hfn hb
end
end Go.Proofs
namespace Go.oH
open Go Go.Sx Go.Pl Go.Proofs
abbrev F57:=F1I oz.Cj
theorem O57:nD ai (nJ W7) 82 F57:=fn1 ag4 (fun _=>rfl) Tryz.f82 fun a=>⟨by kernel_rfl,by kernel_rfl,by kernel_rfl⟩
abbrev F67:=F2B oz.wO
theorem O67:nD ai (nJ W7) 125 F67:=arF Tryz.f125 fun a b=>⟨by kernel_rfl,by kernel_rfl,by kernel_rfl⟩
end Go.oH
namespace Go.Proofs
open Go Go.Sx Go.Pl
theorem as2:nD ai (nJ W7) 94 (F1B valued):=arE Tryz.f94 fun a=>⟨by kernel_rfl,by kernel_rfl,
 (by kernel_rfl:_=bif a==2 then ah else bif a==3 then ah else bif a==5 then ah else a==7).trans (by unfold valued;grind)⟩
theorem avm:nD ai (nJ W7) 115 (F1B keyed):=arE Tryz.f115 fun a=>⟨by kernel_rfl,by kernel_rfl,
 (by kernel_rfl:_=bif a==7 then ah else bif a==8 then ah else a==9).trans (by unfold keyed;grind)⟩
theorem as3(a b:Int):Go.oz.wO a b=bif a==2 then b==1 else bif a==3 then b==1 else bif a==5 then b==1 else bif a==7 then b==1 else bif a==1 then b==3 else bif a==4 then b==3 else
 bif a==6 then (bif b==3 then ah else b==2) else bif a==8 then (bif b==3 then ah else b==2) else bif a==9 then (bif b==3 then ah else b==2) else ag:=by
 have e:(bif b==2 then ah else b==3)=bif b==3 then ah else b==2:=by grind
 unfold Go.oz.wO;rw[e]
theorem avn:nD ai (nJ W7) 71 (F2B Go.oz.wO):=arF Tryz.f71 fun a b=>⟨by kernel_rfl,by kernel_rfl,by rw[as3];kernel_rfl⟩
theorem anh:nD ai (nJ W7) 87 (F1I uO):=by
 refine pJ (vk oN) 300 800 L0 Tryz.f87 fun H w nY args φ hrep hφ=>?_
 unfold F1I F1 at hφ;split at hφ
 ·split at hφ
  ·rename_i a ha
   match args,hrep with
   |[v],⟨hv,_⟩=>
    have hφ:φ (.i .i64 (uO a)):=hφ;by_cases hb:1<=a/\a<=9
    ·refine ⟨[.v (.int .i64 a)],⟨XY ha hv,trivial⟩,?_⟩
     rw[<-qc];have:a=1\/a=2\/a=3\/a=4\/a=5\/a=6\/a=7\/a=8\/a=9:=by omega
     rcases this with rfl|rfl|rfl|rfl|rfl|rfl|rfl|rfl|rfl<;>exact ane _ (nP (s':=.i .i64 (uO _)) rfl hφ)
    ·have e:uO a=0:=by unfold uO;grind
     rw[e] at hφ;have k:up φ (.i .i64 0):=nP (s':=.i .i64 0) rfl hφ;refine ⟨[.i .i64 a],⟨rO ha hv,trivial⟩,?_⟩;rw[<-qc];exact wH (nd (mM.lt a 1) (fun _=>k) fun p=>nd (mM.lt 9 a) (fun _=>k) fun q=>(hb (by simp_all [mW]):False))
  ·exact hφ.elim
 ·exact hφ.elim
end Go.Proofs
namespace Go.oz
open Go Go.Sx
open Go.Pl (nO rO)
def BD(e:Ev):Prop:=(1<=e.kind/\e.kind<=7)/\(e.kind=2->1<=e.op/\e.op<=9)/\(e.kind=3->1<=e.ret/\e.ret<=3)
def BF(e:Ev):Prop:=
 (1<=e.tx/\e.tx<=1000)/\
 ((e.kind=1/\0<=e.thread/\e.thread<=7)\/(e.kind≠1/\e.thread=0))/\
 ((e.kind=2/\0<=e.obj/\e.obj<=7)\/(e.kind≠2/\e.obj=0))/\
 ((e.kind=2/\1<=e.op/\e.op<=9)\/(e.kind≠2/\e.op=0))/\
 ((e.kind=2/\7<=e.op/\0<=e.key/\e.key<=1000)\/(¬(e.kind=2/\7<=e.op)/\e.key=0))/\
 ((((e.kind=2/\(e.op=2\/e.op=3\/e.op=5\/e.op=7))\/(e.kind=3/\e.ret=3))/\-1000000000<=e.val/\e.val<=1000000000)\/(¬((e.kind=2/\(e.op=2\/e.op=3\/e.op=5\/e.op=7))\/(e.kind=3/\e.ret=3))/\e.val=0))/\
 ((e.kind=3/\1<=e.ret/\e.ret<=3)\/(e.kind≠3/\e.ret=0))
instance (e:Ev):Decidable (BD e):=by unfold BD;infer_instance
instance (e:Ev):Decidable (BF e):=by unfold BF;infer_instance
def BG(e:Ev):Bool:=decide (BD e)
def fieldsB(e:Ev):Bool:=decide (BF e)
def qJ(n:Int):Bool:=decide (-9223372036854775808<=n/\n<=9223372036854775807)
def Ve:List Sh->Option Ev
 |[a,b,c,d,e,f,g,h]=>match nO a,nO b,nO c,nO d,nO e,nO f,nO g,nO h with
  |some a,ae b,ae c,ae d,ae e,ae f,ae g,ae h=>ae ⟨a,b,c,d,e,f,g,h⟩ |_,_,_,_,_,_,_,_=>ao
 |_=>ao
theorem Gu{H:Mem}{l l':List Sh}{v:Value}(hv:Rep H (.agg l) v)(hl:l'.length=l.length)(h:∀(j:Nat) (s s':Sh),l[j]?=ae s->l'[j]?=ae s'->∀u,Rep H s u->Rep H s' u):Rep H (.agg l') v:=by
 cases hv with
 |agg _ vs h3 h4=>
  refine .agg _ vs (by omega) fun j s' v' e1 e2=>?_
  grind
theorem arG{H:Mem}{a b c d e f g h a' b' c' d' e' f' g' h':Sh}{v:Value}(hv:Rep H (.agg [a,b,c,d,e,f,g,h]) v)(q:∀u,(Rep H a u->Rep H a' u)/\(Rep H b u->Rep H b' u)/\(Rep H c u->Rep H c' u)/\(Rep H d u->Rep H d' u)/\(Rep H e u->Rep H e' u)/\(Rep H f u->Rep H f' u)/\(Rep H g u->Rep H g' u)/\(Rep H h u->Rep H h' u)):Rep H (.agg [a',b',c',d',e',f',g',h']) v:=
 Gu hv rfl fun j s s' e1 e2 u hu=>by
  obtain ⟨q0,q1,q2,q3,q4,q5,q6,q7⟩:=q u;match j,e1,e2 with
  |0,e1,e2|1,e1,e2|2,e1,e2|3,e1,e2|4,e1,e2|5,e1,e2|6,e1,e2|7,e1,e2=>cases e1;cases e2;simp_all |j+8,e1,e2=>simp at e1
theorem X9{H:Mem}{l:List Sh}{e:Ev}{v:Value}(h:Ve l=ae e)(hv:Rep H (.agg l) v):Rep H (.agg (Hr e)) v:=by
 unfold Ve at h;split at h
 ·split at h
  ·cases h
   exact arG hv fun u=>⟨rO ‹_›,rO ‹_›,rO ‹_›,rO ‹_›,rO ‹_›,rO ‹_›,rO ‹_›,rO ‹_›⟩
  ·cases h
 ·cases h
def nl(b:Bool)(n:Int):Sh:=bif b then .v (.int .i64 n) else .i .i64 n
def oI(a:Bool)(e:Ev):List Sh:=[nl a e.kind,.i .i64 e.tx,.i .i64 e.thread,.i .i64 e.obj,nl (a&&e.kind==2) e.op,.i .i64 e.key,.i .i64 e.val,nl (a&&e.kind==3) e.ret]
theorem acv{H:Mem}{b:Bool}{n:Int}{v:Value}(h:Rep H (.i .i64 n) v):Rep H (nl b n) v:=by
 cases b
 ·exact h
 ·cases h;exact .v _ rfl
theorem Rh{H:Mem}{e:Ev}{v:Value}(a b c:Bool)(h:Rep H (.agg (Hr e)) v):Rep H (.agg [nl a e.kind,.i .i64 e.tx,.i .i64 e.thread,.i .i64 e.obj,nl b e.op,.i .i64 e.key,.i .i64 e.val,nl c e.ret]) v:=
 arG h fun _=>⟨acv,id,id,id,acv,id,id,acv⟩
theorem codes{k x t o p y v r:Int}(h:BD ⟨k,x,t,o,p,y,v,r⟩):(k=2/\(p=1\/p=2\/p=3\/p=4\/p=5\/p=6\/p=7\/p=8\/p=9))\/(k=3/\(r=1\/r=2\/r=3))\/k=1\/k=4\/k=5\/k=6\/k=7:=by
 obtain ⟨h1,h2,h3⟩:=h;simp only at h1 h2 h3;grind
def Ol(k i:Int):Bool:=inW 4 k && !decide (i < -1000000000) && !decide (1000000000<i)&&(k==1||k==2||i==0)
def rgE(h:Bool)(lo hi n k:Int):Int:=bif h then bif mM.lt n lo then 15 else bif mM.lt hi n then 15 else k else k
def zrE(h:Bool)(n:Int)(k:Bool):Bool:=mM.ite (mM.eq (bif h then 0 else n) 0) k ag
def keyE(e:Ev):Bool:=e.kind==2&&decide (7<=e.op)
def ani(e:Ev):Bool:=e.kind==2&&(e.op==2||e.op==3||e.op==5||e.op==7)||e.kind==3&&e.ret==3
def anj(e:Ev):Int:=
 rgE ah 1 1000 e.tx (rgE (e.kind==1) 0 7 e.thread (rgE (e.kind==2) 0 7 e.obj (rgE (keyE e) 0 1000 e.key (rgE (ani e) (-1000000000) 1000000000 e.val
 (bif mM.nt (zrE ah 0 (zrE ah 0 (zrE (e.kind==1) e.thread (zrE (e.kind==2) e.obj (zrE (e.kind==2) e.op (zrE (keyE e) e.key (zrE (ani e) e.val (zrE (e.kind==3) e.ret ah)))))))) then 15 else 0)))))
def dE:Sh->Option Int
 | .er g t=>bif bJ t 288 && !Nat.beq g 0 then ae g else ao | .v .nilIface=>ae 0 |_=>ao
def uE(c:Int):Sh:=bif c==0 then .v .nilIface else .er c.toNat 288
theorem as4{s:Sh}{c:Int}(h:dE s=ae c):s=uE c:=by
 unfold dE at h;split at h
 ·rename_i g t
  cases g with
  |zero=>simp at h |succ g=>
   cases hb:bJ t 288<;>rw[hb] at h<;>cases h
   cases Nat.eq_of_beq_eq_true hb;rfl
 ·cases h;rfl
 ·cases h
noncomputable def rn5(g n:Nat)(l:List Sh):Tree pI:=nR (Go.oH.C5 mM Go.oH.W5 Go.oH.noSpec Go.oH.oN) qm 300 3000 g [.code []] (nX n l dW) [] []
end Go.oz
namespace Go.oH
open Go Go.Sx Go.oz
open Go.Pl (nO rO)
open Go.Pl (nP)
set_option maxHeartbeats 4000000 in
theorem aqe{e:Ev}(h:BD e):Ans dE (rn5 81 75 [.agg (oI ah e)]) (anj e)/\anj e=bif fieldsB e then 0 else 15:=by
 obtain ⟨k,x,t,o,p,y,v,r⟩:=e;rcases codes h with ⟨rfl,rfl|rfl|rfl|rfl|rfl|rfl|rfl|rfl|rfl⟩ |⟨rfl,rfl|rfl|rfl⟩ |rfl|rfl|rfl|rfl|rfl
 all_goals exact ⟨⟨by as_aux_lemma=>kernel_rfl,by as_aux_lemma=>kernel_rfl,by as_aux_lemma=>kernel_rfl⟩,by simp[anj,rgE,zrE,keyE,ani,mW,nG,oL,aaJ,oz.fieldsB,BF];grind (splits:=30)⟩
theorem aqf{ψ:pI->Prop}{e:Ev}(hc:¬BD e)(hi:qJ e.ret=ah)(k:ψ (.ret (.er 14 288))):∃a b c,oP ψ (rn5 81 75 [.agg [nl a e.kind,.i .i64 e.tx,.i .i64 e.thread,.i .i64 e.obj,nl b e.op,.i .i64 e.key,.i .i64 e.val,nl c e.ret]]):=by
 obtain ⟨kd,x,t,o,p,y,v,r⟩:=e;have hi:=of_decide_eq_true hi;simp only[BD] at hc hi;by_cases a1:1<=kd/\kd<=7
 ·by_cases a3:kd=2
  ·subst a3
   exact ⟨ah,ag,ag,Q9 [ag,ag,ag,ag,ag,ag,ag,ag,ag] [mM.eq p 1,mM.eq p 2,mM.eq p 3,mM.eq p 4,mM.eq p 5,mM.eq p 6,mM.eq p 7,mM.eq p 8,mM.eq p 9] (by simp[nG];omega) k⟩
  obtain rfl:kd=3:=by omega
  have e:mM.sub .i64 (mM.max r 0) 1=(if 0>r then 0 else r) - 1:=by rw[Iw,Di];split<;>rw[pF]<;>omega
  by_cases a4:r<1
  ·exact ⟨ah,ag,ag,Q9 [ah] [mM.lt (mM.sub .i64 (mM.max r 0) 1) 0] (by simp[e,mW];omega) k⟩
  ·exact ⟨ah,ag,ag,Q9 [ag,ah] [mM.lt (mM.sub .i64 (mM.max r 0) 1) 0,mM.le 3 (mM.sub .i64 (mM.max r 0) 1)] (by simp[e,mW,tN];omega) k⟩
 ·exact ⟨ag,ag,ag,Q9 [ag,ag,ag,ag,ag,ag,ag] [mM.eq kd 1,mM.eq kd 4,mM.eq kd 5,mM.eq kd 6,mM.eq kd 7,mM.eq kd 2,mM.eq kd 3] (by simp[nG];omega) k⟩
def F56:List Sh->Tree Sh
 |[.agg l]=>match Ve l with
  |some e=>.need (qJ e.ret) (.node (BG e) (.node (oz.fieldsB e) (.leaf (.v .nilIface)) (.leaf (.er 15 288))) (.leaf (.er 14 288))) |none=>.fail
 |_=>.fail
theorem O56:nD ai (DW W5) 81 F56:=by
 refine pJ (C:=C5 mM W5 noSpec oN) (vk oN) 300 3000 dW lN fun H w nY args φ hrep h=>?_
 unfold F56 at h;split at h
 ·split at h
  ·rename_i l e he
   obtain ⟨hi,h1,h2⟩:=h;match args,hrep with
   |[u],⟨hu,_⟩=>
    have hu:=X9 he hu;suffices q:∃a b c,oP (yc ai (C5 mM W5 noSpec oN) (K0 H w) [] emp (up φ)) (rn5 81 75 [.agg [nl a e.kind,.i .i64 e.tx,.i .i64 e.thread,.i .i64 e.obj,nl b e.op,.i .i64 e.key,.i .i64 e.val,nl c e.ret]]) from
     let ⟨a,b,c,q⟩:=q;⟨[.agg _],⟨Rh a b c hu,trivial⟩,by rw[<-qc];exact q⟩
    cases hc:BG e
    ·exact aqf (of_decide_eq_false hc) hi (nP (s':=.er 14 288) rfl (h2 hc))
    ·obtain ⟨q,r⟩:=aqe (of_decide_eq_true hc)
     refine ⟨ah,_,_,aaT as4 ?_ q⟩;rw[r];cases hf:oz.fieldsB e
     ·exact nP (s':=.er 15 288) rfl ((h1 hc).2 hf)
     ·exact nP (s':=.v .nilIface) rfl ((h1 hc).1 hf)
  ·exact h.elim
 ·exact h.elim
open Go.Pl (nO rO nP)
def F54:List Sh->Tree Sh
 |[.agg [s,s']]=>match nO s,nO s' with
  |some k,ae i=>.node (Ol k i) (.leaf (.v .nilIface)) (.leaf (.er 7 288)) |_,_=>.fail
 |_=>.fail
theorem EP{H:Mem}{s s' t t':Sh}{v:Value}(hv:Rep H (.agg [s,s']) v)(h1:∀u,Rep H s u->Rep H t u)(h2:∀u,Rep H s' u->Rep H t' u):Rep H (.agg [t,t']) v:=by
 cases hv with
 |agg _ vs h3 h4=>
  refine .agg _ vs h3 fun j s0 v' e1 e2=>?_
  grind
theorem Ya{k i:Int}(h:inW 4 k=ag\/i < -1000000000\/1000000000<i\/(¬k=1/\¬k=2/\¬i=0)):Ol k i=ag:=by grind [Ol]
theorem ag6{k i:Int}(h:inW 4 k=ah)(h1:¬i < -1000000000)(h2:¬1000000000<i)(h3:k=1\/k=2\/i=0):Ol k i=ah:=by grind [Ol]
theorem dt{p:Prop}[Decidable p](h:decide p=ah):p:=of_decide_eq_true h
theorem df{p:Prop}[Decidable p](h:decide p=ag):¬p:=of_decide_eq_false h
theorem nt{a b:Int}(h:mM.nt (mM.eq a b)=ag):a=b:=by simp_all [oL,nG]
theorem nf{a b:Int}(h:mM.nt (mM.eq a b)=ah):¬a=b:=by simp_all [oL,nG]
theorem O54:nD ai (DW W5) 79 F54:=by
 refine pJ (C:=C5 mM W5 noSpec oN) (vk oN) 300 3000 dW hZ fun H w nY args φ hrep h=>?_
 unfold F54 at h;split at h
 ·split at h
  ·rename_i k i hk hi
   obtain ⟨h1,h2⟩:=h;match args,hrep with
   |[u],⟨hu,_⟩=>
    refine ⟨[.agg [.i .i64 k,.i .i64 i]],⟨EP hu (fun _=>rO hk) (fun _=>rO hi),trivial⟩,?_⟩;rw[<-qc];have k0 (q:Ol k i=ah):up φ (.v .nilIface):=nP (s':=.v .nilIface) rfl (h1 q);have k7 (q:Ol k i=ag):up φ (.er 7 288):=nP (s':=.er 7 288) rfl (h2 q);have e:inW 4 k=decide (0<=mM.sub .i64 (mM.max k 0) 1/\mM.sub .i64 (mM.max k 0) 1<4):=rfl;generalize mM.sub .i64 (mM.max k 0) 1=x at e ⊢;have wd {P:Prop} (c:inW 4 k=ah->P):=nd (mM.lt x 0) (fun q=>k7 (Ya (.inl (by rw[e];have:=dt q;simp;omega)))) fun q1=>nd (mM.le 4 x) (fun q=>k7 (Ya (.inl (by rw[e];have:=dt q;simp;omega)))) fun q2=>
     have h:0<=x/\x<4:=by have:=df q1;have:=df q2;omega
     have w:=nd ag (fun q=>(Bool.noConfusion q:up φ (.er 7 288))) fun _=>c (by rw[e];exact decide_eq_true h);an (decide_eq_true h:mM.inB x 4=ah) (nd (mM.eq x 0) (fun _=>w) fun a0=>nd (mM.eq x 1) (fun _=>w) fun a1=>nd (mM.eq x 2) (fun _=>w) fun a2=>nd (mM.eq x 3) (fun _=>w) fun a3=>(by have:=df a0;have:=df a1;have:=df a2;have:=df a3;omega:False))
    have n {P:Prop} (y:¬i < -1000000000->¬1000000000<i->P):=nd (mM.lt i (-1000000000)) (fun q=>k7 (Ya (.inr (.inl (dt q))))) fun q1=>nd (mM.lt 1000000000 i) (fun q=>k7 (Ya (.inr (.inr (.inl (dt q)))))) fun q2=>y (df q1) (df q2);exact DV (nd (mM.eq k 1) (fun a=>wd fun hw=>n fun b c=>k0 (ag6 hw b c (.inl (dt a)))) fun a=>wd fun hw=>n fun b c=>
     nd (mM.nt (mM.eq k 2)) (fun d=>nd (mM.nt (mM.eq i 0)) (fun f=>k7 (Ya (.inr (.inr (.inr ⟨df a,nf d,nf f⟩))))) fun f=>k0 (ag6 hw b c (.inr (.inr (nt f))))) fun d=>k0 (ag6 hw b c (.inr (.inl (nt d)))))
  ·exact h.elim
 ·exact h.elim
def F55:List Sh->Tree Sh
 |[s,.er e 288]=>match nO s with
  |some x=>.leaf (.qK 90 (.pt [.i .i64 x,.er e 288])) |none=>.fail
 |_=>.fail
theorem O55:nD ai (DW W5) 80 F55:=by
 refine pJ (C:=C5 mM W5 noSpec oN) (vk oN) 300 3000 dW lO fun H w nY args φ hrep h=>?_
 unfold F55 at h;split at h
 ·rename_i s e
  split at h
  ·rename_i x hx
   match args,hrep with
   |[u,v],⟨hu,hv,_⟩=>exact ⟨[.i .i64 x,.er e 288],⟨rO hx hu,hv,trivial⟩,by rw[<-qc];exact DV (nP (s:=.qK 90 (.pt [.i .i64 x,.er e 288])) rfl h)⟩
  ·exact h.elim
 ·exact h.elim
theorem MF{H:Mem}{n m:Nat}{g h:Nat->List Sh}{v:Value}(hv:Rep H (.agg [.sl 2 n g,.sl 8 m h]) v)(hg:okB Oj n g=ah)(hk:okB Ev m h=ah):Rep H (.agg [.sl 2 n (mO (mP (α:=Oj) g)),.sl 8 m (mO (mP (α:=Ev) h))]) v:=by
 cases hv with
 |agg _ vs h1 h2=>
  refine .agg _ vs h1 fun j s v' e1 e2=>?_
  grind [pX]
def BH:Nat->Option (List Sh->Tree Sh)
 |79=>ae F54 |80=>ae F55 |81=>ae F56 |82=>ae F57 |_=>ao
theorem avo:∀g F,BH g=ae F->nD ai (DW W5) g F:=fun g F h=>by
 unfold BH at h;grind [O54,O55,O56,O57]
theorem ag7(stop:Nat->List Nat->Bool):oD ai (C5 mM W5 BH stop):=C5.Hq avo fun g h=>by
 unfold BH at h;split at h;all_goals first|(cases h;done) |kernel_rfl
end Go.oH
namespace Go.Pl
open Go Go.Sx Go.Proofs
open Go.oz (Ev Hr BG fieldsB BD BF nl Rh)
def fld(h lo hi:Bool)(n k:Int):Int:=bif h then bif lo then bif !hi then 110 else k else 110 else bif !(n==0) then 110 else k
def ank(e:Ev):Int:=fld ah (decide (1<=e.tx)) (decide (e.tx<=1000)) e.tx (fld (e.kind==1) (decide (0<=e.thread)) (decide (e.thread<8)) e.thread
 (fld (e.kind==2) (decide (0<=e.obj)) (decide (e.obj<8)) e.obj (fld (e.kind==2) ah ah e.op
 (fld (e.kind==2&&keyed e.op) (decide (0<=e.key)) (decide (e.key<=1000)) e.key (fld (e.kind==2&&valued e.op||e.kind==3&&e.ret==3) (decide (-1000000000<=e.val)) (decide (e.val<=1000000000)) e.val
 (fld (e.kind==3) ah ah e.ret 0))))))
def Pv(e:Ev):Int:=bif BG e then bif Go.oz.fieldsB e then 0 else 110 else 108
theorem aqg(h lo hi:Bool)(n k:Int):fld h lo hi n k=bif (bif h then lo&&hi else n==0) then k else 110:=by
 grind [fld]
theorem anl(a b:Bool)(x:Int):(bif a then bif b then x else 110 else 110)=bif a&&b then x else 110:=by grind
theorem anm{h lo hi:Bool}{n:Int}:(bif h then lo&&hi else n==0)=ah↔(h=ah/\lo=ah/\hi=ah)\/(¬h=ah/\n=0):=by grind
theorem aqh{e:Ev}(h:BG e=ah):ank e=Pv e:=by
 have h1:BD e:=of_decide_eq_true h;unfold Pv ank;rw[h];simp only[aqg,anl,cond_true];congr 1;rw[ka,show Go.oz.fieldsB e=ah↔BF e from decide_eq_true_iff];unfold BF;unfold BD at h1;simp only[ak,anm,decide_eq_true_eq,beq_iff_eq,Bool.or_eq_true,keyed,valued];grind
def Yb:Nat->Option (List Sh->Tree Sh)
 |87=>ae (F1I uO) |_=>ao
noncomputable def rn8(l:List Sh):Tree pI:=nR (C7 mM W7 Yb oN) qm 300 3000 67 [.code []] (nX Tryz.f67.ntmps [.agg l] L0) [] []
def ano:List Sh->Tree Sh
 |[.agg l]=>match Go.oz.Ve l with
  |some e=>.leaf (.i .i64 (Pv e)) |none=>.fail
 |_=>.fail
end Go.Pl
namespace Go.Proofs
open Go Go.Sx Go.Pl
open Go.oz (Ev Hr BG fieldsB BD BF nl Rh)
theorem aqi(stop:Nat->List Nat->Bool):oD ai (C7 mM W7 Yb stop):=cO (fun g F h=>by
 grind [Yb,anh]) fun g h=>by
 unfold Yb at h;split at h;all_goals first|(cases h;done) |kernel_rfl
set_option maxHeartbeats 4000000 in
theorem aqj{e:Ev}(h:BD e):Ans dI (rn8 (Go.oz.oI ah e)) (ank e):=by
 obtain ⟨k,x,t,o,p,y,v,r⟩:=e;rcases Go.oz.codes h with ⟨rfl,rfl|rfl|rfl|rfl|rfl|rfl|rfl|rfl|rfl⟩ |⟨rfl,rfl|rfl|rfl⟩ |rfl|rfl|rfl|rfl|rfl
 all_goals exact ⟨by as_aux_lemma=>kernel_rfl,by as_aux_lemma=>kernel_rfl,by as_aux_lemma=>kernel_rfl⟩
theorem avq:nD ai (nJ W7) 67 ano:=by
 refine pJ (aqi oN) 300 3000 L0 Tryz.f67 fun H w nY args φ hrep hφ=>?_
 unfold ano at hφ;split at hφ
 ·rename_i l
  split at hφ
  ·rename_i e he
   match args,hrep with
   |[v],⟨hv,_⟩=>
    have hv:=Go.oz.X9 he hv;suffices q:∃a b c,oP (yc ai (C7 mM W7 Yb oN) (K0 H w) [] emp (up φ)) (rn8 [nl a e.kind,.i .i64 e.tx,.i .i64 e.thread,.i .i64 e.obj,nl b e.op,.i .i64 e.key,.i .i64 e.val,nl c e.ret]) from
     let ⟨a,b,c,q⟩:=q;⟨[.agg _],⟨Rh a b c hv,trivial⟩,by rw[<-qc];exact q⟩
    have k {c:Int} (h:c=Pv e):up φ (.i .i64 c):=nP (s':=.i .i64 (Pv e)) (by rw[h];exact rfl) hφ;clear hφ he;cases hc:BG e
    ·replace k:up φ (.i .i64 108):=k (by simp_all [Pv])
     have hc:¬BD e:=of_decide_eq_false hc;obtain ⟨kd,x,t,o,p,y,z,r⟩:=e;simp only[BD] at hc;by_cases a1:kd<1
     ·exact ⟨ag,ag,ag,Q9 [ah] [mM.lt kd 1] (by simp[mW,a1]) k⟩
     by_cases a2:7<kd
     ·exact ⟨ag,ag,ag,Q9 [ag,ah] [mM.lt kd 1,mM.lt 7 kd] (by simp[mW,a1,a2]) k⟩
     by_cases a3:kd=2
     ·subst a3
      exact ⟨ah,ag,ag,Q9 [ah] [mM.eq (uO p) 0] (by grind [nG,uO]) k⟩
     obtain rfl:kd=3:=by omega
     by_cases a4:r<1
     ·exact ⟨ah,ag,ag,Q9 [ah] [mM.lt r 1] (by simp[mW,a4]) k⟩
     ·exact ⟨ah,ag,ag,Q9 [ag,ah] [mM.lt r 1,mM.lt 3 r] (by grind [mW]) k⟩
    ·exact ⟨ah,_,_,aaT ag4 (k (aqh hc)) (aqj (of_decide_eq_true hc))⟩
  ·exact hφ.elim
 ·exact hφ.elim
end Go.Proofs
namespace Go.oH
open Go Go.Sx Go.oz
open Go.Proofs (Cc QY)
def aaU:List It:=[aA [0,1,0,1,1,1],aM 2,aA [1,1,1,1]]
def arH:List It:=[aA [0,0,1,0,1,1,1],aA [0,1,0,1,1,1],aM 2,aA [1,1,1,1]]
def aaV(n m:Nat)(o:Nat->Oj)(p:Nat->Ev)(c i:Int):Core:=
 {tm:=[.any,.ptr 0 0,.sS]++rep [.any] 18++[.sh (.sl 2 n (mO o)),.sym .i64 c,.sym .i64 i]++rep [.any] 54,
  hp:=[(0,.box [.sh (.sl 2 n (mO o)),.sh (.sl 8 m (mO p))] 25)],nx:=1,lim:=L0,tc:=[]}
def Px(n m:Nat)(o:Nat->Oj)(p:Nat->Ev)(c i:Int):Core:=
 {tm:=[.any,.ptr 0 0,.sS]++rep [.any] 34++[.sh (.sl 8 m (mO p)),.sym .i64 c,.sym .i64 i]++rep [.any] 38,
  hp:=[(0,.box [.sh (.sl 2 n (mO o)),.sh (.sl 8 m (mO p))] 25)],nx:=1,lim:=L0,tc:=[]}
theorem a51(A:Prim)(W:Wd)(n m:Nat)(o:Nat->Oj)(p:Nat->Ev)(c' i':Int):nR (C5 A W BH mZ) tX 300 200 62 [.code []] (nX 78 [.agg [.sl 2 n (mO o),.sl 8 m (mO p)]] L0) [] [⟨62,Cc,aaV n m o p c' i',[]⟩]=aq (A.lt (ab 8) (A.nK n)) (ap (ar (aX 6 288))) (aq (A.lt (ab 400) (A.nK m)) (ap (ar (aX 6 288))) (ap (aH 0 [aw (aj 2 n (mO o)) (aj 2 n (mO o)),ac (A.nK n) c',ac (ab 0) i',aw (aj 2 n (mO o)) (aj 2 n (mO o)),aw (aj 8 m (mO p)) (aj 8 m (mO p))]))):=by kernel_rfl
theorem b51(A:Prim)(W:Wd)(n m:Nat)(o:Nat->Oj)(p:Nat->Ev)(c i i' d' j':Int):nR (C5 A W BH mZ) tX 300 200 62 QY (aaV n m o p c i) [] [⟨62,Cc,aaV n m o p c i',[]⟩,⟨62,aaU,Px n m o p d' j',[]⟩]=aq (A.lt i c) (al (A.inB i n) (aq (Ol (o (A.toN i)).kind (o (A.toN i)).init) (ap (aH 0 [aw (aj 2 n (mO o)) (aj 2 n (mO o)),ac c c,ac (A.add .i64 i (ab 1)) i',aw (aj 2 n (mO o)) (aj 2 n (mO o)),aw (aj 8 m (mO p)) (aj 8 m (mO p))])) (ap (ar (fj 90 (gz [av .i64 i,aX 7 288])))))) (ap (aH 1 [aw (aj 8 m (mO p)) (aj 8 m (mO p)),ac (A.nK m) d',ac (ab 0) j',aw (aj 2 n (mO o)) (aj 2 n (mO o)),aw (aj 8 m (mO p)) (aj 8 m (mO p))])):=by kernel_rfl
theorem c51(A:Prim)(W:Wd)(n m:Nat)(o:Nat->Oj)(p:Nat->Ev)(c i i':Int):nR (C5 A W BH mZ) tX 300 200 62 arH (Px n m o p c i) [] [⟨62,aaU,Px n m o p c i',[]⟩]=aq (A.lt i c) (al (A.inB i m) (al (qJ ({kind:=(p (A.toN i)).kind,tx:=(p (A.toN i)).tx,thread:=(p (A.toN i)).thread,obj:=(p (A.toN i)).obj,op:=(p (A.toN i)).op,key:=(p (A.toN i)).key,val:=(p (A.toN i)).val,ret:=(p (A.toN i)).ret}:Ev).ret) (aq (BG {kind:=(p (A.toN i)).kind,tx:=(p (A.toN i)).tx,thread:=(p (A.toN i)).thread,obj:=(p (A.toN i)).obj,op:=(p (A.toN i)).op,key:=(p (A.toN i)).key,val:=(p (A.toN i)).val,ret:=(p (A.toN i)).ret}) (aq (oz.fieldsB {kind:=(p (A.toN i)).kind,tx:=(p (A.toN i)).tx,thread:=(p (A.toN i)).thread,obj:=(p (A.toN i)).obj,op:=(p (A.toN i)).op,key:=(p (A.toN i)).key,val:=(p (A.toN i)).val,ret:=(p (A.toN i)).ret}) (aq (A.nt (A.eq (p (A.toN i)).kind (ab 2))) (ap (aH 0 [aw (aj 8 m (mO p)) (aj 8 m (mO p)),ac c c,ac (A.add .i64 i (ab 1)) i',aw (aj 2 n (mO o)) (aj 2 n (mO o)),aw (aj 8 m (mO p)) (aj 8 m (mO p))])) (aq (A.le (A.nK n) (p (A.toN i)).obj) (ap (ar (fj 90 (gz [av .i64 i,aX 7 288])))) (al (A.inB (p (A.toN i)).obj n) (aq (A.nt (A.eq (Cj (p (A.toN i)).op) (o (A.toN (p (A.toN i)).obj)).kind)) (ap (ar (fj 90 (gz [av .i64 i,aX 8 288])))) (ap (aH 0 [aw (aj 8 m (mO p)) (aj 8 m (mO p)),ac c c,ac (A.add .i64 i (ab 1)) i',aw (aj 2 n (mO o)) (aj 2 n (mO o)),aw (aj 8 m (mO p)) (aj 8 m (mO p))])))))) (ap (ar (fj 90 (gz [av .i64 i,aX 15 288]))))) (ap (ar (fj 90 (gz [av .i64 i,aX 14 288]))))))) (ap (ar (Sh.v bd))):=by kernel_rfl
end Go.oH
namespace Go.oz
open Go Go.Sx
def BI(n:Nat)(o:Nat->Oj)(e:Ev):Option Nat:=
 bif BG e then bif fieldsB e then bif e.kind==2 then bif decide ((n:Int)<=e.obj) then ae 7 else bif Cj e.op==(o e.obj.toNat).kind then ao else ae 8 else ao else ae 15 else ae 14
def MG(o:Oj):Option Nat:=bif Ol o.kind o.init then ao else ae 7
def Ar(f:Nat->Option Nat):Nat->Nat->Option (Nat×Nat)
 |_,0=>ao |k,m+1=>match f k with
  |some e=>ae (k,e) |none=>Ar f (k+1) m
def resE:Option (Nat×Nat)->Sh
 |none=>.v .nilIface |some (k,e)=>.qK 90 (.pt [.i .i64 (k:Int),.er e 288])
theorem Gv{e:Ev}(h:fieldsB e=ah)(hk:e.kind=2):0<=e.obj:=by
 have h:=of_decide_eq_true h;simp_all [BF]
end Go.oz
namespace Go.oH
open Go Go.Sx Go.oz
theorem aeY{H0:Mem}{w0:World}{n m:Nat}{o:Nat->Oj}{p:Nat->Ev}{φ:Sh->Prop}(hm:m<=400)(hi:∀k,k<m->qJ (p k).ret=ah):
  ∀rm k,k+rm=m->φ (resE (Ar (fun k=>BI n o (p k)) k rm))->mY ai (C5 mM W5 BH mZ) (K0 H0 w0) 62 aaU (Px n m o p (m:Int) k) [] emp φ
 |rm,k,hk,hφ=>by
  refine uT cG arH ?_;refine pK tX (ag7 _) 300 200 [⟨62,aaU,Px n m o p (m:Int) (k+1:Nat),[]⟩] ?_;rw[c51 mM W5 n m o p (m:Int) k (k+1:Nat)];simp only[mW,tN,ny,nN,oZ,nG,oL,rP,zi,Tree.All,yc,bm];have hstep:az.wrap ((k:Int)+1)=((k+1:Nat):Int)\/m<k:=by
   grind [pF]
  refine ⟨fun h=>?_,fun h=>?_⟩
  ·have hlt:k<m:=by simp_all
   have hw:=hstep.resolve_right (by omega);match rm,hk,hφ with
   |0,hk,_=>omega |rm+1,hk,hφ=>
    have next:BI n o (p k)=ao->mY ai (C5 mM W5 BH mZ) (K0 H0 w0) 62 aaU (Px n m o p (m:Int) (k+1:Nat)) [] emp φ:=fun hn=>aeY hm hi rm (k+1) (by omega) (by simp_all [Ar]);have bad:∀e,BI n o (p k)=ae e->φ (.qK 90 (.pt [.i .i64 (k:Int),.er e 288])):=fun e he=>by
     simp_all [Ar,resE]
    refine ⟨by simp;omega,hi k hlt,fun q1=>⟨fun q2=>⟨fun q3=>?_,fun q3=>⟨fun q4=>?_,fun q4=>⟨?_,fun q5=>?_,fun q5=>?_⟩⟩⟩,fun q2=>?_⟩,fun q1=>?_⟩
    ·refine ⟨⟨rfl,rfl,hw,rfl,rfl,trivial⟩,_,rfl,next ?_⟩
     grind [BI]
    ·simp_all [BI]
    ·simp_all [Gv]
    ·grind [Cj,BI]
    ·have k2:((p k).kind==2)=ah:=by grind
     have k3:(Cj (p k).op==(o (p k).obj.toNat).kind)=ah:=by grind
     refine ⟨⟨rfl,rfl,hw,rfl,rfl,trivial⟩,_,rfl,next ?_⟩;grind [BI]
    ·simp_all [BI]
    simp_all [BI]
  ·have:k=m:=by grind
   have:rm=0:=by omega
   subst this;exact hφ
end Go.oH
namespace Go.Pl
open Go Go.Sx Go.Proofs
open Go.oz (Ev Hr)
def F8(n:Nat)(o:Nat->Oj)(e:Ev):Int:=if Pv e≠0 then Pv e else if e.kind≠2 then 0 else if (n:Int)<=e.obj then 109 else if uO e.op=(o e.obj.toNat).kind then 0 else 111
def anp:Nat->Option (List Sh->Tree Sh)
 |67=>ae ano |87=>ae (F1I uO) |_=>ao
def F84:List Sh->Tree Sh
 |[s,.agg l]=>match qp 2 s,Go.oz.Ve l with
  |some (n,g),ae e=>.need (okB Oj n g) (.leaf (.i .i64 (F8 n (mP g) e))) |_,_=>.fail
 |_=>.fail
end Go.Pl
namespace Go.Proofs
open Go Go.Sx Go.Pl
open Go.oz (Ev Hr)
theorem as7(stop:Nat->List Nat->Bool):oD ai (C7 mM W7 anp stop):=cO (fun g F h=>by
 unfold anp at h;grind [avq,anh]) fun g h=>by
 unfold anp at h;split at h;all_goals first|(cases h;done) |kernel_rfl
theorem aql{e:Ev}(h:Pv e=0)(hk:e.kind=2):0<=e.obj:=by
 unfold Pv at h;cases h1:Go.oz.BG e<;>rw[h1] at h
 ·simp_all
 ·(cases h2:Go.oz.fieldsB e<;>rw[h2] at h)<;>simp_all [Go.oz.fieldsB,Go.oz.Gv]
theorem O84:nD ai (nJ W7) 49 F84:=by
 refine pJ (as7 mZ) 300 400 L0 Tryz.f49 fun H w nY args φ hrep hφ=>?_
 unfold F84 at hφ;split at hφ
 ·rename_i s l
  split at hφ
  ·rename_i n g e h1 h2
   obtain ⟨ho,hφ⟩:=hφ;match args,hrep with
   |[u,v],⟨hu,hv,_⟩=>
    have k (c:Int) (h:c=F8 n (mP g) e):up φ (.i .i64 c):=nP (s':=.i .i64 (F8 n (mP g) e)) (by rw[h];exact rfl) hφ;refine ⟨[.sl 2 n (mO (mP (α:=Oj) g)),.agg (Hr e)],⟨pX (nZ h1 hu) ho,Go.oz.X9 h2 hv,trivial⟩,?_⟩;clear hφ;generalize mP (α:=Oj) g=ob at *;rw[<-qc];unfold F8 at k;refine DV (nd (mM.nt (mM.eq (Pv e) 0)) (fun q=>k (Pv e) ?_) fun q1=>nd (mM.nt (mM.eq e.kind 2)) (fun q=>k 0 ?_) fun q2=>nd (mM.le (mM.nK n) e.obj) (fun q=>k 109 ?_) fun q3=>an (?_:mM.inB e.obj n=ah)
     (nd (mM.nt (mM.eq (uO e.op) (ob (mM.toN e.obj)).kind)) (fun q=>k 111 ?_) fun q=>k 0 ?_))
    all_goals simp[oL,nG,tN,ny,oZ,nN] at *
    ·simp[q]
    ·simp[q1,q]
    ·omega
    ·simp_all [aql]
    ·omega
    omega
  ·exact hφ.elim
 ·exact hφ.elim
end Go.Proofs
namespace Go.Pl
open Go Go.Sx
structure Lb7 where
 op:oO->Int->Int->Int->oO
 r:oO->Int->Int->Int->Int
 g:oO->Int->Int->Int->Int
 key:oO->List UInt8
 join:List (List UInt8)->List UInt8->List UInt8
 at_:Nat->(Nat->List Sh)->Int->oO
def Yc(a:Nat):Bool:=pq (a+1) 8
end Go.Pl
namespace Go.Proofs
open Go Go.Sx Go.Pl
noncomputable def G33(L:Lb7):List Sh->Tree Sh
 |[.agg [s0],t]=>match qp 4 s0,nO t with
  |some (n,g),ae i=>.need (stB n g) (.leaf (.mX [.agg [.i .i64 (L.at_ n g i).kind,.i .i64 (L.at_ n g i).num,.sl 1 (len (L.at_ n g i).q) (mO (nth (L.at_ n g i).q)),.sl 2 (len (L.at_ n g i).ps) (mO (nth (L.at_ n g i).ps))],.b (wM n i)])) |_,_=>.fail
 |_=>.fail
def G42(L:Lb7):List Sh->Tree Sh
 |[.agg [.i .i64 x,.i .i64 y,s2,s3],t,u,v]=>match qp 1 s2,qp 2 s3,nO t,nO u,nO v with
  |some (a,h),ae (b,l),ae op,ae k,ae v=>.need (okB Int a h) (.need (okB Pr b l) (.need (Yc a) (.node (yN x op) (.leaf (.mX [.agg [.i .i64 0,.i .i64 0,.sl 1 0 yL,.sl 2 0 noP],.i .i64 0,.i .i64 0,.er 8 288])) (.node (zC x y op k v) (.leaf (.mX [.agg [.i .i64 0,.i .i64 0,.sl 1 0 yL,.sl 2 0 noP],.i .i64 0,.i .i64 0,.er 15 288]))
    (.need (Dk op b l) (.leaf (.mX [.agg [.i .i64 (L.op (sQ x y a h b l) op k v).kind,.i .i64 (L.op (sQ x y a h b l) op k v).num,.sl 1 (len (L.op (sQ x y a h b l) op k v).q) (mO (nth (L.op (sQ x y a h b l) op k v).q)),.sl 2 (len (L.op (sQ x y a h b l) op k v).ps) (mO (nth (L.op (sQ x y a h b l) op k v).ps))],.i .i64 (L.r (sQ x y a h b l) op k v),.i .i64 (L.g (sQ x y a h b l) op k v),.v .nilIface])))))))
  |_,_,_,_,_=>.fail
 |_=>.fail
noncomputable def Yd(L:Lb7):Nat->Option (List Sh->Tree Sh)
 |84=>ae (G33 L) |85=>ae (G42 L) |86=>ae F54 |_=>ao
theorem a29(A:Prim)(W:Wd)(L:Lb7)(n:Nat)(d:Nat->oO)(i op k v:Int):nR (C7 A W (Yd L) mZ) qm 300 400 65 [.code []] (nX 52 [.agg [.sl 4 n (pY d)],.i .i64 i,.i .i64 op,.i .i64 k,.i .i64 v] L0) [] []=al (stB n (pY d)) (aq (A.nt (wM n i)) (ap (ar (aL [aN [aj 0 0 fun _=>[]],av .i64 (ab 0),av .i64 (ab 0),aX 7 288]))) (al (okB Int (len (L.at_ n (pY d) i).q) (mO (nth (L.at_ n (pY d) i).q))) (al (okB Pr (len (L.at_ n (pY d) i).ps) (mO (nth (L.at_ n (pY d) i).ps))) (al (Yc (len (L.at_ n (pY d) i).q)) (aq (yN (L.at_ n (pY d) i).kind op) (ap (ar (aL [aN [aj 0 0 fun _=>[]],av .i64 (ab 0),av .i64 (ab 0),aX 8 288]))) (aq (zC (L.at_ n (pY d) i).kind (L.at_ n (pY d) i).num op k v) (ap (ar (aL [aN [aj 0 0 fun _=>[]],av .i64 (ab 0),av .i64 (ab 0),aX 15 288]))) (al (Dk op (len (L.at_ n (pY d) i).ps) (mO (nth (L.at_ n (pY d) i).ps))) (al (pq n 64) (al (stB n (pY d)) (ap (ar (aL [aN [aj 4 n (Ce n (pY d) i [av .i64 (L.op (sQ (L.at_ n (pY d) i).kind (L.at_ n (pY d) i).num (len (L.at_ n (pY d) i).q) (mO (nth (L.at_ n (pY d) i).q)) (len (L.at_ n (pY d) i).ps) (mO (nth (L.at_ n (pY d) i).ps))) op k v).kind,av .i64 (L.op (sQ (L.at_ n (pY d) i).kind (L.at_ n (pY d) i).num (len (L.at_ n (pY d) i).q) (mO (nth (L.at_ n (pY d) i).q)) (len (L.at_ n (pY d) i).ps) (mO (nth (L.at_ n (pY d) i).ps))) op k v).num,aj 1 (len (L.op (sQ (L.at_ n (pY d) i).kind (L.at_ n (pY d) i).num (len (L.at_ n (pY d) i).q) (mO (nth (L.at_ n (pY d) i).q)) (len (L.at_ n (pY d) i).ps) (mO (nth (L.at_ n (pY d) i).ps))) op k v).q) (mO (nth (L.op (sQ (L.at_ n (pY d) i).kind (L.at_ n (pY d) i).num (len (L.at_ n (pY d) i).q) (mO (nth (L.at_ n (pY d) i).q)) (len (L.at_ n (pY d) i).ps) (mO (nth (L.at_ n (pY d) i).ps))) op k v).q)),aj 2 (len (L.op (sQ (L.at_ n (pY d) i).kind (L.at_ n (pY d) i).num (len (L.at_ n (pY d) i).q) (mO (nth (L.at_ n (pY d) i).q)) (len (L.at_ n (pY d) i).ps) (mO (nth (L.at_ n (pY d) i).ps))) op k v).ps) (mO (nth (L.op (sQ (L.at_ n (pY d) i).kind (L.at_ n (pY d) i).num (len (L.at_ n (pY d) i).q) (mO (nth (L.at_ n (pY d) i).q)) (len (L.at_ n (pY d) i).ps) (mO (nth (L.at_ n (pY d) i).ps))) op k v).ps))])],av .i64 (L.r (sQ (L.at_ n (pY d) i).kind (L.at_ n (pY d) i).num (len (L.at_ n (pY d) i).q) (mO (nth (L.at_ n (pY d) i).q)) (len (L.at_ n (pY d) i).ps) (mO (nth (L.at_ n (pY d) i).ps))) op k v),av .i64 (L.g (sQ (L.at_ n (pY d) i).kind (L.at_ n (pY d) i).num (len (L.at_ n (pY d) i).q) (mO (nth (L.at_ n (pY d) i).q)) (len (L.at_ n (pY d) i).ps) (mO (nth (L.at_ n (pY d) i).ps))) op k v),Sh.v bd])))))))))))):=by kernel_rfl
end Go.Proofs
namespace Go.Pl
open Go Go.Sx Go.Proofs
noncomputable def L7:Lb7 where
 op s o k v:=(sG s o k v).1
 r s o k v:=(sG s o k v).2.1
 g s o k v:=(sG s o k v).2.2
 key:=keyS
 join:=rJ
 at_ n g i:=atT n (tH n g) i
end Go.Pl
namespace Go.Proofs
open Go Go.Sx Go.Pl
theorem avu:nD ai (nJ W7) 84 (G33 L7):=O33
theorem avv:nD ai (nJ W7) 85 (G42 L7):=O42
theorem OEs:∀g F,Yd L7 g=ae F->nD ai (nJ W7) g F:=fun g F h=>by
 unfold Yd at h;grind [avu,avv,O54]
theorem avw(stop:Nat->List Nat->Bool):oD ai (C7 mM W7 (Yd L7) stop):=cO OEs fun g h=>by
 unfold Yd at h;split at h;all_goals first|(cases h;done) |kernel_rfl
noncomputable def F29:List Sh->Tree Sh
 |[.agg [s0],t,u,v,w]=>match qp 4 s0,nO t,nO u,nO v,nO w with
  |some (n,g),ae i,ae op,ae k,ae v=>.need (stB n g) (.need (pq n 64) (.node (wM n i) (.need (Yc (tH n g i.toNat).q.length) (.node (yN (tH n g i.toNat).kind op) (.leaf (.mX [.agg [.sl 4 0 noT],.i .i64 0,.i .i64 0,.er 8 288])) (.node (zC (tH n g i.toNat).kind (tH n g i.toNat).num op k v) (.leaf (.mX [.agg [.sl 4 0 noT],.i .i64 0,.i .i64 0,.er 15 288]))
    (.need (Dk op (len (tH n g i.toNat).ps) (mO (nth (tH n g i.toNat).ps))) (.leaf (.mX [.agg [.sl 4 n (Ce n g i (qO (sG (tH n g i.toNat) op k v).1))],.i .i64 (sG (tH n g i.toNat) op k v).2.1,.i .i64 (sG (tH n g i.toNat) op k v).2.2,.v .nilIface]))))))
   (.leaf (.mX [.agg [.sl 4 0 noT],.i .i64 0,.i .i64 0,.er 7 288]))))
  |_,_,_,_,_=>.fail
 |_=>.fail
theorem O29:nD ai (nJ W7) 65 F29:=by
 refine pJ (avw mZ) 300 400 L0 Tryz.f65 fun H w nY args φ hrep h=>?_
 have hn:Tryz.f65.ntmps=52:=by kernel_rfl
 unfold F29 at h;split at h
 ·rename_i s0 t u v ww
  split at h
  ·rename_i n g i op k vv hs ht hu hv hw
   obtain ⟨h1,h2,hin,hout⟩:=h;have hout:wM n i=ag->φ (.mX [.agg [.sl 4 0 noT],.i .i64 0,.i .i64 0,.er 7 288]):=hout;match args,hrep with
   |[v0,v1,v2,v3,v4],⟨r0,r1,r2,r3,r4,_⟩=>
    refine ⟨[.agg [.sl 4 n (pY (tH n g))],.i .i64 i,.i .i64 op,.i .i64 k,.i .i64 vv],⟨EO r0 fun u hu=>qN (nZ hs hu) (Jz h1),rO ht r1,rO hu r2,rO hv r3,rO hw r4,trivial⟩,?_⟩;have hrow:=Jz h1;have her (T:Nat) (g0:Nat) (hp:φ (.mX [.agg [.sl 4 0 noT],.i .i64 0,.i .i64 0,.er g0 288])):up φ (.mX [.agg [.sl 0 0 fun _=>[]],.i .i64 (ab 0),.i .i64 (ab 0),.er g0 288]):=
     nP (s':=.mX [.agg [.sl 4 0 noT],.i .i64 0,.i .i64 0,.er g0 288]) ⟨⟨.inl ⟨rfl,rfl⟩,trivial⟩,rfl,rfl,rfl,trivial⟩ hp
    rw[hn,a29 mM W7 L7 n (tH n g) i op k vv];have e1:L7.at_ n (pY (tH n g)) i=atT n (tH n (pY (tH n g))) i:=rfl;rw[e1];refine ⟨XW n _,fun e=>her 0 7 (hout (by grind [oL])),fun e=>?_⟩;have e:wM n i=ah:=by grind [oL]
    obtain ⟨q1,q3,q4⟩:=hin e;have hlt:i.toNat<n:=by simp_all [wM]
    have e2:atT n (tH n (pY (tH n g))) i=tH n g i.toNat:=by simp_all [atT,amH]
    rw[e2,ag3];have q4:yN (tH n g i.toNat).kind op=ag->(zC (tH n g i.toNat).kind (tH n g i.toNat).num op k vv=ah->φ (.mX [.agg [.sl 4 0 noT],.i .i64 0,.i .i64 0,.er 15 288]))/\(zC (tH n g i.toNat).kind (tH n g i.toNat).num op k vv=ag->Dk op (len (tH n g i.toNat).ps) (mO (nth (tH n g i.toNat).ps))=ah/\φ (.mX [.agg [.sl 4 n (Ce n g i (qO (sG (tH n g i.toNat) op k vv).1))],.i .i64 (sG (tH n g i.toNat) op k vv).2.1,.i .i64 (sG (tH n g i.toNat) op k vv).2.2,.v .nilIface])):=q4;refine ⟨o9 _ _,o9 _ _,q1,fun e=>her 0 8 (q3 e),fun e=>⟨fun e'=>her 0 15 ((q4 e).1 e'),fun e'=>⟨((q4 e).2 e').1,h2,XW n _,nP (s':=.mX [.agg [.sl 4 n (Ce n g i (qO (sG (tH n g i.toNat) op k vv).1))],.i .i64 (sG (tH n g i.toNat) op k vv).2.1,.i .i64 (sG (tH n g i.toNat) op k vv).2.2,.v .nilIface]) ⟨⟨.inr ⟨rfl,rfl,fun j hj=>?_⟩,trivial⟩,rfl,rfl,rfl,trivial⟩ ((q4 e).2 e').2⟩⟩⟩;unfold Ce;split
    ·rfl
    simp_all
  ·exact h.elim
 ·exact h.elim
end Go.Proofs
namespace Go.Pl
open Go Go.Sx
structure pO where
 id:Int
 th:Int
 st:Int
 bg:Int
 en:Int
 tr:Int
 k:Nat
 g:Nat->List Sh
instance:Inhabited pO:=⟨⟨0,0,0,0,0,0,0,fun _=>[]⟩⟩
instance:Row pO where
 put t:=[.i .i64 t.id,.i .i64 t.th,.i .i64 t.st,.i .i64 t.bg,.i .i64 t.en,.i .i64 t.tr,.sl 8 t.k t.g]
 get l:=match l with
  |[.i .i64 a,.i .i64 b,.i .i64 c,.i .i64 d,.i .i64 e,.i .i64 f,.sl 8 k g]=>ae ⟨a,b,c,d,e,f,k,g⟩ |_=>ao
 qQ l a h:=by
  grind
 get_put a:=rfl
 Ad:=default
structure Dd where
 obj:Int
 op:Int
 key:Int
 val:Int
 ret:Int
 got:Int
 at_:Int
 back:Int
 deriving DecidableEq,Inhabited
instance:Row Dd where
 put d:=[.i .i64 d.obj,.i .i64 d.op,.i .i64 d.key,.i .i64 d.val,.i .i64 d.ret,.i .i64 d.got,.i .i64 d.at_,.i .i64 d.back]
 get l:=match l with
  |[.i .i64 a,.i .i64 b,.i .i64 c,.i .i64 d,.i .i64 e,.i .i64 f,.i .i64 g,.i .i64 h]=>ae ⟨a,b,c,d,e,f,g,h⟩ |_=>ao
 qQ l a h:=by
  grind
 get_put a:=rfl
 Ad:=default
structure Py where
 placed:Int
 n:Nat
 g:Nat->List Sh
instance:Inhabited Py:=⟨⟨0,0,fun _=>[]⟩⟩
instance:Row Py where
 put x:=[.i .i64 x.placed,.sl 4 x.n x.g]
 get l:=match l with
  |[.i .i64 a,.sl 4 n g]=>ae ⟨a,n,g⟩ |_=>ao
 qQ l a h:=by
  grind
 get_put a:=rfl
 Ad:=default
structure Bc where
 tx:Int
 com:Bool
 placed:Int
 n:Nat
 g:Nat->List Sh
instance:Inhabited Bc:=⟨⟨0,ag,0,0,fun _=>[]⟩⟩
instance:Row Bc where
 put x:=[.i .i64 x.tx,.b x.com,.i .i64 x.placed,.sl 4 x.n x.g]
 get l:=match l with
  |[.i .i64 t,.b c,.i .i64 a,.sl 4 n g]=>ae ⟨t,c,a,n,g⟩ |_=>ao
 qQ l a h:=by
  grind
 get_put a:=rfl
 Ad:=default
def EH(n:Nat)(d:Nat->oO)(i op k v:Int):Bool:=wM n i && !yN (d i.toNat).kind op && !zC (d i.toNat).kind (d i.toNat).num op k v
def erN(n:Nat)(d:Nat->oO)(i op k v:Int):Nat:=if wM n i=ah then (if yN (d i.toNat).kind op=ah then 8 else 15) else 7
def Ye(n:Nat)(d:Nat->oO)(i op:Int):Bool:=!wM n i||(Go.Pl.Yc (d i.toNat).q.length&&Dk op (len (d i.toNat).ps) (mO (nth (d i.toNat).ps)))
noncomputable def Ri(n:Nat)(g:Nat->List Sh)(i op k v:Int):Bool:=EH n (tH n g) i op k v
noncomputable def aaW(n:Nat)(g:Nat->List Sh)(i op:Int):Bool:=stB n g&&(pq n 64&&Ye n (tH n g) i op)
noncomputable def erG(n:Nat)(g:Nat->List Sh)(i op k v:Int):Nat:=erN n (tH n g) i op k v
noncomputable def Yf(n:Nat)(g:Nat->List Sh)(i op k v:Int):Nat->List Sh:=Ce n g i (qO (sG (tH n g i.toNat) op k v).1)
noncomputable def aeZ(n:Nat)(g:Nat->List Sh)(i op k v:Int):Int:=(sG (tH n g i.toNat) op k v).2.1
noncomputable def ae0(n:Nat)(g:Nat->List Sh)(i op k v:Int):Int:=(sG (tH n g i.toNat) op k v).2.2
end Go.Pl
namespace Go.Proofs
open Go Go.Sx Go.Pl
noncomputable def D29:List Sh->Tree Sh
 |[.agg [s0],t,u,v,w]=>match qp 4 s0,nO t,nO u,nO v,nO w with
  |some (n,g),ae i,ae op,ae k,ae v=>.need (aaW n g i op) (.node (Ri n g i op k v)
   (.leaf (.mX [.agg [.sl 4 n (Yf n g i op k v)],.i .i64 (aeZ n g i op k v),.i .i64 (ae0 n g i op k v),.v .nilIface]))
   (.leaf (.mX [.agg [.sl 4 0 noT],.i .i64 0,.i .i64 0,.er (erG n g i op k v) 288])))
  |_,_,_,_,_=>.fail
 |_=>.fail
noncomputable def JG:Nat->Option (List Sh->Tree Sh)
 |65=>ae D29 |_=>ao
def Vf:List It:=[aA [0,1,0,1],aM 0,aA [1,1]]
def ant:List It:=aA [0,0,1,0,1]::Vf
def Vg(n:Nat)(g:Nat->List Sh)(m:Nat)(dd:Nat->Dd)(i:Int):Core:={tm:=sK 54 [(2,.ptr 0 0),(4,.ptr 1 0),(12,.sh (.sl 8 m (mO dd))),(13,.sym .i64 (m:Int)),(14,.sym .i64 i)],hp:=[(0,.box [.sh (.sl 4 n g)] 81),(1,.box [.nS] 81)],nx:=2,lim:=L0,tc:=[]}
theorem anu(A:Prim)(W:Wd)(n:Nat)(g:Nat->List Sh)(m:Nat)(dd:Nat->Dd)(i':Int){ψ:pI->Prop}(y1:ψ (aH 0 [aw (aj 8 m (mO dd)) (aj 8 m (mO dd)),ac (A.nK m) (ab m),ac (ab 0) i',aw (aj 4 n g) (aj 4 n g)])):oP ψ (nR (C7 A W JG mZ) qm 300 400 47 [.code []] (nX 54 [.agg [.sl 4 n g],.sl 8 m (mO dd)] L0) [] [⟨47,Vf,Vg n g m dd i',[]⟩]):=by
 exact wH y1
theorem Yg(A:Prim)(W:Wd)(n:Nat)(g g':Nat->List Sh)(m:Nat)(dd:Nat->Dd)(i i':Int){ψ:pI->Prop}{c0 c1 c2 c3 c4:Bool}(e0:A.lt i (ab m)=c0)(e1:A.eq (dd (A.toN i)).ret (ab 0)=c1)(e2:Ri n g (dd (A.toN i)).obj (dd (A.toN i)).op (dd (A.toN i)).key (dd (A.toN i)).val=c2)(e3:A.nt (A.eq (aeZ n g (dd (A.toN i)).obj (dd (A.toN i)).op (dd (A.toN i)).key (dd (A.toN i)).val) (dd (A.toN i)).ret)=c3)(e4:A.nt (A.eq (ae0 n g (dd (A.toN i)).obj (dd (A.toN i)).op (dd (A.toN i)).key (dd (A.toN i)).val) (dd (A.toN i)).got)=c4)(h1:c0=ah->(A.inB i m)=ah)(h2:c0=ah->c1=ag->(aaW n g (dd (A.toN i)).obj (dd (A.toN i)).op)=ah)(y1:c0=ah->c1=ah->ψ (aH 0 [aw (aj 8 m (mO dd)) (aj 8 m (mO dd)),ac (ab m) (ab m),ac (A.add .i64 i (ab 1)) i',aw (aj 4 n g) (aj 4 n g')]))(y2:c0=ah->c1=ag->c2=ah->c3=ah->ψ (ar (aL [aN [aj 0 0 fun _=>[]],fj 90 (gz [av .i64 i,aX 9 288])])))(y3:c0=ah->c1=ag->c2=ah->c3=ag->c4=ah->ψ (ar (aL [aN [aj 0 0 fun _=>[]],fj 90 (gz [av .i64 i,aX 9 288])])))(y4:c0=ah->c1=ag->c2=ah->c3=ag->c4=ag->ψ (aH 0 [aw (aj 8 m (mO dd)) (aj 8 m (mO dd)),ac (ab m) (ab m),ac (A.add .i64 i (ab 1)) i',aw (aj 4 n (Yf n g (dd (A.toN i)).obj (dd (A.toN i)).op (dd (A.toN i)).key (dd (A.toN i)).val)) (aj 4 n g')]))(y5:c0=ah->c1=ag->c2=ag->ψ (ar (aL [aN [aj 0 0 fun _=>[]],fj 90 (gz [av .i64 i,aX (erG n g (dd (A.toN i)).obj (dd (A.toN i)).op (dd (A.toN i)).key (dd (A.toN i)).val) 288])])))(y6:c0=ag->ψ (ar (aL [aN [aj 4 n g],Sh.v bd]))):oP ψ (nR (C7 A W JG mZ) qm 300 400 47 ant (Vg n g m dd i) [] [⟨47,Vf,Vg n g' m dd i',[]⟩]):=by
 subst e0 e1 e2 e3 e4;exact wH (an (fun q0=>an (h1 q0) (an (y1 q0) (fun q1=>an (h2 q0 q1) (an (fun q2=>an (y2 q0 q1 q2) (fun q3=>an (y3 q0 q1 q2 q3) (y4 q0 q1 q2 q3))) (y5 q0 q1))))) y6)
end Go.Proofs
namespace Go.Pl
open Go Go.Sx Go.Proofs
noncomputable def zf(n:Nat):(Nat->List Sh)->Nat->List Dd->(Nat×Nat) ⊕ (Nat->List Sh)
 |g,_,[]=>.inr g |g,i,d::l=>if d.ret=0 then zf n g (i+1) l else if Ri n g d.obj d.op d.key d.val=ah then
   (if aeZ n g d.obj d.op d.key d.val=d.ret/\ae0 n g d.obj d.op d.key d.val=d.got then zf n (Yf n g d.obj d.op d.key d.val) (i+1) l else .inl (i,9)) else .inl (i,erG n g d.obj d.op d.key d.val)
noncomputable def Om(n:Nat):(Nat->List Sh)->List Dd->Prop
 |_,[]=>True |g,d::l=>if d.ret=0 then Om n g l else aaW n g d.obj d.op=ah/\(Ri n g d.obj d.op d.key d.val=ah->Om n (Yf n g d.obj d.op d.key d.val) l)
end Go.Pl
namespace Go.Proofs
open Go Go.Sx Go.Pl
noncomputable def anv(φ:Sh->Prop)(n:Nat):(Nat×Nat) ⊕ (Nat->List Sh)->Prop
 | .inr g=>φ (.mX [.agg [.sl 4 n g],.v .nilIface]) | .inl (i,e)=>φ (.mX [.agg [.sl 4 0 noT],.qK 90 (.pt [.i .i64 (i:Nat),.er e 288])])
theorem acz(OD:nD ai (nJ W7) 65 D29)(stop:Nat->List Nat->Bool):oD ai (C7 mM W7 JG stop):=cO (fun g F h=>by
 grind [JG]) fun g h=>by
 unfold JG at h;split at h;all_goals first|(cases h;done) |kernel_rfl
section
variable{H0:Mem}{w0:World}{φ:Sh->Prop}{n m:Nat}{dd:Nat->Dd}
theorem acA(OD:nD ai (nJ W7) 65 D29)(hm:m<=100000):∀r i g,i+r=m->Om n g ((aD r).map fun j=>dd (i+j))->anv φ n (zf n g i ((aD r).map fun j=>dd (i+j)))->
  mY ai (C7 mM W7 JG mZ) (K0 H0 w0) 47 Vf (Vg n g m dd (i:Nat)) [] emp (up φ)
 |0,i,g,hi,hf,hφ=>by
  refine uT ip ant ?_;refine qg (acz OD _) 300 400 [⟨47,Vf,Vg n g m dd 0,[]⟩] ?_;have lt {P:Prop} (h:mM.lt (i:Int) (ab m)=ah):P:=by simp_all [mW]
  have hφ:φ (.mX [.agg [.sl 4 n g],.v .nilIface]):=hφ;exact Yg mM W7 n g g m dd i 0 rfl rfl rfl rfl rfl (fun q=>lt q) (fun q=>lt q) (fun q=>lt q) (fun q=>lt q) (fun q=>lt q) (fun q=>lt q) (fun q=>lt q) (fun _=>nP (s':=.mX [.agg [.sl 4 n g],.v .nilIface]) ⟨⟨anc,trivial⟩,rfl,trivial⟩ hφ)
 |r+1,i,g,hi,hf,hφ=>by
  refine uT ip ant ?_;have w1:mM.add .i64 (i:Int) (ab 1)=((i+1:Nat):Int):=add1 (by omega);have no {P:Prop} (h:mM.lt (i:Int) (ab m)=ag):P:=by grind [mW]
  have inb (h:mM.lt (i:Int) (ab m)=ah):mM.inB (i:Int) m=ah:=by simp[nN];omega
  have el:(aD (r+1)).map (fun j=>dd (i+j))=dd i::(aD r).map fun j=>dd (i+1+j):=by
   rw[List.range_succ_eq_map,List.map_cons,List.map_map];congr 1;grind [dU]
  rw[el] at hf hφ;have bad (e:Nat) (h:φ (.mX [.agg [.sl 4 0 noT],.qK 90 (.pt [.i .i64 (i:Nat),.er e 288])])):up φ (.mX [.agg [.sl 0 0 fun _=>[]],.qK 90 (.pt [.i .i64 (i:Nat),.er e 288])]):=
   nP (s':=.mX [.agg [.sl 4 0 noT],.qK 90 (.pt [.i .i64 (i:Nat),.er e 288])]) ⟨⟨.inl ⟨rfl,rfl⟩,trivial⟩,rfl,trivial⟩ h
  by_cases h0:(dd i).ret=0
  ·have hf:Om n g ((aD r).map fun j=>dd (i+1+j)):=by simp_all [Om]
   have hφ:anv φ n (zf n g (i+1) ((aD r).map fun j=>dd (i+1+j))):=by simp_all [zf]
   have nx:=acA OD hm r (i+1) g (by omega) hf hφ;refine qg (acz OD _) 300 400 [⟨47,Vf,Vg n g m dd ((i+1:Nat):Int),[]⟩] ?_;have c1 {P:Prop} (h:mM.eq (dd i).ret (ab 0)=ag):P:=by simp_all [nG]
   exact Yg mM W7 n g g m dd i _ rfl rfl rfl rfl rfl inb (fun _ q=>c1 q) (fun _ _=>⟨⟨rfl,rfl,w1,rfl,trivial⟩,_,rfl,nx⟩) (fun _ q=>c1 q) (fun _ q=>c1 q) (fun _ q=>c1 q) (fun _ q=>c1 q) (fun q=>no q)
  ·have c1 {P:Prop} (h:mM.eq (dd i).ret (ab 0)=ah):P:=(h0 (by grind [nG])).elim
   unfold Om at hf;rw[if_neg h0] at hf;unfold zf at hφ;rw[if_neg h0] at hφ;refine qg (acz OD _) 300 400 [⟨47,Vf,Vg n (Yf n g (dd i).obj (dd i).op (dd i).key (dd i).val) m dd ((i+1:Nat):Int),[]⟩] ?_;have nte {a b:Int} (h:mM.nt (mM.eq a b)=ah):a≠b:=by grind [oL,nG]
   have nfe {a b:Int} (h:mM.nt (mM.eq a b)=ag):a=b:=by grind [oL,nG]
   refine Yg mM W7 n g _ m dd i _ rfl rfl rfl rfl rfl inb (fun _ _=>hf.1) (fun _ q=>c1 q) ?_ ?_ ?_ ?_ (fun q=>no q)
   ·intro _ _ q2 q3
    have q2:Ri n g (dd i).obj (dd i).op (dd i).key (dd i).val=ah:=q2;rw[if_pos q2,if_neg fun e=>nte q3 e.1] at hφ
    exact bad 9 hφ
   ·intro _ _ q2 _ q4
    have q2:Ri n g (dd i).obj (dd i).op (dd i).key (dd i).val=ah:=q2;rw[if_pos q2,if_neg fun e=>nte q4 e.2] at hφ
    exact bad 9 hφ
   ·intro _ _ q2 q3 q4
    have q2:Ri n g (dd i).obj (dd i).op (dd i).key (dd i).val=ah:=q2;rw[if_pos q2,if_pos ⟨nfe q3,nfe q4⟩] at hφ;exact ⟨⟨rfl,rfl,w1,rfl,trivial⟩,_,rfl,acA OD hm r (i+1) _ (by omega) (hf.2 q2) hφ⟩
   ·intro _ _ q2
    have q2:Ri n g (dd i).obj (dd i).op (dd i).key (dd i).val=ag:=q2;rw[if_neg (by rw[q2];simp)] at hφ;exact bad _ hφ
end
open Go Go.Sx Go.Pl
theorem arI:nD ai (nJ W7) 65 D29:=O29.mono fun H nY args φ hr h=>by
 unfold D29 at h;split at h
 ·split at h
  ·rename_i n g i op k v e0 e1 e2 e3 e4
   obtain ⟨h1,h2,h3⟩:=h;unfold aaW at h1;rw[ak,ak] at h1;obtain ⟨a1,a2,a3⟩:=h1;unfold F29;simp only[e0,e1,e2,e3,e4];have no (e:Nat) (q:Ri n g i op k v=ag) (q2:erG n g i op k v=e):φ (.mX [.agg [.sl 4 0 noT],.i .i64 0,.i .i64 0,.er e 288]):=by
    have:=h3 q;rw[q2] at this;exact this
   refine ⟨a1,a2,fun q=>?_,fun q=>no 7 ?_ ?_⟩
   ·have b3:Yc (tH n g i.toNat).q.length=ah/\Dk op (len (tH n g i.toNat).ps) (mO (nth (tH n g i.toNat).ps))=ah:=by
     simp_all [Ye]
    (refine ⟨b3.1,fun b=>no 8 ?_ ?_,fun b=>⟨fun c=>no 15 ?_ ?_,fun c=>⟨b3.2,h2 ?_⟩⟩⟩)<;>simp_all [Ri,EH,erG,erN]
   ·simp_all [Ri,EH]
   simp_all [erG,erN]
  ·exact h.elim
 ·exact h.elim
noncomputable def aiS(n:Nat)(g:Nat->List Sh)(l:List Dd):Bool:=@decide (Om n g l) (ay _)
noncomputable def Yh(n:Nat)(g:Nat->List Sh)(l:List Dd):Bool:=match zf n g 0 l with
 | .inr _=>ah | .inl _=>ag
noncomputable def Yi(n:Nat)(g:Nat->List Sh)(l:List Dd):Nat->List Sh:=match zf n g 0 l with
 | .inr g=>g | .inl _=>noT
noncomputable def ag8(n:Nat)(g:Nat->List Sh)(l:List Dd):Nat:=match zf n g 0 l with
 | .inr _=>0 | .inl (i,_)=>i
noncomputable def ag9(n:Nat)(g:Nat->List Sh)(l:List Dd):Nat:=match zf n g 0 l with
 | .inr _=>0 | .inl (_,e)=>e
noncomputable def F76:List Sh->Tree Sh
 |[.agg [s0],s1]=>match qp 4 s0,qp 8 s1 with
  |some (n,g),ae (m,h)=>.need (okB Dd m h) (.need (decide (m<=100000)) (.need (aiS n g (lst Dd m h)) (.node (Yh n g (lst Dd m h))
   (.leaf (.mX [.agg [.sl 4 n (Yi n g (lst Dd m h))],.v .nilIface]))
   (.leaf (.mX [.agg [.sl 4 0 noT],.qK 90 (.pt [.i .i64 (ag8 n g (lst Dd m h)),.er (ag9 n g (lst Dd m h)) 288])])))))
  |_,_=>.fail
 |_=>.fail
theorem O76:nD ai (nJ W7) 47 F76:=by
 refine rC (C7 mM W7 JG mZ) ip fun H w nY args φ hrep h=>?_
 have hn:ip.ntmps=54:=by kernel_rfl
 unfold F76 at h;split at h
 ·rename_i s0 s1
  split at h
  ·rename_i n g m hh e0 e1
   obtain ⟨h1,h2,h3,h4,h5⟩:=h;have h2:=of_decide_eq_true h2;have h3:Om n g (lst Dd m hh):=@of_decide_eq_true _ (ay _) h3;match args,hrep with
   |[v,u],⟨rv,ru,_⟩=>
    have rv':Rep H (.agg [.sl 4 n g]) v:=by
     cases rv with
     |agg _ vs hl hr=>
      refine .agg _ _ hl fun j s' v' q1 q2=>?_
      grind [nZ]
    refine ⟨[.agg [.sl 4 n g],.sl 8 m (mO (mP (α:=Dd) hh))],⟨rv',pX (nZ e1 ru) h1,trivial⟩,L0,?_⟩;have hres:anv φ n (zf n g 0 (lst Dd m hh)):=by
     unfold Yh Yi ag8 ag9 at *;cases hp:zf n g 0 (lst Dd m hh) with
     |inr g'=>rw[hp] at h4;exact h4 rfl |inl q=>
      obtain ⟨i,e⟩:=q;rw[hp] at h5;exact h5 rfl
    have el:lst Dd m hh=(aD m).map fun j=>mP (α:=Dd) hh (0+j):=by
     simp_all [lst,Nat.zero_add]
    rw[el] at h3 hres;refine qg (acz arI _) 300 400 [⟨47,Vf,Vg n g m (mP (α:=Dd) hh) ((0:Nat):Int),[]⟩] ?_;rw[hn];exact anu mM W7 n g m (mP (α:=Dd) hh) _ ⟨⟨rfl,rfl,rfl,rfl,trivial⟩,_,rfl,acA arI h2 m 0 g (by omega) h3 hres⟩
  ·exact h.elim
 ·exact h.elim
end Go.Proofs
namespace Go.Pl
open Go Go.Sx Go.Proofs
open Go.oz (Ev Hr)
def Dl(o:Oj):Int:=bif rV o.kind o.init then 109 else 0
def zF(f:Nat->Int):Nat->Nat->Int×Nat
 |_,0=>(0,0) |k,r+1=>if f k=0 then zF f (k+1) r else (f k,k)
def BJ(n:Nat)(o:Nat->Oj)(m:Nat)(p:Nat->Ev):Int×Nat:=
 if 8<n\/400<m then (105,0) else if (zF (fun i=>Dl (o i)) 0 n).1=0 then zF (fun i=>F8 n o (p i)) 0 m else zF (fun i=>Dl (o i)) 0 n
def Ef(c:Int×Nat):Sh:=.agg [.i .i64 c.1,.sl 1 (if c.1=0\/c.1=105 then 0 else 1) fun _=>[.i .i64 (c.2:Int)]]
def F83:List Sh->Tree Sh
 |[.agg [s,t]]=>match nO s,nO t with
  |some k,ae i=>.leaf (.i .i64 (Dl ⟨k,i⟩)) |_,_=>.fail
 |_=>.fail
def Oo:Nat->Option (List Sh->Tree Sh)
 |48=>ae F83 |49=>ae F84 |_=>ao
def F57:List Sh->Tree Sh
 |[.agg [s,t]]=>match qp 2 s,qp 8 t with
  |some (n,g),ae (m,h)=>.need (okB Oj n g) (.need (Go.oz.okB Ev m h) (.leaf (Ef (BJ n (mP g) m (Go.oz.mP h))))) |_,_=>.fail
 |_=>.fail
end Go.Pl
namespace Go.Proofs
open Go Go.Sx Go.Pl
open Go.oz (Ev Hr)
def aaX:List It:=[aA [0,1,0,1,1],aM 0,aA [1,1,1]]
def avz:List It:=aA [0,0,1,0,1,1]::aaX
def TV:List It:=[aA [0,1,0,1,1,1],aM 2,aA [1,1,1,1]]
def atc:List It:=aA [0,0,1,0,1,1,1]::TV
def ae1(n m:Nat)(g h:Nat->List Sh)(i:Int):Core:={tm:=sK 57 [(1,.ptr 0 0),(2,.ptr 1 0),(3,.sym .i64 i)],hp:=[(0,.box [.sh (.sl 2 n g),.sh (.sl 8 m h)] 25),(1,.box [.int .i64 0,.nS] 34)],nx:=2,lim:=L0,tc:=[]}
def Yj(n m:Nat)(g h:Nat->List Sh)(i:Int):Core:={tm:=sK 57 [(1,.ptr 0 0),(2,.ptr 1 0),(5,.sym .i64 i)],hp:=[(0,.box [.sh (.sl 2 n g),.sh (.sl 8 m h)] 25),(1,.box [.int .i64 0,.nS] 34)],nx:=2,lim:=L0,tc:=[]}
theorem O83:nD ai (nJ W7) 48 F83:=by
 refine pJ (vk mZ) 300 400 L0 Tryz.f48 fun H w nY args φ hrep hφ=>?_
 unfold F83 at hφ;split at hφ
 ·split at hφ
  ·rename_i s t k i h1 h2
   match args,hrep with
   |[v],⟨hv,_⟩=>
    refine ⟨[.agg [.i .i64 k,.i .i64 i]],⟨EP hv (fun _ r=>rO h1 r) (fun _ r=>rO h2 r),trivial⟩,?_⟩;rw[<-qc];refine ane (bif decide (k<1) then 109 else bif decide (4<k) then 109 else bif decide (i < -1000000000) then 109 else bif decide (1000000000<i) then 109 else bif decide (2<k) then bif !(i==0) then 109 else 0 else 0) (nP (s':=.i .i64 (Dl ⟨k,i⟩)) ?_ hφ);show av .i64 _=_;congr 1;have e:rV k i=(decide (k<1)||decide (4<k)||decide (i < -1000000000)||decide (1000000000<i)||(decide (2<k) && !(i==0))):=by
     unfold rV;rw[ka];simp;omega
    grind [Dl,decide]
  ·exact hφ.elim
 ·exact hφ.elim
theorem aha(stop:Nat->List Nat->Bool):oD ai (C7 mM W7 Oo stop):=cO (fun g F h=>by
 unfold Oo at h;grind [O83,O84]) fun g h=>by
 unfold Oo at h;split at h;all_goals first|(cases h;done) |kernel_rfl
theorem atd{φ:Sh->Prop}{j:Nat}(h:φ (Ef (0,j))):up φ (.agg [.i .i64 0,.sl 0 0 fun _=>[]]):=nP (s':=Ef (0,j)) ⟨rfl,.inl ⟨rfl,rfl⟩,trivial⟩ h
theorem aiT{φ:Sh->Prop}{c:Int}{k:Nat}(h0:c≠0)(h1:c≠105)(h:φ (Ef (c,k))):up φ (.agg [.i .i64 c,.os 3 1 1 (nM [[.i .i64 (k:Int)]])]):=by
 unfold Ef at h;rw[if_neg (by simp[h0,h1])] at h;exact nP (s':=.agg [.i .i64 c,.sl 1 1 fun _=>[.i .i64 (k:Int)]]) ⟨rfl,.inr ⟨rfl,rfl,fun i hi=>by
  obtain rfl:i=0:=by omega
  rfl⟩,trivial⟩ h
theorem aqn(e:Ev):Pv e≠105:=by grind [Pv,Go.oz.BG,Go.oz.fieldsB]
theorem aqo(n:Nat)(o:Nat->Oj)(e:Ev):F8 n o e≠105:=by
 grind [aqn,F8]
theorem aqp(o:Oj):Dl o≠105:=by grind [Dl,rV]
section
variable{H0:Mem}{w0:World}{φ:Sh->Prop}{n m:Nat}{o:Nat->Oj}{p:Nat->Ev}
theorem ae2(hm:m<=400):∀r k,k+r=m->φ (Ef (zF (fun i=>F8 n o (p i)) k r))->mY ai (C7 mM W7 Oo mZ) (K0 H0 w0) 26 TV (Yj n m (mO o) (Go.oz.mO p) (k:Nat)) [] emp (up φ)
 |r,k,hk,hφ=>by
  refine uT iq atc ?_;have e1:mM.add .i64 (k:Int) 1=((k+1:Nat):Int):=add1 (by omega);have eo:=yj (α:=Oj) o;refine qg (aha _) 300 400 [⟨26,TV,Yj n m (mO o) (Go.oz.mO p) (mM.add .i64 (k:Int) 1),[]⟩] ?_;refine rQ (nd (mM.lt (k:Int) (mM.nK m)) (fun q=>an (?_:mM.inB (k:Int) m=ah) (an (o9 o n) (nd (mM.nt (mM.eq (F8 n (mP (mO o)) (p k)) 0))
   (fun a=>nd (mM.eq (F8 n (mP (mO o)) (p k)) 0) (fun b=>(?_:up φ (.agg [.i .i64 0,.sl 0 0 fun _=>[]]))) (fun b=>(?_:up φ (.agg [.i .i64 (F8 n (mP (mO o)) (p k)),.os 3 1 1 (nM [[.i .i64 (k:Int)]])]))))
   (fun a=>(?_:mY ai (C7 mM W7 Oo mZ) (K0 H0 w0) 26 TV (Yj n m (mO o) (Go.oz.mO p) (mM.add .i64 (k:Int) 1)) [] emp (up φ)))))) (fun q=>(?_:up φ (.agg [.i .i64 0,.sl 0 0 fun _=>[]]))))
  all_goals simp only[mW,ny,oL,nG,nN,eo] at *
  ·simp_all
  ·simp_all
  ·match r,hφ with
   |0,_=>simp_all |r+1,hφ=>
    have ne:F8 n o (p k)≠0:=by simpa using b
    simp_all [zF,aiT,aqo]
  ·match r,hk,hφ with
   |0,hk,_=>simp_all |r+1,hk,hφ=>
    rw[show mM.add .i64 (k:Int) 1=((k+1:Nat):Int) from e1];refine ae2 hm r (k+1) (by omega) ?_;simp_all [zF]
  ·match r,hφ with
   |0,hφ=>exact atd hφ |r+1,_=>grind
theorem aiU(hn:n<=8)(hm:m<=400)(hB:(zF (fun i=>Dl (o i)) 0 n).1=0->φ (Ef (zF (fun i=>F8 n o (p i)) 0 m))):
  ∀r k,k+r=n->zF (fun i=>Dl (o i)) 0 n=zF (fun i=>Dl (o i)) k r->((zF (fun i=>Dl (o i)) 0 n).1≠0->φ (Ef (zF (fun i=>Dl (o i)) 0 n)))->mY ai (C7 mM W7 Oo mZ) (K0 H0 w0) 26 aaX (ae1 n m (mO o) (Go.oz.mO p) (k:Nat)) [] emp (up φ)
 |r,k,hk,he,hφ=>by
  refine uT iq avz ?_;have e1:mM.add .i64 (k:Int) 1=((k+1:Nat):Int):=add1 (by omega);refine qg (aha _) 300 400 [⟨26,aaX,ae1 n m (mO o) (Go.oz.mO p) (mM.add .i64 (k:Int) 1),[]⟩,⟨26,TV,Yj n m (mO o) (Go.oz.mO p) 0,[]⟩] ?_;refine rQ (nd (mM.lt (k:Int) (mM.nK n)) (fun q=>an (?_:mM.inB (k:Int) n=ah) (nd (mM.nt (mM.eq (Dl (o k)) 0))
   (fun a=>nd (mM.eq (Dl (o k)) 0) (fun b=>(?_:up φ (.agg [.i .i64 0,.sl 0 0 fun _=>[]]))) (fun b=>(?_:up φ (.agg [.i .i64 (Dl (o k)),.os 3 1 1 (nM [[.i .i64 (k:Int)]])]))))
   (fun a=>(?_:mY ai (C7 mM W7 Oo mZ) (K0 H0 w0) 26 aaX (ae1 n m (mO o) (Go.oz.mO p) (mM.add .i64 (k:Int) 1)) [] emp (up φ))))) (fun q=>(?_:mY ai (C7 mM W7 Oo mZ) (K0 H0 w0) 26 TV (Yj n m (mO o) (Go.oz.mO p) 0) [] emp (up φ))))
  all_goals simp only[mW,ny,oL,nG,nN] at *
  ·simp_all
  ·simp_all
  ·match r,hk,he with
   |0,hk,_=>simp_all |r+1,hk,he=>
    have ne:Dl (o k)≠0:=by simpa using b
    rw[show zF (fun i=>Dl (o i)) k (r+1)=(Dl (o k),k) from if_neg ne] at he;grind [aiT,aqp]
  ·match r,hk,he with
   |0,hk,_=>simp_all |r+1,hk,he=>
    rw[show mM.add .i64 (k:Int) 1=((k+1:Nat):Int) from e1];exact aiU hn hm hB r (k+1) (by omega) (he.trans (if_pos (by simpa using a))) hφ
  ·match r,hk,he with
   |0,hk,he=>exact ae2 hm m 0 (by omega) (hB (by rw[he];rfl)) |r+1,hk,_=>grind
end
theorem O57:nD ai (nJ W7) 26 F57:=by
 refine rC (C7 mM W7 Oo mZ) iq fun H w nY args φ hrep hφ=>?_
 have hn:iq.ntmps=57:=by kernel_rfl
 unfold F57 at hφ;split at hφ
 ·rename_i s t
  split at hφ
  ·rename_i n g m h h1 h2
   obtain ⟨q1,q2,hφ⟩:=hφ;match args,hrep with
   |[v],⟨hv,_⟩=>
    refine ⟨[.agg [.sl 2 n (mO (mP (α:=Oj) g)),.sl 8 m (Go.oz.mO (Go.oz.mP (α:=Ev) h))]],⟨EP hv (fun _ u=>pX (nZ h1 u) q1) (fun _ u=>Go.oz.pX (nZ h2 u) q2),trivial⟩,L0,?_⟩;have hφ:φ (Ef (BJ n (mP g) m (Go.oz.mP h))):=hφ;generalize mP (α:=Oj) g=o at *;generalize Go.oz.mP (α:=Ev) h=p at *;refine qg (aha _) 300 400 [⟨26,aaX,ae1 n m (mO o) (Go.oz.mO p) 0,[]⟩] ?_;rw[hn];have big (q:8<n\/400<m):up φ (.agg [.i .i64 105,.sl 0 0 fun _=>[]]):=by
     unfold BJ at hφ;rw[if_pos q] at hφ;exact nP (s':=Ef (105,0)) ⟨rfl,.inl ⟨rfl,rfl⟩,trivial⟩ hφ
    refine rQ (nd (mM.lt 8 (mM.nK n)) (fun q=>big ?_) (fun q=>nd (mM.lt 400 (mM.nK m)) (fun a=>big ?_) (fun a=>
     (?_:mY ai (C7 mM W7 Oo mZ) (K0 H w) 26 aaX (ae1 n m (mO o) (Go.oz.mO p) 0) [] emp (up φ)))))
    all_goals simp[mW,ny] at *
    ·omega
    ·omega
    ·unfold BJ at hφ
     rw[if_neg (by omega)] at hφ;exact aiU (k:=0) (by omega) (by omega) (fun z=>by simp_all) n (by omega) rfl (fun z=>by simp_all)
  ·exact hφ.elim
 ·exact hφ.elim
end Go.Proofs
namespace Go.oz
open Go Go.Sx
def Rj(n m:Nat)(o:Nat->Oj)(p:Nat->Ev):Option (Nat×Nat):=
 match Ar (fun k=>MG (o k)) 0 n with
 |some x=>ae x |none=>Ar (fun k=>BI n o (p k)) 0 m
def anw(n m:Nat)(o:Nat->Oj)(p:Nat->Ev)(k:Nat):Nat->Option (Nat×Nat):=fun r=>
 match Ar (fun k=>MG (o k)) k r with
 |some x=>ae x |none=>Ar (fun k=>BI n o (p k)) 0 m
end Go.oz
namespace Go.oH
open Go Go.Sx Go.oz
open Go.Proofs (Cc QY)
theorem aiV{H0:Mem}{w0:World}{n m:Nat}{o:Nat->Oj}{p:Nat->Ev}{φ:Sh->Prop}(hn:n<=8)(hm:m<=400)(hi:∀k,k<m->qJ (p k).ret=ah):
  ∀rm k,k+rm=n->φ (resE (anw n m o p k rm))->mY ai (C5 mM W5 BH mZ) (K0 H0 w0) 62 Cc (aaV n m o p (n:Int) k) [] emp φ
 |rm,k,hk,hφ=>by
  refine uT cG QY ?_;refine pK tX (ag7 _) 300 200 [⟨62,Cc,aaV n m o p (n:Int) (k+1:Nat),[]⟩,⟨62,aaU,Px n m o p (m:Int) (0:Nat),[]⟩] ?_;rw[b51 mM W5 n m o p (n:Int) k (k+1:Nat) (m:Int) (0:Nat)];simp only[mW,ny,nN,oZ,rP,zi,Tree.All,yc,bm];refine ⟨fun h=>?_,fun h=>?_⟩
  ·have hlt:k<n:=by simp_all
   have hw:az.wrap ((k:Int)+1)=((k+1:Nat):Int):=by grind [pF]
   match rm,hk,hφ with
   |0,hk,_=>omega |rm+1,hk,hφ=>
    refine ⟨by simp;omega,fun q=>?_,fun q=>?_⟩
    ·have e:MG (o k)=ao:=by simp_all [MG]
     exact ⟨⟨rfl,rfl,hw,rfl,rfl,trivial⟩,_,rfl,aiV hn hm hi rm (k+1) (by omega) (by simp_all [anw,Ar])⟩
    simp_all [MG,anw,Ar,resE]
  ·have:k=n:=by grind
   have:rm=0:=by omega
   subst this;exact ⟨⟨rfl,rfl,rfl,rfl,rfl,trivial⟩,_,rfl,aeY hm hi m 0 (by omega) hφ⟩
end Go.oH
namespace Go.oz
open Go Go.Sx
def FP(m:Nat)(h:Nat->List Sh):Bool:=(aD m).all fun k=>qJ (mP (α:=Ev) h k).ret
def BK(n m:Nat)(g h:Nat->List Sh):Int:=match Rj n m (mP g) (mP h) with|some (k,_)=>(k:Int) |none=>0
def FQ(n m:Nat)(g h:Nat->List Sh):Nat:=match Rj n m (mP g) (mP h) with|some (_,e)=>e|none=>0
def uF(n m:Nat)(g h:Nat->List Sh):Bool:=(Rj n m (mP g) (mP h)).isNone
def wI(n m:Nat):Bool:=decide (8<n\/400<m)
end Go.oz
namespace Go.oH
open Go Go.Sx Go.oz
open Go.Proofs (Cc QY)
def F51:List Sh->Tree Sh
 |[.agg [.sl 2 n g,.sl 8 m h]]=>.need (okB Oj n g) (.need (okB Ev m h) (.need (FP m h) (.node (wI n m) (.leaf (.er 6 288)) (.node (uF n m g h) (.leaf (.v .nilIface)) (.leaf (.qK 90 (.pt [.i .i64 (BK n m g h),.er (FQ n m g h) 288]))))))) |_=>.fail
theorem O51:nD ai (DW W5) 62 F51:=by
 refine zI (C5 mM W5 BH mZ) cG fun H w nY args φ hrep h=>?_
 have hn:cG.ntmps=78:=by kernel_rfl
 unfold F51 at h;split at h
 ·rename_i n g m h'
  obtain ⟨h1,h2,h3,h4,h5⟩:=h;match args,hrep with
  |[v],⟨hv,_⟩=>
   rw[hn];refine ⟨[.agg [.sl 2 n (mO (mP (α:=Oj) g)),.sl 8 m (mO (mP (α:=Ev) h'))]],⟨MF hv h1 h2,trivial⟩,L0,?_⟩;refine pK tX (ag7 _) 300 200 [⟨62,Cc,aaV n m (mP g) (mP h') (n:Int) (0:Nat),[]⟩] ?_;rw[a51 mM W5 n m (mP g) (mP h') (n:Int) (0:Nat)];refine ⟨fun q=>h4 ?_,fun q=>⟨fun q'=>h4 ?_,fun q'=>⟨⟨rfl,rfl,rfl,rfl,rfl,trivial⟩,_,rfl,?_⟩⟩⟩
   ·grind [mW,ny,wI]
   ·grind [mW,ny,wI]
   ·simp[mW,ny] at q q'
    have h5:=h5 (by simp[wI];omega);refine aiV (by omega) (by omega) (fun k hk=>?_) n 0 (by omega) ?_
    ·exact List.all_eq_true.1 h3 k (List.mem_range.2 hk)
    ·show φ (resE (Rj n m (mP g) (mP h')))
     obtain ⟨hT,hF⟩:=h5;unfold uF at hT hF;unfold BK FQ at hF;cases hb:Rj n m (mP (α:=Oj) g) (mP (α:=Ev) h') with
     |none=>rw[hb] at hT;exact hT rfl |some x=>rw[hb] at hF;exact hF rfl
 ·exact h.elim
open Go.Pl (qp nZ)
theorem ahb{H:Mem}{s0 s1 s0' s1':Sh}{v:Value}(hv:Rep H (.agg [s0,s1]) v)(h0:∀u,Rep H s0 u->Rep H s0' u)(h1:∀u,Rep H s1 u->Rep H s1' u):Rep H (.agg [s0',s1']) v:=by
 cases hv with
 |agg _ vs h2 h3=>
  refine .agg _ vs h2 fun j s v' e1 e2=>?_
  grind
def anx:List Sh->Tree Sh
 |[.agg [s0,s1]]=>match qp 2 s0,qp 8 s1 with
  |some (n,g),ae (m,h)=>F51 [.agg [.sl 2 n g,.sl 8 m h]] |_,_=>.fail
 |_=>.fail
theorem avC:nD ai (DW W5) 62 anx:=fun H w nY args φ h1 h2 h3 h4=>by
 unfold anx at h4;split at h4
 ·rename_i s0 s1
  split at h4
  ·rename_i n g m h e1 e2
   match args,h3 with
   |[v],⟨hv,_⟩=>exact O51 H w [.agg [.sl 2 n g,.sl 8 m h]] [v] φ h1 h2 ⟨ahb hv (fun u=>nZ e1) (fun u=>nZ e2),trivial⟩ h4
  ·exact h4.elim
 ·exact h4.elim
end Go.oH
namespace Go.oz
open Go Go.Sx
def tmO(n:Nat)(l:List (Nat×SV)):List SV:=l.foldl (fun t p=>t.set p.1 p.2) (List.replicate n .any)
structure De where
 obj:Int
 op:Int
 key:Int
 val:Int
 ret:Int
 got:Int
 here:Int
 back:Int
 deriving DecidableEq,Inhabited
def deR(e:De):List Sh:=[.i .i64 e.obj,.i .i64 e.op,.i .i64 e.key,.i .i64 e.val,.i .i64 e.ret,.i .i64 e.got,.i .i64 e.here,.i .i64 e.back]
instance:Row De where
 put:=deR
 get l:=match l with
  |[.i .i64 a,.i .i64 b,.i .i64 c,.i .i64 d,.i .i64 e,.i .i64 f,.i .i64 g,.i .i64 h]=>ae ⟨a,b,c,d,e,f,g,h⟩ |_=>ao
 qQ l a h:=by
  split at h
  ·cases h;rfl
  ·cases h
 get_put a:=rfl
 Ad:=⟨0,0,0,0,0,0,0,0⟩
def oQ(e:Ev):Bool:=BG e&&fieldsB e&&qJ e.ret
end Go.oz
namespace Go.oH
open Go Go.Sx Go.oz
def anA:List Sh->Tree Sh
 |[.agg l]=>match Ve l with
  |some e=>.need (oQ e) (.leaf (.v .nilIface)) |none=>.fail
 |_=>.fail
def qw:Nat->Option (List Sh->Tree Sh)
 |81=>ae anA |82=>ae F57 |125=>ae F67 |_=>ao
def hpA(n m:Nat)(o:Nat->Oj)(many:Int)(gR:Nat->List Sh)(M1 M2:Int->Option Value)(f1 f2:List (Int×Bool×SV)):List (Nat×SB):=
 [(0,.box [.gs 6,.sym .i64 many,.gs 1,.mp 2,.mp 3] 185),(1,.own 186 1 m gR),(2,.fm .i64 M1 f1 [] ao),(3,.fm .i64 M2 f2 [] ao),(6,.own 73 2 n (mO o))]
def ZW(a b c d x y z:Int)(k:Nat)(gd:Nat->List Sh):List (Nat×SB):=
 [(4,.box [.sym .i64 a,.sym .i64 b,.sym .i64 c,.sym .i64 d,.sym .i64 x,.sym .i64 y,.gs 5,.sym .i64 z] 188),(5,.own 143 8 k gd)]
def evS(kind:Int)(e:Ev):SV:=.agg [.int .i64 kind,.sym .i64 e.tx,.sym .i64 e.thread,.sym .i64 e.obj,.sym .i64 e.op,.sym .i64 e.key,.sym .i64 e.val,.sym .i64 e.ret]
def LA(kind:Int)(e:Ev)(hp:List (Nat×SB)):Core:={tm:=tmO 168 [(0,.ptr 0 0),(1,evS kind e)],hp,nx:=7,lim:=L0,tc:=[]}
def toR(n m:Nat)(o:Nat->Oj)(gR:Nat->List Sh)(M1 M2:Int->Option Value)(e:Ev)(many' a' b' c' d' x' y' z':Int)(k':Nat)(gd':Nat->List Sh)(us:List (Int×Bool×SV)):KD:=
 ⟨[(0,.box [.gs 6,.sym .i64 many',.gs 1,.mp 2,.mp 3] 185),(1,.own 186 1 m gR),(2,.fm .i64 M1 [(e.tx,ah,.ptr 4 0)] [] ao),(3,.fm .i64 M2 [] us ao),(6,.own 73 2 n (mO o)),
  (4,.box [.sym .i64 a',.sym .i64 b',.sym .i64 c',.sym .i64 d',.sym .i64 x',.sym .i64 y',.gs 5,.sym .i64 z'] 188),(5,.own 143 8 k' gd')],[0,4]⟩
def toN(n m:Nat)(o:Nat->Oj)(many':Int)(gR:Nat->List Sh)(M1 M2:Int->Option Value)(f1 f2:List (Int×Bool×SV)):KD:=⟨hpA n m o many' gR M1 M2 f1 f2,[0]⟩
def toB(n m:Nat)(o:Nat->Oj)(gR:Nat->List Sh)(M1 M2:Int->Option Value)(e:Ev)(many' a' b' c' d' x' y' z':Int):KD:=
 ⟨[(0,.box [.gs 6,.sym .i64 many',.gs 1,.mp 2,.mp 3] 185),(6,.own 73 2 n (mO o)),(1,.yE 186 1 m gR [.ptr 4 0]),(2,.fm .i64 M1 [(e.tx,ag,.any)] [(e.tx,ah,.ptr 4 0),(e.tx,ah,.any)] ao),(3,.fm .i64 M2 [(e.thread,ag,.any)] [(e.thread,ah,.ptr 4 0),(e.thread,ah,.any)] ao),
  (4,.box [.sym .i64 a',.sym .i64 b',.sym .i64 c',.sym .i64 d',.sym .i64 x',.sym .i64 y',.nS,.sym .i64 z'] 188)],[0]⟩
theorem anB(A:Prim)(W:Wd)(n m:Nat)(o:Nat->Oj)(many:Int)(gR:Nat->List Sh)(M1 M2:Int->Option Value)(e:Ev)(a b c d x y z:Int)(k:Nat)(dd:Nat->De)(many' a' b' c' d' x' y' z':Int)(k':Nat)(gd':Nat->List Sh):(run (C5 A W qw oN) 700 ah 78 [.code []] (LA 2 e (hpA n m o many gR M1 M2 [(e.tx,ah,.ptr 4 0)] []++ZW a b c d x y z k (mO dd)))).bind (toEnd [toR n m o gR M1 M2 e many' a' b' c' d' x' y' z' k' gd' []])=aq (A.eq many (ab 400)) (ap (bc (aX 6 288),0,[ac many many',am m m,ax m gR gR,aK M1 M1,ac e.tx e.tx,aK M2 M2,am n n,ax n (mO o) (mO o),ac a a',ac b b',ac c c',ac d d',ac x x',ac y y',ac z z',am k k',ax k (mO dd) gd'])) (al (oQ {kind:=ab 2,tx:=e.tx,thread:=e.thread,obj:=e.obj,op:=e.op,key:=e.key,val:=e.val,ret:=e.ret}) (aq (A.le (A.nK n) e.obj) (ap (bc (aX 7 288),0,[ac many many',am m m,ax m gR gR,aK M1 M1,ac e.tx e.tx,aK M2 M2,am n n,ax n (mO o) (mO o),ac a a',ac b b',ac c c',ac d d',ac x x',ac y y',ac z z',am k k',ax k (mO dd) gd'])) (al (A.inB e.obj n) (aq (A.nt (A.eq (Cj e.op) (o (A.toN e.obj)).kind)) (ap (bc (aX 8 288),0,[ac many many',am m m,ax m gR gR,aK M1 M1,ac e.tx e.tx,aK M2 M2,am n n,ax n (mO o) (mO o),ac a a',ac b b',ac c c',ac d d',ac x x',ac y y',ac z z',am k k',ax k (mO dd) gd'])) (al (A.eq e.tx e.tx) (aR [ac e.tx e.tx,ac e.thread e.thread,ac e.obj e.obj,ac e.op e.op,ac e.key e.key,ac e.val e.val,ac e.ret e.ret,ac many many,am m m,aF gR gR,aK M1 M1,ac e.tx e.tx,aK M2 M2,am n n,aF (mO o) (mO o),ac a a,ac b b,ac c c,ac d d,ac x x,ac y y,ac z z,am k k,aF (mO dd) (mO dd),ac e.tx e.tx,ac e.thread e.thread,ac e.obj e.obj,ac e.op e.op,ac e.key e.key,ac e.val e.val,ac e.ret e.ret] (aR [ac e.tx e.tx,ac e.thread e.thread,ac e.obj e.obj,ac e.op e.op,ac e.key e.key,ac e.val e.val,ac e.ret e.ret,ac many many,am m m,aF gR gR,aK M1 M1,ac e.tx e.tx,aK M2 M2,am n n,aF (mO o) (mO o),ac a a,ac b b,ac c c,ac d d,ac x x,ac y y,ac z z,am k k,aF (mO dd) (mO dd),ac e.tx e.tx,ac e.thread e.thread,ac e.obj e.obj,ac e.op e.op,ac e.key e.key,ac e.val e.val,ac e.ret e.ret] (aq (A.eq z (ab 1)) (al (A.room (A.addN k 1) 64) (al (A.room (A.addN k 1) 64) (aR [ac e.tx e.tx,ac e.thread e.thread,ac e.obj e.obj,ac e.op e.op,ac e.key e.key,ac e.val e.val,ac e.ret e.ret,ac many many,ac many many,am m m,aF gR gR,aK M1 M1,ac e.tx e.tx,aK M2 M2,am n n,aF (mO o) (mO o),ac a a,ac b b,ac c c,ac d d,ac x x,ac y y,ac e.tx e.tx,ac e.thread e.thread,ac e.obj e.obj,ac e.op e.op,ac e.key e.key,ac e.val e.val,ac e.ret e.ret,ac e.tx e.tx,ac e.thread e.thread,ac e.obj e.obj,ac e.op e.op,ac e.key e.key,ac e.val e.val,ac e.ret e.ret,ac e.obj e.obj,ac e.op e.op,ac e.key e.key,ac e.val e.val,ac many many,am (A.addN k 1) (A.addN k 1),aF (A.snoc (mO dd) k (nM [[av .i64 e.obj,av .i64 e.op,av .i64 e.key,av .i64 e.val,av .i64 (ab 0),av .i64 (ab 0),av .i64 many,av .i64 (bW 0)]])) (A.snoc (mO dd) k (nM [[av .i64 e.obj,av .i64 e.op,av .i64 e.key,av .i64 e.val,av .i64 (ab 0),av .i64 (ab 0),av .i64 many,av .i64 (bW 0)]]))] (ap (bQ,0,[ac (A.add .i64 many (ab 1)) many',am m m,ax m gR gR,aK M1 M1,ac e.tx e.tx,aK M2 M2,am n n,ax n (mO o) (mO o),ac a a',ac b b',ac c c',ac d d',ac x x',ac y y',ac (ab 2) z',am (A.addN k 1) k',ax (A.addN k 1) (A.snoc (mO dd) k (nM [[av .i64 e.obj,av .i64 e.op,av .i64 e.key,av .i64 e.val,av .i64 (ab 0),av .i64 (ab 0),av .i64 many,av .i64 (bW 0)]])) gd']))))) (ap (bc (aX 13 288),0,[ac many many',am m m,ax m gR gR,aK M1 M1,ac e.tx e.tx,aK M2 M2,am n n,ax n (mO o) (mO o),ac a a',ac b b',ac c c',ac d d',ac x x',ac y y',ac z z',am k k',ax k (mO dd) gd'])))))))))):=by kernel_rfl
theorem atf(A:Prim)(W:Wd)(n m:Nat)(o:Nat->Oj)(many:Int)(gR:Nat->List Sh)(M1 M2:Int->Option Value)(e:Ev)(many':Int):(run (C5 A W qw oN) 700 ah 78 [.code []] (LA 2 e (hpA n m o many gR M1 M2 [(e.tx,ag,.any)] []))).bind (toEnd [toN n m o many' gR M1 M2 [(e.tx,ag,.any)] []])=aq (A.eq many (ab 400)) (ap (bc (aX 6 288),0,[ac many many',am m m,ax m gR gR,aK M1 M1,ac e.tx e.tx,aK M2 M2,am n n,ax n (mO o) (mO o)])) (al (oQ {kind:=ab 2,tx:=e.tx,thread:=e.thread,obj:=e.obj,op:=e.op,key:=e.key,val:=e.val,ret:=e.ret}) (aq (A.le (A.nK n) e.obj) (ap (bc (aX 7 288),0,[ac many many',am m m,ax m gR gR,aK M1 M1,ac e.tx e.tx,aK M2 M2,am n n,ax n (mO o) (mO o)])) (al (A.inB e.obj n) (aq (A.nt (A.eq (Cj e.op) (o (A.toN e.obj)).kind)) (ap (bc (aX 8 288),0,[ac many many',am m m,ax m gR gR,aK M1 M1,ac e.tx e.tx,aK M2 M2,am n n,ax n (mO o) (mO o)])) (al (A.eq e.tx e.tx) (ap (bc (aX 12 288),0,[ac many many',am m m,ax m gR gR,aK M1 M1,ac e.tx e.tx,aK M2 M2,am n n,ax n (mO o) (mO o)]))))))):=by kernel_rfl
theorem ahc(A:Prim)(W:Wd)(n m:Nat)(o:Nat->Oj)(many:Int)(gR:Nat->List Sh)(M1 M2:Int->Option Value)(e:Ev)(a b c d x y z:Int)(k:Nat)(dd:Nat->De)(many' a' b' c' d' x' y' z':Int)(k':Nat)(gd':Nat->List Sh):(run (C5 A W qw oN) 700 ah 78 [.code []] (LA 3 e (hpA n m o many gR M1 M2 [(e.tx,ah,.ptr 4 0)] []++ZW a b c d x y z k (mO dd)))).bind (toEnd [toR n m o gR M1 M2 e many' a' b' c' d' x' y' z' k' gd' []])=aq (A.eq many (ab 400)) (ap (bc (aX 6 288),0,[ac many many',am m m,ax m gR gR,aK M1 M1,ac e.tx e.tx,aK M2 M2,am n n,ax n (mO o) (mO o),ac a a',ac b b',ac c c',ac d d',ac x x',ac y y',ac z z',am k k',ax k (mO dd) gd'])) (al (oQ {kind:=ab 3,tx:=e.tx,thread:=e.thread,obj:=e.obj,op:=e.op,key:=e.key,val:=e.val,ret:=e.ret}) (al (A.eq e.tx e.tx) (aR [ac e.tx e.tx,ac e.thread e.thread,ac e.obj e.obj,ac e.op e.op,ac e.key e.key,ac e.val e.val,ac e.ret e.ret,ac many many,am m m,aF gR gR,aK M1 M1,ac e.tx e.tx,aK M2 M2,am n n,aF (mO o) (mO o),ac a a,ac b b,ac c c,ac d d,ac x x,ac y y,ac z z,am k k,aF (mO dd) (mO dd),ac e.tx e.tx,ac e.thread e.thread,ac e.obj e.obj,ac e.op e.op,ac e.key e.key,ac e.val e.val,ac e.ret e.ret] (aR [ac e.tx e.tx,ac e.thread e.thread,ac e.obj e.obj,ac e.op e.op,ac e.key e.key,ac e.val e.val,ac e.ret e.ret,ac many many,am m m,aF gR gR,aK M1 M1,ac e.tx e.tx,aK M2 M2,am n n,aF (mO o) (mO o),ac a a,ac b b,ac c c,ac d d,ac x x,ac y y,ac z z,am k k,aF (mO dd) (mO dd),ac e.tx e.tx,ac e.thread e.thread,ac e.obj e.obj,ac e.op e.op,ac e.key e.key,ac e.val e.val,ac e.ret e.ret] (aq (A.eq z (ab 2)) (al (A.inB (A.sub .i64 (A.nK k) (ab 1)) k) (aq (A.nt (wO (dd (A.toN (A.sub .i64 (A.nK k) (ab 1)))).op e.ret)) (ap (bc (aX 9 288),0,[ac many many',am m m,ax m gR gR,aK M1 M1,ac e.tx e.tx,aK M2 M2,am n n,ax n (mO o) (mO o),ac a a',ac b b',ac c c',ac d d',ac x x',ac y y',ac z z',am k k',ax k (mO dd) gd'])) (ap (bQ,0,[ac (A.add .i64 many (ab 1)) many',am m m,ax m gR gR,aK M1 M1,ac e.tx e.tx,aK M2 M2,am n n,ax n (mO o) (mO o),ac a a',ac b b',ac c c',ac d d',ac x x',ac y y',ac (ab 1) z',am k k',ax k (A.upd (A.upd (A.upd (mO dd) (A.toN (A.sub .i64 (A.nK k) (ab 1))) 4 [av .i64 e.ret]) (A.toN (A.sub .i64 (A.nK k) (ab 1))) 5 [av .i64 e.val]) (A.toN (A.sub .i64 (A.nK k) (ab 1))) 7 [av .i64 many]) gd'])))) (ap (bc (aX 13 288),0,[ac many many',am m m,ax m gR gR,aK M1 M1,ac e.tx e.tx,aK M2 M2,am n n,ax n (mO o) (mO o),ac a a',ac b b',ac c c',ac d d',ac x x',ac y y',ac z z',am k k',ax k (mO dd) gd']))))))):=by kernel_rfl
theorem atg(A:Prim)(W:Wd)(n m:Nat)(o:Nat->Oj)(many:Int)(gR:Nat->List Sh)(M1 M2:Int->Option Value)(e:Ev)(many':Int):(run (C5 A W qw oN) 700 ah 78 [.code []] (LA 3 e (hpA n m o many gR M1 M2 [(e.tx,ag,.any)] []))).bind (toEnd [toN n m o many' gR M1 M2 [(e.tx,ag,.any)] []])=aq (A.eq many (ab 400)) (ap (bc (aX 6 288),0,[ac many many',am m m,ax m gR gR,aK M1 M1,ac e.tx e.tx,aK M2 M2,am n n,ax n (mO o) (mO o)])) (al (oQ {kind:=ab 3,tx:=e.tx,thread:=e.thread,obj:=e.obj,op:=e.op,key:=e.key,val:=e.val,ret:=e.ret}) (al (A.eq e.tx e.tx) (ap (bc (aX 12 288),0,[ac many many',am m m,ax m gR gR,aK M1 M1,ac e.tx e.tx,aK M2 M2,am n n,ax n (mO o) (mO o)])))):=by kernel_rfl
theorem anC(A:Prim)(W:Wd)(n m:Nat)(o:Nat->Oj)(many:Int)(gR:Nat->List Sh)(M1 M2:Int->Option Value)(e:Ev)(a b c d x y z:Int)(k:Nat)(dd:Nat->De)(many' a' b' c' d' x' y' z':Int)(k':Nat)(gd':Nat->List Sh):(run (C5 A W qw oN) 700 ah 78 [.code []] (LA 4 e (hpA n m o many gR M1 M2 [(e.tx,ah,.ptr 4 0)] []++ZW a b c d x y z k (mO dd)))).bind (toEnd [toR n m o gR M1 M2 e many' a' b' c' d' x' y' z' k' gd' []])=aq (A.eq many (ab 400)) (ap (bc (aX 6 288),0,[ac many many',am m m,ax m gR gR,aK M1 M1,ac e.tx e.tx,aK M2 M2,am n n,ax n (mO o) (mO o),ac a a',ac b b',ac c c',ac d d',ac x x',ac y y',ac z z',am k k',ax k (mO dd) gd'])) (al (oQ {kind:=ab 4,tx:=e.tx,thread:=e.thread,obj:=e.obj,op:=e.op,key:=e.key,val:=e.val,ret:=e.ret}) (al (A.eq e.tx e.tx) (aR [ac e.tx e.tx,ac e.thread e.thread,ac e.obj e.obj,ac e.op e.op,ac e.key e.key,ac e.val e.val,ac e.ret e.ret,ac many many,am m m,aF gR gR,aK M1 M1,ac e.tx e.tx,aK M2 M2,am n n,aF (mO o) (mO o),ac a a,ac b b,ac c c,ac d d,ac x x,ac y y,ac z z,am k k,aF (mO dd) (mO dd),ac e.tx e.tx,ac e.thread e.thread,ac e.obj e.obj,ac e.op e.op,ac e.key e.key,ac e.val e.val,ac e.ret e.ret] (aR [ac e.tx e.tx,ac e.thread e.thread,ac e.obj e.obj,ac e.op e.op,ac e.key e.key,ac e.val e.val,ac e.ret e.ret,ac many many,am m m,aF gR gR,aK M1 M1,ac e.tx e.tx,aK M2 M2,am n n,aF (mO o) (mO o),ac a a,ac b b,ac c c,ac d d,ac x x,ac y y,ac z z,am k k,aF (mO dd) (mO dd),ac e.tx e.tx,ac e.thread e.thread,ac e.obj e.obj,ac e.op e.op,ac e.key e.key,ac e.val e.val,ac e.ret e.ret] (aq (A.eq z (ab 1)) (ap (bQ,0,[ac (A.add .i64 many (ab 1)) many',am m m,ax m gR gR,aK M1 M1,ac e.tx e.tx,aK M2 M2,am n n,ax n (mO o) (mO o),ac a a',ac b b',ac (ab 2) c',ac d d',ac x x',ac many y',ac (ab 3) z',am k k',ax k (mO dd) gd'])) (ap (bc (aX 13 288),0,[ac many many',am m m,ax m gR gR,aK M1 M1,ac e.tx e.tx,aK M2 M2,am n n,ax n (mO o) (mO o),ac a a',ac b b',ac c c',ac d d',ac x x',ac y y',ac z z',am k k',ax k (mO dd) gd']))))))):=by kernel_rfl
theorem ath(A:Prim)(W:Wd)(n m:Nat)(o:Nat->Oj)(many:Int)(gR:Nat->List Sh)(M1 M2:Int->Option Value)(e:Ev)(many':Int):(run (C5 A W qw oN) 700 ah 78 [.code []] (LA 4 e (hpA n m o many gR M1 M2 [(e.tx,ag,.any)] []))).bind (toEnd [toN n m o many' gR M1 M2 [(e.tx,ag,.any)] []])=aq (A.eq many (ab 400)) (ap (bc (aX 6 288),0,[ac many many',am m m,ax m gR gR,aK M1 M1,ac e.tx e.tx,aK M2 M2,am n n,ax n (mO o) (mO o)])) (al (oQ {kind:=ab 4,tx:=e.tx,thread:=e.thread,obj:=e.obj,op:=e.op,key:=e.key,val:=e.val,ret:=e.ret}) (al (A.eq e.tx e.tx) (ap (bc (aX 12 288),0,[ac many many',am m m,ax m gR gR,aK M1 M1,ac e.tx e.tx,aK M2 M2,am n n,ax n (mO o) (mO o)])))):=by kernel_rfl
theorem anD(A:Prim)(W:Wd)(n m:Nat)(o:Nat->Oj)(many:Int)(gR:Nat->List Sh)(M1 M2:Int->Option Value)(e:Ev)(a b c d x y z:Int)(k:Nat)(dd:Nat->De)(many' a' b' c' d' x' y' z':Int)(k':Nat)(gd':Nat->List Sh):(run (C5 A W qw oN) 700 ah 78 [.code []] (LA 5 e (hpA n m o many gR M1 M2 [(e.tx,ah,.ptr 4 0)] []++ZW a b c d x y z k (mO dd)))).bind (toEnd [toR n m o gR M1 M2 e many' a' b' c' d' x' y' z' k' gd' [],toR n m o gR M1 M2 e many' a' b' c' d' x' y' z' k' gd' [(b,ag,.any)]])=aq (A.eq many (ab 400)) (ap (bc (aX 6 288),0,[ac many many',am m m,ax m gR gR,aK M1 M1,ac e.tx e.tx,aK M2 M2,am n n,ax n (mO o) (mO o),ac a a',ac b b',ac c c',ac d d',ac x x',ac y y',ac z z',am k k',ax k (mO dd) gd'])) (al (oQ {kind:=ab 5,tx:=e.tx,thread:=e.thread,obj:=e.obj,op:=e.op,key:=e.key,val:=e.val,ret:=e.ret}) (al (A.eq e.tx e.tx) (aR [ac e.tx e.tx,ac e.thread e.thread,ac e.obj e.obj,ac e.op e.op,ac e.key e.key,ac e.val e.val,ac e.ret e.ret,ac many many,am m m,aF gR gR,aK M1 M1,ac e.tx e.tx,aK M2 M2,am n n,aF (mO o) (mO o),ac a a,ac b b,ac c c,ac d d,ac x x,ac y y,ac z z,am k k,aF (mO dd) (mO dd),ac e.tx e.tx,ac e.thread e.thread,ac e.obj e.obj,ac e.op e.op,ac e.key e.key,ac e.val e.val,ac e.ret e.ret] (aR [ac e.tx e.tx,ac e.thread e.thread,ac e.obj e.obj,ac e.op e.op,ac e.key e.key,ac e.val e.val,ac e.ret e.ret,ac many many,am m m,aF gR gR,aK M1 M1,ac e.tx e.tx,aK M2 M2,am n n,aF (mO o) (mO o),ac a a,ac b b,ac c c,ac d d,ac x x,ac y y,ac z z,am k k,aF (mO dd) (mO dd),ac e.tx e.tx,ac e.thread e.thread,ac e.obj e.obj,ac e.op e.op,ac e.key e.key,ac e.val e.val,ac e.ret e.ret] (aq (A.eq z (ab 3)) (ap (bQ,1,[ac (A.add .i64 many (ab 1)) many',am m m,ax m gR gR,aK M1 M1,ac e.tx e.tx,aK M2 M2,ac b b,am n n,ax n (mO o) (mO o),ac a a',ac b b',ac (ab 3) c',ac d d',ac many x',ac y y',ac (ab 5) z',am k k',ax k (mO dd) gd'])) (ap (bc (aX 13 288),0,[ac many many',am m m,ax m gR gR,aK M1 M1,ac e.tx e.tx,aK M2 M2,am n n,ax n (mO o) (mO o),ac a a',ac b b',ac c c',ac d d',ac x x',ac y y',ac z z',am k k',ax k (mO dd) gd']))))))):=by kernel_rfl
theorem ati(A:Prim)(W:Wd)(n m:Nat)(o:Nat->Oj)(many:Int)(gR:Nat->List Sh)(M1 M2:Int->Option Value)(e:Ev)(many':Int):(run (C5 A W qw oN) 700 ah 78 [.code []] (LA 5 e (hpA n m o many gR M1 M2 [(e.tx,ag,.any)] []))).bind (toEnd [toN n m o many' gR M1 M2 [(e.tx,ag,.any)] []])=aq (A.eq many (ab 400)) (ap (bc (aX 6 288),0,[ac many many',am m m,ax m gR gR,aK M1 M1,ac e.tx e.tx,aK M2 M2,am n n,ax n (mO o) (mO o)])) (al (oQ {kind:=ab 5,tx:=e.tx,thread:=e.thread,obj:=e.obj,op:=e.op,key:=e.key,val:=e.val,ret:=e.ret}) (al (A.eq e.tx e.tx) (ap (bc (aX 12 288),0,[ac many many',am m m,ax m gR gR,aK M1 M1,ac e.tx e.tx,aK M2 M2,am n n,ax n (mO o) (mO o)])))):=by kernel_rfl
theorem anE(A:Prim)(W:Wd)(n m:Nat)(o:Nat->Oj)(many:Int)(gR:Nat->List Sh)(M1 M2:Int->Option Value)(e:Ev)(a b c d x y z:Int)(k:Nat)(dd:Nat->De)(many' a' b' c' d' x' y' z':Int)(k':Nat)(gd':Nat->List Sh):(run (C5 A W qw oN) 700 ah 78 [.code []] (LA 6 e (hpA n m o many gR M1 M2 [(e.tx,ah,.ptr 4 0)] []++ZW a b c d x y z k (mO dd)))).bind (toEnd [toR n m o gR M1 M2 e many' a' b' c' d' x' y' z' k' gd' [],toR n m o gR M1 M2 e many' a' b' c' d' x' y' z' k' gd' [(b,ag,.any)]])=aq (A.eq many (ab 400)) (ap (bc (aX 6 288),0,[ac many many',am m m,ax m gR gR,aK M1 M1,ac e.tx e.tx,aK M2 M2,am n n,ax n (mO o) (mO o),ac a a',ac b b',ac c c',ac d d',ac x x',ac y y',ac z z',am k k',ax k (mO dd) gd'])) (al (oQ {kind:=ab 6,tx:=e.tx,thread:=e.thread,obj:=e.obj,op:=e.op,key:=e.key,val:=e.val,ret:=e.ret}) (al (A.eq e.tx e.tx) (aR [ac e.tx e.tx,ac e.thread e.thread,ac e.obj e.obj,ac e.op e.op,ac e.key e.key,ac e.val e.val,ac e.ret e.ret,ac many many,am m m,aF gR gR,aK M1 M1,ac e.tx e.tx,aK M2 M2,am n n,aF (mO o) (mO o),ac a a,ac b b,ac c c,ac d d,ac x x,ac y y,ac z z,am k k,aF (mO dd) (mO dd),ac e.tx e.tx,ac e.thread e.thread,ac e.obj e.obj,ac e.op e.op,ac e.key e.key,ac e.val e.val,ac e.ret e.ret] (aR [ac e.tx e.tx,ac e.thread e.thread,ac e.obj e.obj,ac e.op e.op,ac e.key e.key,ac e.val e.val,ac e.ret e.ret,ac many many,am m m,aF gR gR,aK M1 M1,ac e.tx e.tx,aK M2 M2,am n n,aF (mO o) (mO o),ac a a,ac b b,ac c c,ac d d,ac x x,ac y y,ac z z,am k k,aF (mO dd) (mO dd),ac e.tx e.tx,ac e.thread e.thread,ac e.obj e.obj,ac e.op e.op,ac e.key e.key,ac e.val e.val,ac e.ret e.ret] (aq (A.eq z (ab 1)) (ap (bQ,1,[ac (A.add .i64 many (ab 1)) many',am m m,ax m gR gR,aK M1 M1,ac e.tx e.tx,aK M2 M2,ac b b,am n n,ax n (mO o) (mO o),ac a a',ac b b',ac (ab 4) c',ac d d',ac many x',ac y y',ac (ab 5) z',am k k',ax k (mO dd) gd'])) (aq (A.eq z (ab 2)) (ap (bQ,1,[ac (A.add .i64 many (ab 1)) many',am m m,ax m gR gR,aK M1 M1,ac e.tx e.tx,aK M2 M2,ac b b,am n n,ax n (mO o) (mO o),ac a a',ac b b',ac (ab 4) c',ac d d',ac many x',ac y y',ac (ab 5) z',am k k',ax k (mO dd) gd'])) (aq (A.eq z (ab 3)) (ap (bQ,1,[ac (A.add .i64 many (ab 1)) many',am m m,ax m gR gR,aK M1 M1,ac e.tx e.tx,aK M2 M2,ac b b,am n n,ax n (mO o) (mO o),ac a a',ac b b',ac (ab 4) c',ac d d',ac many x',ac y y',ac (ab 5) z',am k k',ax k (mO dd) gd'])) (aq (A.eq z (ab 4)) (ap (bQ,1,[ac (A.add .i64 many (ab 1)) many',am m m,ax m gR gR,aK M1 M1,ac e.tx e.tx,aK M2 M2,ac b b,am n n,ax n (mO o) (mO o),ac a a',ac b b',ac (ab 4) c',ac d d',ac many x',ac y y',ac (ab 5) z',am k k',ax k (mO dd) gd'])) (ap (bc (aX 13 288),0,[ac many many',am m m,ax m gR gR,aK M1 M1,ac e.tx e.tx,aK M2 M2,am n n,ax n (mO o) (mO o),ac a a',ac b b',ac c c',ac d d',ac x x',ac y y',ac z z',am k k',ax k (mO dd) gd'])))))))))):=by kernel_rfl
theorem atj(A:Prim)(W:Wd)(n m:Nat)(o:Nat->Oj)(many:Int)(gR:Nat->List Sh)(M1 M2:Int->Option Value)(e:Ev)(many':Int):(run (C5 A W qw oN) 700 ah 78 [.code []] (LA 6 e (hpA n m o many gR M1 M2 [(e.tx,ag,.any)] []))).bind (toEnd [toN n m o many' gR M1 M2 [(e.tx,ag,.any)] []])=aq (A.eq many (ab 400)) (ap (bc (aX 6 288),0,[ac many many',am m m,ax m gR gR,aK M1 M1,ac e.tx e.tx,aK M2 M2,am n n,ax n (mO o) (mO o)])) (al (oQ {kind:=ab 6,tx:=e.tx,thread:=e.thread,obj:=e.obj,op:=e.op,key:=e.key,val:=e.val,ret:=e.ret}) (al (A.eq e.tx e.tx) (ap (bc (aX 12 288),0,[ac many many',am m m,ax m gR gR,aK M1 M1,ac e.tx e.tx,aK M2 M2,am n n,ax n (mO o) (mO o)])))):=by kernel_rfl
theorem anF(A:Prim)(W:Wd)(n m:Nat)(o:Nat->Oj)(many:Int)(gR:Nat->List Sh)(M1 M2:Int->Option Value)(e:Ev)(a b c d x y z:Int)(k:Nat)(dd:Nat->De)(many' a' b' c' d' x' y' z':Int)(k':Nat)(gd':Nat->List Sh):(run (C5 A W qw oN) 700 ah 78 [.code []] (LA 7 e (hpA n m o many gR M1 M2 [(e.tx,ah,.ptr 4 0)] []++ZW a b c d x y z k (mO dd)))).bind (toEnd [toR n m o gR M1 M2 e many' a' b' c' d' x' y' z' k' gd' []])=aq (A.eq many (ab 400)) (ap (bc (aX 6 288),0,[ac many many',am m m,ax m gR gR,aK M1 M1,ac e.tx e.tx,aK M2 M2,am n n,ax n (mO o) (mO o),ac a a',ac b b',ac c c',ac d d',ac x x',ac y y',ac z z',am k k',ax k (mO dd) gd'])) (al (oQ {kind:=ab 7,tx:=e.tx,thread:=e.thread,obj:=e.obj,op:=e.op,key:=e.key,val:=e.val,ret:=e.ret}) (al (A.eq e.tx e.tx) (aR [ac e.tx e.tx,ac e.thread e.thread,ac e.obj e.obj,ac e.op e.op,ac e.key e.key,ac e.val e.val,ac e.ret e.ret,ac many many,am m m,aF gR gR,aK M1 M1,ac e.tx e.tx,aK M2 M2,am n n,aF (mO o) (mO o),ac a a,ac b b,ac c c,ac d d,ac x x,ac y y,ac z z,am k k,aF (mO dd) (mO dd),ac e.tx e.tx,ac e.thread e.thread,ac e.obj e.obj,ac e.op e.op,ac e.key e.key,ac e.val e.val,ac e.ret e.ret] (aR [ac e.tx e.tx,ac e.thread e.thread,ac e.obj e.obj,ac e.op e.op,ac e.key e.key,ac e.val e.val,ac e.ret e.ret,ac many many,am m m,aF gR gR,aK M1 M1,ac e.tx e.tx,aK M2 M2,am n n,aF (mO o) (mO o),ac a a,ac b b,ac c c,ac d d,ac x x,ac y y,ac z z,am k k,aF (mO dd) (mO dd),ac e.tx e.tx,ac e.thread e.thread,ac e.obj e.obj,ac e.op e.op,ac e.key e.key,ac e.val e.val,ac e.ret e.ret] (aq (A.eq z (ab 1)) (ap (bQ,0,[ac (A.add .i64 many (ab 1)) many',am m m,ax m gR gR,aK M1 M1,ac e.tx e.tx,aK M2 M2,am n n,ax n (mO o) (mO o),ac a a',ac b b',ac c c',ac d d',ac x x',ac y y',ac (ab 4) z',am k k',ax k (mO dd) gd'])) (ap (bc (aX 13 288),0,[ac many many',am m m,ax m gR gR,aK M1 M1,ac e.tx e.tx,aK M2 M2,am n n,ax n (mO o) (mO o),ac a a',ac b b',ac c c',ac d d',ac x x',ac y y',ac z z',am k k',ax k (mO dd) gd']))))))):=by kernel_rfl
theorem atl(A:Prim)(W:Wd)(n m:Nat)(o:Nat->Oj)(many:Int)(gR:Nat->List Sh)(M1 M2:Int->Option Value)(e:Ev)(many':Int):(run (C5 A W qw oN) 700 ah 78 [.code []] (LA 7 e (hpA n m o many gR M1 M2 [(e.tx,ag,.any)] []))).bind (toEnd [toN n m o many' gR M1 M2 [(e.tx,ag,.any)] []])=aq (A.eq many (ab 400)) (ap (bc (aX 6 288),0,[ac many many',am m m,ax m gR gR,aK M1 M1,ac e.tx e.tx,aK M2 M2,am n n,ax n (mO o) (mO o)])) (al (oQ {kind:=ab 7,tx:=e.tx,thread:=e.thread,obj:=e.obj,op:=e.op,key:=e.key,val:=e.val,ret:=e.ret}) (al (A.eq e.tx e.tx) (ap (bc (aX 12 288),0,[ac many many',am m m,ax m gR gR,aK M1 M1,ac e.tx e.tx,aK M2 M2,am n n,ax n (mO o) (mO o)])))):=by kernel_rfl
theorem atm(A:Prim)(W:Wd)(n m:Nat)(o:Nat->Oj)(many:Int)(gR:Nat->List Sh)(M1 M2:Int->Option Value)(e:Ev)(a b c d x y z:Int)(k:Nat)(dd:Nat->De)(many' a' b' c' d' x' y' z':Int)(k':Nat)(gd':Nat->List Sh):(run (C5 A W qw oN) 700 ah 78 [.code []] (LA 1 e (hpA n m o many gR M1 M2 [(e.tx,ah,.ptr 4 0)] []++ZW a b c d x y z k (mO dd)))).bind (toEnd [toR n m o gR M1 M2 e many' a' b' c' d' x' y' z' k' gd' []])=aq (A.eq many (ab 400)) (ap (bc (aX 6 288),0,[ac many many',am m m,ax m gR gR,aK M1 M1,ac e.tx e.tx,aK M2 M2,am n n,ax n (mO o) (mO o),ac a a',ac b b',ac c c',ac d d',ac x x',ac y y',ac z z',am k k',ax k (mO dd) gd'])) (al (oQ {kind:=ab 1,tx:=e.tx,thread:=e.thread,obj:=e.obj,op:=e.op,key:=e.key,val:=e.val,ret:=e.ret}) (al (A.eq e.tx e.tx) (ap (bc (aX 10 288),0,[ac many many',am m m,ax m gR gR,aK M1 M1,ac e.tx e.tx,aK M2 M2,am n n,ax n (mO o) (mO o),ac a a',ac b b',ac c c',ac d d',ac x x',ac y y',ac z z',am k k',ax k (mO dd) gd'])))):=by kernel_rfl
theorem atn(A:Prim)(W:Wd)(n m:Nat)(o:Nat->Oj)(many:Int)(gR:Nat->List Sh)(M1 M2:Int->Option Value)(e:Ev)(q:Nat)(many':Int):(run (C5 A W qw oN) 700 ah 78 [.code []] (LA 1 e (hpA n m o many gR M1 M2 [(e.tx,ag,.any)] [(e.thread,ah,.val (.pointer (ae ⟨q,0,ao⟩)))]))).bind (toEnd [toN n m o many' gR M1 M2 [(e.tx,ag,.any)] [(e.thread,ah,.val (.pointer (ae ⟨q,0,ao⟩)))]])=aq (A.eq many (ab 400)) (ap (bc (aX 6 288),0,[ac many many',am m m,ax m gR gR,aK M1 M1,ac e.tx e.tx,aK M2 M2,ac e.thread e.thread,dL (bP (ae {block:=q,off:=0})) (bP (ae {block:=q,off:=0})),am n n,ax n (mO o) (mO o)])) (al (oQ {kind:=ab 1,tx:=e.tx,thread:=e.thread,obj:=e.obj,op:=e.op,key:=e.key,val:=e.val,ret:=e.ret}) (al (A.eq e.tx e.tx) (al (A.eq e.thread e.thread) (ap (bc (aX 11 288),0,[ac many many',am m m,ax m gR gR,aK M1 M1,ac e.tx e.tx,aK M2 M2,ac e.thread e.thread,dL (bP (ae {block:=q,off:=0})) (bP (ae {block:=q,off:=0})),am n n,ax n (mO o) (mO o)]))))):=by kernel_rfl
theorem ato(A:Prim)(W:Wd)(n m:Nat)(o:Nat->Oj)(many:Int)(gR:Nat->List Sh)(M1 M2:Int->Option Value)(e:Ev)(many' a' b' c' d' x' y' z':Int):(run (C5 A W qw oN) 700 ah 78 [.code []] (LA 1 e (hpA n m o many gR M1 M2 [(e.tx,ag,.any)] [(e.thread,ag,.any)]))).bind (toEnd [toB n m o gR M1 M2 e many' a' b' c' d' x' y' z'])=aq (A.eq many (ab 400)) Tree.fail (al (oQ {kind:=ab 1,tx:=e.tx,thread:=e.thread,obj:=e.obj,op:=e.op,key:=e.key,val:=e.val,ret:=e.ret}) (al (A.eq e.tx e.tx) (al (A.eq e.thread e.thread) (al (A.room (A.addN m 1) 8) (al (A.eq e.tx e.tx) (al (A.eq e.thread e.thread) (ap (bQ,0,[ac (A.add .i64 many (ab 1)) many',am n n,ax n (mO o) (mO o),am m m,ax m gR gR,aK M1 M1,ac e.tx e.tx,ac e.tx e.tx,ac e.tx e.tx,aK M2 M2,ac e.thread e.thread,ac e.thread e.thread,ac e.thread e.thread,ac e.tx a',ac e.thread b',ac (ab 1) c',ac many d',ac (bW 0) x',ac (bW 0) y',ac (ab 1) z'])))))))):=by kernel_rfl
end Go.oH
namespace Go.oz
open Go Go.Sx
structure Rc where
 id:Int
 th:Int
 st:Int
 bg:Int
 en:Int
 tr:Int
 mV:List De
 stand:Int
structure Au where
 many:Nat
 rs:List Rc
def Au.yt(σ:Au)(k:Int):Option Nat:=σ.rs.findIdx? fun r=>r.id==k
def Rc.live(r:Rc):Bool:=!(r.stand==5)
def Au.Ba(σ:Au)(k:Int):Option Nat:=σ.rs.findIdx? fun r=>r.th==k&&r.live
def uq{α:Type}(f:α->α):List α->List α
 |[]=>[] |[x]=>[f x] |x::y::l=>x::uq f (y::l)
def Rc.step(many:Nat)(e:Ev)(r:Rc):Nat ⊕ Rc:=
 bif e.kind==2 then bif r.stand==1 then .inr {r with stand:=2,mV:=r.mV++[⟨e.obj,e.op,e.key,e.val,0,0,many,-1⟩]} else .inl 13
 else bif e.kind==3 then bif r.stand==2 then bif wO (r.mV.getLast?.getD Row.Ad).op e.ret then .inr {r with stand:=1,mV:=uq (fun d=>{d with ret:=e.ret,got:=e.val,back:=many}) r.mV} else .inl 9 else .inl 13
 else bif e.kind==4 then bif r.stand==1 then .inr {r with stand:=3,tr:=many,st:=2} else .inl 13
 else bif e.kind==7 then bif r.stand==1 then .inr {r with stand:=4} else .inl 13
 else bif e.kind==5 then bif r.stand==3 then .inr {r with stand:=5,en:=many,st:=3} else .inl 13
 else bif r.stand==1||r.stand==2||r.stand==3||r.stand==4 then .inr {r with stand:=5,en:=many,st:=4} else .inl 13
def Au.feed(σ:Au)(e:Ev):Option Nat×Au:=
 match σ.yt e.tx with
 |some i=>bif e.kind==1 then (ae 10,σ) else match Rc.step σ.many e (σ.rs.getD i ⟨0,0,0,0,0,0,[],0⟩) with
  | .inl k=>(ae k,σ) | .inr r=>(ao,⟨σ.many+1,σ.rs.set i r⟩)
 |none=>bif e.kind==1 then (match σ.Ba e.thread with
  |some _=>(ae 11,σ) |none=>(ao,⟨σ.many+1,σ.rs++[⟨e.tx,e.thread,1,σ.many,-1,-1,[],1⟩]⟩)) else (ae 12,σ)
structure Au.OK(σ:Au):Prop where
 one:∀(i j:Nat) (r s:Rc),σ.rs[i]?=ae r->σ.rs[j]?=ae s->r.th=s.th->r.live=ah->s.live=ah->i=j
 deed:∀(i:Nat) (r:Rc),σ.rs[i]?=ae r->r.stand=2->r.mV≠[]
 stands:∀(i:Nat) (r:Rc),σ.rs[i]?=ae r->1<=r.stand/\r.stand<=5
 len:σ.rs.length<=σ.many
 dl:∀(i:Nat) (r:Rc),σ.rs[i]?=ae r->r.mV.length<=σ.many
end Go.oz
namespace Go.Sx
open Go.oz
def rW(b:Nat):Value:=.pointer (ae ⟨b,0,ao⟩)
structure Lay where
 p:Nat
 v0:Value
 v2:Value
 b1:Nat
 b2:Nat
 R:Nat->Nat
 D:Nat->Value
inductive Tg where
 |au|tx|DX|bu|ob
 |rc (i:Nat)
 |de (i:Nat)
 deriving DecidableEq
def Lay.blk(L:Lay)(n:Nat):Tg->Option Nat
 | .au=>ae L.p | .tx=>nH L.v2 | .DX=>ae L.b1 | .bu=>ae L.b2 | .ob=>nH L.v0 | .rc i=>if i<n then ae (L.R i) else ao
 | .de i=>if i<n then nH (L.D i) else ao
def Rk(r:Rc)(d:Value):Array Value:=#[.int .i64 r.id,.int .i64 r.th,.int .i64 r.st,.int .i64 r.bg,.int .i64 r.en,.int .i64 r.tr,d,.int .i64 r.stand]
def Yk(d:De):List Value:=[.int .i64 d.obj,.int .i64 d.op,.int .i64 d.key,.int .i64 d.val,.int .i64 d.ret,.int .i64 d.got,.int .i64 d.here,.int .i64 d.back]
structure rF(H:Mem)(w:World)(n0:Nat)(g0:Nat->List Sh)(σ:Au)(L:Lay):Prop where
 au:w.heap[L.p]?=ae (.cells #[L.v0,.int .i64 σ.many,L.v2,.map (ae L.b1),.map (ae L.b2)] 185 (0,0))
 ob:∃xs,w.ownsRow 0 73 2 L.v0 n0 xs/\pG H 2 n0 g0 xs
 tx:w.ownsRow 0 186 1 L.v2 σ.rs.length ((aD σ.rs.length).map fun i=>rW (L.R i))
 DX:∃ms clk,w.heap[L.b1]?=ae (.map ms clk)/\vJ .i64 ms.toList clk fun k=>(σ.yt k).map fun i=>rW (L.R i)
 bu:∃ms clk,w.heap[L.b2]?=ae (.map ms clk)/\vJ .i64 ms.toList clk fun k=>(σ.Ba k).map fun i=>rW (L.R i)
 rc:∀i r,σ.rs[i]?=ae r->w.heap[L.R i]?=ae (.cells (Rk r (L.D i)) 188 (0,0))
 de:∀i r,σ.rs[i]?=ae r->w.ownsRow 0 143 8 (L.D i) r.mV.length (r.mV.flatMap Yk)
 vV:∀s t b,L.blk σ.rs.length s=ae b->L.blk σ.rs.length t=ae b->s=t
 un:∀t b,L.blk σ.rs.length t=ae b->H b=ao
section
variable{H H':Mem}{w w':World}{n0:Nat}{g0:Nat->List Sh}{σ:Au}{L:Lay}
theorem Yl{e st n:Nat}{v:Value}{xs:List Value}{b:Nat}(h:w.ownsRow 0 e st v n xs)(hb:nH v=ae b):b<w.heap.size:=by
 rcases h.2 with ⟨rfl,_⟩ |⟨g,cap,cur,rfl,_,hg,_⟩
 ·cases hb
 ·cases hb
  grind
theorem rF.lt(h:rF H w n0 g0 σ L){t:Tg}{b:Nat}(hb:L.blk σ.rs.length t=ae b):b<w.heap.size:=by
 cases t with
 |au=>cases hb;exact (aI.1 h.au).1 |tx=>exact Yl h.tx hb |DX=>cases hb;obtain ⟨ms,clk,h1,_⟩:=h.DX;grind |bu=>cases hb;obtain ⟨ms,clk,h1,_⟩:=h.bu;grind |ob=>obtain ⟨xs,h1,_⟩:=h.ob;exact Yl h1 hb |rc i=>
  simp only[Lay.blk] at hb;split at hb
  ·rename_i hi
   cases hb;exact (aI.1 (h.rc i _ (aC hi))).1
  ·cases hb
 |de i=>
  simp only[Lay.blk] at hb;split at hb
  ·rename_i hi
   exact Yl (h.de i _ (aC hi)) hb
  ·cases hb
theorem rF.keep(h:rF H w n0 g0 σ L)(hH:H.le H')(hw:∀t b,L.blk σ.rs.length t=ae b->w'.heap[b]?=w.heap[b]?)(hu:∀t b,L.blk σ.rs.length t=ae b->H' b=ao):rF H' w' n0 g0 σ L:=by
 refine ⟨by rw[hw .au _ rfl];exact h.au,(let ⟨xs,h1,h2⟩:=h.ob;⟨xs,xu h1 fun b hb=>hw .ob b hb,h2.le hH⟩),xu h.tx fun b hb=>hw .tx b hb,?_,?_,fun i r hi=>?_,fun i r hi=>xu (h.de i r hi) fun b hb=>hw (.de i) b ?_,h.vV,hu⟩
 ·obtain ⟨ms,clk,h1,h2⟩:=h.DX
  exact ⟨ms,clk,by rw[hw .DX _ rfl];exact h1,h2⟩
 ·obtain ⟨ms,clk,h1,h2⟩:=h.bu
  exact ⟨ms,clk,by rw[hw .bu _ rfl];exact h1,h2⟩
 ·have hlt:=(aJ.1 hi).1
  rw[hw (.rc i) _ (by simp[Lay.blk,hlt])];exact h.rc i r hi
 grind [aJ,Lay.blk]
end
end Go.Sx
