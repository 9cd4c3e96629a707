/- Own work. -/
import Derived.Test.YtemojddccikgkaaGreatDoorB10
open Int (ofNat)
open And renaming intro->aW
open Bool renaming true->ah,false->ag,and_eq_true->ak
open Classical renaming propDecidable->ay
open Go.IntKind renaming i64->az
open Go.Lib renaming joinTail->eA,join_cons->fF
open Go.oz renaming mO->aE,nth->aQ
open Go.oz.Au renaming nil->c8
open Go.oz.Rc renaming step->bD
open Go.oz.Row renaming Ad->dk
open Go.Proofs renaming room_le->eK,W7->mJ,aew->mK
open Go.Proofs.C7 renaming Hq->cO
open Go.Proofs.Tryz renaming fns->fi,prog->ai,fnsAre_->cu,entersB_->cI,f116->jQ,f55->ky,f60->lQ,f59->gf,f43->gh
open Go.Sx.oM renaming int->ac,nat->am,get->ax
open Go.Sx.pI renaming ret->ar,at_->aH
open Go.Sx.It renaming code->aA,inBlock->aM,reg->fT
open Go.Sx.SB renaming box->dZ,fm->gb
open Go.Sx.SV renaming sS->bQ,sh->bc,agg->dX,ptr->dY,nS->d7,mp->iK
open Go.Sx.Sh renaming i->av,mX->aL,agg->aN,sl->aj,os->bS
open Int renaming ofNat->ab,toNat->iY,toNat_natCast->bm
open List renaming takeWhile->dV,range->aD,length_map->ck,pairwise_cons->iW,all_eq_true->bh,map_set->lP,mem_of_mem_drop->dw,drop_sublist->jp,mem_append->aU,map_take->kT,map_drop->kU,mem_of_mem_take->iu,mem_cons->fD,flatMap_map->fV,mem_range->bI,cons_append->jO,map_append->gM,map_singleton->iX,not_mem_nil->jP,append_cancel_left->cY,append_nil->bR,append_assoc->cA,mem_of_getElem?->aT,mem_iff_getElem?->bl
open List.Sublist renaming append->mj
open Nat renaming le_succ_of_le->gn,le_refl->aV,sub_self->dh,zero_add->cy,blt->bO
open Option renaming some->ae,none->ao
open UInt8 renaming ofNat->iG
namespace Go.Pl
open Go Go.Sx Go.Proofs
open Go.oz (Ev Hr De Rc)
def an6:List Sh->Tree Sh
 |[s,.agg l]=>match qp 2 s,Go.oz.Ve l with
  |some (n,g),ae e=>.need (okB Oj n g) (.need (decide (F8 n (mP g) e=0)) (.leaf (.v (.int .i64 0)))) |_,_=>.fail
 |_=>.fail
def uX:Nat->Option (List Sh->Tree Sh)
 |26=>ae F57 |49=>ae an6 |52=>ae (F87 fdX) |69=>ae (F87 byX) |92=>ae an2 |93=>ae an4 |53=>ae F88 |71=>ae (F2B Go.oz.wO) |_=>ao
def uw(tx:Nat->Rc):Nat->List Sh:=fun j=>[.i .i64 (tx j).id,.i .i64 (tx j).th,.i .i64 (tx j).st,.i .i64 (tx j).bg,.i .i64 (tx j).en,.i .i64 (tx j).tr,.sl 8 (tx j).mV.length (aE (aQ (tx j).mV))]
end Go.Pl
namespace Go.Proofs
open Go Go.Sx Go.Pl
open Go.oz (Ev Hr De Rc)
noncomputable def yS(A:Prim)(W:Wd)(spec:Nat->Option (List Sh->Tree Sh))(stop:Nat->List Nat->Bool):Ctx:=
 {A,tys:=Tryz.tys,fns:=fi,spec,eqs:=[212,58],Ox:=[288],Cm:=stop,gls:=nJ W,live:=Tryz.live,VB:=[114],Wv:=aiD,lend:=fun g=>g==52||g==69||g==92||g==93}
instance yS.ok(spec:Nat->Option (List Sh->Tree Sh))(stop:Nat->List Nat->Bool):oC ai (yS mM W7 spec stop):=
 ⟨QE Tryz.tysB_,Fv cu,rfl,Tryz.mixed_,fun t i h hi xs ys w h1 h2 x y=>Ns (FB amD t i h hi) xs ys w h1 h2 x y,Lm amE,aew⟩
theorem yS.Hq{spec:Nat->Option (List Sh->Tree Sh)}{stop:Nat->List Nat->Bool}(hs:∀g F,spec g=ae F->nD ai (nJ W7) g F)(he:∀g,(spec g).isSome=ah->(fi.get g).isSome=ah):oD ai (yS mM W7 spec stop):=
 ⟨hs,fun g h=>by
  rcases h with h|h
  ·exact uz cu cI g (he g h)
  ·exact uz cu cI g h,fun _ _ _ h=>(by cases h),fun _ _ _ h=>(by cases h)⟩
theorem an7{H H':Mem}{w w':World}{v:Value}{k:IntKind}{c:Int}(r:qy H w (.i k c) v H' w'):qy H w (.v (.int k c)) v H' w':=
 ⟨r.x9,r.on,r.os,r.tape,r.output,r.size,r.old,r.fresh,r.res⟩
theorem Uc{P:Program}{gls:List (Nat×Sh)}{g:Nat}{F G:List Sh->Tree Sh}(hF:nD P gls g F)(h:∀(nY:List Sh) (φ:Sh->Prop),(G nY).All φ->∃(k:IntKind) (c:Int),φ (.v (.int k c))/\(F nY).All fun s=>s=.i k c):nD P gls g G:=by
 intro H w nY args φ hon hg hr hφ;obtain ⟨k,c,h1,h2⟩:=h nY φ hφ;refine (hF H w nY args _ hon hg hr h2).mono fun e w' ⟨v,s,H',he,hs,r⟩=>?_;subst hs;exact ⟨v,_,H',he,h1,an7 r⟩
theorem avR:nD ai (nJ W7) 49 an6:=Uc O84 fun nY φ h=>by
 unfold an6 at h;split at h
 ·split at h
  ·rename_i e1 e2
   obtain ⟨ha,hc,hφ⟩:=h;refine ⟨.i64,0,hφ,?_⟩;unfold F84;simp only[e1,e2];refine ⟨ha,?_⟩;show av .i64 _=_;simp_all
  ·exact h.elim
 ·exact h.elim
theorem JL(stop:Nat->List Nat->Bool):oD ai (yS mM W7 uX stop):=yS.Hq (fun g F h=>by
 unfold uX at h;split at h
 ·cases h;exact O57
 ·cases h;exact avR
 ·cases h;exact O87
 ·cases h;exact avN
 ·cases h;exact avO
 ·cases h;exact avP
 ·cases h;exact O88
 ·cases h;exact avn
 ·cases h) fun g h=>by
 unfold uX at h;split at h;all_goals first|(cases h;done) |kernel_rfl
def vO:List It:=[aA [0,1,0,1,1,1,1],aM 0,aA [1,1,1,1,1]]
def avS:List It:=aA [0,0,1,0,1,1,1,1]::vO
def wJ(n:Nat)(o:Nat->Oj)(m:Nat)(ev:Nat->List Sh)(k:Nat)(G:Nat->List Sh)(c:Nat)(gc:Nat->List Sh)(ft:Int)(fk:Nat)(fg:Nat->List Sh)(i q:Int):Core:=
 {tm:=sK 38 [(1,.ptr 0 0),(2,.nS),(3,.ptr 1 0),(4,.ptr 2 0),(5,.ptr 3 0),(6,.sym .i64 i)],
  hp:=[(0,.box [.sh (.sl 2 n (mO o)),.sh (.sl 8 m ev)] 25),(1,.box [.int .i64 0,.nS] 34),(2,.box [.sym .i64 ft,.sh (.sl 1 fk fg)] 34),(3,.box [.sh (.sl 2 n (mO o)),.gs 4,.gs 5,.sym .i64 q] 96),(4,.own 106 7 k G),(5,.own 3 1 c gc)],nx:=6,lim:=L0,tc:=[]}
end Go.Proofs
namespace Go.Pl
open Go Go.Sx
def FT(s t:oO):Bool:=decide (s=t)
open Go Go.Sx Go.Proofs
structure Rf where
 kind:Int
 num:Int
 keys:List Int
 vals:List Int
 deriving DecidableEq,Inhabited
def KH(s:Rf):List Sh:=[.i .i64 s.kind,.i .i64 s.num,.sl 1 (len s.keys) (mO (nth s.keys)),.sl 1 (len s.vals) (mO (nth s.vals))]
def rD(d:Nat->Rf):Nat->List Sh:=fun j=>KH (d j)
def xQ(o:Nat->Oj)(j:Nat):Rf:=⟨(o j).kind,(o j).init,[],[]⟩
def nT(l:List Int)(key:Int):Nat:=(l.takeWhile fun p=>decide (p<key)).length
def hasK(l:List Int)(key:Int):Bool:=decide (nT l key<l.length)&&(nth l (nT l key)==key)
def isL(l:List Int)(a:Nat)(g:Nat->List Sh):Bool:=okB Int a g&&decide (lst Int a g=l/\l.length<=1000000000)
def uQ(kind num op k v:Int):Int:=
 if kind=0\/uO op≠kind then 111
 else if (keyed op=ag/\k≠0)\/k<0\/1000<k\/(valued op=ag/\v≠0)\/v < -1000000000\/1000000000<v then 110
 else if op=3/\(A8 num v < -1000000000000000\/1000000000000000<A8 num v) then 110
 else 0
def isC(x y op k v c:Int):Bool:=decide (uQ x y op k v=c)
def Ah(n:Nat)(g:Nat->List Sh):Bool:=okB Int n g&&pq n 8
def vP(g:Nat->List Sh):Nat->List Sh:=mO (mP (α:=Int) g)
theorem Yx:∀{l:List Int} {key:Int} {i:Nat},i<=l.length->(∀j,j<i->nth l j<key)->(i<l.length->¬nth l i<key)->nT l key=i
 |[],key,i,h,_,_=>by simp at h;subst h;rfl |a::l,key,0,_,_,h2=>by
  have:=h2 (by simp);have:¬a<key:=this;simp_all [nT]
 |a::l,key,i+1,h,h1,h2=>by
  have h0:a<key:=h1 0 (by omega);have ih:=Yx (l:=l) (key:=key) (i:=i) (by simpa using h) (fun j hj=>h1 (j+1) (by omega)) (fun hi=>h2 (by grind));simp_all [nT,dV,decide_true,List.length_cons]
theorem an8(l:List Int)(key:Int):nT l key<=l.length:=by grind [nT,List.takeWhile_prefix]
def JM(s:Rf)(op k v:Int):Rf×Int×Int:=
 if op=1\/op=4 then (s,3,s.num)
 else if op=2 then ({s with num:=v},1,0)
 else if op=3 then ({s with num:=A8 s.num v},1,0)
 else if op=5 then ({s with vals:=s.vals++[v]},1,0)
 else if op=6 then ({s with vals:=s.vals.tail},Oe s.vals.length,s.vals.headD 0)
 else if op=7 then (if hasK s.keys k=ah then {s with vals:=s.vals.set (nT s.keys k) v} else {s with keys:=s.keys.take (nT s.keys k)++k::s.keys.drop (nT s.keys k),vals:=s.vals.take (nT s.keys k)++v::s.vals.drop (nT s.keys k)},1,0)
 else if op=8 then (s,if hasK s.keys k=ah then 3 else 2,if hasK s.keys k=ah then nth s.vals (nT s.keys k) else 0)
 else if op=9 then (if hasK s.keys k=ah then {s with keys:=s.keys.take (nT s.keys k)++s.keys.drop (nT s.keys k+1),vals:=s.vals.take (nT s.keys k)++s.vals.drop (nT s.keys k+1)} else s,if hasK s.keys k=ah then 3 else 2,if hasK s.keys k=ah then nth s.vals (nT s.keys k) else 0)
 else (s,0,0)
def ahi(r:Rf×Int×Int):Sh:=.mX [.agg (KH r.1),.i .i64 r.2.1,.i .i64 r.2.2,.i .i64 0]
def ai2(a b:Nat):Bool:=decide (a<=100000/\b<=100000)
def an9(x:Int)(a b:Nat):Bool:=!decide (x=4)||decide (a=b)
def II(n:Nat)(g:Nat->List Sh)(l:List Int):Prop:=n=l.length/\∀i,i<n->g i=mO (nth l) i
theorem qR(l:List Int):II (len l) (mO (nth l)) l:=⟨rfl,fun _ _=>rfl⟩
theorem qG{n:Nat}{o:Nat->Int}{l:List Int}(h:II n (mO o) l):II n (vP (mO o)) l:=h
theorem xw{l:List Int}{p:Nat}(h:p<=l.length):II p (mO (nth l)) (l.take p):=⟨by simp;omega,fun i hi=>by simp[mO,nth,hi]⟩
theorem xI{l:List Int}{q n:Nat}(h:q<=l.length)(hn:n=l.length - q):II n (mO fun j=>nth l (q+j)) (l.drop q):=⟨by simp[hn],fun i hi=>by simp[mO,nth,List.getElem?_drop]⟩
theorem Ud(v:Int):II 1 (nM [[av .i64 v]]) [v]:=⟨rfl,fun i hi=>by
 obtain rfl:i=0:=by omega
 rfl⟩
theorem Dq{n m:Nat}{g h:Nat->List Sh}{l r:List Int}(h1:II n g l)(h2:II m h r):II (n+m) (mM.snoc g n h) (l++r):=by
 obtain ⟨rfl,h1⟩:=h1;obtain ⟨rfl,h2⟩:=h2;refine ⟨by simp,fun i hi=>?_⟩;rw[rH];(split)<;>grind [mO,nth,List.getElem?_append_left,List.getElem?_append_right,Nat.le_of_not_lt]
theorem akD{l:List Int}{p:Nat}(v:Int)(h:p<l.length):II (len l) (mM.upd (mO (nth l)) p 0 [av .i64 v]) (l.set p v):=by
 refine ⟨by simp[len],fun i hi=>?_⟩;rw[ER];by_cases e:i=p
 ·subst e
  simp[mO,nth,h];rfl
 simp_all [mO,nth,Ne.symm]
theorem zH{n:Nat}{g:Nat->List Sh}{l:List Int}(h:II n g l)(hn:n<=1000000):Ah n g=ah:=by
 unfold Ah;rw[ak];exact ⟨Jv (o:=nth l) fun i hi=>h.2 i hi,eK hn (by omega)⟩
noncomputable def aa7(d:Nat->Rf)(n:Nat)(g:Nat->List Sh):Bool:=@decide (∀j,j<n->g j=KH (d j)) (ay _)
noncomputable def isR(r:Rf)(x y:Int)(s2 s3:Sh):Bool:=@decide ([.i .i64 x,.i .i64 y,s2,s3]=KH r) (ay _)
def Ht(r:Rf)(op k v:Int):Rf:=(JM r op k v).1
def opR(r:Rf)(op k v:Int):Int:=(JM r op k v).2.1
def opV(r:Rf)(op k v:Int):Int:=(JM r op k v).2.2
def wfU(r:Rf):Bool:=ai2 r.keys.length r.vals.length&&an9 r.kind r.keys.length r.vals.length
def JO(k:Int):List UInt8:=mJ 16 (k - 1).toNat
def qU(r:List Int)(j:Nat):List UInt8:=(aD j).flatMap fun i=>32::oq (nth r i)
def pU(l r:List Int)(j:Nat):List UInt8:=(aD j).flatMap fun i=>32::(oq (nth l i)++58::oq (nth r i))
def IJ(s:Rf):List UInt8:=if s.kind=0 then [] else JO s.kind++(if s.kind<=2 then 32::oq s.num else if s.kind=3 then qU s.vals s.vals.length else pU s.keys s.vals s.vals.length)
noncomputable def rowB(l:List Sh):Bool:=@decide (∃r:Rf,l=KH r) (ay _)
theorem Gu{H:Mem}{l l':List Sh}{v:Value}(hv:Rep H (.agg l) v)(hl:l'.length=l.length)(h:∀(j:Nat) (s s':Sh),l[j]?=ae s->l'[j]?=ae s'->∀u,Rep H s u->Rep H s' u):Rep H (.agg l') v:=by
 cases hv with
 |agg _ vs h3 h4=>
  refine .agg _ vs (by omega) fun j s' v' e1 e2=>?_
  grind
def Hu(d:Nat->Rf):Nat->List UInt8
 |0=>[] |k+1=>Hu d k++((if k=0 then [] else [59,32])++IJ (d k))
def Ot(n:Nat)(d:Nat->oO):List UInt8:=aaS ((aD n).map d)
def qV(n:Nat)(d:Nat->oO)(m:Nat)(f:Nat->Rf):Bool:=(Ot n d==Hu f m)&&((n:Int)==(m:Int))
def okM(n:Nat)(f:Nat->Rf)(i op k v:Int):Bool:=wM n i&&isC (f i.toNat).kind (f i.toNat).num op k v 0
def Yy(n:Nat)(f:Nat->Rf)(i op k v:Int):Int:=if wM n i=ah then uQ (f i.toNat).kind (f i.toNat).num op k v else 109
def aob(n:Nat)(f:Nat->Rf)(i:Int):Bool:=!wM n i||wfU (f i.toNat)
def toR(s:oO):Rf:=⟨s.kind,s.num,s.ps.map (·.key),s.q++s.ps.map (·.val)⟩
theorem ET(ps:List Pr)(k:Int):nT (ps.map (·.key)) k=pR ps k:=by
 unfold nT pR;rw[List.takeWhile_map,ck];rfl
theorem arg_eq(x y op k v:Int):uQ x y op k v=if yN x op=ah then 111 else if zC x y op k v=ah then 110 else 0:=by
 by_cases h1:x=0\/uO op≠x
 ·simp_all [yN,uQ]
 ·have hx:x≠0/\uO op=x:=⟨fun e=>h1 (.inl e),Classical.byContradiction fun e=>h1 (.inr e)⟩
  have:¬yN x op=ah:=by
   simp_all [yN]
  rw[if_neg this];unfold uQ;rw[if_neg h1];have h3:op=3->x=2:=fun e=>by rw[<-hx.2,e];decide
  have e1:(zC x y op k v=ah)↔((keyed op=ag/\k≠0)\/k<0\/1000<k\/(valued op=ag/\v≠0)\/v < -1000000000\/1000000000<v)\/(op=3/\(A8 y v < -1000000000000000\/1000000000000000<A8 y v)):=by
   grind [zC,Ae,keyed,valued]
  grind
theorem afc(ps:List Pr){i:Nat}(h:i<ps.length):nth (ps.map (·.key)) i=(nth ps i).key:=by simp[nth,h]
theorem Yz(ps:List Pr){i:Nat}(h:i<ps.length):nth (ps.map (·.val)) i=(nth ps i).val:=by simp[nth,h]
theorem Ru:∀{ps:List Pr} {k:Int},(ps.Pairwise fun a b=>a.key<b.key)->(sW ps k=ah↔pR ps k<ps.length/\(nth ps (pR ps k)).key=k)
 |[],k,_=>by simp[sW,pR] |a::ps,k,h=>by
  rw[iW] at h;have ih:=Ru (ps:=ps) (k:=k) h.2;by_cases hk:a.key<k
  ·grind [pR,dV,sW,nth]
  ·have e:pR (a::ps) k=0:=by simp_all [pR]
   rw[e];constructor
   ·intro q
    refine ⟨by simp,?_⟩;show a.key=k;grind [sW]
   ·intro ⟨_,q⟩
    have q:a.key=k:=q;simp[sW,q]
theorem ND{ps:List Pr}{k:Int}(h:ps.Pairwise fun a b=>a.key<b.key):hasK (ps.map (·.key)) k=sW ps k:=by
 have e:hasK (ps.map (·.key)) k=ah↔sW ps k=ah:=by
  rw[Ru h];unfold hasK;simp_all [ET,ak,decide_eq_true_eq,ck,beq_iff_eq,afc]
 simp_all
theorem YA{ps:List Pr}:JC ps=ah↔(ps.Pairwise fun a b=>a.key<b.key)/\∀p∈ps,0<=p.key/\p.key<=1000:=by
 simp_all [JC,ak,decide_eq_true_eq,bh]
theorem afd{ps:List Pr}{k v:Int}(hs:ps.Pairwise fun a b=>a.key<b.key)(h:sW ps k=ah):(vH ps k v).map (·.key)=ps.map (·.key):=by
 obtain ⟨h1,h2⟩:=IC hs h;grind [acn,lP,set,pR,List.set_getElem_self]
theorem aoc{ps:List Pr}{k v:Int}(h:JC ps=ah)(hk:0<=k/\k<=1000):JC (vH ps k v)=ah:=by
 rw[YA] at h ⊢;obtain ⟨hs,hb⟩:=h;cases hh:sW ps k with
 |true=>
  have e:=afd (v:=v) hs hh;refine ⟨?_,fun p hp=>?_⟩
  ·have:(ps.map (·.key)).Pairwise (·<·):=List.pairwise_map.2 hs
   grind
  grind [vH]
 |false=>
  rw[acj hh];have hl:=aeK ps k;have hg:=aeL (key:=k) hs;have hn:∀p∈ps,p.key≠k:=fun p hp e=>by
   simp_all [sW]
  have ht:∀p∈ps.take (pR ps k),p.key<k:=fun p hp=>by
   grind [List.mem_take_iff_getElem]
  have hd:∀p∈ps.drop (pR ps k),k<p.key:=fun p hp=>by
   grind [List.mem_drop_iff_getElem,pR,dw]
  (refine ⟨List.pairwise_append.2 ⟨hs.sublist (List.take_sublist _ _),iW.2 ⟨fun p hp=>hd p hp,hs.sublist (jp _ _)⟩,fun a ha b hb=>?_⟩,fun p hp=>?_⟩)<;>grind
theorem aod{ps:List Pr}{k:Int}(h:JC ps=ah):JC (xk ps k)=ah:=by
 cases hh:sW ps k with
 |false=>grind [aco] |true=>
  rw[acp hh];rw[YA] at h ⊢;have sub:(ps.take (pR ps k)++ps.drop (pR ps k+1)).Sublist ps:=by
   grind [List.take_append_drop,pR,mj,List.drop_drop,jp]
  grind
structure xR(m:Nat)(s:oO):Prop where
 kind:1<=s.kind/\s.kind<=4
 q0:s.kind≠3->s.q=[]
 p0:s.kind≠4->s.ps=[]
 wf:JC s.ps=ah
 num:-1000000000000000<=s.num/\s.num<=1000000000000000
 qv:∀x∈s.q,-1000000000<=x/\x<=1000000000
 pv:∀p∈s.ps,-1000000000<=p.val/\p.val<=1000000000
 ql:s.q.length<=m
 pl:s.ps.length<=m
 n0:2<s.kind->s.num=0
theorem acE{x y op k v:Int}(h:uQ x y op k v=0):(x≠0/\uO op=x)/\(0<=k/\k<=1000)/\(-1000000000<=v/\v<=1000000000)/\(op=3->-1000000000000000<=A8 y v/\A8 y v<=1000000000000000):=by
 grind [uQ]
theorem aa8{x y op k v:Int}(h:uQ x y op k v=0):op=1\/op=2\/op=3\/op=4\/op=5\/op=6\/op=7\/op=8\/op=9:=by
 obtain ⟨⟨q1,q2⟩,_⟩:=acE h;grind [uO]
theorem aa9{m:Nat}{s:oO}{op k v:Int}(h:xR m s)(ha:uQ s.kind s.num op k v=0):Ht (toR s) op k v=toR (sG s op k v).1/\xR (m+1) (sG s op k v).1:=by
 obtain ⟨⟨k0,hk⟩,⟨b1,b2⟩,bv,bs⟩:=acE ha;have hop:=aa8 ha;have h':xR (m+1) s:={h with ql:=gn h.ql,pl:=gn h.pl}
 obtain ⟨kind,num,q,ps⟩:=s;rcases hop with rfl|rfl|rfl|rfl|rfl|rfl|rfl|rfl|rfl
 ·exact ⟨rfl,h'⟩
 ·exact ⟨rfl,{h' with num:=⟨by show _<=v;omega,by show v<=_;omega⟩,n0:=fun e=>by have hk:(1:Int)=kind:=hk;have e:2<kind:=e;omega}⟩
 ·exact ⟨rfl,{h' with num:=bs rfl,n0:=fun e=>by have hk:(2:Int)=kind:=hk;have e:2<kind:=e;omega}⟩
 ·exact ⟨rfl,h'⟩
 ·have hk:(3:Int)=kind:=hk
  subst hk;have hp:ps=[]:=h.p0 (show (3:Int)≠4 by decide);subst hp;refine ⟨by simp[Ht,JM,sG,toR],{h' with q0:=fun e=>absurd rfl e,qv:=fun x hx=>?_,ql:=?_}⟩
  ·have hx:x∈q++[v]:=hx
   rcases aU.1 hx with hx|hx
   ·exact h.qv x hx
   simp_all
  ·show (q++[v]).length<=m+1
   have:=h.ql;simp_all
 ·have hk:(3:Int)=kind:=hk
  subst hk;have hp:ps=[]:=h.p0 (show (3:Int)≠4 by decide);subst hp;refine ⟨by simp[Ht,JM,sG,toR],{h' with q0:=fun e=>absurd rfl e,qv:=fun x hx=>h.qv x (List.mem_of_mem_tail hx),ql:=?_}⟩
  show q.tail.length<=m+1;have:=h.ql;grind
 ·have hk:(4:Int)=kind:=hk
  subst hk;have hq:q=[]:=h.q0 (show (4:Int)≠3 by decide);subst hq;have hs:=vN h.wf;refine ⟨?_,{h' with p0:=fun e=>absurd rfl e,wf:=aoc h.wf ⟨b1,b2⟩,pv:=fun p hp=>?_,pl:=?_}⟩
  ·show (if hasK (ps.map (·.key)) k=ah then (_:Rf) else _)=⟨4,num,(vH ps k v).map (·.key),[]++(vH ps k v).map (·.val)⟩
   rw[ND hs];cases hh:sW ps k with
   |true=>
    rw[if_pos rfl,afd hs hh,acn hh];simp[toR,ET,lP]
   |false=>
    simp_all [acj,toR,ET,kT,kU]
  ·have hp:p∈vH ps k v:=hp
   unfold vH at hp;split at hp
   ·rcases List.mem_or_eq_of_mem_set hp with hp|rfl
    ·exact h.pv p hp
    ·exact bv
   ·rcases aU.1 hp with hp|hp
    ·exact h.pv p (iu hp)
    ·rcases fD.1 hp with rfl|hp
     ·exact bv
     ·exact h.pv p (dw hp)
  ·show (vH ps k v).length<=m+1
   have:=h.pl;grind [X4]
 ·exact ⟨rfl,h'⟩
 ·have hk:(4:Int)=kind:=hk
  subst hk;have hq:q=[]:=h.q0 (show (4:Int)≠3 by decide);subst hq;have hs:=vN h.wf;refine ⟨?_,{h' with p0:=fun e=>absurd rfl e,wf:=aod h.wf,pv:=fun p hp=>?_,pl:=?_}⟩
  ·show (if hasK (ps.map (·.key)) k=ah then (_:Rf) else _)=⟨4,num,(xk ps k).map (·.key),[]++(xk ps k).map (·.val)⟩
   rw[ND hs];cases hh:sW ps k with
   |true=>
    rw[if_pos rfl,acp hh];simp[toR,ET,kT,kU]
   |false=>
    rw[if_neg (by simp),aco hh];rfl
  ·have hp:p∈xk ps k:=hp
   unfold xk at hp;split at hp
   ·rcases aU.1 hp with hp|hp
    ·exact h.pv p (iu hp)
    ·exact h.pv p (dw hp)
   ·exact h.pv p hp
  ·show (xk ps k).length<=m+1
   have:ps.length<=m:=h.pl;rw[aeN (show JC ps=ah from h.wf)];grind
theorem Vk{α:Type}[Row α](l:List α)(F:α->List UInt8):(aD l.length).flatMap (fun i=>F (nth l i))=l.flatMap F:=by
 have:=XO l;grind [fV]
theorem ahm(q:List Int):qU q q.length=q.flatMap fun x=>32::oq x:=Vk q fun x=>32::oq x
theorem ahn(ps:List Pr):pU (ps.map (·.key)) (ps.map (·.val)) ps.length=ps.flatMap fun p=>32::(oq p.key++58::oq p.val):=by
 rw[<-Vk ps fun p=>32::(oq p.key++58::oq p.val)];simp_all [pU,List.flatMap_def,List.map_congr_left,bI,afc,Yz]
theorem YB(l:List (List UInt8)):eA [32] l=l.flatMap fun x=>32::x:=by
 rfl
theorem key_eq{m:Nat}{s:oO}(h:xR m s):keyS s=IJ (toR s):=by
 obtain ⟨kind,num,q,ps⟩:=s;have hk:1<=kind/\kind<=4:=h.kind;unfold keyS Bz rJ;rw[fF,YB];have:kind=1\/kind=2\/kind=3\/kind=4:=by omega
 rcases this with rfl|rfl|rfl|rfl
 ·simp[IJ,toR];rfl
 ·simp[IJ,toR];rfl
 ·have hp:ps=[]:=h.p0 (show (3:Int)≠4 by decide)
  subst hp;have:=ahm q;simp[IJ,toR,this,fV];rfl
 ·have hq:q=[]:=h.q0 (show (4:Int)≠3 by decide)
  subst hq;have:=ahn ps;simp[IJ,toR,this,fV];rfl
theorem aho(l:List (List UInt8))(x sep:List UInt8):rJ (l++[x]) sep=rJ l sep++((if l=[] then [] else sep)++x):=by
 unfold rJ;cases l with
 |nil=>simp[Go.Lib.join_one,Go.Lib.join_nil] |cons a l=>
  simp_all [jO,fF,eA]
theorem keys_eq{m:Nat}{d:Nat->oO}:∀n,(∀j,j<n->xR m (d j))->Ot n d=Hu (fun j=>toR (d j)) n
 |0,_=>rfl |n+1,h=>by
  have ih:=keys_eq n fun j hj=>h j (by omega);unfold Ot aaS at ih ⊢;rw[List.range_succ,gM,gM,iX,iX,aho,ih,Hu,key_eq (h n (by omega))];simp
theorem aoe{m:Nat}{s:oO}(hm:m<=100000)(h:xR m s):DU s=ah:=by
 obtain ⟨⟨k1,k2⟩,_,_,wf,⟨n1,n2⟩,qv,pv,ql,pl,_⟩:=h;have wf:=YA.1 wf;unfold DU;simp only[ak,bh,decide_eq_true_eq];refine ⟨⟨⟨⟨decide_eq_true ⟨by omega,by omega⟩,decide_eq_true ⟨by omega,by omega⟩⟩,fun x hx=>?_⟩,fun p hp=>⟨?_,?_⟩⟩,by omega,by omega⟩
 ·have:=qv x hx;exact decide_eq_true ⟨by omega,by omega⟩
 ·have:=wf.2 p hp;exact decide_eq_true ⟨by omega,by omega⟩
 ·have:=pv p hp;exact decide_eq_true ⟨by omega,by omega⟩
theorem aof{m:Nat}{s:oO}(hm:m<=50000)(h:xR m s):wfU (toR s)=ah:=by
 obtain ⟨_,q0,p0,_,_,_,_,ql,pl,_⟩:=h;unfold wfU;rw[ak];refine ⟨decide_eq_true ?_,?_⟩
 ·grind [toR,ck,List.length_append]
 ·show (!decide (s.kind=4)||decide ((toR s).keys.length=(toR s).vals.length))=ah
  grind [toR]
theorem akE{m n:Nat}{d:Nat->oO}{i op:Int}(hm:m<=50000)(h:∀j,j<n->xR m (d j)):Ye n d i op=ah:=by
 unfold Ye;cases hi:wM n i with
 |false=>rfl |true=>
  have hi:0<=i/\i<n:=of_decide_eq_true hi;obtain ⟨_,_,_,wf,_,_,_,ql,pl,_⟩:=h i.toNat (by omega);show (_&&_)=ah;rw[ak];refine ⟨eK (show (d i.toNat).q.length+1<=_ by omega) (by omega),?_⟩;unfold Dk;rw[Bool.or_eq_true,ak];refine .inr ⟨zB.2 ⟨o9 _ _,show (d i.toNat).ps.length<=_ by omega,?_⟩,eK (show (d i.toNat).ps.length+1<=_ by omega) (by omega)⟩;grind [lst,len,mO,nth,zA]
theorem akF{m n:Nat}{d:Nat->oO}{i:Int}(hm:m<=50000)(h:∀j,j<n->xR m (d j)):aob n (fun j=>toR (d j)) i=ah:=by
 unfold aob;cases hi:wM n i with
 |false=>rfl |true=>
  have hi:0<=i/\i<n:=of_decide_eq_true hi;grind [aof]
theorem afe{o:Nat->Oj}{j:Nat}(h:rV (o j).kind (o j).init=ag):xR 0 (newT o j)/\toR (newT o j)=xQ o j:=by
 unfold rV at h;simp only[Bool.or_eq_false_iff,Bool.not_eq_false',ak,decide_eq_true_eq,decide_eq_false_iff_not] at h;exact ⟨⟨h.1.1.1,fun _=>rfl,fun _=>rfl,(show JC []=ah from rfl),⟨(by show _<=(o j).init;omega),(by show (o j).init<=_;omega)⟩,(fun x hx=>(jP hx).elim),(fun p hp=>(jP hp).elim),aV _,aV _,(fun e=>by have e:2<(o j).kind:=e;show (o j).init=0;have:=h.2;simp at this;omega)⟩,rfl⟩
theorem YC{n:Nat}{d:Nat->oO}{i op k v:Int}:okM n (fun j=>toR (d j)) i op k v=EH n d i op k v:=by
 unfold okM EH;cases hi:wM n i with
 |false=>rfl |true=>
  have e:=arg_eq (d i.toNat).kind (d i.toNat).num op k v;show decide (uQ (d i.toNat).kind (d i.toNat).num op k v=0)=_;grind
open Go.Lib (decDigits itoa)
def arN(l:List UInt8):Nat:=l.foldl (fun a c=>a*10+(c.toNat - 48)) 0
theorem aff{d:Nat}(h:d<10):(iG (48+d)).toNat=48+d:=by
 rw[UInt8.toNat_ofNat'];omega
theorem NG(u:Nat):arN (decDigits u)=u/\(∀c∈decDigits u,48<=c.toNat/\c.toNat<=57)/\decDigits u≠[]:=by
 induction u using Nat.strongRecOn with
 |ind u ih=>
  rw[decDigits];by_cases h:u<10
  ·rw[dif_pos h]
   have:=aff h;refine ⟨?_,fun c hc=>?_,by simp⟩
   ·show 0*10+((iG (48+u)).toNat - 48)=u
    omega
   grind
  ·rw[dif_neg h]
   obtain ⟨q1,q2,q3⟩:=ih (u / 10) (by omega);have:=aff (d:=u % 10) (by omega);grind [arN]
theorem aog{a b:Nat}(h:decDigits a=decDigits b):a=b:=by
 grind [NG]
theorem afg{n:Int}{c:UInt8}(h:c∈oq n):c.toNat=45\/(48<=c.toNat/\c.toNat<=57):=by
 unfold oq itoa at h;split at h
 ·rcases fD.1 h with rfl|h
  ·simp
  grind [NG]
 grind [NG]
theorem NH{a b:Int}(h:oq a=oq b):a=b:=by
 have head (u v:Nat) (h:45::decDigits u=decDigits v):False:=by
  have:(45:UInt8)∈decDigits v:=by grind
  grind [NG]
 grind [oq,itoa,aog]
theorem ai3{z:UInt8}{a r:List UInt8}(ha:z ∉ a)(hr:r=[]\/∃t,r=z::t):(a++r).takeWhile (fun c=>!(c==z))=a:=by
 rw[List.takeWhile_append_of_pos fun c hc=>by
  grind]
 (rcases hr with rfl|⟨t,rfl⟩)<;>simp_all
theorem YD{z:UInt8}{a b r r':List UInt8}(ha:z ∉ a)(hb:z ∉ b)(hr:r=[]\/∃t,r=z::t)(hr':r'=[]\/∃t,r'=z::t)(h:a++r=b++r'):a=b/\r=r':=by
 have h1:=ai3 ha hr;simp_all [ai3]
theorem YE{α:Type}{z:UInt8}{f:α->List UInt8}:∀l:List α,(l.flatMap fun x=>z::f x)=[]\/∃t,(l.flatMap fun x=>z::f x)=z::t
 |[]=>.inl rfl |_::_=>.inr ⟨_,rfl⟩
theorem Ue{α:Type}{z:UInt8}{f:α->List UInt8}(hz:∀x,z ∉ f x)(hf:∀x y,f x=f y->x=y):∀l l':List α,(l.flatMap fun x=>z::f x)=(l'.flatMap fun x=>z::f x)->l=l'
 |[],[],_=>rfl |[],_::_,h=>by cases h |_::_,[],h=>by cases h |a::l,b::l',h=>by
  simp only[List.flatMap_cons,jO] at h;injection h with _ h
  obtain ⟨h1,h2⟩:=YD (hz a) (hz b) (YE l) (YE l') h;rw[hf a b h1,Ue hz hf l l' h2]
theorem IK{n:Int}{z:UInt8}(h:z.toNat=32\/z.toNat=58\/z.toNat=59):z ∉ oq n:=fun hc=>by
 grind [afg]
theorem akG{a b c d:Int}(h:oq a++58::oq b=oq c++58::oq d):a=c/\b=d:=by
 obtain ⟨h1,h2⟩:=YD (z:=58) (IK (by decide)) (IK (by decide)) (.inr ⟨_,rfl⟩) (.inr ⟨_,rfl⟩) h;grind [NH]
theorem akH{m m':Nat}{s t:oO}(hs:xR m s)(ht:xR m' t)(hk:s.kind=t.kind)(hn:s.kind<=2\/s.num=t.num)(h:IJ (toR s)=IJ (toR t)):s=t:=by
 obtain ⟨kind,num,q,ps⟩:=s;obtain ⟨kind',num',q',ps'⟩:=t;have hk:kind=kind':=hk;subst hk;have hkk:1<=kind/\kind<=4:=hs.kind;have hn:kind<=2\/num=num':=hn;have:kind=1\/kind=2\/kind=3\/kind=4:=by omega
 rcases this with rfl|rfl|rfl|rfl
 ·have e1:q=[]:=hs.q0 (show (1:Int)≠3 by decide)
  have e2:q'=[]:=ht.q0 (show (1:Int)≠3 by decide);have e3:ps=[]:=hs.p0 (show (1:Int)≠4 by decide);have e4:ps'=[]:=ht.p0 (show (1:Int)≠4 by decide);subst e1 e2 e3 e4;have h:JO 1++(32::oq num)=JO 1++(32::oq num'):=h;grind [cY,NH]
 ·have e1:q=[]:=hs.q0 (show (2:Int)≠3 by decide)
  have e2:q'=[]:=ht.q0 (show (2:Int)≠3 by decide);have e3:ps=[]:=hs.p0 (show (2:Int)≠4 by decide);have e4:ps'=[]:=ht.p0 (show (2:Int)≠4 by decide);subst e1 e2 e3 e4;have h:JO 2++(32::oq num)=JO 2++(32::oq num'):=h;grind [cY,NH]
 ·have e3:ps=[]:=hs.p0 (show (3:Int)≠4 by decide)
  have e4:ps'=[]:=ht.p0 (show (3:Int)≠4 by decide);subst e3 e4;have hn:num=num':=hn.resolve_left (show ¬(3:Int)<=2 by decide);subst hn;have h:JO 3++qU (q++[]) (q++[]).length=JO 3++qU (q'++[]) (q'++[]).length:=h;have h:=cY h;rw[bR,bR,ahm,ahm] at h;rw[Ue (fun x=>IK (.inl rfl)) (fun x y e=>NH e) q q' h]
 ·have e1:q=[]:=hs.q0 (show (4:Int)≠3 by decide)
  have e2:q'=[]:=ht.q0 (show (4:Int)≠3 by decide);subst e1 e2;have hn:num=num':=hn.resolve_left (show ¬(4:Int)<=2 by decide);subst hn;have h:JO 4++pU (ps.map (·.key)) (ps.map (·.val)) (ps.map (·.val)).length=JO 4++pU (ps'.map (·.key)) (ps'.map (·.val)) (ps'.map (·.val)).length:=h;have h:=cY h;rw[ck,ck,ahn,ahn] at h;have:=Ue (f:=fun p:Pr=>oq p.key++58::oq p.val) (fun x hx=>by
   rcases aU.1 hx with hx|hx
   ·exact IK (.inl rfl) hx
   ·rcases fD.1 hx with hx|hx
    ·cases hx
    ·exact IK (.inl rfl) hx) (fun x y e=>by
   obtain ⟨a,b⟩:=x;obtain ⟨c,d⟩:=y;grind [akG]) ps ps' h
  rw[this]
theorem akI{a b x y:List UInt8}(hx:59 ∉ x)(hy:59 ∉ y)(h:a++59::32::x=b++59::32::y):a=b/\x=y:=by
 have h:=congrArg List.reverse h;simp only[List.reverse_append,List.reverse_cons,cA,List.singleton_append] at h;have h:(x.reverse++[32])++59::a.reverse=(y.reverse++[32])++59::b.reverse:=by simpa using h
 obtain ⟨h1,h2⟩:=YD (z:=59) (by grind) (by grind) (.inr ⟨_,rfl⟩) (.inr ⟨_,rfl⟩) h;simp_all
theorem atw{m:Nat}{s:oO}(hs:xR m s):59 ∉ IJ (toR s):=by
 rw[<-key_eq hs];obtain ⟨kind,num,q,ps⟩:=s;have hkk:1<=kind/\kind<=4:=hs.kind;have hw:59 ∉ uM kind:=by
  have:kind=1\/kind=2\/kind=3\/kind=4:=by omega
  rcases this with rfl|rfl|rfl|rfl<;>decide
 unfold keyS Bz rJ;rw[fF,YB];intro hc;rcases aU.1 hc with hc|hc
 ·exact hw hc
 ·obtain ⟨x,hx,hc⟩:=List.mem_flatMap.1 hc
  have hc:(59:UInt8)∈x:=by
   simp_all
  grind [IK]
theorem abb{m m':Nat}{d e:Nat->oO}:∀n,(∀j,j<n->xR m (d j))->(∀j,j<n->xR m' (e j))->Hu (fun j=>toR (d j)) n=Hu (fun j=>toR (e j)) n->∀j,j<n->IJ (toR (d j))=IJ (toR (e j))
 |0,_,_,_,j,hj=>by omega |n+1,hd,he,h,j,hj=>by
  rw[Hu,Hu] at h;have key:Hu (fun j=>toR (d j)) n=Hu (fun j=>toR (e j)) n/\IJ (toR (d n))=IJ (toR (e n)):=by
   by_cases hn:n=0
   ·subst hn
    rw[if_pos rfl] at h;exact ⟨rfl,h⟩
   ·rw[if_neg hn] at h
    grind [akI,atw]
  by_cases e1:j=n
  ·simp_all
  ·exact abb n (fun j hj=>hd j (by omega)) (fun j hj=>he j (by omega)) key.1 j (by omega)
theorem afh{m m' n:Nat}{d e:Nat->oO}(hd:∀j,j<n->xR m (d j))(he:∀j,j<n->xR m' (e j))(hk:∀j,j<n->(d j).kind=(e j).kind)(h:Ot n d=Ot n e):∀j,j<n->d j=e j:=fun j hj=>by
 rw[keys_eq n hd,keys_eq n he] at h;have:=abb n hd he h j hj;refine akH (hd j hj) (he j hj) (hk j hj) ?_ this;by_cases q:(d j).kind<=2
 ·exact .inl q
 ·exact .inr (by rw[(hd j hj).n0 (by omega),(he j hj).n0 (by simp_all)])
end Go.Pl
namespace Go.Rg
open Go Go.Sx Go.Pl Go.Proofs
def YF:Nat->Option (List Sh->Tree Sh)
 |87=>ae (F1I uO) |115=>ae (F1B keyed) |94=>ae (F1B valued) |_=>ao
def Uf:List It:=[aA [0,0,1,1],aM 0,aA [1,1,1]]
def atx:List It:=aA [0,0,0,1,1]::Uf
def YG(x y:Int)(l r:List Int)(key i:Int):Core:={tm:=sK 38 [(1,.sym .i64 key),(2,.ptr 0 0),(6,.sym .i64 i)],hp:=[(0,.box [.sym .i64 x,.sym .i64 y,.sh (.sl 1 (len l) (mO (nth l))),.sh (.sl 1 (len r) (mO (nth r)))] 100)],nx:=1,lim:=L0,tc:=[]}
def ahp(c:Int):List Sh->Tree Sh
 |[.agg [.i .i64 x,.i .i64 y,s2,s3],t,u,w]=>match qp 1 s2,qp 1 s3,nO t,nO u,nO w with
  |some (a,g),ae (b,h),ae op,ae k,ae v=>.need (okB Int a g) (.need (okB Int b h) (.need (isC x y op k v c) (.leaf (.v (.int .i64 c))))) |_,_,_,_,_=>.fail
 |_=>.fail
def ahq(l:List Int):List Sh->Tree Sh
 |[.agg [.i .i64 _,.i .i64 _,s2,s3],t]=>match qp 1 s2,qp 1 s3,nO t with
  |some (a,g),ae (b,h),ae k=>.need (isL l a g) (.need (okB Int b h) (.leaf (.mX [.i .i64 (ab (nT l k)),.b (hasK l k)]))) |_,_,_=>.fail
 |_=>.fail
def ahr:List Sh->Tree Sh
 |[.sl 1 n g]=>.need (Ah n g) (.leaf (.os 3 1 n (vP g))) |_=>.fail
def uY(c:Int)(l:List Int):Nat->Option (List Sh->Tree Sh)
 |95=>ae (ahp c) |116=>ae (ahq l) |96=>ae ahr |_=>ao
def Eh(x y:Int)(l r:List Int):Sh:=.agg [.i .i64 x,.i .i64 y,.sl 1 (len l) (mO (nth l)),.sl 1 (len r) (mO (nth r))]
def arT(y op v:Int):Int:=bif op==3 then bif decide (A8 y v < -1000000000000000) then 110 else bif decide (1000000000000000<A8 y v) then 110 else 0 else 0
def arV(y op v:Int):Int:=bif decide (v < -1000000000) then 110 else bif decide (1000000000<v) then 110 else arT y op v
def arW(y op v:Int):Int:=bif !(valued op) then bif !(v==0) then 110 else arV y op v else arV y op v
def arK(y op k v:Int):Int:=bif decide (k<0) then 110 else bif decide (1000<k) then 110 else arW y op v
def arM(x y op k v:Int):Int:=bif x==0 then 111 else bif !(uO op==x) then 111 else bif !(keyed op) then bif !(k==0) then 110 else arK y op k v else arK y op k v
theorem atA(x y op k v:Int):arM x y op k v=uQ x y op k v:=by
 unfold arM uQ;by_cases h0:x=0
 ·simp[h0]
 by_cases h1:uO op=x
 ·have e0:(x==0)=ag:=by grind
  rw[if_neg (by simp[h0,h1]),e0];simp only[h1,beq_self_eq_true,Bool.not_true,cond_false];have eT:arT y op v=if op=3/\(A8 y v < -1000000000000000\/1000000000000000<A8 y v) then 110 else 0:=by
   unfold arT;grind
  have eV:arV y op v=if v < -1000000000\/1000000000<v then 110 else arT y op v:=by
   unfold arV;grind
  have eW:arW y op v=if (valued op=ag/\v≠0) then 110 else arV y op v:=by
   unfold arW;grind
  grind [arK,arW]
 grind
def aoi:List Sh->Tree Sh
 |[.agg [.i .i64 x,.i .i64 y,s2,s3],t,u,w]=>match qp 1 s2,qp 1 s3,nO t,nO u,nO w with
  |some (a,g),ae (b,h),ae op,ae k,ae v=>.need (okB Int a g) (.need (okB Int b h) (.leaf (.i .i64 (uQ x y op k v)))) |_,_,_,_,_=>.fail
 |_=>.fail
theorem aqA(stop:Nat->List Nat->Bool):oD ai (C7 mM W7 YF stop):=cO (fun g F h=>by
 unfold YF at h;grind [anh,avm,as2]) fun g h=>by
 unfold YF at h;split at h;all_goals first|(cases h;done) |kernel_rfl
theorem YH{H:Mem}{x y:Int}{s2 s3:Sh}{a b:Nat}{g h:Nat->List Sh}{v:Value}(h2:qp 1 s2=ae (a,g))(h3:qp 1 s3=ae (b,h))(ha:okB Int a g=ah)(hb:okB Int b h=ah)(r:Rep H (.agg [.i .i64 x,.i .i64 y,s2,s3]) v):
  Rep H (Eh x y (lst Int a g) (lst Int b h)) v:=
 yh r (fun _ hu=>yX (nZ h2 hu) ha) (fun _ hu=>yX (nZ h3 hu) hb)
theorem avU:nD ai (nJ W7) 95 aoi:=by
 refine pJ (aqA mZ) 300 400 L0 Tryz.f95 fun H w nY args φ hrep h=>?_
 have hn:Tryz.f95.ntmps=67:=by kernel_rfl
 unfold aoi at h;split at h
 ·rename_i x y s2 s3 t u ww
  split at h
  ·rename_i a g b hh op k v h2 h3 ht hu hw
   obtain ⟨ha,hb,hφ⟩:=h;have hφ:φ (.i .i64 (uQ x y op k v)):=hφ;match args,hrep with
   |[v1,v2,v3,v4],⟨r1,r2,r3,r4,_⟩=>
    refine ⟨[Eh x y (lst Int a g) (lst Int b hh),.i .i64 op,.i .i64 k,.i .i64 v],⟨YH h2 h3 ha hb r1,zD ht r2,zD hu r3,zD hw r4,trivial⟩,?_⟩;have key:∀c:Int,c=uQ x y op k v->up φ (.i .i64 c):=fun c e=>nP (s':=.i .i64 (uQ x y op k v)) (by rw[e];exact rfl) hφ;rw[hn,<-qc];exact ane (arM x y op k v) (key _ (atA x y op k v))
  ·exact h.elim
 ·exact h.elim
theorem atC(c:Int):nD ai (nJ W7) 95 (ahp c):=Uc avU fun nY φ h=>by
 unfold ahp at h;split at h
 ·split at h
  ·rename_i e1 e2 e3 e4 e5
   obtain ⟨ha,hb,hc,hφ⟩:=h;refine ⟨.i64,c,hφ,?_⟩;unfold aoi;simp only[e1,e2,e3,e4,e5];refine ⟨ha,hb,?_⟩;show av .i64 _=_;rw[of_decide_eq_true hc]
  ·exact h.elim
 ·exact h.elim
theorem atD:nD ai (nJ W7) 96 ahr:=by
 intro H w nY args φ hon hg hr hφ;refine O13 H w nY args φ hon hg hr ?_;unfold ahr at hφ;unfold F13;split at hφ
 ·obtain ⟨h1,h2⟩:=hφ
  have h1:(_&&_)=ah:=h1;rw[ak] at h1;exact ⟨h1.1,h1.2,h2⟩
 simp_all
section
variable{H0:Mem}{w0:World}{φ:Sh->Prop}
theorem afi{x y key:Int}{l r:List Int}(hl:l.length<=1000000000)(hφ:φ (.mX [.i .i64 (ab (nT l key)),.b (hasK l key)])):
  ∀m k,k+m=l.length->(∀j,j<k->nth l j<key)->mY ai (C7 mM W7 noSpec mZ) (K0 H0 w0) 116 Uf (YG x y l r key (k:Nat)) [] emp φ
 |m,k,hk,hE=>by
  refine uT jQ atx ?_;refine qg (vk _) 300 400 [⟨116,Uf,YG x y l r key (mM.add .i64 (k:Int) 1),[]⟩] ?_;have fin (hp:nT l key=k) (b:Bool) (hb:hasK l key=b):φ (.mX [.i .i64 (k:Int),.b b]):=by
   simp_all
  have inb (h:mM.lt (k:Int) (mM.nK (len l))=ah):k<l.length:=by grind [mW,ny,len]
  have out (h:mM.lt (k:Int) (mM.nK (len l))=ag):k=l.length:=by grind [mW,ny,len]
  have e1:mM.add .i64 (k:Int) 1=((k+1:Nat):Int):=by
   show az.wrap ((k:Int)+1)=_;grind [pF]
  refine rQ (nd (mM.lt (k:Int) (mM.nK (len l))) (fun h=>an (by simp[nN,len,inb h]:mM.inB (k:Int) (len l)=ah) (nd (mM.lt (nth l k) key) (fun h'=>(?_:mY ai (C7 mM W7 noSpec mZ) (K0 H0 w0) 116 Uf (YG x y l r key (mM.add .i64 (k:Int) 1)) [] emp φ))
   (fun h'=>nd (mM.lt (k:Int) (mM.nK (len l))) (fun _=>an (by simp[nN,len,inb h]:mM.inB (k:Int) (len l)=ah) (?_:φ (.mX [.i .i64 (k:Int),.b (mM.eq (nth l k) key)]))) (fun h2=>(?_:φ (.mX [.i .i64 (k:Int),.b ag]))))))
   (fun h=>nd (mM.lt (k:Int) (mM.nK (len l))) (fun h2=>an (by simp_all:mM.inB (k:Int) (len l)=ah) (?_:φ (.mX [.i .i64 (k:Int),.b (mM.eq (nth l k) key)]))) (fun _=>(?_:φ (.mX [.i .i64 (k:Int),.b ag])))))
  ·rw[show mM.add .i64 (k:Int) 1=((k+1:Nat):Int) from e1]
   have:=inb h;match m,hk with
   |0,hk=>omega |m+1,hk=>
    refine afi hl hφ m (k+1) (by omega) fun j hj=>?_
    grind [mW]
  ·have h:=inb h
   have h':¬nth l k<key:=by grind [mW]
   have hp:=Yx (by omega) hE fun _=>h'
   simp_all [hasK,nG]
  ·simp_all
  ·simp_all
  ·have h:=out h
   have hp:=Yx (l:=l) (key:=key) (i:=k) (by omega) hE (by omega);simp_all [hasK]
end
theorem avV(l:List Int):nD ai (nJ W7) 116 (ahq l):=by
 refine zI (C7 mM W7 noSpec mZ) jQ fun H w nY args φ hrep h=>?_
 have hn:jQ.ntmps=38:=by kernel_rfl
 unfold ahq at h;split at h
 ·rename_i x y s2 s3 t
  split at h
  ·rename_i a g b hh k h2 h3 ht
   obtain ⟨ha,hb,hφ⟩:=h;have ha:(_&&_)=ah:=ha;rw[ak] at ha;obtain ⟨ha,hl⟩:=ha;obtain ⟨hl,hlen⟩:=of_decide_eq_true hl;match args,hrep with
   |[v1,v2],⟨r1,r2,_⟩=>
    have hrs:=YH h2 h3 ha hb r1;rw[hl] at hrs;refine ⟨[Eh x y l (lst Int b hh),.i .i64 k],⟨hrs,zD ht r2,trivial⟩,L0,?_⟩;refine qg (vk _) 300 400 [⟨116,Uf,YG x y l (lst Int b hh) k 0,[]⟩] ?_;rw[hn];exact rQ (afi hlen hφ l.length 0 (by omega) fun j hj=>by omega:mY ai (C7 mM W7 noSpec mZ) (K0 H w) 116 Uf (YG x y l (lst Int b hh) k 0) [] emp φ)
  ·exact h.elim
 ·exact h.elim
open Go Go.Sx Go.Pl Go.Proofs
theorem ZY(A:Prim)(W:Wd)(x y op k v:Int)(l r:List Int){ψ:pI->Prop}(h1:(okB Int (len l) (mO (nth l)))=ah)(h2:(okB Int (len r) (mO (nth r)))=ah)(h3:(isC x y op k v (ab 110))=ah)(y1:ψ (ar (aL [aN [av .i64 (ab 0),av .i64 (ab 0),aj 0 0 fun (x:Nat)=>[],aj 0 0 fun (x:Nat)=>[]],av .i64 (ab 0),av .i64 (ab 0),av .i64 (ab 110)]))):oP ψ (nR (C7 A W (uY 110 l) mZ) qm 300 400 73 [.code []] (nX 92 [Eh x y l r,.i .i64 op,.i .i64 k,.i .i64 v] L0) [] []):=by
 exact wH (an h1 (an h2 (an h3 y1)))
theorem Z4(A:Prim)(W:Wd)(x y op k v:Int)(l r:List Int){ψ:pI->Prop}(h1:(okB Int (len l) (mO (nth l)))=ah)(h2:(okB Int (len r) (mO (nth r)))=ah)(h3:(isC x y op k v (ab 111))=ah)(y1:ψ (ar (aL [aN [av .i64 (ab 0),av .i64 (ab 0),aj 0 0 fun (x:Nat)=>[],aj 0 0 fun (x:Nat)=>[]],av .i64 (ab 0),av .i64 (ab 0),av .i64 (ab 111)]))):oP ψ (nR (C7 A W (uY 111 l) mZ) qm 300 400 73 [.code []] (nX 92 [Eh x y l r,.i .i64 op,.i .i64 k,.i .i64 v] L0) [] []):=by
 exact wH (an h1 (an h2 (an h3 y1)))
theorem afj(A:Prim)(W:Wd)(x y k v:Int)(l r:List Int){ψ:pI->Prop}(h1:(okB Int (len l) (mO (nth l)))=ah)(h2:(okB Int (len r) (mO (nth r)))=ah)(h3:(isC x y (ab 1) k v (ab 0))=ah)(h4:(Ah (len l) (mO (nth l)))=ah)(h5:(Ah (len r) (mO (nth r)))=ah)(y1:ψ (ar (aL [aN [av .i64 x,av .i64 y,bS 3 1 (len l) (vP (mO (nth l))),bS 3 1 (len r) (vP (mO (nth r)))],av .i64 (ab 3),av .i64 y,av .i64 (ab 0)]))):oP ψ (nR (C7 A W (uY 0 l) mZ) qm 300 400 73 [.code []] (nX 92 [Eh x y l r,.v (.int .i64 1),.i .i64 k,.i .i64 v] L0) [] []):=by
 exact DV (an h1 (an h2 (an h3 (an h4 (an h5 (an h5 (an h4 (an h5 y1))))))))
theorem afk(A:Prim)(W:Wd)(x y k v:Int)(l r:List Int){ψ:pI->Prop}(h1:(okB Int (len l) (mO (nth l)))=ah)(h2:(okB Int (len r) (mO (nth r)))=ah)(h3:(isC x y (ab 2) k v (ab 0))=ah)(h4:(Ah (len l) (mO (nth l)))=ah)(h5:(Ah (len r) (mO (nth r)))=ah)(y1:ψ (ar (aL [aN [av .i64 x,av .i64 v,bS 3 1 (len l) (vP (mO (nth l))),bS 3 1 (len r) (vP (mO (nth r)))],av .i64 (ab 1),av .i64 (ab 0),av .i64 (ab 0)]))):oP ψ (nR (C7 A W (uY 0 l) mZ) qm 300 400 73 [.code []] (nX 92 [Eh x y l r,.v (.int .i64 2),.i .i64 k,.i .i64 v] L0) [] []):=by
 exact DV (an h1 (an h2 (an h3 (an h4 (an h5 (an h5 (an h4 (an h5 y1))))))))
theorem afl(A:Prim)(W:Wd)(x y k v:Int)(l r:List Int){ψ:pI->Prop}(h1:(okB Int (len l) (mO (nth l)))=ah)(h2:(okB Int (len r) (mO (nth r)))=ah)(h3:(isC x y (ab 3) k v (ab 0))=ah)(h4:(Ah (len l) (mO (nth l)))=ah)(h5:(Ah (len r) (mO (nth r)))=ah)(y1:ψ (ar (aL [aN [av .i64 x,av .i64 (A.add .i64 y v),bS 3 1 (len l) (vP (mO (nth l))),bS 3 1 (len r) (vP (mO (nth r)))],av .i64 (ab 1),av .i64 (ab 0),av .i64 (ab 0)]))):oP ψ (nR (C7 A W (uY 0 l) mZ) qm 300 400 73 [.code []] (nX 92 [Eh x y l r,.v (.int .i64 3),.i .i64 k,.i .i64 v] L0) [] []):=by
 exact DV (an h1 (an h2 (an h3 (an h4 (an h5 (an h5 (an h4 (an h5 y1))))))))
theorem afm(A:Prim)(W:Wd)(x y k v:Int)(l r:List Int){ψ:pI->Prop}(h1:(okB Int (len l) (mO (nth l)))=ah)(h2:(okB Int (len r) (mO (nth r)))=ah)(h3:(isC x y (ab 4) k v (ab 0))=ah)(h4:(Ah (len l) (mO (nth l)))=ah)(h5:(Ah (len r) (mO (nth r)))=ah)(y1:ψ (ar (aL [aN [av .i64 x,av .i64 y,bS 3 1 (len l) (vP (mO (nth l))),bS 3 1 (len r) (vP (mO (nth r)))],av .i64 (ab 3),av .i64 y,av .i64 (ab 0)]))):oP ψ (nR (C7 A W (uY 0 l) mZ) qm 300 400 73 [.code []] (nX 92 [Eh x y l r,.v (.int .i64 4),.i .i64 k,.i .i64 v] L0) [] []):=by
 exact DV (an h1 (an h2 (an h3 (an h4 (an h5 (an h5 (an h4 (an h5 y1))))))))
theorem afn(A:Prim)(W:Wd)(x y k v:Int)(l r:List Int){ψ:pI->Prop}(h1:(okB Int (len l) (mO (nth l)))=ah)(h2:(okB Int (len r) (mO (nth r)))=ah)(h3:(isC x y (ab 5) k v (ab 0))=ah)(h4:(Ah (len l) (mO (nth l)))=ah)(h5:(Ah (len r) (mO (nth r)))=ah)(h6:(A.room (A.addN (len r) 1) 8)=ah)(y1:ψ (ar (aL [aN [av .i64 x,av .i64 y,bS 3 1 (len l) (vP (mO (nth l))),bS 3 1 (A.addN (len r) 1) (A.snoc (vP (mO (nth r))) (len r) (nM [[av .i64 v]]))],av .i64 (ab 1),av .i64 (ab 0),av .i64 (ab 0)]))):oP ψ (nR (C7 A W (uY 0 l) mZ) qm 300 400 73 [.code []] (nX 92 [Eh x y l r,.v (.int .i64 5),.i .i64 k,.i .i64 v] L0) [] []):=by
 exact DV (an h1 (an h2 (an h3 (an h4 (an h5 (an h5 (an h4 (an h5 (an h6 y1)))))))))
theorem afo(A:Prim)(W:Wd)(x y k v:Int)(l r:List Int){ψ:pI->Prop}{c0:Bool}(e0:A.eq (A.nK (len r)) (ab 0)=c0)(h1:(okB Int (len l) (mO (nth l)))=ah)(h2:(okB Int (len r) (mO (nth r)))=ah)(h3:(isC x y (ab 6) k v (ab 0))=ah)(h4:(Ah (len l) (mO (nth l)))=ah)(h5:(Ah (len r) (mO (nth r)))=ah)(h6:c0=ag->(A.upTo (ab 1) (len r))=ah)(h7:c0=ag->(Ah (A.uy (len r) 1) fun (j:Nat)=>mO (nth r) (A.addN (iY 1) j))=ah)(h8:c0=ag->(A.inB (ab 0) (len r))=ah)(y1:c0=ah->ψ (ar (aL [aN [av .i64 x,av .i64 y,bS 3 1 (len l) (vP (mO (nth l))),bS 3 1 (len r) (vP (mO (nth r)))],av .i64 (ab 2),av .i64 (ab 0),av .i64 (ab 0)])))(y2:c0=ag->ψ (ar (aL [aN [av .i64 x,av .i64 y,bS 3 1 (len l) (vP (mO (nth l))),bS 3 1 (A.uy (len r) 1) (vP fun (j:Nat)=>mO (nth r) (A.addN (iY 1) j))],av .i64 (ab 3),av .i64 (nth r 0),av .i64 (ab 0)]))):oP ψ (nR (C7 A W (uY 0 l) mZ) qm 300 400 73 [.code []] (nX 92 [Eh x y l r,.v (.int .i64 6),.i .i64 k,.i .i64 v] L0) [] []):=by
 subst e0;exact DV (an h1 (an h2 (an h3 (an h4 (an h5 (an h5 (an h4 (an h5 (an y1 (fun q0=>an (h6 q0) (an (h7 q0) (an (h8 q0) (y2 q0)))))))))))))
theorem afp(A:Prim)(W:Wd)(x y k v:Int)(l r:List Int){ψ:pI->Prop}{c0:Bool}(e0:hasK l k=c0)(h1:(okB Int (len l) (mO (nth l)))=ah)(h2:(okB Int (len r) (mO (nth r)))=ah)(h3:(isC x y (ab 7) k v (ab 0))=ah)(h4:(Ah (len l) (mO (nth l)))=ah)(h5:(Ah (len r) (mO (nth r)))=ah)(h6:(isL l (len l) (mO (nth l)))=ah)(h7:c0=ah->(A.inB (ab (nT l k)) (len r))=ah)(h8:c0=ag->(A.upTo (ab (nT l k)) (len l))=ah)(h9:c0=ag->(Ah (A.toN (ab (nT l k))) (mO (nth l)))=ah)(h10:c0=ag->(A.room (A.addN (A.toN (ab (nT l k))) 1) 8)=ah)(h11:c0=ag->(Ah (A.uy (len l) (A.toN (ab (nT l k)))) fun (j:Nat)=>mO (nth l) (A.addN (A.toN (ab (nT l k))) j))=ah)(h12:c0=ag->(A.room (A.addN (A.addN (A.toN (ab (nT l k))) 1) (A.uy (len l) (A.toN (ab (nT l k))))) 8)=ah)(h13:c0=ag->(A.upTo (ab (nT l k)) (len r))=ah)(MO:c0=ag->(Ah (A.toN (ab (nT l k))) (mO (nth r)))=ah)(h15:c0=ag->(Ah (A.uy (len r) (A.toN (ab (nT l k)))) fun (j:Nat)=>mO (nth r) (A.addN (A.toN (ab (nT l k))) j))=ah)(h16:c0=ag->(A.room (A.addN (A.addN (A.toN (ab (nT l k))) 1) (A.uy (len r) (A.toN (ab (nT l k))))) 8)=ah)(y1:c0=ah->ψ (ar (aL [aN [av .i64 x,av .i64 y,bS 3 1 (len l) (vP (mO (nth l))),bS 3 1 (len r) (A.upd (vP (mO (nth r))) (A.toN (ab (nT l k))) 0 [av .i64 v])],av .i64 (ab 1),av .i64 (ab 0),av .i64 (ab 0)])))(y2:c0=ag->ψ (ar (aL [aN [av .i64 x,av .i64 y,bS 3 1 (A.addN (A.addN (A.toN (ab (nT l k))) 1) (A.uy (len l) (A.toN (ab (nT l k))))) (A.snoc (A.snoc (vP (mO (nth l))) (A.toN (ab (nT l k))) (nM [[av .i64 k]])) (A.addN (A.toN (ab (nT l k))) 1) (vP fun (j:Nat)=>mO (nth l) (A.addN (A.toN (ab (nT l k))) j))),bS 3 1 (A.addN (A.addN (A.toN (ab (nT l k))) 1) (A.uy (len r) (A.toN (ab (nT l k))))) (A.snoc (A.snoc (vP (mO (nth r))) (A.toN (ab (nT l k))) (nM [[av .i64 v]])) (A.addN (A.toN (ab (nT l k))) 1) (vP fun (j:Nat)=>mO (nth r) (A.addN (A.toN (ab (nT l k))) j)))],av .i64 (ab 1),av .i64 (ab 0),av .i64 (ab 0)]))):oP ψ (nR (C7 A W (uY 0 l) mZ) qm 300 400 73 [.code []] (nX 92 [Eh x y l r,.v (.int .i64 7),.i .i64 k,.i .i64 v] L0) [] []):=by
 subst e0;exact DV (an h1 (an h2 (an h3 (an h4 (an h5 (an h5 (an h4 (an h5 (an h6 (an h2 (an (fun q0=>an (h7 q0) (y1 q0)) (fun q0=>an (h8 q0) (an (h9 q0) (an (h10 q0) (an (h8 q0) (an (h11 q0) (an (h12 q0) (an (h8 q0) (an (h10 q0) (an (h11 q0) (an (h12 q0) (an (h8 q0) (an (h10 q0) (an (h11 q0) (an (h12 q0) (an (h9 q0) (an (h10 q0) (an (h8 q0) (an (h11 q0) (an (h12 q0) (an (h8 q0) (an (h10 q0) (an (h11 q0) (an (h12 q0) (an (h8 q0) (an (h9 q0) (an (h10 q0) (an (h11 q0) (an (h12 q0) (an (h8 q0) (an (h9 q0) (an (h10 q0) (an (h11 q0) (an (h12 q0) (an (h9 q0) (an (h10 q0) (an (h11 q0) (an (h12 q0) (an (h8 q0) (an (h9 q0) (an (h10 q0) (an (h8 q0) (an (h11 q0) (an (h12 q0) (an (h8 q0) (an (h10 q0) (an (h11 q0) (an (h12 q0) (an (h8 q0) (an (h9 q0) (an (h10 q0) (an (h11 q0) (an (h12 q0) (an (h8 q0) (an (h8 q0) (an (h9 q0) (an (h10 q0) (an (h11 q0) (an (h12 q0) (an (h8 q0) (an (h8 q0) (an (h9 q0) (an (h10 q0) (an (h11 q0) (an (h12 q0) (an (h9 q0) (an (h10 q0) (an (h11 q0) (an (h12 q0) (an (h8 q0) (an (h9 q0) (an (h10 q0) (an (h11 q0) (an (h12 q0) (an (h13 q0) (an (MO q0) (an (h10 q0) (an (h13 q0) (an (h15 q0) (an (h16 q0) (an (h13 q0) (an (h10 q0) (an (h15 q0) (an (h16 q0) (an (h13 q0) (an (h10 q0) (an (h15 q0) (an (h16 q0) (an (MO q0) (an (h10 q0) (an (h13 q0) (an (h15 q0) (an (h16 q0) (an (h13 q0) (an (h10 q0) (an (h15 q0) (an (h16 q0) (an (h13 q0) (an (MO q0) (an (h10 q0) (an (h15 q0) (an (h16 q0) (an (h13 q0) (an (MO q0) (an (h10 q0) (an (h15 q0) (an (h16 q0) (an (MO q0) (an (h10 q0) (an (h15 q0) (an (h16 q0) (an (h13 q0) (an (MO q0) (an (h10 q0) (an (h13 q0) (an (h15 q0) (an (h16 q0) (an (h13 q0) (an (h10 q0) (an (h15 q0) (an (h16 q0) (an (h13 q0) (an (MO q0) (an (h10 q0) (an (h15 q0) (an (h16 q0) (an (h13 q0) (an (h13 q0) (an (MO q0) (an (h10 q0) (an (h15 q0) (an (h16 q0) (an (h13 q0) (an (h13 q0) (an (MO q0) (an (h10 q0) (an (h15 q0) (an (h16 q0) (an (MO q0) (an (h10 q0) (an (h15 q0) (an (h16 q0) (an (h13 q0) (an (MO q0) (an (h10 q0) (an (h15 q0) (an (h16 q0) (y2 q0))))))))))))))))))))))))))))))))))))))))))))))))))))))))))))))))))))))))))))))))))))))))))))))))))))))))))))))))))))))))))))))))))))))))))))))))))))))))))))))
theorem afq(A:Prim)(W:Wd)(x y k v:Int)(l r:List Int){ψ:pI->Prop}{c0:Bool}(e0:A.nt (hasK l k)=c0)(h1:(okB Int (len l) (mO (nth l)))=ah)(h2:(okB Int (len r) (mO (nth r)))=ah)(h3:(isC x y (ab 8) k v (ab 0))=ah)(h4:(Ah (len l) (mO (nth l)))=ah)(h5:(Ah (len r) (mO (nth r)))=ah)(h6:(isL l (len l) (mO (nth l)))=ah)(h7:c0=ag->(A.inB (ab (nT l k)) (len r))=ah)(y1:c0=ah->ψ (ar (aL [aN [av .i64 x,av .i64 y,bS 3 1 (len l) (vP (mO (nth l))),bS 3 1 (len r) (vP (mO (nth r)))],av .i64 (ab 2),av .i64 (ab 0),av .i64 (ab 0)])))(y2:c0=ag->ψ (ar (aL [aN [av .i64 x,av .i64 y,bS 3 1 (len l) (vP (mO (nth l))),bS 3 1 (len r) (vP (mO (nth r)))],av .i64 (ab 3),av .i64 (nth r (A.toN (ab (nT l k)))),av .i64 (ab 0)]))):oP ψ (nR (C7 A W (uY 0 l) mZ) qm 300 400 73 [.code []] (nX 92 [Eh x y l r,.v (.int .i64 8),.i .i64 k,.i .i64 v] L0) [] []):=by
 subst e0;exact DV (an h1 (an h2 (an h3 (an h4 (an h5 (an h5 (an h4 (an h5 (an h6 (an h2 (an y1 (fun q0=>an (h7 q0) (y2 q0)))))))))))))
theorem afr(A:Prim)(W:Wd)(x y k v:Int)(l r:List Int){ψ:pI->Prop}{c0:Bool}(e0:A.nt (hasK l k)=c0)(h1:(okB Int (len l) (mO (nth l)))=ah)(h2:(okB Int (len r) (mO (nth r)))=ah)(h3:(isC x y (ab 9) k v (ab 0))=ah)(h4:(Ah (len l) (mO (nth l)))=ah)(h5:(Ah (len r) (mO (nth r)))=ah)(h6:(isL l (len l) (mO (nth l)))=ah)(h7:c0=ag->(A.upTo (ab (nT l k)) (len l))=ah)(h8:c0=ag->(Ah (A.toN (ab (nT l k))) (mO (nth l)))=ah)(h9:c0=ag->(A.upTo (A.add .i64 (ab (nT l k)) (ab 1)) (len l))=ah)(h10:c0=ag->(Ah (A.uy (len l) (A.toN (A.add .i64 (ab (nT l k)) (ab 1)))) fun (j:Nat)=>mO (nth l) (A.addN (A.toN (A.add .i64 (ab (nT l k)) 1)) j))=ah)(h11:c0=ag->(A.room (A.addN (A.toN (ab (nT l k))) (A.uy (len l) (A.toN (A.add .i64 (ab (nT l k)) (ab 1))))) 8)=ah)(h12:c0=ag->(A.upTo (ab (nT l k)) (len r))=ah)(h13:c0=ag->(Ah (A.toN (ab (nT l k))) (mO (nth r)))=ah)(MO:c0=ag->(A.upTo (A.add .i64 (ab (nT l k)) (ab 1)) (len r))=ah)(h15:c0=ag->(Ah (A.uy (len r) (A.toN (A.add .i64 (ab (nT l k)) (ab 1)))) fun (j:Nat)=>mO (nth r) (A.addN (A.toN (A.add .i64 (ab (nT l k)) 1)) j))=ah)(h16:c0=ag->(A.room (A.addN (A.toN (ab (nT l k))) (A.uy (len r) (A.toN (A.add .i64 (ab (nT l k)) (ab 1))))) 8)=ah)(h17:c0=ag->(A.inB (ab (nT l k)) (len r))=ah)(y1:c0=ah->ψ (ar (aL [aN [av .i64 x,av .i64 y,bS 3 1 (len l) (vP (mO (nth l))),bS 3 1 (len r) (vP (mO (nth r)))],av .i64 (ab 2),av .i64 (ab 0),av .i64 (ab 0)])))(y2:c0=ag->ψ (ar (aL [aN [av .i64 x,av .i64 y,bS 3 1 (A.addN (A.toN (ab (nT l k))) (A.uy (len l) (A.toN (A.add .i64 (ab (nT l k)) (ab 1))))) (A.snoc (vP (mO (nth l))) (A.toN (ab (nT l k))) (vP fun (j:Nat)=>mO (nth l) (A.addN (A.toN (A.add .i64 (ab (nT l k)) 1)) j))),bS 3 1 (A.addN (A.toN (ab (nT l k))) (A.uy (len r) (A.toN (A.add .i64 (ab (nT l k)) (ab 1))))) (A.snoc (vP (mO (nth r))) (A.toN (ab (nT l k))) (vP fun (j:Nat)=>mO (nth r) (A.addN (A.toN (A.add .i64 (ab (nT l k)) 1)) j)))],av .i64 (ab 3),av .i64 (nth r (A.toN (ab (nT l k)))),av .i64 (ab 0)]))):oP ψ (nR (C7 A W (uY 0 l) mZ) qm 300 400 73 [.code []] (nX 92 [Eh x y l r,.v (.int .i64 9),.i .i64 k,.i .i64 v] L0) [] []):=by
 subst e0;exact DV (an h1 (an h2 (an h3 (an h4 (an h5 (an h5 (an h4 (an h5 (an h6 (an h2 (an y1 (fun q0=>an (h7 q0) (an (h8 q0) (an (h9 q0) (an (h10 q0) (an (h11 q0) (an (h9 q0) (an (h8 q0) (an (h10 q0) (an (h11 q0) (an (h9 q0) (an (h7 q0) (an (h8 q0) (an (h10 q0) (an (h11 q0) (an (h12 q0) (an (h13 q0) (an (MO q0) (an (h15 q0) (an (h16 q0) (an (MO q0) (an (h13 q0) (an (h15 q0) (an (h16 q0) (an (MO q0) (an (h12 q0) (an (h13 q0) (an (h15 q0) (an (h16 q0) (an (h17 q0) (y2 q0)))))))))))))))))))))))))))))))))))))))))
theorem aqB(c:Int)(l:List Int)(stop:Nat->List Nat->Bool):oD ai (C7 mM W7 (uY c l) stop):=cO (fun g F h=>by
 unfold uY at h;grind [atC,avV,atD]) fun g h=>by
 unfold uY at h;split at h;all_goals first|(cases h;done) |kernel_rfl
def ai4:List Sh->Tree Sh
 |[.agg [.i .i64 x,.i .i64 y,s2,s3],t,u,w]=>match qp 1 s2,qp 1 s3,nO t,nO u,nO w with
  |some (a,g),ae (b,h),ae op,ae k,ae v=>.need (okB Int a g) (.need (okB Int b h) (.need (ai2 a b) (.need (an9 x a b) (.node (isC x y op k v 0) (.leaf (ahi (JM ⟨x,y,lst Int a g,lst Int b h⟩ op k v))) (.leaf (.mX [.agg [.i .i64 0,.i .i64 0,.sl 1 0 yL,.sl 1 0 yL],.i .i64 0,.i .i64 0,.i .i64 (uQ x y op k v)])))))) |_,_,_,_,_=>.fail
 |_=>.fail
section
variable{φ:Sh->Prop}{x y k v:Int}{l r:List Int}
theorem zK{op num ret got:Int}{kk vv:List Int}{n m:Nat}{g h:Nat->List Sh}(hφ:φ (ahi (JM ⟨x,y,l,r⟩ op k v)))(hR:JM ⟨x,y,l,r⟩ op k v=(⟨x,num,kk,vv⟩,ret,got))(h1:II n g kk)(h2:II m h vv):
  up φ (.mX [.agg [.i .i64 x,.i .i64 num,.os 3 1 n g,.os 3 1 m h],.i .i64 ret,.i .i64 got,.i .i64 0]):=by
 rw[hR] at hφ;exact nP (s':=ahi (⟨x,num,kk,vv⟩,ret,got)) ⟨⟨rfl,rfl,.inr ⟨rfl,h1.1,h1.2⟩,.inr ⟨rfl,h2.1,h2.2⟩,trivial⟩,rfl,rfl,rfl,trivial⟩ hφ
end
theorem atE:nD ai (nJ W7) 73 ai4:=by
 intro H w nY args φ hon hg hrep h;have hn:Tryz.f73.ntmps=92:=by kernel_rfl
 unfold ai4 at h;split at h
 ·rename_i x y s2 s3 t u ww
  split at h
  ·rename_i a g b hh op k v h2 h3 ht hu hw
   obtain ⟨ha,hb,hs,hm,hyes,hno⟩:=h;have hs:=of_decide_eq_true hs;match args,hrep with
   |[v1,v2,v3,v4],⟨r1,r2,r3,r4,_⟩=>
    have hst:=YH h2 h3 ha hb r1;have hlen1:(lst Int a g).length=a:=uV ..;have hlen2:(lst Int b hh).length=b:=uV ..;rw[<-hlen1,<-hlen2] at hs;have hm:x=4->(lst Int a g).length=(lst Int b hh).length:=by
     grind [an9]
    generalize lst Int a g=l at *;generalize lst Int b hh=r at *;have r2':=zD ht r2;have r3':=zD hu r3;have YI:=zD hw r4;have go (vg:List Sh) (hr:sD H vg [v1,v2,v3,v4]) (c:Int) (ha:oP (yc ai (C7 mM W7 (uY c l) mZ) (K0 H w) [] emp (up φ)) (nR (C7 mM W7 (uY c l) mZ) qm 300 400 73 [.code []] (nX 92 vg L0) [] [])) :
      Calls ai 73 #[v1,v2,v3,v4] w fun e w'=>∃v s H',e=.returned v/\φ s/\qy H w s v H' w':=by
     refine (QX (C:=C7 mM W7 (uY c l) mZ) (fn:=Tryz.f73) (C7.ok _ _) (by kernel_rfl) (by kernel_rfl) hon hg hr (φ:=up φ) (L:=L0) ?_).mono fun e w' ⟨v,s,H',he,⟨s',hw,hs⟩,r⟩=>?_
     ·exact qg (aqB _ _ _) _ _ _ ha
     ·obtain ⟨H2,r2⟩:=r.wk hw
      grind
    have k1:okB Int (len l) (mO (nth l))=ah:=o9 _ _;have k2:okB Int (len r) (mO (nth r))=ah:=o9 _ _;cases hc:isC x y op k v 0 with
    |false=>
     have hno:=hno hc;have hc:uQ x y op k v≠0:=of_decide_eq_false hc;have:uQ x y op k v=110\/uQ x y op k v=111:=by
      grind [uQ]
     rcases this with e|e
     ·rw[e] at hno
      refine go [Eh x y l r,.i .i64 op,.i .i64 k,.i .i64 v] ⟨hst,r2',r3',YI,trivial⟩ 110 ?_;refine ZY mM W7 x y op k v l r k1 k2 (decide_eq_true e) ?_;exact nP (s':=.mX [.agg [.i .i64 0,.i .i64 0,.sl 1 0 yL,.sl 1 0 yL],.i .i64 0,.i .i64 0,.i .i64 110]) ⟨⟨rfl,rfl,.inl ⟨rfl,rfl⟩,.inl ⟨rfl,rfl⟩,trivial⟩,rfl,rfl,rfl,trivial⟩ hno
     ·rw[e] at hno
      refine go [Eh x y l r,.i .i64 op,.i .i64 k,.i .i64 v] ⟨hst,r2',r3',YI,trivial⟩ 111 ?_;refine Z4 mM W7 x y op k v l r k1 k2 (decide_eq_true e) ?_;exact nP (s':=.mX [.agg [.i .i64 0,.i .i64 0,.sl 1 0 yL,.sl 1 0 yL],.i .i64 0,.i .i64 0,.i .i64 111]) ⟨⟨rfl,rfl,.inl ⟨rfl,rfl⟩,.inl ⟨rfl,rfl⟩,trivial⟩,rfl,rfl,rfl,trivial⟩ hno
    |true=>
     have hyes:=hyes hc;have hx:x≠0/\uO op=x:=by
      have hc:uQ x y op k v=0:=of_decide_eq_true hc;grind [uQ]
     have hop:op=1\/op=2\/op=3\/op=4\/op=5\/op=6\/op=7\/op=8\/op=9:=by
      grind [uO]
     have p1:Ah (len l) (mO (nth l))=ah:=zH (qR l) (show l.length<=_ by omega);have p2:Ah (len r) (mO (nth r))=ah:=zH (qR r) (show r.length<=_ by omega);have pL:isL l (len l) (mO (nth l))=ah:=by
      unfold isL;rw[ak];exact ⟨k1,decide_eq_true ⟨zA l,by omega⟩⟩
     have hpos:=an8 l k;rcases hop with rfl|rfl|rfl|rfl|rfl|rfl|rfl|rfl|rfl
     ·refine go [Eh x y l r,.v (.int .i64 1),.i .i64 k,.i .i64 v] ⟨hst,Af r2',r3',YI,trivial⟩ 0 ?_
      refine afj mM W7 x y k v l r k1 k2 hc p1 p2 ?_;exact zK hyes rfl (qG (qR l)) (qG (qR r))
     ·refine go [Eh x y l r,.v (.int .i64 2),.i .i64 k,.i .i64 v] ⟨hst,Af r2',r3',YI,trivial⟩ 0 ?_
      refine afk mM W7 x y k v l r k1 k2 hc p1 p2 ?_;exact zK hyes rfl (qG (qR l)) (qG (qR r))
     ·refine go [Eh x y l r,.v (.int .i64 3),.i .i64 k,.i .i64 v] ⟨hst,Af r2',r3',YI,trivial⟩ 0 ?_
      refine afl mM W7 x y k v l r k1 k2 hc p1 p2 ?_;exact zK hyes rfl (qG (qR l)) (qG (qR r))
     ·refine go [Eh x y l r,.v (.int .i64 4),.i .i64 k,.i .i64 v] ⟨hst,Af r2',r3',YI,trivial⟩ 0 ?_
      refine afm mM W7 x y k v l r k1 k2 hc p1 p2 ?_;exact zK hyes rfl (qG (qR l)) (qG (qR r))
     ·refine go [Eh x y l r,.v (.int .i64 5),.i .i64 k,.i .i64 v] ⟨hst,Af r2',r3',YI,trivial⟩ 0 ?_
      refine afn mM W7 x y k v l r k1 k2 hc p1 p2 (room_le (show r.length+1<=_ by omega) (by omega)) ?_;refine zK hyes rfl (qG (qR l)) ?_;exact Dq (qG (qR r)) (Ud v)
     ·refine go [Eh x y l r,.v (.int .i64 6),.i .i64 k,.i .i64 v] ⟨hst,Af r2',r3',YI,trivial⟩ 0 ?_
      refine afo mM W7 x y k v l r rfl k1 k2 hc p1 p2 ?_ ?_ ?_ ?_ ?_
      ·grind [nG,ny,len,vG]
      ·intro e
       have:r.length≠0:=by grind [nG,ny,len]
       exact zH (xI (l:=r) (q:=1) (by omega) rfl) (show r.length - 1<=_ by omega)
      ·grind [nG,ny,len,nN]
      ·intro e
       have:r.length=0:=by grind [nG,ny,len]
       obtain rfl:r=[]:=List.length_eq_zero_iff.1 this;exact zK hyes rfl (qG (qR l)) (qG (qR []))
      ·intro e
       have:r.length≠0:=by grind [nG,ny,len]
       match r,this with
       |a::r,_=>
        exact zK hyes rfl (qG (qR l)) (qG (xI (l:=a::r) (q:=1) (by simp) rfl))
     ·have hlr:=hm hx.2.symm
      have hpr:nT l k<=r.length:=by omega
      refine go [Eh x y l r,.v (.int .i64 7),.i .i64 k,.i .i64 v] ⟨hst,Af r2',r3',YI,trivial⟩ 0 ?_;refine afp mM W7 x y k v l r rfl k1 k2 hc p1 p2 pL ?_ ?_ ?_ ?_ ?_ ?_ ?_ ?_ ?_ ?_ ?_ ?_
      ·simp_all [nT,hasK,nN,len]
      ·simp_all [vG,len]
      ·intro _;exact zH (xw hpos) (show nT l k<=_ by omega)
      ·intro _;exact room_le (show nT l k+1<=_ by omega) (by omega)
      ·intro _;exact zH (xI (l:=l) (q:=nT l k) hpos rfl) (show l.length - nT l k<=_ by omega)
      ·intro _;exact room_le (show nT l k+1+(l.length - nT l k)<=_ by omega) (by omega)
      ·simp_all [vG,len]
      ·intro _;exact zH (xw hpr) (show nT l k<=_ by omega)
      ·intro _;exact zH (xI (l:=r) (q:=nT l k) hpr rfl) (show r.length - nT l k<=_ by omega)
      ·intro _;exact room_le (show nT l k+1+(r.length - nT l k)<=_ by omega) (by omega)
      ·intro hk
       have hlt:nT l k<l.length:=by simp_all [hasK]
       refine zK hyes (kk:=l) (vv:=r.set (nT l k) v) (num:=y) (ret:=1) (got:=0) ?_ (qG (qR l)) (akD v (show nT l k<r.length by omega));show (ite _ _ _,_,_)=_;simp_all
      ·intro hk
       refine zK hyes (kk:=l.take (nT l k)++k::l.drop (nT l k)) (vv:=r.take (nT l k)++v::r.drop (nT l k)) (num:=y) (ret:=1) (got:=0) ?_ ?_ ?_
       ·show (ite _ _ _,_,_)=_
        simp_all
       ·have:=Dq (Dq (xw hpos) (Ud k)) (xI (l:=l) (q:=nT l k) hpos rfl)
        rw[cA] at this;exact this
       ·have:=Dq (Dq (xw hpr) (Ud v)) (xI (l:=r) (q:=nT l k) hpr rfl)
        rw[cA] at this;exact this
     ·refine go [Eh x y l r,.v (.int .i64 8),.i .i64 k,.i .i64 v] ⟨hst,Af r2',r3',YI,trivial⟩ 0 ?_
      refine afq mM W7 x y k v l r rfl k1 k2 hc p1 p2 pL ?_ ?_ ?_
      ·intro e
       have hk:hasK l k=ah:=by grind [oL]
       have hlr:=hm hx.2.symm;simp_all [nT,hasK,nN,len]
      ·intro e
       have hk:hasK l k=ag:=by grind [oL]
       refine zK hyes ?_ (qG (qR l)) (qG (qR r));show (_,ite _ _ _,ite _ _ _)=_;simp_all
      ·intro e
       have hk:hasK l k=ah:=by grind [oL]
       refine zK hyes ?_ (qG (qR l)) (qG (qR r));show (_,ite _ _ _,ite _ _ _)=_;simp only[hk];rfl
     ·have hlr:=hm hx.2.symm
      have hadd:mM.add .i64 (ab (nT l k)) (ab 1)=((nT l k+1:Nat):Int):=by
       show az.wrap ((nT l k:Int)+1)=_;grind [pF]
      have hlt (e:mM.nt (hasK l k)=ag):nT l k+1<=l.length/\nT l k+1<=r.length:=by
       grind [hasK,oL,nT]
      refine go [Eh x y l r,.v (.int .i64 9),.i .i64 k,.i .i64 v] ⟨hst,Af r2',r3',YI,trivial⟩ 0 ?_;have eqL:(fun j:Nat=>mO (nth l) (mM.addN (mM.toN (mM.add .i64 (ab (nT l k)) 1)) j))=mO fun j=>nth l (nT l k+1+j):=by
       rw[show mM.add .i64 (ab (nT l k)) 1=((nT l k+1:Nat):Int) from hadd];rfl
      have eqR:(fun j:Nat=>mO (nth r) (mM.addN (mM.toN (mM.add .i64 (ab (nT l k)) 1)) j))=mO fun j=>nth r (nT l k+1+j):=by
       rw[show mM.add .i64 (ab (nT l k)) 1=((nT l k+1:Nat):Int) from hadd];rfl
      refine afr mM W7 x y k v l r rfl k1 k2 hc p1 p2 pL ?_ ?_ ?_ ?_ ?_ ?_ ?_ ?_ ?_ ?_ ?_ ?_ ?_
      ·simp_all [vG,len]
      ·intro _;exact zH (xw hpos) (show nT l k<=_ by omega)
      ·grind [vG,len]
      ·intro e;have:=hlt e;rw[eqL,hadd];exact zH (xI (l:=l) (q:=nT l k+1) this.1 rfl) (show l.length - (nT l k+1)<=_ by omega)
      ·intro e;have:=hlt e;rw[hadd];exact room_le (show nT l k+(l.length - (nT l k+1))<=_ by omega) (by omega)
      ·simp_all [vG,len]
      ·intro e;have:=hlt e;exact zH (xw (show nT l k<=r.length by omega)) (show nT l k<=_ by omega)
      ·grind [vG,len]
      ·intro e;have:=hlt e;rw[eqR,hadd];exact zH (xI (l:=r) (q:=nT l k+1) this.2 rfl) (show r.length - (nT l k+1)<=_ by omega)
      ·intro e;have:=hlt e;rw[hadd];exact room_le (show nT l k+(r.length - (nT l k+1))<=_ by omega) (by omega)
      ·grind [nN,len]
      ·intro e
       have hk:hasK l k=ag:=by grind [oL]
       refine zK hyes (kk:=l) (vv:=r) (num:=y) (ret:=2) (got:=0) ?_ (qG (qR l)) (qG (qR r));show (ite _ _ _,ite _ _ _,ite _ _ _)=_;simp_all
      ·intro e
       have q:=hlt e;have hk:hasK l k=ah:=by grind [oL]
       rw[eqL,eqR,hadd];refine zK hyes (kk:=l.take (nT l k)++l.drop (nT l k+1)) (vv:=r.take (nT l k)++r.drop (nT l k+1)) (num:=y) (ret:=3) (got:=nth r (nT l k)) ?_ (Dq (xw hpos) (xI (l:=l) q.1 rfl)) (Dq (xw (show nT l k<=r.length by omega)) (xI (l:=r) q.2 rfl));show (ite _ _ _,ite _ _ _,ite _ _ _)=_;simp_all
  ·exact h.elim
 ·exact h.elim
open Go Go.Sx Go.Pl Go.Proofs
noncomputable def ai5(d:Nat->Rf):List Sh->Tree Sh
 |[s]=>match qp 4 s with
  |some (n,g)=>.need (aa7 d n g) (.need (pq n 64) (.leaf (.os 100 4 n (rD d)))) |none=>.fail
 |_=>.fail
noncomputable def ahs(r:Rf):List Sh->Tree Sh
 |[.agg [.i .i64 x,.i .i64 y,s2,s3],t,u,w]=>match nO t,nO u,nO w with
  |some op,ae k,ae v=>.need (isR r x y s2 s3) (.need (wfU r) (.node (isC r.kind r.num op k v 0)
    (.leaf (.mX [.agg [.i .i64 (Ht r op k v).kind,.i .i64 (Ht r op k v).num,.sl 1 (len (Ht r op k v).keys) (mO (nth (Ht r op k v).keys)),.sl 1 (len (Ht r op k v).vals) (mO (nth (Ht r op k v).vals))],.i .i64 (opR r op k v),.i .i64 (opV r op k v),.v (.int .i64 0)]))
    (.node (isC r.kind r.num op k v 110) (.leaf (.mX [.agg [.i .i64 0,.i .i64 0,.sl 1 0 yL,.sl 1 0 yL],.i .i64 0,.i .i64 0,.v (.int .i64 110)])) (.leaf (.mX [.agg [.i .i64 0,.i .i64 0,.sl 1 0 yL,.sl 1 0 yL],.i .i64 0,.i .i64 0,.v (.int .i64 111)])))))
  |_,_,_=>.fail
 |_=>.fail
noncomputable def Rw(d:Nat->Rf)(r:Rf):Nat->Option (List Sh->Tree Sh)
 |73=>ae (ahs r) |55=>ae (ai5 d) |_=>ao
def abd:List It:=[aA [0,1,0,1,1],aM 0,aA [1,1,1]]
def arO:List It:=aA [0,0,1,0,1,1]::abd
def abe(n:Nat)(d:Nat->Rf)(i:Int)(k:Nat)(gg:Nat->List Sh):Core:={tm:=sK 22 [(0,.sh (.sl 4 n (rD d))),(3,.gs 0),(4,.sym .i64 i)],hp:=[(0,.own 100 4 k gg)],nx:=1,lim:=L0,tc:=[]}
theorem aoj(A:Prim)(W:Wd)(n:Nat)(d:Nat->Rf)(i':Int)(k':Nat)(zl:Nat->List Sh){ψ:pI->Prop}(h1:(A.le (ab 0) (A.nK n))=ah)(h2:(A.room (A.toN (A.nK n)) 64)=ah)(y1:ψ (aH 0 [oM.sh (aj 4 n (rD d)) (aj 4 n (rD d)),ac (ab 0) i',am 0 k',ax 0 (fun (x:Nat)=>[]) zl])):oP ψ (nR (C7 A W noSpec mZ) qm 300 400 55 [.code []] (nX 22 [.sl 4 n (rD d)] L0) [] [⟨55,abd,abe n d i' k' zl,[]⟩]):=by
 exact wH (an h1 (an h2 y1))
theorem aok(A:Prim)(W:Wd)(n:Nat)(d:Nat->Rf)(i i':Int)(k k':Nat)(gg zl:Nat->List Sh){ψ:pI->Prop}(h1:(A.lt i (A.nK n))=ah->(A.inB i n)=ah)(h2:(A.lt i (A.nK n))=ah->(A.room (A.addN k 1) 64)=ah)(y1:(A.lt i (A.nK n))=ah->ψ (aH 0 [oM.sh (aj 4 n (rD d)) (aj 4 n (rD d)),ac (A.add .i64 i (ab 1)) i',am (A.addN k 1) k',ax (A.addN k 1) (A.snoc gg k (nM [[av .i64 (d (A.toN i)).kind,av .i64 (d (A.toN i)).num,aj 1 (len (d (A.toN i)).keys) (mO (nth (d (A.toN i)).keys)),aj 1 (len (d (A.toN i)).vals) (mO (nth (d (A.toN i)).vals))]])) zl]))(y2:(A.lt i (A.nK n))=ag->ψ (ar (bS 100 4 k gg))):oP ψ (nR (C7 A W noSpec mZ) qm 300 400 55 arO (abe n d i k gg) [] [⟨55,abd,abe n d i' k' zl,[]⟩]):=by
 exact wH (an (fun q0=>an (h1 q0) (an (h2 q0) (y1 q0))) y2)
theorem aol(A:Prim)(W:Wd)(n:Nat)(d:Nat->Rf)(r:Rf)(i op k v:Int){ψ:pI->Prop}(h1:(A.lt i (ab 0))=ag->(A.le (A.nK n) i)=ag->(A.inB i n)=ah)(h2:(A.lt i (ab 0))=ag->(A.le (A.nK n) i)=ag->(isR r (d (A.toN i)).kind (d (A.toN i)).num (aj 1 (len (d (A.toN i)).keys) (mO (nth (d (A.toN i)).keys))) (aj 1 (len (d (A.toN i)).vals) (mO (nth (d (A.toN i)).vals))))=ah)(h3:(A.lt i (ab 0))=ag->(A.le (A.nK n) i)=ag->(wfU r)=ah)(h4:(A.lt i (ab 0))=ag->(A.le (A.nK n) i)=ag->(isC r.kind r.num op k v (ab 0))=ah->(aa7 d n (rD d))=ah)(h5:(A.lt i (ab 0))=ag->(A.le (A.nK n) i)=ag->(isC r.kind r.num op k v (ab 0))=ah->(pq n 64)=ah)(y1:(A.lt i (ab 0))=ah->ψ (ar (aL [aj 0 0 fun (x:Nat)=>[],av .i64 (ab 0),av .i64 (ab 0),av .i64 (ab 109)])))(y2:(A.lt i (ab 0))=ag->(A.le (A.nK n) i)=ah->ψ (ar (aL [aj 0 0 fun (x:Nat)=>[],av .i64 (ab 0),av .i64 (ab 0),av .i64 (ab 109)])))(y3:(A.lt i (ab 0))=ag->(A.le (A.nK n) i)=ag->(isC r.kind r.num op k v (ab 0))=ah->ψ (ar (aL [bS 100 4 n (A.upd (rD d) (A.toN i) 0 [av .i64 (Ht r op k v).kind,av .i64 (Ht r op k v).num,aj 1 (len (Ht r op k v).keys) (mO (nth (Ht r op k v).keys)),aj 1 (len (Ht r op k v).vals) (mO (nth (Ht r op k v).vals))]),av .i64 (opR r op k v),av .i64 (opV r op k v),av .i64 (ab 0)])))(y4:(A.lt i (ab 0))=ag->(A.le (A.nK n) i)=ag->(isC r.kind r.num op k v (ab 0))=ag->(isC r.kind r.num op k v (ab 110))=ah->ψ (ar (aL [aj 0 0 fun (x:Nat)=>[],av .i64 (ab 0),av .i64 (ab 0),av .i64 (ab 110)])))(y5:(A.lt i (ab 0))=ag->(A.le (A.nK n) i)=ag->(isC r.kind r.num op k v (ab 0))=ag->(isC r.kind r.num op k v (ab 110))=ag->ψ (ar (aL [aj 0 0 fun (x:Nat)=>[],av .i64 (ab 0),av .i64 (ab 0),av .i64 (ab 111)]))):oP ψ (nR (C7 A W (Rw d r) mZ) qm 300 400 54 [.code []] (nX 53 [.sl 4 n (rD d),.i .i64 i,.i .i64 op,.i .i64 k,.i .i64 v] L0) [] []):=by
 exact wH (an y1 (fun q0=>an (y2 q0) (fun q1=>an (h1 q0 q1) (an (h2 q0 q1) (an (h3 q0 q1) (an (fun q2=>an (h4 q0 q1 q2) (an (h5 q0 q1 q2) (an (h1 q0 q1) (y3 q0 q1 q2)))) (fun q2=>an (y4 q0 q1 q2) (y5 q0 q1 q2))))))))
theorem abf{H H':Mem}{w w':World}{v:Value}{X:Sh}{a b c:Int}(r:qy H w (.mX [X,.i .i64 a,.i .i64 b,.i .i64 c]) v H' w'):qy H w (.mX [X,.i .i64 a,.i .i64 b,.v (.int .i64 c)]) v H' w':=
 ⟨r.x9,r.on,r.os,r.tape,r.output,r.size,r.old,r.fresh,fun b0=>by
  obtain ⟨E1,a1,a2,⟨⟨vs⟩,e,hd⟩,a4⟩:=r.res b0;refine ⟨E1,a1,a2,⟨⟨vs⟩,e,?_⟩,a4⟩;match vs,hd with
  |[a,b,c,d],⟨h1,h2,h3,h4,_⟩=>exact ⟨h1,h2,h3,h4,trivial⟩⟩
theorem afs{d:Nat->Rf}{n:Nat}{g:Nat->List Sh}(h:aa7 d n g=ah):∀j,j<n->g j=rD d j:=@of_decide_eq_true _ (ay _) h
theorem aft{d:Nat->Rf}{n:Nat}{g:Nat->List Sh}(h:∀j,j<n->g j=rD d j):aa7 d n g=ah:=@decide_eq_true _ (ay _) h
theorem atF(r:Rf):nD ai (nJ W7) 73 (ahs r):=by
 intro H w nY args φ hon hg hr hφ;have key:(ai4 nY).All fun s=>∃X a b c,s=.mX [X,.i .i64 a,.i .i64 b,.i .i64 c]/\φ (.mX [X,.i .i64 a,.i .i64 b,.v (.int .i64 c)]):=by
  unfold ahs at hφ;split at hφ
  ·rename_i x y s2 s3 t u ww
   split at hφ
   ·rename_i op k v ht hu hw
    obtain ⟨h1,h2,h3,h4⟩:=hφ;have h1:[.i .i64 x,.i .i64 y,s2,s3]=KH r:=@of_decide_eq_true _ (ay _) h1;unfold KH at h1;injection h1 with e1 e2
    injection e2 with e2 e3
    injection e3 with e3 e4
    injection e4 with e4 _
    injection e1 with _ e1
    injection e2 with _ e2
    subst e1 e2 e3 e4;have h2:(_&&_)=ah:=h2;rw[ak] at h2;have sl1 (l:List Int):qp 1 (.sl 1 (len l) (mO (nth l)))=ae (len l,mO (nth l)):=rfl;unfold ai4;simp only[ht,hu,hw,sl1];refine ⟨o9 _ _,o9 _ _,h2.1,h2.2,fun q=>?_,fun q=>?_⟩
    ·have e:=h3 q
     have l1:lst Int (len r.keys) (mO (nth r.keys))=r.keys:=zA _;have l2:lst Int (len r.vals) (mO (nth r.vals))=r.vals:=zA _;rw[l1,l2];exact ⟨_,_,_,_,rfl,e⟩
    ·obtain ⟨h5,h6⟩:=h4 q
     refine ⟨_,_,_,_,rfl,?_⟩;cases q2:isC r.kind r.num op k v 110 with
     |true=>
      have q2':uQ r.kind r.num op k v=110:=of_decide_eq_true q2;rw[q2'];exact h5 q2
     |false=>
      have q':uQ r.kind r.num op k v≠0:=of_decide_eq_false q;have q2':uQ r.kind r.num op k v≠110:=of_decide_eq_false q2;have:uQ r.kind r.num op k v=111:=by
       grind [uQ]
      rw[this];exact h6 q2
   ·exact hφ.elim
  ·exact hφ.elim
 refine (atE H w nY args _ hon hg hr key).mono fun e w' ⟨v,s,H',he,⟨X,a,b,c,hs,hφ⟩,r⟩=>?_;subst hs;exact ⟨v,_,H',he,hφ,abf r⟩
section
variable{H0:Mem}{w0:World}{φ:Sh->Prop}
theorem ai6{n:Nat}{d:Nat->Rf}(hr:pq n 64=ah)(hφ:φ (.os 100 4 n (rD d))):
  ∀m k,k+m=n->mY ai (C7 mM W7 noSpec mZ) (K0 H0 w0) 55 abd (abe n d (k:Int) k (rD d)) [] emp φ
 |m,k,hk=>by
  obtain ⟨hr1,hr2⟩:=vZ hr;refine uT ky arO ?_;refine qg (vk _) 300 400 [⟨55,abd,abe n d (k+1:Nat) (k+1) (rD d),[]⟩] ?_;refine aok mM W7 n d k (k+1:Nat) k (k+1) (rD d) (rD d) ?_ ?_ ?_ ?_
  ·simp_all [mW,ny,nN]
  ·intro h
   simp[mW,ny] at h;show decide ((k+1)*64<=140737488355328/\k+1<=maxLen)=ah;grind
  ·intro h
   simp[mW,ny] at h;refine ⟨⟨rfl,?_,rfl,fun j hj=>?_,trivial⟩,_,rfl,?_⟩
   ·show az.wrap ((k:Int)+1)=_
    grind [pF]
   ·have hj:j<k+1:=hj
    rw[rH];split
    ·rfl
    ·obtain rfl:j=k:=by omega
     simp only[oZ,bm,dh];rfl
   ·match m,hk with
    |0,hk=>omega |m+1,hk=>exact ai6 hr hφ m (k+1) (by omega)
  ·intro h
   have:k=n:=by grind [mW,ny]
   subst this;exact hφ
end
theorem arP(d:Nat->Rf):nD ai (nJ W7) 55 (ai5 d):=by
 refine zI (C7 mM W7 noSpec mZ) ky fun H w nY args φ hrep h=>?_
 have hn:ky.ntmps=22:=by kernel_rfl
 unfold ai5 at h;split at h
 ·split at h
  ·rename_i n g hs
   obtain ⟨h1,h2,hφ⟩:=h;match args,hrep with
   |[v],⟨r1,_⟩=>
    refine ⟨[.sl 4 n (rD d)],⟨qN (nZ hs r1) (afs h1),trivial⟩,L0,?_⟩;refine qg (vk _) 300 400 [⟨55,abd,abe n d (0:Nat) 0 (rD d),[]⟩] ?_;rw[hn];refine aoj mM W7 n d (0:Nat) 0 (rD d) ?_ h2 ⟨⟨rfl,rfl,rfl,fun j hj=>by omega,trivial⟩,_,rfl,?_⟩
    ·rfl
    ·exact ai6 h2 hφ n 0 (by omega)
  ·exact h.elim
 ·exact h.elim
theorem atG(d:Nat->Rf)(r:Rf)(stop:Nat->List Nat->Bool):oD ai (C7 mM W7 (Rw d r) stop):=cO (fun g F h=>by
 unfold Rw at h;grind [atF,arP]) fun g h=>by
 unfold Rw at h;split at h;all_goals first|(cases h;done) |kernel_rfl
noncomputable def F89(d:Nat->Rf):List Sh->Tree Sh
 |[s,t,u,w,z]=>match qp 4 s,nO t,nO u,nO w,nO z with
  |some (n,g),ae i,ae op,ae k,ae v=>.need (aa7 d n g) (.need (pq n 64) (.node (wM n i)
    (.need (wfU (d i.toNat)) (.node (isC (d i.toNat).kind (d i.toNat).num op k v 0)
     (.leaf (.mX [.sl 4 n (Ce n (rD d) i (KH (Ht (d i.toNat) op k v))),.i .i64 (opR (d i.toNat) op k v),.i .i64 (opV (d i.toNat) op k v),.v (.int .i64 0)]))
     (.node (isC (d i.toNat).kind (d i.toNat).num op k v 110) (.leaf (.mX [.sl 0 0 noT,.i .i64 0,.i .i64 0,.v (.int .i64 110)])) (.leaf (.mX [.sl 0 0 noT,.i .i64 0,.i .i64 0,.v (.int .i64 111)])))))
    (.leaf (.mX [.sl 0 0 noT,.i .i64 0,.i .i64 0,.v (.int .i64 109)]))))
  |_,_,_,_,_=>.fail
 |_=>.fail
theorem O89(d:Nat->Rf):nD ai (nJ W7) 54 (F89 d):=by
 intro H w nY args φ hon hg hrep h;have hn:Tryz.f54.ntmps=53:=by kernel_rfl
 unfold F89 at h;split at h
 ·rename_i s t u w' z
  split at h
  ·rename_i n g i op k v hs ht hu hw hz
   obtain ⟨h1,h2,hin,hout⟩:=h;match args,hrep with
   |[v1,v2,v3,v4,v5],⟨r1,r2,r3,r4,r5,_⟩=>
    have hr:sD H [.sl 4 n (rD d),.i .i64 i,.i .i64 op,.i .i64 k,.i .i64 v] [v1,v2,v3,v4,v5]:=⟨qN (nZ hs r1) (afs h1),zD ht r2,zD hu r3,zD hw r4,zD hz r5,trivial⟩;have key:Calls ai 54 #[v1,v2,v3,v4,v5] w fun e w'=>∃v s H',e=.returned v/\(∃X a b c,s=.mX [X,.i .i64 a,.i .i64 b,.i .i64 c]/\φ (.mX [X,.i .i64 a,.i .i64 b,.v (.int .i64 c)]))/\qy H w s v H' w':=by
     refine (QX (C:=C7 mM W7 (Rw d (d i.toNat)) mZ) (fn:=Tryz.f54) (C7.ok _ _) (by kernel_rfl) (by kernel_rfl) hon hg hr (φ:=up fun s=>∃X a b c,s=.mX [X,.i .i64 a,.i .i64 b,.i .i64 c]/\φ (.mX [X,.i .i64 a,.i .i64 b,.v (.int .i64 c)])) (L:=L0) ?_).mono fun e w' ⟨v,s,H',he,⟨s',hw,hs⟩,r⟩=>?_
     ·rw[hn]
      refine qg (atG _ _ _) 300 400 [] ?_;have out (c:Int) (hφ:φ (.mX [.sl 0 0 noT,.i .i64 0,.i .i64 0,.v (.int .i64 c)])):up (fun s=>∃X a b c,s=.mX [X,.i .i64 a,.i .i64 b,.i .i64 c]/\φ (.mX [X,.i .i64 a,.i .i64 b,.v (.int .i64 c)])) (.mX [.sl 0 0 fun _=>[],.i .i64 0,.i .i64 0,.i .i64 c]):=
       nP (s':=.mX [.sl 0 0 noT,.i .i64 0,.i .i64 0,.i .i64 c]) ⟨.inl ⟨rfl,rfl⟩,rfl,rfl,rfl,trivial⟩ ⟨_,_,_,_,rfl,hφ⟩
      have ok (h0:mM.lt i (ab 0)=ag) (h0':mM.le (mM.nK n) i=ag):wM n i=ah:=by
       simp_all [mW,tN,ny,wM]
      refine aol mM W7 n d (d i.toNat) i op k v ?_ ?_ ?_ ?_ ?_ ?_ ?_ ?_ ?_ ?_
      ·assumption
      ·intro q q';exact @decide_eq_true _ (ay _) rfl
      ·intro q q';exact (hin (ok q q')).1
      ·intro q q' _;exact aft fun _ _=>rfl
      ·simp_all
      ·intro q;exact out 109 (hout (by grind [mW,wM]))
      ·intro q q';exact out 109 (hout (by simp_all [tN,ny,wM]))
      ·intro q q' q2
       obtain ⟨_,h3,_⟩:=hin (ok q q');have h3:=h3 q2;refine nP (s':=.mX [.sl 4 n (Ce n (rD d) i (KH (Ht (d i.toNat) op k v))),.i .i64 (opR (d i.toNat) op k v),.i .i64 (opV (d i.toNat) op k v),.i .i64 0]) ⟨.inr ⟨rfl,rfl,fun j hj=>?_⟩,rfl,rfl,rfl,trivial⟩ ⟨_,_,_,_,rfl,h3⟩;simp_all [ER,oZ,Ce,rD,KH]
      ·intro q q' q2 q3
       obtain ⟨_,_,h4⟩:=hin (ok q q');exact out 110 ((h4 q2).1 q3)
      ·intro q q' q2 q3
       obtain ⟨_,_,h4⟩:=hin (ok q q');exact out 111 ((h4 q2).2 q3)
     ·obtain ⟨H2,r2⟩:=r.wk hw
      grind
    refine key.mono fun e w' ⟨v,s,H',he,⟨X,a,b,c,hs,hφ⟩,r⟩=>?_;subst hs;exact ⟨v,_,H',he,hφ,abf r⟩
  ·exact h.elim
 ·exact h.elim
end Go.Rg
namespace Go.Proofs
open Go Go.Sx Go.Pl
open Go.oz (Ev Hr De Rc)
def aqC(g:Nat):Bool:=Nat.beq g 27
def Hw:List It:=[fT [0,0,0,1,0,0,1,0,1,1,1,1] [5,6],aA [1,0,0,1,0,0,1,0,1,1,1,1],aM 1,aA [1,1,0,0,1,0,1,1,1,1]]++vO
def Ou(n:Nat)(o:Nat->Oj)(m:Nat)(ev:Nat->List Sh)(k:Nat)(G:Nat->List Sh)(c:Nat)(gc:Nat->List Sh)(ft:Int)(fk:Nat)(fg:Nat->List Sh)(i q:Int)(l:List SV):Core:=
 {tm:=sK 38 [(1,.ptr 0 0),(2,.nS),(3,.ptr 1 0),(4,.ptr 2 0),(5,.ptr 3 0),(6,.sym .i64 i),(28,.agg l)],
  hp:=[(0,.box [.sh (.sl 2 n (mO o)),.sh (.sl 8 m ev)] 25),(1,.box [.int .i64 0,.nS] 34),(2,.box [.sym .i64 ft,.sh (.sl 1 fk fg)] 34),(3,.box [.sh (.sl 2 n (mO o)),.gs 4,.gs 5,.sym .i64 q] 96),(4,.own 106 7 k G),(5,.own 3 1 c gc)],nx:=6,lim:=L0,tc:=[]}
def Z5(kd:Int)(e:Ev):List SV:=[.int .i64 kd,.sym .i64 e.tx,.sym .i64 e.thread,.sym .i64 e.obj,.sym .i64 e.op,.sym .i64 e.key,.sym .i64 e.val,.sym .i64 e.ret]
section
variable{H0:Mem}{w0:World}{φ:Sh->Prop}{n m:Nat}{o:Nat->Oj}{p:Nat->Ev}{k c:Nat}{G gc:Nat->List Sh}{ft:Int}{fk:Nat}{fg:Nat->List Sh}{i:Nat}{q:Int}
theorem GH(kd:Int)(hk:i<m->(p i).kind=kd)(hend:¬i<m->φ (.mX [.os 106 7 k G,.agg [.i .i64 ft,.sl 1 fk fg]]))
  (hgo:i<m->mY ai (yS mM W7 uX mZ) (K0 H0 w0) 13 Hw (Ou n o m (aE p) k G c gc ft fk fg (i:Nat) q (Z5 kd (p i))) [] emp φ) :
  mY ai (yS mM W7 uX mZ) (K0 H0 w0) 13 vO (wJ n o m (aE p) k G c gc ft fk fg (i:Nat) q) [] emp φ:=by
 refine uT Tryz.f13 avS ?_;refine EG aqC (JL _) 300 800 [⟨13,Hw,Ou n o m (aE p) k G c gc ft fk fg (i:Nat) q (Z5 (p i).kind (p i)),[]⟩] ?_;have inb (h:mM.lt (i:Int) (mM.nK m)=ah):i<m:=by grind [mW,ny]
 have out (h:mM.lt (i:Int) (mM.nK m)=ag):¬i<m:=by grind [mW,ny]
 exact rQ (nd (mM.lt (i:Int) (mM.nK m)) (fun h=>an (by simp[nN,inb h]:mM.inB (i:Int) m=ah)
  (by simp_all:mY ai (yS mM W7 uX mZ) (K0 H0 w0) 13 Hw (Ou n o m (aE p) k G c gc ft fk fg (i:Nat) q (Z5 (p i).kind (p i))) [] emp φ)) (fun h=>hend (out h)))
end
end Go.Proofs
namespace Go.Sx
def pS(x y:SV):Prop:=∀(H:Mem) (E:Env) (v:Value),Den H E x v->Den H E y v
def pL:List SV->List SV->Prop
 |[],[]=>True |x::l,y::m=>pS x y/\pL l m |_,_=>False
def pB:SB->SB->Prop
 | .box l e,.box m f=>e=f/\pL l m |a,b=>a=b
def pH:List (Nat×SB)->List (Nat×SB)->Prop
 |[],[]=>True |(i,a)::l,(j,b)::m=>i=j/\pB a b/\pH l m |_,_=>False
def ai7:List Fr->List Fr->Prop
 |[],[]=>True |f::s,f'::s'=>f.g=f'.g/\f.td=f'.td/\pL f.tm f'.tm/\ai7 s s' |_,_=>False
structure pC(c c':Core):Prop where
 tm:pL c.tm c'.tm
 hp:pH c.hp c'.hp
 nx:c.nx=c'.nx
 lim:c.lim=c'.lim
 tc:c.tc=c'.tc
theorem pS.any{x:SV}:pS x .any:=fun _ _ _ _=>trivial
theorem V8{H:Mem}{E:Env}:∀{l m:List SV} {vs:List Value},pL l m->ni H E l vs->ni H E m vs
 |[],[],[],_,_=>trivial |_::_,_::_,_::_,⟨h1,h2⟩,⟨d1,d2⟩=>⟨h1 _ _ _ d1,V8 h2 d2⟩ |[],_::_,_,h,_=>h.elim |_::_,[],_,h,_=>h.elim |_::_,_::_,[],_,hd=>hd.elim |[],[],_::_,_,hd=>hd.elim
theorem pS.sl{st n:Nat}{g g':Nat->List Sh}(h:∀j,j<n->g j=g' j):pS (.sh (.sl st n g)) (.sh (.sl st n g')):=fun H E v hd=>by
 have hd:Rep H (.sl st n g) v:=hd;show Rep H (.sl st n g') v;cases hd with
 |sl0 _ _ A cap hc=>exact .sl0 _ _ _ _ hc |sl _ _ _ b off cap c h1 h2 h3 h4 h5 h6=>exact .sl _ _ _ b off cap c h1 h2 (fun i hi=>by simp_all) h4 h5 fun i j s hi e=>h6 i j s hi (by simp_all)
theorem pL.set{x y:SV}(h:pS x y):∀{l m:List SV} (i:Nat),pL l m->pL (l.set i x) (m.set i y)
 |[],[],_,_=>trivial |_::_,_::_,0,⟨_,h2⟩=>⟨h,h2⟩ |_::_,_::_,i+1,⟨h1,h2⟩=>⟨h1,pL.set h i h2⟩ |[],_::_,_,h=>h.elim |_::_,[],_,h=>h.elim
section
variable{P:Program}{C:Ctx}{K:Kx}{H H':Mem}{E E':Env}{w w':World}
theorem aht{id:Nat}{a b:SB}(h:pB a b)(he:xU K H E w id a):xU K H E w id b/\nU E id a=nU E id b:=by
 cases a with
 |box l e=>
  cases b with
  |box m f=>
   obtain ⟨rfl,h⟩:=h;obtain ⟨b,cs,h1,h2,h3,h4⟩:=he;exact ⟨⟨b,cs,h1,h2,V8 h h3,h4⟩,rfl⟩
  |_=>simp[pB] at h
 |_=>
  simp only[pB] at h;subst h;exact ⟨he,rfl⟩
theorem V9:∀{l m:List (Nat×SB)} {i:Nat} {b:SB},pH l m->mQ m i=ae b->∃a,mQ l i=ae a/\pB a b
 |[],[],_,_,_,h=>by simp[mQ] at h |(i,a)::l,(j,b)::m,k,sb,⟨h1,h2,h3⟩,h=>by
  subst h1;simp only[mQ] at h ⊢;cases hk:(i==k)<;>simp only[hk,cond_true,cond_false] at h ⊢
  ·exact V9 h3 h
  simp_all
 |[],_::_,_,_,h,_=>h.elim |_::_,[],_,_,h,_=>h.elim
theorem St.acF{c c':Core}{a:Act}(st:St C K H E w c a)(h:pC c c'):St C K H E w c' a:=by
 refine ⟨V8 h.tm st.den,⟨fun id sb hl=>?_,fun id id' sb sb' b l1 l2 o1 o2=>?_⟩,st.o7,fun i h1 h2=>st.free i (by rw[h.nx];exact h1) (by rw[h.lim];exact h2),st.gl,st.defers⟩
 ·obtain ⟨x,h1,h2⟩:=V9 h.hp hl
  exact (aht h2 (st.hp.ent _ _ h1)).1
 ·obtain ⟨x,h1,h2⟩:=V9 h.hp l1
  obtain ⟨y,h3,h4⟩:=V9 h.hp l2;exact st.hp.vV _ _ _ _ _ h1 h3 (by rw[(aht h2 (st.hp.ent _ _ h1)).2];exact o1) (by rw[(aht h4 (st.hp.ent _ _ h3)).2];exact o2)
theorem xB.acF:∀{s s':List Fr} {ms:List Frame},xB C H E s ms->ai7 s s'->xB C H E s' ms
 |[],[],[],_,_=>trivial |f::s,f'::s',m::ms,⟨⟨fn,a,items,h1,h2,h3,h4,h5⟩,h6⟩,⟨e1,e2,e3,e4⟩=>
  ⟨⟨fn,a,items,by simp_all,V8 e3 h2,h3,by simp_all,by simp_all⟩,xB.acF h6 e4⟩
 |[],[],_::_,h,_=>h.elim |_::_,_,[],h,_=>h.elim |[],_::_,_,_,h=>h.elim |_::_,[],_::_,_,h=>h.elim
theorem ai8{g:Nat}:∀{s s':List Fr} {g:Nat},ai7 s s'->J7 g s'=J7 g s
 |[],[],_,_=>rfl |f::s,f'::s',_,⟨e1,_,_,e4⟩=>by simp only[J7];rw[e1];exact ai8 (g:=0) e4 |[],_::_,_,h=>h.elim |_::_,[],_,h=>h.elim
theorem Rx{g:Nat}{td:List It}{c c':Core}{stk AZ:List Fr}{R:Hp->Prop}{φ:Sh->Prop}(hle:pC c c')(hs:ai7 stk AZ)(h:mY P C K g td c' AZ R φ):mY P C K g td c stk R φ:=by
 intro H E w a items ms cs fn hfn st hi hst hx;have:=h H E w a items ms cs fn hfn (st.acF hle) hi (hst.acF hs) hx;rw[ai8 (g:=0) hs] at this;exact this
end
end Go.Sx
namespace Go.oz
open Go Go.Sx
theorem JQ{α:Type}[Row α](o:Nat->α):mP (mO o)=o:=funext fun i=>Dh o i
def takeN(p:Nat->Ev):Au->Nat->Nat->Au ⊕ (Nat×Nat)
 |σ,_,0=>.inl σ |σ,k,r+1=>match (σ.feed (p k)).1 with
  |none=>takeN p (σ.feed (p k)).2 (k+1) r |some e=>.inr (k,e)
def FV(m:Nat)(p:Nat->Ev):Au ⊕ (Nat×Nat):=takeN p c8 0 m
def takeB(m:Nat)(p:Nat->Ev):Bool:=match FV m p with| .inl _=>ah| .inr _=>ag
def yO(m:Nat)(p:Nat->Ev):Au:=match FV m p with| .inl σ=>σ| .inr _=>c8
def MP(m:Nat)(p:Nat->Ev):Int:=match FV m p with| .inl _=>0| .inr (k,_)=>k
def MQ(m:Nat)(p:Nat->Ev):Nat:=match FV m p with| .inl _=>0| .inr (_,e)=>e
def resT:Au ⊕ (Nat×Nat)->Sh
 | .inl σ=>.mX [.os 106 7 σ.rs.length (Go.oH.JJ uP dfn (oG σ)),.v .nilIface] | .inr (k,e)=>.mX [.sl 0 0 fun _=>[],.qK 90 (.pt [.i .i64 (k:Int),.er e 288])]
structure YJ(n m:Nat)(o:Nat->Oj)(p:Nat->Ev):Prop where
 small:n<=8/\m<=400
 valid:∀k,k<m->oQ (p k)=ah
 obj:∀k,k<m->(p k).kind=2->0<=(p k).obj/\(p k).obj<n/\Cj (p k).op=(o (p k).obj.toNat).kind
theorem PE{f:Nat->Option Nat}:∀{r k:Nat},Ar f k r=ao->∀j,k<=j->j<k+r->f j=ao
 |0,k,_,j,h1,h2=>by omega |r+1,k,h,j,h1,h2=>by
  simp only[Ar] at h;cases hf:f k with
  |some e=>simp_all |none=>
   rw[hf] at h;by_cases q:j=k
   ·simp_all
   ·exact PE h j (by omega) (by omega)
theorem YK{n m:Nat}{o:Nat->Oj}{p:Nat->Ev}(h1:wI n m=ag)(h2:(Rj n m o p).isNone=ah)(h3:∀k,k<m->qJ (p k).ret=ah):YJ n m o p:=by
 unfold wI at h1;have h1:¬(8<n\/400<m):=by grind
 have key:∀k,k<m->BI n o (p k)=ao:=fun k hk=>by
  unfold Rj at h2;cases hs:Ar (fun k=>MG (o k)) 0 n with
  |some x=>simp_all |none=>
   rw[hs] at h2;exact PE (Option.isNone_iff_eq_none.1 h2) k (by omega) (by omega)
 have parts:∀k,k<m->BG (p k)=ah/\fieldsB (p k)=ah/\((p k).kind=2->(p k).obj<n/\Cj (p k).op=(o (p k).obj.toNat).kind):=fun k hk=>by
  have h:=key k hk;unfold BI at h;grind
 exact ⟨by omega,fun k hk=>by
  simp_all [oQ],fun k hk hk2=>by
  simp_all [Gv]⟩
end Go.oz
namespace Go.oH
open Go Go.Sx Go.oz
theorem aqD:∀g F,Yu g=ae F->nD ai (DW W5) g F:=fun g F h=>by
 grind [Yu,avC]
theorem YL:oC ai (CT mM W5):=by
 have h:=C5.ok Yu mZ;exact ⟨h.1,h.2,h.3,h.4,h.5,h.6,mK⟩
theorem CTf:oD ai (CT mM W5):=by
 have h:=C5.Hq (stop:=mZ) aqD fun g h=>by
  unfold Yu at h;split at h;all_goals first|(cases h;done) |kernel_rfl
 exact ⟨h.1,h.2,h.3,h.4⟩
theorem Ry{n b:Nat}(h:n<=100000)(hb:b<=1000):mM.room n b=ah:=by
 rw[uK,decide_eq_true_eq];have h1:n*b<=100000*1000:=Nat.mul_le_mul h hb;grind [maxLen]
theorem aom{H0:Mem}{w0:World}{N:Nat}{rs:Nat->Rc}{φ:Sh->Prop}(hN:N<=1000)(hD:∀k,k<N->uP (rs k)<=1000)(hφ:φ (.mX [.os 106 7 N (JJ uP dfn rs),.v .nilIface])):
  ∀rm k,k+rm=N->mY ai (CT mM W5) (K0 H0 w0) 60 tdT (aa5 uP dfn N rs (N:Int) k k (JJ uP dfn rs)) frX emp φ
 |rm,k,hk=>by
  refine uT lQ tbT ?_;refine aeg YL CTf (hold:=tX) (m:=300) (n:=400) (ts:=[⟨60,tdT,aa5 uP dfn N rs (N:Int) (k+1:Nat) (k+1) (JJ uP dfn rs),frX⟩]) ?_;rw[f32 mM W5 uP dfn N rs (N:Int) k (k+1:Nat) k (k+1) (JJ uP dfn rs) (JJ uP dfn rs)];simp only[mW,tN,ny,nN,oZ,rP,uo,zi,Tree.All,yc,bm,cy];refine ⟨fun h=>?_,fun h=>?_⟩
  ·have hlt:k<N:=by simp_all
   have hd:=hD k hlt;have hw:az.wrap ((k:Int)+1)=((k+1:Nat):Int):=by grind [pF]
   have hle:decide (ab 0<=ab (uP (rs k)))=ah:=by simp
   have hr1:mM.room (uP (rs k)) 64=ah:=Ry (by omega) (by omega);have hr2:mM.room (k+1) 72=ah:=Ry (by omega) (by omega);have eqD:mM.snoc (fun _=>[]) 0 (dfn (rs k))=dfn (rs k):=by
    rfl
   match rm,hk with
   |0,hk=>omega |rm+1,hk=>
    refine ⟨by simp;omega,hle,hr1,hr1,hle,hr1,hr1,?_,hle,hr1,hr1,?_,hr2,⟨rfl,rfl,hw,rfl,fun i hi=>?_,trivial⟩,_,rfl,aom hN hD hφ rm (k+1) (by omega)⟩
    ·repeat' (first|exact trivial|refine aW rfl ?_)
    ·repeat' (first|exact trivial|refine aW rfl ?_)
    ·rw[rH,eqD]
     by_cases q:i<k
     ·rw[if_pos q]
     ·rw[if_neg q]
      have:i=k:=by omega
      subst this;rw[dh];rfl
  grind
theorem atI{H0:Mem}{w0:World}{n:Nat}{o:Nat->Oj}{σ:Au}{b:Nat}{φ:Sh->Prop}(hI:σ.OK)(hm:σ.many<=400)(hφ:φ (resT (.inl σ))):
  mY ai (CT mM W5) (K0 H0 w0) 43 aa4 (LX (.val (.pointer (ae ⟨b,0,ao⟩)))) [] (Dp n o σ b) φ:=by
 have hlen:=hI.len;refine aed (X:=Lay) (u:=.pointer (ae ⟨b,0,ao⟩)) (y:=fun L=>auX uP dfn L.v0 σ.many σ.rs.length (oG σ) L.b1 L.b2) (fun H E h w hR _ hat=>akA hR hat) (i:=14) rfl fun L=>?_
 show mY ai (CT mM W5) (K0 H0 w0) 43 aa4 (LX (auX uP dfn L.v0 σ.many σ.rs.length (oG σ) L.b1 L.b2)) [] emp φ;refine pK tX (hC:=YL) CTf 300 400 [⟨60,tdT,aa5 uP dfn σ.rs.length (oG σ) (σ.rs.length:Int) (0:Nat) 0 (JJ uP dfn (oG σ)),frX⟩] ?_;rw[e32 mM W5 uP dfn L.v0 σ.many σ.rs.length (oG σ) L.b1 L.b2 (σ.rs.length:Int) (0:Nat) 0 (JJ uP dfn (oG σ))];refine ⟨by rfl,Ry (by simp[oZ,ny];omega) (by omega),⟨rfl,rfl,rfl,rfl,fun i hi=>by omega,trivial⟩,_,rfl,aom (by omega) (fun k hk=>?_) hφ _ 0 (cy _)⟩;have:=hI.dl k _ (JK hk);show (oG σ k).mV.length<=1000;omega
theorem aqE{H:Mem}{E:Env}{e:Ev}{v:Value}(h:Den H E (.agg [.sym .i64 e.kind,.sym .i64 e.tx,.sym .i64 e.thread,.sym .i64 e.obj,.sym .i64 e.op,.sym .i64 e.key,.sym .i64 e.val,.sym .i64 e.ret]) v):v=TW e:=by
 obtain ⟨⟨vs⟩,rfl,hd⟩:=h;match vs,hd with
 |[a,b,c,d,e,f,g,h],⟨h1,h2,h3,h4,h5,h6,h7,h8,_⟩=>
  cases h1;cases h2;cases h3;cases h4;cases h5;cases h6;cases h7;cases h8;rfl
theorem Rz{H0:Mem}{w0:World}{n m:Nat}{o:Nat->Oj}{p:Nat->Ev}{b:Nat}{φ:Sh->Prop}(hg:YJ n m o p):
  ∀rm k σ,k+rm=m->σ.OK->σ.many=k->φ (resT (takeN p σ k rm))->mY ai (CT mM W5) (K0 H0 w0) 59 Rt (LT m p b (m:Int) k) Kq (Dp n o σ b) φ
 |rm,k,σ,hk,hI,atJ,hφ=>by
  have hs:=hg.small;refine uT gf arJ ?_;refine pK Ua (hC:=YL) CTf 300 400 [⟨59,tdP,LP m p b (m:Int) k (p k) .any,Kq⟩,⟨43,aa4,LX (.val (.pointer (ae ⟨b,0,ao⟩))),[]⟩] ?_;rw[b32 mM W5 m p b (m:Int) k k];refine ⟨fun h=>?_,fun h=>?_⟩
  ·have hlt:k<m:=by simp_all [mW]
   match rm,hk,hφ with
   |0,hk,_=>omega |rm+1,hk,hφ=>
    refine ⟨by simp[nN];omega,⟨rfl,rfl,rfl,rfl,rfl,rfl,rfl,rfl,rfl,rfl,rfl,rfl,rfl,rfl,trivial⟩,_,rfl,?_⟩;refine aeb (fn:=gf) (g2:=78) (args:=[.val (.pointer (ae ⟨b,0,ao⟩)),.agg [.sym .i64 (p k).kind,.sym .i64 (p k).tx,.sym .i64 (p k).thread,.sym .i64 (p k).obj,.sym .i64 (p k).op,.sym .i64 (p k).key,.sym .i64 (p k).val,.sym .i64 (p k).ret]]) (dst:=ae 34) (uJ:=tdQ) (by kernel_rfl) (by kernel_rfl) (CTf.en 78 (.inr (by kernel_rfl))) ⟨rfl,by kernel_rfl,by kernel_rfl⟩
     (atq (fun H E v=>aqE) hI (by omega) (hg.valid k hlt) (hg.obj k hlt)) ?_
    show mY ai (CT mM W5) (K0 H0 w0) 59 tdQ (LP m p b (m:Int) k (p k) (svE (σ.feed (p k)).1)) Kq (Dp n o (σ.feed (p k)).2 b) φ;cases hx:(σ.feed (p k)).1 with
    |none=>
     refine pK Ua (hC:=YL) CTf 300 400 [⟨59,Rt,LT m p b (m:Int) (k+1:Nat),Kq⟩] ?_;have e:=c32 mM W5 m p b (m:Int) k (k+1:Nat) (p k);rw[show svE ao=bQ from rfl,e];refine ⟨⟨rfl,rfl,rfl,?_,trivial⟩,_,rfl,Rz hg rm (k+1) _ (by omega) (hI.feed (hg.valid k hlt)) (by rw[FU hx,atJ]) (by simp_all [takeN])⟩;show mM.add .i64 (k:Int) (ab 1)=((k+1:Nat):Int);grind [rP,zi,pF]
    |some e=>
     refine pK Ua (hC:=YL) CTf 300 400 [] ?_;rw[show svE (ae e)=bc (.er e 288) from rfl,d32 mM W5 m p b (m:Int) k (p k) e];have hφ':φ (resT (.inr (k,e))):=by simp_all [takeN]
     exact hφ'
  ·have:k=m:=by grind [mW]
   have:rm=0:=by omega
   subst this;exact ⟨⟨rfl,trivial⟩,_,rfl,atI hI (by omega) hφ⟩
def aic:Sh:=.sl 0 0 fun _=>[]
def F32:List Sh->Tree Sh
 |[.agg [.sl 2 n g,.sl 8 m h]]=>.need (okB Oj n g) (.need (okB Ev m h) (.need (FP m h) (.node (wI n m) (.leaf (.mX [.sl 0 0 fun _=>[],.er 6 288])) (.node (uF n m g h)
   (.node (takeB m (mP h)) (.leaf (.mX [.os 106 7 (yO m (mP h)).rs.length (JJ uP dfn (oG (yO m (mP h)))),.v .nilIface])) (.leaf (.mX [.sl 0 0 fun _=>[],.qK 90 (.pt [.i .i64 (MP m (mP h)),.er (MQ m (mP h)) 288])])))
   (.leaf (.mX [.sl 0 0 fun _=>[],.qK 90 (.pt [.i .i64 (BK n m g h),.er (FQ n m g h) 288])]))))))
 |_=>.fail
theorem O32:nD ai (DW W5) 43 F32:=by
 refine zI (CT mM W5) gh (hC:=YL) fun H w nY args φ hrep h=>?_
 have hn:gh.ntmps=16:=by kernel_rfl
 unfold F32 at h;split at h
 ·rename_i n g m h'
  obtain ⟨h1,h2,h3,h4,h5⟩:=h;match args,hrep with
  |[v],⟨hv,_⟩=>
   rw[hn];refine ⟨[.agg [.sl 2 n (mO (mP (α:=Oj) g)),.sl 8 m (mO (mP (α:=Ev) h'))]],⟨MF hv h1 h2,trivial⟩,L0,?_⟩;refine aef YL CTf (hold:=aiY) (m:=300) (n:=400) ?_;rw[a32 mM W5 n m (mP g) (mP h'),XB];have hret:∀k,k<m->qJ (mP (α:=Ev) h' k).ret=ah:=fun k hk=>bh.1 h3 k (bI.2 hk);have hb0:wI n m=ag->wI n 0=ag:=fun q=>by
    simp_all [wI,decide_eq_false]
   have hgd:uF n m (mO (mP (α:=Oj) g)) (mO (mP (α:=Ev) h'))=uF n m g h':=by
    rfl
   refine ⟨o9 _ _,o9 _ _,bh.2 fun k hk=>?_,fun q=>h4 q,fun q=>⟨fun q2=>?_,fun q2=>?_⟩⟩
   ·simp_all [JQ,bI]
   ·have q3:uF n m g h'=ah:=hgd ▸ q2
    obtain ⟨hT,hF⟩:=(h5 q).1 q3;have G:=YK q q3 hret;have hs:=G.small;have fin:∀b,mY ai (CT mM W5) (K0 H w) 59 Rt (LT m (mP h') b (m:Int) (0:Nat)) Kq (Dp n (mP g) c8 b) φ:=fun b=>by
     refine Rz G m 0 c8 (by omega) Au.OK.nil rfl ?_;show φ (resT (FV m (mP h')));unfold takeB at hT hF;unfold yO at hT;unfold MP MQ at hF;cases hx:FV m (mP (α:=Ev) h') with
     |inl σ=>rw[hx] at hT;exact hT rfl |inr x=>rw[hx] at hF;exact hF rfl
    have own:∀nx tc,mY ai (CT mM W5) (K0 H w) 59 Rt ⟨[dX [bc (aj 2 n (mO (mP (α:=Oj) g))),bc (aj 8 m (mO (mP (α:=Ev) h')))],dY 1 0,SV.uN,bQ,bQ,dY 6 0,bQ]++rep [.any] 6++[.bool ag]++rep [.any] 8++[.bool ag,.any,.any,bc (aj 8 m (mO (mP (α:=Ev) h'))),.sym .i64 (mM.nK m),.int .i64 (ab 0)]++rep [.any] 16,
      [(0,dZ [bc (aj 2 n (mO (mP (α:=Oj) g))),bc (aj 8 m (mO (mP (α:=Ev) h')))] 25),(1,dZ [bc (aj 2 n (mO (mP (α:=Oj) g))),bc (aj 8 m (mO (mP (α:=Ev) h')))] 25),(3,SB.own 73 2 (mM.addN 0 n) (mM.snoc (nM []) 0 (mO (mP (α:=Oj) g)))),(4,gb .i64 (fun _=>ao) [] [] ao),(5,gb .i64 (fun _=>ao) [] [] ao),(6,dZ [SV.gs 3,SV.int .i64 (ab 0),d7,iK 4,iK 5] 185)],nx,L0,tc⟩
      [{g:=43,td:=[fT [0,1] [1,2,3,4,5,6],aA [1,1]],tm:=[dX [bc (aj 2 n (mO (mP (α:=Oj) g))),bc (aj 8 m (mO (mP (α:=Ev) h')))],dY 0 0,d7,bQ,.any,.any,.any,dX [bc (aj 2 n (mO (mP (α:=Oj) g))),bc (aj 8 m (mO (mP (α:=Ev) h')))]]++rep [.any] 8}] emp φ:=fun nx tc=>by
     refine U5 (R':=Dp n (mP g) c8) (i0:=6) (fun i=>bO i 3) (fun H E w h hon hh hd=>anZ (n:=n) (n':=mM.addN 0 n) (o:=mP g) (o':=mM.snoc (nM []) 0 (mO (mP (α:=Oj) g))) (fun i hi=>by rfl) (cy n) rfl hh hd) fun b=>?_
     refine Rx (c':=LT m (mP h') b (m:Int) (0:Nat)) (AZ:=Kq) ⟨?_,trivial,rfl,rfl,rfl⟩ ⟨rfl,rfl,?_,trivial⟩ (fin b)
     ·repeat' (first|exact trivial|refine aW pS.any ?_|refine aW (fun _ _ _ h=>h) ?_)
     ·repeat' (first|exact trivial|refine aW pS.any ?_|refine aW (fun _ _ _ h=>h) ?_)
    have nil:n=0->∀nx tc,mY ai (CT mM W5) (K0 H w) 59 Rt ⟨[dX [bc (aj 2 n (mO (mP (α:=Oj) g))),bc (aj 8 m (mO (mP (α:=Ev) h')))],dY 1 0,SV.uN,bQ,bQ,dY 4 0,bQ]++rep [.any] 6++[.bool ag]++rep [.any] 8++[.bool ag,.any,.any,bc (aj 8 m (mO (mP (α:=Ev) h'))),.sym .i64 (mM.nK m),.int .i64 (ab 0)]++rep [.any] 16,
      [(0,dZ [bc (aj 2 n (mO (mP (α:=Oj) g))),bc (aj 8 m (mO (mP (α:=Ev) h')))] 25),(1,dZ [bc (aj 2 n (mO (mP (α:=Oj) g))),bc (aj 8 m (mO (mP (α:=Ev) h')))] 25),(2,gb .i64 (fun _=>ao) [] [] ao),(3,gb .i64 (fun _=>ao) [] [] ao),(4,dZ [d7,SV.int .i64 (ab 0),d7,iK 2,iK 3] 185)],nx,L0,tc⟩
      [{g:=43,td:=[fT [0,1] [1,2,3,4,5,6],aA [1,1]],tm:=[dX [bc (aj 2 n (mO (mP (α:=Oj) g))),bc (aj 8 m (mO (mP (α:=Ev) h')))],dY 0 0,d7,bQ,.any,.any,.any,dX [bc (aj 2 n (mO (mP (α:=Oj) g))),bc (aj 8 m (mO (mP (α:=Ev) h')))]]++rep [.any] 8}] emp φ:=fun hz nx tc=>by
     refine U5 (R':=Dp n (mP g) c8) (i0:=4) (fun i=>bO i 2) (fun H E w h hon hh hd=>an0 (n:=n) (o:=mP g) hz rfl hh hd) fun b=>?_
     refine Rx (c':=LT m (mP h') b (m:Int) (0:Nat)) (AZ:=Kq) ⟨?_,trivial,rfl,rfl,rfl⟩ ⟨rfl,rfl,?_,trivial⟩ (fin b)
     ·repeat' (first|exact trivial|refine aW pS.any ?_|refine aW (fun _ _ _ h=>h) ?_)
     ·repeat' (first|exact trivial|refine aW pS.any ?_|refine aW (fun _ _ _ h=>h) ?_)
    have hrm:mM.room (mM.addN 0 n) 16=ah:=by rw[uo,cy];grind [Ry]
    refine ⟨o9 _ _,rfl,rfl,fun q4=>?_,fun _=>⟨fun _=>⟨fun q5=>⟨nil (by grind [TA]) _ _,hrm,own _ _⟩,fun _=>⟨hrm,own _ _⟩⟩,fun q5=>?_⟩⟩
    ·simp_all
    ·exfalso
     unfold uF Rj at q3 q5;rw[JQ] at q5;grind [Ar,MG,mP]
   ·have q3:uF n m g h'=ag:=hgd ▸ q2
    have:=(h5 q).2 q3;assumption
 ·exact h.elim
end Go.oH
namespace Go.Pl
open Go Go.Sx Go.Proofs
open Go.oz (Ev De Rc Au nth oG uq wO oQ)
def YM(r:Rc):Bool:=Yv r.mV.length (aQ r.mV)
structure ai9(c:Bool)(r:Rc):Prop where
 en:0<=r.en↔r.stand=5
 tr:r.stand≠5->(0<=r.tr↔r.stand=3)
 cn:r.stand≠5->(c=ah↔r.stand=4)
 wa:r.stand≠5->r.stand≠3->r.stand≠4->(YM r=ah↔r.stand=2)
structure RD(σ:Au)(cs:List Int):Prop where
 st:∀r∈σ.rs,ai9 (cs.contains r.id) r
 id:∀(i j:Nat) (r s:Rc),σ.rs[i]?=ae r->σ.rs[j]?=ae s->r.id=s.id->i=j
 own:∀x∈cs,∃r∈σ.rs,r.id=x
 len:cs.length<=σ.many
def JR(kd:Int)(c:Bool)(r:Rc):Bool:=
 bif decide (0<=r.en) then ag
 else bif kd==2||kd==4||kd==7 then !(decide (0<=r.tr)||c) && !YM r
 else bif kd==3 then !(decide (0<=r.tr)||c)&&YM r
 else bif kd==5 then decide (0<=r.tr) else ah
def xJ(σ:Au)(cs:List Int)(e:Ev):Int:=
 match σ.yt e.tx with
 |some i=>bif e.kind==1 then 114 else bif JR e.kind (cs.contains e.tx) (oG σ i) then (bif e.kind==3 && !wO ((oG σ i).mV.getLast?.getD dk).op e.ret then 112 else 0) else 116 |none=>bif e.kind==1 then (match σ.Ba e.thread with
  |some _=>115 |none=>0) else 113
def RF(cs:List Int)(e:Ev):List Int:=if e.kind=7 then cs++[e.tx] else cs
theorem by_some{σ:Au}{x:Int}{i:Nat}(h:σ.yt x=ae i):∃r,σ.rs[i]?=ae r/\r.id=x:=by
 have:=List.findIdx?_eq_some_iff_getElem.1 h;grind
theorem Aw{σ:Au}{i:Nat}{r:Rc}(h:σ.rs[i]?=ae r):oG σ i=r:=by
 simp_all [oG,List.getD_eq_getElem?_getD]
theorem afu{kd:Int}{c:Bool}{r:Rc}(h:ai9 c r)(h1:1<=r.stand/\r.stand<=5)(hk:2<=kd/\kd<=7)(many:Nat)(e:Ev)(he:e.kind=kd):
  ((bD many e r).isRight=ah↔JR kd c r=ah/\(kd=3->wO (r.mV.getLast?.getD dk).op e.ret=ah)):=by
 obtain ⟨a1,a2,a3,a4⟩:=h;have hs:r.stand=1\/r.stand=2\/r.stand=3\/r.stand=4\/r.stand=5:=by omega
 have hkk:kd=2\/kd=3\/kd=4\/kd=5\/kd=6\/kd=7:=by omega
 unfold bD JR;grind
theorem YN{σ:Au}{cs:List Int}{e:Ev}(hI:RD σ cs)(hO:σ.OK)(hv:1<=e.kind/\e.kind<=7):xJ σ cs e=0↔(σ.feed e).1=ao:=by
 unfold xJ Au.feed;cases hb:σ.yt e.tx with
 |some i=>
  obtain ⟨r,hr,hid⟩:=by_some hb;have hg:σ.rs.getD i ⟨0,0,0,0,0,0,[],0⟩=r:=by simp_all
  simp only[Aw hr,hg];by_cases k1:e.kind=1
  ·simp[k1]
  ·have b1:(e.kind==1)=ag:=by grind
   simp only[b1,cond_false];have hc:=afu (kd:=e.kind) (hI.st r (aT hr)) (hO.stands i r hr) (by omega) σ.many e rfl;grind
 |none=>
  grind
theorem aqF(a b c d e f g:Int):YM ⟨a,b,c,d,e,f,[],g⟩=ag:=rfl
theorem aqG(r:Rc)(d:De)(hd:d.back<0)(st:Int):YM {r with stand:=st,mV:=r.mV++[d]}=ah:=by
 grind [YM,Yv,aQ]
theorem atK(r:Rc)(f:De->De)(hf:∀d,0<=(f d).back)(st:Int):YM {r with stand:=st,mV:=uq f r.mV}=ag:=by
 unfold YM Yv;have hl:=Go.oz.BL f r.mV;grind [Go.oz.Gw]
theorem aon{many:Nat}{e:Ev}{r r':Rc}{c:Bool}(h:ai9 c r)(h1:1<=r.stand/\r.stand<=5)(hk:2<=e.kind/\e.kind<=7)(hs:bD many e r=.inr r'):ai9 (c||e.kind==7) r'/\r'.id=r.id:=by
 obtain ⟨a1,a2,a3,a4⟩:=h;have hkk:e.kind=2\/e.kind=3\/e.kind=4\/e.kind=5\/e.kind=6\/e.kind=7:=by omega
 have hst:r.stand=1\/r.stand=2\/r.stand=3\/r.stand=4\/r.stand=5:=by omega
 unfold bD at hs;rcases hkk with k|k|k|k|k|k<;>rcases hst with q|q|q|q|q<;>simp[k,q] at hs a1 a2 a3 a4 ⊢
 ·subst hs
  exact ⟨⟨by grind,by grind,by grind,fun _ _ _=>⟨fun _=>rfl,fun _=>aqG r _ (show (-1:Int)<0 by decide) 2⟩⟩,rfl⟩
 ·cases hf:wO (r.mV.getLast?.getD dk).op e.ret
  ·simp_all
  ·rw[hf] at hs
   have hs:Sum.inr _=Sum.inr r':=hs;cases hs;exact ⟨⟨by grind,by grind,by grind,fun _ _ _=>⟨fun h=>(by simp_all [atK]),fun h=>by simp at h⟩⟩,rfl⟩
 ·subst hs
  exact ⟨⟨by grind,by simp,by grind,by simp⟩,rfl⟩
 ·subst hs
  exact ⟨⟨by simp,by simp,by simp,by simp⟩,rfl⟩
 all_goals
  subst hs;exact ⟨⟨by simp<;>omega,by simp<;>omega,by simp,by simp⟩,rfl⟩
theorem aja(cs:List Int)(e:Ev)(x:Int):(RF cs e).contains x=(cs.contains x||(e.kind==7&&e.tx==x)):=by
 unfold RF;grind
theorem abg{σ:Au}{cs:List Int}{e:Ev}(hI:RD σ cs)(hO:σ.OK)(hv:1<=e.kind/\e.kind<=7)(h:(σ.feed e).1=ao):RD (σ.feed e).2 (RF cs e):=by
 have hm:=Go.oz.FU h;have hl:(RF cs e).length<=(σ.feed e).2.many:=by
  have:=hI.len;grind [RF]
 revert h hm hl;unfold Au.feed;cases hb:σ.yt e.tx with
 |some i=>
  obtain ⟨r,hr,hid⟩:=by_some hb;have hg:σ.rs.getD i ⟨0,0,0,0,0,0,[],0⟩=r:=by simp_all
  simp only[hg];by_cases k1:e.kind=1
  ·simp[k1]
  have b1:(e.kind==1)=ag:=by grind
  simp only[b1,cond_false];cases h2:bD σ.many e r with
  |inl k=>simp |inr r'=>
   intro _ _ hl;have hlt:=(List.getElem?_eq_some_iff.1 hr).1;obtain ⟨q1,q2⟩:=aon (hI.st r (aT hr)) (hO.stands i r hr) (by omega) h2;have at_:∀{j:Nat} {s:Rc},(σ.rs.set i r')[j]?=ae s->(j=i/\s=r')\/(j≠i/\σ.rs[j]?=ae s):=fun {j s} hj=>by
    grind
   refine ⟨fun s hs=>?_,fun a b x y ha hb e1=>?_,fun x hx=>?_,hl⟩
   ·obtain ⟨j,hj⟩:=bl.1 hs
    rcases at_ hj with ⟨rfl,rfl⟩ |⟨hn,hj'⟩
    ·grind [aja]
    ·have hne:s.id≠e.tx:=fun q=>hn (hI.id j i s r hj' hr (by rw[q,hid]))
     rw[aja,show (e.tx==s.id)=ag by grind,Bool.and_false,Bool.or_false];exact hI.st s (aT hj')
   ·rcases at_ ha with ⟨rfl,rfl⟩ |⟨n1,ha'⟩<;>rcases at_ hb with ⟨rfl,rfl⟩ |⟨n2,hb'⟩
    ·rfl
    ·exact (n2 (hI.id _ _ _ _ hr hb' (by omega)).symm).elim
    ·exact (n1 (hI.id _ _ _ _ ha' hr (by omega))).elim
    ·exact hI.id _ _ _ _ ha' hb' e1
   ·have hin:∀y,(∃s∈σ.rs,s.id=y)->∃s∈σ.rs.set i r',s.id=y:=fun y ⟨s,hs,e1⟩=>by
     grind [bl]
    unfold RF at hx;split at hx
    ·rcases aU.1 hx with hx|hx
     ·exact hin x (hI.own x hx)
     grind
    ·exact hin x (hI.own x hx)
 |none=>
  have hno:∀s∈σ.rs,s.id≠e.tx:=fun s hs=>by
   have:=List.findIdx?_eq_none_iff.1 hb s hs;simp_all
  cases k1:(e.kind==1) with
  |false=>simp |true=>
   have k1':e.kind=1:=by grind
   simp only[cond_true];cases hbu:σ.Ba e.thread with
   |some j=>simp |none=>
    intro _ _ hl;have hc:RF cs e=cs:=if_neg (by omega);rw[hc] at hl ⊢;refine ⟨fun s hs=>?_,fun a b x y ha hb e1=>?_,fun x hx=>?_,hl⟩
    ·rcases aU.1 hs with hs|hs
     ·exact hI.st s hs
     ·obtain rfl:s=_:=by simpa using hs
      have:cs.contains e.tx=ag:=by
       rw[Bool.eq_false_iff];intro q;obtain ⟨s,h1,h2⟩:=hI.own e.tx (by simpa using q);simp_all
      exact ⟨by simp,by simp,by simp_all,fun _ _ _=>by rw[aqF];simp⟩
    ·have at_:∀{j:Nat} {s x:Rc},(σ.rs++[x])[j]?=ae s->(j=σ.rs.length/\s=x)\/(j<σ.rs.length/\σ.rs[j]?=ae s):=fun {j s x} hj=>by
      grind
     rcases at_ ha with ⟨rfl,rfl⟩ |⟨n1,ha'⟩<;>rcases at_ hb with ⟨rfl,rfl⟩ |⟨n2,hb'⟩
     ·rfl
     ·grind
     ·grind
     ·exact hI.id _ _ _ _ ha' hb' e1
    ·obtain ⟨s,h1,h2⟩:=hI.own x hx
     grind
theorem YO:RD c8 []:=⟨fun r hr=>(nomatch hr),fun i j r s h=>(by simp[c8] at h),fun x hx=>(nomatch hx),aV _⟩
end Go.Pl
