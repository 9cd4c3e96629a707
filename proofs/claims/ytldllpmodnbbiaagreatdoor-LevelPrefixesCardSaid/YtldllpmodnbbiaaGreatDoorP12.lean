/- Own work. -/
import Derived.Test.YtldllpmodnbbiaaGreatDoorP11
import Derived.Conc.LoneSelect
import Derived.KernelRfl
open Int (ofNat)
open BitVec renaming ofInt->fB,toNat_and->sN,toNat_ofNat->iy
open Bool renaming true->ay,false->aA,or_eq_true->lN,and_eq_true->aB
open Classical renaming propDecidable->aI
open Go.BinOp renaming shl->zH
open Go.IntKind renaming i64->bD
open Go.Proofs.Tryz renaming prog->ak,f64->qK,f63->wW,f66->qN,f41->um
open Go.Sx renaming Sh->Ai
open Go.Sx.BL renaming all->bZ,nat->aZ,get->bY,Um->gQ,int->aC,sh->aW,mg->lI,val->jQ
open Go.Sx.C9 renaming at_->bU,ret->aN
open Go.Sx.It renaming code->aK,inBlock->aX
open Go.Sx.Sh renaming sl->aG,Az->bF,agg->bG,b->iL,i->aQ,v->ni,er->dP,str->dN,pt->pJ
open Go.Value renaming nilIface->cZ,chan->fZ,int->iW,pointer->gB
open Int renaming ofNat->ah,toNat_natCast->dA
open Int.ofNat renaming inj->jf
open List renaming mem_cons_self->dn,mem_cons_of_mem->bV,mem_of_getElem?->bK,mem_iff_getElem->lq,getElem?_eq_some_iff->bf,pairwise_iff_getElem->jd,range->aU,countP_append->sK,mem_map->eP,mem_flatMap->jE,mem_range->eF,all_eq_true->dh,map_cons->iQ,flatMap_cons->kJ,map_append->jR,getD_eq_getElem?_getD->bI,append_nil->iM,append_assoc->iI,length_append->cO,length_range->uj,getElem?_eq_getElem->aV,drop_eq_getElem_cons->iT,drop_zero->lu,drop_eq_nil_of_le->pR
open Nat renaming shiftLeft_eq->kZ,or_lt_two_pow->nX,one_mul->oJ,pow_lt_pow_right->iD,lt_of_le_of_lt->uh,mod_eq_of_lt->gJ,min_eq_left->pz,shiftRight_eq_div_pow->o7,lt_of_lt_of_le->kD,pow_le_pow_right->lH,testBit_lt_two_pow->qo,zero_testBit->wI,beq->dK
open Option renaming some->aj,none->aF
open Option.some renaming inj->bP
noncomputable section
namespace Go.Bf
section
variable{α κ:Type}[DecidableEq κ]{key:α->κ}{next:α->List α}
theorem NP{o:List α}{k:κ}:Jw key o k=ay↔∃n∈o,key n=k:=by simp[Jw]
theorem alX{o t:List α}{k:κ}(h:Jw key o k=ay):Jw key (o++t) k=ay:=by
 grind [NP,List.mem_append_left]
theorem arS{m:Nat}{o o':List α}{n:α}(h:GV key m o n=aj o'):Jw key o' (key n)=ay:=by
 unfold GV at h;grind [NP]
theorem ahv{m:Nat}:∀{l o o':List α},EJ key m o l=aj o'->∀n∈l,Jw key o' (key n)=ay
 |[],_,_,_,_,h=>by cases h |n::l,o,o',h,x,hx=>by
  simp only[EJ] at h;cases hp:GV key m o n with
  |none=>simp_all |some o1=>
   rw[hp] at h;rcases List.mem_cons.1 hx with rfl|hx
   ·obtain ⟨t,rfl,_⟩:=Nb h
    exact alX (arS hp)
   ·exact ahv h x hx
theorem ahw{m:Nat}{o o':List α}{n:α}{P:α->Prop}(h:GV key m o n=aj o')(ho:∀x∈o,P x)(hn:P n):∀x∈o',P x:=by
 grind [GV]
theorem O4{m:Nat}{P:α->Prop}:∀{l o o':List α},EJ key m o l=aj o'->(∀x∈o,P x)->(∀x∈l,P x)->∀x∈o',P x
 |[],_,_,h,ho,_=>by cases h;exact ho |n::l,o,o',h,ho,hl=>by
  simp only[EJ] at h;cases hp:GV key m o n with
  |none=>simp_all |some o1=>
   rw[hp] at h;exact O4 h (ahw hp ho (hl n dn)) fun x hx=>hl x (bV _ hx)
theorem NQ{m:Nat}{P:α->Prop}(hP:∀n,P n->∀t∈next n,P t):∀{f i:Nat} {o r:List α},Na key next m f o i=aj r->(∀x∈o,P x)->∀x∈r,P x
 |0,_,_,_,h,ho=>by cases h;exact ho |f+1,i,o,r,h,ho=>by
  simp only[Na] at h;cases hi:o[i]? with
  |none=>simp_all |some n=>
   rw[hi] at h;simp only at h;cases hp:EJ key m o (next n) with
   |none=>simp_all |some o1=>
    rw[hp] at h;exact NQ hP h (O4 hp ho (hP n (ho n (bK hi))))
theorem VL{m:Nat}:∀{f i:Nat} {o r:List α},Na key next m f o i=aj r->r.length<i+f->(∀j n,j<i->o[j]?=aj n->∀t∈next n,Jw key o (key t)=ay)->∀n∈r,∀t∈next n,Jw key r (key t)=ay
 |0,i,o,r,h,hl,hc=>by
  cases h;intro n hn t ht;obtain ⟨j,hj,e⟩:=lq.1 hn;exact hc j n (by omega) (by simp_all) t ht
 |f+1,i,o,r,h,hl,hc=>by
  simp only[Na] at h;cases hi:o[i]? with
  |none=>
   rw[hi] at h;cases h;have hle:o.length<=i:=List.getElem?_eq_none_iff.1 hi;intro n hn t ht;obtain ⟨j,hj,e⟩:=lq.1 hn;exact hc j n (by omega) (by simp_all) t ht
  |some n=>
   rw[hi] at h;simp only at h;cases hp:EJ key m o (next n) with
   |none=>simp_all |some o1=>
    rw[hp] at h;obtain ⟨t',e,_⟩:=Nb hp;refine VL h (by omega) fun j x hj hx t ht=>?_
    have hil:i<o.length:=(bf.1 hi).1;have hx':o[j]?=aj x:=by
     grind
    rcases Nat.lt_or_ge j i with h1|h1
    ·grind [alX]
    grind [ahv]
theorem aob{m:Nat}{o o':List α}{n:α}(h:GV key m o n=aj o')(ho:(o.map key).Nodup):(o'.map key).Nodup:=by
 unfold GV at h;grind [NP]
theorem abR{m:Nat}:∀{l o o':List α},EJ key m o l=aj o'->(o.map key).Nodup->(o'.map key).Nodup
 |[],_,_,h,ho=>by cases h;exact ho |n::l,o,o',h,ho=>by
  simp only[EJ] at h;cases hp:GV key m o n with
  |none=>simp_all |some o1=>
   rw[hp] at h;exact abR h (aob hp ho)
theorem aeY{m:Nat}:∀{f i:Nat} {o r:List α},Na key next m f o i=aj r->(o.map key).Nodup->(r.map key).Nodup
 |0,_,_,_,h,ho=>by cases h;exact ho |f+1,i,o,r,h,ho=>by
  simp only[Na] at h;cases hi:o[i]? with
  |none=>simp_all |some n=>
   rw[hi] at h;simp only at h;cases hp:EJ key m o (next n) with
   |none=>simp_all |some o1=>
    rw[hp] at h;exact aeY h (abR hp ho)
def Lay(rk:α->Nat)(b:Nat)(o:List α):Prop:=o.Pairwise (fun x y=>rk x<=rk y)/\∀x∈o,rk x<=b
theorem avt{m b:Nat}{rk:α->Nat}{o o':List α}{n:α}(h:GV key m o n=aj o')(ho:Lay rk b o)(hn:rk n=b):Lay rk b o':=by
 unfold GV at h;split at h
 ·simp_all
 ·split at h
  ·cases h
  ·cases h
   refine ⟨List.pairwise_append.2 ⟨ho.1,List.pairwise_singleton _ _,fun x hx y hy=>?_⟩,fun x hx=>?_⟩
   ·obtain rfl:y=n:=by grind
    rw[hn];exact ho.2 x hx
   ·rcases List.mem_append.1 hx with hx|hx
    ·exact ho.2 x hx
    simp_all
theorem ahx{m b:Nat}{rk:α->Nat}:∀{l o o':List α},EJ key m o l=aj o'->Lay rk b o->(∀x∈l,rk x=b)->Lay rk b o'
 |[],_,_,h,ho,_=>by cases h;exact ho |n::l,o,o',h,ho,hl=>by
  simp only[EJ] at h;cases hp:GV key m o n with
  |none=>simp_all |some o1=>
   rw[hp] at h;exact ahx h (avt hp ho (hl n dn)) fun x hx=>hl x (bV _ hx)
theorem aeZ{m:Nat}{rk:α->Nat}(hr:∀n,∀t∈next n,rk t=rk n+1):∀{f i:Nat} {o r:List α},Na key next m f o i=aj r->(∀n,o[i]?=aj n->Lay rk (rk n+1) o)->o.Pairwise (fun x y=>rk x<=rk y)->r.Pairwise fun x y=>rk x<=rk y
 |0,_,_,_,h,_,ho=>by cases h;exact ho |f+1,i,o,r,h,hL,ho=>by
  simp only[Na] at h;cases hi:o[i]? with
  |none=>simp_all |some n=>
   rw[hi] at h;simp only at h;cases hp:EJ key m o (next n) with
   |none=>simp_all |some o1=>
    rw[hp] at h;have h1:=ahx hp (hL n hi) fun x hx=>hr n x hx
    refine aeZ hr h (fun n' hn'=>⟨h1.1,fun x hx=>?_⟩) h1.1;obtain ⟨t,e,_⟩:=Nb hp;have hil:=(bf.1 hi).1;have hn:o1[i]?=aj n:=by grind
    have hle:rk n<=rk n':=by
     obtain ⟨q1,e1⟩:=bf.1 hn;obtain ⟨q2,e2⟩:=bf.1 hn';have:=jd.1 h1.1 i (i+1) q1 q2 (by omega);simp_all
    have:=h1.2 x hx;omega
def Jb(key:α->κ)(next:α->List α)(full:α->Bool):List α->κ->Bool
 |[],_=>aA |n::l,k=>if key n=k then full n||(next n).any (fun t=>Jb key next full l (key t)) else Jb key next full l k
inductive Ux(next:α->List α)(full:α->Bool):α->Prop
 |here {n:α}:full n=ay->Ux next full n
 |step {n t:α}:t∈next n->Ux next full t->Ux next full n
theorem ae0{full:α->Bool}{Q:α->Prop}(hQ:∀n,Q n->∀t∈next n,Q t)(hk:∀x y,Q x->Q y->key x=key y->x=y):∀{l:List α},(∀x∈l,Q x)->(l.map key).Nodup->
  (∀(i:Nat) n,l[i]?=aj n->∀t∈next n,∃(j:Nat) (x:α),i<j/\l[j]?=aj x/\key x=key t)->∀n∈l,(Jb key next full l (key n)=ay↔Ux next full n)
 |[],_,_,_,n,hn=>by cases hn |a::l,hq,hd,hf,n,hn=>by
  have hd':=List.nodup_cons.1 (by grind:(key a::l.map key).Nodup);have ih:=ae0 (l:=l) (full:=full) hQ hk (fun x hx=>hq x (bV _ hx)) hd'.2 (fun i n hi t ht=>by
   obtain ⟨j,x,h1,h2,h3⟩:=hf (i+1) n (by grind) t ht;grind)
  have tail:∀t∈next a,(Jb key next full l (key t)=ay↔Ux next full t):=fun t ht=>by
   obtain ⟨j,x,h1,h2,h3⟩:=hf 0 a rfl t ht;grind
  by_cases e:key a=key n
  ·have:a=n:=hk a n (hq a dn) (hq n hn) e
   subst this;unfold Jb;rw[if_pos rfl,lN,List.any_eq_true];constructor
   ·rintro (h|⟨t,ht,h⟩)
    ·exact .here h
    ·exact .step ht ((tail t ht).1 h)
   ·intro h
    cases h with
    |here h=>exact .inl h |step ht h=>grind
  grind [Jb]
theorem behind{m f:Nat}{rk:α->Nat}{Q:α->Prop}{a r:List α}(hQ:∀n,Q n->∀t∈next n,Q t)(hk:∀x y,Q x->Q y->key x=key y->x=y)(hr:∀n,∀t∈next n,rk t=rk n+1)
  (h:Na key next m f a 0=aj r) (hl:r.length<f) (ha:∀x∈a,Q x) (h1:a.length<=1):∀(i:Nat) n,r[i]?=aj n->∀t∈next n,∃(j:Nat) (x:α),i<j/\r[j]?=aj x/\key x=key t:=by
 have hq:=NQ hQ h ha;have hc:=VL h (by omega) (fun j n hj=>by omega);have hs:=aeZ hr h (fun n hn=>⟨by
   match a,h1 with
   |[],_=>simp |[x],_=>simp,fun x hx=>by
   match a,h1,hn,hx with
   |[y],_,hn,hx=>
    simp_all⟩) (by
   match a,h1 with
   |[],_=>simp |[x],_=>simp)
 intro i n hi t ht;obtain ⟨x,hx,e⟩:=NP.1 (hc n (bK hi) t ht);obtain ⟨j,hj,ej⟩:=lq.1 hx;have hxt:x=t:=hk x t (hq x hx) (hQ n (hq n (bK hi)) t ht) e;refine ⟨j,x,?_,by simp_all,e⟩;grind [jd]
end
end Go.Bf
namespace Go.Gm
open Go.Bf
structure Nd(S:Type)where
 placed:Nat
 st:S
structure Game(S:Type)where
 n:Nat
 id:Nat->Int
 com:Nat->Bool
 abo:Nat->Bool
 mask:Nat->Nat
 run:S->Nat->Option S
 all:Bool
section
variable{S:Type}(g:Game S)
def may(p i:Nat):Bool:=!p.testBit i&&(aU g.n).all fun j=>!(g.mask i).testBit j||p.testBit j
def Ia(nd:Nd S)(i:Nat):List ((Int×Bool)×Nd S):=
 if may g nd.placed i=ay then
  (match g.com i,g.run nd.st i with
   |true,aj s=>[((g.id i,ay),⟨nd.placed|||1<<<i,s⟩)] |_,_=>[]) ++
  (if g.abo i=ay/\(g.all=ay->(g.run nd.st i).isSome=ay) then [((g.id i,aA),⟨nd.placed|||1<<<i,nd.st⟩)] else [])
 else []
def turns(nd:Nd S):List ((Int×Bool)×Nd S):=(aU g.n).flatMap (Ia g nd)
def next(nd:Nd S):List (Nd S):=(turns g nd).map (·.2)
def rk(nd:Nd S):Nat:=(aU g.n).countP fun i=>nd.placed.testBit i
def full(nd:Nd S):Bool:=decide (nd.placed=2^g.n - 1)
variable{g}
theorem ayn(p i j:Nat):(p|||1<<<i).testBit j=(p.testBit j||decide (i=j)):=by
 grind [kZ]
theorem ahy{nd:Nd S}{i:Nat}{t:(Int×Bool)×Nd S}(h:t∈Ia g nd i):nd.placed.testBit i=aA/\t.1.1=g.id i/\t.2.placed=nd.placed|||1<<<i:=by
 unfold Ia at h;grind [may]
theorem abS{p:Nat->Bool}{i:Nat}:∀n,i<n->p i=aA->(aU n).countP (fun j=>p j||decide (i=j))=(aU n).countP p+1
 |0,h,_=>by omega |n+1,h,hp=>by
  rw[List.range_succ,sK,sK];by_cases e:i=n
  ·grind [aU,decide,List.countP_congr,decide_eq_false]
  ·have ih:=abS (p:=p) (i:=i) n (by omega) hp
   grind
theorem Sm{nd:Nd S}:∀t∈next g nd,rk g t=rk g nd+1:=fun t ht=>by
 unfold next turns at ht;obtain ⟨x,hx,rfl⟩:=eP.1 ht;obtain ⟨i,hi,hx⟩:=jE.1 hx;obtain ⟨h1,_,h2⟩:=ahy hx;unfold rk;rw[h2];simp only[ayn];simp_all [abS,eF]
theorem lt_next{nd:Nd S}(h:nd.placed<2^g.n):∀t∈next g nd,t.placed<2^g.n:=fun t ht=>by
 unfold next turns at ht;obtain ⟨x,hx,rfl⟩:=eP.1 ht;obtain ⟨i,hi,hx⟩:=jE.1 hx;obtain ⟨_,_,h2⟩:=ahy hx;simp_all [nX,kZ,oJ,iD,eF]
def least(g:Game S)(ld:Nd S->Bool):Nat->Nd S->List (Int×Bool)
 |0,_=>[] |f+1,nd=>if full g nd=ay then [] else match (turns g nd).find? fun t=>ld t.2 with
  |none=>[] |some t=>t.1::least g ld f t.2
theorem ae1{nd:Nd S}(h:Ux (next g) (full g) nd)(hn:full g nd=aA):∃t∈turns g nd,Ux (next g) (full g) t.2:=by
 cases h with
 |here h=>simp_all |step ht h=>
  obtain ⟨t,q,rfl⟩:=eP.1 ht;grind
end
open Go.Bf
section
variable{S κ:Type}[DecidableEq κ](g:Game S)(key:Nd S->κ)
def start(s:S):Nd S:=⟨0,s⟩
def ER(s:S)(m:Nat):Option (List (Nd S)):=Na key (next g) m (m+1) [start s] 0
def Uc(r:List (Nd S))(nd:Nd S):Bool:=Jb key (next g) (full g) r (key nd)
def QE(s:S)(r:List (Nd S)):Bool:=Uc g key r (start s)
def IB(s:S)(r:List (Nd S)):List (Int×Bool):=if QE g key s r=ay then least g (Uc g key r) (g.n+1) (start s) else []
variable{g key}
theorem P6{s:S}{m:Nat}(hm:1<=m){r:List (Nd S)}(h:ER g key s m=aj r):1<=r.length/\r.length<=m:=by
 obtain ⟨t,e,hl⟩:=Zr h;simp_all
theorem apT{s:S}{m:Nat}(hm:1<=m){r:List (Nd S)}(h:ER g key s m=aj r){Q:Nd S->Prop}(hQ:∀n,Q n->∀t∈next g n,Q t)(hk:∀x y,Q x->Q y->key x=key y->x=y)(hs:Q (start s)):
  ∀n∈r,(Uc g key r n=ay↔Ux (next g) (full g) n):=by
 have hl:=(P6 hm h).2;have ha:∀x∈[start s],Q x:=fun x hx=>by
  simp_all
 exact ae0 hQ hk (NQ hQ h ha) (aeY h (by simp)) (behind hQ hk (fun n t ht=>Sm t ht) h (by omega) ha (by simp))
theorem aaR{s:S}{m:Nat}{r:List (Nd S)}(h:ER g key s m=aj r):start s∈r:=by
 obtain ⟨t,e,_⟩:=Zr h;rw[e];simp
theorem ahz{s:S}{m:Nat}(hm:1<=m){r:List (Nd S)}(h:ER g key s m=aj r){Q:Nd S->Prop}(hQ:∀n,Q n->∀t∈next g n,Q t)(hk:∀x y,Q x->Q y->key x=key y->x=y)(hs:Q (start s)):∀n∈r,∀t∈next g n,t∈r:=by
 have hl:=(P6 hm h).2;have ha:∀x∈[start s],Q x:=fun x hx=>by
  simp_all
 have hq:=NQ hQ h ha;have hc:=VL h (by omega) (fun j n hj=>by omega);grind [NP]
end
end Go.Gm
namespace Go.Pl
open Go Go.Sx
theorem Nc(p:Nat):fB 64 (p:Int)=BitVec.ofNat 64 p:=BitVec.ofInt_natCast 64 p
theorem Sr{p:Nat}(h:p<2^63):bD.wrap (p:Int)=(p:Int):=CU (by omega) (by omega)
theorem apU{p q n:Nat}(h:p<2^n):p&&&q<2^n:=uh Nat.and_le_left h
theorem alY{p q:Nat}(hp:p<2^63)(hq:q<2^63):Ak.bin .and .i64 (p:Int) (q:Int)=((p&&&q:Nat):Int):=by
 show bD.wrap ((fB 64 (p:Int)&&&fB 64 (q:Int)).toNat:Int)=_;rw[Nc,Nc,sN,iy,iy,gJ (by omega),gJ (by omega)];exact Sr (apU hp)
theorem ayo{p q:Nat}(hp:p<2^63)(hq:q<2^63):Ak.bin .or .i64 (p:Int) (q:Int)=((p|||q:Nat):Int):=by
 show bD.wrap ((fB 64 (p:Int)|||fB 64 (q:Int)).toNat:Int)=_;rw[Nc,Nc,BitVec.toNat_or,iy,iy,gJ (by omega),gJ (by omega)];exact Sr (nX hp hq)
theorem alZ{p q:Nat}(hp:p<2^63)(hq:q<2^63):Ak.bin .andNot .i64 (p:Int) (q:Int)=((p&&&(2^64 - 1 - q):Nat):Int):=by
 show bD.wrap ((fB 64 (p:Int)&&&~~~ fB 64 (q:Int)).toNat:Int)=_;rw[Nc,Nc,sN,BitVec.toNat_not,iy,iy,gJ (by omega),gJ (by omega)];exact Sr (apU hp)
theorem ae2{i:Nat}(h:i<63):Ak.bin .shl .i64 (ah 1) (i:Int)=((2^i:Nat):Int):=by
 show bD.wrap ((1:Int)*2^(min (i:Int).toNat 64))=_;rw[dA,pz (by omega),Int.one_mul];have:((2:Int)^i)=((2^i:Nat):Int):=by rfl
 rw[this];exact Sr (iD (by decide) h)
theorem avu{p i:Nat}(h:i<=64):Ak.bin .shr .i64 (p:Int) (i:Int)=((p>>>i:Nat):Int):=by
 show Int.fdiv (p:Int) (2^(min (i:Int).toNat 64))=_;grind [dA,pz,Int.fdiv_eq_ediv_of_nonneg,Int.natCast_nonneg,Int.natCast_ediv,o7]
theorem ayp(p i:Nat):p>>>i<=p:=by rw[o7];exact Nat.div_le_self _ _
theorem ayq{p i:Nat}(hp:p<2^63)(hi:i<=64):Ak.eq (Ak.bin .and .i64 (Ak.bin .shr .i64 (p:Int) (i:Int)) (ah 1)) (ah 1)=p.testBit i:=by
 rw[avu hi];have h:=alY (p:=p>>>i) (q:=1) (uh (ayp p i) hp) (by decide);have h:Ak.bin .and .i64 ((p>>>i:Nat):Int) (ah 1)=((p>>>i&&&1:Nat):Int):=h;grind [AQ,Nat.testBit,Nat.mod_two_eq_zero_or_one]
theorem ahA{m p N:Nat}(hm:m<2^N)(hN:N<=62)(hp:p<2^63):Ak.nt (Ak.eq (Ak.bin .andNot .i64 (m:Int) (p:Int)) (ah 0))=!((aU N).all fun j=>!m.testBit j||p.testBit j):=by
 have hm':m<2^63:=kD hm (lH (by decide) (by omega));rw[alZ hm' hp,BG,AQ];congr 1;have key:∀j,(m&&&(2^64 - 1 - p)).testBit j=(m.testBit j && !p.testBit j):=fun j=>by
  rw[Nat.testBit_and];by_cases hj:j<N
  ·rw[show 2^64 - 1 - p=2^64 - (p+1) by omega,Nat.testBit_two_pow_sub_succ (by omega),ϱ (by omega:j<64)];rfl
  grind [qo,kD,lH]
 cases ha:(aU N).all fun j=>!m.testBit j||p.testBit j with
 |true=>
  rw[dh] at ha;have:m&&&(2^64 - 1 - p)=0:=Nat.eq_of_testBit_eq fun j=>by
   grind [qo,kD,lH]
  grind
 |false=>
  grind [aU,dh,beq_eq_false_iff_ne,jf]
theorem or_eq{p i:Nat}(hp:p<2^63)(hi:i<63):Ak.bin .or .i64 (p:Int) (Ak.bin .shl .i64 (ah 1) (i:Int))=((p|||1<<<i:Nat):Int):=by
 rw[ae2 hi,ayo hp (iD (by decide) hi),kZ,oJ]
theorem al0{N:Nat}(hN:N<=62):Ak.sub .i64 (Ak.bin .shl .i64 (ah 1) (N:Int)) (ah 1)=((2^N - 1:Nat):Int):=by
 rw[ae2 (by omega),OV];have h1:1<=2^N:=Nat.one_le_two_pow;have h2:2^N<2^63:=iD (by decide) (by omega);grind [Int.natCast_sub,Sr]
open Go Go.Sx Go.Proofs Go.Gm
def WR(lv:Int)(N:Nat)(T:Nat->CJ)(mk:Nat->Int)(n:Nat):Game (ϝ) where
 n:=N
 id i:=(T i).id
 com i:=(T i).st==3||(T i).st==2
 abo i:=!((T i).st==3)
 mask i:=(mk i).toNat
 run g i:=if plO n g (T i).k (T i).g=ay then aj (plS n g (T i).k (T i).g) else aF
 all:=lv==3
def NR(n:Nat)(t:(Int×Bool)×Nd (ϝ)):UG:=⟨t.1.1,t.1.2,(t.2.placed:Nat),n,t.2.st⟩
structure TuP(lv:Int)(N:Nat)(T:Nat->CJ)(N':Nat)(mk:Nat->Int)(p:Int)(n:Nat)(g:ϝ):Prop where
 le:N<=62
 eq:N=N'
 pos:0<=p
 lt:p<2^62
 mpos:∀i,i<N->0<=mk i
 mlt:∀i,i<N->(mk i).toNat<2^N
 fit:∀i,i<N->may (WR lv N T mk n) p.toNat i=ay->plN n g (T i).k (T i).g=ay
def tuL(lv:Int)(N:Nat)(T:Nat->CJ)(mk:Nat->Int)(p:Int)(n:Nat)(g:ϝ):List UG:=(turns (WR lv N T mk n) ⟨p.toNat,g⟩).map (NR n)
def tuB(lv:Int)(N:Nat)(T':ϝ)(N':Nat)(mk':ϝ)(p:Int)(st n:Nat)(g:ϝ):Bool:=
 okB CJ N T'&&(okB Int N' mk'&&((dK st 4||dK n 0)&&@decide (TuP lv N (Ap T') N' (Ap mk') p n g) (aI _)))
def WS(lv:Int)(N:Nat)(T':ϝ)(mk':ϝ)(p:Int)(n:Nat)(g:ϝ):Nat:=(tuL lv N (Ap T') (Ap mk') p n g).length
def tuR(lv:Int)(N:Nat)(T':ϝ)(mk':ϝ)(p:Int)(n:Nat)(g:ϝ):Nat->UG:=nth (tuL lv N (Ap T') (Ap mk') p n g)
theorem Nr{α:Type}[Row α](o:Nat->α):Ap (Am o)=o:=funext fun i=>MQ o i
end Go.Pl
namespace Go.Proofs
open Go Go.Sx Go.Pl Go.Gm
def D41:ϵ
 |[.pt [.i .i64 lv,s1,s2,s3],.agg [t,.sl st n g]]=>match Dj 7 s1,Dj 1 s2,Dj 4 s3,Bd t with
  |some (N,T'),aj (N',mk'),aj _,aj p=>.need (tuB lv N T' N' mk' p st n g) (.leaf (.sl 4 (WS lv N T' mk' p n g) (Am (tuR lv N T' mk' p n g)))) |_,_,_,_=>.fail
 |_=>.fail
end Go.Proofs
namespace Go.Pl
open Go Go.Sx Go.Proofs Go.Gm
def xF{α:Type}(c1 c2 c3 c4 c5 c6 c7:Bool)(A B:α):List α:=
 bif c1||c2 then [] else (bif (c4||c7)&&c3 then [A] else [])++(bif c5&&(c6||c3) then [B] else [])
def tuG(lv:Int)(N:Nat)(T:Nat->CJ)(mk:Nat->Int)(p:Int)(n:Nat)(g:ϝ):Nat->Nat->List UG
 |_,0=>[] |i,r+1=>(Ia (WR lv N T mk n) ⟨p.toNat,g⟩ i).map (NR n)++tuG lv N T mk p n g (i+1) r
theorem ae3(lv:Int)(N:Nat)(T:Nat->CJ)(mk:Nat->Int)(p:Int)(n:Nat)(g:ϝ):∀r i,tuG lv N T mk p n g i r=(((aU r).map fun j=>i+j).flatMap (Ia (WR lv N T mk n) ⟨p.toNat,g⟩)).map (NR n)
 |0,i=>rfl |r+1,i=>by
  rw[tuG,ae3 lv N T mk p n g r (i+1),List.range_succ_eq_map,iQ,kJ,jR,List.map_map];congr 3;grind [List.map_congr_left]
theorem avv(lv:Int)(N:Nat)(T:Nat->CJ)(mk:Nat->Int)(p:Int)(n:Nat)(g:ϝ):tuG lv N T mk p n g 0 N=tuL lv N T mk p n g:=by
 rw[ae3];unfold tuL turns;have:(aU N).map (fun j=>0+j)=aU N:=by simp
 rw[this];rfl
theorem ays{lv:Int}{N:Nat}{T:Nat->CJ}{mk:Nat->Int}{p n:Nat}{g:ϝ}{i:Nat}(hp:p<2^62)(hi:i<N)(hN:N<=62)(hm:0<=mk i)(hm2:(mk i).toNat<2^N){c1 c2 c3 c4 c5 c6 c7:Bool}
  (e1:Ak.eq (Ak.bin .and .i64 (Ak.bin .shr .i64 (p:Int) (i:Int)) (ah 1)) (ah 1)=c1)
  (e2:Ak.nt (Ak.eq (Ak.bin .andNot .i64 (mk i) (p:Int)) (ah 0))=c2)
  (e3:plO n g (T i).k (T i).g=c3) (e4:Ak.eq (T i).st (ah 3)=c4) (e5:Ak.nt (Ak.eq (T i).st (ah 3))=c5) (e6:Ak.nt (Ak.eq lv (ah 3))=c6) (e7:Ak.eq (T i).st (ah 2)=c7) :
  (Ia (WR lv N T mk n) ⟨p,g⟩ i).map (NR n)=xF c1 c2 c3 c4 c5 c6 c7 ⟨(T i).id,ay,Ak.bin .or .i64 (p:Int) (Ak.bin .shl .i64 (ah 1) (i:Int)),n,plS n g (T i).k (T i).g⟩ ⟨(T i).id,aA,Ak.bin .or .i64 (p:Int) (Ak.bin .shl .i64 (ah 1) (i:Int)),n,g⟩/\may (WR lv N T mk n) p i=(!c1 && !c2):=by
 have hp2:p<2^63:=by omega
 have hmay:may (WR lv N T mk n) p i=(!c1 && !c2):=by
  rw[<-e1,ayq hp2 (by omega),<-e2];have:mk i=((mk i).toNat:Int):=(Int.toNat_of_nonneg hm).symm;rw[this,ahA hm2 hN hp2,Bool.not_not];rfl
 refine ⟨?_,hmay⟩;have ho:=or_eq (p:=p) (i:=i) hp2 (by omega);unfold Ia;show List.map (NR n) (if may (WR lv N T mk n) p i=ay then _ else _)=_;rw[hmay];have hc:(WR lv N T mk n).com i=(c4||c7):=by rw[<-e4,<-e7];rfl
 have ha:(WR lv N T mk n).abo i=c5:=by rw[<-e5];rfl
 have hl:(WR lv N T mk n).all=!c6:=by rw[<-e6];show (lv==3)=!(!(lv==3));simp
 have hr:(WR lv N T mk n).run g i=if c3=ay then aj (plS n g (T i).k (T i).g) else aF:=by rw[<-e3];rfl
 rw[hc,ha,hl];simp only[hr,ho];unfold xF;clear hc ha hl hr hmay e1 e2 e3 e4 e5 e6 e7;grind [NR,WR]
end Go.Pl
namespace Go.Proofs
open Go Go.Sx Go.Pl Go.Gm
theorem aod(stop:Nat->List Nat->Bool)(O:AO ak (AZ W7) 83 D76):BJ ak (C7 Ak W7 Zq stop):=C7.OG (fun g F h=>by
 grind [Zq]) fun g h=>by
 unfold Zq at h;split at h;all_goals first|(cases h;done) |kernel_rfl
theorem avw:AO ak (AZ W7) 83 D76:=O76.mono fun H Bl args φ hr h=>by
 unfold D76 at h;split at h
 ·split at h
  ·rename_i e0 e1
   obtain ⟨h1,h2,h3⟩:=h;unfold plN at h1;rw[aB,aB] at h1;unfold F76;simp only[e0,e1];exact ⟨h1.1,h1.2.1,h1.2.2,h2,h3⟩
  ·exact h.elim
 ·exact h.elim
section
variable{H0:Mem}{w0:World}{φ:Sh->Prop}{lv:Int}{N:Nat}{T:Nat->CJ}{mk:Nat->Int}{k0:Nat}{g0:ϝ}{p:Nat}{n:Nat}{g:ϝ}
theorem avx{α:Type}[Row α](l r:List α)(j:Nat)(h:j<l.length):nth (l++r) j=nth l j:=by
 simp_all [nth,bI,List.getElem?_append_left]
theorem Ib{α:Type}[Row α](l:List α)(a:α)(s:List Sh)(hs:s=Row.put a):∀j,j<l.length+1->Ak.snoc (Am (nth l)) l.length (Bh [s]) j=Am (nth (l++[a])) j:=fun j hj=>by
 rw[Dn];split
 ·rename_i q
  show Row.put (nth l j)=Row.put (nth (l++[a]) j);rw[avx _ _ _ q]
 ·have:j=l.length:=by omega
  subst this;rw[Nat.sub_self];show s=Row.put (nth (l++[a]) l.length);simp_all [nth]
theorem al1{g g':ϝ}{n:Nat}(h:∀j,j<n->g j=g' j)(r:ϝ):Ak.snoc g n r=Ak.snoc g' n r:=by
 grind [Dn]
theorem apV(Q:TuP lv N T N mk (p:Int) n g):∀r i (acc:List UG),i+r=N->acc.length<=2*i->φ (.sl 4 (acc++tuG lv N T mk p n g i r).length (Am (nth (acc++tuG lv N T mk p n g i r))))->
  AB ak (C7 Ak W7 Zq Aw) (K0 H0 w0) 64 apS (avs lv N T N mk k0 g0 p n g acc.length (nth acc) (i:Nat)) [] emp (up φ)
 |0,i,acc,hi,hl,hφ=>by
  refine D6 qK azr ?_;refine BZ (aod _ avw) 300 400 [] ?_;have e:acc++tuG lv N T mk p n g i 0=acc:=by rw[tuG,iM]
  rw[e] at hφ;exact I9 (l:=[aA]) (cs:=[Ak.lt (i:Int) N]) (by simp[Ar];omega) (s:=.os 169 4 acc.length (Am (nth acc))) (AY (s':=.sl 4 acc.length (Am (nth acc))) QY hφ)
 |r+1,i,acc,hi,hl,hφ=>by
  refine D6 qK azr ?_;have hlN:=Q.le;have w1:Ak.add .i64 (i:Int) (ah 1)=((i+1:Nat):Int):=add1 (by omega);have yes:Ak.lt (i:Int) N=ay:=by simp[Ar];omega
  have inb:Ak.inB (i:Int) N=ay:=by simp[AX];omega
  have rm1:Ak.room (Ak.addN acc.length 1) 48=ay:=by rw[Em,ϟ,Dl];unfold maxLen;omega
  have rm2:Ak.room (Ak.addN (Ak.addN acc.length 1) 1) 48=ay:=by rw[Em,ϟ,Dl,Dl];unfold maxLen;omega
  have le0:Ak.le 0 (i:Int)=ay:=by simp[CS]
  have hp:p<2^62:=by have:=Q.lt;omega
  obtain ⟨c1,e1⟩:∃c,Ak.eq (Ak.bin .and .i64 (Ak.bin .shr .i64 (p:Int) (i:Int)) (ah 1)) (ah 1)=c:=⟨_,rfl⟩;obtain ⟨c2,e2⟩:∃c,Ak.nt (Ak.eq (Ak.bin .andNot .i64 (mk (Ak.toN i)) (p:Int)) (ah 0))=c:=⟨_,rfl⟩;obtain ⟨c3,e3⟩:∃c,plO n g (T (Ak.toN i)).k (T (Ak.toN i)).g=c:=⟨_,rfl⟩;obtain ⟨c4,e4⟩:∃c,Ak.eq (T (Ak.toN i)).st (ah 3)=c:=⟨_,rfl⟩;have e5:Ak.nt (Ak.eq (T (Ak.toN i)).st (ah 3))=!c4:=by rw[e4];rfl
  obtain ⟨c6,e6⟩:∃c,Ak.nt (Ak.eq lv (ah 3))=c:=⟨_,rfl⟩;obtain ⟨c7,e7⟩:∃c,Ak.eq (T (Ak.toN i)).st (ah 2)=c:=⟨_,rfl⟩;obtain ⟨hx,hmay⟩:=ays (lv:=lv) (T:=T) (n:=n) (g:=g) hp (by omega:i<N) Q.le (Q.mpos i (by omega)) (Q.mlt i (by omega)) e1 e2 e3 e4 e5 e6 e7;have hfit:=Q.fit i (by omega);rw[dA,hmay] at hfit;rw[tuG,dA,<-iI] at hφ;have nx:=fun (h:(acc++(Ia (WR lv N T mk n) ⟨p,g⟩ i).map (NR n)).length<=2*(i+1))=>apV Q r (i+1) (acc++(Ia (WR lv N T mk n) ⟨p,g⟩ i).map (NR n)) (by omega) h hφ;rw[hx] at nx;generalize hacc:acc++xF _ _ _ _ _ _ _ _ _=acc' at nx;rw[<-w1] at nx;refine BZ (aod _ avw) 300 400 [⟨64,apS,avs lv N T N mk k0 g0 p n g acc'.length (nth acc') (Ak.add .i64 (i:Int) (ah 1)),[]⟩] ?_;have l1 (a:UG) (h:acc'=acc++[a]):bZ [aZ (Ak.addN acc.length 1) acc'.length,bY (Ak.addN acc.length 1) (Ak.snoc (Am (nth acc)) acc.length (Bh [Row.put a])) (Am (nth acc'))]/\acc'.length<=2*(i+1):=by
   subst h;rw[cO];exact ⟨⟨rfl,Ib acc a _ rfl,ϖ⟩,by show acc.length+1<=_;omega⟩
  have l2 (a b:UG) (h:acc'=acc++[a,b]):bZ [aZ (Ak.addN (Ak.addN acc.length 1) 1) acc'.length,bY (Ak.addN (Ak.addN acc.length 1) 1) (Ak.snoc (Ak.snoc (Am (nth acc)) acc.length (Bh [Row.put a])) (Ak.addN acc.length 1) (Bh [Row.put b])) (Am (nth acc'))]/\acc'.length<=2*(i+1):=by
   subst h;rw[cO];refine ⟨⟨rfl,fun j hj=>?_,ϖ⟩,by show acc.length+2<=_;omega⟩;have e:=Ib (acc++[a]) b _ rfl j (by rw[cO];exact hj);rw[iI,cO] at e;have e2:=al1 (n:=acc.length+1) (fun j hj=>Ib acc a _ rfl j hj) (Bh [Row.put b]);exact (congrFun e2 j).trans e
  have k1 (l l':List Bool) (h:l=l'):[Ak.lt (i:Int) N,Ak.inB (i:Int) N,Ak.le 0 (i:Int),Ak.eq (Ak.bin .and .i64 (Ak.bin .shr .i64 (p:Int) (i:Int)) (ah 1)) (ah 1)]++l=ay::ay::ay::c1::l':=by rw[yes,inb,le0,e1,h];rfl
  cases c1 with
  |true=>(obtain rfl:acc'=acc:=hacc.symm.trans (iM _));exact DC (k1 [] [] rfl) 0 ⟨_,rfl,nx (by omega)⟩ |false=>
  have k2 (l l':List Bool) (h:l=l'):=k1 ([Ak.inB (i:Int) N,Ak.nt (Ak.eq (Ak.bin .andNot .i64 (mk (Ak.toN i)) (p:Int)) (ah 0))]++l) (ay::c2::l') (by rw[inb,e2,h];rfl);cases c2 with
  |true=>(obtain rfl:acc'=acc:=hacc.symm.trans (iM _));exact DC (k2 [] [] rfl) 0 ⟨_,rfl,nx (by omega)⟩ |false=>
  have k3 (l l':List Bool) (h:l=l'):=k2 ([plN n g (T (Ak.toN i)).k (T (Ak.toN i)).g,plO n g (T (Ak.toN i)).k (T (Ak.toN i)).g,Ak.le 0 (i:Int),Ak.eq (T (Ak.toN i)).st (ah 3)]++l) (ay::c3::ay::c4::l') (by rw[show plN n g (T (Ak.toN i)).k (T (Ak.toN i)).g=ay from hfit rfl,e3,le0,e4,h];rfl);cases c4 with
  |true=>
   cases c3 with
   |true=>
    have q:=l1 _ hacc.symm;exact DC (k3 [Ak.room (Ak.addN acc.length 1) 48,Ak.nt (Ak.eq (T (Ak.toN i)).st (ah 3))] _ (by rw[rm1,e5])) 0 ⟨_,rfl,nx q.2⟩ [8,9] _ q.1
   |false=>(obtain rfl:acc'=acc:=hacc.symm.trans (iM _));exact DC (k3 [Ak.nt (Ak.eq (T (Ak.toN i)).st (ah 3))] _ (by rw[e5])) 0 ⟨_,rfl,nx (by omega)⟩
  |false=>
  cases c3 with
  |true=>
   cases c7 with
   |true=>
    cases c6;all_goals
     have q:=l2 _ _ hacc.symm;exact DC (k3 [Ak.eq (T (Ak.toN i)).st (ah 2),Ak.room (Ak.addN acc.length 1) 48,Ak.nt (Ak.eq (T (Ak.toN i)).st (ah 3)),Ak.nt (Ak.eq lv (ah 3)),Ak.room (Ak.addN (Ak.addN acc.length 1) 1) 48] _ (by rw[e7,rm1,e5,e6,rm2])) 0 ⟨_,rfl,nx q.2⟩ [8,9] _ q.1
   |false=>
    cases c6;all_goals
     have q:=l1 _ hacc.symm;exact DC (k3 [Ak.eq (T (Ak.toN i)).st (ah 2),Ak.nt (Ak.eq (T (Ak.toN i)).st (ah 3)),Ak.nt (Ak.eq lv (ah 3)),Ak.room (Ak.addN acc.length 1) 48] _ (by rw[e7,e5,e6,rm1])) 0 ⟨_,rfl,nx q.2⟩ [8,9] _ q.1
  |false=>
   have k4 (l l':List Bool) (h:l=l'):=k3 ([Ak.eq (T (Ak.toN i)).st (ah 2),Ak.nt (Ak.eq (T (Ak.toN i)).st (ah 3)),Ak.nt (Ak.eq lv (ah 3))]++l) (c7::ay::c6::l') (by rw[e7,e5,e6,h];rfl);cases c6 with
   |true=>
    cases c7;all_goals
     have q:=l1 _ hacc.symm;exact DC (k4 [Ak.room (Ak.addN acc.length 1) 48] _ (by rw[rm1])) 0 ⟨_,rfl,nx q.2⟩ [8,9] _ q.1
   |false=>cases c7<;>((obtain rfl:acc'=acc:=hacc.symm.trans (iM _));exact DC (k4 [] _ rfl) 0 ⟨_,rfl,nx (by omega)⟩)
end
def acK(H:Mem):List Sh->List Sh->Prop
 |[],[]=>True |s::l,s'::l'=>(∀u,Rep H s u->Rep H s' u)/\acK H l l' |_,_=>False
theorem ai0{H:Mem}:∀{l l':List Sh},acK H l l'->l'.length=l.length/\∀(j:Nat) (s':Sh),l'[j]?=aj s'->∃s:Sh,l[j]?=aj s/\∀u,Rep H s u->Rep H s' u
 |[],[],_=>⟨rfl,fun j s' h=>by cases h⟩ |_::_,_::_,⟨h,t⟩=>by
  obtain ⟨e,q⟩:=ai0 t;grind
 |[],_::_,h=>h.elim |_::_,[],h=>h.elim
theorem al3{H:Mem}{l l':List Sh}{v:Value}(hr:Rep H (.pt l) v)(h:acK H l l'):Rep H (.pt l') v:=by
 obtain ⟨e,q⟩:=ai0 h;cases hr with
 |pt _ b off c h1 h2 h3=>
  exact .pt _ b off c (fun j hj=>h1 j (by omega)) (fun j hj=>h2 j (by omega)) fun j s' hs=>by
   grind
theorem Lu{H:Mem}{l l':List Sh}{v:Value}(hr:Rep H (.agg l) v)(h:acK H l l'):Rep H (.agg l') v:=by
 obtain ⟨e,q⟩:=ai0 h;cases hr with
 |agg _ vs h1 h3=>
  exact .agg _ vs (by omega) fun j s' u hs hv=>by
   grind
theorem al4{H:Mem}{st n:Nat}{g:ϝ}{u:Value}(h:(dK st 4||dK n 0)=ay)(hr:Rep H (.sl st n g) u):Rep H (.sl 4 n g) u:=by
 rw[lN] at h;rcases h with h|h
 ·simp_all
 ·obtain rfl:=Nat.eq_of_beq_eq_true h
  grind [Gg]
theorem aDy:AO ak (AZ W7) 64 D41:=by
 refine CG (C7 Ak W7 Zq Aw) qK fun H w Bl args φ hrep h=>?_
 have hn:qK.ntmps=104:=by kernel_rfl
 unfold D41 at h;split at h
 ·rename_i lv s1 s2 s3 t st n g
  split at h
  ·rename_i N T' N' mk' q0 p e1 e2 e4 e3
   obtain ⟨h1,hφ⟩:=h;unfold tuB at h1;rw[aB,aB,aB] at h1;obtain ⟨a1,a2,a3,a4⟩:=h1;have Q:TuP lv N (Ap T') N' (Ap mk') p n g:=@ϑ _ (aI _) a4;obtain rfl:=Q.eq;obtain ⟨q,rfl⟩:=Int.eq_ofNat_of_zero_le Q.pos;match args,hrep with
   |[v,u],⟨rv,ru,_⟩=>
    obtain ⟨k0,g0⟩:=q0;refine ⟨[.pt (JM lv N (Ap T') N (Ap mk') k0 g0),.agg [.i .i64 (q:Int),.sl 4 n g]],⟨al3 rv ⟨fun _ r=>r,fun _ r=>CY (Bz e1 r) a1,fun _ r=>CY (Bz e2 r) a2,fun _ r=>Bz e4 r,ϖ⟩,Lu ru ⟨fun _ r=>Dz e3 r,fun _ r=>al4 a3 r,ϖ⟩,ϖ⟩,L0,?_⟩;have hφ:φ (.sl 4 (tuL lv N (Ap T') (Ap mk') (q:Int) n g).length (Am (nth (tuL lv N (Ap T') (Ap mk') (q:Int) n g)))):=hφ;rw[<-avv] at hφ;refine BZ (aod _ avw) 300 400 [⟨64,apS,avs lv N (Ap T') N (Ap mk') k0 g0 q n g 0 (nth []) ((0:Nat):Int),[]⟩] ?_;rw[hn];exact DC (l:=[]) (cs:=[]) rfl 0 ⟨_,rfl,apV Q N 0 [] (by omega) (by simp) hφ⟩
  ·exact h.elim
 ·exact h.elim
open Go Go.Conc Go.RowKit
set_option maxRecDepth 100000 in
theorem al5(w:World):Calls ak 63 #[.chan aF] w fun e w'=>e=.returned (.bool aA)/\w'=w:=by
 refine calls_of_loneTo fun cs=>?_
 have e:Frame.enter ak 63 #[.chan aF] .normal=(Conc.base 63).at ⟨#[.chan aF,undef,undef,undef,undef,undef,undef],[]⟩ [.code (wW.body.getD .skip)]:=by
  rfl
 rw[e];refine LoneTo.goes (n:=14) ?_;simp only[wW,Option.getD_some];s_c stepG_seq
 s_reg
 s_op
 s_c stepG_region_end
 s_c stepG_seq
 s_reg
 s_op
 s_c stepG_region_end
 s_c stepG_seq
 s_reg
 s_stop
 refine LoneTo.step (step_lone_select_recv_nil (z:=.agg #[]) (stepG_comm (cases:=#[rcaseNil (.agg #[])]) (blocking:=aA) (shape:=.select) (w':=w) rfl rfl (by decide) (by simp[go_sem,execOp,rcaseNil,Act.eval]))) ?_;rw[Frame.finish_at];walk_nrm
 refine LoneTo.goes (n:=10) ?_;s_op
 s_op
 s_c stepG_region_end
 s_c stepG_block
 s_cond aA
 s_c stepG_seq
 s_reg
 s_op
 s_c stepG_region_end
 s_c stepG_ret'
 s_stop
 exact LoneTo.done ⟨.returned (.bool aA),_,rfl,⟨rfl,rfl⟩,rfl,rfl,rfl,rfl,_,Tryz.func63,by simp[results,wW,Frame.at]⟩
def avz:List Ai->Go.Sx.Tree Ai
 |[.v (.chan aF)]=>.leaf (.b aA) |_=>.fail
theorem aDz:Go.Sx.AO ak (AZ W7) 63 avz:=by
 intro H w Bl args φ hon hg hr h;unfold avz at h;split at h
 ·match args,hr with
  |[v],⟨rv,_⟩=>
   cases rv;refine Calls.mono (al5 w) fun e w' ⟨he,hw⟩=>?_;subst hw;exact ⟨_,_,H,he,h,fun _ _ h=>h,hon,rfl,rfl,rfl,Nat.le_refl _,fun _ _=>rfl,fun b h=>.inl h,fun b0=>⟨fun _=>aF,fun i h=>absurd rfl h,fun i b h=>(by cases h),rfl,Go.Sx.RP⟩⟩
 ·exact h.elim
end Go.Proofs
namespace Go.Pl
open Go Go.Sx Go.Proofs
structure Nh where
 okb:Bool
 Zt:Bool
 pos:Int
 e:Nat
 lv:Int
 N:Nat
 T:Nat->CJ
 ms:Nat->Int
 k0:Nat
 g0:ϝ
def azs(s:Sh)(l:Int)(h:Sh)(lv:Int):Bool:=@decide (s=h/\l=lv) (aI _)
def keB(st n:Nat)(g:ϝ):Bool:=(dK st 4||dK n 0)&&(stB n g&&keysB n (Ec n g))
def OJ(n:Nat)(g:ϝ):List UInt8:=ag7 ((aU n).map (Ec n g))
structure VN where
 placed:Int
 st:Nat
 n:Nat
 g:ϝ
instance:Inhabited VN:=⟨⟨0,0,0,fun _=>[]⟩⟩
instance:Row VN where
 put x:=[.i .i64 x.placed,.sl x.st x.n x.g]
 get l:=match l with
  |[.i .i64 a,.sl s n g]=>aj ⟨a,s,n,g⟩ |_=>aF
 DL l a h:=by
  split at h
  ·cases h;rfl
  ·cases h
 get_put a:=rfl
 J4:=default
structure PrQ where
 placed:Int
 key:List UInt8
instance:Inhabited PrQ:=⟨⟨0,[]⟩⟩
instance:Row PrQ where
 put x:=[.i .i64 x.placed,.str x.key]
 get l:=match l with
  |[.i .i64 a,.str k]=>aj ⟨a,k⟩ |_=>aF
 DL l a h:=by
  split at h
  ·cases h;rfl
  ·cases h
 get_put a:=rfl
 J4:=default
end Go.Pl
namespace Go.Proofs
open Go Go.Sx Go.Pl
def D40(h0:Sh)(lv:Int)(B:Nh):ϵ
 |[s,t]=>match Bd t with
  |some l=>.need (azs s l h0 lv) (.node B.okb (.leaf (.Az [.pt (JM B.lv B.N B.T B.N B.ms B.k0 B.g0),.v .nilIface]))
   (.node B.Zt (.leaf (.Az [.v (.pointer aF),.DK 184 (.pt [.i .i64 B.pos,.er B.e 322])])) (.leaf (.Az [.v (.pointer aF),.er B.e 322]))))
  |none=>.fail
 |_=>.fail
def D92:ϵ
 |[.agg [.sl st n g]]=>.need (keB st n g) (.leaf (.str (OJ n g))) |_=>.fail
def Gl(h0:Sh)(lv:Int)(B:Nh):ϕ
 |56=>aj (D40 h0 lv B) |64=>aj D41 |63=>aj avz |82=>aj D92 |_=>aF
def tdA:List It:=[aK [0,0,1,1,1,1,1,1,1,1,1,1],aX 0,aK [1,1,1,1,1,1,1,1,1,1,1]]
def tbA:List It:=aK [0,0,0,1,1,1,1,1,1,1,1,1,1]::tdA
def hpA(_B:Nh)(mo:Int)(M:Int×List UInt8->Option Value)(c:Nat)(cr:Nat->PrQ)(at_:Int)(q:Nat)(qr:Nat->VN)(m:Nat)(od:Nat->J8):List (Nat×SB):=
 [(1,.box [.bool aA,.Bg,.int .i64 0] 41),(2,.pm .int M []),(3,.box [.sym .i64 mo,.mp 2,.gs 7] 200),(4,.box [.ptr 3 0] 142),(5,.box [.gs 8,.sym .i64 at_] 148),(6,.box [.gs 9] 146),(7,.own 145 2 c (Am cr)),(8,.own 155 2 q (Am qr)),(9,.own 155 2 m (Am od))]
def tmA(B:Nh):List (Nat×SV):=[(0,.val (.chan aF)),(8,.ptr 1 0),(10,.Iu 4 1 (fun _=>JM B.lv B.N B.T B.N B.ms B.k0 B.g0) 0 0),(12,.ptr 4 0),(13,.ptr 5 0),(14,.ptr 6 0),(15,.fn 58 [.ptr 4 0,.ptr 5 0,.ptr 6 0])]
def LA(B:Nh)(mo:Int)(M:Int×List UInt8->Option Value)(c:Nat)(cr:Nat->PrQ)(at_:Int)(q:Nat)(qr:Nat->VN)(m:Nat)(od:Nat->J8):Core:=
 {tm:=DF 111 (tmA B),hp:=hpA B mo M c cr at_ q qr m od,nx:=10,lim:=L0,tc:=[]}
def tdB:List It:=[aK [0,1,1,1,1,0,0,0,0,1,1,1,1,1,1,1,1,1,1],aX 2,aX 1,aK [0,0,1,1,1,1,1,1,1,1,1,1],aX 0,aK [1,1,1,1,1,1,1,1,1,1,1]]
def tbB:List It:=aK [0,0,1,1,1,1,0,0,0,0,1,1,1,1,1,1,1,1,1,1]::tdB
def LB(B:Nh)(mo:Int)(M:Int×List UInt8->Option Value)(c:Nat)(cr:Nat->PrQ)(at_:Int)(q:Nat)(qr:Nat->VN)(m:Nat)(od:Nat->J8)(t:Nat)(tr:Nat->UG)(j:Int):Core:=
 {tm:=DF 111 (tmA B++[(76,.sh (.sl 4 t (Am tr))),(77,.sym .i64 (t:Int)),(78,.sym .i64 j)]),hp:=hpA B mo M c cr at_ q qr m od,nx:=10,lim:=L0,tc:=[]}
def Zu(B:Nh):List Fr:=[{g:=41,td:=[It.reg [0,1,1,1,1,1,1,1,1,1,1,1,1] [2,3],aK [1,1,1,1,1,1,1,1,1,1,1,1,1]],tm:=DF 111 [(8,.ptr 1 0),(10,.Iu 4 1 (fun _=>JM B.lv B.N B.T B.N B.ms B.k0 B.g0) 0 0),(22,.ptr 11 0)]}]
def tdC:List It:=[aK [0,1,0,1,1],aX 0,aK [1,1,1]]
def tbC:List It:=aK [0,0,1,0,1,1]::tdC
def hpC(m:Nat)(od:Nat->J8)(M:Int×List UInt8->Option Value)(c:Int):List (Nat×SB):=[(1,.box [.bool aA,.Bg,.int .i64 0] 41),(9,.own 155 2 m (Am od)),(10,.pm .bool M []),(11,.box [.bool aA,.Bg,.sym .i64 c] 41)]
def tmC(B:Nh)(i:Int):List (Nat×SV):=[(0,.Iu 4 1 (fun _=>JM B.lv B.N B.T B.N B.ms B.k0 B.g0) 0 0),(1,.gs 9),(5,.mp 10),(6,.sym .i64 i)]
def LC(B:Nh)(m:Nat)(od:Nat->J8)(M:Int×List UInt8->Option Value)(c:Int)(i:Int):Core:={tm:=DF 50 (tmC B i),hp:=hpC m od M c,nx:=12,lim:=L0,tc:=[]}
end Go.Proofs
namespace Go.Pl
open Go Go.Sx Go.Proofs
structure FT where
 tx:Int
 com:Bool
 deriving DecidableEq
instance:Inhabited FT:=⟨⟨0,aA⟩⟩
instance:Row FT where
 put x:=[.i .i64 x.tx,.b x.com]
 get l:=match l with
  |[.i .i64 a,.b c]=>aj ⟨a,c⟩ |_=>aF
 DL l a h:=by
  split at h
  ·cases h;rfl
  ·cases h
 get_put a:=rfl
 J4:=default
end Go.Pl
namespace Go.Proofs
open Go Go.Sx Go.Pl
def tdD:List It:=[aK [0,1,0,1,1,0,0,1,0,0,1,0,1,1],aX 2,aK [1,1,1,0,0,1,0,0,1,0,1,1],aX 1,aK [1,1,0,0,1,0,1,1],aK [0,1,0,1,1],aX 0,aK [1,1,1]]
def tbD:List It:=aK [0,0,1,0,1,1,0,0,1,0,0,1,0,1,1]::tdD
def LD(B:Nh)(m:Nat)(od:Nat->J8)(M:Int×List UInt8->Option Value)(c:Int)(i:Int)(p:Int)(n:Nat)(g:ϝ)(is:Bool)(t:Nat)(tr:Nat->UG)(j:Int):Core:=
 {tm:=DF 50 (tmC B i++[(7,.ptr 12 0),(8,.test is),(30,.sh (.sl 4 t (Am tr))),(31,.sym .i64 (t:Int)),(32,.sym .i64 j)]),hp:=hpC m od M c++[(12,.box [.sym .i64 p,.sh (.sl 4 n g)] 155)],nx:=13,lim:=L0,tc:=[]}
def frE(_B:Nh):List Fr:=[{g:=41,td:=[It.reg [0,1,0,1,1,1,1,1,1,1,1,1,1,1,1,1] [2,3,4,5,6],aK [1,1,1,1,1,1,1,1,1,1,1,1,1,1]],tm:=DF 111 [(8,.ptr 1 0),(22,.ptr 11 0)]}]
def tdE:List It:=[aK [0,1,0,1,1],aX 0,aK [1,1,1]]
def tbE:List It:=aK [0,0,1,0,1,1]::tdE
def hpE(M:Int×List UInt8->Option Value)(c:Int)(p:Int)(n:Nat)(g:ϝ)(k:Nat)(sr:Nat->FT):List (Nat×SB):=[(1,.box [.bool aA,.Bg,.int .i64 0] 41),(10,.pm .bool M []),(11,.box [.bool aA,.Bg,.sym .i64 c] 41),(12,.box [.sym .i64 p,.sh (.sl 4 n g)] 155),(13,.own 89 2 k (Am sr))]
def tmE(B:Nh):List (Nat×SV):=[(0,.Iu 4 1 (fun _=>JM B.lv B.N B.T B.N B.ms B.k0 B.g0) 0 0),(1,.mp 10),(5,.gs 13),(6,.ptr 12 0)]
def LE(B:Nh)(M:Int×List UInt8->Option Value)(c:Int)(p:Int)(n:Nat)(g:ϝ)(k:Nat)(sr:Nat->FT):Core:={tm:=DF 42 (tmE B),hp:=hpE M c p n g k sr,nx:=14,lim:=L0,tc:=[]}
def tdF:List It:=[aK [0,1,0,0,1,0,0,1,0,1,1],aX 2,aX 1,aK [1,1,0,0,1,0,1,1],aK [0,1,0,1,1],aX 0,aK [1,1,1]]
def tbF:List It:=aK [0,0,1,0,0,1,0,0,1,0,1,1]::tdF
def LF(B:Nh)(M:Int×List UInt8->Option Value)(c:Int)(p:Int)(n:Nat)(g:ϝ)(k:Nat)(sr:Nat->FT)(t:Nat)(tr:Nat->UG)(j:Int):Core:={tm:=DF 42 (tmE B++[(21,.sh (.sl 4 t (Am tr))),(22,.sym .i64 (t:Int)),(23,.sym .i64 j)]),hp:=hpE M c p n g k sr,nx:=14,lim:=L0,tc:=[]}
theorem ae6(A:Prim)(W:Wd)(B:Nh)(hs:Sh)(lv:Int)(M:Int×List UInt8->Option Value)(m:Nat)(od:Nat->J8)(c i:Int)(p:Int)(n:Nat)(g:ϝ)(is:Bool)(t:Nat)(tr:Nat->UG)(sr:Nat->FT){ψ:C9->Prop}{c0 c1 c2:Bool}(e0:A.le (ah 0) i=c0)(e1:A.isS (M (ah 0,OJ B.k0 B.g0))=c1)(e2:A.KR (M (ah 0,OJ B.k0 B.g0))=c2)(h1:c0=ay->(A.inB i m)=ay)(h2:c0=ay->(A.le (ah 0) (A.AV B.N))=ay)(h3:c0=ay->(tuB B.lv B.N (Am B.T) B.N (Am B.ms) (od (A.toN i)).placed 4 (od (A.toN i)).n (od (A.toN i)).g)=ay)(h4:c0=aA->(keB 4 B.k0 B.g0)=ay)(y1:c0=ay->ψ (bU 0 [aZ 1 1,gQ (fun (_x:Nat)=>JM B.lv B.N B.T B.N B.ms B.k0 B.g0) fun (_x:Nat)=>JM B.lv B.N B.T B.N B.ms B.k0 B.g0,aZ 0 0,aC i i,BL.bool (A.eq (od (A.toN i)).placed (A.sub .i64 (A.bin zH bD (ah 1) (A.AV B.N)) (ah 1))) is,aW (aG 4 (WS B.lv B.N (Am B.T) (Am B.ms) (od (A.toN i)).placed (od (A.toN i)).n (od (A.toN i)).g) (Am (tuR B.lv B.N (Am B.T) (Am B.ms) (od (A.toN i)).placed (od (A.toN i)).n (od (A.toN i)).g))) (aG 4 t (Am tr)),aC (A.AV (WS B.lv B.N (Am B.T) (Am B.ms) (od (A.toN i)).placed (od (A.toN i)).n (od (A.toN i)).g)) (ah t),aC (ah 0) (ah 0),aC (ah 0) (ah 0),aZ m m,bY m (Am od) (Am od),lI M M,aC c c,aC (od (A.toN i)).placed p,aW (aG 4 (od (A.toN i)).n (od (A.toN i)).g) (aG 4 n g),aZ 1 1,gQ (fun (_x:Nat)=>JM B.lv B.N B.T B.N B.ms B.k0 B.g0) fun (_x:Nat)=>JM B.lv B.N B.T B.N B.ms B.k0 B.g0,aZ 0 0]))(y2:c0=aA->c1=ay->c2=ay->ψ (bU 1 [aZ 1 1,gQ (fun (_x:Nat)=>JM B.lv B.N B.T B.N B.ms B.k0 B.g0) fun (_x:Nat)=>JM B.lv B.N B.T B.N B.ms B.k0 B.g0,aZ 0 0,aC (ah 0) (ah 0),lI M M,aC c c,aC (ah 0) (ah 0),aW (aG 4 B.k0 B.g0) (aG 4 B.k0 B.g0),aZ 0 0]))(y3:c0=aA->c1=ay->c2=aA->ψ (aN (bF [bG [iL aA,aG 0 0 fun _=>[],aQ .i64 c],ni cZ])))(y4:c0=aA->c1=aA->ψ (aN (bF [bG [iL aA,aG 0 0 fun _=>[],aQ .i64 c],ni cZ]))):CB ψ (BD (C7 A W (Gl hs lv B) Aw) Dy 300 400 66 tbC (LC B m od M c i) (Zu B) [⟨66,tdD,LD B m od M c i p n g is t tr 0,Zu B⟩,⟨67,tdE,LE B M c 0 B.k0 B.g0 0 sr,frE B⟩]):=by
 subst e0 e1 e2;exact JH (an (fun q0=>an (h1 q0) (an (h2 q0) (an (h3 q0) (y1 q0)))) (fun q0=>an (h4 q0) (an (fun q1=>an (y2 q0 q1) (y3 q0 q1)) (y4 q0))))
theorem aof(A:Prim)(W:Wd)(B:Nh)(lv mo:Int)(o m:Nat)(og mg:ϝ)(mo':Int)(M':Int×List UInt8->Option Value)(c':Nat)(WT:Nat->PrQ)(at':Int)(q':Nat)(Zv:Nat->VN)(m':Nat)(od':Nat->J8){ψ:C9->Prop}{c0 c1 c2 c3 c4 c5 c6 c7:Bool}(e0:A.lt lv (ah 1)=c0)(e1:A.lt (ah 3) lv=c1)(e2:A.lt mo (ah 1)=c2)(e3:A.lt (ah 65536) mo=c3)(e4:B.okb=c4)(e5:A.isS aF=c5)(e6:A.eq (ah 0) (A.max mo (ah 0))=c6)(e7:B.Zt=c7)(h1:c0=aA->c1=aA->c2=aA->c3=aA->(azs (bG [aG 2 o og,aG 8 m mg]) lv (bG [aG 2 o og,aG 8 m mg]) lv)=ay)(h2:c0=aA->c1=aA->c2=aA->c3=aA->c4=ay->(keB 4 B.k0 B.g0)=ay)(y1:c0=ay->ψ (aN (bF [bG [iL aA,aG 0 0 fun _=>[],aQ .i64 (ah 0)],dP 3 322])))(y2:c0=aA->c1=ay->ψ (aN (bF [bG [iL aA,aG 0 0 fun _=>[],aQ .i64 (ah 0)],dP 3 322])))(y3:c0=aA->c1=aA->c2=ay->ψ (aN (bF [bG [iL aA,aG 0 0 fun _=>[],aQ .i64 (ah 0)],dP 1 322])))(y4:c0=aA->c1=aA->c2=aA->c3=ay->ψ (aN (bF [bG [iL aA,aG 0 0 fun _=>[],aQ .i64 (ah 0)],dP 1 322])))(y5:c0=aA->c1=aA->c2=aA->c3=aA->c4=ay->c5=ay->ψ (bU 0 [jQ (fZ aF) (fZ aF),aZ 1 1,gQ (fun (_x:Nat)=>JM B.lv B.N B.T B.N B.ms B.k0 B.g0) fun (_x:Nat)=>JM B.lv B.N B.T B.N B.ms B.k0 B.g0,aZ 0 0,aC (ah 0) (ah 0),lI (fun (_x:Int×List UInt8)=>aF) M',aC (A.max mo (ah 0)) mo',aC (ah 0) at',aZ c' 0,aZ q' 0,aZ m' 0]))(y6:c0=aA->c1=aA->c2=aA->c3=aA->c4=ay->c5=aA->c6=ay->ψ (aN (bF [bG [iL aA,aG 0 0 fun _=>[],aQ .i64 (ah 0)],dP 0 322])))(y7:c0=aA->c1=aA->c2=aA->c3=aA->c4=ay->c5=aA->c6=aA->ψ (bU 0 [jQ (fZ aF) (fZ aF),aZ 1 1,gQ (fun (_x:Nat)=>JM B.lv B.N B.T B.N B.ms B.k0 B.g0) fun (_x:Nat)=>JM B.lv B.N B.T B.N B.ms B.k0 B.g0,aZ 0 0,aC (ah 0) (ah 0),lI (Pv (ah 0,OJ B.k0 B.g0) (aj (iW .i64 (ah 0))) fun (_x:Int×List UInt8)=>aF) M',aC (A.max mo (ah 0)) mo',aC (ah 0) at',aZ 1 c',bY 1 (Bh [[aQ .i64 (ah 0),dN (OJ B.k0 B.g0)]]) (Am WT),aZ 1 q',bY 1 (Bh [[aQ .i64 (ah 0),aG 4 B.k0 B.g0]]) (Am Zv),aZ 1 m',bY 1 (Bh [[aQ .i64 (ah 0),aG 4 B.k0 B.g0]]) (Am od')]))(y8:c0=aA->c1=aA->c2=aA->c3=aA->c4=aA->c7=ay->ψ (aN (bF [bG [iL aA,aG 0 0 fun _=>[],aQ .i64 (ah 0)],Sh.DK 184 (pJ [aQ .i64 B.pos,dP B.e 322])])))(y9:c0=aA->c1=aA->c2=aA->c3=aA->c4=aA->c7=aA->ψ (aN (bF [bG [iL aA,aG 0 0 fun _=>[],aQ .i64 (ah 0)],dP B.e 322]))):CB ψ (BD (C7 A W (Gl (.agg [.sl 2 o og,.sl 8 m mg]) lv B) Aw) Dy 300 400 41 [.code []] (BH 111 [.v (.chan aF),.agg [.sl 2 o og,.sl 8 m mg],.i .i64 lv,.i .i64 mo] L0) [] [⟨41,tdA,LA B mo' M' c' WT at' q' Zv m' od',[]⟩]):=by
 subst e0 e1 e2 e3 e4 e5 e6 e7;exact Ld (an y1 (fun q0=>an (y2 q0) (fun q1=>an (y3 q0 q1) (fun q2=>an (y4 q0 q1 q2) (fun q3=>an (h1 q0 q1 q2 q3) (an (fun q4=>an (h2 q0 q1 q2 q3 q4) (an (y5 q0 q1 q2 q3 q4) (fun q5=>an (y6 q0 q1 q2 q3 q4 q5) (y7 q0 q1 q2 q3 q4 q5)))) (fun q4=>an (y8 q0 q1 q2 q3 q4) (y9 q0 q1 q2 q3 q4))))))))
theorem XW(A:Prim)(W:Wd)(B:Nh)(hs:Sh)(lv mo:Int)(M:Int×List UInt8->Option Value)(c:Nat)(cr:Nat->PrQ)(at_:Int)(q:Nat)(qr:Nat->VN)(m:Nat)(od:Nat->J8)(at':Int)(q':Nat)(Zv:Nat->VN)(t:Nat)(tr:Nat->UG)(M':Int×List UInt8->Option Value)(c' i':Int){ψ:C9->Prop}{c0 c1 c2:Bool}(e0:A.eq at_ (A.AV q)=c0)(e1:A.eq (A.add .i64 at_ (ah 1)) (A.AV q)=c1)(e2:aA=c2)(h1:c0=aA->(A.inB at_ q)=ay)(h2:c0=aA->c1=ay->c2=aA->(tuB B.lv B.N (Am B.T) B.N (Am B.ms) (qr (A.toN at_)).placed (qr (A.toN at_)).st (qr (A.toN at_)).n (qr (A.toN at_)).g)=ay)(h3:c0=aA->c1=aA->c2=aA->(tuB B.lv B.N (Am B.T) B.N (Am B.ms) (qr (A.toN at_)).placed (qr (A.toN at_)).st (qr (A.toN at_)).n (qr (A.toN at_)).g)=ay)(y1:c0=ay->ψ (bU 1 [aZ 1 1,gQ (fun (_x:Nat)=>JM B.lv B.N B.T B.N B.ms B.k0 B.g0) fun (_x:Nat)=>JM B.lv B.N B.T B.N B.ms B.k0 B.g0,aZ 0 0,aC (A.sub .i64 (A.AV m) (ah 1)) i',aC (ah 0) (ah 0),aZ m m,bY m (Am od) (Am od),lI (fun (_x:Int×List UInt8)=>aF) M',aC (A.AV c) c',aZ 1 1,gQ (fun (_x:Nat)=>JM B.lv B.N B.T B.N B.ms B.k0 B.g0) fun (_x:Nat)=>JM B.lv B.N B.T B.N B.ms B.k0 B.g0,aZ 0 0]))(y2:c0=aA->c1=ay->c2=ay->ψ (aN (bF [bG [iL aA,aG 0 0 fun _=>[],aQ .i64 (ah 0)],dP 4 322])))(y3:c0=aA->c1=ay->c2=aA->ψ (bU 0 [jQ (fZ aF) (fZ aF),aZ 1 1,gQ (fun (_x:Nat)=>JM B.lv B.N B.T B.N B.ms B.k0 B.g0) fun (_x:Nat)=>JM B.lv B.N B.T B.N B.ms B.k0 B.g0,aZ 0 0,aW (aG 4 (WS B.lv B.N (Am B.T) (Am B.ms) (qr (A.toN at_)).placed (qr (A.toN at_)).n (qr (A.toN at_)).g) (Am (tuR B.lv B.N (Am B.T) (Am B.ms) (qr (A.toN at_)).placed (qr (A.toN at_)).n (qr (A.toN at_)).g))) (aG 4 t (Am tr)),aC (A.AV (WS B.lv B.N (Am B.T) (Am B.ms) (qr (A.toN at_)).placed (qr (A.toN at_)).n (qr (A.toN at_)).g)) (ah t),aC (ah 0) (ah 0),aC (ah 0) (ah 0),lI M M,aC mo mo,aC (ah 0) at',aZ c c,bY c (Am cr) (Am cr),aZ q' 0,aZ m m,bY m (Am od) (Am od)]))(y4:c0=aA->c1=aA->c2=ay->ψ (aN (bF [bG [iL aA,aG 0 0 fun _=>[],aQ .i64 (ah 0)],dP 4 322])))(y5:c0=aA->c1=aA->c2=aA->ψ (bU 0 [jQ (fZ aF) (fZ aF),aZ 1 1,gQ (fun (_x:Nat)=>JM B.lv B.N B.T B.N B.ms B.k0 B.g0) fun (_x:Nat)=>JM B.lv B.N B.T B.N B.ms B.k0 B.g0,aZ 0 0,aW (aG 4 (WS B.lv B.N (Am B.T) (Am B.ms) (qr (A.toN at_)).placed (qr (A.toN at_)).n (qr (A.toN at_)).g) (Am (tuR B.lv B.N (Am B.T) (Am B.ms) (qr (A.toN at_)).placed (qr (A.toN at_)).n (qr (A.toN at_)).g))) (aG 4 t (Am tr)),aC (A.AV (WS B.lv B.N (Am B.T) (Am B.ms) (qr (A.toN at_)).placed (qr (A.toN at_)).n (qr (A.toN at_)).g)) (ah t),aC (ah 0) (ah 0),aC (ah 0) (ah 0),lI M M,aC mo mo,aC (A.add .i64 at_ (ah 1)) at',aZ c c,bY c (Am cr) (Am cr),aZ q q',bY q (A.upd (Am qr) (A.toN at_) 0 [aQ .i64 (ah 0),aG 0 0 fun _=>[]]) (Am Zv),aZ m m,bY m (Am od) (Am od)])):CB ψ (BD (C7 A W (Gl hs lv B) Aw) Dy 300 400 41 tbA (LA B mo M c cr at_ q qr m od) [] [⟨41,tdB,LB B mo M c cr at' q' Zv m od t tr 0,[]⟩,⟨66,tdC,LC B m od M' c' i',Zu B⟩]):=by
 subst e0 e1 e2;exact JH (an y1 (fun q0=>an (h1 q0) (an (h1 q0) (an (fun q1=>an (y2 q0 q1) (fun q2=>an (h2 q0 q1 q2) (y3 q0 q1 q2))) (fun q1=>an (y4 q0 q1) (fun q2=>an (h3 q0 q1 q2) (y5 q0 q1 q2)))))))
theorem Ud(A:Prim)(W:Wd)(B:Nh)(hs:Sh)(lv mo:Int)(M M':Int×List UInt8->Option Value)(c c':Nat)(cr WT:Nat->PrQ)(at_:Int)(q q':Nat)(qr Zv:Nat->VN)(m m':Nat)(od od':Nat->J8)(t:Nat)(tr:Nat->UG)(j j':Int){ψ:C9->Prop}{c0 c1 c2:Bool}(e0:A.lt j (ah t)=c0)(e1:A.isS (M ((tr (A.toN j)).placed,OJ (tr (A.toN j)).n (tr (A.toN j)).g))=c1)(e2:A.eq (A.AV c) mo=c2)(h1:c0=ay->(A.inB j t)=ay)(h2:c0=ay->(keB 4 (tr (A.toN j)).n (tr (A.toN j)).g)=ay)(h3:c0=ay->c1=aA->c2=aA->(A.room (A.addN c 1) 24)=ay)(h4:c0=ay->c1=aA->c2=aA->(A.room (A.addN q 1) 32)=ay)(h5:c0=ay->c1=aA->c2=aA->(A.room (A.addN m 1) 32)=ay)(y1:c0=ay->c1=ay->ψ (bU 0 [jQ (fZ aF) (fZ aF),aZ 1 1,gQ (fun (_x:Nat)=>JM B.lv B.N B.T B.N B.ms B.k0 B.g0) fun (_x:Nat)=>JM B.lv B.N B.T B.N B.ms B.k0 B.g0,aZ 0 0,aW (aG 4 t (Am tr)) (aG 4 t (Am tr)),aC (ah t) (ah t),aC (A.add .i64 j (ah 1)) j',aC (ah 0) (ah 0),lI M M',aC mo mo,aC at_ at_,aZ c c',bY c (Am cr) (Am WT),aZ q q',bY q (Am qr) (Am Zv),aZ m m',bY m (Am od) (Am od')]))(y2:c0=ay->c1=aA->c2=ay->ψ (aN (bF [bG [iL aA,aG 0 0 fun _=>[],aQ .i64 (ah 0)],dP 0 322])))(y3:c0=ay->c1=aA->c2=aA->ψ (bU 0 [jQ (fZ aF) (fZ aF),aZ 1 1,gQ (fun (_x:Nat)=>JM B.lv B.N B.T B.N B.ms B.k0 B.g0) fun (_x:Nat)=>JM B.lv B.N B.T B.N B.ms B.k0 B.g0,aZ 0 0,aW (aG 4 t (Am tr)) (aG 4 t (Am tr)),aC (ah t) (ah t),aC (A.add .i64 j (ah 1)) j',aC (ah 0) (ah 0),lI (Pv ((tr (A.toN j)).placed,OJ (tr (A.toN j)).n (tr (A.toN j)).g) (aj (iW .i64 (A.AV c))) M) M',aC mo mo,aC at_ at_,aZ (A.addN c 1) c',bY (A.addN c 1) (A.snoc (Am cr) c (Bh [[aQ .i64 (tr (A.toN j)).placed,dN (OJ (tr (A.toN j)).n (tr (A.toN j)).g)]])) (Am WT),aZ (A.addN q 1) q',bY (A.addN q 1) (A.snoc (Am qr) q (Bh [[aQ .i64 (tr (A.toN j)).placed,aG 4 (tr (A.toN j)).n (tr (A.toN j)).g]])) (Am Zv),aZ (A.addN m 1) m',bY (A.addN m 1) (A.snoc (Am od) m (Bh [[aQ .i64 (tr (A.toN j)).placed,aG 4 (tr (A.toN j)).n (tr (A.toN j)).g]])) (Am od')]))(y4:c0=aA->ψ (bU 1 [jQ (fZ aF) (fZ aF),aZ 1 1,gQ (fun (_x:Nat)=>JM B.lv B.N B.T B.N B.ms B.k0 B.g0) fun (_x:Nat)=>JM B.lv B.N B.T B.N B.ms B.k0 B.g0,aZ 0 0,aC (ah 0) (ah 0),lI M M,aC mo mo,aC at_ at_,aZ c c,bY c (Am cr) (Am cr),aZ q q,bY q (Am qr) (Am qr),aZ m m,bY m (Am od) (Am od)])):CB ψ (BD (C7 A W (Gl hs lv B) Aw) Dy 300 400 41 tbB (LB B mo M c cr at_ q qr m od t tr j) [] [⟨41,tdB,LB B mo M' c' WT at_ q' Zv m' od' t tr j',[]⟩,⟨41,tdA,LA B mo M c cr at_ q qr m od,[]⟩]):=by
 subst e0 e1 e2;exact Ld (an (fun q0=>an (h1 q0) (an (h2 q0) (an (y1 q0) (fun q1=>an (y2 q0 q1) (fun q2=>an (h3 q0 q1 q2) (an (h3 q0 q1 q2) (an (h4 q0 q1 q2) (an (h4 q0 q1 q2) (an (h5 q0 q1 q2) (y3 q0 q1 q2)))))))))) y4)
end Go.Proofs
namespace Go.Pl
open Go Go.Sx Go.Proofs Go.Gm Go.Bf
abbrev SG:=Nat->List Sh
def Gb(B:Nh):Game SG:=WR B.lv B.N B.T B.ms B.k0
def DV(k0:Nat)(nd:Nd SG):Int×List UInt8:=((nd.placed:Nat),OJ k0 nd.st)
def KC(k0:Nat)(nd:Nd SG):J8:=⟨(nd.placed:Nat),k0,nd.st⟩
def Gj(t:Int×Bool):FT:=⟨t.1,t.2⟩
structure Rh(B:Nh)(Q:Nd SG->Prop):Prop where
 start:Q ⟨0,B.g0⟩
 step:∀nd,Q nd->∀t∈next (Gb B) nd,Q t
 tu:∀nd,Q nd->TuP B.lv B.N B.T B.N B.ms (nd.placed:Nat) B.k0 nd.st
 ke:∀nd,Q nd->keB 4 B.k0 nd.st=ay
section
variable{B:Nh}{Q:Nd SG->Prop}{nd:Nd SG}
theorem ai3(hg:Rh B Q)(h:Q nd){st:Nat}(hst:(dK st 4||dK B.k0 0)=ay):tuB B.lv B.N (Am B.T) B.N (Am B.ms) (nd.placed:Nat) st B.k0 nd.st=ay:=by
 unfold tuB;rw[Cb,Cb,hst,Nr,Nr];exact @ϱ _ (aI _) (hg.tu nd h)
theorem Zw:WS B.lv B.N (Am B.T) (Am B.ms) (nd.placed:Nat) B.k0 nd.st=(turns (Gb B) nd).length:=by
 unfold WS tuL;rw[Nr,Nr,List.length_map];rfl
theorem ai4:tuR B.lv B.N (Am B.T) (Am B.ms) (nd.placed:Nat) B.k0 nd.st=nth ((turns (Gb B) nd).map (NR B.k0)):=by
 rfl
theorem Zx{α β:Type}[Row β](f:α->β)(l:List α){j:Nat}{a:α}(h:l[j]?=aj a):nth (l.map f) j=f a:=by
 simp_all [nth,bI,List.getElem?_map]
theorem aaT(hN:B.N<=62)(nd:Nd SG):(turns (Gb B) nd).length<=124:=by
 have key:∀(l:List Nat),(l.flatMap (Ia (Gb B) nd)).length<=2*l.length:=by
  intro l;induction l with
  |nil=>simp |cons a l ih=>
   rw[kJ,cO,List.length_cons];grind [Ia,Gb,cO,Nat.le_trans,Nat.add_le_add]
 have:=key (aU B.N);rw[uj] at this;have e:(turns (Gb B) nd).length=(((aU B.N).flatMap (Ia (Gb B) nd))).length:=rfl;omega
end
end Go.Pl
namespace Go.Proofs
open Go Go.Sx Go.Pl Go.Gm Go.Bf
theorem aDH:AO ak (AZ W7) 82 D92:=fun H w Bl args φ hon hg hr h=>by
 unfold D92 at h;split at h
 ·rename_i st n g
  obtain ⟨h1,h2⟩:=h;unfold keB at h1;rw[aB,aB] at h1;match args,hr with
  |[v],⟨rv,_⟩=>
   refine O32 H w [.agg [.sl 4 n g]] [v] φ hon hg ⟨Lu rv ⟨fun _ r=>al4 h1.1 r,ϖ⟩,ϖ⟩ ?_;exact ⟨h1.2.1,h1.2.2,h2⟩
 ·exact h.elim
section
variable{B:Nh}{hs:Sh}{lv:Int}
theorem JO(JQ:AO ak (AZ W7) 56 (D40 hs lv B))(stop:Nat->List Nat->Bool):BJ ak (C7 Ak W7 (Gl hs lv B) stop):=C7.OG (fun g F h=>by
 unfold Gl at h;grind [aDy,aDz,aDH]) fun g h=>by
 unfold Gl at h;split at h;all_goals first|(cases h;done) |kernel_rfl
end
section
variable{H0:Mem}{w0:World}{φ:Sh->Prop}{B:Nh}{Q:Nd SG->Prop}{hs:Sh}{lv:Int}{M:Int×List UInt8->Option Value}{c:Int}
theorem aaU{o:Option Value}(h:Ak.KR o=ay):Ak.isS o=ay:=by
 cases o with
 |none=>assumption |some v=>rfl
theorem avC(JQ:AO ak (AZ W7) 56 (D40 hs lv B))(hg:Rh B Q)(nd:Nd SG)(hq:Q nd)(acc:List FT)(hk:acc.length<=1000):
  ∀r j,j+r=(turns (Gb B) nd).length->
  (∀t,((turns (Gb B) nd).drop j).find? (fun t=>Ak.KR (M (DV B.k0 t.2)))=aj t->AB ak (C7 Ak W7 (Gl hs lv B) Aw) (K0 H0 w0) 67 tdE (LE B M c (t.2.placed:Nat) B.k0 t.2.st (acc++[Gj t.1]).length (nth (acc++[Gj t.1]))) (frE B) emp (up φ))->
  (∃t∈(turns (Gb B) nd).drop j,Ak.KR (M (DV B.k0 t.2))=ay)->
  AB ak (C7 Ak W7 (Gl hs lv B) Aw) (K0 H0 w0) 67 tdF (LF B M c (nd.placed:Nat) B.k0 nd.st acc.length (nth acc) (turns (Gb B) nd).length (nth ((turns (Gb B) nd).map (NR B.k0))) (j:Nat)) (frE B) emp (up φ)
 |0,j,hj,hnx,⟨t,ht,_⟩=>by
  simp_all
 |r+1,j,hj,hnx,hex=>by
  have hjl:j<(turns (Gb B) nd).length:=by omega
  have hN:(turns (Gb B) nd).length<=124:=aaT (hg.tu nd hq).le nd;obtain ⟨t,ht⟩:∃t,(turns (Gb B) nd)[j]?=aj t:=⟨_,aV hjl⟩;have hqt:Q t.2:=hg.step nd hq _ (eP.2 ⟨t,bK ht,rfl⟩);have hd:(turns (Gb B) nd).drop j=t::(turns (Gb B) nd).drop (j+1):=by
   grind [iT,aV,bP]
  have htr:nth ((turns (Gb B) nd).map (NR B.k0)) (Ak.toN (j:Int))=NR B.k0 t:=Zx _ _ ht;obtain ⟨tr,etr⟩:∃tr,nth ((turns (Gb B) nd).map (NR B.k0))=tr:=⟨_,rfl⟩;rw[etr] at htr ⊢;refine D6 Tryz.f67 tbF ?_;have w1:Ak.add .i64 (j:Int) (ah 1)=((j+1:Nat):Int):=add1 (by omega);have yes:Ak.lt (j:Int) ((turns (Gb B) nd).length:Nat)=ay:=by simp[Ar];omega
  have inb:Ak.inB (j:Int) (turns (Gb B) nd).length=ay:=by simp[AX];omega
  have hke:keB 4 (tr (Ak.toN (j:Int))).n (tr (Ak.toN (j:Int))).g=ay:=by rw[htr];exact hg.ke _ hqt
  have hM:M ((tr (Ak.toN (j:Int))).placed,OJ (tr (Ak.toN (j:Int))).n (tr (Ak.toN (j:Int))).g)=M (DV B.k0 t.2):=by rw[htr];rfl
  have k1 (l l':List Bool) (h:l=l'):[Ak.lt (j:Int) ((turns (Gb B) nd).length:Nat),Ak.inB (j:Int) (turns (Gb B) nd).length,keB 4 (tr (Ak.toN (j:Int))).n (tr (Ak.toN (j:Int))).g,Ak.isS (M ((tr (Ak.toN (j:Int))).placed,OJ (tr (Ak.toN (j:Int))).n (tr (Ak.toN (j:Int))).g))]++l=ay::ay::ay::Ak.isS (M (DV B.k0 t.2))::l':=by rw[yes,inb,hke,hM,h];rfl
  cases hb:Ak.KR (M (DV B.k0 t.2)) with
  |true=>
   have nx:=hnx t (by simp_all);rw[aaU hb] at k1;refine BZ (JO JQ _) 300 400 [⟨67,tdF,LF B M c (nd.placed:Nat) B.k0 nd.st acc.length (nth acc) (turns (Gb B) nd).length tr 0,frE B⟩,⟨67,tdE,LE B M c (t.2.placed:Nat) B.k0 t.2.st (acc++[Gj t.1]).length (nth (acc++[Gj t.1])),frE B⟩] ?_;exact DC (k1 [Ak.KR (M ((tr (Ak.toN (j:Int))).placed,OJ (tr (Ak.toN (j:Int))).n (tr (Ak.toN (j:Int))).g)),Ak.room (Ak.addN acc.length 1) 16] [ay,ay] (by rw[hM,hb,Em,ϱ (by rw[Dl];unfold maxLen;omega)])) 1 ⟨_,rfl,nx⟩ [6,7,8,9]
    [aC (tr (Ak.toN (j:Int))).placed (t.2.placed:Nat),aW (.sl 4 (tr (Ak.toN (j:Int))).n (tr (Ak.toN (j:Int))).g) (.sl 4 B.k0 t.2.st),aZ (Ak.addN acc.length 1) (acc++[Gj t.1]).length,bY (Ak.addN acc.length 1) (Ak.snoc (Am (nth acc)) acc.length (Bh [[.i .i64 (tr (Ak.toN (j:Int))).tx,.b (tr (Ak.toN (j:Int))).com]])) (Am (nth (acc++[Gj t.1])))]
    ⟨congrArg UG.placed htr,congrArg (fun x:UG=>aG 4 x.n x.g) htr,by rw[cO];rfl,fun i hi=>Ib acc (Gj t.1) _ (by rw[htr];rfl) i hi,ϖ⟩
  |false=>
   have nx:=avC JQ hg nd hq acc hk r (j+1) (by omega) (fun t' h=>hnx t' (by
    simp_all)) (by
    simp_all)
   rw[etr,<-w1] at nx;refine BZ (JO JQ _) 300 400 [⟨67,tdF,LF B M c (nd.placed:Nat) B.k0 nd.st acc.length (nth acc) (turns (Gb B) nd).length tr (Ak.add .i64 (j:Int) (ah 1)),frE B⟩] ?_;cases hi:Ak.isS (M (DV B.k0 t.2)) with
   |true=>
    rw[hi] at k1;exact DC (k1 [Ak.KR (M ((tr (Ak.toN (j:Int))).placed,OJ (tr (Ak.toN (j:Int))).n (tr (Ak.toN (j:Int))).g))] [aA] (by rw[hM,hb])) 0 ⟨_,rfl,nx⟩
   |false=>
    rw[hi] at k1;exact DC (k1 [] [] rfl) 0 ⟨_,rfl,nx⟩
def aoh(c:Int)(l:List (Int×Bool)):Sh:=.Az [.agg [.b ay,.sl 2 (l.map Gj).length (Am (nth (l.map Gj))),.i .i64 c],.v .nilIface]
def noSh(c:Int):Sh:=.Az [.agg [.b aA,.sl 2 0 (Am (nth ([]:List FT))),.i .i64 c],.v .nilIface]
theorem al6(hN:B.N<=62)(nd:Nd SG):Ak.eq ((nd.placed:Nat):Int) (Ak.sub .i64 (Ak.bin .shl .i64 (ah 1) (Ak.AV B.N)) (ah 1))=full (Gb B) nd:=by
 have e:Ak.sub .i64 (Ak.bin .shl .i64 (ah 1) (Ak.AV B.N)) (ah 1)=((2^B.N - 1:Nat):Int):=al0 hN;rw[e,AQ];unfold full;rw[Bool.eq_iff_iff,ϡ];show _↔decide (nd.placed=2^(Gb B).n - 1)=ay;rw[ϟ];exact ⟨fun e=>jf e,fun e=>congrArg ah e⟩
theorem avD(nd:Nd SG):rk (Gb B) nd<=B.N:=by
 unfold rk;have:=List.countP_le_length (p:=fun i=>nd.placed.testBit i) (l:=aU (Gb B).n);rw[uj] at this;exact this
theorem avE(JQ:AO ak (AZ W7) 56 (D40 hs lv B))(hg:Rh B Q){ld:Nd SG->Bool}(hM:∀nd,Ak.KR (M (DV B.k0 nd))=ld nd)
  (hl:∀nd,Q nd->ld nd=ay->full (Gb B) nd=aA->∃t∈turns (Gb B) nd,ld t.2=ay) :
  ∀f (nd:Nd SG) (acc:List (Int×Bool)),Q nd->ld nd=ay->B.N<rk (Gb B) nd+f->acc.length+f<=1000->φ (aoh c (acc++least (Gb B) ld f nd))->
  AB ak (C7 Ak W7 (Gl hs lv B) Aw) (K0 H0 w0) 67 tdE (LE B M c (nd.placed:Nat) B.k0 nd.st (acc.map Gj).length (nth (acc.map Gj))) (frE B) emp (up φ)
 |0,nd,acc,hq,hld,hf,hk,hφ=>by
  grind [avD]
 |f+1,nd,acc,hq,hld,hf,hk,hφ=>by
  refine D6 Tryz.f67 tbE ?_;have hN:=(hg.tu nd hq).le;have hfu:=al6 hN nd;have k2 {b:Bool} (l l':List Bool) (hb:(!full (Gb B) nd)=b) (h:l=l'):[Ak.le 0 (Ak.AV B.N),Ak.nt (Ak.eq ((nd.placed:Nat):Int) (Ak.sub .i64 (Ak.bin .shl .i64 (ah 1) (Ak.AV B.N)) (ah 1)))]++l=ay::b::l':=by
   rw[hfu,h,<-hb];rfl
  cases hfl:full (Gb B) nd with
  |true=>
   have e:least (Gb B) ld (f+1) nd=[]:=by grind [least]
   rw[e,iM] at hφ;refine BZ (JO JQ _) 300 400 [] ?_;exact I9 (k2 (b:=aA) [] [] (by rw[hfl];rfl) rfl) (s:=.Az [.agg [.b ay,.os 89 2 (acc.map Gj).length (Am (nth (acc.map Gj))),.i .i64 c],.v .nilIface]) (AY (s':=aoh c acc) ⟨⟨.inl rfl,.inr ⟨rfl,rfl,fun _ _=>rfl⟩,rfl,ϖ⟩,rfl,ϖ⟩ hφ)
  |false=>
   obtain ⟨t,ht,hlt⟩:=hl nd hq hld hfl;have nx:=avC (φ:=φ) (c:=c) JQ hg nd hq (acc.map Gj) (by grind) (turns (Gb B) nd).length 0 (by omega) (M:=M) (fun x hx=>by
    rw[lu] at hx;have hx1:=List.mem_of_find?_eq_some hx;have hx2:ld x.2=ay:=by grind
    have hn:x.2∈next (Gb B) nd:=eP.2 ⟨x,hx1,rfl⟩;have hr:=Sm _ hn;have hx':(turns (Gb B) nd).find? (fun t=>ld t.2)=aj x:=by
     simp_all
    have e:least (Gb B) ld (f+1) nd=x.1::least (Gb B) ld f x.2:=by simp_all [least]
    rw[e] at hφ;have:=avE JQ hg hM hl f x.2 (acc++[x.1]) (hg.step nd hq _ hn) hx2 (by omega) (by simp;omega) (by simp_all);rw[jR] at this;exact this) ⟨t,by assumption,by simp_all⟩
   rw[<-Zw,<-ai4] at nx;refine BZ (JO JQ _) 300 400 [⟨67,tdF,LF B M c (nd.placed:Nat) B.k0 nd.st (acc.map Gj).length (nth (acc.map Gj)) (WS B.lv B.N (Am B.T) (Am B.ms) (nd.placed:Nat) B.k0 nd.st) (tuR B.lv B.N (Am B.T) (Am B.ms) (nd.placed:Nat) B.k0 nd.st) ((0:Nat):Int),frE B⟩] ?_;exact DC (k2 (b:=ay) [tuB B.lv B.N (Am B.T) B.N (Am B.ms) (nd.placed:Nat) 4 B.k0 nd.st] [ay] (by rw[hfl];rfl) (by rw[ai3 hg hq rfl])) 0 ⟨_,rfl,nx⟩
theorem avF(JQ:AO ak (AZ W7) 56 (D40 hs lv B))(hg:Rh B Q)(nd:Nd SG)(hq:Q nd){m:Nat}{od:Nat->J8}{i:Int}:
  ∀r j (is:Bool),j+r=(turns (Gb B) nd).length->
  AB ak (C7 Ak W7 (Gl hs lv B) Aw) (K0 H0 w0) 66 tdC (LC B m od (Pv (DV B.k0 nd) (aj (.bool (is||((turns (Gb B) nd).drop j).any fun t=>Ak.KR (M (DV B.k0 t.2))))) M) c (Ak.sub .i64 i (ah 1))) (Zu B) emp (up φ)->
  AB ak (C7 Ak W7 (Gl hs lv B) Aw) (K0 H0 w0) 66 tdD (LD B m od M c i (nd.placed:Nat) B.k0 nd.st is (turns (Gb B) nd).length (nth ((turns (Gb B) nd).map (NR B.k0))) (j:Nat)) (Zu B) emp (up φ)
 |0,j,is,hj,nx=>by
  rw[pR (by omega),List.any_nil,Bool.or_false] at nx;refine D6 qN tbD ?_;refine BZ (JO JQ _) 300 400 [⟨66,tdC,LC B m od (Pv (DV B.k0 nd) (aj (.bool is)) M) c (Ak.sub .i64 i (ah 1)),Zu B⟩] ?_;exact DC (l:=[aA,ay]) (cs:=[Ak.lt (j:Int) ((turns (Gb B) nd).length:Nat),keB 4 B.k0 nd.st]) (by rw[hg.ke nd hq,show Ak.lt (j:Int) ((turns (Gb B) nd).length:Nat)=aA by simp[Ar];omega]) 0 ⟨_,rfl,nx⟩
 |r+1,j,is,hj,nx=>by
  have hjl:j<(turns (Gb B) nd).length:=by omega
  have hN:(turns (Gb B) nd).length<=124:=aaT (hg.tu nd hq).le nd;obtain ⟨t,ht⟩:∃t,(turns (Gb B) nd)[j]?=aj t:=⟨_,aV hjl⟩;have hqt:Q t.2:=hg.step nd hq _ (eP.2 ⟨t,bK ht,rfl⟩);have hd:(turns (Gb B) nd).drop j=t::(turns (Gb B) nd).drop (j+1):=by
   grind [iT,aV,bP]
  rw[hd,List.any_cons,<-Bool.or_assoc] at nx;have nx:=avF JQ hg nd hq r (j+1) (is||Ak.KR (M (DV B.k0 t.2))) (by omega) nx;have htr:nth ((turns (Gb B) nd).map (NR B.k0)) (Ak.toN (j:Int))=NR B.k0 t:=Zx _ _ ht;obtain ⟨tr,etr⟩:∃tr,nth ((turns (Gb B) nd).map (NR B.k0))=tr:=⟨_,rfl⟩;rw[etr] at htr nx ⊢;refine D6 qN tbD ?_;have w1:Ak.add .i64 (j:Int) (ah 1)=((j+1:Nat):Int):=add1 (by omega);have k1 (l l':List Bool) (h:l=l'):[Ak.lt (j:Int) ((turns (Gb B) nd).length:Nat),Ak.inB (j:Int) (turns (Gb B) nd).length,is]++l=ay::ay::is::l':=by
   rw[show Ak.lt (j:Int) ((turns (Gb B) nd).length:Nat)=ay by simp[Ar];omega,show Ak.inB (j:Int) (turns (Gb B) nd).length=ay by simp[AX];omega,h];rfl
  have hke:keB 4 (tr (Ak.toN (j:Int))).n (tr (Ak.toN (j:Int))).g=ay:=by rw[htr];exact hg.ke _ hqt
  have hM:M ((tr (Ak.toN (j:Int))).placed,OJ (tr (Ak.toN (j:Int))).n (tr (Ak.toN (j:Int))).g)=M (DV B.k0 t.2):=by rw[htr];rfl
  rw[<-w1,<-hM] at nx;refine BZ (JO JQ _) 300 400 [⟨66,tdD,LD B m od M c i (nd.placed:Nat) B.k0 nd.st (is||Ak.KR (M ((tr (Ak.toN (j:Int))).placed,OJ (tr (Ak.toN (j:Int))).n (tr (Ak.toN (j:Int))).g))) (turns (Gb B) nd).length tr (Ak.add .i64 (j:Int) (ah 1)),Zu B⟩] ?_;cases is with
  |true=>exact DC (k1 [] [] rfl) 0 ⟨_,rfl,nx⟩ |false=>
   cases hi:Ak.isS (M ((tr (Ak.toN (j:Int))).placed,OJ (tr (Ak.toN (j:Int))).n (tr (Ak.toN (j:Int))).g)) with
   |true=>exact DC (k1 [keB 4 (tr (Ak.toN (j:Int))).n (tr (Ak.toN (j:Int))).g,Ak.isS (M ((tr (Ak.toN (j:Int))).placed,OJ (tr (Ak.toN (j:Int))).n (tr (Ak.toN (j:Int))).g))] [ay,ay] (by rw[hke,hi])) 0 ⟨_,rfl,nx⟩ |false=>
    have h0:Ak.KR (M ((tr (Ak.toN (j:Int))).placed,OJ (tr (Ak.toN (j:Int))).n (tr (Ak.toN (j:Int))).g))=aA:=by
     cases h:Ak.KR _ with
     |true=>rw[aaU h] at hi;cases hi |false=>rfl
    rw[h0] at nx ⊢;exact DC (k1 [keB 4 (tr (Ak.toN (j:Int))).n (tr (Ak.toN (j:Int))).g,Ak.isS (M ((tr (Ak.toN (j:Int))).placed,OJ (tr (Ak.toN (j:Int))).n (tr (Ak.toN (j:Int))).g))] [ay,aA] (by rw[hke,hi])) 0 ⟨_,rfl,nx⟩
end
end Go.Proofs
namespace Go.Pl
open Go Go.Sx Go.Proofs Go.Gm Go.Bf
def ndQ(k0:Nat)(nd:Nd SG):VN:=⟨(nd.placed:Nat),4,k0,nd.st⟩
def Ri(k0:Nat)(nd:Nd SG):PrQ:=⟨(nd.placed:Nat),OJ k0 nd.st⟩
structure QOK(k0:Nat)(o:List (Nd SG))(i at_ q:Nat)(qr:Nat->VN):Prop where
 le:i<=o.length
 len:q=at_+(o.length - i)
 row:∀j nd,o[i+j]?=aj nd->qr (at_+j)=ndQ k0 nd
end Go.Pl
namespace Go.Proofs
open Go Go.Sx Go.Pl Go.Gm Go.Bf
section
variable{H0:Mem}{w0:World}{φ:Sh->Prop}{B:Nh}{Q:Nd SG->Prop}{hs:Sh}{lv:Int}{c:Int}
theorem aDI{r:Nat}(h:r<=100000):Ak.sub .i64 (((r+1:Nat):Int) - 1) (ah 1)=(r:Int) - 1:=by
 have e:Ak.sub .i64 (((r+1:Nat):Int) - 1) (ah 1)=bD.wrap (((r+1:Nat):Int) - 1 - 1):=rfl;grind [CU]
theorem avG(JQ:AO ak (AZ W7) 56 (D40 hs lv B))(hg:Rh B Q)(o:List (Nd SG))(ho:∀x∈o,Q x)(hlen:o.length<=100000)
  (hl:∀nd,Q nd->Uc (Gb B) (DV B.k0) o nd=ay->full (Gb B) nd=aA->∃t∈turns (Gb B) nd,Uc (Gb B) (DV B.k0) o t.2=ay)
  (hy:QE (Gb B) (DV B.k0) B.g0 o=ay->φ (aoh c (IB (Gb B) (DV B.k0) B.g0 o))) (hn:QE (Gb B) (DV B.k0) B.g0 o=aA->φ (noSh c)) :
  ∀r (M:Int×List UInt8->Option Value),r<=o.length->(∀k,Ak.KR (M k)=Jb (DV B.k0) (next (Gb B)) (full (Gb B)) (o.drop r) k)->
  AB ak (C7 Ak W7 (Gl hs lv B) Aw) (K0 H0 w0) 66 tdC (LC B o.length (nth (o.map (KC B.k0))) M c ((r:Nat) - 1:Int)) (Zu B) emp (up φ)
 |0,M,hr,hM=>by
  refine D6 qN tbC ?_;rw[lu] at hM;have ge {P:Prop} (h:Ak.le (ah 0) (((0:Nat):Int) - 1)=ay):P:=by simp[CS] at h
  have hN:=(hg.tu _ hg.start).le;have hK:M (ah 0,OJ B.k0 B.g0)=M (DV B.k0 ⟨0,B.g0⟩):=rfl;refine BZ (JO JQ _) 300 400 [⟨66,tdD,LD B o.length (nth (o.map (KC B.k0))) M c (((0:Nat):Int) - 1) 0 0 noT aA 0 (nth []) 0,Zu B⟩,⟨67,tdE,LE B M c 0 B.k0 B.g0 0 (nth []),frE B⟩] ?_;refine ae6 Ak W7 B hs lv M _ _ c _ 0 0 noT aA 0 (nth []) (nth []) rfl rfl rfl (fun q=>ge q) (fun q=>ge q) (fun q=>ge q) (fun _=>hg.ke _ hg.start) (fun q=>ge q) (fun _ _ q=>?_) (fun _ _ q=>?_) (fun _ q=>?_)
  ·have hld:QE (Gb B) (DV B.k0) B.g0 o=ay:=by
    rw[hK,hM] at q;exact q
   have hφ:=hy hld;have e:IB (Gb B) (DV B.k0) B.g0 o=least (Gb B) (Uc (Gb B) (DV B.k0) o) ((Gb B).n+1) (Go.Gm.start B.g0):=if_pos hld;rw[e] at hφ;have nx:=avE (H0:=H0) (w0:=w0) (φ:=φ) (c:=c) (M:=M) JQ hg (ld:=Uc (Gb B) (DV B.k0) o) (fun nd=>hM _) hl ((Gb B).n+1) (Go.Gm.start B.g0) [] hg.start hld (by have:(Gb B).n=B.N:=rfl;omega) (by have:(Gb B).n=B.N:=rfl;simp;omega) (by assumption);exact ⟨⟨rfl,rfl,rfl,rfl,rfl,rfl,rfl,rfl,rfl,ϖ⟩,_,rfl,nx⟩
  ·refine AY (s':=noSh c) ⟨⟨.inl rfl,.inl ⟨rfl,rfl⟩,rfl,ϖ⟩,rfl,ϖ⟩ (hn ?_)
   rw[hK,hM] at q;exact q
  ·refine AY (s':=noSh c) ⟨⟨.inl rfl,.inl ⟨rfl,rfl⟩,rfl,ϖ⟩,rfl,ϖ⟩ (hn ?_)
   have q2:Ak.KR (M (DV B.k0 ⟨0,B.g0⟩))=aA:=by
    grind [DV,aaU]
   rw[hM] at q2;exact q2
 |r+1,M,hr,hM=>by
  obtain ⟨nd,hnd⟩:∃nd,o[r]?=aj nd:=⟨_,aV (by omega)⟩;have hq:Q nd:=ho nd (bK hnd);have hN:=(hg.tu nd hq).le;have hd:o.drop r=nd::o.drop (r+1):=by
   grind [iT,aV,bP]
  have hi:Ak.toN (((r+1:Nat):Int) - 1)=r:=by rw[Cm];omega
  have hod:nth (o.map (KC B.k0)) (Ak.toN (((r+1:Nat):Int) - 1))=KC B.k0 nd:=by simp_all [Zx]
  have nx:=avG JQ hg o ho hlen hl hy hn r (Pv (DV B.k0 nd) (aj (.bool (full (Gb B) nd||((turns (Gb B) nd).drop 0).any fun t=>Ak.KR (M (DV B.k0 t.2))))) M) (by omega) (fun k=>by
   have e:(next (Gb B) nd).any (fun t=>Jb (DV B.k0) (next (Gb B)) (full (Gb B)) (o.drop (r+1)) (DV B.k0 t))=((turns (Gb B) nd).drop 0).any fun t=>Ak.KR (M (DV B.k0 t.2)):=by
    grind [next,List.any_map]
   rw[hd,Jb,e];unfold Pv;by_cases h:k=DV B.k0 nd
   ·rw[if_pos h,if_pos h.symm];rfl
   grind)
  refine D6 qN tbC ?_;obtain ⟨od,aDJ⟩:∃od,nth (o.map (KC B.k0))=od:=⟨_,rfl⟩;rw[aDJ] at hod nx ⊢;have lt {P:Prop} (h:Ak.le (ah 0) (((r+1:Nat):Int) - 1)=aA):P:=by simp_all [CS]
  have hD:=avF (H0:=H0) (w0:=w0) (φ:=φ) (c:=c) (M:=M) (m:=o.length) (od:=od) (i:=((r+1:Nat):Int) - 1) JQ hg nd hq (turns (Gb B) nd).length 0 (full (Gb B) nd) (by omega) (by grind [aDI]);refine BZ (JO JQ _) 300 400 [⟨66,tdD,LD B o.length od M c (((r+1:Nat):Int) - 1) (nd.placed:Nat) B.k0 nd.st (full (Gb B) nd) (turns (Gb B) nd).length (nth ((turns (Gb B) nd).map (NR B.k0))) ((0:Nat):Int),Zu B⟩,⟨67,tdE,LE B M c 0 B.k0 B.g0 0 (nth []),frE B⟩] ?_;refine ae6 Ak W7 B hs lv M _ od c _ _ _ _ _ _ _ (nth []) rfl rfl rfl (fun _=>by grind [AX]) (fun _=>by rfl) (fun _=>by rw[hod];exact ai3 hg hq rfl) (fun q=>lt q) (fun _=>?_) (fun q=>lt q) (fun q=>lt q) (fun q=>lt q);exact ⟨⟨rfl,rfl,rfl,rfl,by rw[hod];exact al6 hN nd,by rw[hod];show aG 4 (WS B.lv B.N (Am B.T) (Am B.ms) (nd.placed:Nat) B.k0 nd.st) (Am (tuR B.lv B.N (Am B.T) (Am B.ms) (nd.placed:Nat) B.k0 nd.st))=_;rw[Zw,ai4],by rw[hod];show ((WS B.lv B.N (Am B.T) (Am B.ms) (nd.placed:Nat) B.k0 nd.st:Nat):Int)=_;rw[Zw];rfl,rfl,rfl,rfl,fun _ _=>rfl,rfl,rfl,by rw[hod];rfl,by rw[hod];rfl,rfl,rfl,rfl,ϖ⟩,_,rfl,hD⟩
def ai5:Sh:=.Az [.agg [.b aA,.sl 2 0 (fun _=>[]),.i .i64 0],.er 0 322]
theorem getM{o:List (Nd SG)}{k:Int×List UInt8}{k0:Nat}{v:Value}{nd:Nd SG}{M:Int×List UInt8->Option Value}(hM:∀k,Ak.isS (M k)=Jw (DV k0) o k):
  ∀k,Ak.isS (Pv (DV k0 nd) (aj v) M k)=Jw (DV k0) (o++[nd]) k:=fun k=>by
 unfold Pv;by_cases h:k=DV k0 nd
 ·rw[if_pos h]
  have:Jw (DV k0) (o++[nd]) k=ay:=NP.2 ⟨nd,by simp,h.symm⟩;rw[this];rfl
 ·rw[if_neg h,hM k]
  unfold Jw;grind
theorem avH{k0:Nat}{o:List (Nd SG)}{i at_ q:Nat}{qr:Nat->VN}{nd:Nd SG}(h:QOK k0 o i at_ q qr):QOK k0 (o++[nd]) i at_ (q+1) (fun j=>if j<q then qr j else ndQ k0 nd):=by
 obtain ⟨h1,h2,h3⟩:=h;refine ⟨by grind,by grind,fun j x hx=>?_⟩;grind
theorem avI(JQ:AO ak (AZ W7) 56 (D40 hs lv B))(hg:Rh B Q)(nd:Nd SG)(hq:Q nd){m:Nat}(hm:m<=65536){i:Nat}
  {P:List (Nd SG)->Prop} (hA:∀(o':List (Nd SG)) (M:Int×List UInt8->Option Value) (at_ q:Nat) (qr:Nat->VN),P o'->QOK B.k0 o' i at_ q qr->q<=100000+o'.length->o'.length<=m->(∀k,Ak.isS (M k)=Jw (DV B.k0) o' k)->
   AB ak (C7 Ak W7 (Gl hs lv B) Aw) (K0 H0 w0) 41 tdA (LA B (m:Nat) M o'.length (nth (o'.map (Ri B.k0))) (at_:Nat) q qr o'.length (nth (o'.map (KC B.k0)))) [] emp (up φ)) :
  ∀r j (o:List (Nd SG)) (M:Int×List UInt8->Option Value) (at_ q:Nat) (qr:Nat->VN),j+r=(turns (Gb B) nd).length->QOK B.k0 o i at_ q qr->q<=100000+o.length->o.length<=m->(∀k,Ak.isS (M k)=Jw (DV B.k0) o k)->
   (∀o',EJ (DV B.k0) m o (((turns (Gb B) nd).drop j).map (·.2))=aj o'->P o')->(EJ (DV B.k0) m o (((turns (Gb B) nd).drop j).map (·.2))=aF->φ ai5)->
   AB ak (C7 Ak W7 (Gl hs lv B) Aw) (K0 H0 w0) 41 tdB (LB B (m:Nat) M o.length (nth (o.map (Ri B.k0))) (at_:Nat) q qr o.length (nth (o.map (KC B.k0))) (turns (Gb B) nd).length (nth ((turns (Gb B) nd).map (NR B.k0))) (j:Nat)) [] emp (up φ)
 |0,j,o,M,at_,q,qr,hj,hQ,hq2,hlo,hM,hP,_=>by
  have hP:=hP o (by rw[pR (by omega)];rfl);have nx:=hA o M at_ q qr hP hQ hq2 hlo hM;refine D6 um tbB ?_;have lt {P:Prop} (h:Ak.lt (j:Int) (ah (turns (Gb B) nd).length)=ay):P:=by simp_all [Ar]
  refine BZ (JO JQ _) 300 400 [⟨41,tdB,LB B (m:Nat) M 0 (nth []) (at_:Nat) 0 (fun _=>default) 0 (nth []) (turns (Gb B) nd).length (nth ((turns (Gb B) nd).map (NR B.k0))) 0,[]⟩,⟨41,tdA,LA B (m:Nat) M o.length (nth (o.map (Ri B.k0))) (at_:Nat) q qr o.length (nth (o.map (KC B.k0))),[]⟩] ?_;exact Ud Ak W7 B hs lv _ M M _ 0 _ (nth []) _ q 0 qr _ _ 0 _ (nth []) _ _ j 0 rfl rfl rfl (fun q=>lt q) (fun q=>lt q) (fun q=>lt q) (fun q=>lt q) (fun q=>lt q) (fun q=>lt q) (fun q=>lt q) (fun q=>lt q)
   (fun _=>⟨⟨rfl,rfl,rfl,rfl,rfl,rfl,rfl,rfl,rfl,fun _ _=>rfl,rfl,fun _ _=>rfl,rfl,fun _ _=>rfl,ϖ⟩,_,rfl,nx⟩)
 |r+1,j,o,M,at_,q,qr,hj,hQ,hq2,hlo,hM,hP,apW=>by
  have hjl:j<(turns (Gb B) nd).length:=by omega
  have hN:(turns (Gb B) nd).length<=124:=aaT (hg.tu nd hq).le nd;obtain ⟨t,ht⟩:∃t,(turns (Gb B) nd)[j]?=aj t:=⟨_,aV hjl⟩;have hqt:Q t.2:=hg.step nd hq _ (eP.2 ⟨t,bK ht,rfl⟩);have hd:(turns (Gb B) nd).drop j=t::(turns (Gb B) nd).drop (j+1):=by
   grind [iT,aV,bP]
  rw[hd,iQ] at hP apW;have ih:=fun o' M' q' Zv (h1:GV (DV B.k0) m o t.2=aj o')=>avI JQ hg nd hq hm hA r (j+1) o' M' at_ q' Zv (by omega);refine D6 um tbB ?_;have htr:nth ((turns (Gb B) nd).map (NR B.k0)) (Ak.toN (j:Int))=NR B.k0 t:=Zx _ _ ht;obtain ⟨tr,etr⟩:∃tr,nth ((turns (Gb B) nd).map (NR B.k0))=tr:=⟨_,rfl⟩;rw[etr] at htr ih ⊢;have w1:Ak.add .i64 (j:Int) (ah 1)=((j+1:Nat):Int):=add1 (by omega);have no {P:Prop} (h:Ak.lt (j:Int) (ah (turns (Gb B) nd).length)=aA):P:=by simp_all [Ar]
  have inb:Ak.inB (j:Int) (turns (Gb B) nd).length=ay:=by simp[AX];omega
  have hke:keB 4 (tr (Ak.toN (j:Int))).n (tr (Ak.toN (j:Int))).g=ay:=by rw[htr];exact hg.ke _ hqt
  have hMt:M ((tr (Ak.toN (j:Int))).placed,OJ (tr (Ak.toN (j:Int))).n (tr (Ak.toN (j:Int))).g)=M (DV B.k0 t.2):=by rw[htr];rfl
  have rmo:Ak.room (Ak.addN o.length 1) 32=ay:=by rw[Em,ϟ,Dl];unfold maxLen;omega
  have rmc:Ak.room (Ak.addN o.length 1) 24=ay:=by grind [Em]
  have rmq:Ak.room (Ak.addN q 1) 32=ay:=by rw[Em,ϟ,Dl];unfold maxLen;omega
  cases hb:Jw (DV B.k0) o (DV B.k0 t.2) with
  |true=>
   have hpb:GV (DV B.k0) m o t.2=aj o:=if_pos hb;have nx:=ih o M q qr hpb hQ hq2 hlo hM (fun o' h=>hP o' (by simp_all [EJ])) (fun h=>apW (by simp_all [EJ]));refine BZ (JO JQ _) 300 400 [⟨41,tdB,LB B (m:Nat) M o.length (nth (o.map (Ri B.k0))) (at_:Nat) q qr o.length (nth (o.map (KC B.k0))) (turns (Gb B) nd).length tr ((j+1:Nat):Int),[]⟩,⟨41,tdA,LA B (m:Nat) M o.length (nth (o.map (Ri B.k0))) (at_:Nat) q qr o.length (nth (o.map (KC B.k0))),[]⟩] ?_;exact Ud Ak W7 B hs lv _ M M _ _ _ (nth (o.map (Ri B.k0))) _ q q qr qr _ _ _ (nth (o.map (KC B.k0))) _ tr j ((j+1:Nat):Int) (c1:=ay) rfl (by grind) rfl (fun _=>inb) (fun _=>hke) (fun _ q=>by cases q) (fun _ q=>by cases q) (fun _ q=>by cases q)
    (fun _ _=>⟨⟨rfl,rfl,rfl,rfl,rfl,rfl,w1,rfl,rfl,rfl,rfl,rfl,fun _ _=>rfl,rfl,fun _ _=>rfl,rfl,fun _ _=>rfl,ϖ⟩,_,rfl,nx⟩) (fun _ q=>by cases q) (fun _ q=>by cases q) (fun q=>no q)
  |false=>
   have hc:Ak.eq (Ak.AV o.length) ((m:Nat):Int)=decide (o.length=m):=by
    grind [AQ,AL,ϱ,decide_eq_false,beq_eq_false_iff_ne,jf]
   by_cases hml:o.length=m
   ·refine BZ (JO JQ _) 300 400 [⟨41,tdB,LB B (m:Nat) M o.length (nth (o.map (Ri B.k0))) (at_:Nat) q qr o.length (nth (o.map (KC B.k0))) (turns (Gb B) nd).length tr ((j+1:Nat):Int),[]⟩,⟨41,tdA,LA B (m:Nat) M o.length (nth (o.map (Ri B.k0))) (at_:Nat) q qr o.length (nth (o.map (KC B.k0))),[]⟩] ?_
    exact Ud Ak W7 B hs lv _ M M _ _ _ (nth (o.map (Ri B.k0))) _ q q qr qr _ _ _ (nth (o.map (KC B.k0))) _ tr j ((j+1:Nat):Int) (c1:=aA) (c2:=ay) rfl (by simp_all) (by simp_all) (fun _=>inb) (fun _=>hke) (fun _ _ q=>by cases q) (fun _ _ q=>by cases q) (fun _ _ q=>by cases q)
     (fun _ q=>by cases q) (fun _ _ _=>AY (s':=ai5) ⟨⟨.inl rfl,.inl ⟨rfl,rfl⟩,rfl,ϖ⟩,rfl,ϖ⟩ (apW (by simp_all [EJ,GV]))) (fun _ _ q=>by cases q) (fun q=>no q)
   ·have hpb:GV (DV B.k0) m o t.2=aj (o++[t.2]):=by
     grind [GV]
    have nx:=ih (o++[t.2]) (Pv (DV B.k0 t.2) (aj (.int .i64 (Ak.AV o.length))) M) (q+1) (fun j=>if j<q then qr j else ndQ B.k0 t.2) hpb (avH hQ) (by grind) (by grind) (getM (k:=DV B.k0 t.2) hM) (fun o' h=>hP o' (by simp_all [EJ])) (fun h=>apW (by simp_all [EJ]));refine BZ (JO JQ _) 300 400 [⟨41,tdB,LB B (m:Nat) (Pv (DV B.k0 t.2) (aj (.int .i64 (Ak.AV o.length))) M) (o++[t.2]).length (nth ((o++[t.2]).map (Ri B.k0))) (at_:Nat) (q+1) (fun j=>if j<q then qr j else ndQ B.k0 t.2) (o++[t.2]).length (nth ((o++[t.2]).map (KC B.k0))) (turns (Gb B) nd).length tr ((j+1:Nat):Int),[]⟩,⟨41,tdA,LA B (m:Nat) M o.length (nth (o.map (Ri B.k0))) (at_:Nat) q qr o.length (nth (o.map (KC B.k0))),[]⟩] ?_;refine Ud Ak W7 B hs lv _ M _ _ _ _ _ _ q _ qr _ _ _ (nth (o.map (KC B.k0))) _ _ tr j ((j+1:Nat):Int) (c1:=aA) (c2:=aA) rfl (by grind) (by grind) (fun _=>inb) (fun _=>hke) (fun _ _ _=>rmc) (fun _ _ _=>rmq) (fun _ _ _=>rmo)
     (fun _ q=>by cases q) (fun _ _ q=>by cases q) (fun _ _ _=>?_) (fun q=>no q)
    have azt:(o++[t.2]).length=Ak.addN o.length 1:=by rw[cO];rfl
    refine ⟨⟨rfl,rfl,rfl,rfl,rfl,rfl,w1,rfl,?_,rfl,rfl,azt.symm,fun i hi=>?_,rfl,fun i hi=>?_,azt.symm,fun i hi=>?_,ϖ⟩,_,rfl,nx⟩
    ·show Pv ((tr (Ak.toN (j:Int))).placed,OJ (tr (Ak.toN (j:Int))).n (tr (Ak.toN (j:Int))).g) _ M=_
     rw[htr];rfl
    ·have:=Ib (o.map (Ri B.k0)) (Ri B.k0 t.2) [aQ .i64 (tr (Ak.toN (j:Int))).placed,dN (OJ (tr (Ak.toN (j:Int))).n (tr (Ak.toN (j:Int))).g)] (by rw[htr];rfl) i (by grind)
     grind
    ·rw[Dn]
     show _=Row.put (if i<q then qr i else ndQ B.k0 t.2);split
     ·rfl
     ·have:i - q=0:=by have:i<q+1:=hi;omega
      rw[this,htr];rfl
    ·have:=Ib (o.map (KC B.k0)) (KC B.k0 t.2) [aQ .i64 (tr (Ak.toN (j:Int))).placed,aG 4 (tr (Ak.toN (j:Int))).n (tr (Ak.toN (j:Int))).g] (by rw[htr];rfl) i (by grind)
     grind
theorem loopA(JQ:AO ak (AZ W7) 56 (D40 hs lv B))(hg:Rh B Q){m:Nat}(hm:m<=65536)
  (hC:∀o:List (Nd SG),ER (Gb B) (DV B.k0) B.g0 m=aj o->AB ak (C7 Ak W7 (Gl hs lv B) Aw) (K0 H0 w0) 66 tdC (LC B o.length (nth (o.map (KC B.k0))) (fun _=>aF) (o.length:Nat) (Ak.sub .i64 (Ak.AV o.length) (ah 1))) (Zu B) emp (up φ)) :
  ∀f i (o:List (Nd SG)) (M:Int×List UInt8->Option Value) (at_ q:Nat) (qr:Nat->VN),m<i+f->(∀x∈o,Q x)->QOK B.k0 o i at_ q qr->q<=100000+o.length->o.length<=m->(∀k,Ak.isS (M k)=Jw (DV B.k0) o k)->
   (∀r,Na (DV B.k0) (next (Gb B)) m f o i=aj r->ER (Gb B) (DV B.k0) B.g0 m=aj r)->(Na (DV B.k0) (next (Gb B)) m f o i=aF->φ ai5)->
   AB ak (C7 Ak W7 (Gl hs lv B) Aw) (K0 H0 w0) 41 tdA (LA B (m:Nat) M o.length (nth (o.map (Ri B.k0))) (at_:Nat) q qr o.length (nth (o.map (KC B.k0)))) [] emp (up φ)
 |f,i,o,M,at_,q,qr,hf,ho,hQ,hq2,hlo,hM,hr,hr0=>by
  refine D6 um tbA ?_;have hil:=hQ.le;have hql:=hQ.len;by_cases hi:i=o.length
  ·
   have hb:Na (DV B.k0) (next (Gb B)) m f o i=aj o:=by
    cases f with
    |zero=>rfl |succ f=>
     grind [Na,List.getElem?_eq_none]
   have hp:=hr o hb;have nx:=hC o hp;have hat:Ak.eq (at_:Int) (Ak.AV q)=ay:=by
    simp_all [AQ,AL]
   refine BZ (JO JQ _) 300 400 [⟨41,tdB,LB B (m:Nat) M o.length (nth (o.map (Ri B.k0))) 0 0 (fun _=>default) o.length (nth (o.map (KC B.k0))) 0 (nth []) 0,[]⟩,⟨66,tdC,LC B o.length (nth (o.map (KC B.k0))) (fun _=>aF) (o.length:Nat) (Ak.sub .i64 (Ak.AV o.length) (ah 1)),Zu B⟩] ?_;exact XW Ak W7 B hs lv _ M _ (nth (o.map (Ri B.k0))) _ q qr _ (nth (o.map (KC B.k0))) 0 0 (fun _=>default) 0 (nth []) _ _ _ (c0:=ay) hat rfl rfl (fun q=>by cases q) (fun q=>by cases q) (fun q=>by cases q)
    (fun _=>⟨⟨rfl,rfl,rfl,rfl,rfl,rfl,fun _ _=>rfl,rfl,rfl,rfl,rfl,rfl,ϖ⟩,_,rfl,nx⟩) (fun q=>by cases q) (fun q=>by cases q) (fun q=>by cases q) (fun q=>by cases q)
  ·obtain ⟨nd,hnd⟩:∃nd,o[i]?=aj nd:=⟨_,aV (by omega)⟩
   have hq:Q nd:=ho nd (bK hnd);have hrow:=hQ.row 0 nd hnd;rw[Nat.add_zero] at hrow;have hqr:qr (Ak.toN (at_:Int))=ndQ B.k0 nd:=hrow;cases f with
   |zero=>omega |succ f=>
    rw[Na,hnd] at hr hr0;have hN:=(hg.tu nd hq).le;have inb:Ak.inB (at_:Int) q=ay:=by grind [AX]
    have ne:Ak.eq (at_:Int) (Ak.AV q)=aA:=by
     grind [AQ,AL,beq_eq_false_iff_ne,jf]
    have w1:Ak.add .i64 (at_:Int) (ah 1)=((at_+1:Nat):Int):=by
     show bD.wrap ((at_:Int)+1)=_;grind [CU]
    have htu:tuB B.lv B.N (Am B.T) B.N (Am B.ms) (qr (Ak.toN (at_:Int))).placed (qr (Ak.toN (at_:Int))).st (qr (Ak.toN (at_:Int))).n (qr (Ak.toN (at_:Int))).g=ay:=by
     rw[hqr];exact ai3 hg hq rfl
    have e1:aG 4 (WS B.lv B.N (Am B.T) (Am B.ms) (qr (Ak.toN (at_:Int))).placed (qr (Ak.toN (at_:Int))).n (qr (Ak.toN (at_:Int))).g) (Am (tuR B.lv B.N (Am B.T) (Am B.ms) (qr (Ak.toN (at_:Int))).placed (qr (Ak.toN (at_:Int))).n (qr (Ak.toN (at_:Int))).g))=aG 4 (turns (Gb B) nd).length (Am (nth ((turns (Gb B) nd).map (NR B.k0)))):=by
     rw[hqr];show aG 4 (WS B.lv B.N (Am B.T) (Am B.ms) (nd.placed:Nat) B.k0 nd.st) (Am (tuR B.lv B.N (Am B.T) (Am B.ms) (nd.placed:Nat) B.k0 nd.st))=_;rw[Zw,ai4]
    have e2:Ak.AV (WS B.lv B.N (Am B.T) (Am B.ms) (qr (Ak.toN (at_:Int))).placed (qr (Ak.toN (at_:Int))).n (qr (Ak.toN (at_:Int))).g)=ah (turns (Gb B) nd).length:=by
     rw[hqr];show Ak.AV (WS B.lv B.N (Am B.T) (Am B.ms) (nd.placed:Nat) B.k0 nd.st)=_;rw[Zw];rfl
    have hLB:=fun (at' q':Nat) (Zv:Nat->VN) (h:QOK B.k0 o (i+1) at' q' Zv) (h2:q'<=100000+o.length)=>
     avI (H0:=H0) (w0:=w0) (φ:=φ) JQ hg nd hq hm (i:=i+1) (P:=fun o'=>(∀x∈o',Q x)/\(∀r,Na (DV B.k0) (next (Gb B)) m f o' (i+1)=aj r->ER (Gb B) (DV B.k0) B.g0 m=aj r)/\(Na (DV B.k0) (next (Gb B)) m f o' (i+1)=aF->φ ai5))
      (fun o' M' aDM q'' aDN hP hQ' hq' aDO hM'=>loopA JQ hg hm hC f (i+1) o' M' aDM q'' aDN (by omega) hP.1 hQ' hq' aDO hM' hP.2.1 hP.2.2)
      (turns (Gb B) nd).length 0 o M at' q' Zv (by omega) h h2 hlo hM (fun o' h=>by
       rw[lu] at h;have h:EJ (DV B.k0) m o (next (Gb B) nd)=aj o':=h;(refine ⟨O4 h ho (hg.step nd hq),fun r hb=>hr r ?_,fun hb=>hr0 ?_⟩)<;>simp_all) (fun h=>hr0 (by
       simp_all [lu,next,Gb]))
    by_cases hlast:at_+1=q
    ·have hc1:Ak.eq (Ak.add .i64 (at_:Int) (ah 1)) (Ak.AV q)=ay:=by grind [AQ,AL]
     have nx:=hLB 0 0 (fun _=>default) ⟨by omega,by omega,fun j x hx=>by simp_all⟩ (by omega);refine BZ (JO JQ _) 300 400 [⟨41,tdB,LB B (m:Nat) M o.length (nth (o.map (Ri B.k0))) ((0:Nat):Int) 0 (fun _=>default) o.length (nth (o.map (KC B.k0))) (turns (Gb B) nd).length (nth ((turns (Gb B) nd).map (NR B.k0))) ((0:Nat):Int),[]⟩,⟨66,tdC,LC B o.length (nth (o.map (KC B.k0))) (fun _=>aF) (o.length:Nat) 0,Zu B⟩] ?_;exact XW Ak W7 B hs lv _ M _ (nth (o.map (Ri B.k0))) _ q qr _ (nth (o.map (KC B.k0))) _ 0 (fun _=>default) _ _ _ _ _ (c0:=aA) (c1:=ay) ne hc1 rfl (fun _=>inb) (fun _ _ _=>htu) (fun _ q=>by cases q)
      (fun q=>by cases q) (fun _ _ q=>by cases q) (fun _ _ _=>⟨⟨rfl,rfl,rfl,rfl,e1,e2,rfl,rfl,rfl,rfl,rfl,rfl,fun _ _=>rfl,rfl,rfl,fun _ _=>rfl,ϖ⟩,_,rfl,nx⟩) (fun _ q=>by cases q) (fun _ q=>by cases q)
    ·have hc1:Ak.eq (Ak.add .i64 (at_:Int) (ah 1)) (Ak.AV q)=aA:=by
      grind [AQ,AL,beq_eq_false_iff_ne,jf]
     have nx:=hLB (at_+1) q (fun j=>if j=at_ then ⟨0,0,0,fun _=>[]⟩ else qr j) ⟨by omega,by omega,fun j x hx=>by
      show (if at_+1+j=at_ then _ else qr (at_+1+j))=_;rw[if_neg (by omega)];have:=hQ.row (j+1) x (by grind);grind⟩ hq2
     refine BZ (JO JQ _) 300 400 [⟨41,tdB,LB B (m:Nat) M o.length (nth (o.map (Ri B.k0))) ((at_+1:Nat):Int) q (fun j=>if j=at_ then ⟨0,0,0,fun _=>[]⟩ else qr j) o.length (nth (o.map (KC B.k0))) (turns (Gb B) nd).length (nth ((turns (Gb B) nd).map (NR B.k0))) ((0:Nat):Int),[]⟩,⟨66,tdC,LC B o.length (nth (o.map (KC B.k0))) (fun _=>aF) (o.length:Nat) 0,Zu B⟩] ?_;refine XW Ak W7 B hs lv _ M _ (nth (o.map (Ri B.k0))) _ q qr _ (nth (o.map (KC B.k0))) _ q _ _ _ _ _ _ (c0:=aA) (c1:=aA) ne hc1 rfl (fun _=>inb) (fun _ q=>by cases q) (fun _ _ _=>htu)
      (fun q=>by cases q) (fun _ q=>by cases q) (fun _ q=>by cases q) (fun _ _ q=>by cases q) (fun _ _ _=>⟨⟨rfl,rfl,rfl,rfl,e1,e2,rfl,rfl,rfl,rfl,w1,rfl,fun _ _=>rfl,rfl,fun j hj=>?_,rfl,fun _ _=>rfl,ϖ⟩,_,rfl,nx⟩)
     show (if j=at_ then (Am qr j).take 0++[aQ .i64 (ah 0),aG 0 0 fun _=>[]]++(Am qr j).drop (0+2) else Am qr j)=Row.put (if j=at_ then (⟨0,0,0,fun _=>[]⟩:VN) else qr j);split
     ·rfl
     ·rfl
end
end Go.Proofs
namespace Go.Pl
open Go Go.Sx Go.Proofs
structure Qg where
 okb:Bool
 Zt:Bool
 pos:Int
 e:Nat
 n:Nat
 T:Nat->CJ
def NS(s h:Sh):Bool:=@decide (s=h) (aI _)
def Qh(st lv:Int):Bool:=if lv=1\/lv=2 then st==3||st==2 else lv==3
def P7(en bg:Int):Bool:=decide (0<=en)&&decide (en<bg)
def Ic(lv:Int)(n:Nat)(T:Nat->CJ):List CJ:=((aU n).map T).filter fun t=>Qh t.st lv
def QF(lv bg:Int):Nat->List CJ->Nat->Nat
 |_,[],m=>m |i,a::l,m=>QF lv bg (i+1) l (if lv≠1/\P7 a.en bg=ay then m|||1<<<i else m)
def Jf(lv:Int)(l:List CJ)(k:Nat):Int:=(QF lv (nth l k).bg 0 l 0:Nat)
def mkP(lv:Int)(n:Nat)(T:ϝ):Bool:=okB CJ n T&&(decide (1<=lv)&&(decide (lv<=3)&&decide (n<=62)))
def mkN(lv:Int)(n:Nat)(T:ϝ):Nat:=(Ic lv n (Ap T)).length
def mkR(lv:Int)(n:Nat)(T:ϝ):Nat->Int:=Jf lv (Ic lv n (Ap T))
def nwB(n:Nat)(g:ϝ):Bool:=okB Oj n g&&(TD n (Ap g)&&(!Vm n&&PO n (Ap g)))
def I4(g:ϝ):ϝ:=Df (newT (Ap g))
end Go.Pl
namespace Go.Proofs
open Go Go.Sx Go.Pl
def D20(hs:Sh)(B:Qg):ϵ
 |[s]=>.need (NS s hs) (.node B.okb (.leaf (.Az [.sl 7 B.n (Am B.T),.v .nilIface]))
   (.node B.Zt (.leaf (.Az [.sl 0 0 (fun _=>[]),.DK 184 (.pt [.i .i64 B.pos,.er B.e 322])])) (.leaf (.Az [.sl 0 0 (fun _=>[]),.er B.e 322]))))
 |_=>.fail
def D73:ϵ
 |[.agg l,t]=>match Row.get (α:=CJ) l,Bd t with
  |some x,aj lv=>.leaf (.b (Qh x.st lv)) |_,_=>.fail
 |_=>.fail
def D94:ϵ
 |[.agg l,.agg r]=>match Row.get (α:=CJ) l,Row.get (α:=CJ) r with
  |some x,aj y=>.leaf (.b (P7 x.en y.bg)) |_,_=>.fail
 |_=>.fail
def D74:ϵ
 |[s,t]=>match Dj 7 s,Bd t with
  |some (n,T),aj lv=>.need (mkP lv n T) (.leaf (.Az [.sl 1 (mkN lv n T) (Am (mkR lv n T)),.v .nilIface])) |_,_=>.fail
 |_=>.fail
def D75:ϵ
 |[s]=>match Dj 2 s with
  |some (n,g)=>.need (nwB n g) (.leaf (.Az [.agg [.sl 4 n (I4 g)],.v .nilIface])) |none=>.fail
 |_=>.fail
def Ue(hs:Sh)(B:Qg):ϕ
 |40=>aj (D20 hs B) |78=>aj D73 |79=>aj D74 |80=>aj D75 |_=>aF
def Gn:ϕ
 |78=>aj D73 |101=>aj D94 |_=>aF
def abT:List It:=[aK [0,1,0,1,1,1,1,1],aX 0,aK [1,1,1,1,1,1]]
def avJ:List It:=aK [0,0,1,0,1,1,1,1,1]::abT
def abU(o m:Nat)(og mg:ϝ)(lv:Int)(n:Nat)(T:Nat->CJ)(c:Nat)(cr:Nat->CJ)(i:Int):Core:=
 {tm:=DF 71 [(1,.sym .i64 lv),(2,.ptr 0 0),(6,.sh (.sl 7 n (Am T))),(8,.ptr 1 0),(26,.sh (.sl 7 n (Am T))),(27,.sym .i64 (n:Int)),(28,.sym .i64 i)],hp:=[(0,.box [.sh (.sl 2 o og),.sh (.sl 8 m mg)] 25),(1,.box [.sym .i64 lv,.gs 2,.Bg,.Bg] 162),(2,.own 87 7 c (Am cr))],nx:=3,lim:=L0,tc:=[]}
def abV:List It:=[aK [0,1,0,1,1,1],aX 0,aK [1,1,1,1]]
def avK:List It:=aK [0,0,1,0,1,1,1]::abV
def abW(lv:Int)(n:Nat)(T:Nat->CJ)(c:Nat)(cr:Nat->CJ)(i:Int):Core:=
 {tm:=DF 74 [(1,.sym .i64 lv),(6,.gs 0),(21,.sh (.sl 7 n (Am T))),(22,.sym .i64 (n:Int)),(23,.sym .i64 i)],hp:=[(0,.own 87 7 c (Am cr))],nx:=1,lim:=L0,tc:=[]}
def Om:List It:=[aK [0,1,0,1,1,1,1,1,1],aX 2,aK [1,1,1,1,1,1,1]]
def aok:List It:=aK [0,0,1,0,1,1,1,1,1,1]::Om
def Uy(lv:Int)(c:Nat)(cr:Nat->CJ)(n:Nat)(o:Nat->Int)(k:Int):Core:=
 {tm:=DF 74 [(1,.sym .i64 lv),(6,.gs 0),(9,.gs 1),(42,.gs 0),(43,.sym .i64 (c:Int)),(44,.sym .i64 k)],hp:=[(0,.own 87 7 c (Am cr)),(1,.own 3 1 n (Am o))],nx:=2,lim:=L0,tc:=[]}
def Rj:List It:=[aK [0,1,1,0,0,1,1,0,0,1,0,1,1,1,1,1,1],aX 4,aX 3,aK [1,1,1,0,0,1,0,1,1,1,1,1,1],aK [0,1,0,1,1,1,1,1,1],aX 2,aK [1,1,1,1,1,1,1]]
def aol:List It:=aK [0,0,1,1,0,0,1,1,0,0,1,0,1,1,1,1,1,1]::Rj
def Xf(lv:Int)(c:Nat)(cr:Nat->CJ)(n:Nat)(o:Nat->Int)(k:Int)(b:CJ)(i:Int):Core:=
 {tm:=DF 74 [(1,.sym .i64 lv),(6,.gs 0),(9,.gs 1),(10,.sym .i64 k),(11,.ptr 2 0),(42,.gs 0),(43,.sym .i64 (c:Int)),(44,.sym .i64 k),(49,.gs 0),(50,.sym .i64 (c:Int)),(51,.sym .i64 i)],hp:=[(0,.own 87 7 c (Am cr)),(1,.own 3 1 n (Am o)),(2,.box [.sym .i64 b.id,.sym .i64 b.th,.sym .i64 b.st,.sym .i64 b.bg,.sym .i64 b.en,.sym .i64 b.tr,.sh (.sl 8 b.k b.g)] 87)],nx:=3,lim:=L0,tc:=[]}
theorem aom(A:Prim)(W:Wd)(B:Qg)(lv:Int)(o m:Nat)(og mg:ϝ)(cr:Nat->CJ)(i':Int){ψ:C9->Prop}{c0 c1 c2:Bool}(e0:B.okb=c0)(e1:A.lt (ah 12) (A.AV B.n)=c1)(e2:B.Zt=c2)(h1:(NS (bG [aG 2 o og,aG 8 m mg]) (bG [aG 2 o og,aG 8 m mg]))=ay)(y1:c0=ay->c1=ay->ψ (aN (bF [ni (gB aF),dP 2 322])))(y2:c0=ay->c1=aA->ψ (bU 0 [aC lv lv,aW (aG 7 B.n (Am B.T)) (aG 7 B.n (Am B.T)),aW (aG 7 B.n (Am B.T)) (aG 7 B.n (Am B.T)),aC (A.AV B.n) (ah B.n),aC (ah 0) i',aW (aG 2 o og) (aG 2 o og),aW (aG 8 m mg) (aG 8 m mg),aC lv lv,aZ 0 0]))(y3:c0=aA->c2=ay->ψ (aN (bF [ni (gB aF),Sh.DK 184 (pJ [aQ .i64 B.pos,dP B.e 322])])))(y4:c0=aA->c2=aA->ψ (aN (bF [ni (gB aF),dP B.e 322]))):CB ψ (BD (C7 A W (Ue (.agg [.sl 2 o og,.sl 8 m mg]) B) Aw) Dy 300 400 56 [.code []] (BH 71 [.agg [.sl 2 o og,.sl 8 m mg],.i .i64 lv] L0) [] [⟨56,abT,abU o m og mg lv B.n B.T 0 cr i',[]⟩]):=by
 subst e0 e1 e2;exact JH (an h1 (an (fun q0=>an (y1 q0) (y2 q0)) (fun q0=>an (y3 q0) (y4 q0))))
theorem XY(A:Prim)(W:Wd)(hs:Sh)(B:Qg)(lv:Int)(o m:Nat)(og mg:ϝ)(n:Nat)(T:Nat->CJ)(c c':Nat)(cr WT:Nat->CJ)(i i':Int){ψ:C9->Prop}{c0 c1:Bool}(e0:A.lt i (ah n)=c0)(e1:Qh (T (A.toN i)).st lv=c1)(h1:c0=ay->(A.inB i n)=ay)(h2:c0=ay->c1=ay->(A.room (A.addN c 1) 72)=ay)(h3:c0=aA->(mkP lv n (Am T))=ay)(h4:c0=aA->(nwB o og)=ay)(y1:c0=ay->c1=ay->ψ (bU 0 [aC lv lv,aW (aG 7 n (Am T)) (aG 7 n (Am T)),aW (aG 7 n (Am T)) (aG 7 n (Am T)),aC (ah n) (ah n),aC (A.add .i64 i (ah 1)) i',aW (aG 2 o og) (aG 2 o og),aW (aG 8 m mg) (aG 8 m mg),aC lv lv,aZ (A.addN c 1) c',bY (A.addN c 1) (A.snoc (Am cr) c (Bh [[aQ .i64 (T (A.toN i)).id,aQ .i64 (T (A.toN i)).th,aQ .i64 (T (A.toN i)).st,aQ .i64 (T (A.toN i)).bg,aQ .i64 (T (A.toN i)).en,aQ .i64 (T (A.toN i)).tr,aG 8 (T (A.toN i)).k (T (A.toN i)).g]])) (Am WT)]))(y2:c0=ay->c1=aA->ψ (bU 0 [aC lv lv,aW (aG 7 n (Am T)) (aG 7 n (Am T)),aW (aG 7 n (Am T)) (aG 7 n (Am T)),aC (ah n) (ah n),aC (A.add .i64 i (ah 1)) i',aW (aG 2 o og) (aG 2 o og),aW (aG 8 m mg) (aG 8 m mg),aC lv lv,aZ c c',bY c (Am cr) (Am WT)]))(y3:c0=aA->ψ (aN (bF [pJ [aQ .i64 lv,aG 7 c (Am cr),aG 1 (mkN lv n (Am T)) (Am (mkR lv n (Am T))),aG 4 o (I4 og)],ni cZ]))):CB ψ (BD (C7 A W (Ue hs B) Aw) Dy 300 400 56 avJ (abU o m og mg lv n T c cr i) [] [⟨56,abT,abU o m og mg lv n T c' WT i',[]⟩]):=by
 subst e0 e1;exact Ld (an (fun q0=>an (h1 q0) (an (fun q1=>an (h2 q0 q1) (an (h2 q0 q1) (y1 q0 q1))) (y2 q0))) (fun q0=>an (h3 q0) (an (h4 q0) (y3 q0))))
theorem aon(A:Prim)(W:Wd)(lv:Int)(n:Nat)(T:Nat->CJ)(WT:Nat->CJ)(i':Int){ψ:C9->Prop}{c0 c1:Bool}(e0:A.lt lv (ah 1)=c0)(e1:A.lt (ah 3) lv=c1)(y1:c0=ay->ψ (aN (bF [aG 0 0 fun _=>[],dP 3 322])))(y2:c0=aA->c1=ay->ψ (aN (bF [aG 0 0 fun _=>[],dP 3 322])))(y3:c0=aA->c1=aA->ψ (bU 0 [aC lv lv,aW (aG 7 n (Am T)) (aG 7 n (Am T)),aC (A.AV n) (ah n),aC (ah 0) i',aZ 0 0])):CB ψ (BD (C7 A W Gn Aw) Dy 300 400 79 [.code []] (BH 74 [.sl 7 n (Am T),.i .i64 lv] L0) [] [⟨79,abV,abW lv n T 0 WT i',[]⟩]):=by
 subst e0 e1;exact JH (an y1 (fun q0=>an (y2 q0) (y3 q0)))
theorem XZ(A:Prim)(W:Wd)(lv:Int)(n:Nat)(T:Nat->CJ)(c c':Nat)(cr WT:Nat->CJ)(i i':Int)(m':Nat)(o':Nat->Int){ψ:C9->Prop}{c0 c1 c2:Bool}(e0:A.lt i (ah n)=c0)(e1:Qh (T (A.toN i)).st lv=c1)(e2:A.lt (ah 62) (A.AV c)=c2)(h1:c0=ay->(A.inB i n)=ay)(h2:c0=ay->c1=ay->(A.room (A.addN c 1) 72)=ay)(h3:c0=aA->c2=aA->(A.le (ah 0) (A.AV c))=ay)(h4:c0=aA->c2=aA->(A.room (A.toN (A.AV c)) 8)=ay)(y1:c0=ay->c1=ay->ψ (bU 0 [aC lv lv,aW (aG 7 n (Am T)) (aG 7 n (Am T)),aC (ah n) (ah n),aC (A.add .i64 i (ah 1)) i',aZ (A.addN c 1) c',bY (A.addN c 1) (A.snoc (Am cr) c (Bh [[aQ .i64 (T (A.toN i)).id,aQ .i64 (T (A.toN i)).th,aQ .i64 (T (A.toN i)).st,aQ .i64 (T (A.toN i)).bg,aQ .i64 (T (A.toN i)).en,aQ .i64 (T (A.toN i)).tr,aG 8 (T (A.toN i)).k (T (A.toN i)).g]])) (Am WT)]))(y2:c0=ay->c1=aA->ψ (bU 0 [aC lv lv,aW (aG 7 n (Am T)) (aG 7 n (Am T)),aC (ah n) (ah n),aC (A.add .i64 i (ah 1)) i',aZ c c',bY c (Am cr) (Am WT)]))(y3:c0=aA->c2=ay->ψ (aN (bF [aG 0 0 fun _=>[],dP 2 322])))(y4:c0=aA->c2=aA->ψ (bU 1 [aC lv lv,aC (A.AV c) (ah c),aC (ah 0) (ah 0),aZ c c,bY c (Am cr) (Am cr),aZ (A.toN (A.AV c)) m',bY (A.toN (A.AV c)) (fun (_x:Nat)=>[aQ .i64 (ah 0)]) (Am o')])):CB ψ (BD (C7 A W Gn Aw) Dy 300 400 79 avK (abW lv n T c cr i) [] [⟨79,abV,abW lv n T c' WT i',[]⟩,⟨79,Om,Uy lv c cr m' o' 0,[]⟩]):=by
 subst e0 e1 e2;exact JH (an (fun q0=>an (h1 q0) (an (fun q1=>an (h2 q0 q1) (y1 q0 q1)) (y2 q0))) (fun q0=>an (y3 q0) (fun q1=>an (h3 q0 q1) (an (h4 q0 q1) (y4 q0 q1)))))
theorem ae8(A:Prim)(W:Wd)(lv:Int)(c:Nat)(cr:Nat->CJ)(n:Nat)(o:Nat->Int)(k:Int)(b:CJ){ψ:C9->Prop}{c0:Bool}(e0:A.lt k (ah c)=c0)(h1:c0=ay->(A.inB k c)=ay)(y1:c0=ay->ψ (bU 0 [aC lv lv,aC k k,aC (ah c) (ah c),aC k k,aC (A.AV c) (ah c),aC (ah 0) (ah 0),aZ c c,bY c (Am cr) (Am cr),aZ n n,bY n (Am o) (Am o),aC (cr (A.toN k)).id b.id,aC (cr (A.toN k)).th b.th,aC (cr (A.toN k)).st b.st,aC (cr (A.toN k)).bg b.bg,aC (cr (A.toN k)).en b.en,aC (cr (A.toN k)).tr b.tr,aW (aG 8 (cr (A.toN k)).k (cr (A.toN k)).g) (aG 8 b.k b.g)]))(y2:c0=aA->ψ (aN (bF [Sh.os 3 1 n (Am o),ni cZ]))):CB ψ (BD (C7 A W Gn Aw) Dy 300 400 79 aok (Uy lv c cr n o k) [] [⟨79,Rj,Xf lv c cr n o k b 0,[]⟩]):=by
 subst e0;exact JH (an (fun q0=>an (h1 q0) (y1 q0)) y2)
theorem X0(A:Prim)(W:Wd)(lv:Int)(c:Nat)(cr:Nat->CJ)(n:Nat)(o o':Nat->Int)(k k':Int)(b:CJ)(i i':Int){ψ:C9->Prop}{c0 c1 c2:Bool}(e0:A.lt i (ah c)=c0)(e1:A.nt (A.eq lv (ah 1))=c1)(e2:P7 (cr (A.toN i)).en b.bg=c2)(h1:c0=ay->(A.inB i c)=ay)(h2:c0=ay->c1=ay->c2=ay->(A.inB k n)=ay)(h3:c0=ay->c1=ay->c2=ay->(A.le (ah 0) i)=ay)(y1:c0=ay->c1=ay->c2=ay->ψ (bU 0 [aC lv lv,aC k k,aC (ah c) (ah c),aC k k,aC (ah c) (ah c),aC (A.add .i64 i (ah 1)) i',aZ c c,bY c (Am cr) (Am cr),aZ n n,bY n (A.upd (Am o) (A.toN k) 0 [aQ .i64 (A.bin BinOp.or bD (o (A.toN k)) (A.bin zH bD (ah 1) i))]) (Am o'),aC b.id b.id,aC b.th b.th,aC b.st b.st,aC b.bg b.bg,aC b.en b.en,aC b.tr b.tr,aW (aG 8 b.k b.g) (aG 8 b.k b.g)]))(y2:c0=ay->c1=ay->c2=aA->ψ (bU 0 [aC lv lv,aC k k,aC (ah c) (ah c),aC k k,aC (ah c) (ah c),aC (A.add .i64 i (ah 1)) i',aZ c c,bY c (Am cr) (Am cr),aZ n n,bY n (Am o) (Am o'),aC b.id b.id,aC b.th b.th,aC b.st b.st,aC b.bg b.bg,aC b.en b.en,aC b.tr b.tr,aW (aG 8 b.k b.g) (aG 8 b.k b.g)]))(y3:c0=ay->c1=aA->ψ (bU 0 [aC lv lv,aC k k,aC (ah c) (ah c),aC k k,aC (ah c) (ah c),aC (A.add .i64 i (ah 1)) i',aZ c c,bY c (Am cr) (Am cr),aZ n n,bY n (Am o) (Am o'),aC b.id b.id,aC b.th b.th,aC b.st b.st,aC b.bg b.bg,aC b.en b.en,aC b.tr b.tr,aW (aG 8 b.k b.g) (aG 8 b.k b.g)]))(y4:c0=aA->ψ (bU 1 [aC lv lv,aC (ah c) (ah c),aC (A.add .i64 k (ah 1)) k',aZ c c,bY c (Am cr) (Am cr),aZ n n,bY n (Am o) (Am o)])):CB ψ (BD (C7 A W Gn Aw) Dy 300 400 79 aol (Xf lv c cr n o k b i) [] [⟨79,Rj,Xf lv c cr n o' k b i',[]⟩,⟨79,Om,Uy lv c cr n o k',[]⟩]):=by
 subst e0 e1 e2;exact JH (an (fun q0=>an (h1 q0) (an (fun q1=>an (fun q2=>an (h2 q0 q1 q2) (an (h3 q0 q1 q2) (an (h2 q0 q1 q2) (y1 q0 q1 q2)))) (y2 q0 q1)) (y3 q0))) y4)
theorem aoo(A:Prim)(W:Wd)(t:CJ)(lv:Int){ψ:C9->Prop}{c0 c1 c2:Bool}(e0:A.eq lv (ah 1)=c0)(e1:A.eq t.st (ah 3)=c1)(e2:A.eq lv (ah 2)=c2)(y1:c0=ay->c1=ay->ψ (aN (iL ay)))(y2:c0=ay->c1=aA->ψ (aN (iL (A.eq t.st (ah 2)))))(y3:c0=aA->c2=ay->c1=ay->ψ (aN (iL ay)))(y4:c0=aA->c2=ay->c1=aA->ψ (aN (iL (A.eq t.st (ah 2)))))(y5:c0=aA->c2=aA->ψ (aN (iL (A.eq lv (ah 3))))):CB ψ (BD (C7 A W noSpec Aw) Dy 300 400 78 [.code []] (BH 19 [.agg [.i .i64 t.id,.i .i64 t.th,.i .i64 t.st,.i .i64 t.bg,.i .i64 t.en,.i .i64 t.tr,.sl 8 t.k t.g],.i .i64 lv] L0) [] []):=by
 subst e0 e1 e2;exact JH (an (fun q0=>an (y1 q0) (y2 q0)) (fun q0=>an (fun q1=>an (y3 q0 q1) (y4 q0 q1)) (y5 q0)))
theorem aop(A:Prim)(W:Wd)(t u:CJ){ψ:C9->Prop}{c0:Bool}(e0:A.le (ah 0) t.en=c0)(y1:c0=ay->ψ (aN (iL (A.lt t.en u.bg))))(y2:c0=aA->ψ (aN (iL aA))):CB ψ (BD (C7 A W noSpec Aw) Dy 300 400 101 [.code []] (BH 15 [.agg [.i .i64 t.id,.i .i64 t.th,.i .i64 t.st,.i .i64 t.bg,.i .i64 t.en,.i .i64 t.tr,.sl 8 t.k t.g],.agg [.i .i64 u.id,.i .i64 u.th,.i .i64 u.st,.i .i64 u.bg,.i .i64 u.en,.i .i64 u.tr,.sl 8 u.k u.g]] L0) [] []):=by
 subst e0;exact JH (an y1 y2)
end Go.Proofs
