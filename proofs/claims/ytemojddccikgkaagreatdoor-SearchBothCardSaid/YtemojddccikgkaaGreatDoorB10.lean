/- Own work. -/
import Derived.Test.YtemojddccikgkaaGreatDoorB09
open Int (ofNat)
open And renaming intro->aW
open Array renaming replicate->bo,getElem?_eq_getElem->gA
open Bool renaming and_eq_true->ak,true->ah,false->ag,or_false->fh
open Go.IntKind renaming i64->az
open Go.oz renaming okB->d8,mP->aB,mO->aE,pX->fU,deR->it
open Go.oz.Au renaming feed->fS
open Go.oz.Rc renaming step->bD
open Go.Proofs.Tryz renaming prog->ai,f78->cL,f52->ku,f69->kv,f92->kw,f72->kx
open Go.Sx.oM renaming val->dL,int->ac,sh->aw,nat->am,get->ax,Gf->aF
open Go.Sx.pI renaming at_->aH,ret->ar
open Go.Sx.Fe3 renaming ret->jN,raw->l9
open Go.Sx.It renaming code->aA,inBlock->aM,reg->fT
open Go.Sx.Lay renaming blk->b6
open Go.Sx.SB renaming own->jM,fm->gb,box->dZ
open Go.Sx.SV renaming agg->dX,sh->bc,ptr->dY,uN->mh,sS->bQ,any->aG,bool->gL,int->ir,nS->d7,mp->iK
open Go.Sx.Sh renaming mX->aL,sl->aj,er->aX,qK->fj,pt->gz,i->av
open Go.Sx.Tree renaming need->al,node->aq,leaf->ap,must->aR
open Go.Value renaming pointer->bP
open Iff renaming rfl->l8
open Int renaming ofNat->ab,ofNat_eq_natCast->iJ
open List renaming getElem?_append_left->cj,flatMap_cons->jo,getElem?_eq_some_iff->aJ,ext_getElem?->fE,getElem?_eq_getElem->aC,getElem?_eq_none->dj,range->aD,mem_map->bK,findIdx?_cons->iV,findIdx?_eq_none_iff->gK,replicate->bf
open Nat renaming zero_add->cy,beq->bJ
open Option renaming some->ae,none->ao,bind_some->bB
open Option.some renaming inj->aS
namespace Go.oz
open Go Go.Sx
theorem Iz{α:Type}[Row α](l:List α)(a:α){r:List (List Sh)}(h:nM r 0=Row.put a):∀i,i<l.length+1->mM.snoc (mO (nth l)) l.length (nM r) i=mO (nth (l++[a])) i:=fun i hi=>by
 rw[rH];split
 ·simp_all [mO,nth,List.getD_eq_getElem?_getD]
 ·have:i=l.length:=by omega
  simp_all [Nat.sub_self,mO,nth]
end Go.oz
namespace Go.Sx
open Go.oz
def svE:Option Nat->SV
 |none=>.sS |some k=>.sh (.er k 288)
end Go.Sx
namespace Go.oz
open Go Go.Sx
def Rc.out(many:Nat)(e:Ev)(r:Rc):Option Nat×Nat×Rc:=
 match bD many e r with
 | .inl k=>(ae k,many,r) | .inr r'=>(ao,many+1,r')
theorem BL{α:Type}(f:α->α):∀l:List α,(uq f l).length=l.length
 |[]=>rfl |[_]=>rfl |_::y::l=>by simp[uq,BL f (y::l)]
theorem aaY{α:Type}[Row α]{l:List α}(h:l≠[]):nth l (l.length - 1)=l.getLast?.getD Row.Ad:=by
 grind [nth]
theorem Gw{α:Type}[Row α](f:α->α):∀(l:List α) (i:Nat),i<l.length->nth (uq f l) i=if i=l.length - 1 then f (nth l i) else nth l i
 |[],i,h=>by simp at h |[x],i,h=>by
  simp_all [uq,nth]
 |x::y::l,0,_=>by rfl |x::y::l,i+1,h=>by
  have ih:=Gw f (y::l) i (by simpa using h);simp_all [nth,uq]
end Go.oz
namespace Go.oH
open Go Go.Sx Go.oz
theorem avE:nD ai (DW W5) 81 anA:=O56.mono fun H nY args φ hr h=>by
 clear hr;unfold anA at h;split at h
 ·rename_i l
  split at h
  ·rename_i e he
   obtain ⟨h1,h2⟩:=h;unfold oQ at h1;simp only[ak] at h1;show (match Ve l with|some e=>_|none=>_:Tree Sh).All φ
   rw[he];refine ⟨h1.2,fun _=>?_,fun q=>?_⟩
   ·refine ⟨fun _=>h2,fun q=>?_⟩
    simp_all
   simp_all
  ·exact h.elim
 ·exact h.elim
theorem avF:∀g F,qw g=ae F->nD ai (DW W5) g F:=fun g F h=>by
 unfold qw at h;grind [avE,O57,O67]
theorem ahd(stop:Nat->List Nat->Bool):oD ai (C5 mM W5 qw stop):=C5.Hq avF fun g h=>by
 unfold qw at h;split at h;all_goals first|(cases h;done) |kernel_rfl
theorem FT{a:Int}{k:Nat}(h:mM.eq a (ab k)=ah):a=(k:Int):=by grind [nG]
theorem eqF{a:Int}{k:Nat}(h:mM.eq a (ab k)=ag):a≠(k:Int):=by grind [nG]
theorem eqS(a:Int):mM.eq a a=ah:=by simp[nG]
theorem wrapM{many:Nat}(hm:many<400):mM.add .i64 (many:Int) 1=((many+1:Nat):Int):=by
 grind [rP,pF]
def um(n m:Nat)(o:Nat->Oj)(gR:Nat->List Sh)(M1 M2:Int->Option Value)(e:Ev)(many:Nat)(r:Rc)(us:List (Int×Bool×SV)):KD:=
 toR n m o gR M1 M2 e many r.id r.th r.st r.bg r.en r.tr r.stand r.mV.length (mO (nth r.mV)) us
def wz(r:Rc):List (Nat×SB):=ZW r.id r.th r.st r.bg r.en r.tr r.stand r.mV.length (mO (nth r.mV))
section
variable{n m:Nat}{o:Nat->Oj}{many:Nat}{gR:Nat->List Sh}{M1 M2:Int->Option Value}
theorem anG(hm:many<400){e:Ev}(hk:e.kind=4)(hv:oQ e=ah)(r:Rc):
  uG (xE [um n m o gR M1 M2 e (Rc.out many e r).2.1 (Rc.out many e r).2.2 []] (fun sv k=>sv=svE (Rc.out many e r).1/\k=0)) ((run (C5 mM W5 qw oN) 700 ah 78 [.code []] (LA 4 e (hpA n m o many gR M1 M2 [(e.tx,ah,.ptr 4 0)] []++wz r))).bind (toEnd [um n m o gR M1 M2 e (Rc.out many e r).2.1 (Rc.out many e r).2.2 []])):=by
 obtain ⟨kind,tx,thread,obj,op,key,val,ret⟩:=e;obtain ⟨id,th,st,bg,en,tr,mV,stand⟩:=r;have hk:kind=4:=hk;subst hk;have hw:=wrapM hm;by_cases hs:stand=1
 ·have e1:Rc.out many ⟨4,tx,thread,obj,op,key,val,ret⟩ ⟨id,th,st,bg,en,tr,mV,stand⟩=(ao,many+1,⟨id,th,2,bg,en,many,mV,3⟩):=by
   subst hs;rfl
  rw[e1];unfold um wz;simp only;rw[anC mM W5 n m o many gR M1 M2 ⟨4,tx,thread,obj,op,key,val,ret⟩ id th st bg en tr stand mV.length (nth mV) (many+1:Nat) id th 2 bg en many 3 mV.length (mO (nth mV)),qj];repeat' (first
   |exact trivial
   |exact hv
   |exact hw
   |exact eqS _
   |exact rfl
   |exact fun _ _=>rfl
   |(intro q;replace q:=FT q;first|(exfalso;omega) |skip)
   |(intro q;replace q:=eqF q;first|(exfalso;omega) |skip)
   |refine aW ?_ ?_)
 ·have e1:Rc.out many ⟨4,tx,thread,obj,op,key,val,ret⟩ ⟨id,th,st,bg,en,tr,mV,stand⟩=(ae 13,many,⟨id,th,st,bg,en,tr,mV,stand⟩):=by
   have d1:(stand==1)=ag:=by rw[beq_eq_false_iff_ne];omega
   simp only[Rc.out,bD,d1];rfl
  rw[e1];unfold um wz;simp only;rw[anC mM W5 n m o many gR M1 M2 ⟨4,tx,thread,obj,op,key,val,ret⟩ id th st bg en tr stand mV.length (nth mV) (many:Nat) id th st bg en tr stand mV.length (mO (nth mV)),qj];repeat' (first
   |exact trivial
   |exact hv
   |exact hw
   |exact eqS _
   |exact rfl
   |exact fun _ _=>rfl
   |(intro q;replace q:=FT q;first|(exfalso;omega) |skip)
   |(intro q;replace q:=eqF q;first|(exfalso;omega) |skip)
   |refine aW ?_ ?_)
theorem anH(hm:many<400){e:Ev}(hk:e.kind=7)(hv:oQ e=ah)(r:Rc):
  uG (xE [um n m o gR M1 M2 e (Rc.out many e r).2.1 (Rc.out many e r).2.2 []] (fun sv k=>sv=svE (Rc.out many e r).1/\k=0)) ((run (C5 mM W5 qw oN) 700 ah 78 [.code []] (LA 7 e (hpA n m o many gR M1 M2 [(e.tx,ah,.ptr 4 0)] []++wz r))).bind (toEnd [um n m o gR M1 M2 e (Rc.out many e r).2.1 (Rc.out many e r).2.2 []])):=by
 obtain ⟨kind,tx,thread,obj,op,key,val,ret⟩:=e;obtain ⟨id,th,st,bg,en,tr,mV,stand⟩:=r;have hk:kind=7:=hk;subst hk;have hw:=wrapM hm;by_cases hs:stand=1
 ·have e1:Rc.out many ⟨7,tx,thread,obj,op,key,val,ret⟩ ⟨id,th,st,bg,en,tr,mV,stand⟩=(ao,many+1,⟨id,th,st,bg,en,tr,mV,4⟩):=by
   subst hs;rfl
  rw[e1];unfold um wz;simp only;rw[anF mM W5 n m o many gR M1 M2 ⟨7,tx,thread,obj,op,key,val,ret⟩ id th st bg en tr stand mV.length (nth mV) (many+1:Nat) id th st bg en tr 4 mV.length (mO (nth mV)),qj];repeat' (first
   |exact trivial
   |exact hv
   |exact hw
   |exact eqS _
   |exact rfl
   |exact fun _ _=>rfl
   |(intro q;replace q:=FT q;first|(exfalso;omega) |skip)
   |(intro q;replace q:=eqF q;first|(exfalso;omega) |skip)
   |refine aW ?_ ?_)
 ·have e1:Rc.out many ⟨7,tx,thread,obj,op,key,val,ret⟩ ⟨id,th,st,bg,en,tr,mV,stand⟩=(ae 13,many,⟨id,th,st,bg,en,tr,mV,stand⟩):=by
   have d1:(stand==1)=ag:=by rw[beq_eq_false_iff_ne];omega
   simp only[Rc.out,bD,d1];rfl
  rw[e1];unfold um wz;simp only;rw[anF mM W5 n m o many gR M1 M2 ⟨7,tx,thread,obj,op,key,val,ret⟩ id th st bg en tr stand mV.length (nth mV) (many:Nat) id th st bg en tr stand mV.length (mO (nth mV)),qj];repeat' (first
   |exact trivial
   |exact hv
   |exact hw
   |exact eqS _
   |exact rfl
   |exact fun _ _=>rfl
   |(intro q;replace q:=FT q;first|(exfalso;omega) |skip)
   |(intro q;replace q:=eqF q;first|(exfalso;omega) |skip)
   |refine aW ?_ ?_)
theorem anI(hm:many<400){e:Ev}(hk:e.kind=5)(hv:oQ e=ah)(r:Rc):
  uG (xE [um n m o gR M1 M2 e (Rc.out many e r).2.1 (Rc.out many e r).2.2 [],um n m o gR M1 M2 e (Rc.out many e r).2.1 (Rc.out many e r).2.2 [(r.th,ag,.any)]] (fun sv k=>sv=svE (Rc.out many e r).1/\k=(bif (Rc.out many e r).1.isNone then 1 else 0))) ((run (C5 mM W5 qw oN) 700 ah 78 [.code []] (LA 5 e (hpA n m o many gR M1 M2 [(e.tx,ah,.ptr 4 0)] []++wz r))).bind (toEnd [um n m o gR M1 M2 e (Rc.out many e r).2.1 (Rc.out many e r).2.2 [],um n m o gR M1 M2 e (Rc.out many e r).2.1 (Rc.out many e r).2.2 [(r.th,ag,.any)]])):=by
 obtain ⟨kind,tx,thread,obj,op,key,val,ret⟩:=e;obtain ⟨id,th,st,bg,en,tr,mV,stand⟩:=r;have hk:kind=5:=hk;subst hk;have hw:=wrapM hm;by_cases hs:stand=3
 ·have e1:Rc.out many ⟨5,tx,thread,obj,op,key,val,ret⟩ ⟨id,th,st,bg,en,tr,mV,stand⟩=(ao,many+1,⟨id,th,3,bg,many,tr,mV,5⟩):=by
   subst hs;rfl
  rw[e1];unfold um wz;simp only;rw[anD mM W5 n m o many gR M1 M2 ⟨5,tx,thread,obj,op,key,val,ret⟩ id th st bg en tr stand mV.length (nth mV) (many+1:Nat) id th 3 bg many tr 5 mV.length (mO (nth mV)),qj];repeat' (first
   |exact trivial
   |exact hv
   |exact hw
   |exact eqS _
   |exact rfl
   |exact fun _ _=>rfl
   |(intro q;replace q:=FT q;first|(exfalso;omega) |skip)
   |(intro q;replace q:=eqF q;first|(exfalso;omega) |skip)
   |refine aW ?_ ?_)
 ·have e1:Rc.out many ⟨5,tx,thread,obj,op,key,val,ret⟩ ⟨id,th,st,bg,en,tr,mV,stand⟩=(ae 13,many,⟨id,th,st,bg,en,tr,mV,stand⟩):=by
   have d3:(stand==3)=ag:=by rw[beq_eq_false_iff_ne];omega
   simp only[Rc.out,bD,d3,fh];rfl
  rw[e1];unfold um wz;simp only;rw[anD mM W5 n m o many gR M1 M2 ⟨5,tx,thread,obj,op,key,val,ret⟩ id th st bg en tr stand mV.length (nth mV) (many:Nat) id th st bg en tr stand mV.length (mO (nth mV)),qj];repeat' (first
   |exact trivial
   |exact hv
   |exact hw
   |exact eqS _
   |exact rfl
   |exact fun _ _=>rfl
   |(intro q;replace q:=FT q;first|(exfalso;omega) |skip)
   |(intro q;replace q:=eqF q;first|(exfalso;omega) |skip)
   |refine aW ?_ ?_)
theorem anJ(hm:many<400){e:Ev}(hk:e.kind=6)(hv:oQ e=ah)(r:Rc):
  uG (xE [um n m o gR M1 M2 e (Rc.out many e r).2.1 (Rc.out many e r).2.2 [],um n m o gR M1 M2 e (Rc.out many e r).2.1 (Rc.out many e r).2.2 [(r.th,ag,.any)]] (fun sv k=>sv=svE (Rc.out many e r).1/\k=(bif (Rc.out many e r).1.isNone then 1 else 0))) ((run (C5 mM W5 qw oN) 700 ah 78 [.code []] (LA 6 e (hpA n m o many gR M1 M2 [(e.tx,ah,.ptr 4 0)] []++wz r))).bind (toEnd [um n m o gR M1 M2 e (Rc.out many e r).2.1 (Rc.out many e r).2.2 [],um n m o gR M1 M2 e (Rc.out many e r).2.1 (Rc.out many e r).2.2 [(r.th,ag,.any)]])):=by
 obtain ⟨kind,tx,thread,obj,op,key,val,ret⟩:=e;obtain ⟨id,th,st,bg,en,tr,mV,stand⟩:=r;have hk:kind=6:=hk;subst hk;have hw:=wrapM hm;by_cases hs:stand=1\/stand=2\/stand=3\/stand=4
 ·have e1:Rc.out many ⟨6,tx,thread,obj,op,key,val,ret⟩ ⟨id,th,st,bg,en,tr,mV,stand⟩=(ao,many+1,⟨id,th,4,bg,many,tr,mV,5⟩):=by
   rcases hs with rfl|rfl|rfl|rfl<;>rfl
  rw[e1];unfold um wz;simp only;rw[anE mM W5 n m o many gR M1 M2 ⟨6,tx,thread,obj,op,key,val,ret⟩ id th st bg en tr stand mV.length (nth mV) (many+1:Nat) id th 4 bg many tr 5 mV.length (mO (nth mV)),qj];repeat' (first
   |exact trivial
   |exact hv
   |exact hw
   |exact eqS _
   |exact rfl
   |exact fun _ _=>rfl
   |(intro q;replace q:=FT q;first|(exfalso;omega) |skip)
   |(intro q;replace q:=eqF q;first|(exfalso;omega) |skip)
   |refine aW ?_ ?_)
 ·have e1:Rc.out many ⟨6,tx,thread,obj,op,key,val,ret⟩ ⟨id,th,st,bg,en,tr,mV,stand⟩=(ae 13,many,⟨id,th,st,bg,en,tr,mV,stand⟩):=by
   have d1:(stand==1)=ag:=by rw[beq_eq_false_iff_ne];omega
   have d2:(stand==2)=ag:=by rw[beq_eq_false_iff_ne];omega
   have d3:(stand==3)=ag:=by rw[beq_eq_false_iff_ne];omega
   have d4:(stand==4)=ag:=by rw[beq_eq_false_iff_ne];omega
   simp only[Rc.out,bD,d1,d2,d3,d4,fh];rfl
  rw[e1];unfold um wz;simp only;rw[anE mM W5 n m o many gR M1 M2 ⟨6,tx,thread,obj,op,key,val,ret⟩ id th st bg en tr stand mV.length (nth mV) (many:Nat) id th st bg en tr stand mV.length (mO (nth mV)),qj];repeat' (first
   |exact trivial
   |exact hv
   |exact hw
   |exact eqS _
   |exact rfl
   |exact fun _ _=>rfl
   |(intro q;replace q:=FT q;first|(exfalso;omega) |skip)
   |(intro q;replace q:=eqF q;first|(exfalso;omega) |skip)
   |refine aW ?_ ?_)
theorem anK(hm:many<400){e:Ev}(hk:e.kind=2)(hv:oQ e=ah)(r:Rc)(hl:r.mV.length<=1000)(h1:0<=e.obj)(h2:e.obj<n)(h3:Cj e.op=(o e.obj.toNat).kind):
  uG (xE [um n m o gR M1 M2 e (Rc.out many e r).2.1 (Rc.out many e r).2.2 []] (fun sv k=>sv=svE (Rc.out many e r).1/\k=0)) ((run (C5 mM W5 qw oN) 700 ah 78 [.code []] (LA 2 e (hpA n m o many gR M1 M2 [(e.tx,ah,.ptr 4 0)] []++wz r))).bind (toEnd [um n m o gR M1 M2 e (Rc.out many e r).2.1 (Rc.out many e r).2.2 []])):=by
 obtain ⟨kind,tx,thread,obj,op,key,val,ret⟩:=e;obtain ⟨id,th,st,bg,en,tr,mV,stand⟩:=r;have hk:kind=2:=hk;subst hk;have hw:=wrapM hm;have hl:mV.length<=1000:=hl;have h1:0<=obj:=h1;have h2:obj<n:=h2;have h3:Cj op=(o obj.toNat).kind:=h3;have ho:mM.le (mM.nK n) obj=ah->False:=fun q=>by grind [tN,ny]
 have hi:mM.inB obj n=ah:=by simp[nN];omega
 have hq:mM.nt (mM.eq (Cj op) (o (mM.toN obj)).kind)=ah->False:=fun q=>by
  simp_all [oL,nG,oZ]
 have hroom:mM.room (mM.addN mV.length 1) 64=ah:=by
  show decide ((mV.length+1)*64<=140737488355328/\mV.length+1<=maxLen)=ah;grind [maxLen_eq,decide_eq_true]
 have hsn:∀i,i<mV.length+1->mM.snoc (mO (nth mV)) mV.length (nM [[.i .i64 obj,.i .i64 op,.i .i64 key,.i .i64 val,.i .i64 0,.i .i64 0,.i .i64 many,.i .i64 (-1)]]) i=mO (nth (mV++[(⟨obj,op,key,val,0,0,many,-1⟩:De)])) i:=Iz (α:=De) _ _ rfl;have hlen:mV.length+1=(mV++[(⟨obj,op,key,val,0,0,many,-1⟩:De)]).length:=by simp
 by_cases hs:stand=1
 ·have e1:Rc.out many ⟨2,tx,thread,obj,op,key,val,ret⟩ ⟨id,th,st,bg,en,tr,mV,stand⟩=(ao,many+1,⟨id,th,st,bg,en,tr,mV++[⟨obj,op,key,val,0,0,many,-1⟩],2⟩):=by
   subst hs;rfl
  rw[e1];unfold um wz;simp only;rw[anB mM W5 n m o many gR M1 M2 ⟨2,tx,thread,obj,op,key,val,ret⟩ id th st bg en tr stand mV.length (nth mV) (many+1:Nat) id th st bg en tr 2 (mV++[(⟨obj,op,key,val,0,0,(many:Int),-1⟩:De)]).length (mO (nth (mV++[(⟨obj,op,key,val,0,0,(many:Int),-1⟩:De)]))),qj];repeat' (first
   |exact trivial
   |exact hv
   |exact hw
   |exact hi
   |exact hroom
   |exact hlen
   |exact hsn
   |(intro q;exact (ho q).elim)
   |(intro q;exact (hq q).elim)
   |exact eqS _
   |exact rfl
   |exact fun _ _=>rfl
   |(intro q;replace q:=FT q;omega)
   |(intro q;replace q:=eqF q;first|(exfalso;omega) |skip)
   |intro _
   |refine aW ?_ ?_)
 ·have e1:Rc.out many ⟨2,tx,thread,obj,op,key,val,ret⟩ ⟨id,th,st,bg,en,tr,mV,stand⟩=(ae 13,many,⟨id,th,st,bg,en,tr,mV,stand⟩):=by
   grind [beq_eq_false_iff_ne,Rc.out,bD]
  rw[e1];unfold um wz;simp only;rw[anB mM W5 n m o many gR M1 M2 ⟨2,tx,thread,obj,op,key,val,ret⟩ id th st bg en tr stand mV.length (nth mV) (many:Nat) id th st bg en tr stand mV.length (mO (nth mV)),qj];repeat' (first
   |exact trivial
   |exact hv
   |exact hw
   |exact hi
   |exact hroom
   |exact hlen
   |exact hsn
   |(intro q;exact (ho q).elim)
   |(intro q;exact (hq q).elim)
   |exact eqS _
   |exact rfl
   |exact fun _ _=>rfl
   |(intro q;replace q:=FT q;omega)
   |(intro q;replace q:=eqF q;first|(exfalso;omega) |skip)
   |intro _
   |refine aW ?_ ?_)
theorem anL(hm:many<400){e:Ev}(hk:e.kind=3)(hv:oQ e=ah)(r:Rc)(hl:r.mV.length<=1000)(hd:r.stand=2->r.mV≠[]):
  uG (xE [um n m o gR M1 M2 e (Rc.out many e r).2.1 (Rc.out many e r).2.2 []] (fun sv k=>sv=svE (Rc.out many e r).1/\k=0)) ((run (C5 mM W5 qw oN) 700 ah 78 [.code []] (LA 3 e (hpA n m o many gR M1 M2 [(e.tx,ah,.ptr 4 0)] []++wz r))).bind (toEnd [um n m o gR M1 M2 e (Rc.out many e r).2.1 (Rc.out many e r).2.2 []])):=by
 obtain ⟨kind,tx,thread,obj,op,key,val,ret⟩:=e;obtain ⟨id,th,st,bg,en,tr,mV,stand⟩:=r;have hk:kind=3:=hk;subst hk;have hw:=wrapM hm;have hl:mV.length<=1000:=hl;have hd:stand=2->mV≠[]:=hd;by_cases hs:stand=2
 ·have hd:=hd hs
  have hpos:0<mV.length:=List.length_pos_iff.2 hd;have hix:mM.toN (mM.sub .i64 (mM.nK mV.length) (ab 1))=mV.length - 1:=by
   grind [Di,ny,oZ,pF,iJ]
  have hi:mM.inB (mM.sub .i64 (mM.nK mV.length) (ab 1)) mV.length=ah:=by
   grind [Di,ny,pF,iJ,nN,decide_eq_true]
  have hlast:nth mV (mV.length - 1)=mV.getLast?.getD Row.Ad:=aaY hd;by_cases hf:wO (mV.getLast?.getD Row.Ad).op ret=ah
  ·have hq:mM.nt (wO (nth mV (mM.toN (mM.sub .i64 (mM.nK mV.length) (ab 1)))).op ret)=ah->False:=fun q=>by
    simp_all [oL]
   have hlen:mV.length=(uq (fun d:De=>{d with ret:=ret,got:=val,back:=(many:Int)}) mV).length:=(BL _ _).symm
   have hup:∀i,i<mV.length->mM.upd (mM.upd (mM.upd (mO (nth mV)) (mM.toN (mM.sub .i64 (mM.nK mV.length) (ab 1))) 4 [.i .i64 ret]) (mM.toN (mM.sub .i64 (mM.nK mV.length) (ab 1))) 5 [.i .i64 val]) (mM.toN (mM.sub .i64 (mM.nK mV.length) (ab 1))) 7 [.i .i64 many] i=mO (nth (uq (fun d:De=>{d with ret:=ret,got:=val,back:=(many:Int)}) mV)) i:=fun i hi=>by
    rw[hix];simp only[mO];rw[Gw _ _ _ hi];by_cases q:i=mV.length - 1
    ·rw[if_pos q]
     subst q;simp only[mM,if_true];rfl
    ·rw[if_neg q]
     simp only[mM,if_neg q];rfl
   have e1:Rc.out many ⟨3,tx,thread,obj,op,key,val,ret⟩ ⟨id,th,st,bg,en,tr,mV,stand⟩=(ao,many+1,⟨id,th,st,bg,en,tr,uq (fun d=>{d with ret:=ret,got:=val,back:=many}) mV,1⟩):=by
    simp_all [Rc.out,bD]
   rw[e1];unfold um wz;simp only;rw[ahc mM W5 n m o many gR M1 M2 ⟨3,tx,thread,obj,op,key,val,ret⟩ id th st bg en tr stand mV.length (nth mV) (many+1:Nat) id th st bg en tr 1 (uq (fun d:De=>{d with ret:=ret,got:=val,back:=(many:Int)}) mV).length (mO (nth (uq (fun d:De=>{d with ret:=ret,got:=val,back:=(many:Int)}) mV))),qj]
   repeat' (first
    |exact trivial
    |exact hv
    |exact hw
    |exact hi
    |exact hlen
    |exact hup
    |(intro q;exact (hq q).elim)
    |exact eqS _
    |exact rfl
    |exact fun _ _=>rfl
    |(intro q;replace q:=FT q;omega)
    |(intro q;replace q:=eqF q;first|(exfalso;omega) |skip)
    |intro _
    |refine aW ?_ ?_)
  ·have hf:wO (mV.getLast?.getD Row.Ad).op ret=ag:=by grind
   have hq:mM.nt (wO (nth mV (mM.toN (mM.sub .i64 (mM.nK mV.length) (ab 1)))).op ret)=ag->False:=fun q=>by
    simp_all [oL]
   have hlen:=hl;have hup:=hl;have e1:Rc.out many ⟨3,tx,thread,obj,op,key,val,ret⟩ ⟨id,th,st,bg,en,tr,mV,stand⟩=(ae 9,many,⟨id,th,st,bg,en,tr,mV,stand⟩):=by
    simp_all [Rc.out,bD]
   rw[e1];unfold um wz;simp only;rw[ahc mM W5 n m o many gR M1 M2 ⟨3,tx,thread,obj,op,key,val,ret⟩ id th st bg en tr stand mV.length (nth mV) (many:Nat) id th st bg en tr stand mV.length (mO (nth mV)),qj];repeat' (first
    |exact trivial
    |exact hv
    |exact hw
    |exact hi
    |exact hlen
    |exact hup
    |(intro q;exact (hq q).elim)
    |exact eqS _
    |exact rfl
    |exact fun _ _=>rfl
    |(intro q;replace q:=FT q;omega)
    |(intro q;replace q:=eqF q;first|(exfalso;omega) |skip)
    |intro _
    |refine aW ?_ ?_)
 ·have hi:=hl
  have hlen:=hl;have hup:=hl;have hq:=hl;have e1:Rc.out many ⟨3,tx,thread,obj,op,key,val,ret⟩ ⟨id,th,st,bg,en,tr,mV,stand⟩=(ae 13,many,⟨id,th,st,bg,en,tr,mV,stand⟩):=by
   grind [beq_eq_false_iff_ne,Rc.out,bD]
  rw[e1];unfold um wz;simp only;rw[ahc mM W5 n m o many gR M1 M2 ⟨3,tx,thread,obj,op,key,val,ret⟩ id th st bg en tr stand mV.length (nth mV) (many:Nat) id th st bg en tr stand mV.length (mO (nth mV)),qj];repeat' (first
   |exact trivial
   |exact hv
   |exact hw
   |exact eqS _
   |exact rfl
   |exact fun _ _=>rfl
   |(intro q;replace q:=FT q;omega)
   |(intro q;replace q:=eqF q;first|(exfalso;omega) |skip)
   |refine aW ?_ ?_)
end
end Go.oH
namespace Go.Sx
open Go.oz
theorem Gx(d:De):(Yk d).length=8:=rfl
theorem flat_length:∀l:List De,(l.flatMap Yk).length=l.length*8
 |[]=>rfl |d::l=>by simp[flat_length l,Gx,Nat.add_mul];omega
theorem Ym:∀(l:List De) (i j:Nat),j<8->(l.flatMap Yk)[i*8+j]?=(l[i]?).bind fun d=>(Yk d)[j]?
 |[],i,j,_=>by simp |d::l,0,j,hj=>by
  simp only[jo,Nat.zero_mul,cy,List.getElem?_cons_zero,bB];grind [cj,Gx]
 |d::l,i+1,j,hj=>by
  simp only[jo,List.getElem?_cons_succ];rw[List.getElem?_append_right (by rw[Gx];omega),Gx,show (i+1)*8+j - 8=i*8+j by omega];exact Ym l i j hj
theorem anM(d:De):∀u∈Yk d,u.oneCell'=ah:=fun u hu=>by
 simp[Yk] at hu;rcases hu with rfl|rfl|rfl|rfl|rfl|rfl|rfl|rfl<;>rfl
theorem anN{H:Mem}(d:De)(j:Nat)(s:Sh)(v:Value)(h1:(deR d)[j]?=ae s)(h2:(Yk d)[j]?=ae v):Rep H s v:=by
 match j,h1,h2 with
 |0,h1,h2=>cases h1;cases h2;exact .i _ _ |1,h1,h2=>cases h1;cases h2;exact .i _ _ |2,h1,h2=>cases h1;cases h2;exact .i _ _ |3,h1,h2=>cases h1;cases h2;exact .i _ _ |4,h1,h2=>cases h1;cases h2;exact .i _ _ |5,h1,h2=>cases h1;cases h2;exact .i _ _ |6,h1,h2=>cases h1;cases h2;exact .i _ _ |7,h1,h2=>cases h1;cases h2;exact .i _ _ |j+8,h1,h2=>simp[deR] at h1
theorem aaZ{α:Type}[Row α]{l:List α}{i:Nat}(h:i<l.length):l[i]?=ae (nth l i):=by
 simp_all [nth]
theorem Vh{H:Mem}(l:List De):pG H 8 l.length (mO (nth l)) (l.flatMap Yk):=by
 refine ⟨flat_length l,fun i _=>rfl,fun u hu=>?_,fun i j s v hi h1 h2=>?_⟩
 ·grind [anM]
 ·have hj:j<8:=by
   have:=(aJ.1 h1).1;exact this
  rw[Ym l i j hj,aaZ hi] at h2;exact anN (nth l i) j s v h1 h2
theorem Yn{H:Mem}{l:List De}{xs:List Value}(h:pG H 8 l.length (mO (nth l)) xs):xs=l.flatMap Yk:=by
 apply fE;intro q;by_cases hq:q<l.length*8
 ·have hi:q / 8<l.length:=by omega
  have hj:q % 8<8:=by omega
  have e:q=q / 8*8+q % 8:=by omega
  rw[e,Ym l _ _ hj,aaZ hi];have hx:q / 8*8+q % 8<xs.length:=by rw[h.1];omega
  rw[aC hx];simp only[bB];have hs:∃s,(deR (nth l (q / 8)))[q % 8]?=ae s:=⟨_,aC (by exact hj)⟩;obtain ⟨s,hs⟩:=hs;have hr:=h.2.2.2 (q / 8) (q % 8) s _ hi hs (aC hx);generalize xs[q / 8*8+q % 8]=v at hr;generalize q % 8=j at hs hj hr;match j,hs,hj with
  |0,hs,_=>cases hs;cases hr;rfl |1,hs,_=>cases hs;cases hr;rfl |2,hs,_=>cases hs;cases hr;rfl |3,hs,_=>cases hs;cases hr;rfl |4,hs,_=>cases hs;cases hr;rfl |5,hs,_=>cases hs;cases hr;rfl |6,hs,_=>cases hs;cases hr;rfl |7,hs,_=>cases hs;cases hr;rfl |j+8,_,hj=>omega
 ·rw[dj (by rw[h.1];omega),dj (by rw[flat_length];omega)]
def yu(R:Nat->Nat):Nat->List Sh:=fun j=>[.v (rW (R j))]
theorem akq{H:Mem}(R:Nat->Nat)(n:Nat):pG H 1 n (yu R) ((aD n).map fun i=>rW (R i)):=by
 refine ⟨by simp,fun i _=>rfl,fun u hu=>?_,fun i j s v hi h1 h2=>?_⟩
 ·obtain ⟨i,_,rfl⟩:=bK.1 hu
  rfl
 ·have hj:j=0:=by
   simp_all [aJ,yu]
  subst hj;cases h1;simp[hi] at h2;subst h2;exact .v _ rfl
theorem JH{H:Mem}{R:Nat->Nat}{n:Nat}{xs:List Value}(h:pG H 1 n (yu R) xs):xs=(aD n).map fun i=>rW (R i):=by
 apply fE;intro q;by_cases hq:q<n
 ·have hx:q<xs.length:=by rw[h.1];omega
  rw[aC hx];have hr:=h.2.2.2 q 0 _ xs[q] hq rfl (by simp);generalize xs[q]=v at hr ⊢;cases hr;simp[hq]
 ·rw[dj (by rw[h.1];omega),dj (by simp;omega)]
section
variable{H H':Mem}{E E':Env}{w w':World}{n0:Nat}{g0:Nat->List Sh}{σ σ':Au}{L L':Lay}
theorem MH(hA:rF H w n0 g0 σ L){own:Nat->Prop}{V:Tg->Prop}(hown:∀b,own b↔∃t,V t/\L.blk σ.rs.length t=ae b)(hW:sF ⟨w,own,H⟩ H' w')(hH:H.le H')
  (hV:V .au/\V .tx/\V .DX/\V .bu/\V .ob) (hV2:∀i,V (.rc i)↔V (.de i))
  (au:w'.heap[L'.p]?=ae (.cells #[L'.v0,.int .i64 σ'.many,L'.v2,.map (ae L'.b1),.map (ae L'.b2)] 185 (0,0))) (ob:∃xs,w'.ownsRow 0 73 2 L'.v0 n0 xs/\pG H' 2 n0 g0 xs)
  (tx:w'.ownsRow 0 186 1 L'.v2 σ'.rs.length ((aD σ'.rs.length).map fun i=>rW (L'.R i)))
  (DX:∃ms clk,w'.heap[L'.b1]?=ae (.map ms clk)/\vJ .i64 ms.toList clk fun k=>(σ'.yt k).map fun i=>rW (L'.R i))
  (bu:∃ms clk,w'.heap[L'.b2]?=ae (.map ms clk)/\vJ .i64 ms.toList clk fun k=>(σ'.Ba k).map fun i=>rW (L'.R i))
  (rcV:∀i r,σ'.rs[i]?=ae r->V (.rc i)->w'.heap[L'.R i]?=ae (.cells (Rk r (L'.D i)) 188 (0,0))/\w'.ownsRow 0 143 8 (L'.D i) r.mV.length (r.mV.flatMap Yk))
  (old:∀i r,σ'.rs[i]?=ae r->¬V (.rc i)->σ.rs[i]?=ae r/\L'.R i=L.R i/\L'.D i=L.D i)
  (aiW:∀t b,V t->L'.blk σ'.rs.length t=ae b->H' b=ao/\(w.heap.size<=b\/own b))
  (aw1:∀s t b,V s->V t->L'.blk σ'.rs.length s=ae b->L'.blk σ'.rs.length t=ae b->s=t) :
  rF H' w' n0 g0 σ' L'/\∀t b,L'.blk σ'.rs.length t=ae b->w.heap.size<=b\/∃t',L.blk σ.rs.length t'=ae b:=by
 have Rl:∀t b,¬V t->L'.blk σ'.rs.length t=ae b->L.blk σ.rs.length t=ae b:=fun t b hv hb=>by
  cases t with
  |au=>simp_all |tx=>simp_all |DX=>simp_all |bu=>simp_all |ob=>simp_all |rc i=>
   simp only[b6] at hb ⊢;split at hb
   ·rename_i hi
    obtain ⟨o1,o2,o3⟩:=old i _ (aC hi) hv;grind
   ·cases hb
  |de i=>
   simp only[b6] at hb ⊢;split at hb
   ·rename_i hi
    obtain ⟨o1,o2,o3⟩:=old i _ (aC hi) fun q=>hv ((hV2 i).1 q);grind
   ·cases hb
 have aqr:∀t b,¬V t->L.blk σ.rs.length t=ae b->¬own b:=fun t b hv hb ho=>by
  obtain ⟨t',h1,h2⟩:=(hown b).1 ho;have:=hA.vV _ _ _ hb h2;simp_all
 have kept:∀t b,¬V t->L.blk σ.rs.length t=ae b->w'.heap[b]?=w.heap[b]?:=fun t b hv hb=>hW.kept b (hA.lt hb) (aqr t b hv hb);refine ⟨⟨au,ob,tx,DX,bu,fun i r hi=>?_,fun i r hi=>?_,fun s t b hs ht=>?_,fun t b hb=>?_⟩,fun t b hb=>?_⟩
 ·by_cases hv:V (.rc i)
  ·simp_all
  ·obtain ⟨o1,o2,o3⟩:=old i r hi hv
   rw[o2,o3,kept (.rc i) _ hv (by grind [b6,aJ])];exact hA.rc i r o1
 ·by_cases hv:V (.rc i)
  ·simp_all
  ·obtain ⟨o1,o2,o3⟩:=old i r hi hv
   rw[o3];refine xu (hA.de i r o1) fun b hb=>kept (.de i) b (fun q=>hv ((hV2 i).2 q)) ?_;grind [b6,aJ]
 ·by_cases vs:V s<;>by_cases vt:V t
  ·grind
  ·exfalso
   have h1:=Rl t b vt ht;rcases (aiW s b vs hs).2 with q|q
   ·have:=hA.lt h1;omega
   grind
  ·exfalso
   have h1:=Rl s b vs hs;rcases (aiW t b vt ht).2 with q|q
   ·have:=hA.lt h1;omega
   grind
  ·exact hA.vV s t b (Rl s b vs hs) (Rl t b vt ht)
 ·by_cases hv:V t
  ·grind
  ·have h1:=Rl t b hv hb
   cases hx:H' b with
   |none=>rfl |some o=>
    rcases hW.fresh b (by rw[hx];simp) with q|q|q
    ·exact (q (hA.un t b h1)).elim
    ·have:=hA.lt h1
     grind
    grind
 grind
end
open Go.oz Go.oH
def Ag(σ:Au)(L:Lay):Int->Option Value:=fun k=>(σ.yt k).map fun i=>rW (L.R i)
def zT(σ:Au)(L:Lay):Int->Option Value:=fun k=>(σ.Ba k).map fun i=>rW (L.R i)
def zO(L:Lay)(i:Option Nat):Env:=fun id=>match id with
 |0=>ae (rW L.p) |1=>ae L.v2 |2=>ae (.map (ae L.b1)) |3=>ae (.map (ae L.b2)) |4=>i.map fun i=>rW (L.R i) |5=>i.map fun i=>L.D i |6=>ae L.v0 |_=>ao
def Vw(i:Option Nat):Tg->Prop
 | .rc j=>i=ae j | .de j=>i=ae j |_=>True
def Oq(i:Nat):Nat->Tg
 |0=>.au |1=>.tx |2=>.DX |3=>.bu |4=>.rc i |5=>.de i |_=>.ob
def avG:Tg->Nat
 | .au=>0 | .tx=>1 | .DX=>2 | .bu=>3 | .rc _=>4 | .de _=>5 | .ob=>6
theorem anO{i a:Nat}(h:a<7):avG (Oq i a)=a:=by
 match a,h with
 |0,_|1,_|2,_|3,_|4,_|5,_|6,_=>rfl |a+7,h=>omega
theorem aa0{i a b:Nat}(ha:a<7)(hb:b<7)(h:Oq i a=Oq i b):a=b:=by
 grind [anO]
section
variable{H H':Mem}{E E':Env}{w w':World}{n:Nat}{o:Nat->Oj}{σ σ':Au}{L L':Lay}
def BM(n:Nat)(o:Nat->Oj)(σ:Au)(L:Lay)(f1 f2:List (Int×Bool×SV)):List (Nat×SB):=hpA n σ.rs.length o σ.many (yu L.R) (Ag σ L) (zT σ L) f1 f2
theorem anP(hA:rF H w n (mO o) σ L)(i:Option Nat){own:Nat->Prop}(hown:∀t b,Vw i t->L.blk σ.rs.length t=ae b->own b){f1 f2:List (Int×Bool×SV)}{v1 v2:List (Int×Option Value)}(h1:xP H (zO L i) f1 v1)(h2:xP H (zO L i) f2 v2)
  (m1:∀k u,(k,u)∈v1->Ag σ L k=u) (m2:∀k u,(k,u)∈v2->zT σ L k=u):∀id sb,mQ (BM n o σ L f1 f2) id=ae sb->xU ⟨w,own,H⟩ H (zO L i) w id sb/\(id<4\/id=6)/\∀b,nU (zO L i) id sb=ae b->L.blk σ.rs.length (Oq 0 id)=ae b:=by
 intro id sb hl;have mine:∀t b,Vw i t->L.blk σ.rs.length t=ae b->Mine ⟨w,own,H⟩ H b:=fun t b hv hb=>⟨hA.un t b hb,.inr (hown t b hv hb)⟩;match id,hl with
 |0,hl=>
  cases hl;exact ⟨⟨L.p,_,rfl,hA.au,⟨⟨rfl,(let ⟨_,h1,_⟩:=hA.ob;AV h1)⟩,rfl,⟨rfl,AV hA.tx⟩,⟨_,rfl,rfl⟩,⟨_,rfl,rfl⟩,trivial⟩,mine .au _ trivial rfl⟩,by decide,fun b hb=>hb⟩
 |1,hl=>
  cases hl;exact ⟨⟨L.v2,_,rfl,hA.tx,akq _ _,fun b hb=>mine .tx b trivial hb⟩,by decide,fun b hb=>hb⟩
 |2,hl=>
  cases hl;obtain ⟨ms,clk,a1,a2⟩:=hA.DX;exact ⟨⟨L.b1,ms,clk,v1,[],rfl,a1,h1,trivial,m1,a2,trivial,mine .DX _ trivial rfl⟩,by decide,fun b hb=>hb⟩
 |3,hl=>
  cases hl;obtain ⟨ms,clk,a1,a2⟩:=hA.bu;exact ⟨⟨L.b2,ms,clk,v2,[],rfl,a1,h2,trivial,m2,a2,trivial,mine .bu _ trivial rfl⟩,by decide,fun b hb=>hb⟩
 |6,hl=>
  cases hl;obtain ⟨xs,a1,a2⟩:=hA.ob;exact ⟨⟨L.v0,xs,rfl,a1,a2,fun b hb=>mine .ob b trivial hb⟩,by decide,fun b hb=>hb⟩
 |4,hl=>simp[BM,hpA,mQ] at hl |5,hl=>simp[BM,hpA,mQ] at hl |id+7,hl=>simp[BM,hpA,mQ] at hl
theorem ahe{n:Nat}{o:Nat->Oj}{σ:Au}{L:Lay}{f1 f2:List (Int×Bool×SV)}{r:Rc}{id:Nat}{sb:SB}(h:mQ (BM n o σ L f1 f2++wz r) id=ae sb):
  mQ (BM n o σ L f1 f2) id=ae sb\/(id=4/\sb=.box [.sym .i64 r.id,.sym .i64 r.th,.sym .i64 r.st,.sym .i64 r.bg,.sym .i64 r.en,.sym .i64 r.tr,.gs 5,.sym .i64 r.stand] 188)\/(id=5/\sb=.own 143 8 r.mV.length (mO (nth r.mV))):=by
 match id,h with
 |0,h=>exact .inl h |1,h=>exact .inl h |2,h=>exact .inl h |3,h=>exact .inl h |4,h=>cases h;simp |5,h=>cases h;simp |6,h=>exact .inl h |id+7,h=>simp[BM,hpA,wz,ZW,mQ] at h
theorem aqs{i j id:Nat}(h:id<4\/id=6):Oq i id=Oq j id:=by
 match id,h with
 |0,_|1,_|2,_|3,_|6,_=>rfl |4,h=>omega |5,h=>omega |id+7,h=>omega
theorem akr(hA:rF H w n (mO o) σ L){i:Nat}{r:Rc}(hi:σ.rs[i]?=ae r){own:Nat->Prop}(hown:∀t b,Vw (ae i) t->L.blk σ.rs.length t=ae b->own b){f1 f2:List (Int×Bool×SV)}{v1 v2:List (Int×Option Value)}
  (h1:xP H (zO L (ae i)) f1 v1) (h2:xP H (zO L (ae i)) f2 v2) (m1:∀k u,(k,u)∈v1->Ag σ L k=u) (m2:∀k u,(k,u)∈v2->zT σ L k=u) :
  nI ⟨w,own,H⟩ H (zO L (ae i)) w (BM n o σ L f1 f2++wz r):=by
 have hlt:=(aJ.1 hi).1;have key:∀id sb,mQ (BM n o σ L f1 f2++wz r) id=ae sb->xU ⟨w,own,H⟩ H (zO L (ae i)) w id sb/\id<7/\∀b,nU (zO L (ae i)) id sb=ae b->L.blk σ.rs.length (Oq i id)=ae b:=fun id sb hl=>by
  rcases ahe hl with hl|⟨rfl,rfl⟩ |⟨rfl,rfl⟩
  ·grind [anP,aqs]
  ·have hb:L.blk σ.rs.length (.rc i)=ae (L.R i):=by simp[b6,hlt]
   exact ⟨⟨L.R i,_,rfl,hA.rc i r hi,⟨rfl,rfl,rfl,rfl,rfl,rfl,⟨rfl,AV (hA.de i r hi)⟩,rfl,trivial⟩,⟨hA.un _ _ hb,.inr (hown (.rc i) _ rfl hb)⟩⟩,by decide,fun b hb'=>by
    cases hb';exact hb⟩
  ·have hb:∀b,nH (L.D i)=ae b->L.blk σ.rs.length (.de i)=ae b:=fun b hb=>by grind [b6]
   exact ⟨⟨L.D i,_,rfl,hA.de i r hi,Vh _,fun b hb'=>⟨hA.un _ _ (hb b hb'),.inr (hown (.de i) _ rfl (hb b hb'))⟩⟩,by decide,fun b hb'=>hb b hb'⟩
 refine ⟨fun id sb hl=>(key id sb hl).1,fun id id' sb sb' b l1 l2 o1 o2=>?_⟩;obtain ⟨_,a1,a2⟩:=key id sb l1;obtain ⟨_,b1,b2⟩:=key id' sb' l2;exact aa0 a1 b1 (hA.vV _ _ _ (a2 b o1) (b2 b o2))
theorem Yo(hA:rF H w n (mO o) σ L){own:Nat->Prop}(hown:∀t b,Vw ao t->L.blk σ.rs.length t=ae b->own b){f1 f2:List (Int×Bool×SV)}{v1 v2:List (Int×Option Value)}
  (h1:xP H (zO L ao) f1 v1) (h2:xP H (zO L ao) f2 v2) (m1:∀k u,(k,u)∈v1->Ag σ L k=u) (m2:∀k u,(k,u)∈v2->zT σ L k=u) :
  nI ⟨w,own,H⟩ H (zO L ao) w (BM n o σ L f1 f2):=by
 have key:=anP hA ao hown h1 h2 m1 m2;refine ⟨fun id sb hl=>(key id sb hl).1,fun id id' sb sb' b l1 l2 o1 o2=>?_⟩;obtain ⟨_,a1,a2⟩:=key id sb l1;obtain ⟨_,b1,b2⟩:=key id' sb' l2;exact aa0 (i:=0) (by omega) (by omega) (hA.vV _ _ _ (a2 b o1) (b2 b o2))
theorem anQ(hA:rF H w n (mO o) σ L){i:Nat}{r:Rc}(hi:σ.rs[i]?=ae r){f1 f2:List (Int×Bool×SV)}(b:Nat):
  Ec (zO L (ae i)) (BM n o σ L f1 f2++wz r) b↔∃t,Vw (ae i) t/\L.blk σ.rs.length t=ae b:=by
 have hlt:=(aJ.1 hi).1;constructor
 ·rintro ⟨id,sb,hl,hb⟩
  match id,hl with
  |0,hl=>cases hl;exact ⟨.au,trivial,hb⟩ |1,hl=>cases hl;exact ⟨.tx,trivial,hb⟩ |2,hl=>cases hl;exact ⟨.DX,trivial,hb⟩ |3,hl=>cases hl;exact ⟨.bu,trivial,hb⟩ |4,hl=>cases hl;exact ⟨.rc i,rfl,by cases hb;simp[b6,hlt]⟩ |5,hl=>cases hl;exact ⟨.de i,rfl,by simp only[b6,if_pos hlt];exact hb⟩ |6,hl=>cases hl;exact ⟨.ob,trivial,hb⟩ |id+7,hl=>simp[BM,hpA,wz,ZW,mQ] at hl
 ·rintro ⟨t,hv,hb⟩
  cases t with
  |au=>exact ⟨0,_,rfl,hb⟩ |tx=>exact ⟨1,_,rfl,hb⟩ |DX=>exact ⟨2,_,rfl,hb⟩ |bu=>exact ⟨3,_,rfl,hb⟩ |ob=>exact ⟨6,_,rfl,hb⟩ |rc j=>
   cases hv;simp only[b6,if_pos hlt] at hb;exact ⟨4,_,rfl,hb⟩
  |de j=>
   cases hv;simp only[b6,if_pos hlt] at hb;exact ⟨5,_,rfl,hb⟩
theorem aa1{f1 f2:List (Int×Bool×SV)}(b:Nat):
  Ec (zO L ao) (BM n o σ L f1 f2) b↔∃t,Vw ao t/\L.blk σ.rs.length t=ae b:=by
 constructor
 ·rintro ⟨id,sb,hl,hb⟩
  match id,hl with
  |0,hl=>cases hl;exact ⟨.au,trivial,hb⟩ |1,hl=>cases hl;exact ⟨.tx,trivial,hb⟩ |2,hl=>cases hl;exact ⟨.DX,trivial,hb⟩ |3,hl=>cases hl;exact ⟨.bu,trivial,hb⟩ |4,hl=>simp[BM,hpA,mQ] at hl |5,hl=>simp[BM,hpA,mQ] at hl |6,hl=>cases hl;exact ⟨.ob,trivial,hb⟩ |id+7,hl=>simp[BM,hpA,mQ] at hl
 ·rintro ⟨t,hv,hb⟩
  cases t with
  |au=>exact ⟨0,_,rfl,hb⟩ |tx=>exact ⟨1,_,rfl,hb⟩ |DX=>exact ⟨2,_,rfl,hb⟩ |bu=>exact ⟨3,_,rfl,hb⟩ |ob=>exact ⟨6,_,rfl,hb⟩ |rc j=>cases hv |de j=>cases hv
end
open Go.oz Go.oH
section
variable{H H':Mem}{E E':Env}{w w':World}{n:Nat}{o:Nat->Oj}{σ σ':Au}{L L':Lay}
theorem IE{r:List (Int×Option Value)}(h:xP H E [] r):r=[]:=by
 cases r with
 |nil=>rfl |cons _ _=>exact h.elim
theorem aks{t:Int}{x:SV}{r:List (Int×Option Value)}(h:xP H E [(t,ag,x)] r):r=[(t,ao)]:=by
 match r,h with
 |[(k,o)],⟨h1,h2,_⟩=>
  grind
 |[],h=>exact h.elim |(_,_)::_::_,⟨_,_,h⟩=>exact h.elim
def ae3(σ σ':Au)(us:List (Int×Bool×SV)):Prop:=
 (us=[]/\∀k,σ'.Ba k=σ.Ba k)\/∃t x,us=[(t,ag,x)]/\∀k,σ'.Ba k=if k=t then ao else σ.Ba k
theorem ahf{own:Nat->Prop}(hA:rF H w n (mO o) σ L){i:Nat}{r0:Rc}(hi:σ.rs[i]?=ae r0)(hown:∀b,own b↔∃t,Vw (ae i) t/\L.blk σ.rs.length t=ae b)
  {e:Ev} {many':Nat} {r:Rc} {us:List (Int×Bool×SV)} (hh:nI ⟨w,own,H⟩ H' E' w' (um n σ.rs.length o (yu L.R) (Ag σ L) (zT σ L) e many' r us).hp) (hW:sF ⟨w,own,H⟩ H' w') (hH:H.le H')
  (h0:E' 0=ae (rW L.p)) (h4:E' 4=ae (rW (L.R i))) (hby:∀k,(⟨many',σ.rs.set i r⟩:Au).yt k=σ.yt k) (hbu:ae3 σ ⟨many',σ.rs.set i r⟩ us) :
  ∃L',rF H' w' n (mO o) ⟨many',σ.rs.set i r⟩ L'/\L'.p=L.p/\∀t b,L'.blk (σ.rs.set i r).length t=ae b->w.heap.size<=b\/∃t',L.blk σ.rs.length t'=ae b:=by
 have hlt:=(aJ.1 hi).1;obtain ⟨p,⟨cs⟩,p1,p2,p3,p4⟩:=hh.ent 0 _ rfl;match cs,p3 with
 |[u0,u1,u2,u3,u4],⟨d0,d1,d2,d3,d4,_⟩=>
  have d1:u1=.int .i64 many':=d1;obtain ⟨d0,_⟩:E' 6=ae u0/\_:=d0;obtain ⟨d2,_⟩:E' 1=ae u2/\_:=d2;obtain ⟨b1,d3,d3'⟩:=d3;obtain ⟨b2,d4,d4'⟩:=d4;subst d1 d3' d4';rw[h0] at p1;have hp:L.p=p:=by
   grind [aS,rW]
  subst hp;have hob:∃xs,w'.ownsRow 0 73 2 u0 n xs/\pG H' 2 n (mO o) xs:=by
   obtain ⟨v,xs,x1,x2,x3,_⟩:=hh.ent 6 _ rfl;grind
  obtain ⟨v2,xs,q1,q2,q3,q4⟩:=hh.ent 1 _ rfl;rw[d2] at q1;cases q1;obtain rfl:=JH q3;obtain ⟨b1',ms1,Ro,fv1,uv1,s1,s2,s3,s4,s5,s6,_,s7⟩:=hh.ent 2 _ rfl;rw[d3] at s1;cases s1;obtain rfl:=IE s4;obtain ⟨b2',ms2,Rq,fv2,uv2,t1,t2,t3,t4,t5,t6,_,t7⟩:=hh.ent 3 _ rfl;rw[d4] at t1;cases t1;obtain ⟨pr,⟨cr⟩,r1,r2,r3,r4⟩:=hh.ent 4 _ rfl;rw[h4] at r1;have hpr:L.R i=pr:=by
   grind [aS,rW]
  subst hpr;match cr,r3 with
  |[c0,c1,c2,c3,c4,c5,c6,c7],⟨e0,e1,e2,e3,e4,e5,e6,e7,_⟩=>
   have e0:c0=.int .i64 r.id:=e0;have e1:c1=.int .i64 r.th:=e1;have e2:c2=.int .i64 r.st:=e2;have e3:c3=.int .i64 r.bg:=e3;have e4:c4=.int .i64 r.en:=e4;have e5:c5=.int .i64 r.tr:=e5;have e7:c7=.int .i64 r.stand:=e7;obtain ⟨e6,_⟩:E' 5=ae c6/\_:=e6;subst e0 e1 e2 e3 e4 e5 e7;obtain ⟨vd,xd,g1,g2,g3,g4⟩:=hh.ent 5 _ rfl;rw[e6] at g1;cases g1;obtain rfl:=Yn g3;let L':Lay:=⟨L.p,u0,u2,b1,b2,L.R,fun j=>if j=i then c6 else L.D j⟩
   have hlen:(σ.rs.set i r).length=σ.rs.length:=by simp
   have hbl:∀t b,Vw (ae i) t->L'.blk (σ.rs.set i r).length t=ae b->∃id sb,id<7/\Oq i id=t/\mQ (um n σ.rs.length o (yu L.R) (Ag σ L) (zT σ L) e many' r us).hp id=ae sb/\nU E' id sb=ae b:=fun t b hv hb=>by
    cases t with
    |au=>exact ⟨0,_,by decide,rfl,rfl,by simp only[nU,h0];exact hb⟩ |tx=>exact ⟨1,_,by decide,rfl,rfl,by simp only[nU,d2];exact hb⟩ |DX=>exact ⟨2,_,by decide,rfl,rfl,by simp only[nU,d3];exact hb⟩ |bu=>exact ⟨3,_,by decide,rfl,rfl,by simp only[nU,d4];exact hb⟩ |ob=>exact ⟨6,_,by decide,rfl,rfl,by simp only[nU,d0];exact hb⟩ |rc j=>
     cases hv;refine ⟨4,_,by decide,rfl,rfl,?_⟩;simp only[b6,hlen,if_pos hlt] at hb;simp only[nU,h4];exact hb
    |de j=>
     cases hv;refine ⟨5,_,by decide,rfl,rfl,?_⟩;simp only[b6,hlen,if_pos hlt,L'] at hb;simp_all [nU]
   have mk:=MH (H':=H') (w':=w') (σ':=⟨many',σ.rs.set i r⟩) (L':=L') hA hown hW hH ⟨trivial,trivial,trivial,trivial,trivial⟩ (fun _=>l8) p2 hob (by grind)
    ⟨ms1,Ro,s2,by
     have:(fun k=>((⟨many',σ.rs.set i r⟩:Au).yt k).map fun i=>rW (L'.R i))=NT (Ag σ L) []:=by
      funext k;rw[hby k];rfl
     simp_all⟩
    ⟨ms2,Rq,t2,by
     have:(fun k=>((⟨many',σ.rs.set i r⟩:Au).Ba k).map fun i=>rW (L'.R i))=NT (zT σ L) uv2:=by
      rcases hbu with ⟨rfl,hb⟩ |⟨t,x,rfl,hb⟩
      ·obtain rfl:=IE t4
       funext k;rw[hb k];rfl
      ·obtain rfl:=aks t4
       funext k;rw[hb k];simp only[NT];grind [zT]
     simp_all⟩
    (fun j rj hj hv=>by
     cases hv;have:rj=r:=by
      simp_all
     subst this;simp only[L',if_true];exact ⟨r2,g2⟩)
    (fun j rj hj hv=>by
     have hne:¬j=i:=fun q=>hv (by rw[q];exact rfl);grind)
    (fun t b hv hb=>by
     obtain ⟨id,sb,_,_,a3,a4⟩:=hbl t b hv hb;exact ⟨((hh.ent _ _ a3).lt a4).2.1,((hh.ent _ _ a3).lt a4).2.2⟩)
    (fun s t b hs ht bs bt=>by
     obtain ⟨id,sb,a1,a2,a3,a4⟩:=hbl s b hs bs;obtain ⟨id',sb',b1,b2,b3,b4⟩:=hbl t b ht bt;have:=hh.vV _ _ _ _ _ a3 b3 a4 b4;simp_all)
   grind
end
open Go.oz Go.oH
section
variable{H H':Mem}{E E':Env}{w w':World}{n:Nat}{o:Nat->Oj}{σ σ':Au}{L L':Lay}
theorem ae4{own:Nat->Prop}(hA:rF H w n (mO o) σ L)(hown:∀b,own b↔∃t,Vw ao t/\L.blk σ.rs.length t=ae b)
  {f1 f2:List (Int×Bool×SV)} (hh:nI ⟨w,own,H⟩ H' E' w' (toN n σ.rs.length o σ.many (yu L.R) (Ag σ L) (zT σ L) f1 f2).hp) (hW:sF ⟨w,own,H⟩ H' w') (hH:H.le H')
  (h0:E' 0=ae (rW L.p)) :
  ∃L',rF H' w' n (mO o) σ L'/\L'.p=L.p/\∀t b,L'.blk σ.rs.length t=ae b->w.heap.size<=b\/∃t',L.blk σ.rs.length t'=ae b:=by
 obtain ⟨p,⟨cs⟩,p1,p2,p3,p4⟩:=hh.ent 0 _ rfl;match cs,p3 with
 |[u0,u1,u2,u3,u4],⟨d0,d1,d2,d3,d4,_⟩=>
  have d1:u1=.int .i64 σ.many:=d1;obtain ⟨d0,_⟩:E' 6=ae u0/\_:=d0;obtain ⟨d2,_⟩:E' 1=ae u2/\_:=d2;obtain ⟨b1,d3,d3'⟩:=d3;obtain ⟨b2,d4,d4'⟩:=d4;subst d1 d3' d4';rw[h0] at p1;have hp:L.p=p:=by
   grind [aS,rW]
  subst hp;have hob:∃xs,w'.ownsRow 0 73 2 u0 n xs/\pG H' 2 n (mO o) xs:=by
   obtain ⟨v,xs,x1,x2,x3,_⟩:=hh.ent 6 _ rfl;grind
  obtain ⟨v2,xs,q1,q2,q3,q4⟩:=hh.ent 1 _ rfl;rw[d2] at q1;cases q1;obtain rfl:=JH q3;obtain ⟨b1',ms1,Ro,fv1,uv1,s1,s2,s3,s4,s5,s6,_,s7⟩:=hh.ent 2 _ rfl;rw[d3] at s1;cases s1;obtain rfl:=IE s4;obtain ⟨b2',ms2,Rq,fv2,uv2,t1,t2,t3,t4,t5,t6,_,t7⟩:=hh.ent 3 _ rfl;rw[d4] at t1;cases t1;obtain rfl:=IE t4;let L':Lay:=⟨L.p,u0,u2,b1,b2,L.R,L.D⟩
  have hbl:∀t b,Vw ao t->L'.blk σ.rs.length t=ae b->∃id sb,id<7/\Oq 0 id=t/\mQ (toN n σ.rs.length o σ.many (yu L.R) (Ag σ L) (zT σ L) f1 f2).hp id=ae sb/\nU E' id sb=ae b:=fun t b hv hb=>by
   cases t with
   |au=>exact ⟨0,_,by decide,rfl,rfl,by simp only[nU,h0];exact hb⟩ |tx=>exact ⟨1,_,by decide,rfl,rfl,by simp only[nU,d2];exact hb⟩ |DX=>exact ⟨2,_,by decide,rfl,rfl,by simp only[nU,d3];exact hb⟩ |bu=>exact ⟨3,_,by decide,rfl,rfl,by simp only[nU,d4];exact hb⟩ |ob=>exact ⟨6,_,by decide,rfl,rfl,by simp only[nU,d0];exact hb⟩ |rc j=>cases hv |de j=>cases hv
  have mk:=MH (H':=H') (w':=w') (σ':=σ) (L':=L') hA hown hW hH ⟨trivial,trivial,trivial,trivial,trivial⟩ (fun _=>l8) p2 hob q2 ⟨ms1,Ro,s2,s6⟩ ⟨ms2,Rq,t2,t6⟩
   (fun j rj hj hv=>by cases hv) (fun j rj hj hv=>⟨hj,rfl,rfl⟩)
   (fun t b hv hb=>by
    obtain ⟨id,sb,_,_,a3,a4⟩:=hbl t b hv hb;exact ⟨((hh.ent _ _ a3).lt a4).2.1,((hh.ent _ _ a3).lt a4).2.2⟩)
   (fun s t b hs ht bs bt=>by
    obtain ⟨id,sb,a1,a2,a3,a4⟩:=hbl s b hs bs;obtain ⟨id',sb',b1,b2,b3,b4⟩:=hbl t b ht bt;have:=hh.vV _ _ _ _ _ a3 b3 a4 b4;simp_all)
  grind
theorem aa2{t:Int}{x y:SV}{r:List (Int×Option Value)}(h:xP H E [(t,ah,x),(t,ah,y)] r):∃u v,r=[(t,ae u),(t,ae v)]/\Den H E x u:=by
 match r,h with
 |[(k,p),(k',q)],⟨h1,h2,h3,h4,_⟩=>
  grind
 |[],h=>exact h.elim |[(_,_)],⟨_,_,h⟩=>exact h.elim |(_,_)::(_,_)::_::_,⟨_,_,_,_,h⟩=>exact h.elim
theorem Vj{α:Type}{p:α->Bool}{l:List α}{i:Nat}(h:l.findIdx? p=ae i):i<l.length:=by
 simp_all [List.findIdx?_eq_some_iff_findIdx_eq]
theorem ahg{own:Nat->Prop}(hA:rF H w n (mO o) σ L)(hown:∀b,own b↔∃t,Vw ao t/\L.blk σ.rs.length t=ae b)
  {e:Ev} {many':Nat} {r:Rc} (hd:r.mV=[]) (hh:nI ⟨w,own,H⟩ H' E' w' (toB n σ.rs.length o (yu L.R) (Ag σ L) (zT σ L) e many' r.id r.th r.st r.bg r.en r.tr r.stand).hp) (hW:sF ⟨w,own,H⟩ H' w') (hH:H.le H')
  (h0:E' 0=ae (rW L.p)) (hby:∀k,(⟨many',σ.rs++[r]⟩:Au).yt k=if k=e.tx then ae σ.rs.length else σ.yt k) (hbu:∀k,(⟨many',σ.rs++[r]⟩:Au).Ba k=if k=e.thread then ae σ.rs.length else σ.Ba k) :
  ∃L',rF H' w' n (mO o) ⟨many',σ.rs++[r]⟩ L'/\L'.p=L.p/\∀t b,L'.blk (σ.rs++[r]).length t=ae b->w.heap.size<=b\/∃t',L.blk σ.rs.length t'=ae b:=by
 obtain ⟨p,⟨cs⟩,p1,p2,p3,p4⟩:=hh.ent 0 _ rfl;match cs,p3 with
 |[u0,u1,u2,u3,u4],⟨d0,d1,d2,d3,d4,_⟩=>
  have d1:u1=.int .i64 many':=d1;obtain ⟨d0,_⟩:E' 6=ae u0/\_:=d0;obtain ⟨d2,_⟩:E' 1=ae u2/\_:=d2;obtain ⟨b1,d3,d3'⟩:=d3;obtain ⟨b2,d4,d4'⟩:=d4;subst d1 d3' d4';rw[h0] at p1;have hp:L.p=p:=by
   grind [aS,rW]
  subst hp;obtain ⟨pr,⟨cr⟩,r1,r2,r3,r4⟩:=hh.ent 4 _ rfl;have anR:∀{u:Value},Den H' E' (.ptr 4 0) u->u=rW pr:=fun {u} h=>by
   obtain ⟨b,h1,h2⟩:=h;rw[r1] at h1;cases h1;exact h2
  have hob:∃xs,w'.ownsRow 0 73 2 u0 n xs/\pG H' 2 n (mO o) xs:=by
   obtain ⟨v,xs,x1,x2,x3,_⟩:=hh.ent 6 _ rfl;grind
  obtain ⟨v2,xs,ys,q1,q2,q3,q5,_,_,q4⟩:=hh.ent 1 _ rfl;rw[d2] at q1;cases q1;obtain rfl:=JH q3;match ys,q5 with
  |[y],⟨q5,_⟩=>
  obtain rfl:=anR q5;obtain ⟨b1',ms1,Ro,fv1,uv1,s1,s2,s3,s4,s5,s6,_,s7⟩:=hh.ent 2 _ rfl;rw[d3] at s1;cases s1;obtain ⟨x1,x2,rfl,x3⟩:=aa2 s4;obtain rfl:=anR x3;obtain ⟨b2',ms2,Rq,fv2,uv2,t1,t2,t3,t4,t5,t6,_,t7⟩:=hh.ent 3 _ rfl;rw[d4] at t1;cases t1;obtain ⟨y1,y2,rfl,y3⟩:=aa2 t4;obtain rfl:=anR y3;match cr,r3 with
  |[c0,c1,c2,c3,c4,c5,c6,c7],⟨e0,e1,e2,e3,e4,e5,e6,e7,_⟩=>
   have e0:c0=.int .i64 r.id:=e0;have e1:c1=.int .i64 r.th:=e1;have e2:c2=.int .i64 r.st:=e2;have e3:c3=.int .i64 r.bg:=e3;have e4:c4=.int .i64 r.en:=e4;have e5:c5=.int .i64 r.tr:=e5;have e6:c6=.slice ao 0 0:=e6;have e7:c7=.int .i64 r.stand:=e7;subst e0 e1 e2 e3 e4 e5 e6 e7;let L':Lay:=⟨L.p,u0,u2,b1,b2,fun j=>if j=σ.rs.length then pr else L.R j,fun j=>if j=σ.rs.length then .slice ao 0 0 else L.D j⟩
   have hlen:(σ.rs++[r]).length=σ.rs.length+1:=by simp
   have hown':∀b,own b↔∃t,Vw (ae σ.rs.length) t/\L.blk σ.rs.length t=ae b:=fun b=>by
    rw[hown b];constructor
    ·rintro ⟨t,h1,h2⟩
     refine ⟨t,?_,h2⟩;cases t with
     |rc j=>cases h1 |de j=>cases h1 |_=>trivial
    ·rintro ⟨t,h1,h2⟩
     refine ⟨t,?_,h2⟩;cases t with
     |rc j=>cases h1;simp[b6] at h2 |de j=>cases h1;simp[b6] at h2 |_=>trivial
   have hbl:∀t b,Vw (ae σ.rs.length) t->L'.blk (σ.rs++[r]).length t=ae b->∃id sb,id<7/\Oq σ.rs.length id=t/\mQ (toB n σ.rs.length o (yu L.R) (Ag σ L) (zT σ L) e many' r.id r.th r.st r.bg r.en r.tr r.stand).hp id=ae sb/\nU E' id sb=ae b:=fun t b hv hb=>by
    cases t with
    |au=>exact ⟨0,_,by decide,rfl,rfl,by simp only[nU,h0];exact hb⟩ |tx=>exact ⟨1,_,by decide,rfl,rfl,by simp only[nU,d2];exact hb⟩ |DX=>exact ⟨2,_,by decide,rfl,rfl,by simp only[nU,d3];exact hb⟩ |bu=>exact ⟨3,_,by decide,rfl,rfl,by simp only[nU,d4];exact hb⟩ |ob=>exact ⟨6,_,by decide,rfl,rfl,by simp only[nU,d0];exact hb⟩ |rc j=>
     cases hv;refine ⟨4,_,by decide,rfl,rfl,?_⟩;simp[b6,L'] at hb;simp only[nU,r1];rw[<-hb];rfl
    |de j=>
     cases hv;grind [b6,nH]
   have hR:∀j,j<σ.rs.length->L'.R j=L.R j:=fun j hj=>if_neg (by omega);have hmap:∀(f:Option Nat),(∀j,f=ae j->j<σ.rs.length)->(f.map fun i=>rW (L'.R i))=f.map fun i=>rW (L.R i):=fun f hf=>by
    cases f with
    |none=>rfl |some j=>simp_all
   have mk:=MH (H':=H') (w':=w') (σ':=⟨many',σ.rs++[r]⟩) (L':=L') hA hown' hW hH ⟨trivial,trivial,trivial,trivial,trivial⟩ (fun _=>l8) p2 hob
    (by
     grind [aD,rW,List.range_succ,List.map_congr_left])
    ⟨ms1,Ro,s2,by
     have:(fun k=>((⟨many',σ.rs++[r]⟩:Au).yt k).map fun i=>rW (L'.R i))=NT (Ag σ L) [(e.tx,ae (rW pr)),(e.tx,ae x2)]:=by
      funext k;rw[hby k];simp only[NT];by_cases hk:k=e.tx
      ·simp[hk,L']
      ·rw[if_neg hk,if_neg hk,if_neg hk]
       exact hmap _ fun j hj=>Vj hj
     simp_all⟩
    ⟨ms2,Rq,t2,by
     have:(fun k=>((⟨many',σ.rs++[r]⟩:Au).Ba k).map fun i=>rW (L'.R i))=NT (zT σ L) [(e.thread,ae (rW pr)),(e.thread,ae y2)]:=by
      funext k;rw[hbu k];simp only[NT];by_cases hk:k=e.thread
      ·simp[hk,L']
      ·rw[if_neg hk,if_neg hk,if_neg hk]
       exact hmap _ fun j hj=>Vj hj
     simp_all⟩
    (fun j rj hj hv=>by
     cases hv;have:rj=r:=by simp_all
     subst this;simp only[L',if_true];refine ⟨r2,?_⟩;simp_all [Ik])
    (fun j rj hj hv=>by
     have hne:¬j=σ.rs.length:=fun q=>hv (by rw[q];exact rfl);grind)
    (fun t b hv hb=>by
     obtain ⟨id,sb,_,_,a3,a4⟩:=hbl t b hv hb;exact ⟨((hh.ent _ _ a3).lt a4).2.1,((hh.ent _ _ a3).lt a4).2.2⟩)
    (fun s t b hs ht bs bt=>by
     obtain ⟨id,sb,a1,a2,a3,a4⟩:=hbl s b hs bs;obtain ⟨id',sb',b1,b2,b3,b4⟩:=hbl t b ht bt;have:=hh.vV _ _ _ _ _ a3 b3 a4 b4;simp_all)
   grind
end
end Go.Sx
namespace Go.oz
open Go Go.Sx
theorem EI{α:Type}{p:α->Bool}{x:α}:∀{l:List α} {i:Nat} {y:α},l[i]?=ae y->p x=p y->(l.set i x).findIdx? p=l.findIdx? p
 |[],_,_,h,_=>by simp at h |a::l,0,y,h,hp=>by
  grind
 |a::l,i+1,y,h,hp=>by
  simp only[List.set_cons_succ,iV];rw[EI (l:=l) (by simpa using h) hp]
theorem MI{α:Type}{p:α->Bool}:∀{l:List α} {i:Nat},l.findIdx? p=ae i->∃y,l[i]?=ae y/\p y=ah
 |[],_,h=>by simp at h |a::l,i,h=>by
  rw[iV] at h;cases ha:p a with
  |true=>grind |false=>
   rw[ha] at h;simp at h;obtain ⟨j,hj,rfl⟩:=h;obtain ⟨y,h1,h2⟩:=MI hj;simp_all
theorem ae5{α:Type}{p:α->Bool}{l:List α}(h:∀(i:Nat) (y:α),l[i]?=ae y->p y=ag):l.findIdx? p=ao:=by
 rw[gK];intro x hx;obtain ⟨i,hi,rfl⟩:=List.getElem_of_mem hx;exact h i _ (aC hi)
theorem ZX{α:Type}{p:α->Bool}{x:α}:∀{l:List α},(l++[x]).findIdx? p=match l.findIdx? p with|some i=>ae i|none=>if p x then ae l.length else ao
 |[]=>by rfl |a::l=>by
  grind
theorem JI{many:Nat}{e:Ev}{r r':Rc}(h:bD many e r=.inr r'):r'.id=r.id/\r'.th=r.th:=by
 grind [bD]
theorem Pz{many:Nat}{e:Ev}{r r':Rc}(h:bD many e r=.inr r')(hk:2<=e.kind/\e.kind<=7)(hs:1<=r.stand/\r.stand<=5):r.live=ah/\(1<=r'.stand/\r'.stand<=5)/\(r'.live=ah↔¬(e.kind=5\/e.kind=6)):=by
 unfold bD at h;unfold Rc.live;(by_cases k2:e.kind=2)<;>grind
end Go.oz
namespace Go.oH
open Go Go.Sx Go.oz
section
variable{n m:Nat}{o:Nat->Oj}{many:Nat}{gR:Nat->List Sh}{M1 M2:Int->Option Value}
theorem akt(hm:many<400){e:Ev}(h1:0<=e.obj)(h2:e.obj<n)(h3:Cj e.op=(o e.obj.toNat).kind)(hk:e.kind=2)(hv:oQ e=ah):
  uG (xE [toN n m o many gR M1 M2 [(e.tx,ag,.any)] []] (fun sv k=>sv=svE (ae 12)/\k=0)) ((run (C5 mM W5 qw oN) 700 ah 78 [.code []] (LA 2 e (hpA n m o many gR M1 M2 [(e.tx,ag,.any)] []))).bind (toEnd [toN n m o many gR M1 M2 [(e.tx,ag,.any)] []])):=by
 obtain ⟨kind,tx,thread,obj,op,key,val,ret⟩:=e;have hk:kind=2:=hk;subst hk;have hw:=hm;have hroom:=hm;have h1:0<=obj:=h1;have h2:obj<n:=h2;have h3:Cj op=(o obj.toNat).kind:=h3;have ho:mM.le (mM.nK n) obj=ah->False:=fun q=>by grind [tN,ny]
 have hi:mM.inB obj n=ah:=by simp[nN];omega
 have hq:mM.nt (mM.eq (Cj op) (o (mM.toN obj)).kind)=ah->False:=fun q=>by
  simp_all [oL,nG,oZ]
 rw[atf mM W5 n m o many gR M1 M2 ⟨2,tx,thread,obj,op,key,val,ret⟩ many,qj];repeat' (first
  |exact trivial
  |exact hv
  |exact hw
  |exact hi
  |exact hroom
  |exact eqS _
  |exact rfl
  |exact fun _ _=>rfl
  |(intro q;exact (ho q).elim)
  |(intro q;exact (hq q).elim)
  |(intro q;replace q:=FT q;omega)
  |(intro q;replace q:=eqF q;first|(exfalso;omega) |skip)
  |intro _
  |refine aW ?_ ?_)
theorem aku(hm:many<400){e:Ev}(hk:e.kind=3)(hv:oQ e=ah):
  uG (xE [toN n m o many gR M1 M2 [(e.tx,ag,.any)] []] (fun sv k=>sv=svE (ae 12)/\k=0)) ((run (C5 mM W5 qw oN) 700 ah 78 [.code []] (LA 3 e (hpA n m o many gR M1 M2 [(e.tx,ag,.any)] []))).bind (toEnd [toN n m o many gR M1 M2 [(e.tx,ag,.any)] []])):=by
 obtain ⟨kind,tx,thread,obj,op,key,val,ret⟩:=e;have hk:kind=3:=hk;subst hk;have hw:=hm;have hroom:=hm;have ho:=hm;have hi:=hm;have hq:=hm;rw[atg mM W5 n m o many gR M1 M2 ⟨3,tx,thread,obj,op,key,val,ret⟩ many,qj];repeat' (first
  |exact trivial
  |exact hv
  |exact hw
  |exact hi
  |exact hroom
  |exact eqS _
  |exact rfl
  |exact fun _ _=>rfl
  |(intro q;exact (ho q).elim)
  |(intro q;exact (hq q).elim)
  |(intro q;replace q:=FT q;omega)
  |(intro q;replace q:=eqF q;first|(exfalso;omega) |skip)
  |intro _
  |refine aW ?_ ?_)
theorem akv(hm:many<400){e:Ev}(hk:e.kind=4)(hv:oQ e=ah):
  uG (xE [toN n m o many gR M1 M2 [(e.tx,ag,.any)] []] (fun sv k=>sv=svE (ae 12)/\k=0)) ((run (C5 mM W5 qw oN) 700 ah 78 [.code []] (LA 4 e (hpA n m o many gR M1 M2 [(e.tx,ag,.any)] []))).bind (toEnd [toN n m o many gR M1 M2 [(e.tx,ag,.any)] []])):=by
 obtain ⟨kind,tx,thread,obj,op,key,val,ret⟩:=e;have hk:kind=4:=hk;subst hk;have hw:=hm;have hroom:=hm;have ho:=hm;have hi:=hm;have hq:=hm;rw[ath mM W5 n m o many gR M1 M2 ⟨4,tx,thread,obj,op,key,val,ret⟩ many,qj];repeat' (first
  |exact trivial
  |exact hv
  |exact hw
  |exact hi
  |exact hroom
  |exact eqS _
  |exact rfl
  |exact fun _ _=>rfl
  |(intro q;exact (ho q).elim)
  |(intro q;exact (hq q).elim)
  |(intro q;replace q:=FT q;omega)
  |(intro q;replace q:=eqF q;first|(exfalso;omega) |skip)
  |intro _
  |refine aW ?_ ?_)
theorem akw(hm:many<400){e:Ev}(hk:e.kind=5)(hv:oQ e=ah):
  uG (xE [toN n m o many gR M1 M2 [(e.tx,ag,.any)] []] (fun sv k=>sv=svE (ae 12)/\k=0)) ((run (C5 mM W5 qw oN) 700 ah 78 [.code []] (LA 5 e (hpA n m o many gR M1 M2 [(e.tx,ag,.any)] []))).bind (toEnd [toN n m o many gR M1 M2 [(e.tx,ag,.any)] []])):=by
 obtain ⟨kind,tx,thread,obj,op,key,val,ret⟩:=e;have hk:kind=5:=hk;subst hk;have hw:=hm;have hroom:=hm;have ho:=hm;have hi:=hm;have hq:=hm;rw[ati mM W5 n m o many gR M1 M2 ⟨5,tx,thread,obj,op,key,val,ret⟩ many,qj];repeat' (first
  |exact trivial
  |exact hv
  |exact hw
  |exact hi
  |exact hroom
  |exact eqS _
  |exact rfl
  |exact fun _ _=>rfl
  |(intro q;exact (ho q).elim)
  |(intro q;exact (hq q).elim)
  |(intro q;replace q:=FT q;omega)
  |(intro q;replace q:=eqF q;first|(exfalso;omega) |skip)
  |intro _
  |refine aW ?_ ?_)
theorem akx(hm:many<400){e:Ev}(hk:e.kind=6)(hv:oQ e=ah):
  uG (xE [toN n m o many gR M1 M2 [(e.tx,ag,.any)] []] (fun sv k=>sv=svE (ae 12)/\k=0)) ((run (C5 mM W5 qw oN) 700 ah 78 [.code []] (LA 6 e (hpA n m o many gR M1 M2 [(e.tx,ag,.any)] []))).bind (toEnd [toN n m o many gR M1 M2 [(e.tx,ag,.any)] []])):=by
 obtain ⟨kind,tx,thread,obj,op,key,val,ret⟩:=e;have hk:kind=6:=hk;subst hk;have hw:=hm;have hroom:=hm;have ho:=hm;have hi:=hm;have hq:=hm;rw[atj mM W5 n m o many gR M1 M2 ⟨6,tx,thread,obj,op,key,val,ret⟩ many,qj];repeat' (first
  |exact trivial
  |exact hv
  |exact hw
  |exact hi
  |exact hroom
  |exact eqS _
  |exact rfl
  |exact fun _ _=>rfl
  |(intro q;exact (ho q).elim)
  |(intro q;exact (hq q).elim)
  |(intro q;replace q:=FT q;omega)
  |(intro q;replace q:=eqF q;first|(exfalso;omega) |skip)
  |intro _
  |refine aW ?_ ?_)
theorem aky(hm:many<400){e:Ev}(hk:e.kind=7)(hv:oQ e=ah):
  uG (xE [toN n m o many gR M1 M2 [(e.tx,ag,.any)] []] (fun sv k=>sv=svE (ae 12)/\k=0)) ((run (C5 mM W5 qw oN) 700 ah 78 [.code []] (LA 7 e (hpA n m o many gR M1 M2 [(e.tx,ag,.any)] []))).bind (toEnd [toN n m o many gR M1 M2 [(e.tx,ag,.any)] []])):=by
 obtain ⟨kind,tx,thread,obj,op,key,val,ret⟩:=e;have hk:kind=7:=hk;subst hk;have hw:=hm;have hroom:=hm;have ho:=hm;have hi:=hm;have hq:=hm;rw[atl mM W5 n m o many gR M1 M2 ⟨7,tx,thread,obj,op,key,val,ret⟩ many,qj];repeat' (first
  |exact trivial
  |exact hv
  |exact hw
  |exact hi
  |exact hroom
  |exact eqS _
  |exact rfl
  |exact fun _ _=>rfl
  |(intro q;exact (ho q).elim)
  |(intro q;exact (hq q).elim)
  |(intro q;replace q:=FT q;omega)
  |(intro q;replace q:=eqF q;first|(exfalso;omega) |skip)
  |intro _
  |refine aW ?_ ?_)
theorem anS(hm:many<400){e:Ev}(hk:e.kind=1)(hv:oQ e=ah)(r:Rc):
  uG (xE [um n m o gR M1 M2 e many r []] (fun sv k=>sv=svE (ae 10)/\k=0)) ((run (C5 mM W5 qw oN) 700 ah 78 [.code []] (LA 1 e (hpA n m o many gR M1 M2 [(e.tx,ah,.ptr 4 0)] []++wz r))).bind (toEnd [um n m o gR M1 M2 e many r []])):=by
 obtain ⟨kind,tx,thread,obj,op,key,val,ret⟩:=e;obtain ⟨id,th,st,bg,en,tr,mV,stand⟩:=r;have hk:kind=1:=hk;subst hk;have hw:=hm;have hroom:=hm;have ho:=hm;have hi:=hm;have hq:=hm;unfold um wz;simp only;rw[atm mM W5 n m o many gR M1 M2 ⟨1,tx,thread,obj,op,key,val,ret⟩ id th st bg en tr stand mV.length (nth mV) many id th st bg en tr stand mV.length (mO (nth mV)),qj];repeat' (first
  |exact trivial
  |exact hv
  |exact hw
  |exact hi
  |exact hroom
  |exact eqS _
  |exact rfl
  |exact fun _ _=>rfl
  |(intro q;exact (ho q).elim)
  |(intro q;exact (hq q).elim)
  |(intro q;replace q:=FT q;omega)
  |(intro q;replace q:=eqF q;first|(exfalso;omega) |skip)
  |intro _
  |refine aW ?_ ?_)
theorem aqt(hm:many<400){e:Ev}(hk:e.kind=1)(hv:oQ e=ah)(q:Nat):
  uG (xE [toN n m o many gR M1 M2 [(e.tx,ag,.any)] [(e.thread,ah,.val (.pointer (ae ⟨q,0,ao⟩)))]] (fun sv k=>sv=svE (ae 11)/\k=0)) ((run (C5 mM W5 qw oN) 700 ah 78 [.code []] (LA 1 e (hpA n m o many gR M1 M2 [(e.tx,ag,.any)] [(e.thread,ah,.val (.pointer (ae ⟨q,0,ao⟩)))]))).bind (toEnd [toN n m o many gR M1 M2 [(e.tx,ag,.any)] [(e.thread,ah,.val (.pointer (ae ⟨q,0,ao⟩)))]])):=by
 obtain ⟨kind,tx,thread,obj,op,key,val,ret⟩:=e;have hk:kind=1:=hk;subst hk;have hw:=hm;have hroom:=hm;have ho:=hm;have hi:=hm;have hq:=hm;rw[atn mM W5 n m o many gR M1 M2 ⟨1,tx,thread,obj,op,key,val,ret⟩ q many,qj];repeat' (first
  |exact trivial
  |exact hv
  |exact hw
  |exact hi
  |exact hroom
  |exact eqS _
  |exact rfl
  |exact fun _ _=>rfl
  |(intro q;exact (ho q).elim)
  |(intro q;exact (hq q).elim)
  |(intro q;replace q:=FT q;omega)
  |(intro q;replace q:=eqF q;first|(exfalso;omega) |skip)
  |intro _
  |refine aW ?_ ?_)
theorem anT(hm:many<400)(hl:m<=1000){e:Ev}(hk:e.kind=1)(hv:oQ e=ah):
  uG (xE [toB n m o gR M1 M2 e (many+1:Nat) e.tx e.thread 1 many (-1) (-1) 1] (fun sv k=>sv=svE ao/\k=0)) ((run (C5 mM W5 qw oN) 700 ah 78 [.code []] (LA 1 e (hpA n m o many gR M1 M2 [(e.tx,ag,.any)] [(e.thread,ag,.any)]))).bind (toEnd [toB n m o gR M1 M2 e (many+1:Nat) e.tx e.thread 1 many (-1) (-1) 1])):=by
 obtain ⟨kind,tx,thread,obj,op,key,val,ret⟩:=e;have hk:kind=1:=hk;subst hk;have hw:=wrapM hm;have hroom:mM.room (mM.addN m 1) 8=ah:=by
  show decide ((m+1)*8<=140737488355328/\m+1<=maxLen)=ah;grind [maxLen_eq,decide_eq_true]
 have ho:=hm;have hi:=hm;have hq:=hm;rw[ato mM W5 n m o many gR M1 M2 ⟨1,tx,thread,obj,op,key,val,ret⟩ (many+1:Nat) tx thread 1 many (-1) (-1) 1,qj];repeat' (first
  |exact trivial
  |exact hv
  |exact hw
  |exact hi
  |exact hroom
  |exact eqS _
  |exact rfl
  |exact fun _ _=>rfl
  |(intro q;exact (ho q).elim)
  |(intro q;exact (hq q).elim)
  |(intro q;replace q:=FT q;omega)
  |(intro q;replace q:=eqF q;first|(exfalso;omega) |skip)
  |intro _
  |refine aW ?_ ?_)
end
open Go Go.Sx Go.oz
def anU(H:Mem):Option Nat->Value->Prop
 |none,v=>v=.nilIface |some k,v=>Rep H (.er k 288) v
theorem Yp{H:Mem}{E:Env}{x:Option Nat}{v:Value}(h:Den H E (svE x) v):anU H x v:=by
 cases x with
 |none=>exact h |some k=>exact h
def MJ(L:Lay)(k:Nat):Nat->Prop:=fun b=>∃t,L.blk k t=ae b
def IG(H:Mem)(w:World)(n:Nat)(o:Nat->Oj)(σ:Au)(L:Lay)(x:Option Nat)(σ':Au)(en:Ending)(w':World):Prop:=
 ∃v H' L',en=.returned v/\anU H' x v/\rF H' w' n (mO o) σ' L'/\L'.p=L.p/\(∀t b,L'.blk σ'.rs.length t=ae b->w.heap.size<=b\/MJ L σ.rs.length b)/\H.le H'/\sF ⟨w,MJ L σ.rs.length,H⟩ H' w'
theorem Nz{w w':World}{H H':Mem}{own own':Nat->Prop}(h:sF ⟨w,own,H⟩ H' w')(ho:∀b,own b->own' b):sF ⟨w,own',H⟩ H' w':=
 ⟨h.os,h.tape,h.output,h.size,fun b hb hn=>h.kept b hb fun q=>hn (ho b q),h.on,h.le,fun b hb=>by
  (rcases h.fresh b hb with q|q|q)<;>simp_all⟩
def TW(e:Ev):Value:=.agg #[.int .i64 e.kind,.int .i64 e.tx,.int .i64 e.thread,.int .i64 e.obj,.int .i64 e.op,.int .i64 e.key,.int .i64 e.val,.int .i64 e.ret]
@[irreducible] def aiX (H:Mem) (E:Env) (l:List SV) (vs:List Value):Prop:=ni H E l vs
theorem ae6{H:Mem}{E:Env}{l:List SV}{vs:List Value}:aiX H E l vs=ni H E l vs:=by unfold aiX;rfl
theorem MK{P:Program}{C:Ctx}{H:Mem}{E:Env}{w:World}(hC:oC P C)(hF:oD P C){n g:Nat}{fn:Func}{c:Core}{args:Array Value}{ts:List KD}{φ:SV->Nat->Prop}(hfn:C.fns.get g=ae fn)(hb:fn.body.isSome=ah)
  (hd:aiX H E c.tm (args++bo (fn.ntmps - args.size) undef).toList) (hh:nI ⟨w,Ec E c.hp,H⟩ H E w c.hp) (hon:H.on w) (hfree:Free E c) (hg:qE C.gls H)
  (h:uG (xE ts φ) ((run C n ah g [.code []] c).bind (toEnd ts))) :
  Calls P g args w fun e w'=>∃v sv k t H' E1 E',e=.returned v/\φ sv k/\ts[k]?=ae t/\Den H' E1 sv v/\nI ⟨w,Ec E c.hp,H⟩ H' E' w' t.hp/\sF ⟨w,Ec E c.hp,H⟩ H' w'/\H.le H'/\∀i∈t.keep,∀u,E i=ae u->E' i=ae u:=by
 grind [ae6,agM]
theorem anV(a b u:Value)(k:Nat):(#[a,b]++bo k u).toList=[a,b]++bf k u:=by simp
theorem acD{H:Mem}{E:Env}{L:Lay}{e:Ev}{kind:Int}{hp:List (Nat×SB)}(hk:e.kind=kind)(h0:E 0=ae (rW L.p)):aiX H E (LA kind e hp).tm (#[rW L.p,TW e]++bo (cL.ntmps - #[rW L.p,TW e].size) undef).toList:=by
 have hn:cL.ntmps=168:=by kernel_rfl
 rw[ae6,hn,anV];have e1:(LA kind e hp).tm=[.ptr 0 0,evS kind e]++bf 166 .any:=rfl;have e3:168 - #[rW L.p,TW e].size=166:=rfl;rw[e1,e3];refine ni.append ⟨⟨L.p,by rw[h0];rfl,rfl⟩,⟨_,rfl,⟨by rw[<-hk];rfl,rfl,rfl,rfl,rfl,rfl,rfl,rfl,trivial⟩⟩,trivial⟩ (ni.any _ _ ?_);rfl
theorem PD{L:Lay}{i:Option Nat}{c:Core}(h:c.nx=7):Free (zO L i) c:=fun id h1 _=>by
 rw[h] at h1;match id,h1 with
 |id+7,_=>rfl
section
variable{H:Mem}{w:World}{n:Nat}{o:Nat->Oj}{σ:Au}{L:Lay}{e:Ev}
theorem Dn(hA:rF H w n (mO o) σ L)(hon:H.on w)(hg:qE (DW W5) H){i:Nat}{r:Rc}(hi:σ.rs[i]?=ae r)(hby:σ.yt e.tx=ae i){kind:Int}(hk:e.kind=kind){ts:List KD}{φ:SV->Nat->Prop}
  (hrun:uG (xE ts φ) ((run (C5 mM W5 qw oN) 700 ah 78 [.code []] (LA kind e (hpA n σ.rs.length o σ.many (yu L.R) (Ag σ L) (zT σ L) [(e.tx,ah,.ptr 4 0)] []++wz r))).bind (toEnd ts)))
  {x:Option Nat} {many':Nat} {r':Rc} (hid:r'.id=r.id)
  (hts:∀sv k t,φ sv k->ts[k]?=ae t->sv=svE x/\∃us,t=um n σ.rs.length o (yu L.R) (Ag σ L) (zT σ L) e many' r' us/\ae3 σ ⟨many',σ.rs.set i r'⟩ us) :
  Calls ai 78 #[rW L.p,TW e] w (IG H w n o σ L x ⟨many',σ.rs.set i r'⟩):=by
 have hown:=anQ (f1:=[(e.tx,ah,.ptr 4 0)]) (f2:=[]) hA hi;have Yq:=akr (own:=Ec (zO L (ae i)) (BM n o σ L [(e.tx,ah,.ptr 4 0)] []++wz r)) hA hi (fun t b h1 h2=>(hown b).2 ⟨t,h1,h2⟩) (f1:=[(e.tx,ah,.ptr 4 0)]) (f2:=[]) (v1:=[(e.tx,ae (rW (L.R i)))]) (v2:=[])
  ⟨rfl,⟨⟨L.R i,rfl,rfl⟩,rfl⟩,trivial⟩ trivial (fun k u hm=>by
   simp at hm;obtain ⟨rfl,rfl⟩:=hm;simp[Ag,hby]) (fun k u hm=>by simp at hm)
 have hd:=acD (H:=H) (E:=zO L (ae i)) (L:=L) (hp:=hpA n σ.rs.length o σ.many (yu L.R) (Ag σ L) (zT σ L) [(e.tx,ah,.ptr 4 0)] []++wz r) hk rfl;refine (MK (args:=#[rW L.p,TW e]) (fn:=cL) (c:=LA kind e (hpA n σ.rs.length o σ.many (yu L.R) (Ag σ L) (zT σ L) [(e.tx,ah,.ptr 4 0)] []++wz r)) (C5.ok _ _) (ahd _) (by kernel_rfl) (by kernel_rfl) hd Yq hon (PD rfl) hg hrun).mono fun en w' ⟨v,sv,k,t,H',E1,E',h1,h2,h3,h4,h5,h6,h7,h8⟩=>?_;obtain ⟨hsv,us,rfl,hus⟩:=hts sv k t h2 h3;subst hsv;obtain ⟨L',a1,a2,a3⟩:=ahf hA hi hown h5 h6 h7 (h8 0 (by simp[um,toR]) _ rfl) (h8 4 (by simp[um,toR]) _ rfl)
  (fun k=>EI hi (by simp[hid])) hus
 exact ⟨v,H',L',h1,Yp h4,a1,a2,a3,h7,Nz h6 fun b hb=>by
  obtain ⟨t,_,q⟩:=(hown b).1 hb;exact ⟨t,q⟩⟩
theorem Yr(hA:rF H w n (mO o) σ L)(hon:H.on w)(hg:qE (DW W5) H)(hby:σ.yt e.tx=ao){kind:Int}(hk:e.kind=kind){f2:List (Int×Bool×SV)}{v2:List (Int×Option Value)}(d2:xP H (zO L ao) f2 v2)(m2:∀k u,(k,u)∈v2->zT σ L k=u){x:Option Nat}
  (hrun:uG (xE [toN n σ.rs.length o σ.many (yu L.R) (Ag σ L) (zT σ L) [(e.tx,ag,.any)] f2] (fun sv k=>sv=svE x/\k=0)) ((run (C5 mM W5 qw oN) 700 ah 78 [.code []] (LA kind e (hpA n σ.rs.length o σ.many (yu L.R) (Ag σ L) (zT σ L) [(e.tx,ag,.any)] f2))).bind (toEnd [toN n σ.rs.length o σ.many (yu L.R) (Ag σ L) (zT σ L) [(e.tx,ag,.any)] f2]))) :
  Calls ai 78 #[rW L.p,TW e] w (IG H w n o σ L x σ):=by
 have hown:=aa1 (n:=n) (o:=o) (σ:=σ) (L:=L) (f1:=[(e.tx,ag,.any)]) (f2:=f2);have Yq:=Yo (own:=Ec (zO L ao) (BM n o σ L [(e.tx,ag,.any)] f2)) hA (fun t b h1 h2=>(hown b).2 ⟨t,h1,h2⟩) (f1:=[(e.tx,ag,.any)]) (f2:=f2) (v1:=[(e.tx,ao)]) (v2:=v2)
  ⟨rfl,trivial,trivial⟩ d2 (fun k u hm=>by
   simp at hm;obtain ⟨rfl,rfl⟩:=hm;simp[Ag,hby]) m2
 have hd:=acD (H:=H) (E:=zO L ao) (L:=L) (hp:=hpA n σ.rs.length o σ.many (yu L.R) (Ag σ L) (zT σ L) [(e.tx,ag,.any)] f2) hk rfl;refine (MK (args:=#[rW L.p,TW e]) (fn:=cL) (c:=LA kind e (hpA n σ.rs.length o σ.many (yu L.R) (Ag σ L) (zT σ L) [(e.tx,ag,.any)] f2)) (C5.ok _ _) (ahd _) (by kernel_rfl) (by kernel_rfl) hd Yq hon (PD rfl) hg hrun).mono fun en w' ⟨v,sv,k,t,H',E1,E',h1,h2,h3,h4,h5,h6,h7,h8⟩=>?_;obtain ⟨rfl,rfl⟩:=h2;cases h3;obtain ⟨L',a1,a2,a3⟩:=ae4 hA hown h5 h6 h7 (h8 0 (by simp[toN]) _ rfl);exact ⟨v,H',L',h1,Yp h4,a1,a2,a3,h7,Nz h6 fun b hb=>by
  obtain ⟨t,_,q⟩:=(hown b).1 hb;exact ⟨t,q⟩⟩
theorem TY(hA:rF H w n (mO o) σ L)(hon:H.on w)(hg:qE (DW W5) H)(hm:σ.many<400)(hl:σ.rs.length<=1000)(hby:σ.yt e.tx=ao)(hbu:σ.Ba e.thread=ao)(hk:e.kind=1)(hv:oQ e=ah):
  Calls ai 78 #[rW L.p,TW e] w (IG H w n o σ L ao ⟨σ.many+1,σ.rs++[⟨e.tx,e.thread,1,σ.many,-1,-1,[],1⟩]⟩):=by
 have hown:=aa1 (n:=n) (o:=o) (σ:=σ) (L:=L) (f1:=[(e.tx,ag,.any)]) (f2:=[(e.thread,ag,.any)]);have Yq:=Yo (own:=Ec (zO L ao) (BM n o σ L [(e.tx,ag,.any)] [(e.thread,ag,.any)])) hA (fun t b h1 h2=>(hown b).2 ⟨t,h1,h2⟩) (f1:=[(e.tx,ag,.any)]) (f2:=[(e.thread,ag,.any)]) (v1:=[(e.tx,ao)]) (v2:=[(e.thread,ao)])
  ⟨rfl,trivial,trivial⟩ ⟨rfl,trivial,trivial⟩ (fun k u hm=>by
   simp at hm;obtain ⟨rfl,rfl⟩:=hm;simp[Ag,hby]) (fun k u hm=>by
   simp at hm;obtain ⟨rfl,rfl⟩:=hm;simp[zT,hbu])
 have hd:=acD (H:=H) (E:=zO L ao) (L:=L) (hp:=hpA n σ.rs.length o σ.many (yu L.R) (Ag σ L) (zT σ L) [(e.tx,ag,.any)] [(e.thread,ag,.any)]) hk rfl;refine (MK (args:=#[rW L.p,TW e]) (fn:=cL) (c:=LA 1 e (hpA n σ.rs.length o σ.many (yu L.R) (Ag σ L) (zT σ L) [(e.tx,ag,.any)] [(e.thread,ag,.any)])) (C5.ok _ _) (ahd _) (by kernel_rfl) (by kernel_rfl) hd Yq hon (PD rfl) hg (anT hm hl hk hv)).mono fun en w' ⟨v,sv,k,t,H',E1,E',h1,h2,h3,h4,h5,h6,h7,h8⟩=>?_;obtain ⟨rfl,rfl⟩:=h2;cases h3;obtain ⟨L',a1,a2,a3⟩:=ahg (r:=⟨e.tx,e.thread,1,σ.many,-1,-1,[],1⟩) hA hown rfl h5 h6 h7 (h8 0 (by simp[toB]) _ rfl)
  (fun k=>by
   grind [Au.yt])
  (fun k=>by
   show (σ.rs++[_]).findIdx? _=_;rw[ZX];by_cases q:k=e.thread
   ·subst q
    rw[if_pos rfl,show σ.rs.findIdx? (fun r=>r.th==e.thread&&r.live)=ao from hbu];simp[Rc.live]
   grind [Au.Ba])
 exact ⟨v,H',L',h1,Yp h4,a1,a2,a3,h7,Nz h6 fun b hb=>by
  obtain ⟨t,_,q⟩:=(hown b).1 hb;exact ⟨t,q⟩⟩
end
end Go.oH
namespace Go.oz
open Go Go.Sx
theorem NC{α:Type}{l:List α}{i:Nat}{x:α}(h:l[i]?=ae x):l.set i x=l:=by
 apply fE;grind
theorem ES(many:Nat)(e:Ev)(r:Rc):(Rc.out many e r).2.2.id=r.id:=by
 grind [Rc.out,bD,JI]
theorem zG{σ:Au}{e:Ev}{i:Nat}{r:Rc}(hi:σ.rs[i]?=ae r)(hby:σ.yt e.tx=ae i)(hk:¬e.kind=1):σ.feed e=((Rc.out σ.many e r).1,⟨(Rc.out σ.many e r).2.1,σ.rs.set i (Rc.out σ.many e r).2.2⟩):=by
 have h1:(e.kind==1)=ag:=by grind
 have hr:σ.rs.getD i ⟨0,0,0,0,0,0,[],0⟩=r:=by simp_all
 unfold fS;rw[hby];simp only[h1,cond_false,hr];unfold Rc.out;cases h:bD σ.many e r with
 |inl k=>simp only[NC hi] |inr r'=>rfl
theorem Gy{e:Ev}(h:oQ e=ah):1<=e.kind/\e.kind<=7:=by
 unfold oQ at h;simp only[ak] at h;have:=of_decide_eq_true h.1.1;exact this.1
end Go.oz
namespace Go.oH
open Go Go.Sx Go.oz
theorem ML{σ:Au}{i:Nat}{r:Rc}{e:Ev}(hi:σ.rs[i]?=ae r)(hs:1<=r.stand/\r.stand<=5)(hk:2<=e.kind/\e.kind<=7)(hn:¬(e.kind=5\/e.kind=6)\/(Rc.out σ.many e r).1.isNone=ag):ae3 σ ⟨(Rc.out σ.many e r).2.1,σ.rs.set i (Rc.out σ.many e r).2.2⟩ []:=by
 refine .inl ⟨rfl,fun k=>?_⟩;unfold Rc.out at hn ⊢;cases h:bD σ.many e r with
 |inl x=>simp only[NC hi] |inr r'=>
  rw[h] at hn;have hn:¬(e.kind=5\/e.kind=6):=by grind
  obtain ⟨l1,l2,l3⟩:=Pz h hk hs;exact EI hi (by rw[(JI h).2,l1,l3.2 hn])
theorem aqu{σ:Au}(hI:σ.OK){i:Nat}{r:Rc}{e:Ev}(hi:σ.rs[i]?=ae r)(hk:e.kind=5\/e.kind=6)(hn:(Rc.out σ.many e r).1.isNone=ah):ae3 σ ⟨(Rc.out σ.many e r).2.1,σ.rs.set i (Rc.out σ.many e r).2.2⟩ [(r.th,ag,.any)]:=by
 refine .inr ⟨r.th,.any,rfl,fun k=>?_⟩;unfold Rc.out at hn ⊢;cases h:bD σ.many e r with
 |inl x=>simp_all |inr r'=>
  obtain ⟨l1,l2,l3⟩:=Pz h (by omega) (hI.stands i r hi);have hl:r'.live=ag:=by
   simp_all
  have ht:=(JI h).2;have hlt:=(aJ.1 hi).1;by_cases q:k=r.th
  ·rw[if_pos q]
   subst q;refine ae5 fun j y hj=>?_
   rw[List.getElem?_set] at hj;by_cases e1:i=j
   ·simp_all
   ·rw[if_neg e1] at hj
    cases h1:(y.th==r.th&&y.live) with
    |false=>rfl |true=>
     simp only[ak,beq_iff_eq] at h1;exact (e1 (hI.one i j r y hi hj h1.1.symm l1 h1.2)).elim
  ·rw[if_neg q]
   refine EI hi ?_;grind
section
variable{H:Mem}{w:World}{n:Nat}{o:Nat->Oj}{σ:Au}{L:Lay}{e:Ev}
theorem ts1{t0 t:KD}{k:Nat}(h:[t0][k]?=ae t)(hk:k=0):t=t0:=by
 simp_all
theorem anX(hA:rF H w n (mO o) σ L)(hI:σ.OK)(hon:H.on w)(hg:qE (DW W5) H)(hm:σ.many<400)(hv:oQ e=ah)(hob:e.kind=2->0<=e.obj/\e.obj<n/\Cj e.op=(o e.obj.toNat).kind):
  Calls ai 78 #[rW L.p,TW e] w (IG H w n o σ L (σ.feed e).1 (σ.feed e).2):=by
 have hkd:=Gy hv;have hlen:=hI.len;cases hby:σ.yt e.tx with
 |some i=>
  obtain ⟨r,hi,hp⟩:=MI hby
  have hdl:=hI.dl i r hi;by_cases k1:e.kind=1
  ·have e1:σ.feed e=(ae 10,σ):=by
    simp_all [fS]
   rw[e1];have:=Dn hA hon hg hi hby k1 (anS (n:=n) (o:=o) hm k1 hv r) (x:=ae 10) (many':=σ.many) (r':=r) rfl fun sv k t h1 h2=>⟨h1.1,[],ts1 h2 h1.2,.inl ⟨rfl,fun k=>by rw[NC hi]⟩⟩;simp_all [NC]
  ·rw[zG hi hby k1]
   have hst:=hI.stands i r hi;by_cases k2:e.kind=2
   ·obtain ⟨h1,h2,h3⟩:=hob k2
    exact Dn hA hon hg hi hby k2 (anK hm k2 hv r (by omega) h1 h2 h3) (ES _ _ _) fun sv k t h1 h2=>⟨h1.1,[],ts1 h2 h1.2,ML hi hst (by omega) (.inl (by omega))⟩
   by_cases k3:e.kind=3
   ·exact Dn hA hon hg hi hby k3 (anL hm k3 hv r (by omega) (hI.deed i r hi)) (ES _ _ _) fun sv k t h1 h2=>⟨h1.1,[],ts1 h2 h1.2,ML hi hst (by omega) (.inl (by omega))⟩
   by_cases k4:e.kind=4
   ·exact Dn hA hon hg hi hby k4 (anG hm k4 hv r) (ES _ _ _) fun sv k t h1 h2=>⟨h1.1,[],ts1 h2 h1.2,ML hi hst (by omega) (.inl (by omega))⟩
   by_cases k7:e.kind=7
   ·exact Dn hA hon hg hi hby k7 (anH hm k7 hv r) (ES _ _ _) fun sv k t h1 h2=>⟨h1.1,[],ts1 h2 h1.2,ML hi hst (by omega) (.inl (by omega))⟩
   have fin:∀(sv:SV) (k:Nat) (t:KD),(sv=svE (Rc.out σ.many e r).1/\k=bif (Rc.out σ.many e r).1.isNone then 1 else 0)->
     [um n σ.rs.length o (yu L.R) (Ag σ L) (zT σ L) e (Rc.out σ.many e r).2.1 (Rc.out σ.many e r).2.2 [],um n σ.rs.length o (yu L.R) (Ag σ L) (zT σ L) e (Rc.out σ.many e r).2.1 (Rc.out σ.many e r).2.2 [(r.th,ag,.any)]][k]?=ae t->
     sv=svE (Rc.out σ.many e r).1/\∃us,t=um n σ.rs.length o (yu L.R) (Ag σ L) (zT σ L) e (Rc.out σ.many e r).2.1 (Rc.out σ.many e r).2.2 us/\ae3 σ ⟨(Rc.out σ.many e r).2.1,σ.rs.set i (Rc.out σ.many e r).2.2⟩ us:=fun sv k t h1 h2=>by
    obtain ⟨a,rfl⟩:=h1;refine ⟨a,?_⟩;cases hn:(Rc.out σ.many e r).1.isNone with
    |true=>
     grind [aqu]
    |false=>
     grind [ML]
   by_cases k5:e.kind=5
   ·exact Dn hA hon hg hi hby k5 (anI hm k5 hv r) (ES _ _ _) fin
   have k6:e.kind=6:=by omega
   exact Dn hA hon hg hi hby k6 (anJ hm k6 hv r) (ES _ _ _) fin
 |none=>
  by_cases k1:e.kind=1
  ·have hb:(e.kind==1)=ah:=by grind
   cases hbu:σ.Ba e.thread with
   |some j=>
    have e1:σ.feed e=(ae 11,σ):=by
     simp_all [fS,cond_true]
    rw[e1];exact Yr hA hon hg hby k1 (f2:=[(e.thread,ah,.val (.pointer (ae ⟨L.R j,0,ao⟩)))]) (v2:=[(e.thread,ae (rW (L.R j)))]) ⟨rfl,⟨⟨rfl,rfl⟩,rfl⟩,trivial⟩ (fun k u hm=>by
     simp at hm;obtain ⟨rfl,rfl⟩:=hm;simp[zT,hbu]) (aqt hm k1 hv (L.R j))
   |none=>
    have e1:σ.feed e=(ao,⟨σ.many+1,σ.rs++[⟨e.tx,e.thread,1,σ.many,-1,-1,[],1⟩]⟩):=by
     simp_all [fS,cond_true]
    grind [TY]
  ·have hb:(e.kind==1)=ag:=by grind
   have e1:σ.feed e=(ae 12,σ):=by
    grind [fS]
   rw[e1];have go:∀kd:Int,e.kind=kd->uG (xE [toN n σ.rs.length o σ.many (yu L.R) (Ag σ L) (zT σ L) [(e.tx,ag,.any)] []] (fun sv k=>sv=svE (ae 12)/\k=0)) ((run (C5 mM W5 qw oN) 700 ah 78 [.code []] (LA kd e (hpA n σ.rs.length o σ.many (yu L.R) (Ag σ L) (zT σ L) [(e.tx,ag,.any)] []))).bind (toEnd [toN n σ.rs.length o σ.many (yu L.R) (Ag σ L) (zT σ L) [(e.tx,ag,.any)] []]))->
     Calls ai 78 #[rW L.p,TW e] w (IG H w n o σ L (ae 12) σ):=fun kd hk hr=>Yr hA hon hg hby hk (f2:=[]) (v2:=[]) trivial (fun k u hm=>by simp at hm) hr
   grind [akt,aku,akv,akw,akx,aky]
end
end Go.oH
namespace Go.oz
open Go Go.Sx
theorem ae7{many:Nat}{e:Ev}{r r':Rc}(h:bD many e r=.inr r')(_hd:r.stand=2->r.mV≠[]):(r'.stand=2->r'.mV≠[])/\r'.mV.length<=r.mV.length+1:=by
 unfold bD at h;have hup:∀(f:De->De) (l:List De),(uq f l).length=l.length:=fun f l=>by
  induction l with
  |nil=>rfl |cons x l ih=>cases l with
   |nil=>rfl |cons y l=>grind [uq]
 grind
theorem Au.OK.feed{σ:Au}(hI:σ.OK){e:Ev}(hv:oQ e=ah):(σ.feed e).2.OK:=by
 have hkd:=Gy hv;unfold fS;cases hby:σ.yt e.tx with
 |some i=>
  obtain ⟨r,hi,hp⟩:=MI hby
  have hr:σ.rs.getD i ⟨0,0,0,0,0,0,[],0⟩=r:=by simp_all
  have hlt:=(aJ.1 hi).1;by_cases k1:e.kind=1
  ·simp_all
  have b1:(e.kind==1)=ag:=by grind
  simp only[b1,cond_false,hr];cases h:bD σ.many e r with
  |inl k=>exact hI |inr r'=>
   show Au.OK ⟨σ.many+1,σ.rs.set i r'⟩;obtain ⟨l1,l2,l3⟩:=Pz h (by omega) (hI.stands i r hi);obtain ⟨d1,d2⟩:=ae7 h (hI.deed i r hi);have hk:=(JI h).2;have at_:∀{j:Nat} {s:Rc},(σ.rs.set i r')[j]?=ae s->(j=i/\s=r')\/(j≠i/\σ.rs[j]?=ae s):=fun {j s} hj=>by
    grind
   refine ⟨fun a b x y ha hb ht hx hy=>?_,fun a x ha=>?_,fun a x ha=>?_,by simp;have:=hI.len;omega,fun a x ha=>?_⟩
   ·rcases at_ ha with ⟨rfl,rfl⟩ |⟨n1,ha'⟩
    ·rcases at_ hb with ⟨rfl,rfl⟩ |⟨n2,hb'⟩
     ·rfl
     ·exact hI.one _ _ r y hi hb' (by omega) l1 hy
    ·rcases at_ hb with ⟨rfl,rfl⟩ |⟨n2,hb'⟩
     ·exact hI.one _ _ x r ha' hi (by omega) hx l1
     ·exact hI.one _ _ x y ha' hb' ht hx hy
   ·rcases at_ ha with ⟨rfl,rfl⟩ |⟨n1,ha'⟩
    ·exact d1
    ·exact hI.deed _ _ ha'
   ·rcases at_ ha with ⟨rfl,rfl⟩ |⟨n1,ha'⟩
    ·exact l2
    ·exact hI.stands _ _ ha'
   ·rcases at_ ha with ⟨rfl,rfl⟩ |⟨n1,ha'⟩
    ·have:=hI.dl _ _ hi
     grind
    ·have:=hI.dl _ _ ha'
     grind
 |none=>
  by_cases k1:e.kind=1
  ·simp only[k1,beq_self_eq_true,cond_true]
   cases hbu:σ.Ba e.thread with
   |some j=>exact hI |none=>
    show Au.OK ⟨σ.many+1,σ.rs++[⟨e.tx,e.thread,1,σ.many,-1,-1,[],1⟩]⟩;have hno:∀(j:Nat) (s:Rc),σ.rs[j]?=ae s->s.th=e.thread->s.live=ah->False:=fun j s hj ht hl=>by
     have:=gK.1 hbu s (List.mem_of_getElem? hj);simp_all
    have at_:∀{j:Nat} {s x:Rc},(σ.rs++[x])[j]?=ae s->(j=σ.rs.length/\s=x)\/(j<σ.rs.length/\σ.rs[j]?=ae s):=fun {j s x} hj=>by
     grind
    refine ⟨fun a b x y ha hb ht hx hy=>?_,fun a x ha=>?_,fun a x ha=>?_,by simp;have:=hI.len;omega,fun a x ha=>?_⟩
    ·rcases at_ ha with ⟨rfl,rfl⟩ |⟨n1,ha'⟩
     ·grind
     ·rcases at_ hb with ⟨rfl,rfl⟩ |⟨n2,hb'⟩
      ·grind
      ·exact hI.one _ _ x y ha' hb' ht hx hy
    ·rcases at_ ha with ⟨rfl,rfl⟩ |⟨n1,ha'⟩
     ·simp
     ·exact hI.deed _ _ ha'
    ·rcases at_ ha with ⟨rfl,rfl⟩ |⟨n1,ha'⟩
     ·simp
     ·exact hI.stands _ _ ha'
    ·rcases at_ ha with ⟨rfl,rfl⟩ |⟨n1,ha'⟩
     ·simp
     ·have:=hI.dl _ _ ha'
      grind
  grind
def Au.nil:Au:=⟨0,[]⟩
theorem Au.OK.nil:Au.nil.OK:=⟨fun i j r s h=>by simp[Au.nil] at h,fun i r h=>by simp[Au.nil] at h,fun i r h=>by simp[Au.nil] at h,Nat.le_refl _,fun i r h=>by simp[Au.nil] at h⟩
theorem FU{σ:Au}{e:Ev}(h:(σ.feed e).1=ao):(σ.feed e).2.many=σ.many+1:=by
 grind [fS]
end Go.oz
namespace Go.oH
open Go Go.Sx Go.oz
theorem anY{H H':Mem}{n:Nat}{o:Nat->Oj}{xs:List Value}(h:pG H 2 n (mO o) xs):pG H' 2 n (mO o) xs:=
 ⟨h.1,h.2.1,h.2.2.1,fun i j s v hi h1 h2=>by
  have:=h.2.2.2 i j s v hi h1 h2;have hs:∃k,s=.i .i64 k:=by
   match j,h1 with
   |0,h1=>exact ⟨_,(aS h1).symm⟩ |1,h1=>exact ⟨_,(aS h1).symm⟩ |j+2,h1=>simp[mO,Row.put,obR] at h1
  obtain ⟨k,rfl⟩:=hs;cases this;exact .i _ _⟩
def Dp(n:Nat)(o:Nat->Oj)(σ:Au)(p:Nat):Hp->Prop:=fun h=>
 ∃L:Lay,L.p=p/\(∀b,h b≠ao↔MJ L σ.rs.length b)/\∀(H:Mem) (w:World),h.at H w->rF H w n (mO o) σ L
theorem rF.hide{H:Mem}{w:World}{n:Nat}{o:Nat->Oj}{σ:Au}{L:Lay}(hA:rF H w n (mO o) σ L):∃h:Hp,Dp n o σ L.p h/\h.at H w/\∀b,h b≠ao↔MJ L σ.rs.length b:=by
 classical
 have hlt:∀{b},MJ L σ.rs.length b->∃o,w.heap[b]?=ae o:=fun {b} ⟨t,ht⟩=>⟨_,gA (hA.lt ht)⟩;have hne:∀b,(if MJ L σ.rs.length b then w.heap[b]? else ao)≠ao↔MJ L σ.rs.length b:=fun b=>by
  grind
 refine ⟨fun b=>if MJ L σ.rs.length b then w.heap[b]? else ao,⟨L,rfl,hne,fun H' w' hat=>?_⟩,fun b o e=>?_,hne⟩
 ·have at_:∀t b,L.blk σ.rs.length t=ae b->w'.heap[b]?=w.heap[b]?/\H' b=ao:=fun t b hb=>by
   obtain ⟨o,ho⟩:=hlt ⟨t,hb⟩;have:=hat b o ((if_pos (⟨t,hb⟩:MJ L σ.rs.length b)).trans ho);simp_all
  have h0:rF (fun _=>ao) w n (mO o) σ L:=⟨hA.au,let ⟨xs,h1,h2⟩:=hA.ob;⟨xs,h1,anY h2⟩,hA.tx,hA.DX,hA.bu,hA.rc,hA.de,hA.vV,fun _ _ _=>rfl⟩;exact h0.keep (fun _ _ e=>by cases e) (fun t b hb=>(at_ t b hb).1) fun t b hb=>(at_ t b hb).2
 ·by_cases q:MJ L σ.rs.length b
  ·simp only[if_pos q] at e
   exact ⟨e,let ⟨t,ht⟩:=q;hA.un t b ht⟩
  simp_all
theorem atq{n:Nat}{o:Nat->Oj}{σ:Au}{p:Nat}{e:Ev}{es:SV}(hes:∀H E v,Den H E es v->v=TW e)(hI:σ.OK)(hm:σ.many<400)(hv:oQ e=ah)(hob:e.kind=2->0<=e.obj/\e.obj<n/\Cj e.op=(o e.obj.toNat).kind):
  aiw ai (DW W5) 78 [.val (rW p),es] (Dp n o σ p) (svE (σ.feed e).1) (Dp n o (σ.feed e).2 p):=by
 intro H E w vs h hd hon hg ⟨L,hp,hblk,hA⟩ hat;match vs,hd with
 |[v1,v2],⟨d1,d2,_⟩=>
  obtain ⟨rfl,_⟩:=d1;obtain rfl:=hes _ _ _ d2;subst hp;refine Calls.mono (anX (hA H w hat) hI hon hg hm hv hob) fun en w' ⟨v,H',L',h1,h2,h3,h4,h5,h6,h7⟩=>?_;obtain ⟨h',r1,r2,r3⟩:=rF.hide h3;refine ⟨v,H',h',h1,?_,by simp_all,r2,h6,Nz h7 fun b hb=>(hblk b).2 hb,fun b hb=>?_⟩
  ·cases hx:(σ.feed e).1 with
   |none=>rw[hx] at h2;exact h2 |some k=>rw[hx] at h2;exact h2
  ·obtain ⟨t,ht⟩:=(r3 b).1 hb
   grind
section
variable{H:Mem}{E:Env}{w:World}{K:Kx}{n:Nat}{o:Nat->Oj}{h:Hp}
theorem aa3{b b1 b2:Nat}{v0:Value}(au:w.heap[b]?=ae (.cells #[v0,.int .i64 0,.slice ao 0 0,.map (ae b1),.map (ae b2)] 185 (0,0)))
  (ob:∃xs,w.ownsRow 0 73 2 v0 n xs/\pG H 2 n (mO o) xs) (m1:∃ms clk,w.heap[b1]?=ae (.map ms clk)/\vJ .i64 ms.toList clk fun _=>ao) (m2:∃ms clk,w.heap[b2]?=ae (.map ms clk)/\vJ .i64 ms.toList clk fun _=>ao)
  (vV:b≠b1/\b≠b2/\b1≠b2/\∀x,nH v0=ae x->x≠b/\x≠b1/\x≠b2) (un:H b=ao/\H b1=ao/\H b2=ao/\∀x,nH v0=ae x->H x=ao) :
  rF H w n (mO o) Au.nil ⟨b,v0,.slice ao 0 0,b1,b2,fun _=>0,fun _=>.slice ao 0 0⟩:=by
 obtain ⟨d1,d2,d3,d4⟩:=vV;refine ⟨au,ob,⟨rfl,.inl ⟨rfl,rfl⟩⟩,m1,m2,fun i r hi=>by simp[Au.nil] at hi,fun i r hi=>by simp[Au.nil] at hi,fun s t x hs ht=>?_,fun t x ht=>?_⟩
 ·cases s<;>cases t<;>simp[b6,Au.nil,nH] at hs ht<;>first|rfl|(exfalso;subst_vars;first|exact d1 rfl|exact d2 rfl|exact d3 rfl|exact d1 ht.symm|exact (d4 _ hs).1 rfl|exact (d4 _ hs).2.1 rfl|exact (d4 _ hs).2.2 rfl|exact (d4 _ ht).1 rfl|exact (d4 _ ht).2.1 rfl|exact (d4 _ ht).2.2 rfl|skip) |skip
  all_goals (first|exact d1 (hs.trans ht.symm) |exact d1 (hs ▸ ht ▸ rfl) |omega)
 ·cases t<;>simp[b6,Au.nil,nH] at ht<;>first|(subst ht;first|exact un.1|exact un.2.1|exact un.2.2.1) |exact un.2.2.2 _ ht
theorem Yt{hp:List (Nat×SB)}{σ:Au}{L:Lay}(hh:QJ E w hp h)(hA:rF H w n (mO o) σ L)(hb:∀x,(∃id sb,mQ hp id=ae sb/\nU E id sb=ae x)↔MJ L σ.rs.length x):Dp n o σ L.p h:=by
 obtain ⟨h0,r1,r2,r3⟩:=rF.hide hA;have:h0=h:=by
  funext x;have e1:=r3 x;have e2:=(hh.2 x).symm.trans (hb x);cases q:h x with
  |none=>
   grind
  |some o'=>
   cases q':h0 x with
   |none=>simp_all |some o''=>
    have a1:=hh.1 x _ q;have a2:=(r2 x _ q').1;simp_all
 simp_all
theorem V7{id:Nat}(hh:xU K H E w id (.fm .i64 (fun _=>ao) [] [] ao)):∃b ms clk,E id=ae (.map (ae b))/\w.heap[b]?=ae (.map ms clk)/\vJ .i64 ms.toList clk fun _=>ao:=by
 obtain ⟨b,ms,clk,fv,uv,s1,s2,s3,s4,s5,s6,_,s7⟩:=hh;obtain rfl:=IE s4;exact ⟨b,ms,clk,s1,s2,s6⟩
theorem anZ{o':Nat->List Sh}(ho:∀i,i<n->o' i=mO o i){n':Nat}(hn:n'=n){hp:List (Nat×SB)}(hpe:hp=[(3,.own 73 2 n' o'),(4,.fm .i64 (fun _=>ao) [] [] ao),(5,.fm .i64 (fun _=>ao) [] [] ao),(6,.box [.gs 3,.int .i64 0,.nS,.mp 4,.mp 5] 185)])
  (hh:nI K H E w hp) (hd:QJ E w hp h):∃b,E 6=ae (.pointer (ae ⟨b,0,ao⟩))/\Dp n o Au.nil b h:=by
 subst hn hpe;obtain ⟨v,xs,x1,x2,x3,x4⟩:=hh.ent 3 _ rfl;obtain ⟨b1,ms1,Ro,y1,y2,y3⟩:=V7 (hh.ent 4 _ rfl);obtain ⟨b2,ms2,Rq,z1,z2,z3⟩:=V7 (hh.ent 5 _ rfl);obtain ⟨b,⟨cs⟩,p1,p2,p3,p4⟩:=hh.ent 6 _ rfl;match cs,p3 with
 |[u0,u1,u2,u3,u4],⟨d0,d1,d2,d3,d4,_⟩=>
  have d1:u1=.int .i64 0:=d1;have d2:u2=.slice ao 0 0:=d2;obtain ⟨d0,_⟩:E 3=ae u0/\_:=d0;obtain ⟨c1,d3,d3'⟩:=d3;obtain ⟨c2,d4,d4'⟩:=d4;rw[x1] at d0;cases d0;rw[y1] at d3;cases d3;rw[z1] at d4;cases d4;subst d1 d2 d3' d4';have k3:nU E 3 (.own 73 2 n' o')=nH v:=by simp[nU,x1]
  have k4:nU E 4 (.fm .i64 (fun _=>ao) [] [] ao)=ae b1:=by simp[nU,y1,nH]
  have k5:nU E 5 (.fm .i64 (fun _=>ao) [] [] ao)=ae b2:=by simp[nU,z1,nH]
  have k6:nU E 6 (.box [.gs 3,.int .i64 0,.nS,.mp 4,.mp 5] 185)=ae b:=by simp[nU,p1,nH]
  have dd:∀{i j:Nat} {s t:SB} {x:Nat},mQ [(3,jM 73 2 n' o'),(4,.fm .i64 (fun _=>ao) [] [] ao),(5,.fm .i64 (fun _=>ao) [] [] ao),(6,.box [.gs 3,.int .i64 0,.nS,.mp 4,.mp 5] 185)] i=ae s->mQ [(3,jM 73 2 n' o'),(4,.fm .i64 (fun _=>ao) [] [] ao),(5,.fm .i64 (fun _=>ao) [] [] ao),(6,.box [.gs 3,.int .i64 0,.nS,.mp 4,.mp 5] 185)] j=ae t->nU E i s=ae x->nU E j t=ae x->i=j:=fun h1 h2 h3 h4=>hh.vV _ _ _ _ _ h1 h2 h3 h4
  have mi:∀{i:Nat} {s:SB} {x:Nat},mQ [(3,jM 73 2 n' o'),(4,.fm .i64 (fun _=>ao) [] [] ao),(5,.fm .i64 (fun _=>ao) [] [] ao),(6,.box [.gs 3,.int .i64 0,.nS,.mp 4,.mp 5] 185)] i=ae s->nU E i s=ae x->H x=ao:=fun h1 h2=>((hh.ent _ _ h1).lt h2).2.1;have hA:=aa3 (H:=H) (n:=n') (o:=o) p2 ⟨xs,x2,Le x3 ho⟩ ⟨ms1,Ro,y2,y3⟩ ⟨ms2,Rq,z2,z3⟩
   ⟨fun q=>(by simp_all),fun q=>(by simp_all),fun q=>(by subst q;cases dd (i:=4) (j:=5) rfl rfl k4 k5),
    fun x hx=>⟨fun q=>(by subst q;cases dd (i:=3) (j:=6) rfl rfl (k3.trans hx) k6),fun q=>(by subst q;cases dd (i:=3) (j:=4) rfl rfl (k3.trans hx) k4),fun q=>(by subst q;cases dd (i:=3) (j:=5) rfl rfl (k3.trans hx) k5)⟩⟩
   ⟨mi (i:=6) rfl k6,mi (i:=4) rfl k4,mi (i:=5) rfl k5,fun x hx=>mi (i:=3) rfl (k3.trans hx)⟩
  refine ⟨b,p1,Yt hd hA fun x=>⟨fun ⟨id,sb,h1,h2⟩=>?_,fun ⟨t,ht⟩=>?_⟩⟩
  ·simp only[mQ] at h1
   cases q3:(3:Nat)==id<;>simp only[q3,cond_true,cond_false] at h1
   ·cases q4:(4:Nat)==id<;>simp only[q4,cond_true,cond_false] at h1
    ·cases q5:(5:Nat)==id<;>simp only[q5,cond_true,cond_false] at h1
     ·cases q6:(6:Nat)==id<;>simp only[q6,cond_true,cond_false] at h1
      ·cases h1
      ·cases h1;obtain rfl:6=id:=by grind
       rw[k6] at h2;exact ⟨.au,h2⟩
     ·cases h1;obtain rfl:5=id:=by grind
      rw[k5] at h2;exact ⟨.bu,h2⟩
    ·cases h1;obtain rfl:4=id:=by grind
     rw[k4] at h2;exact ⟨.DX,h2⟩
   ·cases h1;obtain rfl:3=id:=by grind
    rw[k3] at h2;exact ⟨.ob,h2⟩
  ·cases t with
   |au=>exact ⟨6,_,rfl,k6.trans ht⟩ |tx=>cases ht |DX=>exact ⟨4,_,rfl,k4.trans ht⟩ |bu=>exact ⟨5,_,rfl,k5.trans ht⟩ |ob=>exact ⟨3,_,rfl,k3.trans ht⟩ |rc i=>simp[b6,Au.nil] at ht |de i=>simp[b6,Au.nil] at ht
theorem an0(hn:n=0){hp:List (Nat×SB)}(hpe:hp=[(2,.fm .i64 (fun _=>ao) [] [] ao),(3,.fm .i64 (fun _=>ao) [] [] ao),(4,.box [.nS,.int .i64 0,.nS,.mp 2,.mp 3] 185)])
  (hh:nI K H E w hp) (hd:QJ E w hp h):∃b,E 4=ae (.pointer (ae ⟨b,0,ao⟩))/\Dp n o Au.nil b h:=by
 subst hn hpe;obtain ⟨b1,ms1,Ro,y1,y2,y3⟩:=V7 (hh.ent 2 _ rfl);obtain ⟨b2,ms2,Rq,z1,z2,z3⟩:=V7 (hh.ent 3 _ rfl);obtain ⟨b,⟨cs⟩,p1,p2,p3,p4⟩:=hh.ent 4 _ rfl;match cs,p3 with
 |[u0,u1,u2,u3,u4],⟨d0,d1,d2,d3,d4,_⟩=>
  have d1:u1=.int .i64 0:=d1;have d2:u2=.slice ao 0 0:=d2;have d0:u0=.slice ao 0 0:=d0;obtain ⟨c1,d3,d3'⟩:=d3;obtain ⟨c2,d4,d4'⟩:=d4;rw[y1] at d3;cases d3;rw[z1] at d4;cases d4;subst d0 d1 d2 d3' d4';have k4:nU E 2 (.fm .i64 (fun _=>ao) [] [] ao)=ae b1:=by simp[nU,y1,nH]
  have k5:nU E 3 (.fm .i64 (fun _=>ao) [] [] ao)=ae b2:=by simp[nU,z1,nH]
  have k6:nU E 4 (.box [.nS,.int .i64 0,.nS,.mp 2,.mp 3] 185)=ae b:=by simp[nU,p1,nH]
  have dd:∀{i j:Nat} {s t:SB} {x:Nat},mQ [(2,gb .i64 (fun _=>ao) [] [] ao),(3,.fm .i64 (fun _=>ao) [] [] ao),(4,.box [.nS,.int .i64 0,.nS,.mp 2,.mp 3] 185)] i=ae s->mQ [(2,gb .i64 (fun _=>ao) [] [] ao),(3,.fm .i64 (fun _=>ao) [] [] ao),(4,.box [.nS,.int .i64 0,.nS,.mp 2,.mp 3] 185)] j=ae t->nU E i s=ae x->nU E j t=ae x->i=j:=fun h1 h2 h3 h4=>hh.vV _ _ _ _ _ h1 h2 h3 h4
  have mi:∀{i:Nat} {s:SB} {x:Nat},mQ [(2,gb .i64 (fun _=>ao) [] [] ao),(3,.fm .i64 (fun _=>ao) [] [] ao),(4,.box [.nS,.int .i64 0,.nS,.mp 2,.mp 3] 185)] i=ae s->nU E i s=ae x->H x=ao:=fun h1 h2=>((hh.ent _ _ h1).lt h2).2.1;have hA:=aa3 (H:=H) (n:=0) (o:=o) p2 ⟨[],⟨rfl,.inl ⟨rfl,rfl⟩⟩,CV 2 _⟩ ⟨ms1,Ro,y2,y3⟩ ⟨ms2,Rq,z2,z3⟩
   ⟨fun q=>(by simp_all),fun q=>(by simp_all),fun q=>(by subst q;cases dd (i:=2) (j:=3) rfl rfl k4 k5),fun x hx=>by cases hx⟩
   ⟨mi (i:=4) rfl k6,mi (i:=2) rfl k4,mi (i:=3) rfl k5,fun x hx=>by cases hx⟩
  refine ⟨b,p1,Yt hd hA fun x=>⟨fun ⟨id,sb,h1,h2⟩=>?_,fun ⟨t,ht⟩=>?_⟩⟩
  ·simp only[mQ] at h1
   cases q4:(2:Nat)==id<;>simp only[q4,cond_true,cond_false] at h1
   ·cases q5:(3:Nat)==id<;>simp only[q5,cond_true,cond_false] at h1
    ·cases q6:(4:Nat)==id<;>simp only[q6,cond_true,cond_false] at h1
     ·cases h1
     ·cases h1;obtain rfl:4=id:=by grind
      rw[k6] at h2;exact ⟨.au,h2⟩
    ·cases h1;obtain rfl:3=id:=by grind
     rw[k5] at h2;exact ⟨.bu,h2⟩
   ·cases h1;obtain rfl:2=id:=by grind
    rw[k4] at h2;exact ⟨.DX,h2⟩
  ·cases t with
   |au=>exact ⟨4,_,rfl,k6.trans ht⟩ |tx=>cases ht |DX=>exact ⟨2,_,rfl,k4.trans ht⟩ |bu=>exact ⟨3,_,rfl,k5.trans ht⟩ |ob=>cases ht |rc i=>simp[b6,Au.nil] at ht |de i=>simp[b6,Au.nil] at ht
end
open Go Go.Sx Go.oz
def Yu:Nat->Option (List Sh->Tree Sh)
 |62=>ae anx |_=>ao
noncomputable def CT(A:Prim)(W:Wd):Ctx:={C5 A W Yu mZ with alj:=fun t=>bif bJ t 183 then ae (.i64,[]) else ao}
def aiY(g:Nat):Bool:=bJ g 78
def Rt:List It:=[aA [0,1,0,1,1,1,1],aM 0,aA [1,1,1,1,1]]
def arJ:List It:=aA [0,0,1,0,1,1,1,1]::Rt
def Ua(g:Nat):Bool:=bJ g 78||bJ g 60
def LT(m:Nat)(p:Nat->Ev)(b:Nat)(c i:Int):Core:=
 {tm:=[.any,.any,.uN,.sS,.any,.val (.pointer (ae ⟨b,0,ao⟩))]++rep [.any] 19++[.sh (.sl 8 m (mO p)),.sym .i64 c,.sym .i64 i]++rep [.any] 16,hp:=[],nx:=0,lim:=L0,tc:=[]}
def Kq:List Fr:=[{g:=43,td:=[fT [0,1] [1,2,3,4,5,6],aA [1,1]],tm:=[.any,.any,.nS,.sS]++rep [.any] 12}]
def tdP:List It:=[fT [0,1,0,0,1,1,0,0,1,0,1,1,1,1] [2,3],aA [1,1,0,0,1,1,0,0,1,0,1,1,1,1],aM 1,aA [1,1,1,0,0,1,0,1,1,1,1]]++Rt
def tdQ:List It:=[fT [0,1,0,0,1,1,0,0,1,0,1,1,1,1] [3],aA [1,1,0,0,1,1,0,0,1,0,1,1,1,1],aM 1,aA [1,1,1,0,0,1,0,1,1,1,1]]++Rt
def LP(m:Nat)(p:Nat->Ev)(b:Nat)(c i:Int)(e:Ev)(x:SV):Core:=
 {tm:=[.any,.any,.uN,.sS,.any,.val (.pointer (ae ⟨b,0,ao⟩)),.any,.sym .i64 i]++rep [.any] 17++[.sh (.sl 8 m (mO p)),.sym .i64 c,.sym .i64 i]++rep [.any] 4 ++
   [.val (.pointer (ae ⟨b,0,ao⟩)),.agg [.sym .i64 e.kind,.sym .i64 e.tx,.sym .i64 e.thread,.sym .i64 e.obj,.sym .i64 e.op,.sym .i64 e.key,.sym .i64 e.val,.sym .i64 e.ret],x]++rep [.any] 9,hp:=[],nx:=0,lim:=L0,tc:=[]}
def aa4:List It:=[fT [0,1,1,1] [1,2,3],aA [1,1,1,1]]
def LX(x:SV):Core:={tm:=[.any,.any,.nS,.sS]++rep [.any] 10++[x,.any],hp:=[],nx:=0,lim:=L0,tc:=[]}
def rcR(N:Rc->Nat)(D:Rc->Nat->List Sh)(r:Rc):List Sh:=[.i .i64 r.id,.i .i64 r.th,.i .i64 r.st,.i .i64 r.bg,.i .i64 r.en,.i .i64 r.tr,.sl 8 (N r) (D r),.i .i64 r.stand]
def VI(N:Rc->Nat)(D:Rc->Nat->List Sh)(rs:Nat->Rc):Nat->List Sh:=fun j=>[.pt (rcR N D (rs j))]
def auX(N:Rc->Nat)(D:Rc->Nat->List Sh)(v0:Value)(many:Int)(k:Nat)(rs:Nat->Rc)(b1 b2:Nat):SV:=.yD 5 1 (fun _=>[.v v0,.i .i64 many,.sl 1 k (VI N D rs),.v (.map (ae b1)),.v (.map (ae b2))]) 0 0
def txR(N:Rc->Nat)(D:Rc->Nat->List Sh)(r:Rc):List Sh:=[.i .i64 r.id,.i .i64 r.th,.i .i64 r.st,.i .i64 r.bg,.i .i64 r.en,.i .i64 r.tr,.sl 8 (N r) (D r)]
def JJ(N:Rc->Nat)(D:Rc->Nat->List Sh)(rs:Nat->Rc):Nat->List Sh:=fun j=>txR N D (rs j)
def tdT:List It:=[aA [0,1,0,1,1],aM 0,aA [1,1,1]]
def tbT:List It:=aA [0,0,1,0,1,1]::tdT
def aa5(N:Rc->Nat)(D:Rc->Nat->List Sh)(k:Nat)(rs:Nat->Rc)(c i:Int)(j:Nat)(gg:Nat->List Sh):Core:=
 {tm:=[.any,.any,.any,.gs 0]++rep [.any] 12++[.sh (.sl 1 k (VI N D rs)),.sym .i64 c,.sym .i64 i]++rep [.any] 21,hp:=[(0,.own 106 7 j gg)],nx:=1,lim:=L0,tc:=[]}
def frX:List Fr:=[{g:=43,td:=aa4,tm:=[.any,.any,.nS,.sS]++rep [.any] 12}]
theorem a32(A:Prim)(W:Wd)(n m:Nat)(o:Nat->Oj)(p:Nat->Ev):aro (CT A W) aiY 300 400 43 [.code []] (nX 16 [.agg [.sl 2 n (mO o),.sl 8 m (mO p)]] L0) []=al (okB Oj n (mO o)) (al (okB Ev m (mO p)) (al (FP m (mO p)) (aq (wI n m) (ap (jN (aL [aj 0 0 fun _=>[],aX 6 288]))) (aq (uF n m (mO o) (mO p)) (al (okB Oj n (mO o)) (al (okB Ev 0 fun _=>[]) (al (FP 0 fun _=>[]) (aq (wI n 0) (ap (jN (aL [aj 0 0 fun _=>[],aX 6 288]))) (aq (uF n 0 (mO o) fun _=>[]) (aq (A.Wu n 0) ((ap (l9 59 [aA [0,1,0,1,1,1,1],aM 0,aA [1,1,1,1,1]] {tm:=[dX [bc (aj 2 n (mO o)),bc (aj 8 m (mO p))],dY 1 0,mh,bQ,bQ,dY 4 0,bQ,aG,aG,aG,aG,aG,aG,gL ag,aG,aG,aG,aG,aG,aG,aG,aG,gL ag,aG,aG,bc (aj 8 m (mO p)),SV.sym az (A.nK m),ir az (ab 0),aG,aG,aG,aG,aG,aG,aG,aG,aG,aG,aG,aG,aG,aG,aG,aG],hp:=[(0,dZ [bc (aj 2 n (mO o)),bc (aj 8 m (mO p))] 25),(1,dZ [bc (aj 2 n (mO o)),bc (aj 8 m (mO p))] 25),(2,gb az (fun _=>ao) [] [] ao),(3,gb az (fun _=>ao) [] [] ao),(4,dZ [d7,ir az (ab 0),d7,iK 2,iK 3] 185)],nx:=5,lim:=1000000000000000000000000000000,tc:=[]} [{g:=43,td:=[fT [0,1] [1,2,3,4,5,6],aA [1,1]],tm:=[dX [bc (aj 2 n (mO o)),bc (aj 8 m (mO p))],dY 0 0,d7,bQ,aG,aG,aG,dX [bc (aj 2 n (mO o)),bc (aj 8 m (mO p))],aG,aG,aG,aG,aG,aG,aG,aG]}])).both (al (A.room (A.addN 0 n) 16) (ap (l9 59 [aA [0,1,0,1,1,1,1],aM 0,aA [1,1,1,1,1]] {tm:=[dX [bc (aj 2 n (mO o)),bc (aj 8 m (mO p))],dY 1 0,mh,bQ,bQ,dY 6 0,bQ,aG,aG,aG,aG,aG,aG,gL ag,aG,aG,aG,aG,aG,aG,aG,aG,gL ag,aG,aG,bc (aj 8 m (mO p)),SV.sym az (A.nK m),ir az (ab 0),aG,aG,aG,aG,aG,aG,aG,aG,aG,aG,aG,aG,aG,aG,aG,aG],hp:=[(0,dZ [bc (aj 2 n (mO o)),bc (aj 8 m (mO p))] 25),(1,dZ [bc (aj 2 n (mO o)),bc (aj 8 m (mO p))] 25),(3,jM 73 2 (A.addN 0 n) (A.snoc (nM []) 0 (mO o))),(4,gb az (fun _=>ao) [] [] ao),(5,gb az (fun _=>ao) [] [] ao),(6,dZ [SV.gs 3,ir az (ab 0),d7,iK 4,iK 5] 185)],nx:=7,lim:=1000000000000000000000000000000,tc:=[2]} [{g:=43,td:=[fT [0,1] [1,2,3,4,5,6],aA [1,1]],tm:=[dX [bc (aj 2 n (mO o)),bc (aj 8 m (mO p))],dY 0 0,d7,bQ,aG,aG,aG,dX [bc (aj 2 n (mO o)),bc (aj 8 m (mO p))],aG,aG,aG,aG,aG,aG,aG,aG]}])))) (al (A.room (A.addN 0 n) 16) (ap (l9 59 [aA [0,1,0,1,1,1,1],aM 0,aA [1,1,1,1,1]] {tm:=[dX [bc (aj 2 n (mO o)),bc (aj 8 m (mO p))],dY 1 0,mh,bQ,bQ,dY 6 0,bQ,aG,aG,aG,aG,aG,aG,gL ag,aG,aG,aG,aG,aG,aG,aG,aG,gL ag,aG,aG,bc (aj 8 m (mO p)),SV.sym az (A.nK m),ir az (ab 0),aG,aG,aG,aG,aG,aG,aG,aG,aG,aG,aG,aG,aG,aG,aG,aG],hp:=[(0,dZ [bc (aj 2 n (mO o)),bc (aj 8 m (mO p))] 25),(1,dZ [bc (aj 2 n (mO o)),bc (aj 8 m (mO p))] 25),(3,jM 73 2 (A.addN 0 n) (A.snoc (nM []) 0 (mO o))),(4,gb az (fun _=>ao) [] [] ao),(5,gb az (fun _=>ao) [] [] ao),(6,dZ [SV.gs 3,ir az (ab 0),d7,iK 4,iK 5] 185)],nx:=7,lim:=1000000000000000000000000000000,tc:=[2]} [{g:=43,td:=[fT [0,1] [1,2,3,4,5,6],aA [1,1]],tm:=[dX [bc (aj 2 n (mO o)),bc (aj 8 m (mO p))],dY 0 0,d7,bQ,aG,aG,aG,dX [bc (aj 2 n (mO o)),bc (aj 8 m (mO p))],aG,aG,aG,aG,aG,aG,aG,aG]}])))) (ap (jN (aL [aj 0 0 fun _=>[],fj 90 (gz [av .i64 (BK n 0 (mO o) fun _=>[]),aX (FQ n 0 (mO o) fun _=>[]) 288])])))))))) (ap (jN (aL [aj 0 0 fun _=>[],fj 90 (gz [av .i64 (BK n m (mO o) (mO p)),aX (FQ n m (mO o) (mO p)) 288])]))))))):=by kernel_rfl
theorem b32(A:Prim)(W:Wd)(m:Nat)(p:Nat->Ev)(b:Nat)(c i:Int)(k:Nat):nR (CT A W) Ua 300 400 59 arJ (LT m p b c i) Kq [⟨59,tdP,LP m p b c i (p k) .any,Kq⟩,⟨43,aa4,LX (.val (.pointer (ae ⟨b,0,ao⟩))),[]⟩]=aq (A.lt i c) (al (A.inB i m) (ap (aH 0 [dL (bP (ae {block:=b,off:=0})) (bP (ae {block:=b,off:=0})),ac i i,aw (aj 8 m (mO p)) (aj 8 m (mO p)),ac c c,ac i i,dL (bP (ae {block:=b,off:=0})) (bP (ae {block:=b,off:=0})),ac (p (A.toN i)).kind (p k).kind,ac (p (A.toN i)).tx (p k).tx,ac (p (A.toN i)).thread (p k).thread,ac (p (A.toN i)).obj (p k).obj,ac (p (A.toN i)).op (p k).op,ac (p (A.toN i)).key (p k).key,ac (p (A.toN i)).val (p k).val,ac (p (A.toN i)).ret (p k).ret]))) (ap (aH 1 [dL (bP (ae {block:=b,off:=0})) (bP (ae {block:=b,off:=0}))])):=by kernel_rfl
theorem c32(A:Prim)(W:Wd)(m:Nat)(p:Nat->Ev)(b:Nat)(c i i1:Int)(e:Ev):nR (CT A W) Ua 300 400 59 tdQ (LP m p b c i e .sS) Kq [⟨59,Rt,LT m p b c i1,Kq⟩]=ap (aH 0 [dL (bP (ae {block:=b,off:=0})) (bP (ae {block:=b,off:=0})),aw (aj 8 m (mO p)) (aj 8 m (mO p)),ac c c,ac (A.add .i64 i (ab 1)) i1]):=by kernel_rfl
theorem d32(A:Prim)(W:Wd)(m:Nat)(p:Nat->Ev)(b:Nat)(c i:Int)(e:Ev)(k:Nat):nR (CT A W) Ua 300 400 59 tdQ (LP m p b c i e (.sh (.er k 288))) Kq []=ap (ar (aL [aj 0 0 fun _=>[],fj 90 (gz [av .i64 i,aX k 288])])):=by kernel_rfl
theorem e32(A:Prim)(W:Wd)(N:Rc->Nat)(D:Rc->Nat->List Sh)(v0:Value)(many:Int)(k:Nat)(rs:Nat->Rc)(b1 b2:Nat)(c i:Int)(j:Nat)(gg:Nat->List Sh):nR (CT A W) tX 300 400 43 aa4 (LX (auX N D v0 many k rs b1 b2)) [] [⟨60,tdT,aa5 N D k rs c i j gg,frX⟩]=al (A.le (ab 0) (A.nK k)) (al (A.room (A.toN (A.nK k)) 72) (ap (aH 0 [aw (aj 1 k (VI N D rs)) (aj 1 k (VI N D rs)),ac (A.nK k) c,ac (ab 0) i,am 0 j,ax 0 (fun _=>[]) gg]))):=by kernel_rfl
theorem f32(A:Prim)(W:Wd)(N:Rc->Nat)(D:Rc->Nat->List Sh)(k:Nat)(rs:Nat->Rc)(c i i1:Int)(j j1:Nat)(gg g1:Nat->List Sh):arp (CT A W) tX 300 400 60 tbT (aa5 N D k rs c i j gg) frX [⟨60,tdT,aa5 N D k rs c i1 j1 g1,frX⟩]=aq (A.lt i c) (al (A.inB i k) (al (A.le (ab 0) (A.nK (N (rs (A.toN i))))) (al (A.room (A.toN (A.nK (N (rs (A.toN i))))) 64) (al (A.room (A.addN 0 (N (rs (A.toN i)))) 64) (al (A.le (ab 0) (A.nK (N (rs (A.toN i))))) (al (A.room (A.toN (A.nK (N (rs (A.toN i))))) 64) (al (A.room (A.addN 0 (N (rs (A.toN i)))) 64) (aR [am 1 1,aF (fun _=>rcR N D (rs (A.toN i))) fun _=>rcR N D (rs (A.toN i)),am 0 0,aw (aj 1 k (VI N D rs)) (aj 1 k (VI N D rs)),ac c c,ac i i,am j j,aF gg gg,ac (rs (A.toN i)).id (rs (A.toN i)).id,ac (rs (A.toN i)).th (rs (A.toN i)).th,ac (rs (A.toN i)).st (rs (A.toN i)).st,ac (rs (A.toN i)).bg (rs (A.toN i)).bg,ac (rs (A.toN i)).en (rs (A.toN i)).en,ac (rs (A.toN i)).tr (rs (A.toN i)).tr,am (A.addN 0 (N (rs (A.toN i)))) (A.addN 0 (N (rs (A.toN i)))),aF (A.snoc (fun _=>[]) 0 (D (rs (A.toN i)))) (A.snoc (fun _=>[]) 0 (D (rs (A.toN i))))] (al (A.le (ab 0) (A.nK (N (rs (A.toN i))))) (al (A.room (A.toN (A.nK (N (rs (A.toN i))))) 64) (al (A.room (A.addN 0 (N (rs (A.toN i)))) 64) (aR [am 1 1,aF (fun _=>rcR N D (rs (A.toN i))) fun _=>rcR N D (rs (A.toN i)),am 0 0,aw (aj 1 k (VI N D rs)) (aj 1 k (VI N D rs)),ac c c,ac i i,am j j,aF gg gg,ac (rs (A.toN i)).id (rs (A.toN i)).id,ac (rs (A.toN i)).th (rs (A.toN i)).th,ac (rs (A.toN i)).st (rs (A.toN i)).st,ac (rs (A.toN i)).bg (rs (A.toN i)).bg,ac (rs (A.toN i)).en (rs (A.toN i)).en,ac (rs (A.toN i)).tr (rs (A.toN i)).tr,am (A.addN 0 (N (rs (A.toN i)))) (A.addN 0 (N (rs (A.toN i)))),aF (A.snoc (fun _=>[]) 0 (D (rs (A.toN i)))) (A.snoc (fun _=>[]) 0 (D (rs (A.toN i))))] (al (A.room (A.addN j 1) 72) (ap (aH 0 [aw (aj 1 k (VI N D rs)) (aj 1 k (VI N D rs)),ac c c,ac (A.add .i64 i (ab 1)) i1,am (A.addN j 1) j1,ax (A.addN j 1) (A.snoc gg j (nM [[av .i64 (rs (A.toN i)).id,av .i64 (rs (A.toN i)).th,av .i64 (rs (A.toN i)).st,av .i64 (rs (A.toN i)).bg,av .i64 (rs (A.toN i)).en,av .i64 (rs (A.toN i)).tr,aj 8 (A.addN 0 (N (rs (A.toN i)))) (A.snoc (fun _=>[]) 0 (D (rs (A.toN i))))]])) g1]))))))))))))))) (ap (ar (aL [Sh.os 106 7 j gg,Sh.v Value.nilIface]))):=by kernel_rfl
end Go.oH
namespace Go.oz
open Go Go.Sx
def rc0:Rc:=⟨0,0,0,0,0,0,[],0⟩
def uP(r:Rc):Nat:=r.mV.length
def dfn(r:Rc):Nat->List Sh:=mO (nth r.mV)
def oG(σ:Au)(j:Nat):Rc:=σ.rs.getD j rc0
theorem JK{σ:Au}{j:Nat}(h:j<σ.rs.length):σ.rs[j]?=ae (oG σ j):=by
 simp_all [oG]
end Go.oz
namespace Go.oH
open Go Go.Sx Go.oz
section
variable{H:Mem}{E:Env}{w:World}{n:Nat}{o:Nat->Oj}{h:Hp}{σ:Au}{b:Nat}
theorem akA(hR:Dp n o σ b h)(hat:h.at H w):∃L:Lay,Den (H.with h) E (auX uP dfn L.v0 σ.many σ.rs.length (oG σ) L.b1 L.b2) (.pointer (ae ⟨b,0,ao⟩)):=by
 obtain ⟨L,rfl,hdom,hA⟩:=hR;have A:=hA H w hat;have at_:∀t x,L.blk σ.rs.length t=ae x->(H.with h) x=w.heap[x]?:=fun t x hx=>by
  cases q:h x with
  |none=>exact ((hdom x).2 ⟨t,hx⟩ q).elim |some ob=>simp only[Mem.with,q];exact (hat x ob q).1.symm
 have arL:L.v0.oneCell'=ah:=by
  obtain ⟨xs,h1,_⟩:=A.ob;rcases h1.2 with ⟨q,_⟩ |⟨g,cap,cur,q,_⟩<;>rw[q]<;>rfl
 have avK:L.v2.oneCell'=ah:=by
  rcases A.tx.2 with ⟨q,_⟩ |⟨g,cap,cur,q,_⟩<;>rw[q]<;>rfl
 have ayB:∀i,i<σ.rs.length->Rep (H.with h) (.pt (rcR uP dfn (oG σ i))) (rW (L.R i)):=fun i hi=>by
  have hs:=JK (σ:=σ) hi;have hc:=A.rc i _ hs;have hd:=A.de i _ hs;have hb:=at_ (.rc i) (L.R i) (by simp[b6,hi]);rw[hc] at hb;have avL:(L.D i).oneCell'=ah:=by
   rcases hd.2 with ⟨q,_⟩ |⟨g,cap,cur,q,_⟩<;>rw[q]<;>rfl
  have avM:Rep (H.with h) (.sl 8 (uP (oG σ i)) (dfn (oG σ i))) (L.D i):=EF hd (Vh _) fun x hx=>at_ (.de i) x (by simp[b6,hi,hx]);refine .pt _ (L.R i) 0 (fun j=>(Rk (oG σ i) (L.D i)).getD j undef) (fun j hj=>?_) (fun j hj=>?_) fun j s hs'=>?_
  ·simp only[hcell,hb,cy]
   have:j<(Rk (oG σ i) (L.D i)).size:=hj;simp_all
  ·have:j<8:=hj
   match j,this with
   |0,_=>rfl |1,_=>rfl |2,_=>rfl |3,_=>rfl |4,_=>rfl |5,_=>rfl |6,_=>exact avL |7,_=>rfl |j+8,hj=>omega
  ·match j,hs' with
   |0,hs'=>cases hs';exact .i _ _ |1,hs'=>cases hs';exact .i _ _ |2,hs'=>cases hs';exact .i _ _ |3,hs'=>cases hs';exact .i _ _ |4,hs'=>cases hs';exact .i _ _ |5,hs'=>cases hs';exact .i _ _ |6,hs'=>cases hs';exact avM |7,hs'=>cases hs';exact .i _ _ |j+8,hs'=>simp[rcR] at hs'
 have ayC:Rep (H.with h) (.sl 1 σ.rs.length (VI uP dfn (oG σ))) L.v2:=by
  refine EF A.tx ?_ fun x hx=>at_ .tx x hx
  refine ⟨by simp,fun i _=>rfl,fun u hu=>?_,fun i j s v hi h1 h2=>?_⟩
  ·obtain ⟨i,_,rfl⟩:=bK.1 hu
   rfl
  grind [List.getElem?_range,VI]
 have hb:=at_ .au L.p rfl;rw[A.au] at hb;refine ⟨L,L.p,0,fun j=>(#[L.v0,.int .i64 σ.many,L.v2,.map (ae L.b1),.map (ae L.b2)]:Array Value).getD j undef,rfl,by decide,rfl,fun j hj=>⟨?_,?_⟩,fun j s hs'=>?_⟩
 ·simp_all [hcell,cy,Array.getD_eq_getD_getElem?]
 ·match j,hj with
  |0,_=>exact arL |1,_=>rfl |2,_=>exact avK |3,_=>rfl |4,_=>rfl |j+5,hj=>omega
 ·match j,hs' with
  |0,hs'=>cases hs';exact .v _ arL |1,hs'=>cases hs';exact .i _ _ |2,hs'=>simp_all |3,hs'=>cases hs';exact .v _ rfl |4,hs'=>cases hs';exact .v _ rfl |j+5,hs'=>simp at hs'
end
end Go.oH
namespace Go.Pl
open Go Go.Sx Go.Proofs
structure MN where
 id:Int
 th:Int
 st:Int
 bg:Int
 en:Int
 tr:Int
 d:Sh
instance:Row MN where
 put t:=[.i .i64 t.id,.i .i64 t.th,.i .i64 t.st,.i .i64 t.bg,.i .i64 t.en,.i .i64 t.tr,t.d]
 get l:=match l with
  |[.i .i64 a,.i .i64 b,.i .i64 c,.i .i64 d,.i .i64 e,.i .i64 f,s]=>ae ⟨a,b,c,d,e,f,s⟩ |_=>ao
 qQ l a h:=by
  grind
 get_put a:=rfl
 Ad:=⟨0,0,0,0,0,0,.v .nilIface⟩
def KG(q:Nat->Bool):Nat->Nat->Int
 |_,0=>-1 |k,r+1=>if q k=ah then (k:Int) else KG q (k+1) r
def fdX(t:Nat->MN)(k:Nat)(id:Int):Int:=KG (fun j=>(t j).id==id) 0 k
def byX(t:Nat->MN)(k:Nat)(th:Int):Int:=KG (fun j=>(t j).th==th&&decide ((t j).en<0)) 0 k
def cnX(c:Nat->Int)(k:Nat)(id:Int):Bool:=decide (0<=KG (fun j=>c j==id) 0 k)
def F87(f:(Nat->MN)->Nat->Int->Int):List Sh->Tree Sh
 |[s,t]=>match qp 7 s,nO t with
  |some (k,g),ae x=>.need (okB MN k g) (.need (decide (k<=1000)) (.leaf (.i .i64 (f (mP g) k x)))) |_,_=>.fail
 |_=>.fail
def an2:List Sh->Tree Sh
 |[s,t]=>match qp 1 s,nO t with
  |some (k,g),ae x=>.need (okB Int k g) (.need (decide (k<=1000)) (.leaf (.b (cnX (mP g) k x)))) |_,_=>.fail
 |_=>.fail
end Go.Pl
namespace Go.Proofs
open Go Go.Sx Go.Pl
def DY:List It:=[aA [0,1,0,1],aM 0,aA [1,1]]
def an3:List It:=aA [0,0,1,0,1]::DY
def NZ(N st k:Nat)(g:Nat->List Sh)(x i:Int):Core:={tm:=sK N [(0,.sh (.sl st k g)),(1,.sym .i64 x),(5,.sym .i64 i)],hp:=[],nx:=0,lim:=L0,tc:=[]}
section
variable{H0:Mem}{w0:World}{φ:Sh->Prop}{n:Nat}{t:Nat->MN}{c:Nat->Int}{x:Int}
theorem aiZ(hn:n<=1000):∀r k,k+r=n->φ (.i .i64 (KG (fun j=>(t j).id==x) k r))->mY ai (C7 mM W7 noSpec mZ) (K0 H0 w0) 52 DY (NZ 20 7 n (mO t) x (k:Nat)) [] emp (up φ)
 |r,k,hk,hφ=>by
  refine uT ku an3 ?_;have e1:mM.add .i64 (k:Int) 1=((k+1:Nat):Int):=add1 (by omega);refine qg (vk _) 300 400 [⟨52,DY,NZ 20 7 n (mO t) x (mM.add .i64 (k:Int) 1),[]⟩] ?_;refine rQ (nd (mM.lt (k:Int) (mM.nK n)) (fun q=>an (?_:mM.inB (k:Int) n=ah) (nd (mM.eq (t k).id x) (fun a=>(?_:up φ (.i .i64 (k:Int))))
   (fun a=>(?_:mY ai (C7 mM W7 noSpec mZ) (K0 H0 w0) 52 DY (NZ 20 7 n (mO t) x (mM.add .i64 (k:Int) 1)) [] emp (up φ))))) (fun q=>(?_:up φ (.i .i64 (-1)))))
  all_goals simp only[mW,ny,nG,nN] at *
  ·simp_all
  all_goals
   match r,hk,hφ with
   |0,hk,hφ=>first
    |(simp at q;omega)
    |exact nP (s':=.i .i64 (-1)) rfl hφ
   |r+1,hk,hφ=>first
    |(simp at q;omega)
    |(rw[show mM.add .i64 (k:Int) 1=((k+1:Nat):Int) from e1]
      refine aiZ hn r (k+1) (by omega) ?_;simp_all [KG])
    |(unfold KG at hφ
      rw[if_pos (by simpa using a)] at hφ;exact nP (s':=.i .i64 (k:Int)) rfl hφ)
theorem ae8(hn:n<=1000):∀r k,k+r=n->φ (.i .i64 (KG (fun j=>(t j).th==x&&decide ((t j).en<0)) k r))->mY ai (C7 mM W7 noSpec mZ) (K0 H0 w0) 69 DY (NZ 28 7 n (mO t) x (k:Nat)) [] emp (up φ)
 |r,k,hk,hφ=>by
  refine uT kv an3 ?_;have e1:mM.add .i64 (k:Int) 1=((k+1:Nat):Int):=add1 (by omega);refine qg (vk _) 300 400 [⟨69,DY,NZ 28 7 n (mO t) x (mM.add .i64 (k:Int) 1),[]⟩] ?_;refine rQ (nd (mM.lt (k:Int) (mM.nK n)) (fun q=>an (?_:mM.inB (k:Int) n=ah) (nd (mM.eq (t k).th x) (fun a=>an (?_:mM.inB (k:Int) n=ah) (nd (mM.lt (t k).en 0) (fun b=>(?_:up φ (.i .i64 (k:Int)))) (fun b=>(?_:mY ai (C7 mM W7 noSpec mZ) (K0 H0 w0) 69 DY (NZ 28 7 n (mO t) x (mM.add .i64 (k:Int) 1)) [] emp (up φ)))))
   (fun a=>(?_:mY ai (C7 mM W7 noSpec mZ) (K0 H0 w0) 69 DY (NZ 28 7 n (mO t) x (mM.add .i64 (k:Int) 1)) [] emp (up φ))))) (fun q=>(?_:up φ (.i .i64 (-1)))))
  all_goals simp only[mW,ny,nG,nN] at *
  ·simp_all
  ·simp_all
  all_goals
   match r,hk,hφ with
   |0,hk,hφ=>first
    |(simp at q;omega)
    |exact nP (s':=.i .i64 (-1)) rfl hφ
   |r+1,hk,hφ=>first
    |(simp at q;omega)
    |(rw[show mM.add .i64 (k:Int) 1=((k+1:Nat):Int) from e1]
      refine ae8 hn r (k+1) (by omega) ?_;simp_all [KG,if_neg])
    |(unfold KG at hφ
      rw[if_pos (by simp_all)] at hφ;exact nP (s':=.i .i64 (k:Int)) rfl hφ)
theorem ae9(hn:n<=1000):∀r k,k+r=n->φ (.b (decide (0<=KG (fun j=>c j==x) k r)))->mY ai (C7 mM W7 noSpec mZ) (K0 H0 w0) 92 DY (NZ 18 1 n (mO c) x (k:Nat)) [] emp (up φ)
 |r,k,hk,hφ=>by
  refine uT kw an3 ?_;have e1:mM.add .i64 (k:Int) 1=((k+1:Nat):Int):=add1 (by omega);refine qg (vk _) 300 400 [⟨92,DY,NZ 18 1 n (mO c) x (mM.add .i64 (k:Int) 1),[]⟩] ?_;refine rQ (nd (mM.lt (k:Int) (mM.nK n)) (fun q=>an (?_:mM.inB (k:Int) n=ah) (nd (mM.eq (c k) x) (fun a=>(?_:up φ (.b ah)))
   (fun a=>(?_:mY ai (C7 mM W7 noSpec mZ) (K0 H0 w0) 92 DY (NZ 18 1 n (mO c) x (mM.add .i64 (k:Int) 1)) [] emp (up φ))))) (fun q=>(?_:up φ (.b ag))))
  all_goals simp only[mW,ny,nG,nN] at *
  ·simp_all
  all_goals
   match r,hk,hφ with
   |0,hk,hφ=>first
    |(simp at q;omega)
    |exact nP (s':=.b ag) (.inl rfl) hφ
   |r+1,hk,hφ=>first
    |(simp at q;omega)
    |(rw[show mM.add .i64 (k:Int) 1=((k+1:Nat):Int) from e1]
      refine ae9 hn r (k+1) (by omega) ?_;simp_all [KG])
    |(unfold KG at hφ
      rw[if_pos (by simpa using a)] at hφ;exact nP (s':=.b ah) (.inl (by simp)) hφ)
end
theorem O87:nD ai (nJ W7) 52 (F87 fdX):=by
 refine rC (C7 mM W7 noSpec mZ) ku fun H w nY args φ hrep hφ=>?_
 have hn:ku.ntmps=20:=by kernel_rfl
 unfold F87 at hφ;split at hφ
 ·split at hφ
  ·rename_i k g x h1 h2
   obtain ⟨q1,q2,hφ⟩:=hφ;match args,hrep with
   |[a,b],⟨ra,rb,_⟩=>
    refine ⟨[.sl 7 k (mO (mP (α:=MN) g)),.i .i64 x],⟨pX (nZ h1 ra) q1,rO h2 rb,trivial⟩,L0,?_⟩;have hk:=of_decide_eq_true q2;generalize mP (α:=MN) g=t at *;rw[hn];refine qg (vk _) 300 400 [⟨52,DY,NZ 20 7 k (mO t) x 0,[]⟩] ?_;exact rQ (aiZ hk k 0 (by omega) hφ:mY ai (C7 mM W7 noSpec mZ) (K0 H w) 52 DY (NZ 20 7 k (mO t) x 0) [] emp (up φ))
  ·exact hφ.elim
 ·exact hφ.elim
theorem avN:nD ai (nJ W7) 69 (F87 byX):=by
 refine rC (C7 mM W7 noSpec mZ) kv fun H w nY args φ hrep hφ=>?_
 have hn:kv.ntmps=28:=by kernel_rfl
 unfold F87 at hφ;split at hφ
 ·split at hφ
  ·rename_i k g x h1 h2
   obtain ⟨q1,q2,hφ⟩:=hφ;match args,hrep with
   |[a,b],⟨ra,rb,_⟩=>
    refine ⟨[.sl 7 k (mO (mP (α:=MN) g)),.i .i64 x],⟨pX (nZ h1 ra) q1,rO h2 rb,trivial⟩,L0,?_⟩;have hk:=of_decide_eq_true q2;generalize mP (α:=MN) g=t at *;rw[hn];refine qg (vk _) 300 400 [⟨69,DY,NZ 28 7 k (mO t) x 0,[]⟩] ?_;exact rQ (ae8 hk k 0 (by omega) hφ:mY ai (C7 mM W7 noSpec mZ) (K0 H w) 69 DY (NZ 28 7 k (mO t) x 0) [] emp (up φ))
  ·exact hφ.elim
 ·exact hφ.elim
theorem avO:nD ai (nJ W7) 92 an2:=by
 refine rC (C7 mM W7 noSpec mZ) kw fun H w nY args φ hrep hφ=>?_
 have hn:kw.ntmps=18:=by kernel_rfl
 unfold an2 at hφ;split at hφ
 ·split at hφ
  ·rename_i k g x h1 h2
   obtain ⟨q1,q2,hφ⟩:=hφ;match args,hrep with
   |[a,b],⟨ra,rb,_⟩=>
    refine ⟨[.sl 1 k (mO (mP (α:=Int) g)),.i .i64 x],⟨pX (nZ h1 ra) q1,rO h2 rb,trivial⟩,L0,?_⟩;have hk:=of_decide_eq_true q2;generalize mP (α:=Int) g=t at *;rw[hn];refine qg (vk _) 300 400 [⟨92,DY,NZ 18 1 k (mO t) x 0,[]⟩] ?_;exact rQ (ae9 hk k 0 (by omega) hφ:mY ai (C7 mM W7 noSpec mZ) (K0 H w) 92 DY (NZ 18 1 k (mO t) x 0) [] emp (up φ))
  ·exact hφ.elim
 ·exact hφ.elim
end Go.Proofs
namespace Go.Pl
open Go Go.Sx Go.Proofs
open Go.oz (De)
def Yv(k:Nat)(d:Nat->De):Bool:=decide (0<k)&&decide ((d (k - 1)).back<0)
def an4:List Sh->Tree Sh
 |[.agg [.i .i64 _,.i .i64 _,.i .i64 _,.i .i64 _,.i .i64 _,.i .i64 _,s]]=>match qp 8 s with
  |some (k,g)=>.need (d8 De k g) (.need (decide (k<=1000)) (.leaf (.b (Yv k (aB g))))) |none=>.fail
 |_=>.fail
def an5:List Sh->Tree Sh
 |[s]=>match qp 8 s with
  |some (k,g)=>.need (d8 De k g) (.need (decide (k<=1000)) (.leaf (.os 143 8 k (aE (aB (α:=De) g))))) |none=>.fail
 |_=>.fail
end Go.Pl
namespace Go.Proofs
open Go Go.Sx Go.Pl
open Go.oz (De)
theorem aa6{P:Program}{C:Ctx}{K:Kx}{g:Nat}{td:List It}{c c':Core}{R:Hp->Prop}{φ:Sh->Prop}(ρ:List (Nat×Rn)){l:List oM}(h:qC ρ c c'=ae l)(ha:oM.all l)(hgo:mY P C K g td c' [] R φ):mY P C K g td c [] R φ:=
 Ll (stk:=[]) (AZ:=[]) ρ (Xq h ha) trivial hgo
theorem uy{n:Nat}(h:0<n)(h2:n<=1000):mM.sub .i64 (mM.nK n) 1=((n - 1:Nat):Int):=by
 show az.wrap ((n:Int) - 1)=_;grind [pF]
theorem ai0{H:Mem}{a b c d e f:Int}{s s':Sh}{v:Value}(h:Rep H (.agg [.i .i64 a,.i .i64 b,.i .i64 c,.i .i64 d,.i .i64 e,.i .i64 f,s]) v)(hs:∀u,Rep H s u->Rep H s' u):Rep H (.agg [.i .i64 a,.i .i64 b,.i .i64 c,.i .i64 d,.i .i64 e,.i .i64 f,s']) v:=by
 grind [Go.oz.Gu]
theorem avP:nD ai (nJ W7) 93 an4:=by
 refine pJ (vk mZ) 300 400 L0 Tryz.f93 fun H w nY args φ hrep hφ=>?_
 unfold an4 at hφ;split at hφ
 ·rename_i a b c d e f s
  split at hφ
  ·rename_i k g h1
   obtain ⟨q1,q2,hφ⟩:=hφ;match args,hrep with
   |[v],⟨hv,_⟩=>
    refine ⟨[.agg [.i .i64 a,.i .i64 b,.i .i64 c,.i .i64 d,.i .i64 e,.i .i64 f,.sl 8 k (aE (aB (α:=De) g))]],⟨ai0 hv fun _ u=>fU (nZ h1 u) q1,trivial⟩,?_⟩;have hk:=of_decide_eq_true q2;have kk (x:Bool) (h:x=Yv k (aB g)):up φ (.b x):=nP (s':=.b (Yv k (aB g))) (.inl (by rw[h])) hφ;clear hφ;generalize aB (α:=De) g=t at *;rw[<-qc];refine DV (nd (mM.lt 0 (mM.nK k)) (fun q=>an (?_:mM.inB (mM.sub .i64 (mM.nK k) 1) k=ah) (kk (mM.lt (t (mM.toN (mM.sub .i64 (mM.nK k) 1))).back 0) ?_)) (fun q=>kk ag ?_))
    ·grind [mW,ny,uy,nN]
    ·grind [mW,ny,uy,oZ,Yv]
    simp_all [mW,ny,Yv]
  ·exact hφ.elim
 ·exact hφ.elim
def Ub:List It:=[aA [0,1,0,1,1],aM 0,aA [1,1,1]]
def att:List It:=aA [0,0,1,0,1,1]::Ub
def Yw(n:Nat)(d:Nat->De)(k:Nat)(G:Nat->List Sh)(i:Int):Core:={tm:=sK 22 [(0,.sh (.sl 8 n (aE d))),(3,.gs 0),(4,.sym .i64 i)],hp:=[(0,.own 143 8 k G)],nx:=1,lim:=L0,tc:=[]}
section
variable{H0:Mem}{w0:World}{φ:Sh->Prop}{n:Nat}{d:Nat->De}
theorem afa(hn:n<=1000)(hφ:φ (.os 143 8 n (aE d))):∀r k,k+r=n->mY ai (C7 mM W7 noSpec mZ) (K0 H0 w0) 72 Ub (Yw n d k (aE d) (k:Nat)) [] emp φ
 |r,k,hk=>by
  refine uT kx att ?_;have e1:mM.add .i64 (k:Int) 1=((k+1:Nat):Int):=add1 (by omega);refine qg (vk _) 300 400 [⟨72,Ub,Yw n d (k+1) (mM.snoc (aE d) k (nM [it (d k)])) (mM.add .i64 (k:Int) 1),[]⟩] ?_;refine rQ (nd (mM.lt (k:Int) (mM.nK n)) (fun q=>an (?_:mM.inB (k:Int) n=ah) (an (room_le (by omega) (by omega):mM.room (k+1) 64=ah)
   (?_:mY ai (C7 mM W7 noSpec mZ) (K0 H0 w0) 72 Ub (Yw n d (k+1) (mM.snoc (aE d) k (nM [it (d k)])) (mM.add .i64 (k:Int) 1)) [] emp φ))) (fun q=>(?_:φ (.os 143 8 k (aE d)))))
  all_goals simp only[mW,ny] at *
  ·simp_all [nN]
  ·simp at q
   match r,hk with
   |0,hk=>omega |r+1,hk=>
    exact aa6 (c':=Yw n d (k+1) (aE d) ((k+1:Nat):Int)) [(0,.id 0)] (l:=[.sh (.sl 8 n (aE d)) (.sl 8 n (aE d)),.int (mM.add .i64 (k:Int) 1) ((k+1:Nat):Int),.nat (k+1) (k+1),.get (k+1) (mM.snoc (aE d) k (nM [it (d k)])) (aE d)]) (by kernel_rfl)
     ⟨rfl,e1,rfl,Go.oz.TB rfl,trivial⟩ (afa hn hφ r (k+1) (by omega))
  grind
end
theorem avQ:nD ai (nJ W7) 72 an5:=by
 refine zI (C7 mM W7 noSpec mZ) kx fun H w nY args φ hrep hφ=>?_
 have hn:kx.ntmps=22:=by kernel_rfl
 unfold an5 at hφ;split at hφ
 ·split at hφ
  ·rename_i s k g h1
   obtain ⟨q1,q2,hφ⟩:=hφ;match args,hrep with
   |[v],⟨hv,_⟩=>
    refine ⟨[.sl 8 k (aE (aB (α:=De) g))],⟨fU (nZ h1 hv) q1,trivial⟩,L0,?_⟩;have hk:=of_decide_eq_true q2;have hφ:φ (.os 143 8 k (aE (aB (α:=De) g))):=hφ;generalize aB (α:=De) g=d at *;rw[hn];refine qg (vk _) 300 400 [⟨72,Ub,Yw k d 0 (fun _=>[]) 0,[]⟩] ?_;refine rQ (an (by rfl:mM.le 0 (mM.nK k)=ah) (an (room_le (by omega) (by omega):mM.room k 64=ah)
     (aa6 (c':=Yw k d 0 (aE d) 0) [(0,.id 0)] (l:=[.sh (.sl 8 k (aE d)) (.sl 8 k (aE d)),.int 0 0,.nat 0 0,.get 0 (fun _=>[]) (aE d)]) (by kernel_rfl) ⟨rfl,rfl,rfl,fun i hi=>by omega,trivial⟩ (afa hk hφ k 0 (by omega)):mY ai (C7 mM W7 noSpec mZ) (K0 H w) 72 Ub (Yw k d 0 (fun _=>[]) 0) [] emp φ)))
  ·exact hφ.elim
 ·exact hφ.elim
def ai1:Nat->Option (List Sh->Tree Sh)
 |72=>ae an5 |_=>ao
def F88:List Sh->Tree Sh
 |[.agg [.i .i64 a,.i .i64 b,.i .i64 c,.i .i64 d,.i .i64 e,.i .i64 f,s]]=>match qp 8 s with
  |some (k,g)=>.need (d8 De k g) (.need (decide (k<=1000)) (.leaf (.agg [.i .i64 a,.i .i64 b,.i .i64 c,.i .i64 d,.i .i64 e,.i .i64 f,.os 143 8 k (aE (aB (α:=De) g))]))) |none=>.fail
 |_=>.fail
theorem atv(stop:Nat->List Nat->Bool):oD ai (C7 mM W7 ai1 stop):=C7.Hq (fun g F h=>by
 grind [ai1,avQ]) fun g h=>by
 unfold ai1 at h;split at h;all_goals first|(cases h;done) |kernel_rfl
theorem O88:nD ai (nJ W7) 53 F88:=by
 refine zI (C7 mM W7 ai1 mZ) Tryz.f53 fun H w nY args φ hrep hφ=>?_
 have hn:Tryz.f53.ntmps=8:=by kernel_rfl
 unfold F88 at hφ;split at hφ
 ·rename_i a b c d e f s
  split at hφ
  ·rename_i k g h1
   obtain ⟨q1,q2,hφ⟩:=hφ;match args,hrep with
   |[v],⟨hv,_⟩=>
    refine ⟨[.agg [.i .i64 a,.i .i64 b,.i .i64 c,.i .i64 d,.i .i64 e,.i .i64 f,.sl 8 k (aE (aB (α:=De) g))]],⟨ai0 hv fun _ u=>fU (nZ h1 u) q1,trivial⟩,L0,?_⟩;have hφ:φ (.agg [.i .i64 a,.i .i64 b,.i .i64 c,.i .i64 d,.i .i64 e,.i .i64 f,.os 143 8 k (aE (aB (α:=De) g))]):=hφ;generalize aB (α:=De) g=t at *;have et:aB (α:=De) (aE t)=t:=funext fun i=>Go.oz.Dh t i
    rw[<-et] at hφ;rw[hn];refine qg (atv _) 300 400 [] ?_;exact rQ (an (Go.oz.o9 t k) (an q2 hφ))
  ·exact hφ.elim
 ·exact hφ.elim
end Go.Proofs
namespace Go.Sx
def Gz(n:Nat)(G G':Nat->List Sh):Prop:=∀i,i<n->(G' i).length=(G i).length/\∀(j:Nat) (s':Sh),(G' i)[j]?=ae s'->∃s:Sh,(G i)[j]?=ae s/\∀(H:Mem) (u:Value),Rep H s u->Rep H s' u
theorem afb{H:Mem}{st n:Nat}{G G':Nat->List Sh}{xs:List Value}(h:pG H st n G xs)(hw:Gz n G G'):pG H st n G' xs:=
 ⟨h.1,fun i hi=>(hw i hi).1.trans (h.2.1 i hi),h.2.2.1,fun i j s v hi e1 e2=>by
  obtain ⟨s0,q1,q2⟩:=(hw i hi).2 j s e1;exact q2 H v (h.2.2.2 i j s0 v hi q1 e2)⟩
theorem yJ{P:Program}{C:Ctx}{K:Kx}{g:Nat}{td:List It}{c:Core}{φ:Sh->Prop}{id e st n:Nat}{G G':Nat->List Sh}(hl:mQ c.hp id=ae (.own e st n G))(hw:Gz n G G')
  (hgo:mY P C K g td {c with hp:=hset c.hp id (.own e st n G')} [] emp φ):mY P C K g td c [] emp φ:=by
 intro H E w a items ms cs fn hfn st0 hi hs hx;refine hgo H E w a items ms cs fn hfn ⟨st0.den,⟨fun i sb h=>?_,fun i i' sb sb' b h1 h2 o1 o2=>?_⟩,st0.o7,st0.free,st0.gl,st0.defers⟩ hi hs Iq
 ·rw[rU] at h
  cases hid:(id==i)<;>simp only[hid,cond_true,cond_false] at h
  ·exact st0.hp.ent _ _ h
  ·obtain rfl:id=i:=by grind
   rw[hl] at h;cases h;obtain ⟨v,xs,q1,q2,q3,q4⟩:=st0.hp.ent _ _ hl;exact ⟨v,xs,q1,q2,afb q3 hw,q4⟩
 ·have key:∀{j:Nat} {s:SB},mQ (hset c.hp id (.own e st n G')) j=ae s->nU E j s=ae b->∃s0,mQ c.hp j=ae s0/\nU E j s0=ae b:=by
   intro j s h o;rw[rU] at h;cases hid:(id==j)<;>simp only[hid,cond_true,cond_false] at h
   ·simp_all
   ·obtain rfl:id=j:=by grind
    rw[hl] at h;cases h;exact ⟨_,hl,o⟩
  obtain ⟨s1,a1,a2⟩:=key h1 o1;obtain ⟨s2,a3,a4⟩:=key h2 o2;exact st0.hp.vV _ _ _ _ _ a1 a3 a2 a4
end Go.Sx
