/- Own work. -/
import Derived.Test.YthehnhaoiijkhaaGreatDoorO11
open Int (ofNat)
open And renaming intro->ba
open Array renaming replicate->bw,getElem?_eq_getElem->dH,getD_eq_getD_getElem?->gb
open Bool renaming and_eq_true->al,true->aj,false->ag,or_false->eY
open Go.IntKind renaming i64->aA
open Go.oD.Au renaming feed->fQ
open Go.oD.Rc renaming step->cq
open Go.Proofs.Tryz renaming prog->ah,f79->cK
open Go.mP.C5 renaming ok->fH
open Go.Sx.oC renaming val->dG,int->ac,sh->av,nat->ap,get->ax,Ez->aF
open Go.Sx.rQ renaming at_->aK,ret->ay
open Go.Sx.Fe3 renaming ret->jH,raw->lO
open Go.Sx.It renaming code->aH,inBlock->aW,reg->gP
open Go.Sx.Lay renaming blk->b6
open Go.Sx.SB renaming own->jG,fm->fZ,box->dQ
open Go.Sx.SV renaming agg->dO,sh->bl,ptr->dP,uj->lT,qP->bV,any->aG,bool->gI,int->iq,nD->dV,mp->iG
open Go.Sx.Sh renaming mV->aQ,sl->ao,er->aC,pV->fP,pt->ij,i->az
open Go.Sx.Tree renaming need->am,node->ak,leaf->ai,must->aw
open Go.Value renaming pointer->bU
open Iff renaming rfl->lN
open Int renaming ofNat->ab,ofNat_eq_natCast->dN
open List renaming flatMap_cons->jh,getElem?_eq_some_iff->aT,ext_getElem?->fq,getElem?_eq_getElem->aD,getElem?_eq_none->dm,range->aE,mem_map->bN,findIdx?_cons->cV,findIdx?_eq_none_iff->gH,replicate->bp
open Nat renaming zero_add->cA,beq->bA
open Option renaming some->ae,none->aq,bind_some->bL
open Option.some renaming inj->bd
namespace Go.Sx
open Go.oD
def svE:Option Nat->SV
 |none=>.qP |some k=>.sh (.er k 329)
end Go.Sx
namespace Go.oD
open Go Go.Sx
def Rc.out(many:Nat)(e:Ev)(r:Rc):Option Nat×Nat×Rc:=
 match cq many e r with
 | .inl k=>(ae k,many,r) | .inr r'=>(aq,many+1,r')
theorem JU{α:Type}(f:α->α):∀l:List α,(xR f l).length=l.length
 |[]=>rfl |[_]=>rfl |_::y::l=>by simp[xR,JU f (y::l)]
theorem ahC{α:Type}[Row α]{l:List α}(h:l≠[]):nth l (l.length - 1)=l.getLast?.getD Row.zX:=by
 grind [nth]
theorem Tm{α:Type}[Row α](f:α->α):∀(l:List α) (i:Nat),i<l.length->nth (xR f l) i=if i=l.length - 1 then f (nth l i) else nth l i
 |[],i,h=>by simp at h |[x],i,h=>by
  simp_all [xR,nth]
 |x::y::l,0,_=>by rfl |x::y::l,i+1,h=>by
  have ih:=Tm f (y::l) i (by simpa using h);simp_all [nth,xR]
end Go.oD
namespace Go.mP
open Go Go.Sx Go.oD
theorem asM:nG ah (uY W5) 101 alo:=O56.mono fun H nV args φ hr h=>by
 clear hr;unfold alo at h;split at h
 ·rename_i l
  split at h
  ·rename_i e he
   obtain ⟨h1,h2⟩:=h;unfold oZ at h1;simp only[al] at h1;show (match WI l with|some e=>_|none=>_:Tree Sh).All φ
   rw[he];refine ⟨h1.2,fun _=>?_,fun q=>?_⟩
   ·refine ⟨fun _=>h2,fun q=>?_⟩
    simp_all
   simp_all
  ·exact h.elim
 ·exact h.elim
theorem asN:∀g F,pJ g=ae F->nG ah (uY W5) g F:=fun g F h=>by
 unfold pJ at h;grind [asM,O57,O67]
theorem aeV(stop:Nat->List Nat->Bool):oH ah (C5 mD W5 pJ stop):=C5.Gh asN fun g h=>by
 unfold pJ at h;split at h;all_goals first|(cases h;done) |kernel_rfl
theorem Eo{a:Int}{k:Nat}(h:mD.eq a (ab k)=aj):a=(k:Int):=by grind [nC]
theorem eqF{a:Int}{k:Nat}(h:mD.eq a (ab k)=ag):a≠(k:Int):=by grind [nC]
theorem eqS(a:Int):mD.eq a a=aj:=by simp[nC]
theorem wrapM{many:Nat}(hm:many<400):mD.add .i64 (many:Int) 1=((many+1:Nat):Int):=by
 grind [qG,pI]
def sV(n m:Nat)(o:Nat->Oj)(gR:Nat->List Sh)(M1 M2:Int->Option Value)(e:Ev)(many:Nat)(r:Rc)(us:List (Int×Bool×SV)):IV:=
 toR n m o gR M1 M2 e many r.id r.th r.st r.bg r.en r.tr r.stand r.mO.length (mF (nth r.mO)) us
def uT(r:Rc):List (Nat×SB):=XL r.id r.th r.st r.bg r.en r.tr r.stand r.mO.length (mF (nth r.mO))
section
variable{n m:Nat}{o:Nat->Oj}{many:Nat}{gR:Nat->List Sh}{M1 M2:Int->Option Value}
theorem alv(hm:many<400){e:Ev}(hk:e.kind=4)(hv:oZ e=aj)(r:Rc):
  tJ (vV [sV n m o gR M1 M2 e (Rc.out many e r).2.1 (Rc.out many e r).2.2 []] (fun sv k=>sv=svE (Rc.out many e r).1/\k=0)) ((run (C5 mD W5 pJ ni) 700 aj 79 [.code []] (LA 4 e (hpA n m o many gR M1 M2 [(e.tx,aj,.ptr 4 0)] []++uT r))).bind (toEnd [sV n m o gR M1 M2 e (Rc.out many e r).2.1 (Rc.out many e r).2.2 []])):=by
 obtain ⟨kind,tx,thread,obj,op,key,val,ret⟩:=e;obtain ⟨id,th,st,bg,en,tr,mO,stand⟩:=r;have hk:kind=4:=hk;subst hk;have hw:=wrapM hm;by_cases hs:stand=1
 ·have e1:Rc.out many ⟨4,tx,thread,obj,op,key,val,ret⟩ ⟨id,th,st,bg,en,tr,mO,stand⟩=(aq,many+1,⟨id,th,2,bg,en,many,mO,3⟩):=by
   subst hs;rfl
  rw[e1];unfold sV uT;simp only;rw[alq mD W5 n m o many gR M1 M2 ⟨4,tx,thread,obj,op,key,val,ret⟩ id th st bg en tr stand mO.length (nth mO) (many+1:Nat) id th 2 bg en many 3 mO.length (mF (nth mO)),pG];repeat' (first
   |exact trivial
   |exact hv
   |exact hw
   |exact eqS _
   |exact rfl
   |exact fun _ _=>rfl
   |(intro q;replace q:=Eo q;first|(exfalso;omega) |skip)
   |(intro q;replace q:=eqF q;first|(exfalso;omega) |skip)
   |refine ba ?_ ?_)
 ·have e1:Rc.out many ⟨4,tx,thread,obj,op,key,val,ret⟩ ⟨id,th,st,bg,en,tr,mO,stand⟩=(ae 12,many,⟨id,th,st,bg,en,tr,mO,stand⟩):=by
   have d1:(stand==1)=ag:=by rw[beq_eq_false_iff_ne];omega
   simp only[Rc.out,cq,d1];rfl
  rw[e1];unfold sV uT;simp only;rw[alq mD W5 n m o many gR M1 M2 ⟨4,tx,thread,obj,op,key,val,ret⟩ id th st bg en tr stand mO.length (nth mO) (many:Nat) id th st bg en tr stand mO.length (mF (nth mO)),pG];repeat' (first
   |exact trivial
   |exact hv
   |exact hw
   |exact eqS _
   |exact rfl
   |exact fun _ _=>rfl
   |(intro q;replace q:=Eo q;first|(exfalso;omega) |skip)
   |(intro q;replace q:=eqF q;first|(exfalso;omega) |skip)
   |refine ba ?_ ?_)
theorem alx(hm:many<400){e:Ev}(hk:e.kind=7)(hv:oZ e=aj)(r:Rc):
  tJ (vV [sV n m o gR M1 M2 e (Rc.out many e r).2.1 (Rc.out many e r).2.2 []] (fun sv k=>sv=svE (Rc.out many e r).1/\k=0)) ((run (C5 mD W5 pJ ni) 700 aj 79 [.code []] (LA 7 e (hpA n m o many gR M1 M2 [(e.tx,aj,.ptr 4 0)] []++uT r))).bind (toEnd [sV n m o gR M1 M2 e (Rc.out many e r).2.1 (Rc.out many e r).2.2 []])):=by
 obtain ⟨kind,tx,thread,obj,op,key,val,ret⟩:=e;obtain ⟨id,th,st,bg,en,tr,mO,stand⟩:=r;have hk:kind=7:=hk;subst hk;have hw:=wrapM hm;by_cases hs:stand=1
 ·have e1:Rc.out many ⟨7,tx,thread,obj,op,key,val,ret⟩ ⟨id,th,st,bg,en,tr,mO,stand⟩=(aq,many+1,⟨id,th,st,bg,en,tr,mO,4⟩):=by
   subst hs;rfl
  rw[e1];unfold sV uT;simp only;rw[alu mD W5 n m o many gR M1 M2 ⟨7,tx,thread,obj,op,key,val,ret⟩ id th st bg en tr stand mO.length (nth mO) (many+1:Nat) id th st bg en tr 4 mO.length (mF (nth mO)),pG];repeat' (first
   |exact trivial
   |exact hv
   |exact hw
   |exact eqS _
   |exact rfl
   |exact fun _ _=>rfl
   |(intro q;replace q:=Eo q;first|(exfalso;omega) |skip)
   |(intro q;replace q:=eqF q;first|(exfalso;omega) |skip)
   |refine ba ?_ ?_)
 ·have e1:Rc.out many ⟨7,tx,thread,obj,op,key,val,ret⟩ ⟨id,th,st,bg,en,tr,mO,stand⟩=(ae 12,many,⟨id,th,st,bg,en,tr,mO,stand⟩):=by
   have d1:(stand==1)=ag:=by rw[beq_eq_false_iff_ne];omega
   simp only[Rc.out,cq,d1];rfl
  rw[e1];unfold sV uT;simp only;rw[alu mD W5 n m o many gR M1 M2 ⟨7,tx,thread,obj,op,key,val,ret⟩ id th st bg en tr stand mO.length (nth mO) (many:Nat) id th st bg en tr stand mO.length (mF (nth mO)),pG];repeat' (first
   |exact trivial
   |exact hv
   |exact hw
   |exact eqS _
   |exact rfl
   |exact fun _ _=>rfl
   |(intro q;replace q:=Eo q;first|(exfalso;omega) |skip)
   |(intro q;replace q:=eqF q;first|(exfalso;omega) |skip)
   |refine ba ?_ ?_)
theorem aly(hm:many<400){e:Ev}(hk:e.kind=5)(hv:oZ e=aj)(r:Rc):
  tJ (vV [sV n m o gR M1 M2 e (Rc.out many e r).2.1 (Rc.out many e r).2.2 [],sV n m o gR M1 M2 e (Rc.out many e r).2.1 (Rc.out many e r).2.2 [(r.th,ag,.any)]] (fun sv k=>sv=svE (Rc.out many e r).1/\k=(bif (Rc.out many e r).1.isNone then 1 else 0))) ((run (C5 mD W5 pJ ni) 700 aj 79 [.code []] (LA 5 e (hpA n m o many gR M1 M2 [(e.tx,aj,.ptr 4 0)] []++uT r))).bind (toEnd [sV n m o gR M1 M2 e (Rc.out many e r).2.1 (Rc.out many e r).2.2 [],sV n m o gR M1 M2 e (Rc.out many e r).2.1 (Rc.out many e r).2.2 [(r.th,ag,.any)]])):=by
 obtain ⟨kind,tx,thread,obj,op,key,val,ret⟩:=e;obtain ⟨id,th,st,bg,en,tr,mO,stand⟩:=r;have hk:kind=5:=hk;subst hk;have hw:=wrapM hm;by_cases hs:stand=3
 ·have e1:Rc.out many ⟨5,tx,thread,obj,op,key,val,ret⟩ ⟨id,th,st,bg,en,tr,mO,stand⟩=(aq,many+1,⟨id,th,3,bg,many,tr,mO,5⟩):=by
   subst hs;rfl
  rw[e1];unfold sV uT;simp only;rw[alr mD W5 n m o many gR M1 M2 ⟨5,tx,thread,obj,op,key,val,ret⟩ id th st bg en tr stand mO.length (nth mO) (many+1:Nat) id th 3 bg many tr 5 mO.length (mF (nth mO)),pG];repeat' (first
   |exact trivial
   |exact hv
   |exact hw
   |exact eqS _
   |exact rfl
   |exact fun _ _=>rfl
   |(intro q;replace q:=Eo q;first|(exfalso;omega) |skip)
   |(intro q;replace q:=eqF q;first|(exfalso;omega) |skip)
   |refine ba ?_ ?_)
 ·have e1:Rc.out many ⟨5,tx,thread,obj,op,key,val,ret⟩ ⟨id,th,st,bg,en,tr,mO,stand⟩=(ae 12,many,⟨id,th,st,bg,en,tr,mO,stand⟩):=by
   have d3:(stand==3)=ag:=by rw[beq_eq_false_iff_ne];omega
   simp only[Rc.out,cq,d3,eY];rfl
  rw[e1];unfold sV uT;simp only;rw[alr mD W5 n m o many gR M1 M2 ⟨5,tx,thread,obj,op,key,val,ret⟩ id th st bg en tr stand mO.length (nth mO) (many:Nat) id th st bg en tr stand mO.length (mF (nth mO)),pG];repeat' (first
   |exact trivial
   |exact hv
   |exact hw
   |exact eqS _
   |exact rfl
   |exact fun _ _=>rfl
   |(intro q;replace q:=Eo q;first|(exfalso;omega) |skip)
   |(intro q;replace q:=eqF q;first|(exfalso;omega) |skip)
   |refine ba ?_ ?_)
theorem alz(hm:many<400){e:Ev}(hk:e.kind=6)(hv:oZ e=aj)(r:Rc):
  tJ (vV [sV n m o gR M1 M2 e (Rc.out many e r).2.1 (Rc.out many e r).2.2 [],sV n m o gR M1 M2 e (Rc.out many e r).2.1 (Rc.out many e r).2.2 [(r.th,ag,.any)]] (fun sv k=>sv=svE (Rc.out many e r).1/\k=(bif (Rc.out many e r).1.isNone then 1 else 0))) ((run (C5 mD W5 pJ ni) 700 aj 79 [.code []] (LA 6 e (hpA n m o many gR M1 M2 [(e.tx,aj,.ptr 4 0)] []++uT r))).bind (toEnd [sV n m o gR M1 M2 e (Rc.out many e r).2.1 (Rc.out many e r).2.2 [],sV n m o gR M1 M2 e (Rc.out many e r).2.1 (Rc.out many e r).2.2 [(r.th,ag,.any)]])):=by
 obtain ⟨kind,tx,thread,obj,op,key,val,ret⟩:=e;obtain ⟨id,th,st,bg,en,tr,mO,stand⟩:=r;have hk:kind=6:=hk;subst hk;have hw:=wrapM hm;by_cases hs:stand=1\/stand=2\/stand=3\/stand=4
 ·have e1:Rc.out many ⟨6,tx,thread,obj,op,key,val,ret⟩ ⟨id,th,st,bg,en,tr,mO,stand⟩=(aq,many+1,⟨id,th,4,bg,many,tr,mO,5⟩):=by
   rcases hs with rfl|rfl|rfl|rfl<;>rfl
  rw[e1];unfold sV uT;simp only;rw[als mD W5 n m o many gR M1 M2 ⟨6,tx,thread,obj,op,key,val,ret⟩ id th st bg en tr stand mO.length (nth mO) (many+1:Nat) id th 4 bg many tr 5 mO.length (mF (nth mO)),pG];repeat' (first
   |exact trivial
   |exact hv
   |exact hw
   |exact eqS _
   |exact rfl
   |exact fun _ _=>rfl
   |(intro q;replace q:=Eo q;first|(exfalso;omega) |skip)
   |(intro q;replace q:=eqF q;first|(exfalso;omega) |skip)
   |refine ba ?_ ?_)
 ·have e1:Rc.out many ⟨6,tx,thread,obj,op,key,val,ret⟩ ⟨id,th,st,bg,en,tr,mO,stand⟩=(ae 12,many,⟨id,th,st,bg,en,tr,mO,stand⟩):=by
   have d1:(stand==1)=ag:=by rw[beq_eq_false_iff_ne];omega
   have d2:(stand==2)=ag:=by rw[beq_eq_false_iff_ne];omega
   have d3:(stand==3)=ag:=by rw[beq_eq_false_iff_ne];omega
   have d4:(stand==4)=ag:=by rw[beq_eq_false_iff_ne];omega
   simp only[Rc.out,cq,d1,d2,d3,d4,eY];rfl
  rw[e1];unfold sV uT;simp only;rw[als mD W5 n m o many gR M1 M2 ⟨6,tx,thread,obj,op,key,val,ret⟩ id th st bg en tr stand mO.length (nth mO) (many:Nat) id th st bg en tr stand mO.length (mF (nth mO)),pG];repeat' (first
   |exact trivial
   |exact hv
   |exact hw
   |exact eqS _
   |exact rfl
   |exact fun _ _=>rfl
   |(intro q;replace q:=Eo q;first|(exfalso;omega) |skip)
   |(intro q;replace q:=eqF q;first|(exfalso;omega) |skip)
   |refine ba ?_ ?_)
theorem alA(hm:many<400){e:Ev}(hk:e.kind=2)(hv:oZ e=aj)(r:Rc)(hl:r.mO.length<=1000)(h1:0<=e.obj)(h2:e.obj<n)(h3:rD e.op=(o e.obj.toNat).kind):
  tJ (vV [sV n m o gR M1 M2 e (Rc.out many e r).2.1 (Rc.out many e r).2.2 []] (fun sv k=>sv=svE (Rc.out many e r).1/\k=0)) ((run (C5 mD W5 pJ ni) 700 aj 79 [.code []] (LA 2 e (hpA n m o many gR M1 M2 [(e.tx,aj,.ptr 4 0)] []++uT r))).bind (toEnd [sV n m o gR M1 M2 e (Rc.out many e r).2.1 (Rc.out many e r).2.2 []])):=by
 obtain ⟨kind,tx,thread,obj,op,key,val,ret⟩:=e;obtain ⟨id,th,st,bg,en,tr,mO,stand⟩:=r;have hk:kind=2:=hk;subst hk;have hw:=wrapM hm;have hl:mO.length<=1000:=hl;have h1:0<=obj:=h1;have h2:obj<n:=h2;have h3:rD op=(o obj.toNat).kind:=h3;have ho:mD.le (mD.nH n) obj=aj->False:=fun q=>by grind [su,nI]
 have hi:mD.inB obj n=aj:=by simp[oJ];omega
 have hq:mD.nt (mD.eq (rD op) (o (mD.toN obj)).kind)=aj->False:=fun q=>by
  simp_all [oP,nC,pR]
 have hroom:mD.room (mD.addN mO.length 1) 64=aj:=by
  show decide ((mO.length+1)*64<=140737488355328/\mO.length+1<=maxLen)=aj;grind [maxLen_eq,decide_eq_true]
 have hsn:∀i,i<mO.length+1->mD.snoc (mF (nth mO)) mO.length (nM [[.i .i64 obj,.i .i64 op,.i .i64 key,.i .i64 val,.i .i64 0,.i .i64 0,.i .i64 many,.i .i64 (-1)]]) i=mF (nth (mO++[(⟨obj,op,key,val,0,0,many,-1⟩:De)])) i:=Gj (α:=De) _ _ rfl;have hlen:mO.length+1=(mO++[(⟨obj,op,key,val,0,0,many,-1⟩:De)]).length:=by simp
 by_cases hs:stand=1
 ·have e1:Rc.out many ⟨2,tx,thread,obj,op,key,val,ret⟩ ⟨id,th,st,bg,en,tr,mO,stand⟩=(aq,many+1,⟨id,th,st,bg,en,tr,mO++[⟨obj,op,key,val,0,0,many,-1⟩],2⟩):=by
   subst hs;rfl
  rw[e1];unfold sV uT;simp only;rw[alp mD W5 n m o many gR M1 M2 ⟨2,tx,thread,obj,op,key,val,ret⟩ id th st bg en tr stand mO.length (nth mO) (many+1:Nat) id th st bg en tr 2 (mO++[(⟨obj,op,key,val,0,0,(many:Int),-1⟩:De)]).length (mF (nth (mO++[(⟨obj,op,key,val,0,0,(many:Int),-1⟩:De)]))),pG];repeat' (first
   |exact trivial
   |exact hv
   |exact hw
   |exact hi
   |exact hroom
   |exact hlen
   |exact hsn
   |(intro q;exact (ho q).elim)
   |(intro q;exact (hq q).elim)
   |exact eqS _
   |exact rfl
   |exact fun _ _=>rfl
   |(intro q;replace q:=Eo q;omega)
   |(intro q;replace q:=eqF q;first|(exfalso;omega) |skip)
   |intro _
   |refine ba ?_ ?_)
 ·have e1:Rc.out many ⟨2,tx,thread,obj,op,key,val,ret⟩ ⟨id,th,st,bg,en,tr,mO,stand⟩=(ae 12,many,⟨id,th,st,bg,en,tr,mO,stand⟩):=by
   grind [beq_eq_false_iff_ne,Rc.out,cq]
  rw[e1];unfold sV uT;simp only;rw[alp mD W5 n m o many gR M1 M2 ⟨2,tx,thread,obj,op,key,val,ret⟩ id th st bg en tr stand mO.length (nth mO) (many:Nat) id th st bg en tr stand mO.length (mF (nth mO)),pG];repeat' (first
   |exact trivial
   |exact hv
   |exact hw
   |exact hi
   |exact hroom
   |exact hlen
   |exact hsn
   |(intro q;exact (ho q).elim)
   |(intro q;exact (hq q).elim)
   |exact eqS _
   |exact rfl
   |exact fun _ _=>rfl
   |(intro q;replace q:=Eo q;omega)
   |(intro q;replace q:=eqF q;first|(exfalso;omega) |skip)
   |intro _
   |refine ba ?_ ?_)
theorem alB(hm:many<400){e:Ev}(hk:e.kind=3)(hv:oZ e=aj)(r:Rc)(hl:r.mO.length<=1000)(hd:r.stand=2->r.mO≠[]):
  tJ (vV [sV n m o gR M1 M2 e (Rc.out many e r).2.1 (Rc.out many e r).2.2 []] (fun sv k=>sv=svE (Rc.out many e r).1/\k=0)) ((run (C5 mD W5 pJ ni) 700 aj 79 [.code []] (LA 3 e (hpA n m o many gR M1 M2 [(e.tx,aj,.ptr 4 0)] []++uT r))).bind (toEnd [sV n m o gR M1 M2 e (Rc.out many e r).2.1 (Rc.out many e r).2.2 []])):=by
 obtain ⟨kind,tx,thread,obj,op,key,val,ret⟩:=e;obtain ⟨id,th,st,bg,en,tr,mO,stand⟩:=r;have hk:kind=3:=hk;subst hk;have hw:=wrapM hm;have hl:mO.length<=1000:=hl;have hd:stand=2->mO≠[]:=hd;by_cases hs:stand=2
 ·have hd:=hd hs
  have hpos:0<mO.length:=List.length_pos_iff.2 hd;have hix:mD.toN (mD.sub .i64 (mD.nH mO.length) (ab 1))=mO.length - 1:=by
   grind [Dz,nI,pR,pI,dN]
  have hi:mD.inB (mD.sub .i64 (mD.nH mO.length) (ab 1)) mO.length=aj:=by
   grind [Dz,nI,pI,dN,oJ,decide_eq_true]
  have hlast:nth mO (mO.length - 1)=mO.getLast?.getD Row.zX:=ahC hd;by_cases hf:Ik (mO.getLast?.getD Row.zX).op ret=aj
  ·have hq:mD.nt (Ik (nth mO (mD.toN (mD.sub .i64 (mD.nH mO.length) (ab 1)))).op ret)=aj->False:=fun q=>by
    simp_all [oP]
   have hlen:mO.length=(xR (fun d:De=>{d with ret:=ret,got:=val,back:=(many:Int)}) mO).length:=(JU _ _).symm
   have hup:∀i,i<mO.length->mD.upd (mD.upd (mD.upd (mF (nth mO)) (mD.toN (mD.sub .i64 (mD.nH mO.length) (ab 1))) 4 [.i .i64 ret]) (mD.toN (mD.sub .i64 (mD.nH mO.length) (ab 1))) 5 [.i .i64 val]) (mD.toN (mD.sub .i64 (mD.nH mO.length) (ab 1))) 7 [.i .i64 many] i=mF (nth (xR (fun d:De=>{d with ret:=ret,got:=val,back:=(many:Int)}) mO)) i:=fun i hi=>by
    rw[hix];simp only[mF];rw[Tm _ _ _ hi];by_cases q:i=mO.length - 1
    ·rw[if_pos q]
     subst q;simp only[mD,if_true];rfl
    ·rw[if_neg q]
     simp only[mD,if_neg q];rfl
   have e1:Rc.out many ⟨3,tx,thread,obj,op,key,val,ret⟩ ⟨id,th,st,bg,en,tr,mO,stand⟩=(aq,many+1,⟨id,th,st,bg,en,tr,xR (fun d=>{d with ret:=ret,got:=val,back:=many}) mO,1⟩):=by
    simp_all [Rc.out,cq]
   rw[e1];unfold sV uT;simp only;rw[aeU mD W5 n m o many gR M1 M2 ⟨3,tx,thread,obj,op,key,val,ret⟩ id th st bg en tr stand mO.length (nth mO) (many+1:Nat) id th st bg en tr 1 (xR (fun d:De=>{d with ret:=ret,got:=val,back:=(many:Int)}) mO).length (mF (nth (xR (fun d:De=>{d with ret:=ret,got:=val,back:=(many:Int)}) mO))),pG]
   repeat' (first
    |exact trivial
    |exact hv
    |exact hw
    |exact hi
    |exact hlen
    |exact hup
    |(intro q;exact (hq q).elim)
    |exact eqS _
    |exact rfl
    |exact fun _ _=>rfl
    |(intro q;replace q:=Eo q;omega)
    |(intro q;replace q:=eqF q;first|(exfalso;omega) |skip)
    |intro _
    |refine ba ?_ ?_)
  ·have hf:Ik (mO.getLast?.getD Row.zX).op ret=ag:=by grind
   have hq:mD.nt (Ik (nth mO (mD.toN (mD.sub .i64 (mD.nH mO.length) (ab 1)))).op ret)=ag->False:=fun q=>by
    simp_all [oP]
   have hlen:=hl;have hup:=hl;have e1:Rc.out many ⟨3,tx,thread,obj,op,key,val,ret⟩ ⟨id,th,st,bg,en,tr,mO,stand⟩=(ae 13,many,⟨id,th,st,bg,en,tr,mO,stand⟩):=by
    simp_all [Rc.out,cq]
   rw[e1];unfold sV uT;simp only;rw[aeU mD W5 n m o many gR M1 M2 ⟨3,tx,thread,obj,op,key,val,ret⟩ id th st bg en tr stand mO.length (nth mO) (many:Nat) id th st bg en tr stand mO.length (mF (nth mO)),pG];repeat' (first
    |exact trivial
    |exact hv
    |exact hw
    |exact hi
    |exact hlen
    |exact hup
    |(intro q;exact (hq q).elim)
    |exact eqS _
    |exact rfl
    |exact fun _ _=>rfl
    |(intro q;replace q:=Eo q;omega)
    |(intro q;replace q:=eqF q;first|(exfalso;omega) |skip)
    |intro _
    |refine ba ?_ ?_)
 ·have hi:=hl
  have hlen:=hl;have hup:=hl;have hq:=hl;have e1:Rc.out many ⟨3,tx,thread,obj,op,key,val,ret⟩ ⟨id,th,st,bg,en,tr,mO,stand⟩=(ae 12,many,⟨id,th,st,bg,en,tr,mO,stand⟩):=by
   grind [beq_eq_false_iff_ne,Rc.out,cq]
  rw[e1];unfold sV uT;simp only;rw[aeU mD W5 n m o many gR M1 M2 ⟨3,tx,thread,obj,op,key,val,ret⟩ id th st bg en tr stand mO.length (nth mO) (many:Nat) id th st bg en tr stand mO.length (mF (nth mO)),pG];repeat' (first
   |exact trivial
   |exact hv
   |exact hw
   |exact eqS _
   |exact rfl
   |exact fun _ _=>rfl
   |(intro q;replace q:=Eo q;omega)
   |(intro q;replace q:=eqF q;first|(exfalso;omega) |skip)
   |refine ba ?_ ?_)
end
end Go.mP
namespace Go.Sx
open Go.oD
theorem EU(d:De):(WJ d).length=8:=rfl
theorem flat_length:∀l:List De,(l.flatMap WJ).length=l.length*8
 |[]=>rfl |d::l=>by simp[flat_length l,EU,Nat.add_mul];omega
theorem WM:∀(l:List De) (i j:Nat),j<8->(l.flatMap WJ)[i*8+j]?=(l[i]?).bind fun d=>(WJ d)[j]?
 |[],i,j,_=>by simp |d::l,0,j,hj=>by
  simp only[jh,Nat.zero_mul,cA,List.getElem?_cons_zero,bL];grind [List.getElem?_append_left,EU]
 |d::l,i+1,j,hj=>by
  simp only[jh,List.getElem?_cons_succ];rw[List.getElem?_append_right (by rw[EU];omega),EU,show (i+1)*8+j - 8=i*8+j by omega];exact WM l i j hj
theorem alC(d:De):∀u∈WJ d,u.oneCell'=aj:=fun u hu=>by
 simp[WJ] at hu;rcases hu with rfl|rfl|rfl|rfl|rfl|rfl|rfl|rfl<;>rfl
theorem alD{H:Mem}(d:De)(j:Nat)(s:Sh)(v:Value)(h1:(deR d)[j]?=ae s)(h2:(WJ d)[j]?=ae v):Rep H s v:=by
 match j,h1,h2 with
 |0,h1,h2=>cases h1;cases h2;exact .i _ _ |1,h1,h2=>cases h1;cases h2;exact .i _ _ |2,h1,h2=>cases h1;cases h2;exact .i _ _ |3,h1,h2=>cases h1;cases h2;exact .i _ _ |4,h1,h2=>cases h1;cases h2;exact .i _ _ |5,h1,h2=>cases h1;cases h2;exact .i _ _ |6,h1,h2=>cases h1;cases h2;exact .i _ _ |7,h1,h2=>cases h1;cases h2;exact .i _ _ |j+8,h1,h2=>simp[deR] at h1
theorem YL{α:Type}[Row α]{l:List α}{i:Nat}(h:i<l.length):l[i]?=ae (nth l i):=by
 simp_all [nth]
theorem Tn{H:Mem}(l:List De):oW H 8 l.length (mF (nth l)) (l.flatMap WJ):=by
 refine ⟨flat_length l,fun i _=>rfl,fun u hu=>?_,fun i j s v hi h1 h2=>?_⟩
 ·grind [alC]
 ·have hj:j<8:=by
   have:=(aT.1 h1).1;exact this
  rw[WM l i j hj,YL hi] at h2;exact alD (nth l i) j s v h1 h2
theorem WO{H:Mem}{l:List De}{xs:List Value}(h:oW H 8 l.length (mF (nth l)) xs):xs=l.flatMap WJ:=by
 apply fq;intro q;by_cases hq:q<l.length*8
 ·have hi:q / 8<l.length:=by omega
  have hj:q % 8<8:=by omega
  have e:q=q / 8*8+q % 8:=by omega
  rw[e,WM l _ _ hj,YL hi];have hx:q / 8*8+q % 8<xs.length:=by rw[h.1];omega
  rw[aD hx];simp only[bL];have hs:∃s,(deR (nth l (q / 8)))[q % 8]?=ae s:=⟨_,aD (by exact hj)⟩;obtain ⟨s,hs⟩:=hs;have hr:=h.2.2.2 (q / 8) (q % 8) s _ hi hs (aD hx);generalize xs[q / 8*8+q % 8]=v at hr;generalize q % 8=j at hs hj hr;match j,hs,hj with
  |0,hs,_=>cases hs;cases hr;rfl |1,hs,_=>cases hs;cases hr;rfl |2,hs,_=>cases hs;cases hr;rfl |3,hs,_=>cases hs;cases hr;rfl |4,hs,_=>cases hs;cases hr;rfl |5,hs,_=>cases hs;cases hr;rfl |6,hs,_=>cases hs;cases hr;rfl |7,hs,_=>cases hs;cases hr;rfl |j+8,_,hj=>omega
 ·rw[dm (by rw[h.1];omega),dm (by rw[flat_length];omega)]
def wI(R:Nat->Nat):Nat->List Sh:=fun j=>[.v (qY (R j))]
theorem ahD{H:Mem}(R:Nat->Nat)(n:Nat):oW H 1 n (wI R) ((aE n).map fun i=>qY (R i)):=by
 refine ⟨by simp,fun i _=>rfl,fun u hu=>?_,fun i j s v hi h1 h2=>?_⟩
 ·obtain ⟨i,_,rfl⟩:=bN.1 hu
  rfl
 ·have hj:j=0:=by
   simp_all [aT,wI]
  subst hj;cases h1;simp[hi] at h2;subst h2;exact .v _ rfl
theorem Il{H:Mem}{R:Nat->Nat}{n:Nat}{xs:List Value}(h:oW H 1 n (wI R) xs):xs=(aE n).map fun i=>qY (R i):=by
 apply fq;intro q;by_cases hq:q<n
 ·have hx:q<xs.length:=by rw[h.1];omega
  rw[aD hx];have hr:=h.2.2.2 q 0 _ xs[q] hq rfl (by simp);generalize xs[q]=v at hr ⊢;cases hr;simp[hq]
 ·rw[dm (by rw[h.1];omega),dm (by simp;omega)]
section
variable{H H':Mem}{E E':Env}{w w':World}{n0:Nat}{g0:Nat->List Sh}{σ σ':Au}{L L':Lay}
theorem JV(hA:qE H w n0 g0 σ L){own:Nat->Prop}{V:Tg->Prop}(hown:∀b,own b↔∃t,V t/\L.blk σ.rs.length t=ae b)(hW:rW ⟨w,own,H⟩ H' w')(hH:H.le H')
  (hV:V .au/\V .tx/\V .BR/\V .bu/\V .ob) (hV2:∀i,V (.rc i)↔V (.de i))
  (au:w'.heap[L'.p]?=ae (.cells #[L'.v0,.int .i64 σ'.many,L'.v2,.map (ae L'.b1),.map (ae L'.b2)] 181 (0,0))) (ob:∃xs,w'.ownsRow 0 140 2 L'.v0 n0 xs/\oW H' 2 n0 g0 xs)
  (tx:w'.ownsRow 0 182 1 L'.v2 σ'.rs.length ((aE σ'.rs.length).map fun i=>qY (L'.R i)))
  (BR:∃ms clk,w'.heap[L'.b1]?=ae (.map ms clk)/\uK .i64 ms.toList clk fun k=>(σ'.BQ k).map fun i=>qY (L'.R i))
  (bu:∃ms clk,w'.heap[L'.b2]?=ae (.map ms clk)/\uK .i64 ms.toList clk fun k=>(σ'.CW k).map fun i=>qY (L'.R i))
  (rcV:∀i r,σ'.rs[i]?=ae r->V (.rc i)->w'.heap[L'.R i]?=ae (.cells (PI r (L'.D i)) 184 (0,0))/\w'.ownsRow 0 197 8 (L'.D i) r.mO.length (r.mO.flatMap WJ))
  (old:∀i r,σ'.rs[i]?=ae r->¬V (.rc i)->σ.rs[i]?=ae r/\L'.R i=L.R i/\L'.D i=L.D i)
  (agq:∀t b,V t->L'.blk σ'.rs.length t=ae b->H' b=aq/\(w.heap.size<=b\/own b))
  (atx:∀s t b,V s->V t->L'.blk σ'.rs.length s=ae b->L'.blk σ'.rs.length t=ae b->s=t) :
  qE H' w' n0 g0 σ' L'/\∀t b,L'.blk σ'.rs.length t=ae b->w.heap.size<=b\/∃t',L.blk σ.rs.length t'=ae b:=by
 have PK:∀t b,¬V t->L'.blk σ'.rs.length t=ae b->L.blk σ.rs.length t=ae b:=fun t b hv hb=>by
  cases t with
  |au=>simp_all |tx=>simp_all |BR=>simp_all |bu=>simp_all |ob=>simp_all |rc i=>
   simp only[b6] at hb ⊢;split at hb
   ·rename_i hi
    obtain ⟨o1,o2,o3⟩:=old i _ (aD hi) hv;grind
   ·cases hb
  |de i=>
   simp only[b6] at hb ⊢;split at hb
   ·rename_i hi
    obtain ⟨o1,o2,o3⟩:=old i _ (aD hi) fun q=>hv ((hV2 i).1 q);grind
   ·cases hb
 have anI:∀t b,¬V t->L.blk σ.rs.length t=ae b->¬own b:=fun t b hv hb ho=>by
  obtain ⟨t',h1,h2⟩:=(hown b).1 ho;have:=hA.vO _ _ _ hb h2;simp_all
 have kept:∀t b,¬V t->L.blk σ.rs.length t=ae b->w'.heap[b]?=w.heap[b]?:=fun t b hv hb=>hW.kept b (hA.lt hb) (anI t b hv hb);refine ⟨⟨au,ob,tx,BR,bu,fun i r hi=>?_,fun i r hi=>?_,fun s t b hs ht=>?_,fun t b hb=>?_⟩,fun t b hb=>?_⟩
 ·by_cases hv:V (.rc i)
  ·simp_all
  ·obtain ⟨o1,o2,o3⟩:=old i r hi hv
   rw[o2,o3,kept (.rc i) _ hv (by grind [b6,aT])];exact hA.rc i r o1
 ·by_cases hv:V (.rc i)
  ·simp_all
  ·obtain ⟨o1,o2,o3⟩:=old i r hi hv
   rw[o3];refine vP (hA.de i r o1) fun b hb=>kept (.de i) b (fun q=>hv ((hV2 i).2 q)) ?_;grind [b6,aT]
 ·by_cases vs:V s<;>by_cases vt:V t
  ·grind
  ·exfalso
   have h1:=PK t b vt ht;rcases (agq s b vs hs).2 with q|q
   ·have:=hA.lt h1;omega
   grind
  ·exfalso
   have h1:=PK s b vs hs;rcases (agq t b vt ht).2 with q|q
   ·have:=hA.lt h1;omega
   grind
  ·exact hA.vO s t b (PK s b vs hs) (PK t b vt ht)
 ·by_cases hv:V t
  ·grind
  ·have h1:=PK t b hv hb
   cases hx:H' b with
   |none=>rfl |some o=>
    rcases hW.fresh b (by rw[hx];simp) with q|q|q
    ·exact (q (hA.un t b h1)).elim
    ·have:=hA.lt h1
     grind
    grind
 grind
end
open Go.oD Go.mP
def yU(σ:Au)(L:Lay):Int->Option Value:=fun k=>(σ.BQ k).map fun i=>qY (L.R i)
def yI(σ:Au)(L:Lay):Int->Option Value:=fun k=>(σ.CW k).map fun i=>qY (L.R i)
def yE(L:Lay)(i:Option Nat):Env:=fun id=>match id with
 |0=>ae (qY L.p) |1=>ae L.v2 |2=>ae (.map (ae L.b1)) |3=>ae (.map (ae L.b2)) |4=>i.map fun i=>qY (L.R i) |5=>i.map fun i=>L.D i |6=>ae L.v0 |_=>aq
def Vw(i:Option Nat):Tg->Prop
 | .rc j=>i=ae j | .de j=>i=ae j |_=>True
def Lr(i:Nat):Nat->Tg
 |0=>.au |1=>.tx |2=>.BR |3=>.bu |4=>.rc i |5=>.de i |_=>.ob
def asO:Tg->Nat
 | .au=>0 | .tx=>1 | .BR=>2 | .bu=>3 | .rc _=>4 | .de _=>5 | .ob=>6
theorem alE{i a:Nat}(h:a<7):asO (Lr i a)=a:=by
 match a,h with
 |0,_|1,_|2,_|3,_|4,_|5,_|6,_=>rfl |a+7,h=>omega
theorem YM{i a b:Nat}(ha:a<7)(hb:b<7)(h:Lr i a=Lr i b):a=b:=by
 grind [alE]
section
variable{H H':Mem}{E E':Env}{w w':World}{n:Nat}{o:Nat->Oj}{σ σ':Au}{L L':Lay}
def Ae(n:Nat)(o:Nat->Oj)(σ:Au)(L:Lay)(f1 f2:List (Int×Bool×SV)):List (Nat×SB):=hpA n σ.rs.length o σ.many (wI L.R) (yU σ L) (yI σ L) f1 f2
theorem alG(hA:qE H w n (mF o) σ L)(i:Option Nat){own:Nat->Prop}(hown:∀t b,Vw i t->L.blk σ.rs.length t=ae b->own b){f1 f2:List (Int×Bool×SV)}{v1 v2:List (Int×Option Value)}(h1:vY H (yE L i) f1 v1)(h2:vY H (yE L i) f2 v2)
  (m1:∀k u,(k,u)∈v1->yU σ L k=u) (m2:∀k u,(k,u)∈v2->yI σ L k=u):∀id sb,mG (Ae n o σ L f1 f2) id=ae sb->wo ⟨w,own,H⟩ H (yE L i) w id sb/\(id<4\/id=6)/\∀b,nN (yE L i) id sb=ae b->L.blk σ.rs.length (Lr 0 id)=ae b:=by
 intro id sb hl;have mine:∀t b,Vw i t->L.blk σ.rs.length t=ae b->Mine ⟨w,own,H⟩ H b:=fun t b hv hb=>⟨hA.un t b hb,.inr (hown t b hv hb)⟩;match id,hl with
 |0,hl=>
  cases hl;exact ⟨⟨L.p,_,rfl,hA.au,⟨⟨rfl,(let ⟨_,h1,_⟩:=hA.ob;zF h1)⟩,rfl,⟨rfl,zF hA.tx⟩,⟨_,rfl,rfl⟩,⟨_,rfl,rfl⟩,trivial⟩,mine .au _ trivial rfl⟩,by decide,fun b hb=>hb⟩
 |1,hl=>
  cases hl;exact ⟨⟨L.v2,_,rfl,hA.tx,ahD _ _,fun b hb=>mine .tx b trivial hb⟩,by decide,fun b hb=>hb⟩
 |2,hl=>
  cases hl;obtain ⟨ms,clk,a1,a2⟩:=hA.BR;exact ⟨⟨L.b1,ms,clk,v1,[],rfl,a1,h1,trivial,m1,a2,trivial,mine .BR _ trivial rfl⟩,by decide,fun b hb=>hb⟩
 |3,hl=>
  cases hl;obtain ⟨ms,clk,a1,a2⟩:=hA.bu;exact ⟨⟨L.b2,ms,clk,v2,[],rfl,a1,h2,trivial,m2,a2,trivial,mine .bu _ trivial rfl⟩,by decide,fun b hb=>hb⟩
 |6,hl=>
  cases hl;obtain ⟨xs,a1,a2⟩:=hA.ob;exact ⟨⟨L.v0,xs,rfl,a1,a2,fun b hb=>mine .ob b trivial hb⟩,by decide,fun b hb=>hb⟩
 |4,hl=>simp[Ae,hpA,mG] at hl |5,hl=>simp[Ae,hpA,mG] at hl |id+7,hl=>simp[Ae,hpA,mG] at hl
theorem aeW{n:Nat}{o:Nat->Oj}{σ:Au}{L:Lay}{f1 f2:List (Int×Bool×SV)}{r:Rc}{id:Nat}{sb:SB}(h:mG (Ae n o σ L f1 f2++uT r) id=ae sb):
  mG (Ae n o σ L f1 f2) id=ae sb\/(id=4/\sb=.box [.sym .i64 r.id,.sym .i64 r.th,.sym .i64 r.st,.sym .i64 r.bg,.sym .i64 r.en,.sym .i64 r.tr,.gs 5,.sym .i64 r.stand] 184)\/(id=5/\sb=.own 197 8 r.mO.length (mF (nth r.mO))):=by
 match id,h with
 |0,h=>exact .inl h |1,h=>exact .inl h |2,h=>exact .inl h |3,h=>exact .inl h |4,h=>cases h;simp |5,h=>cases h;simp |6,h=>exact .inl h |id+7,h=>simp[Ae,hpA,uT,XL,mG] at h
theorem anJ{i j id:Nat}(h:id<4\/id=6):Lr i id=Lr j id:=by
 match id,h with
 |0,_|1,_|2,_|3,_|6,_=>rfl |4,h=>omega |5,h=>omega |id+7,h=>omega
theorem ahE(hA:qE H w n (mF o) σ L){i:Nat}{r:Rc}(hi:σ.rs[i]?=ae r){own:Nat->Prop}(hown:∀t b,Vw (ae i) t->L.blk σ.rs.length t=ae b->own b){f1 f2:List (Int×Bool×SV)}{v1 v2:List (Int×Option Value)}
  (h1:vY H (yE L (ae i)) f1 v1) (h2:vY H (yE L (ae i)) f2 v2) (m1:∀k u,(k,u)∈v1->yU σ L k=u) (m2:∀k u,(k,u)∈v2->yI σ L k=u) :
  mZ ⟨w,own,H⟩ H (yE L (ae i)) w (Ae n o σ L f1 f2++uT r):=by
 have hlt:=(aT.1 hi).1;have key:∀id sb,mG (Ae n o σ L f1 f2++uT r) id=ae sb->wo ⟨w,own,H⟩ H (yE L (ae i)) w id sb/\id<7/\∀b,nN (yE L (ae i)) id sb=ae b->L.blk σ.rs.length (Lr i id)=ae b:=fun id sb hl=>by
  rcases aeW hl with hl|⟨rfl,rfl⟩ |⟨rfl,rfl⟩
  ·grind [alG,anJ]
  ·have hb:L.blk σ.rs.length (.rc i)=ae (L.R i):=by simp[b6,hlt]
   exact ⟨⟨L.R i,_,rfl,hA.rc i r hi,⟨rfl,rfl,rfl,rfl,rfl,rfl,⟨rfl,zF (hA.de i r hi)⟩,rfl,trivial⟩,⟨hA.un _ _ hb,.inr (hown (.rc i) _ rfl hb)⟩⟩,by decide,fun b hb'=>by
    cases hb';exact hb⟩
  ·have hb:∀b,mY (L.D i)=ae b->L.blk σ.rs.length (.de i)=ae b:=fun b hb=>by grind [b6]
   exact ⟨⟨L.D i,_,rfl,hA.de i r hi,Tn _,fun b hb'=>⟨hA.un _ _ (hb b hb'),.inr (hown (.de i) _ rfl (hb b hb'))⟩⟩,by decide,fun b hb'=>hb b hb'⟩
 refine ⟨fun id sb hl=>(key id sb hl).1,fun id id' sb sb' b l1 l2 o1 o2=>?_⟩;obtain ⟨_,a1,a2⟩:=key id sb l1;obtain ⟨_,b1,b2⟩:=key id' sb' l2;exact YM a1 b1 (hA.vO _ _ _ (a2 b o1) (b2 b o2))
theorem WQ(hA:qE H w n (mF o) σ L){own:Nat->Prop}(hown:∀t b,Vw aq t->L.blk σ.rs.length t=ae b->own b){f1 f2:List (Int×Bool×SV)}{v1 v2:List (Int×Option Value)}
  (h1:vY H (yE L aq) f1 v1) (h2:vY H (yE L aq) f2 v2) (m1:∀k u,(k,u)∈v1->yU σ L k=u) (m2:∀k u,(k,u)∈v2->yI σ L k=u) :
  mZ ⟨w,own,H⟩ H (yE L aq) w (Ae n o σ L f1 f2):=by
 have key:=alG hA aq hown h1 h2 m1 m2;refine ⟨fun id sb hl=>(key id sb hl).1,fun id id' sb sb' b l1 l2 o1 o2=>?_⟩;obtain ⟨_,a1,a2⟩:=key id sb l1;obtain ⟨_,b1,b2⟩:=key id' sb' l2;exact YM (i:=0) (by omega) (by omega) (hA.vO _ _ _ (a2 b o1) (b2 b o2))
theorem alH(hA:qE H w n (mF o) σ L){i:Nat}{r:Rc}(hi:σ.rs[i]?=ae r){f1 f2:List (Int×Bool×SV)}(b:Nat):
  Ci (yE L (ae i)) (Ae n o σ L f1 f2++uT r) b↔∃t,Vw (ae i) t/\L.blk σ.rs.length t=ae b:=by
 have hlt:=(aT.1 hi).1;constructor
 ·rintro ⟨id,sb,hl,hb⟩
  match id,hl with
  |0,hl=>cases hl;exact ⟨.au,trivial,hb⟩ |1,hl=>cases hl;exact ⟨.tx,trivial,hb⟩ |2,hl=>cases hl;exact ⟨.BR,trivial,hb⟩ |3,hl=>cases hl;exact ⟨.bu,trivial,hb⟩ |4,hl=>cases hl;exact ⟨.rc i,rfl,by cases hb;simp[b6,hlt]⟩ |5,hl=>cases hl;exact ⟨.de i,rfl,by simp only[b6,if_pos hlt];exact hb⟩ |6,hl=>cases hl;exact ⟨.ob,trivial,hb⟩ |id+7,hl=>simp[Ae,hpA,uT,XL,mG] at hl
 ·rintro ⟨t,hv,hb⟩
  cases t with
  |au=>exact ⟨0,_,rfl,hb⟩ |tx=>exact ⟨1,_,rfl,hb⟩ |BR=>exact ⟨2,_,rfl,hb⟩ |bu=>exact ⟨3,_,rfl,hb⟩ |ob=>exact ⟨6,_,rfl,hb⟩ |rc j=>
   cases hv;simp only[b6,if_pos hlt] at hb;exact ⟨4,_,rfl,hb⟩
  |de j=>
   cases hv;simp only[b6,if_pos hlt] at hb;exact ⟨5,_,rfl,hb⟩
theorem YN{f1 f2:List (Int×Bool×SV)}(b:Nat):
  Ci (yE L aq) (Ae n o σ L f1 f2) b↔∃t,Vw aq t/\L.blk σ.rs.length t=ae b:=by
 constructor
 ·rintro ⟨id,sb,hl,hb⟩
  match id,hl with
  |0,hl=>cases hl;exact ⟨.au,trivial,hb⟩ |1,hl=>cases hl;exact ⟨.tx,trivial,hb⟩ |2,hl=>cases hl;exact ⟨.BR,trivial,hb⟩ |3,hl=>cases hl;exact ⟨.bu,trivial,hb⟩ |4,hl=>simp[Ae,hpA,mG] at hl |5,hl=>simp[Ae,hpA,mG] at hl |6,hl=>cases hl;exact ⟨.ob,trivial,hb⟩ |id+7,hl=>simp[Ae,hpA,mG] at hl
 ·rintro ⟨t,hv,hb⟩
  cases t with
  |au=>exact ⟨0,_,rfl,hb⟩ |tx=>exact ⟨1,_,rfl,hb⟩ |BR=>exact ⟨2,_,rfl,hb⟩ |bu=>exact ⟨3,_,rfl,hb⟩ |ob=>exact ⟨6,_,rfl,hb⟩ |rc j=>cases hv |de j=>cases hv
end
open Go.oD Go.mP
section
variable{H H':Mem}{E E':Env}{w w':World}{n:Nat}{o:Nat->Oj}{σ σ':Au}{L L':Lay}
theorem Gv{r:List (Int×Option Value)}(h:vY H E [] r):r=[]:=by
 cases r with
 |nil=>rfl |cons _ _=>exact h.elim
theorem ahF{t:Int}{x:SV}{r:List (Int×Option Value)}(h:vY H E [(t,ag,x)] r):r=[(t,aq)]:=by
 match r,h with
 |[(k,o)],⟨h1,h2,_⟩=>
  grind
 |[],h=>exact h.elim |(_,_)::_::_,⟨_,_,h⟩=>exact h.elim
def acU(σ σ':Au)(us:List (Int×Bool×SV)):Prop:=
 (us=[]/\∀k,σ'.CW k=σ.CW k)\/∃t x,us=[(t,ag,x)]/\∀k,σ'.CW k=if k=t then aq else σ.CW k
theorem aeX{own:Nat->Prop}(hA:qE H w n (mF o) σ L){i:Nat}{r0:Rc}(hi:σ.rs[i]?=ae r0)(hown:∀b,own b↔∃t,Vw (ae i) t/\L.blk σ.rs.length t=ae b)
  {e:Ev} {many':Nat} {r:Rc} {us:List (Int×Bool×SV)} (hh:mZ ⟨w,own,H⟩ H' E' w' (sV n σ.rs.length o (wI L.R) (yU σ L) (yI σ L) e many' r us).hp) (hW:rW ⟨w,own,H⟩ H' w') (hH:H.le H')
  (h0:E' 0=ae (qY L.p)) (h4:E' 4=ae (qY (L.R i))) (hby:∀k,(⟨many',σ.rs.set i r⟩:Au).BQ k=σ.BQ k) (hbu:acU σ ⟨many',σ.rs.set i r⟩ us) :
  ∃L',qE H' w' n (mF o) ⟨many',σ.rs.set i r⟩ L'/\L'.p=L.p/\∀t b,L'.blk (σ.rs.set i r).length t=ae b->w.heap.size<=b\/∃t',L.blk σ.rs.length t'=ae b:=by
 have hlt:=(aT.1 hi).1;obtain ⟨p,⟨cs⟩,p1,p2,p3,p4⟩:=hh.ent 0 _ rfl;match cs,p3 with
 |[u0,u1,u2,u3,u4],⟨d0,d1,d2,d3,d4,_⟩=>
  have d1:u1=.int .i64 many':=d1;obtain ⟨d0,_⟩:E' 6=ae u0/\_:=d0;obtain ⟨d2,_⟩:E' 1=ae u2/\_:=d2;obtain ⟨b1,d3,d3'⟩:=d3;obtain ⟨b2,d4,d4'⟩:=d4;subst d1 d3' d4';rw[h0] at p1;have hp:L.p=p:=by
   grind [bd,qY]
  subst hp;have hob:∃xs,w'.ownsRow 0 140 2 u0 n xs/\oW H' 2 n (mF o) xs:=by
   obtain ⟨v,xs,x1,x2,x3,_⟩:=hh.ent 6 _ rfl;grind
  obtain ⟨v2,xs,q1,q2,q3,q4⟩:=hh.ent 1 _ rfl;rw[d2] at q1;cases q1;obtain rfl:=Il q3;obtain ⟨b1',ms1,PL,fv1,uv1,s1,s2,s3,s4,s5,s6,_,s7⟩:=hh.ent 2 _ rfl;rw[d3] at s1;cases s1;obtain rfl:=Gv s4;obtain ⟨b2',ms2,PN,fv2,uv2,t1,t2,t3,t4,t5,t6,_,t7⟩:=hh.ent 3 _ rfl;rw[d4] at t1;cases t1;obtain ⟨pr,⟨cr⟩,r1,r2,r3,r4⟩:=hh.ent 4 _ rfl;rw[h4] at r1;have hpr:L.R i=pr:=by
   grind [bd,qY]
  subst hpr;match cr,r3 with
  |[c0,c1,c2,c3,c4,c5,c6,c7],⟨e0,e1,e2,e3,e4,e5,e6,e7,_⟩=>
   have e0:c0=.int .i64 r.id:=e0;have e1:c1=.int .i64 r.th:=e1;have e2:c2=.int .i64 r.st:=e2;have e3:c3=.int .i64 r.bg:=e3;have e4:c4=.int .i64 r.en:=e4;have e5:c5=.int .i64 r.tr:=e5;have e7:c7=.int .i64 r.stand:=e7;obtain ⟨e6,_⟩:E' 5=ae c6/\_:=e6;subst e0 e1 e2 e3 e4 e5 e7;obtain ⟨vd,xd,g1,g2,g3,g4⟩:=hh.ent 5 _ rfl;rw[e6] at g1;cases g1;obtain rfl:=WO g3;let L':Lay:=⟨L.p,u0,u2,b1,b2,L.R,fun j=>if j=i then c6 else L.D j⟩
   have hlen:(σ.rs.set i r).length=σ.rs.length:=by simp
   have hbl:∀t b,Vw (ae i) t->L'.blk (σ.rs.set i r).length t=ae b->∃id sb,id<7/\Lr i id=t/\mG (sV n σ.rs.length o (wI L.R) (yU σ L) (yI σ L) e many' r us).hp id=ae sb/\nN E' id sb=ae b:=fun t b hv hb=>by
    cases t with
    |au=>exact ⟨0,_,by decide,rfl,rfl,by simp only[nN,h0];exact hb⟩ |tx=>exact ⟨1,_,by decide,rfl,rfl,by simp only[nN,d2];exact hb⟩ |BR=>exact ⟨2,_,by decide,rfl,rfl,by simp only[nN,d3];exact hb⟩ |bu=>exact ⟨3,_,by decide,rfl,rfl,by simp only[nN,d4];exact hb⟩ |ob=>exact ⟨6,_,by decide,rfl,rfl,by simp only[nN,d0];exact hb⟩ |rc j=>
     cases hv;refine ⟨4,_,by decide,rfl,rfl,?_⟩;simp only[b6,hlen,if_pos hlt] at hb;simp only[nN,h4];exact hb
    |de j=>
     cases hv;refine ⟨5,_,by decide,rfl,rfl,?_⟩;simp only[b6,hlen,if_pos hlt,L'] at hb;simp_all [nN]
   have mk:=JV (H':=H') (w':=w') (σ':=⟨many',σ.rs.set i r⟩) (L':=L') hA hown hW hH ⟨trivial,trivial,trivial,trivial,trivial⟩ (fun _=>lN) p2 hob (by grind)
    ⟨ms1,PL,s2,by
     have:(fun k=>((⟨many',σ.rs.set i r⟩:Au).BQ k).map fun i=>qY (L'.R i))=KT (yU σ L) []:=by
      funext k;rw[hby k];rfl
     simp_all⟩
    ⟨ms2,PN,t2,by
     have:(fun k=>((⟨many',σ.rs.set i r⟩:Au).CW k).map fun i=>qY (L'.R i))=KT (yI σ L) uv2:=by
      rcases hbu with ⟨rfl,hb⟩ |⟨t,x,rfl,hb⟩
      ·obtain rfl:=Gv t4
       funext k;rw[hb k];rfl
      ·obtain rfl:=ahF t4
       funext k;rw[hb k];simp only[KT];grind [yI]
     simp_all⟩
    (fun j rj hj hv=>by
     cases hv;have:rj=r:=by
      simp_all
     subst this;simp only[L',if_true];exact ⟨r2,g2⟩)
    (fun j rj hj hv=>by
     have hne:¬j=i:=fun q=>hv (by rw[q];exact rfl);grind)
    (fun t b hv hb=>by
     obtain ⟨id,sb,_,_,a3,a4⟩:=hbl t b hv hb;exact ⟨((hh.ent _ _ a3).lt a4).2.1,((hh.ent _ _ a3).lt a4).2.2⟩)
    (fun s t b hs ht bs bt=>by
     obtain ⟨id,sb,a1,a2,a3,a4⟩:=hbl s b hs bs;obtain ⟨id',sb',b1,b2,b3,b4⟩:=hbl t b ht bt;have:=hh.vO _ _ _ _ _ a3 b3 a4 b4;simp_all)
   grind
end
open Go.oD Go.mP
section
variable{H H':Mem}{E E':Env}{w w':World}{n:Nat}{o:Nat->Oj}{σ σ':Au}{L L':Lay}
theorem acV{own:Nat->Prop}(hA:qE H w n (mF o) σ L)(hown:∀b,own b↔∃t,Vw aq t/\L.blk σ.rs.length t=ae b)
  {f1 f2:List (Int×Bool×SV)} (hh:mZ ⟨w,own,H⟩ H' E' w' (toN n σ.rs.length o σ.many (wI L.R) (yU σ L) (yI σ L) f1 f2).hp) (hW:rW ⟨w,own,H⟩ H' w') (hH:H.le H')
  (h0:E' 0=ae (qY L.p)) :
  ∃L',qE H' w' n (mF o) σ L'/\L'.p=L.p/\∀t b,L'.blk σ.rs.length t=ae b->w.heap.size<=b\/∃t',L.blk σ.rs.length t'=ae b:=by
 obtain ⟨p,⟨cs⟩,p1,p2,p3,p4⟩:=hh.ent 0 _ rfl;match cs,p3 with
 |[u0,u1,u2,u3,u4],⟨d0,d1,d2,d3,d4,_⟩=>
  have d1:u1=.int .i64 σ.many:=d1;obtain ⟨d0,_⟩:E' 6=ae u0/\_:=d0;obtain ⟨d2,_⟩:E' 1=ae u2/\_:=d2;obtain ⟨b1,d3,d3'⟩:=d3;obtain ⟨b2,d4,d4'⟩:=d4;subst d1 d3' d4';rw[h0] at p1;have hp:L.p=p:=by
   grind [bd,qY]
  subst hp;have hob:∃xs,w'.ownsRow 0 140 2 u0 n xs/\oW H' 2 n (mF o) xs:=by
   obtain ⟨v,xs,x1,x2,x3,_⟩:=hh.ent 6 _ rfl;grind
  obtain ⟨v2,xs,q1,q2,q3,q4⟩:=hh.ent 1 _ rfl;rw[d2] at q1;cases q1;obtain rfl:=Il q3;obtain ⟨b1',ms1,PL,fv1,uv1,s1,s2,s3,s4,s5,s6,_,s7⟩:=hh.ent 2 _ rfl;rw[d3] at s1;cases s1;obtain rfl:=Gv s4;obtain ⟨b2',ms2,PN,fv2,uv2,t1,t2,t3,t4,t5,t6,_,t7⟩:=hh.ent 3 _ rfl;rw[d4] at t1;cases t1;obtain rfl:=Gv t4;let L':Lay:=⟨L.p,u0,u2,b1,b2,L.R,L.D⟩
  have hbl:∀t b,Vw aq t->L'.blk σ.rs.length t=ae b->∃id sb,id<7/\Lr 0 id=t/\mG (toN n σ.rs.length o σ.many (wI L.R) (yU σ L) (yI σ L) f1 f2).hp id=ae sb/\nN E' id sb=ae b:=fun t b hv hb=>by
   cases t with
   |au=>exact ⟨0,_,by decide,rfl,rfl,by simp only[nN,h0];exact hb⟩ |tx=>exact ⟨1,_,by decide,rfl,rfl,by simp only[nN,d2];exact hb⟩ |BR=>exact ⟨2,_,by decide,rfl,rfl,by simp only[nN,d3];exact hb⟩ |bu=>exact ⟨3,_,by decide,rfl,rfl,by simp only[nN,d4];exact hb⟩ |ob=>exact ⟨6,_,by decide,rfl,rfl,by simp only[nN,d0];exact hb⟩ |rc j=>cases hv |de j=>cases hv
  have mk:=JV (H':=H') (w':=w') (σ':=σ) (L':=L') hA hown hW hH ⟨trivial,trivial,trivial,trivial,trivial⟩ (fun _=>lN) p2 hob q2 ⟨ms1,PL,s2,s6⟩ ⟨ms2,PN,t2,t6⟩
   (fun j rj hj hv=>by cases hv) (fun j rj hj hv=>⟨hj,rfl,rfl⟩)
   (fun t b hv hb=>by
    obtain ⟨id,sb,_,_,a3,a4⟩:=hbl t b hv hb;exact ⟨((hh.ent _ _ a3).lt a4).2.1,((hh.ent _ _ a3).lt a4).2.2⟩)
   (fun s t b hs ht bs bt=>by
    obtain ⟨id,sb,a1,a2,a3,a4⟩:=hbl s b hs bs;obtain ⟨id',sb',b1,b2,b3,b4⟩:=hbl t b ht bt;have:=hh.vO _ _ _ _ _ a3 b3 a4 b4;simp_all)
  grind
theorem YO{t:Int}{x y:SV}{r:List (Int×Option Value)}(h:vY H E [(t,aj,x),(t,aj,y)] r):∃u v,r=[(t,ae u),(t,ae v)]/\Den H E x u:=by
 match r,h with
 |[(k,p),(k',q)],⟨h1,h2,h3,h4,_⟩=>
  grind
 |[],h=>exact h.elim |[(_,_)],⟨_,_,h⟩=>exact h.elim |(_,_)::(_,_)::_::_,⟨_,_,_,_,h⟩=>exact h.elim
theorem Tq{α:Type}{p:α->Bool}{l:List α}{i:Nat}(h:l.findIdx? p=ae i):i<l.length:=by
 simp_all [List.findIdx?_eq_some_iff_findIdx_eq]
theorem aeY{own:Nat->Prop}(hA:qE H w n (mF o) σ L)(hown:∀b,own b↔∃t,Vw aq t/\L.blk σ.rs.length t=ae b)
  {e:Ev} {many':Nat} {r:Rc} (hd:r.mO=[]) (hh:mZ ⟨w,own,H⟩ H' E' w' (toB n σ.rs.length o (wI L.R) (yU σ L) (yI σ L) e many' r.id r.th r.st r.bg r.en r.tr r.stand).hp) (hW:rW ⟨w,own,H⟩ H' w') (hH:H.le H')
  (h0:E' 0=ae (qY L.p)) (hby:∀k,(⟨many',σ.rs++[r]⟩:Au).BQ k=if k=e.tx then ae σ.rs.length else σ.BQ k) (hbu:∀k,(⟨many',σ.rs++[r]⟩:Au).CW k=if k=e.thread then ae σ.rs.length else σ.CW k) :
  ∃L',qE H' w' n (mF o) ⟨many',σ.rs++[r]⟩ L'/\L'.p=L.p/\∀t b,L'.blk (σ.rs++[r]).length t=ae b->w.heap.size<=b\/∃t',L.blk σ.rs.length t'=ae b:=by
 obtain ⟨p,⟨cs⟩,p1,p2,p3,p4⟩:=hh.ent 0 _ rfl;match cs,p3 with
 |[u0,u1,u2,u3,u4],⟨d0,d1,d2,d3,d4,_⟩=>
  have d1:u1=.int .i64 many':=d1;obtain ⟨d0,_⟩:E' 6=ae u0/\_:=d0;obtain ⟨d2,_⟩:E' 1=ae u2/\_:=d2;obtain ⟨b1,d3,d3'⟩:=d3;obtain ⟨b2,d4,d4'⟩:=d4;subst d1 d3' d4';rw[h0] at p1;have hp:L.p=p:=by
   grind [bd,qY]
  subst hp;obtain ⟨pr,⟨cr⟩,r1,r2,r3,r4⟩:=hh.ent 4 _ rfl;have alI:∀{u:Value},Den H' E' (.ptr 4 0) u->u=qY pr:=fun {u} h=>by
   obtain ⟨b,h1,h2⟩:=h;rw[r1] at h1;cases h1;exact h2
  have hob:∃xs,w'.ownsRow 0 140 2 u0 n xs/\oW H' 2 n (mF o) xs:=by
   obtain ⟨v,xs,x1,x2,x3,_⟩:=hh.ent 6 _ rfl;grind
  obtain ⟨v2,xs,ys,q1,q2,q3,q5,_,_,q4⟩:=hh.ent 1 _ rfl;rw[d2] at q1;cases q1;obtain rfl:=Il q3;match ys,q5 with
  |[y],⟨q5,_⟩=>
  obtain rfl:=alI q5;obtain ⟨b1',ms1,PL,fv1,uv1,s1,s2,s3,s4,s5,s6,_,s7⟩:=hh.ent 2 _ rfl;rw[d3] at s1;cases s1;obtain ⟨x1,x2,rfl,x3⟩:=YO s4;obtain rfl:=alI x3;obtain ⟨b2',ms2,PN,fv2,uv2,t1,t2,t3,t4,t5,t6,_,t7⟩:=hh.ent 3 _ rfl;rw[d4] at t1;cases t1;obtain ⟨y1,y2,rfl,y3⟩:=YO t4;obtain rfl:=alI y3;match cr,r3 with
  |[c0,c1,c2,c3,c4,c5,c6,c7],⟨e0,e1,e2,e3,e4,e5,e6,e7,_⟩=>
   have e0:c0=.int .i64 r.id:=e0;have e1:c1=.int .i64 r.th:=e1;have e2:c2=.int .i64 r.st:=e2;have e3:c3=.int .i64 r.bg:=e3;have e4:c4=.int .i64 r.en:=e4;have e5:c5=.int .i64 r.tr:=e5;have e6:c6=.slice aq 0 0:=e6;have e7:c7=.int .i64 r.stand:=e7;subst e0 e1 e2 e3 e4 e5 e6 e7;let L':Lay:=⟨L.p,u0,u2,b1,b2,fun j=>if j=σ.rs.length then pr else L.R j,fun j=>if j=σ.rs.length then .slice aq 0 0 else L.D j⟩
   have hlen:(σ.rs++[r]).length=σ.rs.length+1:=by simp
   have hown':∀b,own b↔∃t,Vw (ae σ.rs.length) t/\L.blk σ.rs.length t=ae b:=fun b=>by
    rw[hown b];constructor
    ·rintro ⟨t,h1,h2⟩
     refine ⟨t,?_,h2⟩;cases t with
     |rc j=>cases h1 |de j=>cases h1 |_=>trivial
    ·rintro ⟨t,h1,h2⟩
     refine ⟨t,?_,h2⟩;cases t with
     |rc j=>cases h1;simp[b6] at h2 |de j=>cases h1;simp[b6] at h2 |_=>trivial
   have hbl:∀t b,Vw (ae σ.rs.length) t->L'.blk (σ.rs++[r]).length t=ae b->∃id sb,id<7/\Lr σ.rs.length id=t/\mG (toB n σ.rs.length o (wI L.R) (yU σ L) (yI σ L) e many' r.id r.th r.st r.bg r.en r.tr r.stand).hp id=ae sb/\nN E' id sb=ae b:=fun t b hv hb=>by
    cases t with
    |au=>exact ⟨0,_,by decide,rfl,rfl,by simp only[nN,h0];exact hb⟩ |tx=>exact ⟨1,_,by decide,rfl,rfl,by simp only[nN,d2];exact hb⟩ |BR=>exact ⟨2,_,by decide,rfl,rfl,by simp only[nN,d3];exact hb⟩ |bu=>exact ⟨3,_,by decide,rfl,rfl,by simp only[nN,d4];exact hb⟩ |ob=>exact ⟨6,_,by decide,rfl,rfl,by simp only[nN,d0];exact hb⟩ |rc j=>
     cases hv;refine ⟨4,_,by decide,rfl,rfl,?_⟩;simp[b6,L'] at hb;simp only[nN,r1];rw[<-hb];rfl
    |de j=>
     cases hv;grind [b6,mY]
   have hR:∀j,j<σ.rs.length->L'.R j=L.R j:=fun j hj=>if_neg (by omega);have hmap:∀(f:Option Nat),(∀j,f=ae j->j<σ.rs.length)->(f.map fun i=>qY (L'.R i))=f.map fun i=>qY (L.R i):=fun f hf=>by
    cases f with
    |none=>rfl |some j=>simp_all
   have mk:=JV (H':=H') (w':=w') (σ':=⟨many',σ.rs++[r]⟩) (L':=L') hA hown' hW hH ⟨trivial,trivial,trivial,trivial,trivial⟩ (fun _=>lN) p2 hob
    (by
     grind [aE,qY,List.range_succ,List.map_congr_left])
    ⟨ms1,PL,s2,by
     have:(fun k=>((⟨many',σ.rs++[r]⟩:Au).BQ k).map fun i=>qY (L'.R i))=KT (yU σ L) [(e.tx,ae (qY pr)),(e.tx,ae x2)]:=by
      funext k;rw[hby k];simp only[KT];by_cases hk:k=e.tx
      ·simp[hk,L']
      ·rw[if_neg hk,if_neg hk,if_neg hk]
       exact hmap _ fun j hj=>Tq hj
     simp_all⟩
    ⟨ms2,PN,t2,by
     have:(fun k=>((⟨many',σ.rs++[r]⟩:Au).CW k).map fun i=>qY (L'.R i))=KT (yI σ L) [(e.thread,ae (qY pr)),(e.thread,ae y2)]:=by
      funext k;rw[hbu k];simp only[KT];by_cases hk:k=e.thread
      ·simp[hk,L']
      ·rw[if_neg hk,if_neg hk,if_neg hk]
       exact hmap _ fun j hj=>Tq hj
     simp_all⟩
    (fun j rj hj hv=>by
     cases hv;have:rj=r:=by simp_all
     subst this;simp only[L',if_true];refine ⟨r2,?_⟩;simp_all [F7])
    (fun j rj hj hv=>by
     have hne:¬j=σ.rs.length:=fun q=>hv (by rw[q];exact rfl);grind)
    (fun t b hv hb=>by
     obtain ⟨id,sb,_,_,a3,a4⟩:=hbl t b hv hb;exact ⟨((hh.ent _ _ a3).lt a4).2.1,((hh.ent _ _ a3).lt a4).2.2⟩)
    (fun s t b hs ht bs bt=>by
     obtain ⟨id,sb,a1,a2,a3,a4⟩:=hbl s b hs bs;obtain ⟨id',sb',b1,b2,b3,b4⟩:=hbl t b ht bt;have:=hh.vO _ _ _ _ _ a3 b3 a4 b4;simp_all)
   grind
end
end Go.Sx
namespace Go.oD
open Go Go.Sx
theorem Dn{α:Type}{p:α->Bool}{x:α}:∀{l:List α} {i:Nat} {y:α},l[i]?=ae y->p x=p y->(l.set i x).findIdx? p=l.findIdx? p
 |[],_,_,h,_=>by simp at h |a::l,0,y,h,hp=>by
  simp at h;subst h;simp[cV,hp]
 |a::l,i+1,y,h,hp=>by
  simp only[List.set_cons_succ,cV];rw[Dn (l:=l) (by simpa using h) hp]
theorem JW{α:Type}{p:α->Bool}:∀{l:List α} {i:Nat},l.findIdx? p=ae i->∃y,l[i]?=ae y/\p y=aj
 |[],_,h=>by simp at h |a::l,i,h=>by
  rw[cV] at h;cases ha:p a with
  |true=>rw[ha] at h;simp at h;subst h;exact ⟨a,rfl,ha⟩ |false=>
   rw[ha] at h;simp at h;obtain ⟨j,hj,rfl⟩:=h;obtain ⟨y,h1,h2⟩:=JW hj;exact ⟨y,by simpa using h1,h2⟩
theorem acW{α:Type}{p:α->Bool}{l:List α}(h:∀(i:Nat) (y:α),l[i]?=ae y->p y=ag):l.findIdx? p=aq:=by
 rw[gH];intro x hx;obtain ⟨i,hi,rfl⟩:=List.getElem_of_mem hx;exact h i _ (aD hi)
theorem Ls{α:Type}{p:α->Bool}{x:α}:∀{l:List α},(l++[x]).findIdx? p=match l.findIdx? p with|some i=>ae i|none=>if p x then ae l.length else aq
 |[]=>by simp[cV] |a::l=>by
  simp only[List.cons_append,cV];cases ha:p a with
  |true=>simp |false=>
   simp only[Bool.false_eq_true,if_false];rw[Ls (l:=l)];cases l.findIdx? p with
   |some i=>rfl |none=>
    cases hx:p x<;>simp
theorem aqL{α:Type}{P:α->Prop}{c:Bool}{a b:α}(ha:P a)(hb:P b):P (bif c then a else b):=by
 cases c
 ·exact hb
 ·exact ha
theorem Io{many:Nat}{e:Ev}{r r':Rc}(h:cq many e r=.inr r'):r'.id=r.id/\r'.th=r.th:=by
 have:(fun x:Nat ⊕ Rc=>∀r',x=.inr r'->r'.id=r.id/\r'.th=r.th) (cq many e r):=by
  unfold cq;repeat' (refine aqL (P:=fun x:Nat ⊕ Rc=>∀r',x=.inr r'->r'.id=r.id/\r'.th=r.th) ?_ ?_)
  all_goals
   intro r' h;first
    |(cases h;done)
    |(cases h;exact ⟨rfl,rfl⟩)
 exact this r' h
theorem Ns{many:Nat}{e:Ev}{r r':Rc}(h:cq many e r=.inr r')(hk:2<=e.kind/\e.kind<=7)(hs:1<=r.stand/\r.stand<=5):r.live=aj/\(1<=r'.stand/\r'.stand<=5)/\(r'.live=aj↔¬(e.kind=5\/e.kind=6)):=by
 unfold cq at h;unfold Rc.live;by_cases k2:e.kind=2
 ·simp only[k2,beq_self_eq_true,cond_true] at h
  by_cases q:r.stand=1
  ·simp only[q,beq_self_eq_true,cond_true] at h;cases h;simp[q];omega
  ·have:(r.stand==1)=ag:=by simpa using q
   rw[this] at h;cases h
 by_cases k3:e.kind=3
 ·simp only[k3,show ((3:Int)==2)=ag from rfl,beq_self_eq_true,cond_true,cond_false] at h
  by_cases q:r.stand=2
  ·simp only[q,beq_self_eq_true,cond_true] at h
   cases f:Ik (r.mO.getLast?.getD Row.zX).op e.ret<;>simp only[f,cond_true,cond_false] at h<;>cases h
   simp[q];omega
  ·have:(r.stand==2)=ag:=by simpa using q
   rw[this] at h;cases h
 by_cases k4:e.kind=4
 ·simp only[k4,show ((4:Int)==2)=ag from rfl,show ((4:Int)==3)=ag from rfl,beq_self_eq_true,cond_true,cond_false] at h
  by_cases q:r.stand=1
  ·simp only[q,beq_self_eq_true,cond_true] at h;cases h;simp[q];omega
  ·have:(r.stand==1)=ag:=by simpa using q
   rw[this] at h;cases h
 by_cases k7:e.kind=7
 ·simp only[k7,show ((7:Int)==2)=ag from rfl,show ((7:Int)==3)=ag from rfl,show ((7:Int)==4)=ag from rfl,beq_self_eq_true,cond_true,cond_false] at h
  by_cases q:r.stand=1
  ·simp only[q,beq_self_eq_true,cond_true] at h;cases h;simp[q];omega
  ·have:(r.stand==1)=ag:=by simpa using q
   rw[this] at h;cases h
 by_cases k5:e.kind=5
 ·simp only[k5,show ((5:Int)==2)=ag from rfl,show ((5:Int)==3)=ag from rfl,show ((5:Int)==4)=ag from rfl,show ((5:Int)==7)=ag from rfl,beq_self_eq_true,cond_true,cond_false] at h
  by_cases q:r.stand=3
  ·simp only[q,beq_self_eq_true,cond_true] at h;cases h;simp[q];omega
  ·have:(r.stand==3)=ag:=by simpa using q
   rw[this] at h;cases h
 have k6:e.kind=6:=by omega
 simp only[k6,show ((6:Int)==2)=ag from rfl,show ((6:Int)==3)=ag from rfl,show ((6:Int)==4)=ag from rfl,show ((6:Int)==7)=ag from rfl,show ((6:Int)==5)=ag from rfl,cond_false] at h;by_cases q:r.stand=5
 ·rw[q] at h;cases h
 ·have:(r.stand==1||r.stand==2||r.stand==3||r.stand==4)=aj:=by
   simp;omega
  rw[this] at h;cases h;simp[q];omega
end Go.oD
namespace Go.mP
open Go Go.Sx Go.oD
section
variable{n m:Nat}{o:Nat->Oj}{many:Nat}{gR:Nat->List Sh}{M1 M2:Int->Option Value}
theorem ahG(hm:many<400){e:Ev}(h1:0<=e.obj)(h2:e.obj<n)(h3:rD e.op=(o e.obj.toNat).kind)(hk:e.kind=2)(hv:oZ e=aj):
  tJ (vV [toN n m o many gR M1 M2 [(e.tx,ag,.any)] []] (fun sv k=>sv=svE (ae 11)/\k=0)) ((run (C5 mD W5 pJ ni) 700 aj 79 [.code []] (LA 2 e (hpA n m o many gR M1 M2 [(e.tx,ag,.any)] []))).bind (toEnd [toN n m o many gR M1 M2 [(e.tx,ag,.any)] []])):=by
 obtain ⟨kind,tx,thread,obj,op,key,val,ret⟩:=e;have hk:kind=2:=hk;subst hk;have hw:=hm;have hroom:=hm;have h1:0<=obj:=h1;have h2:obj<n:=h2;have h3:rD op=(o obj.toNat).kind:=h3;have ho:mD.le (mD.nH n) obj=aj->False:=fun q=>by grind [su,nI]
 have hi:mD.inB obj n=aj:=by simp[oJ];omega
 have hq:mD.nt (mD.eq (rD op) (o (mD.toN obj)).kind)=aj->False:=fun q=>by
  simp_all [oP,nC,pR]
 rw[aqB mD W5 n m o many gR M1 M2 ⟨2,tx,thread,obj,op,key,val,ret⟩ many,pG];repeat' (first
  |exact trivial
  |exact hv
  |exact hw
  |exact hi
  |exact hroom
  |exact eqS _
  |exact rfl
  |exact fun _ _=>rfl
  |(intro q;exact (ho q).elim)
  |(intro q;exact (hq q).elim)
  |(intro q;replace q:=Eo q;omega)
  |(intro q;replace q:=eqF q;first|(exfalso;omega) |skip)
  |intro _
  |refine ba ?_ ?_)
theorem ahH(hm:many<400){e:Ev}(hk:e.kind=3)(hv:oZ e=aj):
  tJ (vV [toN n m o many gR M1 M2 [(e.tx,ag,.any)] []] (fun sv k=>sv=svE (ae 11)/\k=0)) ((run (C5 mD W5 pJ ni) 700 aj 79 [.code []] (LA 3 e (hpA n m o many gR M1 M2 [(e.tx,ag,.any)] []))).bind (toEnd [toN n m o many gR M1 M2 [(e.tx,ag,.any)] []])):=by
 obtain ⟨kind,tx,thread,obj,op,key,val,ret⟩:=e;have hk:kind=3:=hk;subst hk;have hw:=hm;have hroom:=hm;have ho:=hm;have hi:=hm;have hq:=hm;rw[aqC mD W5 n m o many gR M1 M2 ⟨3,tx,thread,obj,op,key,val,ret⟩ many,pG];repeat' (first
  |exact trivial
  |exact hv
  |exact hw
  |exact hi
  |exact hroom
  |exact eqS _
  |exact rfl
  |exact fun _ _=>rfl
  |(intro q;exact (ho q).elim)
  |(intro q;exact (hq q).elim)
  |(intro q;replace q:=Eo q;omega)
  |(intro q;replace q:=eqF q;first|(exfalso;omega) |skip)
  |intro _
  |refine ba ?_ ?_)
theorem ahI(hm:many<400){e:Ev}(hk:e.kind=4)(hv:oZ e=aj):
  tJ (vV [toN n m o many gR M1 M2 [(e.tx,ag,.any)] []] (fun sv k=>sv=svE (ae 11)/\k=0)) ((run (C5 mD W5 pJ ni) 700 aj 79 [.code []] (LA 4 e (hpA n m o many gR M1 M2 [(e.tx,ag,.any)] []))).bind (toEnd [toN n m o many gR M1 M2 [(e.tx,ag,.any)] []])):=by
 obtain ⟨kind,tx,thread,obj,op,key,val,ret⟩:=e;have hk:kind=4:=hk;subst hk;have hw:=hm;have hroom:=hm;have ho:=hm;have hi:=hm;have hq:=hm;rw[aqD mD W5 n m o many gR M1 M2 ⟨4,tx,thread,obj,op,key,val,ret⟩ many,pG];repeat' (first
  |exact trivial
  |exact hv
  |exact hw
  |exact hi
  |exact hroom
  |exact eqS _
  |exact rfl
  |exact fun _ _=>rfl
  |(intro q;exact (ho q).elim)
  |(intro q;exact (hq q).elim)
  |(intro q;replace q:=Eo q;omega)
  |(intro q;replace q:=eqF q;first|(exfalso;omega) |skip)
  |intro _
  |refine ba ?_ ?_)
theorem ahJ(hm:many<400){e:Ev}(hk:e.kind=5)(hv:oZ e=aj):
  tJ (vV [toN n m o many gR M1 M2 [(e.tx,ag,.any)] []] (fun sv k=>sv=svE (ae 11)/\k=0)) ((run (C5 mD W5 pJ ni) 700 aj 79 [.code []] (LA 5 e (hpA n m o many gR M1 M2 [(e.tx,ag,.any)] []))).bind (toEnd [toN n m o many gR M1 M2 [(e.tx,ag,.any)] []])):=by
 obtain ⟨kind,tx,thread,obj,op,key,val,ret⟩:=e;have hk:kind=5:=hk;subst hk;have hw:=hm;have hroom:=hm;have ho:=hm;have hi:=hm;have hq:=hm;rw[aqE mD W5 n m o many gR M1 M2 ⟨5,tx,thread,obj,op,key,val,ret⟩ many,pG];repeat' (first
  |exact trivial
  |exact hv
  |exact hw
  |exact hi
  |exact hroom
  |exact eqS _
  |exact rfl
  |exact fun _ _=>rfl
  |(intro q;exact (ho q).elim)
  |(intro q;exact (hq q).elim)
  |(intro q;replace q:=Eo q;omega)
  |(intro q;replace q:=eqF q;first|(exfalso;omega) |skip)
  |intro _
  |refine ba ?_ ?_)
theorem ahK(hm:many<400){e:Ev}(hk:e.kind=6)(hv:oZ e=aj):
  tJ (vV [toN n m o many gR M1 M2 [(e.tx,ag,.any)] []] (fun sv k=>sv=svE (ae 11)/\k=0)) ((run (C5 mD W5 pJ ni) 700 aj 79 [.code []] (LA 6 e (hpA n m o many gR M1 M2 [(e.tx,ag,.any)] []))).bind (toEnd [toN n m o many gR M1 M2 [(e.tx,ag,.any)] []])):=by
 obtain ⟨kind,tx,thread,obj,op,key,val,ret⟩:=e;have hk:kind=6:=hk;subst hk;have hw:=hm;have hroom:=hm;have ho:=hm;have hi:=hm;have hq:=hm;rw[aqF mD W5 n m o many gR M1 M2 ⟨6,tx,thread,obj,op,key,val,ret⟩ many,pG];repeat' (first
  |exact trivial
  |exact hv
  |exact hw
  |exact hi
  |exact hroom
  |exact eqS _
  |exact rfl
  |exact fun _ _=>rfl
  |(intro q;exact (ho q).elim)
  |(intro q;exact (hq q).elim)
  |(intro q;replace q:=Eo q;omega)
  |(intro q;replace q:=eqF q;first|(exfalso;omega) |skip)
  |intro _
  |refine ba ?_ ?_)
theorem ahL(hm:many<400){e:Ev}(hk:e.kind=7)(hv:oZ e=aj):
  tJ (vV [toN n m o many gR M1 M2 [(e.tx,ag,.any)] []] (fun sv k=>sv=svE (ae 11)/\k=0)) ((run (C5 mD W5 pJ ni) 700 aj 79 [.code []] (LA 7 e (hpA n m o many gR M1 M2 [(e.tx,ag,.any)] []))).bind (toEnd [toN n m o many gR M1 M2 [(e.tx,ag,.any)] []])):=by
 obtain ⟨kind,tx,thread,obj,op,key,val,ret⟩:=e;have hk:kind=7:=hk;subst hk;have hw:=hm;have hroom:=hm;have ho:=hm;have hi:=hm;have hq:=hm;rw[aqG mD W5 n m o many gR M1 M2 ⟨7,tx,thread,obj,op,key,val,ret⟩ many,pG];repeat' (first
  |exact trivial
  |exact hv
  |exact hw
  |exact hi
  |exact hroom
  |exact eqS _
  |exact rfl
  |exact fun _ _=>rfl
  |(intro q;exact (ho q).elim)
  |(intro q;exact (hq q).elim)
  |(intro q;replace q:=Eo q;omega)
  |(intro q;replace q:=eqF q;first|(exfalso;omega) |skip)
  |intro _
  |refine ba ?_ ?_)
theorem alJ(hm:many<400){e:Ev}(hk:e.kind=1)(hv:oZ e=aj)(r:Rc):
  tJ (vV [sV n m o gR M1 M2 e many r []] (fun sv k=>sv=svE (ae 9)/\k=0)) ((run (C5 mD W5 pJ ni) 700 aj 79 [.code []] (LA 1 e (hpA n m o many gR M1 M2 [(e.tx,aj,.ptr 4 0)] []++uT r))).bind (toEnd [sV n m o gR M1 M2 e many r []])):=by
 obtain ⟨kind,tx,thread,obj,op,key,val,ret⟩:=e;obtain ⟨id,th,st,bg,en,tr,mO,stand⟩:=r;have hk:kind=1:=hk;subst hk;have hw:=hm;have hroom:=hm;have ho:=hm;have hi:=hm;have hq:=hm;unfold sV uT;simp only;rw[aqH mD W5 n m o many gR M1 M2 ⟨1,tx,thread,obj,op,key,val,ret⟩ id th st bg en tr stand mO.length (nth mO) many id th st bg en tr stand mO.length (mF (nth mO)),pG];repeat' (first
  |exact trivial
  |exact hv
  |exact hw
  |exact hi
  |exact hroom
  |exact eqS _
  |exact rfl
  |exact fun _ _=>rfl
  |(intro q;exact (ho q).elim)
  |(intro q;exact (hq q).elim)
  |(intro q;replace q:=Eo q;omega)
  |(intro q;replace q:=eqF q;first|(exfalso;omega) |skip)
  |intro _
  |refine ba ?_ ?_)
theorem anK(hm:many<400){e:Ev}(hk:e.kind=1)(hv:oZ e=aj)(q:Nat):
  tJ (vV [toN n m o many gR M1 M2 [(e.tx,ag,.any)] [(e.thread,aj,.val (.pointer (ae ⟨q,0,aq⟩)))]] (fun sv k=>sv=svE (ae 10)/\k=0)) ((run (C5 mD W5 pJ ni) 700 aj 79 [.code []] (LA 1 e (hpA n m o many gR M1 M2 [(e.tx,ag,.any)] [(e.thread,aj,.val (.pointer (ae ⟨q,0,aq⟩)))]))).bind (toEnd [toN n m o many gR M1 M2 [(e.tx,ag,.any)] [(e.thread,aj,.val (.pointer (ae ⟨q,0,aq⟩)))]])):=by
 obtain ⟨kind,tx,thread,obj,op,key,val,ret⟩:=e;have hk:kind=1:=hk;subst hk;have hw:=hm;have hroom:=hm;have ho:=hm;have hi:=hm;have hq:=hm;rw[aqI mD W5 n m o many gR M1 M2 ⟨1,tx,thread,obj,op,key,val,ret⟩ q many,pG];repeat' (first
  |exact trivial
  |exact hv
  |exact hw
  |exact hi
  |exact hroom
  |exact eqS _
  |exact rfl
  |exact fun _ _=>rfl
  |(intro q;exact (ho q).elim)
  |(intro q;exact (hq q).elim)
  |(intro q;replace q:=Eo q;omega)
  |(intro q;replace q:=eqF q;first|(exfalso;omega) |skip)
  |intro _
  |refine ba ?_ ?_)
theorem alK(hm:many<400)(hl:m<=1000){e:Ev}(hk:e.kind=1)(hv:oZ e=aj):
  tJ (vV [toB n m o gR M1 M2 e (many+1:Nat) e.tx e.thread 1 many (-1) (-1) 1] (fun sv k=>sv=svE aq/\k=0)) ((run (C5 mD W5 pJ ni) 700 aj 79 [.code []] (LA 1 e (hpA n m o many gR M1 M2 [(e.tx,ag,.any)] [(e.thread,ag,.any)]))).bind (toEnd [toB n m o gR M1 M2 e (many+1:Nat) e.tx e.thread 1 many (-1) (-1) 1])):=by
 obtain ⟨kind,tx,thread,obj,op,key,val,ret⟩:=e;have hk:kind=1:=hk;subst hk;have hw:=wrapM hm;have hroom:mD.room (mD.addN m 1) 8=aj:=by
  show decide ((m+1)*8<=140737488355328/\m+1<=maxLen)=aj;grind [maxLen_eq,decide_eq_true]
 have ho:=hm;have hi:=hm;have hq:=hm;rw[aqJ mD W5 n m o many gR M1 M2 ⟨1,tx,thread,obj,op,key,val,ret⟩ (many+1:Nat) tx thread 1 many (-1) (-1) 1,pG];repeat' (first
  |exact trivial
  |exact hv
  |exact hw
  |exact hi
  |exact hroom
  |exact eqS _
  |exact rfl
  |exact fun _ _=>rfl
  |(intro q;exact (ho q).elim)
  |(intro q;exact (hq q).elim)
  |(intro q;replace q:=Eo q;omega)
  |(intro q;replace q:=eqF q;first|(exfalso;omega) |skip)
  |intro _
  |refine ba ?_ ?_)
end
open Go Go.Sx Go.oD
def alL(H:Mem):Option Nat->Value->Prop
 |none,v=>v=.nilIface |some k,v=>Rep H (.er k 329) v
theorem WR{H:Mem}{E:Env}{x:Option Nat}{v:Value}(h:Den H E (svE x) v):alL H x v:=by
 cases x with
 |none=>exact h |some k=>exact h
def JX(L:Lay)(k:Nat):Nat->Prop:=fun b=>∃t,L.blk k t=ae b
def Gw(H:Mem)(w:World)(n:Nat)(o:Nat->Oj)(σ:Au)(L:Lay)(x:Option Nat)(σ':Au)(en:Ending)(w':World):Prop:=
 ∃v H' L',en=.returned v/\alL H' x v/\qE H' w' n (mF o) σ' L'/\L'.p=L.p/\(∀t b,L'.blk σ'.rs.length t=ae b->w.heap.size<=b\/JX L σ.rs.length b)/\H.le H'/\rW ⟨w,JX L σ.rs.length,H⟩ H' w'
theorem KI{w w':World}{H H':Mem}{own own':Nat->Prop}(h:rW ⟨w,own,H⟩ H' w')(ho:∀b,own b->own' b):rW ⟨w,own',H⟩ H' w':=
 ⟨h.os,h.tape,h.output,h.size,fun b hb hn=>h.kept b hb fun q=>hn (ho b q),h.on,h.le,fun b hb=>by
  (rcases h.fresh b hb with q|q|q)<;>simp_all⟩
def Rj(e:Ev):Value:=.agg #[.int .i64 e.kind,.int .i64 e.tx,.int .i64 e.thread,.int .i64 e.obj,.int .i64 e.op,.int .i64 e.key,.int .i64 e.val,.int .i64 e.ret]
@[irreducible] def ags (H:Mem) (E:Env) (l:List SV) (vs:List Value):Prop:=mW H E l vs
theorem acX{H:Mem}{E:Env}{l:List SV}{vs:List Value}:ags H E l vs=mW H E l vs:=by unfold ags;rfl
theorem JY{P:Program}{C:Ctx}{H:Mem}{E:Env}{w:World}(hC:oh P C)(hF:oH P C){n g:Nat}{fn:Func}{c:Core}{args:Array Value}{ts:List IV}{φ:SV->Nat->Prop}(hfn:C.fns.get g=ae fn)(hb:fn.body.isSome=aj)
  (hd:ags H E c.tm (args++bw (fn.ntmps - args.size) undef).toList) (hh:mZ ⟨w,Ci E c.hp,H⟩ H E w c.hp) (hon:H.on w) (hfree:Free E c) (hg:qh C.gls H)
  (h:tJ (vV ts φ) ((run C n aj g [.code []] c).bind (toEnd ts))) :
  Calls P g args w fun e w'=>∃v sv k t H' E1 E',e=.returned v/\φ sv k/\ts[k]?=ae t/\Den H' E1 sv v/\mZ ⟨w,Ci E c.hp,H⟩ H' E' w' t.hp/\rW ⟨w,Ci E c.hp,H⟩ H' w'/\H.le H'/\∀i∈t.keep,∀u,E i=ae u->E' i=ae u:=by
 grind [acX,ad9]
theorem alM(a b u:Value)(k:Nat):(#[a,b]++bw k u).toList=[a,b]++bp k u:=by simp
theorem aai{H:Mem}{E:Env}{L:Lay}{e:Ev}{kind:Int}{hp:List (Nat×SB)}(hk:e.kind=kind)(h0:E 0=ae (qY L.p)):ags H E (LA kind e hp).tm (#[qY L.p,Rj e]++bw (cK.ntmps - #[qY L.p,Rj e].size) undef).toList:=by
 have hn:cK.ntmps=168:=by kernel_rfl
 rw[acX,hn,alM];have e1:(LA kind e hp).tm=[.ptr 0 0,evS kind e]++bp 166 .any:=rfl;have e3:168 - #[qY L.p,Rj e].size=166:=rfl;rw[e1,e3];refine mW.append ⟨⟨L.p,by rw[h0];rfl,rfl⟩,⟨_,rfl,⟨by rw[<-hk];rfl,rfl,rfl,rfl,rfl,rfl,rfl,rfl,trivial⟩⟩,trivial⟩ (mW.any _ _ ?_);rfl
theorem Nu{L:Lay}{i:Option Nat}{c:Core}(h:c.nx=7):Free (yE L i) c:=fun id h1 _=>by
 rw[h] at h1;match id,h1 with
 |id+7,_=>rfl
section
variable{H:Mem}{w:World}{n:Nat}{o:Nat->Oj}{σ:Au}{L:Lay}{e:Ev}
theorem Bh(hA:qE H w n (mF o) σ L)(hon:H.on w)(hg:qh (uY W5) H){i:Nat}{r:Rc}(hi:σ.rs[i]?=ae r)(hby:σ.BQ e.tx=ae i){kind:Int}(hk:e.kind=kind){ts:List IV}{φ:SV->Nat->Prop}
  (hrun:tJ (vV ts φ) ((run (C5 mD W5 pJ ni) 700 aj 79 [.code []] (LA kind e (hpA n σ.rs.length o σ.many (wI L.R) (yU σ L) (yI σ L) [(e.tx,aj,.ptr 4 0)] []++uT r))).bind (toEnd ts)))
  {x:Option Nat} {many':Nat} {r':Rc} (hid:r'.id=r.id)
  (hts:∀sv k t,φ sv k->ts[k]?=ae t->sv=svE x/\∃us,t=sV n σ.rs.length o (wI L.R) (yU σ L) (yI σ L) e many' r' us/\acU σ ⟨many',σ.rs.set i r'⟩ us) :
  Calls ah 79 #[qY L.p,Rj e] w (Gw H w n o σ L x ⟨many',σ.rs.set i r'⟩):=by
 have hown:=alH (f1:=[(e.tx,aj,.ptr 4 0)]) (f2:=[]) hA hi;have WS:=ahE (own:=Ci (yE L (ae i)) (Ae n o σ L [(e.tx,aj,.ptr 4 0)] []++uT r)) hA hi (fun t b h1 h2=>(hown b).2 ⟨t,h1,h2⟩) (f1:=[(e.tx,aj,.ptr 4 0)]) (f2:=[]) (v1:=[(e.tx,ae (qY (L.R i)))]) (v2:=[])
  ⟨rfl,⟨⟨L.R i,rfl,rfl⟩,rfl⟩,trivial⟩ trivial (fun k u hm=>by
   simp at hm;obtain ⟨rfl,rfl⟩:=hm;simp[yU,hby]) (fun k u hm=>by simp at hm)
 have hd:=aai (H:=H) (E:=yE L (ae i)) (L:=L) (hp:=hpA n σ.rs.length o σ.many (wI L.R) (yU σ L) (yI σ L) [(e.tx,aj,.ptr 4 0)] []++uT r) hk rfl;refine (JY (args:=#[qY L.p,Rj e]) (fn:=cK) (c:=LA kind e (hpA n σ.rs.length o σ.many (wI L.R) (yU σ L) (yI σ L) [(e.tx,aj,.ptr 4 0)] []++uT r)) (fH _ _) (aeV _) (by kernel_rfl) (by kernel_rfl) hd WS hon (Nu rfl) hg hrun).mono fun en w' ⟨v,sv,k,t,H',E1,E',h1,h2,h3,h4,h5,h6,h7,h8⟩=>?_;obtain ⟨hsv,us,rfl,hus⟩:=hts sv k t h2 h3;subst hsv;obtain ⟨L',a1,a2,a3⟩:=aeX hA hi hown h5 h6 h7 (h8 0 (by simp[sV,toR]) _ rfl) (h8 4 (by simp[sV,toR]) _ rfl)
  (fun k=>Dn hi (by simp[hid])) hus
 exact ⟨v,H',L',h1,WR h4,a1,a2,a3,h7,KI h6 fun b hb=>by
  obtain ⟨t,_,q⟩:=(hown b).1 hb;exact ⟨t,q⟩⟩
theorem WT(hA:qE H w n (mF o) σ L)(hon:H.on w)(hg:qh (uY W5) H)(hby:σ.BQ e.tx=aq){kind:Int}(hk:e.kind=kind){f2:List (Int×Bool×SV)}{v2:List (Int×Option Value)}(d2:vY H (yE L aq) f2 v2)(m2:∀k u,(k,u)∈v2->yI σ L k=u){x:Option Nat}
  (hrun:tJ (vV [toN n σ.rs.length o σ.many (wI L.R) (yU σ L) (yI σ L) [(e.tx,ag,.any)] f2] (fun sv k=>sv=svE x/\k=0)) ((run (C5 mD W5 pJ ni) 700 aj 79 [.code []] (LA kind e (hpA n σ.rs.length o σ.many (wI L.R) (yU σ L) (yI σ L) [(e.tx,ag,.any)] f2))).bind (toEnd [toN n σ.rs.length o σ.many (wI L.R) (yU σ L) (yI σ L) [(e.tx,ag,.any)] f2]))) :
  Calls ah 79 #[qY L.p,Rj e] w (Gw H w n o σ L x σ):=by
 have hown:=YN (n:=n) (o:=o) (σ:=σ) (L:=L) (f1:=[(e.tx,ag,.any)]) (f2:=f2);have WS:=WQ (own:=Ci (yE L aq) (Ae n o σ L [(e.tx,ag,.any)] f2)) hA (fun t b h1 h2=>(hown b).2 ⟨t,h1,h2⟩) (f1:=[(e.tx,ag,.any)]) (f2:=f2) (v1:=[(e.tx,aq)]) (v2:=v2)
  ⟨rfl,trivial,trivial⟩ d2 (fun k u hm=>by
   simp at hm;obtain ⟨rfl,rfl⟩:=hm;simp[yU,hby]) m2
 have hd:=aai (H:=H) (E:=yE L aq) (L:=L) (hp:=hpA n σ.rs.length o σ.many (wI L.R) (yU σ L) (yI σ L) [(e.tx,ag,.any)] f2) hk rfl;refine (JY (args:=#[qY L.p,Rj e]) (fn:=cK) (c:=LA kind e (hpA n σ.rs.length o σ.many (wI L.R) (yU σ L) (yI σ L) [(e.tx,ag,.any)] f2)) (fH _ _) (aeV _) (by kernel_rfl) (by kernel_rfl) hd WS hon (Nu rfl) hg hrun).mono fun en w' ⟨v,sv,k,t,H',E1,E',h1,h2,h3,h4,h5,h6,h7,h8⟩=>?_;obtain ⟨rfl,rfl⟩:=h2;cases h3;obtain ⟨L',a1,a2,a3⟩:=acV hA hown h5 h6 h7 (h8 0 (by simp[toN]) _ rfl);exact ⟨v,H',L',h1,WR h4,a1,a2,a3,h7,KI h6 fun b hb=>by
  obtain ⟨t,_,q⟩:=(hown b).1 hb;exact ⟨t,q⟩⟩
theorem ahM(hA:qE H w n (mF o) σ L)(hon:H.on w)(hg:qh (uY W5) H)(hm:σ.many<400)(hl:σ.rs.length<=1000)(hby:σ.BQ e.tx=aq)(hbu:σ.CW e.thread=aq)(hk:e.kind=1)(hv:oZ e=aj):
  Calls ah 79 #[qY L.p,Rj e] w (Gw H w n o σ L aq ⟨σ.many+1,σ.rs++[⟨e.tx,e.thread,1,σ.many,-1,-1,[],1⟩]⟩):=by
 have hown:=YN (n:=n) (o:=o) (σ:=σ) (L:=L) (f1:=[(e.tx,ag,.any)]) (f2:=[(e.thread,ag,.any)]);have WS:=WQ (own:=Ci (yE L aq) (Ae n o σ L [(e.tx,ag,.any)] [(e.thread,ag,.any)])) hA (fun t b h1 h2=>(hown b).2 ⟨t,h1,h2⟩) (f1:=[(e.tx,ag,.any)]) (f2:=[(e.thread,ag,.any)]) (v1:=[(e.tx,aq)]) (v2:=[(e.thread,aq)])
  ⟨rfl,trivial,trivial⟩ ⟨rfl,trivial,trivial⟩ (fun k u hm=>by
   simp at hm;obtain ⟨rfl,rfl⟩:=hm;simp[yU,hby]) (fun k u hm=>by
   simp at hm;obtain ⟨rfl,rfl⟩:=hm;simp[yI,hbu])
 have hd:=aai (H:=H) (E:=yE L aq) (L:=L) (hp:=hpA n σ.rs.length o σ.many (wI L.R) (yU σ L) (yI σ L) [(e.tx,ag,.any)] [(e.thread,ag,.any)]) hk rfl;refine (JY (args:=#[qY L.p,Rj e]) (fn:=cK) (c:=LA 1 e (hpA n σ.rs.length o σ.many (wI L.R) (yU σ L) (yI σ L) [(e.tx,ag,.any)] [(e.thread,ag,.any)])) (fH _ _) (aeV _) (by kernel_rfl) (by kernel_rfl) hd WS hon (Nu rfl) hg (alK hm hl hk hv)).mono fun en w' ⟨v,sv,k,t,H',E1,E',h1,h2,h3,h4,h5,h6,h7,h8⟩=>?_;obtain ⟨rfl,rfl⟩:=h2;cases h3;obtain ⟨L',a1,a2,a3⟩:=aeY (r:=⟨e.tx,e.thread,1,σ.many,-1,-1,[],1⟩) hA hown rfl h5 h6 h7 (h8 0 (by simp[toB]) _ rfl)
  (fun k=>by
   grind [Au.BQ])
  (fun k=>by
   show (σ.rs++[_]).findIdx? _=_;rw[Ls];by_cases q:k=e.thread
   ·subst q
    rw[if_pos rfl,show σ.rs.findIdx? (fun r=>r.th==e.thread&&r.live)=aq from hbu];simp[Rc.live]
   grind [Au.CW])
 exact ⟨v,H',L',h1,WR h4,a1,a2,a3,h7,KI h6 fun b hb=>by
  obtain ⟨t,_,q⟩:=(hown b).1 hb;exact ⟨t,q⟩⟩
end
end Go.mP
namespace Go.oD
open Go Go.Sx
theorem KJ{α:Type}{l:List α}{i:Nat}{x:α}(h:l[i]?=ae x):l.set i x=l:=by
 apply fq;grind
theorem DI(many:Nat)(e:Ev)(r:Rc):(Rc.out many e r).2.2.id=r.id:=by
 grind [Rc.out,cq,Io]
theorem aeZ{σ:Au}{e:Ev}{i:Nat}{r:Rc}(hi:σ.rs[i]?=ae r)(hby:σ.BQ e.tx=ae i)(hk:¬e.kind=1):σ.feed e=((Rc.out σ.many e r).1,⟨(Rc.out σ.many e r).2.1,σ.rs.set i (Rc.out σ.many e r).2.2⟩):=by
 have h1:(e.kind==1)=ag:=by grind
 have hr:σ.rs.getD i ⟨0,0,0,0,0,0,[],0⟩=r:=by simp_all
 unfold fQ;rw[hby];simp only[h1,cond_false,hr];unfold Rc.out;cases h:cq σ.many e r with
 |inl k=>simp only[KJ hi] |inr r'=>rfl
theorem Tt{e:Ev}(h:oZ e=aj):1<=e.kind/\e.kind<=7:=by
 unfold oZ at h;simp only[al] at h;have:=of_decide_eq_true h.1.1;exact this.1
end Go.oD
namespace Go.mP
open Go Go.Sx Go.oD
theorem JZ{σ:Au}{i:Nat}{r:Rc}{e:Ev}(hi:σ.rs[i]?=ae r)(hs:1<=r.stand/\r.stand<=5)(hk:2<=e.kind/\e.kind<=7)(hn:¬(e.kind=5\/e.kind=6)\/(Rc.out σ.many e r).1.isNone=ag):acU σ ⟨(Rc.out σ.many e r).2.1,σ.rs.set i (Rc.out σ.many e r).2.2⟩ []:=by
 refine .inl ⟨rfl,fun k=>?_⟩;unfold Rc.out at hn ⊢;cases h:cq σ.many e r with
 |inl x=>simp only[KJ hi] |inr r'=>
  rw[h] at hn;have hn:¬(e.kind=5\/e.kind=6):=by grind
  obtain ⟨l1,l2,l3⟩:=Ns h hk hs;exact Dn hi (by rw[(Io h).2,l1,l3.2 hn])
theorem anL{σ:Au}(hI:σ.OK){i:Nat}{r:Rc}{e:Ev}(hi:σ.rs[i]?=ae r)(hk:e.kind=5\/e.kind=6)(hn:(Rc.out σ.many e r).1.isNone=aj):acU σ ⟨(Rc.out σ.many e r).2.1,σ.rs.set i (Rc.out σ.many e r).2.2⟩ [(r.th,ag,.any)]:=by
 refine .inr ⟨r.th,.any,rfl,fun k=>?_⟩;unfold Rc.out at hn ⊢;cases h:cq σ.many e r with
 |inl x=>simp_all |inr r'=>
  obtain ⟨l1,l2,l3⟩:=Ns h (by omega) (hI.stands i r hi);have hl:r'.live=ag:=by
   simp_all
  have ht:=(Io h).2;have hlt:=(aT.1 hi).1;by_cases q:k=r.th
  ·rw[if_pos q]
   subst q;refine acW fun j y hj=>?_
   rw[List.getElem?_set] at hj;by_cases e1:i=j
   ·simp_all
   ·rw[if_neg e1] at hj
    cases h1:(y.th==r.th&&y.live) with
    |false=>rfl |true=>
     simp only[al,beq_iff_eq] at h1;exact (e1 (hI.one i j r y hi hj h1.1.symm l1 h1.2)).elim
  ·rw[if_neg q]
   refine Dn hi ?_;grind
section
variable{H:Mem}{w:World}{n:Nat}{o:Nat->Oj}{σ:Au}{L:Lay}{e:Ev}
theorem ts1{t0 t:IV}{k:Nat}(h:[t0][k]?=ae t)(hk:k=0):t=t0:=by
 simp_all
theorem alO(hA:qE H w n (mF o) σ L)(hI:σ.OK)(hon:H.on w)(hg:qh (uY W5) H)(hm:σ.many<400)(hv:oZ e=aj)(hob:e.kind=2->0<=e.obj/\e.obj<n/\rD e.op=(o e.obj.toNat).kind):
  Calls ah 79 #[qY L.p,Rj e] w (Gw H w n o σ L (σ.feed e).1 (σ.feed e).2):=by
 have hkd:=Tt hv;have hlen:=hI.len;cases hby:σ.BQ e.tx with
 |some i=>
  obtain ⟨r,hi,hp⟩:=JW hby
  have hdl:=hI.dl i r hi;by_cases k1:e.kind=1
  ·have e1:σ.feed e=(ae 9,σ):=by
    simp_all [fQ]
   rw[e1];have:=Bh hA hon hg hi hby k1 (alJ (n:=n) (o:=o) hm k1 hv r) (x:=ae 9) (many':=σ.many) (r':=r) rfl fun sv k t h1 h2=>⟨h1.1,[],ts1 h2 h1.2,.inl ⟨rfl,fun k=>by rw[KJ hi]⟩⟩;simp_all [KJ]
  ·rw[aeZ hi hby k1]
   have hst:=hI.stands i r hi;by_cases k2:e.kind=2
   ·obtain ⟨h1,h2,h3⟩:=hob k2
    exact Bh hA hon hg hi hby k2 (alA hm k2 hv r (by omega) h1 h2 h3) (DI _ _ _) fun sv k t h1 h2=>⟨h1.1,[],ts1 h2 h1.2,JZ hi hst (by omega) (.inl (by omega))⟩
   by_cases k3:e.kind=3
   ·exact Bh hA hon hg hi hby k3 (alB hm k3 hv r (by omega) (hI.deed i r hi)) (DI _ _ _) fun sv k t h1 h2=>⟨h1.1,[],ts1 h2 h1.2,JZ hi hst (by omega) (.inl (by omega))⟩
   by_cases k4:e.kind=4
   ·exact Bh hA hon hg hi hby k4 (alv hm k4 hv r) (DI _ _ _) fun sv k t h1 h2=>⟨h1.1,[],ts1 h2 h1.2,JZ hi hst (by omega) (.inl (by omega))⟩
   by_cases k7:e.kind=7
   ·exact Bh hA hon hg hi hby k7 (alx hm k7 hv r) (DI _ _ _) fun sv k t h1 h2=>⟨h1.1,[],ts1 h2 h1.2,JZ hi hst (by omega) (.inl (by omega))⟩
   have fin:∀(sv:SV) (k:Nat) (t:IV),(sv=svE (Rc.out σ.many e r).1/\k=bif (Rc.out σ.many e r).1.isNone then 1 else 0)->
     [sV n σ.rs.length o (wI L.R) (yU σ L) (yI σ L) e (Rc.out σ.many e r).2.1 (Rc.out σ.many e r).2.2 [],sV n σ.rs.length o (wI L.R) (yU σ L) (yI σ L) e (Rc.out σ.many e r).2.1 (Rc.out σ.many e r).2.2 [(r.th,ag,.any)]][k]?=ae t->
     sv=svE (Rc.out σ.many e r).1/\∃us,t=sV n σ.rs.length o (wI L.R) (yU σ L) (yI σ L) e (Rc.out σ.many e r).2.1 (Rc.out σ.many e r).2.2 us/\acU σ ⟨(Rc.out σ.many e r).2.1,σ.rs.set i (Rc.out σ.many e r).2.2⟩ us:=fun sv k t h1 h2=>by
    obtain ⟨a,rfl⟩:=h1;refine ⟨a,?_⟩;cases hn:(Rc.out σ.many e r).1.isNone with
    |true=>
     grind [anL]
    |false=>
     grind [JZ]
   by_cases k5:e.kind=5
   ·exact Bh hA hon hg hi hby k5 (aly hm k5 hv r) (DI _ _ _) fin
   have k6:e.kind=6:=by omega
   exact Bh hA hon hg hi hby k6 (alz hm k6 hv r) (DI _ _ _) fin
 |none=>
  by_cases k1:e.kind=1
  ·have hb:(e.kind==1)=aj:=by grind
   cases hbu:σ.CW e.thread with
   |some j=>
    have e1:σ.feed e=(ae 10,σ):=by
     simp_all [fQ,cond_true]
    rw[e1];exact WT hA hon hg hby k1 (f2:=[(e.thread,aj,.val (.pointer (ae ⟨L.R j,0,aq⟩)))]) (v2:=[(e.thread,ae (qY (L.R j)))]) ⟨rfl,⟨⟨rfl,rfl⟩,rfl⟩,trivial⟩ (fun k u hm=>by
     simp at hm;obtain ⟨rfl,rfl⟩:=hm;simp[yI,hbu]) (anK hm k1 hv (L.R j))
   |none=>
    have e1:σ.feed e=(aq,⟨σ.many+1,σ.rs++[⟨e.tx,e.thread,1,σ.many,-1,-1,[],1⟩]⟩):=by
     simp_all [fQ,cond_true]
    grind [ahM]
  ·have hb:(e.kind==1)=ag:=by grind
   have e1:σ.feed e=(ae 11,σ):=by
    grind [fQ]
   rw[e1];have go:∀kd:Int,e.kind=kd->tJ (vV [toN n σ.rs.length o σ.many (wI L.R) (yU σ L) (yI σ L) [(e.tx,ag,.any)] []] (fun sv k=>sv=svE (ae 11)/\k=0)) ((run (C5 mD W5 pJ ni) 700 aj 79 [.code []] (LA kd e (hpA n σ.rs.length o σ.many (wI L.R) (yU σ L) (yI σ L) [(e.tx,ag,.any)] []))).bind (toEnd [toN n σ.rs.length o σ.many (wI L.R) (yU σ L) (yI σ L) [(e.tx,ag,.any)] []]))->
     Calls ah 79 #[qY L.p,Rj e] w (Gw H w n o σ L (ae 11) σ):=fun kd hk hr=>WT hA hon hg hby hk (f2:=[]) (v2:=[]) trivial (fun k u hm=>by simp at hm) hr
   grind [ahG,ahH,ahI,ahJ,ahK,ahL]
end
end Go.mP
namespace Go.oD
open Go Go.Sx
theorem acY{many:Nat}{e:Ev}{r r':Rc}(h:cq many e r=.inr r')(_hd:r.stand=2->r.mO≠[]):(r'.stand=2->r'.mO≠[])/\r'.mO.length<=r.mO.length+1:=by
 unfold cq at h;have hup:∀(f:De->De) (l:List De),(xR f l).length=l.length:=fun f l=>by
  induction l with
  |nil=>rfl |cons x l ih=>cases l with
   |nil=>rfl |cons y l=>grind [xR]
 grind
theorem Au.OK.feed{σ:Au}(hI:σ.OK){e:Ev}(hv:oZ e=aj):(σ.feed e).2.OK:=by
 have hkd:=Tt hv;unfold fQ;cases hby:σ.BQ e.tx with
 |some i=>
  obtain ⟨r,hi,hp⟩:=JW hby
  have hr:σ.rs.getD i ⟨0,0,0,0,0,0,[],0⟩=r:=by simp_all
  have hlt:=(aT.1 hi).1;by_cases k1:e.kind=1
  ·simp_all
  have b1:(e.kind==1)=ag:=by grind
  simp only[b1,cond_false,hr];cases h:cq σ.many e r with
  |inl k=>exact hI |inr r'=>
   show Au.OK ⟨σ.many+1,σ.rs.set i r'⟩;obtain ⟨l1,l2,l3⟩:=Ns h (by omega) (hI.stands i r hi);obtain ⟨d1,d2⟩:=acY h (hI.deed i r hi);have hk:=(Io h).2;have at_:∀{j:Nat} {s:Rc},(σ.rs.set i r')[j]?=ae s->(j=i/\s=r')\/(j≠i/\σ.rs[j]?=ae s):=fun {j s} hj=>by
    grind
   refine ⟨fun a b x y ha hb ht hx hy=>?_,fun a x ha=>?_,fun a x ha=>?_,by simp;have:=hI.len;omega,fun a x ha=>?_⟩
   ·rcases at_ ha with ⟨rfl,rfl⟩ |⟨n1,ha'⟩
    ·rcases at_ hb with ⟨rfl,rfl⟩ |⟨n2,hb'⟩
     ·rfl
     ·exact hI.one _ _ r y hi hb' (by omega) l1 hy
    ·rcases at_ hb with ⟨rfl,rfl⟩ |⟨n2,hb'⟩
     ·exact hI.one _ _ x r ha' hi (by omega) hx l1
     ·exact hI.one _ _ x y ha' hb' ht hx hy
   ·rcases at_ ha with ⟨rfl,rfl⟩ |⟨n1,ha'⟩
    ·exact d1
    ·exact hI.deed _ _ ha'
   ·rcases at_ ha with ⟨rfl,rfl⟩ |⟨n1,ha'⟩
    ·exact l2
    ·exact hI.stands _ _ ha'
   ·rcases at_ ha with ⟨rfl,rfl⟩ |⟨n1,ha'⟩
    ·have:=hI.dl _ _ hi
     grind
    ·have:=hI.dl _ _ ha'
     grind
 |none=>
  by_cases k1:e.kind=1
  ·simp only[k1,beq_self_eq_true,cond_true]
   cases hbu:σ.CW e.thread with
   |some j=>exact hI |none=>
    show Au.OK ⟨σ.many+1,σ.rs++[⟨e.tx,e.thread,1,σ.many,-1,-1,[],1⟩]⟩;have hno:∀(j:Nat) (s:Rc),σ.rs[j]?=ae s->s.th=e.thread->s.live=aj->False:=fun j s hj ht hl=>by
     have:=gH.1 hbu s (List.mem_of_getElem? hj);simp_all
    have at_:∀{j:Nat} {s x:Rc},(σ.rs++[x])[j]?=ae s->(j=σ.rs.length/\s=x)\/(j<σ.rs.length/\σ.rs[j]?=ae s):=fun {j s x} hj=>by
     grind
    refine ⟨fun a b x y ha hb ht hx hy=>?_,fun a x ha=>?_,fun a x ha=>?_,by simp;have:=hI.len;omega,fun a x ha=>?_⟩
    ·rcases at_ ha with ⟨rfl,rfl⟩ |⟨n1,ha'⟩
     ·grind
     ·rcases at_ hb with ⟨rfl,rfl⟩ |⟨n2,hb'⟩
      ·grind
      ·exact hI.one _ _ x y ha' hb' ht hx hy
    ·rcases at_ ha with ⟨rfl,rfl⟩ |⟨n1,ha'⟩
     ·simp
     ·exact hI.deed _ _ ha'
    ·rcases at_ ha with ⟨rfl,rfl⟩ |⟨n1,ha'⟩
     ·simp
     ·exact hI.stands _ _ ha'
    ·rcases at_ ha with ⟨rfl,rfl⟩ |⟨n1,ha'⟩
     ·simp
     ·have:=hI.dl _ _ ha'
      grind
  grind
def Au.nil:Au:=⟨0,[]⟩
theorem Au.OK.nil:Au.nil.OK:=⟨fun i j r s h=>by simp[Au.nil] at h,fun i r h=>by simp[Au.nil] at h,fun i r h=>by simp[Au.nil] at h,Nat.le_refl _,fun i r h=>by simp[Au.nil] at h⟩
theorem Nv{σ:Au}{e:Ev}(h:(σ.feed e).1=aq):(σ.feed e).2.many=σ.many+1:=by
 grind [fQ]
end Go.oD
namespace Go.mP
open Go Go.Sx Go.oD
theorem alP{H H':Mem}{n:Nat}{o:Nat->Oj}{xs:List Value}(h:oW H 2 n (mF o) xs):oW H' 2 n (mF o) xs:=
 ⟨h.1,h.2.1,h.2.2.1,fun i j s v hi h1 h2=>by
  have:=h.2.2.2 i j s v hi h1 h2;have hs:∃k,s=.i .i64 k:=by
   match j,h1 with
   |0,h1=>exact ⟨_,(bd h1).symm⟩ |1,h1=>exact ⟨_,(bd h1).symm⟩ |j+2,h1=>simp[mF,Row.put,obR] at h1
  obtain ⟨k,rfl⟩:=hs;cases this;exact .i _ _⟩
def Bj(n:Nat)(o:Nat->Oj)(σ:Au)(p:Nat):Hp->Prop:=fun h=>
 ∃L:Lay,L.p=p/\(∀b,h b≠aq↔JX L σ.rs.length b)/\∀(H:Mem) (w:World),h.at H w->qE H w n (mF o) σ L
theorem qE.hide{H:Mem}{w:World}{n:Nat}{o:Nat->Oj}{σ:Au}{L:Lay}(hA:qE H w n (mF o) σ L):∃h:Hp,Bj n o σ L.p h/\h.at H w/\∀b,h b≠aq↔JX L σ.rs.length b:=by
 classical
 have hlt:∀{b},JX L σ.rs.length b->∃o,w.heap[b]?=ae o:=fun {b} ⟨t,ht⟩=>⟨_,dH (hA.lt ht)⟩;have hne:∀b,(if JX L σ.rs.length b then w.heap[b]? else aq)≠aq↔JX L σ.rs.length b:=fun b=>by
  grind
 refine ⟨fun b=>if JX L σ.rs.length b then w.heap[b]? else aq,⟨L,rfl,hne,fun H' w' hat=>?_⟩,fun b o e=>?_,hne⟩
 ·have at_:∀t b,L.blk σ.rs.length t=ae b->w'.heap[b]?=w.heap[b]?/\H' b=aq:=fun t b hb=>by
   obtain ⟨o,ho⟩:=hlt ⟨t,hb⟩;have:=hat b o ((if_pos (⟨t,hb⟩:JX L σ.rs.length b)).trans ho);simp_all
  have h0:qE (fun _=>aq) w n (mF o) σ L:=⟨hA.au,let ⟨xs,h1,h2⟩:=hA.ob;⟨xs,h1,alP h2⟩,hA.tx,hA.BR,hA.bu,hA.rc,hA.de,hA.vO,fun _ _ _=>rfl⟩;exact h0.keep (fun _ _ e=>by cases e) (fun t b hb=>(at_ t b hb).1) fun t b hb=>(at_ t b hb).2
 ·by_cases q:JX L σ.rs.length b
  ·simp only[if_pos q] at e
   exact ⟨e,let ⟨t,ht⟩:=q;hA.un t b ht⟩
  simp_all
theorem aqM{n:Nat}{o:Nat->Oj}{σ:Au}{p:Nat}{e:Ev}{es:SV}(hes:∀H E v,Den H E es v->v=Rj e)(hI:σ.OK)(hm:σ.many<400)(hv:oZ e=aj)(hob:e.kind=2->0<=e.obj/\e.obj<n/\rD e.op=(o e.obj.toNat).kind):
  afO ah (uY W5) 79 [.val (qY p),es] (Bj n o σ p) (svE (σ.feed e).1) (Bj n o (σ.feed e).2 p):=by
 intro H E w vs h hd hon hg ⟨L,hp,hblk,hA⟩ hat;match vs,hd with
 |[v1,v2],⟨d1,d2,_⟩=>
  obtain ⟨rfl,_⟩:=d1;obtain rfl:=hes _ _ _ d2;subst hp;refine Calls.mono (alO (hA H w hat) hI hon hg hm hv hob) fun en w' ⟨v,H',L',h1,h2,h3,h4,h5,h6,h7⟩=>?_;obtain ⟨h',r1,r2,r3⟩:=qE.hide h3;refine ⟨v,H',h',h1,?_,by simp_all,r2,h6,KI h7 fun b hb=>(hblk b).2 hb,fun b hb=>?_⟩
  ·cases hx:(σ.feed e).1 with
   |none=>rw[hx] at h2;exact h2 |some k=>rw[hx] at h2;exact h2
  ·obtain ⟨t,ht⟩:=(r3 b).1 hb
   grind
section
variable{H:Mem}{E:Env}{w:World}{K:Kx}{n:Nat}{o:Nat->Oj}{h:Hp}
theorem YP{b b1 b2:Nat}{v0:Value}(au:w.heap[b]?=ae (.cells #[v0,.int .i64 0,.slice aq 0 0,.map (ae b1),.map (ae b2)] 181 (0,0)))
  (ob:∃xs,w.ownsRow 0 140 2 v0 n xs/\oW H 2 n (mF o) xs) (m1:∃ms clk,w.heap[b1]?=ae (.map ms clk)/\uK .i64 ms.toList clk fun _=>aq) (m2:∃ms clk,w.heap[b2]?=ae (.map ms clk)/\uK .i64 ms.toList clk fun _=>aq)
  (vO:b≠b1/\b≠b2/\b1≠b2/\∀x,mY v0=ae x->x≠b/\x≠b1/\x≠b2) (un:H b=aq/\H b1=aq/\H b2=aq/\∀x,mY v0=ae x->H x=aq) :
  qE H w n (mF o) Au.nil ⟨b,v0,.slice aq 0 0,b1,b2,fun _=>0,fun _=>.slice aq 0 0⟩:=by
 obtain ⟨d1,d2,d3,d4⟩:=vO;refine ⟨au,ob,⟨rfl,.inl ⟨rfl,rfl⟩⟩,m1,m2,fun i r hi=>by simp[Au.nil] at hi,fun i r hi=>by simp[Au.nil] at hi,fun s t x hs ht=>?_,fun t x ht=>?_⟩
 ·cases s<;>cases t<;>simp[b6,Au.nil,mY] at hs ht<;>first|rfl|(exfalso;subst_vars;first|exact d1 rfl|exact d2 rfl|exact d3 rfl|exact d1 ht.symm|exact (d4 _ hs).1 rfl|exact (d4 _ hs).2.1 rfl|exact (d4 _ hs).2.2 rfl|exact (d4 _ ht).1 rfl|exact (d4 _ ht).2.1 rfl|exact (d4 _ ht).2.2 rfl|skip) |skip
  all_goals (first|exact d1 (hs.trans ht.symm) |exact d1 (hs ▸ ht ▸ rfl) |omega)
 ·cases t<;>simp[b6,Au.nil,mY] at ht<;>first|(subst ht;first|exact un.1|exact un.2.1|exact un.2.2.1) |exact un.2.2.2 _ ht
theorem WU{hp:List (Nat×SB)}{σ:Au}{L:Lay}(hh:OW E w hp h)(hA:qE H w n (mF o) σ L)(hb:∀x,(∃id sb,mG hp id=ae sb/\nN E id sb=ae x)↔JX L σ.rs.length x):Bj n o σ L.p h:=by
 obtain ⟨h0,r1,r2,r3⟩:=qE.hide hA;have:h0=h:=by
  funext x;have e1:=r3 x;have e2:=(hh.2 x).symm.trans (hb x);cases q:h x with
  |none=>
   grind
  |some o'=>
   cases q':h0 x with
   |none=>simp_all |some o''=>
    have a1:=hh.1 x _ q;have a2:=(r2 x _ q').1;simp_all
 simp_all
theorem Uj{id:Nat}(hh:wo K H E w id (.fm .i64 (fun _=>aq) [] [] aq)):∃b ms clk,E id=ae (.map (ae b))/\w.heap[b]?=ae (.map ms clk)/\uK .i64 ms.toList clk fun _=>aq:=by
 obtain ⟨b,ms,clk,fv,uv,s1,s2,s3,s4,s5,s6,_,s7⟩:=hh;obtain rfl:=Gv s4;exact ⟨b,ms,clk,s1,s2,s6⟩
theorem alQ{o':Nat->List Sh}(ho:∀i,i<n->o' i=mF o i){n':Nat}(hn:n'=n){hp:List (Nat×SB)}(hpe:hp=[(3,.own 140 2 n' o'),(4,.fm .i64 (fun _=>aq) [] [] aq),(5,.fm .i64 (fun _=>aq) [] [] aq),(6,.box [.gs 3,.int .i64 0,.nD,.mp 4,.mp 5] 181)])
  (hh:mZ K H E w hp) (hd:OW E w hp h):∃b,E 6=ae (.pointer (ae ⟨b,0,aq⟩))/\Bj n o Au.nil b h:=by
 subst hn hpe;obtain ⟨v,xs,x1,x2,x3,x4⟩:=hh.ent 3 _ rfl;obtain ⟨b1,ms1,PL,y1,y2,y3⟩:=Uj (hh.ent 4 _ rfl);obtain ⟨b2,ms2,PN,z1,z2,z3⟩:=Uj (hh.ent 5 _ rfl);obtain ⟨b,⟨cs⟩,p1,p2,p3,p4⟩:=hh.ent 6 _ rfl;match cs,p3 with
 |[u0,u1,u2,u3,u4],⟨d0,d1,d2,d3,d4,_⟩=>
  have d1:u1=.int .i64 0:=d1;have d2:u2=.slice aq 0 0:=d2;obtain ⟨d0,_⟩:E 3=ae u0/\_:=d0;obtain ⟨c1,d3,d3'⟩:=d3;obtain ⟨c2,d4,d4'⟩:=d4;rw[x1] at d0;cases d0;rw[y1] at d3;cases d3;rw[z1] at d4;cases d4;subst d1 d2 d3' d4';have k3:nN E 3 (.own 140 2 n' o')=mY v:=by simp[nN,x1]
  have k4:nN E 4 (.fm .i64 (fun _=>aq) [] [] aq)=ae b1:=by simp[nN,y1,mY]
  have k5:nN E 5 (.fm .i64 (fun _=>aq) [] [] aq)=ae b2:=by simp[nN,z1,mY]
  have k6:nN E 6 (.box [.gs 3,.int .i64 0,.nD,.mp 4,.mp 5] 181)=ae b:=by simp[nN,p1,mY]
  have dd:∀{i j:Nat} {s t:SB} {x:Nat},mG [(3,jG 140 2 n' o'),(4,.fm .i64 (fun _=>aq) [] [] aq),(5,.fm .i64 (fun _=>aq) [] [] aq),(6,.box [.gs 3,.int .i64 0,.nD,.mp 4,.mp 5] 181)] i=ae s->mG [(3,jG 140 2 n' o'),(4,.fm .i64 (fun _=>aq) [] [] aq),(5,.fm .i64 (fun _=>aq) [] [] aq),(6,.box [.gs 3,.int .i64 0,.nD,.mp 4,.mp 5] 181)] j=ae t->nN E i s=ae x->nN E j t=ae x->i=j:=fun h1 h2 h3 h4=>hh.vO _ _ _ _ _ h1 h2 h3 h4
  have mi:∀{i:Nat} {s:SB} {x:Nat},mG [(3,jG 140 2 n' o'),(4,.fm .i64 (fun _=>aq) [] [] aq),(5,.fm .i64 (fun _=>aq) [] [] aq),(6,.box [.gs 3,.int .i64 0,.nD,.mp 4,.mp 5] 181)] i=ae s->nN E i s=ae x->H x=aq:=fun h1 h2=>((hh.ent _ _ h1).lt h2).2.1;have hA:=YP (H:=H) (n:=n') (o:=o) p2 ⟨xs,x2,Jj x3 ho⟩ ⟨ms1,PL,y2,y3⟩ ⟨ms2,PN,z2,z3⟩
   ⟨fun q=>(by simp_all),fun q=>(by simp_all),fun q=>(by subst q;cases dd (i:=4) (j:=5) rfl rfl k4 k5),
    fun x hx=>⟨fun q=>(by subst q;cases dd (i:=3) (j:=6) rfl rfl (k3.trans hx) k6),fun q=>(by subst q;cases dd (i:=3) (j:=4) rfl rfl (k3.trans hx) k4),fun q=>(by subst q;cases dd (i:=3) (j:=5) rfl rfl (k3.trans hx) k5)⟩⟩
   ⟨mi (i:=6) rfl k6,mi (i:=4) rfl k4,mi (i:=5) rfl k5,fun x hx=>mi (i:=3) rfl (k3.trans hx)⟩
  refine ⟨b,p1,WU hd hA fun x=>⟨fun ⟨id,sb,h1,h2⟩=>?_,fun ⟨t,ht⟩=>?_⟩⟩
  ·simp only[mG] at h1
   cases q3:(3:Nat)==id<;>simp only[q3,cond_true,cond_false] at h1
   ·cases q4:(4:Nat)==id<;>simp only[q4,cond_true,cond_false] at h1
    ·cases q5:(5:Nat)==id<;>simp only[q5,cond_true,cond_false] at h1
     ·cases q6:(6:Nat)==id<;>simp only[q6,cond_true,cond_false] at h1
      ·cases h1
      ·cases h1;obtain rfl:6=id:=by grind
       rw[k6] at h2;exact ⟨.au,h2⟩
     ·cases h1;obtain rfl:5=id:=by grind
      rw[k5] at h2;exact ⟨.bu,h2⟩
    ·cases h1;obtain rfl:4=id:=by grind
     rw[k4] at h2;exact ⟨.BR,h2⟩
   ·cases h1;obtain rfl:3=id:=by grind
    rw[k3] at h2;exact ⟨.ob,h2⟩
  ·cases t with
   |au=>exact ⟨6,_,rfl,k6.trans ht⟩ |tx=>cases ht |BR=>exact ⟨4,_,rfl,k4.trans ht⟩ |bu=>exact ⟨5,_,rfl,k5.trans ht⟩ |ob=>exact ⟨3,_,rfl,k3.trans ht⟩ |rc i=>simp[b6,Au.nil] at ht |de i=>simp[b6,Au.nil] at ht
theorem alR(hn:n=0){hp:List (Nat×SB)}(hpe:hp=[(2,.fm .i64 (fun _=>aq) [] [] aq),(3,.fm .i64 (fun _=>aq) [] [] aq),(4,.box [.nD,.int .i64 0,.nD,.mp 2,.mp 3] 181)])
  (hh:mZ K H E w hp) (hd:OW E w hp h):∃b,E 4=ae (.pointer (ae ⟨b,0,aq⟩))/\Bj n o Au.nil b h:=by
 subst hn hpe;obtain ⟨b1,ms1,PL,y1,y2,y3⟩:=Uj (hh.ent 2 _ rfl);obtain ⟨b2,ms2,PN,z1,z2,z3⟩:=Uj (hh.ent 3 _ rfl);obtain ⟨b,⟨cs⟩,p1,p2,p3,p4⟩:=hh.ent 4 _ rfl;match cs,p3 with
 |[u0,u1,u2,u3,u4],⟨d0,d1,d2,d3,d4,_⟩=>
  have d1:u1=.int .i64 0:=d1;have d2:u2=.slice aq 0 0:=d2;have d0:u0=.slice aq 0 0:=d0;obtain ⟨c1,d3,d3'⟩:=d3;obtain ⟨c2,d4,d4'⟩:=d4;rw[y1] at d3;cases d3;rw[z1] at d4;cases d4;subst d0 d1 d2 d3' d4';have k4:nN E 2 (.fm .i64 (fun _=>aq) [] [] aq)=ae b1:=by simp[nN,y1,mY]
  have k5:nN E 3 (.fm .i64 (fun _=>aq) [] [] aq)=ae b2:=by simp[nN,z1,mY]
  have k6:nN E 4 (.box [.nD,.int .i64 0,.nD,.mp 2,.mp 3] 181)=ae b:=by simp[nN,p1,mY]
  have dd:∀{i j:Nat} {s t:SB} {x:Nat},mG [(2,fZ .i64 (fun _=>aq) [] [] aq),(3,.fm .i64 (fun _=>aq) [] [] aq),(4,.box [.nD,.int .i64 0,.nD,.mp 2,.mp 3] 181)] i=ae s->mG [(2,fZ .i64 (fun _=>aq) [] [] aq),(3,.fm .i64 (fun _=>aq) [] [] aq),(4,.box [.nD,.int .i64 0,.nD,.mp 2,.mp 3] 181)] j=ae t->nN E i s=ae x->nN E j t=ae x->i=j:=fun h1 h2 h3 h4=>hh.vO _ _ _ _ _ h1 h2 h3 h4
  have mi:∀{i:Nat} {s:SB} {x:Nat},mG [(2,fZ .i64 (fun _=>aq) [] [] aq),(3,.fm .i64 (fun _=>aq) [] [] aq),(4,.box [.nD,.int .i64 0,.nD,.mp 2,.mp 3] 181)] i=ae s->nN E i s=ae x->H x=aq:=fun h1 h2=>((hh.ent _ _ h1).lt h2).2.1;have hA:=YP (H:=H) (n:=0) (o:=o) p2 ⟨[],⟨rfl,.inl ⟨rfl,rfl⟩⟩,AO 2 _⟩ ⟨ms1,PL,y2,y3⟩ ⟨ms2,PN,z2,z3⟩
   ⟨fun q=>(by simp_all),fun q=>(by simp_all),fun q=>(by subst q;cases dd (i:=2) (j:=3) rfl rfl k4 k5),fun x hx=>by cases hx⟩
   ⟨mi (i:=4) rfl k6,mi (i:=2) rfl k4,mi (i:=3) rfl k5,fun x hx=>by cases hx⟩
  refine ⟨b,p1,WU hd hA fun x=>⟨fun ⟨id,sb,h1,h2⟩=>?_,fun ⟨t,ht⟩=>?_⟩⟩
  ·simp only[mG] at h1
   cases q4:(2:Nat)==id<;>simp only[q4,cond_true,cond_false] at h1
   ·cases q5:(3:Nat)==id<;>simp only[q5,cond_true,cond_false] at h1
    ·cases q6:(4:Nat)==id<;>simp only[q6,cond_true,cond_false] at h1
     ·cases h1
     ·cases h1;obtain rfl:4=id:=by grind
      rw[k6] at h2;exact ⟨.au,h2⟩
    ·cases h1;obtain rfl:3=id:=by grind
     rw[k5] at h2;exact ⟨.bu,h2⟩
   ·cases h1;obtain rfl:2=id:=by grind
    rw[k4] at h2;exact ⟨.BR,h2⟩
  ·cases t with
   |au=>exact ⟨4,_,rfl,k6.trans ht⟩ |tx=>cases ht |BR=>exact ⟨2,_,rfl,k4.trans ht⟩ |bu=>exact ⟨3,_,rfl,k5.trans ht⟩ |ob=>cases ht |rc i=>simp[b6,Au.nil] at ht |de i=>simp[b6,Au.nil] at ht
end
open Go Go.Sx Go.oD
def WV:Nat->Option (List Sh->Tree Sh)
 |77=>ae aln |_=>aq
noncomputable def CT(A:Prim)(W:Wd):Ctx:={C5 A W WV ny with ail:=fun t=>bif bA t 179 then ae (.i64,[]) else aq}
def agt(g:Nat):Bool:=bA g 79
def PO:List It:=[aH [0,1,0,1,1,1,1],aW 0,aH [1,1,1,1,1]]
def aoD:List It:=aH [0,0,1,0,1,1,1,1]::PO
def Rk(g:Nat):Bool:=bA g 79||bA g 44
def LT(m:Nat)(p:Nat->Ev)(b:Nat)(c i:Int):Core:=
 {tm:=[.any,.any,.uj,.qP,.any,.val (.pointer (ae ⟨b,0,aq⟩))]++rep [.any] 19++[.sh (.sl 8 m (mF p)),.sym .i64 c,.sym .i64 i]++rep [.any] 16,hp:=[],nx:=0,lim:=L0,tc:=[]}
def IL:List Fr:=[{g:=20,td:=[gP [0,1] [1,2,3,4,5,6],aH [1,1]],tm:=[.any,.any,.nD,.qP]++rep [.any] 12}]
def tdP:List It:=[gP [0,1,0,0,1,1,0,0,1,0,1,1,1,1] [2,3],aH [1,1,0,0,1,1,0,0,1,0,1,1,1,1],aW 1,aH [1,1,1,0,0,1,0,1,1,1,1]]++PO
def tdQ:List It:=[gP [0,1,0,0,1,1,0,0,1,0,1,1,1,1] [3],aH [1,1,0,0,1,1,0,0,1,0,1,1,1,1],aW 1,aH [1,1,1,0,0,1,0,1,1,1,1]]++PO
def LP(m:Nat)(p:Nat->Ev)(b:Nat)(c i:Int)(e:Ev)(x:SV):Core:=
 {tm:=[.any,.any,.uj,.qP,.any,.val (.pointer (ae ⟨b,0,aq⟩)),.any,.sym .i64 i]++rep [.any] 17++[.sh (.sl 8 m (mF p)),.sym .i64 c,.sym .i64 i]++rep [.any] 4 ++
   [.val (.pointer (ae ⟨b,0,aq⟩)),.agg [.sym .i64 e.kind,.sym .i64 e.tx,.sym .i64 e.thread,.sym .i64 e.obj,.sym .i64 e.op,.sym .i64 e.key,.sym .i64 e.val,.sym .i64 e.ret],x]++rep [.any] 9,hp:=[],nx:=0,lim:=L0,tc:=[]}
def YQ:List It:=[gP [0,1,1,1] [1,2,3],aH [1,1,1,1]]
def LX(x:SV):Core:={tm:=[.any,.any,.nD,.qP]++rep [.any] 10++[x,.any],hp:=[],nx:=0,lim:=L0,tc:=[]}
def rcR(N:Rc->Nat)(D:Rc->Nat->List Sh)(r:Rc):List Sh:=[.i .i64 r.id,.i .i64 r.th,.i .i64 r.st,.i .i64 r.bg,.i .i64 r.en,.i .i64 r.tr,.sl 8 (N r) (D r),.i .i64 r.stand]
def TP(N:Rc->Nat)(D:Rc->Nat->List Sh)(rs:Nat->Rc):Nat->List Sh:=fun j=>[.pt (rcR N D (rs j))]
def auX(N:Rc->Nat)(D:Rc->Nat->List Sh)(v0:Value)(many:Int)(k:Nat)(rs:Nat->Rc)(b1 b2:Nat):SV:=.wV 5 1 (fun _=>[.v v0,.i .i64 many,.sl 1 k (TP N D rs),.v (.map (ae b1)),.v (.map (ae b2))]) 0 0
def txR(N:Rc->Nat)(D:Rc->Nat->List Sh)(r:Rc):List Sh:=[.i .i64 r.id,.i .i64 r.th,.i .i64 r.st,.i .i64 r.bg,.i .i64 r.en,.i .i64 r.tr,.sl 8 (N r) (D r)]
def Nw(N:Rc->Nat)(D:Rc->Nat->List Sh)(rs:Nat->Rc):Nat->List Sh:=fun j=>txR N D (rs j)
def tdT:List It:=[aH [0,1,0,1,1],aW 0,aH [1,1,1]]
def tbT:List It:=aH [0,0,1,0,1,1]::tdT
def YR(N:Rc->Nat)(D:Rc->Nat->List Sh)(k:Nat)(rs:Nat->Rc)(c i:Int)(j:Nat)(gg:Nat->List Sh):Core:=
 {tm:=[.any,.any,.any,.gs 0]++rep [.any] 12++[.sh (.sl 1 k (TP N D rs)),.sym .i64 c,.sym .i64 i]++rep [.any] 21,hp:=[(0,.own 115 7 j gg)],nx:=1,lim:=L0,tc:=[]}
def frX:List Fr:=[{g:=20,td:=YQ,tm:=[.any,.any,.nD,.qP]++rep [.any] 12}]
theorem a32(A:Prim)(W:Wd)(n m:Nat)(o:Nat->Oj)(p:Nat->Ev):aok (CT A W) agt 300 400 20 [.code []] (mM 16 [.agg [.sl 2 n (mF o),.sl 8 m (mF p)]] L0) []=am (okB Oj n (mF o)) (am (okB Ev m (mF p)) (am (Ij m (mF p)) (ak (wS n m) (ai (jH (aQ [ao 0 0 fun _=>[],aC 6 329]))) (ak (vX n m (mF o) (mF p)) (am (okB Oj n (mF o)) (am (okB Ev 0 fun _=>[]) (am (Ij 0 fun _=>[]) (ak (wS n 0) (ai (jH (aQ [ao 0 0 fun _=>[],aC 6 329]))) (ak (vX n 0 (mF o) fun _=>[]) (ak (A.Ux n 0) ((ai (lO 43 [aH [0,1,0,1,1,1,1],aW 0,aH [1,1,1,1,1]] {tm:=[dO [bl (ao 2 n (mF o)),bl (ao 8 m (mF p))],dP 1 0,lT,bV,bV,dP 4 0,bV,aG,aG,aG,aG,aG,aG,gI ag,aG,aG,aG,aG,aG,aG,aG,aG,gI ag,aG,aG,bl (ao 8 m (mF p)),SV.sym aA (A.nH m),iq aA (ab 0),aG,aG,aG,aG,aG,aG,aG,aG,aG,aG,aG,aG,aG,aG,aG,aG],hp:=[(0,dQ [bl (ao 2 n (mF o)),bl (ao 8 m (mF p))] 25),(1,dQ [bl (ao 2 n (mF o)),bl (ao 8 m (mF p))] 25),(2,fZ aA (fun _=>aq) [] [] aq),(3,fZ aA (fun _=>aq) [] [] aq),(4,dQ [dV,iq aA (ab 0),dV,iG 2,iG 3] 181)],nx:=5,lim:=1000000000000000000000000000000,tc:=[]} [{g:=20,td:=[gP [0,1] [1,2,3,4,5,6],aH [1,1]],tm:=[dO [bl (ao 2 n (mF o)),bl (ao 8 m (mF p))],dP 0 0,dV,bV,aG,aG,aG,dO [bl (ao 2 n (mF o)),bl (ao 8 m (mF p))],aG,aG,aG,aG,aG,aG,aG,aG]}])).both (am (A.room (A.addN 0 n) 16) (ai (lO 43 [aH [0,1,0,1,1,1,1],aW 0,aH [1,1,1,1,1]] {tm:=[dO [bl (ao 2 n (mF o)),bl (ao 8 m (mF p))],dP 1 0,lT,bV,bV,dP 6 0,bV,aG,aG,aG,aG,aG,aG,gI ag,aG,aG,aG,aG,aG,aG,aG,aG,gI ag,aG,aG,bl (ao 8 m (mF p)),SV.sym aA (A.nH m),iq aA (ab 0),aG,aG,aG,aG,aG,aG,aG,aG,aG,aG,aG,aG,aG,aG,aG,aG],hp:=[(0,dQ [bl (ao 2 n (mF o)),bl (ao 8 m (mF p))] 25),(1,dQ [bl (ao 2 n (mF o)),bl (ao 8 m (mF p))] 25),(3,jG 140 2 (A.addN 0 n) (A.snoc (nM []) 0 (mF o))),(4,fZ aA (fun _=>aq) [] [] aq),(5,fZ aA (fun _=>aq) [] [] aq),(6,dQ [SV.gs 3,iq aA (ab 0),dV,iG 4,iG 5] 181)],nx:=7,lim:=1000000000000000000000000000000,tc:=[2]} [{g:=20,td:=[gP [0,1] [1,2,3,4,5,6],aH [1,1]],tm:=[dO [bl (ao 2 n (mF o)),bl (ao 8 m (mF p))],dP 0 0,dV,bV,aG,aG,aG,dO [bl (ao 2 n (mF o)),bl (ao 8 m (mF p))],aG,aG,aG,aG,aG,aG,aG,aG]}])))) (am (A.room (A.addN 0 n) 16) (ai (lO 43 [aH [0,1,0,1,1,1,1],aW 0,aH [1,1,1,1,1]] {tm:=[dO [bl (ao 2 n (mF o)),bl (ao 8 m (mF p))],dP 1 0,lT,bV,bV,dP 6 0,bV,aG,aG,aG,aG,aG,aG,gI ag,aG,aG,aG,aG,aG,aG,aG,aG,gI ag,aG,aG,bl (ao 8 m (mF p)),SV.sym aA (A.nH m),iq aA (ab 0),aG,aG,aG,aG,aG,aG,aG,aG,aG,aG,aG,aG,aG,aG,aG,aG],hp:=[(0,dQ [bl (ao 2 n (mF o)),bl (ao 8 m (mF p))] 25),(1,dQ [bl (ao 2 n (mF o)),bl (ao 8 m (mF p))] 25),(3,jG 140 2 (A.addN 0 n) (A.snoc (nM []) 0 (mF o))),(4,fZ aA (fun _=>aq) [] [] aq),(5,fZ aA (fun _=>aq) [] [] aq),(6,dQ [SV.gs 3,iq aA (ab 0),dV,iG 4,iG 5] 181)],nx:=7,lim:=1000000000000000000000000000000,tc:=[2]} [{g:=20,td:=[gP [0,1] [1,2,3,4,5,6],aH [1,1]],tm:=[dO [bl (ao 2 n (mF o)),bl (ao 8 m (mF p))],dP 0 0,dV,bV,aG,aG,aG,dO [bl (ao 2 n (mF o)),bl (ao 8 m (mF p))],aG,aG,aG,aG,aG,aG,aG,aG]}])))) (ai (jH (aQ [ao 0 0 fun _=>[],fP 109 (ij [az .i64 (BG n 0 (mF o) fun _=>[]),aC (FN n 0 (mF o) fun _=>[]) 329])])))))))) (ai (jH (aQ [ao 0 0 fun _=>[],fP 109 (ij [az .i64 (BG n m (mF o) (mF p)),aC (FN n m (mF o) (mF p)) 329])]))))))):=by kernel_rfl
theorem b32(A:Prim)(W:Wd)(m:Nat)(p:Nat->Ev)(b:Nat)(c i:Int)(k:Nat):nZ (CT A W) Rk 300 400 43 aoD (LT m p b c i) IL [⟨43,tdP,LP m p b c i (p k) .any,IL⟩,⟨20,YQ,LX (.val (.pointer (ae ⟨b,0,aq⟩))),[]⟩]=ak (A.lt i c) (am (A.inB i m) (ai (aK 0 [dG (bU (ae {block:=b,off:=0})) (bU (ae {block:=b,off:=0})),ac i i,av (ao 8 m (mF p)) (ao 8 m (mF p)),ac c c,ac i i,dG (bU (ae {block:=b,off:=0})) (bU (ae {block:=b,off:=0})),ac (p (A.toN i)).kind (p k).kind,ac (p (A.toN i)).tx (p k).tx,ac (p (A.toN i)).thread (p k).thread,ac (p (A.toN i)).obj (p k).obj,ac (p (A.toN i)).op (p k).op,ac (p (A.toN i)).key (p k).key,ac (p (A.toN i)).val (p k).val,ac (p (A.toN i)).ret (p k).ret]))) (ai (aK 1 [dG (bU (ae {block:=b,off:=0})) (bU (ae {block:=b,off:=0}))])):=by kernel_rfl
theorem c32(A:Prim)(W:Wd)(m:Nat)(p:Nat->Ev)(b:Nat)(c i i1:Int)(e:Ev):nZ (CT A W) Rk 300 400 43 tdQ (LP m p b c i e .qP) IL [⟨43,PO,LT m p b c i1,IL⟩]=ai (aK 0 [dG (bU (ae {block:=b,off:=0})) (bU (ae {block:=b,off:=0})),av (ao 8 m (mF p)) (ao 8 m (mF p)),ac c c,ac (A.add .i64 i (ab 1)) i1]):=by kernel_rfl
theorem d32(A:Prim)(W:Wd)(m:Nat)(p:Nat->Ev)(b:Nat)(c i:Int)(e:Ev)(k:Nat):nZ (CT A W) Rk 300 400 43 tdQ (LP m p b c i e (.sh (.er k 329))) IL []=ai (ay (aQ [ao 0 0 fun _=>[],fP 109 (ij [az .i64 i,aC k 329])])):=by kernel_rfl
theorem e32(A:Prim)(W:Wd)(N:Rc->Nat)(D:Rc->Nat->List Sh)(v0:Value)(many:Int)(k:Nat)(rs:Nat->Rc)(b1 b2:Nat)(c i:Int)(j:Nat)(gg:Nat->List Sh):nZ (CT A W) rF 300 400 20 YQ (LX (auX N D v0 many k rs b1 b2)) [] [⟨44,tdT,YR N D k rs c i j gg,frX⟩]=am (A.le (ab 0) (A.nH k)) (am (A.room (A.toN (A.nH k)) 72) (ai (aK 0 [av (ao 1 k (TP N D rs)) (ao 1 k (TP N D rs)),ac (A.nH k) c,ac (ab 0) i,ap 0 j,ax 0 (fun _=>[]) gg]))):=by kernel_rfl
theorem f32(A:Prim)(W:Wd)(N:Rc->Nat)(D:Rc->Nat->List Sh)(k:Nat)(rs:Nat->Rc)(c i i1:Int)(j j1:Nat)(gg g1:Nat->List Sh):aol (CT A W) rF 300 400 44 tbT (YR N D k rs c i j gg) frX [⟨44,tdT,YR N D k rs c i1 j1 g1,frX⟩]=ak (A.lt i c) (am (A.inB i k) (am (A.le (ab 0) (A.nH (N (rs (A.toN i))))) (am (A.room (A.toN (A.nH (N (rs (A.toN i))))) 64) (am (A.room (A.addN 0 (N (rs (A.toN i)))) 64) (am (A.le (ab 0) (A.nH (N (rs (A.toN i))))) (am (A.room (A.toN (A.nH (N (rs (A.toN i))))) 64) (am (A.room (A.addN 0 (N (rs (A.toN i)))) 64) (aw [ap 1 1,aF (fun _=>rcR N D (rs (A.toN i))) fun _=>rcR N D (rs (A.toN i)),ap 0 0,av (ao 1 k (TP N D rs)) (ao 1 k (TP N D rs)),ac c c,ac i i,ap j j,aF gg gg,ac (rs (A.toN i)).id (rs (A.toN i)).id,ac (rs (A.toN i)).th (rs (A.toN i)).th,ac (rs (A.toN i)).st (rs (A.toN i)).st,ac (rs (A.toN i)).bg (rs (A.toN i)).bg,ac (rs (A.toN i)).en (rs (A.toN i)).en,ac (rs (A.toN i)).tr (rs (A.toN i)).tr,ap (A.addN 0 (N (rs (A.toN i)))) (A.addN 0 (N (rs (A.toN i)))),aF (A.snoc (fun _=>[]) 0 (D (rs (A.toN i)))) (A.snoc (fun _=>[]) 0 (D (rs (A.toN i))))] (am (A.le (ab 0) (A.nH (N (rs (A.toN i))))) (am (A.room (A.toN (A.nH (N (rs (A.toN i))))) 64) (am (A.room (A.addN 0 (N (rs (A.toN i)))) 64) (aw [ap 1 1,aF (fun _=>rcR N D (rs (A.toN i))) fun _=>rcR N D (rs (A.toN i)),ap 0 0,av (ao 1 k (TP N D rs)) (ao 1 k (TP N D rs)),ac c c,ac i i,ap j j,aF gg gg,ac (rs (A.toN i)).id (rs (A.toN i)).id,ac (rs (A.toN i)).th (rs (A.toN i)).th,ac (rs (A.toN i)).st (rs (A.toN i)).st,ac (rs (A.toN i)).bg (rs (A.toN i)).bg,ac (rs (A.toN i)).en (rs (A.toN i)).en,ac (rs (A.toN i)).tr (rs (A.toN i)).tr,ap (A.addN 0 (N (rs (A.toN i)))) (A.addN 0 (N (rs (A.toN i)))),aF (A.snoc (fun _=>[]) 0 (D (rs (A.toN i)))) (A.snoc (fun _=>[]) 0 (D (rs (A.toN i))))] (am (A.room (A.addN j 1) 72) (ai (aK 0 [av (ao 1 k (TP N D rs)) (ao 1 k (TP N D rs)),ac c c,ac (A.add .i64 i (ab 1)) i1,ap (A.addN j 1) j1,ax (A.addN j 1) (A.snoc gg j (nM [[az .i64 (rs (A.toN i)).id,az .i64 (rs (A.toN i)).th,az .i64 (rs (A.toN i)).st,az .i64 (rs (A.toN i)).bg,az .i64 (rs (A.toN i)).en,az .i64 (rs (A.toN i)).tr,ao 8 (A.addN 0 (N (rs (A.toN i)))) (A.snoc (fun _=>[]) 0 (D (rs (A.toN i))))]])) g1]))))))))))))))) (ai (ay (aQ [Sh.os 115 7 j gg,Sh.v Value.nilIface]))):=by kernel_rfl
end Go.mP
namespace Go.oD
open Go Go.Sx
def rc0:Rc:=⟨0,0,0,0,0,0,[],0⟩
def uU(r:Rc):Nat:=r.mO.length
def dfn(r:Rc):Nat->List Sh:=mF (nth r.mO)
def wU(σ:Au)(j:Nat):Rc:=σ.rs.getD j rc0
theorem Ny{σ:Au}{j:Nat}(h:j<σ.rs.length):σ.rs[j]?=ae (wU σ j):=by
 simp[wU,List.getD_eq_getElem?_getD,aD h]
end Go.oD
namespace Go.mP
open Go Go.Sx Go.oD
section
variable{H:Mem}{E:Env}{w:World}{n:Nat}{o:Nat->Oj}{h:Hp}{σ:Au}{b:Nat}
theorem ahO(hR:Bj n o σ b h)(hat:h.at H w):∃L:Lay,Den (H.with h) E (auX uU dfn L.v0 σ.many σ.rs.length (wU σ) L.b1 L.b2) (.pointer (ae ⟨b,0,aq⟩)):=by
 obtain ⟨L,rfl,hdom,hA⟩:=hR;have A:=hA H w hat;have at_:∀t x,L.blk σ.rs.length t=ae x->(H.with h) x=w.heap[x]?:=fun t x hx=>by
  cases q:h x with
  |none=>exact ((hdom x).2 ⟨t,hx⟩ q).elim |some ob=>simp only[Mem.with,q];exact (hat x ob q).1.symm
 have aoE:L.v0.oneCell'=aj:=by
  obtain ⟨xs,h1,_⟩:=A.ob;rcases h1.2 with ⟨q,_⟩ |⟨g,cap,cur,q,_⟩<;>rw[q]<;>rfl
 have asT:L.v2.oneCell'=aj:=by
  rcases A.tx.2 with ⟨q,_⟩ |⟨g,cap,cur,q,_⟩<;>rw[q]<;>rfl
 have asU:∀i,i<σ.rs.length->Rep (H.with h) (.pt (rcR uU dfn (wU σ i))) (qY (L.R i)):=fun i hi=>by
  have hs:=Ny (σ:=σ) hi;have hc:=A.rc i _ hs;have hd:=A.de i _ hs;have hb:=at_ (.rc i) (L.R i) (by simp[b6,hi]);rw[hc] at hb;have asV:(L.D i).oneCell'=aj:=by
   rcases hd.2 with ⟨q,_⟩ |⟨g,cap,cur,q,_⟩<;>rw[q]<;>rfl
  have asW:Rep (H.with h) (.sl 8 (uU (wU σ i)) (dfn (wU σ i))) (L.D i):=Df hd (Tn _) fun x hx=>at_ (.de i) x (by simp[b6,hi,hx]);refine .pt _ (L.R i) 0 (fun j=>(PI (wU σ i) (L.D i)).getD j undef) (fun j hj=>?_) (fun j hj=>?_) fun j s hs'=>?_
  ·simp only[hcell,hb,cA]
   have:j<(PI (wU σ i) (L.D i)).size:=hj;simp[gb,dH this]
  ·have:j<8:=hj
   match j,this with
   |0,_=>rfl |1,_=>rfl |2,_=>rfl |3,_=>rfl |4,_=>rfl |5,_=>rfl |6,_=>exact asV |7,_=>rfl |j+8,hj=>omega
  ·match j,hs' with
   |0,hs'=>cases hs';exact .i _ _ |1,hs'=>cases hs';exact .i _ _ |2,hs'=>cases hs';exact .i _ _ |3,hs'=>cases hs';exact .i _ _ |4,hs'=>cases hs';exact .i _ _ |5,hs'=>cases hs';exact .i _ _ |6,hs'=>cases hs';exact asW |7,hs'=>cases hs';exact .i _ _ |j+8,hs'=>simp[rcR] at hs'
 have asX:Rep (H.with h) (.sl 1 σ.rs.length (TP uU dfn (wU σ))) L.v2:=by
  refine Df A.tx ?_ fun x hx=>at_ .tx x hx
  refine ⟨by simp,fun i _=>rfl,fun u hu=>?_,fun i j s v hi h1 h2=>?_⟩
  ·obtain ⟨i,_,rfl⟩:=bN.1 hu
   rfl
  ·match j,h1 with
   |0,h1=>
    cases h1;simp[hi] at h2;subst h2;exact asU i hi
   |j+1,h1=>simp[TP] at h1
 have hb:=at_ .au L.p rfl;rw[A.au] at hb;refine ⟨L,L.p,0,fun j=>(#[L.v0,.int .i64 σ.many,L.v2,.map (ae L.b1),.map (ae L.b2)]:Array Value).getD j undef,rfl,by decide,rfl,fun j hj=>⟨?_,?_⟩,fun j s hs'=>?_⟩
 ·simp only[hcell,hb,cA]
  have:j<(#[L.v0,.int .i64 σ.many,L.v2,.map (ae L.b1),.map (ae L.b2)]:Array Value).size:=hj;simp[gb,dH this]
 ·match j,hj with
  |0,_=>exact aoE |1,_=>rfl |2,_=>exact asT |3,_=>rfl |4,_=>rfl |j+5,hj=>omega
 ·match j,hs' with
  |0,hs'=>cases hs';exact .v _ aoE |1,hs'=>cases hs';exact .i _ _ |2,hs'=>cases hs';exact asX |3,hs'=>cases hs';exact .v _ rfl |4,hs'=>cases hs';exact .v _ rfl |j+5,hs'=>simp at hs'
end
end Go.mP
namespace Go.Sx
def pS(x y:SV):Prop:=∀(H:Mem) (E:Env) (v:Value),Den H E x v->Den H E y v
def pL:List SV->List SV->Prop
 |[],[]=>True |x::l,y::m=>pS x y/\pL l m |_,_=>False
def pB:SB->SB->Prop
 | .box l e,.box m f=>e=f/\pL l m |a,b=>a=b
def pH:List (Nat×SB)->List (Nat×SB)->Prop
 |[],[]=>True |(i,a)::l,(j,b)::m=>i=j/\pB a b/\pH l m |_,_=>False
def agu:List Fr->List Fr->Prop
 |[],[]=>True |f::s,f'::s'=>f.g=f'.g/\f.td=f'.td/\pL f.tm f'.tm/\agu s s' |_,_=>False
structure pC(c c':Core):Prop where
 tm:pL c.tm c'.tm
 hp:pH c.hp c'.hp
 nx:c.nx=c'.nx
 lim:c.lim=c'.lim
 tc:c.tc=c'.tc
theorem pS.any{x:SV}:pS x .any:=fun _ _ _ _=>trivial
theorem Uk{H:Mem}{E:Env}:∀{l m:List SV} {vs:List Value},pL l m->mW H E l vs->mW H E m vs
 |[],[],[],_,_=>trivial |_::_,_::_,_::_,⟨h1,h2⟩,⟨d1,d2⟩=>⟨h1 _ _ _ d1,Uk h2 d2⟩ |[],_::_,_,h,_=>h.elim |_::_,[],_,h,_=>h.elim |_::_,_::_,[],_,hd=>hd.elim |[],[],_::_,_,hd=>hd.elim
theorem pS.sl{st n:Nat}{g g':Nat->List Sh}(h:∀j,j<n->g j=g' j):pS (.sh (.sl st n g)) (.sh (.sl st n g')):=fun H E v hd=>by
 have hd:Rep H (.sl st n g) v:=hd;show Rep H (.sl st n g') v;cases hd with
 |sl0 _ _ A cap hc=>exact .sl0 _ _ _ _ hc |sl _ _ _ b off cap c h1 h2 h3 h4 h5 h6=>exact .sl _ _ _ b off cap c h1 h2 (fun i hi=>by rw[<-h i hi];exact h3 i hi) h4 h5 fun i j s hi e=>h6 i j s hi (by rw[h i hi];exact e)
theorem pL.set{x y:SV}(h:pS x y):∀{l m:List SV} (i:Nat),pL l m->pL (l.set i x) (m.set i y)
 |[],[],_,_=>trivial |_::_,_::_,0,⟨_,h2⟩=>⟨h,h2⟩ |_::_,_::_,i+1,⟨h1,h2⟩=>⟨h1,pL.set h i h2⟩ |[],_::_,_,h=>h.elim |_::_,[],_,h=>h.elim
section
variable{P:Program}{C:Ctx}{K:Kx}{H H':Mem}{E E':Env}{w w':World}
theorem ae1{id:Nat}{a b:SB}(h:pB a b)(he:wo K H E w id a):wo K H E w id b/\nN E id a=nN E id b:=by
 cases a with
 |box l e=>
  cases b with
  |box m f=>
   obtain ⟨rfl,h⟩:=h;obtain ⟨b,cs,h1,h2,h3,h4⟩:=he;exact ⟨⟨b,cs,h1,h2,Uk h h3,h4⟩,rfl⟩
  |_=>simp[pB] at h
 |_=>
  simp only[pB] at h;subst h;exact ⟨he,rfl⟩
theorem Ul:∀{l m:List (Nat×SB)} {i:Nat} {b:SB},pH l m->mG m i=ae b->∃a,mG l i=ae a/\pB a b
 |[],[],_,_,_,h=>by simp[mG] at h |(i,a)::l,(j,b)::m,k,sb,⟨h1,h2,h3⟩,h=>by
  subst h1;simp only[mG] at h ⊢;cases hk:(i==k)<;>simp only[hk,cond_true,cond_false] at h ⊢
  ·exact Ul h3 h
  ·cases h;exact ⟨_,rfl,h2⟩
 |[],_::_,_,_,h,_=>h.elim |_::_,[],_,_,h,_=>h.elim
theorem St.aaj{c c':Core}{a:Act}(st:St C K H E w c a)(h:pC c c'):St C K H E w c' a:=by
 refine ⟨Uk h.tm st.den,⟨fun id sb hl=>?_,fun id id' sb sb' b l1 l2 o1 o2=>?_⟩,st.oQ,fun i h1 h2=>st.free i (by rw[h.nx];exact h1) (by rw[h.lim];exact h2),st.gl,st.defers⟩
 ·obtain ⟨x,h1,h2⟩:=Ul h.hp hl
  exact (ae1 h2 (st.hp.ent _ _ h1)).1
 ·obtain ⟨x,h1,h2⟩:=Ul h.hp l1
  obtain ⟨y,h3,h4⟩:=Ul h.hp l2;exact st.hp.vO _ _ _ _ _ h1 h3 (by rw[(ae1 h2 (st.hp.ent _ _ h1)).2];exact o1) (by rw[(ae1 h4 (st.hp.ent _ _ h3)).2];exact o2)
theorem vT.aaj:∀{s s':List Fr} {ms:List Frame},vT C H E s ms->agu s s'->vT C H E s' ms
 |[],[],[],_,_=>trivial |f::s,f'::s',m::ms,⟨⟨fn,a,items,h1,h2,h3,h4,h5⟩,h6⟩,⟨e1,e2,e3,e4⟩=>
  ⟨⟨fn,a,items,by rw[<-e1];exact h1,Uk e3 h2,h3,by rw[<-e2];exact h4,by rw[<-e1];exact h5⟩,vT.aaj h6 e4⟩
 |[],[],_::_,h,_=>h.elim |_::_,_,[],h,_=>h.elim |[],_::_,_,_,h=>h.elim |_::_,[],_::_,_,h=>h.elim
theorem agv{g:Nat}:∀{s s':List Fr} {g:Nat},agu s s'->IE g s'=IE g s
 |[],[],_,_=>rfl |f::s,f'::s',_,⟨e1,_,_,e4⟩=>by simp only[IE];rw[e1];exact agv (g:=0) e4 |[],_::_,_,h=>h.elim |_::_,[],_,h=>h.elim
theorem PS{g:Nat}{td:List It}{c c':Core}{stk zW:List Fr}{R:Hp->Prop}{φ:Sh->Prop}(hle:pC c c')(hs:agu stk zW)(h:nX P C K g td c' zW R φ):nX P C K g td c stk R φ:=by
 intro H E w a items ms cs fn hfn st hi hst hx;have:=h H E w a items ms cs fn hfn (st.aaj hle) hi (hst.aaj hs) hx;rw[agv (g:=0) hs] at this;exact this
end
end Go.Sx
