/- Own work. -/
import Derived.Test.YthehnhaoiijkhaaGreatDoorF11
open Int (ofNat)
open And renaming intro->dh
open Array renaming replicate->dN,getElem?_eq_getElem->jI,getD_eq_getD_getElem?->nN
open Bool renaming and_eq_true->aG,true->aC,false->ay,or_false->lM
open Go.IntKind renaming i64->aU
open Go.AL.Au renaming feed->ni
open Go.AL.Rc renaming step->gQ
open Go.Proofs.Tryz renaming prog->aA,f79->iM
open Go.zM.C5 renaming ok->mO
open Go.Sx.AQ renaming val->jH,int->aj,sh->aP,nat->aJ,get->aQ,Nz->aZ
open Go.Sx.DF renaming at_->bJ,ret->aS
open Go.Sx.Fe3 renaming ret->uI,raw->yH
open Go.Sx.It renaming code->bF,inBlock->bZ,reg->o7
open Go.Sx.Lay renaming blk->fQ
open Go.Sx.SB renaming own->uH,fm->nM,box->jS
open Go.Sx.SV renaming agg->jQ,sh->dH,ptr->jR,Ei->yM,CS->fH,any->bD,bool->oO,int->qA,zY->jV,mp->qZ
open Go.Sx.Sh renaming zQ->bT,sl->aI,er->aW,BM->mZ,pt->qo,i->aT
open Go.Sx.Tree renaming need->aH,node->aF,leaf->aB,must->aO
open Go.Value renaming pointer->fG
open Iff renaming rfl->yG
open Int renaming ofNat->ah,ofNat_eq_natCast->jP
open List renaming flatMap_cons->sV,getElem?_eq_some_iff->bW,ext_getElem?->lZ,getElem?_eq_getElem->aV,getElem?_eq_none->jq,range->aY,mem_map->fC,findIdx?_cons->iZ,findIdx?_eq_none_iff->oN,replicate->dL
open Nat renaming zero_add->iw,beq->dQ
open Option renaming some->ak,none->aK,bind_some->eH
open Option.some renaming inj->dw
namespace Go.Sx
open Go.AL
def svE:Option Nat->SV
 |none=>.CS |some k=>.sh (.er k 329)
end Go.Sx
namespace Go.AL
open Go Go.Sx
def Rc.out(many:Nat)(e:Ev)(r:Rc):Option Nat×Nat×Rc:=
 match gQ many e r with
 | .inl k=>(ak k,many,r) | .inr r'=>(aK,many+1,r')
theorem SA{α:Type}(f:α->α):∀l:List α,(GZ f l).length=l.length
 |[]=>rfl |[_]=>rfl |_::y::l=>by simp[GZ,SA f (y::l)]
theorem amd{α:Type}[Row α]{l:List α}(h:l≠[]):nth l (l.length - 1)=l.getLast?.getD Row.Jl:=by
 grind [nth]
theorem Zh{α:Type}[Row α](f:α->α):∀(l:List α) (i:Nat),i<l.length->nth (GZ f l) i=if i=l.length - 1 then f (nth l i) else nth l i
 |[],i,h=>by simp at h |[x],i,h=>by
  simp_all [GZ,nth]
 |x::y::l,0,_=>by rfl |x::y::l,i+1,h=>by
  have ih:=Zh f (y::l) i (by simpa using h);simp_all [nth,GZ]
end Go.AL
namespace Go.zM
open Go Go.Sx Go.AL
theorem axx:zZ aA (EO W5) 101 apX:=O56.mono fun H Aq args φ hr h=>by
 clear hr;unfold apX at h;split at h
 ·rename_i l
  split at h
  ·rename_i e he
   obtain ⟨h1,h2⟩:=h;unfold Bl at h1;simp only[aG] at h1;show (match abO l with|some e=>_|none=>_:Tree Sh).All φ
   rw[he];refine ⟨h1.2,fun _=>?_,fun q=>?_⟩
   ·refine ⟨fun _=>h2,fun q=>?_⟩
    simp_all
   simp_all
  ·exact h.elim
 ·exact h.elim
theorem axy:∀g F,BI g=ak F->zZ aA (EO W5) g F:=fun g F h=>by
 unfold BI at h;grind [axx,O57,O67]
theorem ajy(stop:Nat->List Nat->Bool):AU aA (C5 zG W5 BI stop):=C5.O5 axy fun g h=>by
 unfold BI at h;split at h;all_goals first|(cases h;done) |kernel_rfl
theorem Nr{a:Int}{k:Nat}(h:zG.eq a (ah k)=aC):a=(k:Int):=by grind [Ac]
theorem eqF{a:Int}{k:Nat}(h:zG.eq a (ah k)=ay):a≠(k:Int):=by grind [Ac]
theorem eqS(a:Int):zG.eq a a=aC:=by simp[Ac]
theorem wrapM{many:Nat}(hm:many<400):zG.add .i64 (many:Int) 1=((many+1:Nat):Int):=by
 grind [CB,BF]
def DY(n m:Nat)(o:Nat->Oj)(gR:Nat->List Sh)(M1 M2:Int->Option Value)(e:Ev)(many:Nat)(r:Rc)(us:List (Int×Bool×SV)):QS:=
 toR n m o gR M1 M2 e many r.id r.th r.st r.bg r.en r.tr r.stand r.zK.length (zH (nth r.zK)) us
def EL(r:Rc):List (Nat×SB):=hpR r.id r.th r.st r.bg r.en r.tr r.stand r.zK.length (zH (nth r.zK))
section
variable{n m:Nat}{o:Nat->Oj}{many:Nat}{gR:Nat->List Sh}{M1 M2:Int->Option Value}
theorem ap3(hm:many<400){e:Ev}(hk:e.kind=4)(hv:Bl e=aC)(r:Rc):
  D9 (Fv [DY n m o gR M1 M2 e (Rc.out many e r).2.1 (Rc.out many e r).2.2 []] (fun sv k=>sv=svE (Rc.out many e r).1/\k=0)) ((run (C5 zG W5 BI zV) 700 aC 79 [.code []] (LA 4 e (hpA n m o many gR M1 M2 [(e.tx,aC,.ptr 4 0)] []++EL r))).bind (toEnd [DY n m o gR M1 M2 e (Rc.out many e r).2.1 (Rc.out many e r).2.2 []])):=by
 obtain ⟨kind,tx,thread,obj,op,key,val,ret⟩:=e;obtain ⟨id,th,st,bg,en,tr,zK,stand⟩:=r;have hk:kind=4:=hk;subst hk;have hw:=wrapM hm;by_cases hs:stand=1
 ·have e1:Rc.out many ⟨4,tx,thread,obj,op,key,val,ret⟩ ⟨id,th,st,bg,en,tr,zK,stand⟩=(aK,many+1,⟨id,th,2,bg,en,many,zK,3⟩):=by
   subst hs;rfl
  rw[e1];unfold DY EL;simp only;rw[apZ zG W5 n m o many gR M1 M2 ⟨4,tx,thread,obj,op,key,val,ret⟩ id th st bg en tr stand zK.length (nth zK) (many+1:Nat) id th 2 bg en many 3 zK.length (zH (nth zK)),BH];repeat' (first
   |exact trivial
   |exact hv
   |exact hw
   |exact eqS _
   |exact rfl
   |exact fun _ _=>rfl
   |(intro q;replace q:=Nr q;first|(exfalso;omega) |skip)
   |(intro q;replace q:=eqF q;first|(exfalso;omega) |skip)
   |refine dh ?_ ?_)
 ·have e1:Rc.out many ⟨4,tx,thread,obj,op,key,val,ret⟩ ⟨id,th,st,bg,en,tr,zK,stand⟩=(ak 12,many,⟨id,th,st,bg,en,tr,zK,stand⟩):=by
   have d1:(stand==1)=ay:=by rw[beq_eq_false_iff_ne];omega
   simp only[Rc.out,gQ,d1];rfl
  rw[e1];unfold DY EL;simp only;rw[apZ zG W5 n m o many gR M1 M2 ⟨4,tx,thread,obj,op,key,val,ret⟩ id th st bg en tr stand zK.length (nth zK) (many:Nat) id th st bg en tr stand zK.length (zH (nth zK)),BH];repeat' (first
   |exact trivial
   |exact hv
   |exact hw
   |exact eqS _
   |exact rfl
   |exact fun _ _=>rfl
   |(intro q;replace q:=Nr q;first|(exfalso;omega) |skip)
   |(intro q;replace q:=eqF q;first|(exfalso;omega) |skip)
   |refine dh ?_ ?_)
theorem ap4(hm:many<400){e:Ev}(hk:e.kind=7)(hv:Bl e=aC)(r:Rc):
  D9 (Fv [DY n m o gR M1 M2 e (Rc.out many e r).2.1 (Rc.out many e r).2.2 []] (fun sv k=>sv=svE (Rc.out many e r).1/\k=0)) ((run (C5 zG W5 BI zV) 700 aC 79 [.code []] (LA 7 e (hpA n m o many gR M1 M2 [(e.tx,aC,.ptr 4 0)] []++EL r))).bind (toEnd [DY n m o gR M1 M2 e (Rc.out many e r).2.1 (Rc.out many e r).2.2 []])):=by
 obtain ⟨kind,tx,thread,obj,op,key,val,ret⟩:=e;obtain ⟨id,th,st,bg,en,tr,zK,stand⟩:=r;have hk:kind=7:=hk;subst hk;have hw:=wrapM hm;by_cases hs:stand=1
 ·have e1:Rc.out many ⟨7,tx,thread,obj,op,key,val,ret⟩ ⟨id,th,st,bg,en,tr,zK,stand⟩=(aK,many+1,⟨id,th,st,bg,en,tr,zK,4⟩):=by
   subst hs;rfl
  rw[e1];unfold DY EL;simp only;rw[ap2 zG W5 n m o many gR M1 M2 ⟨7,tx,thread,obj,op,key,val,ret⟩ id th st bg en tr stand zK.length (nth zK) (many+1:Nat) id th st bg en tr 4 zK.length (zH (nth zK)),BH];repeat' (first
   |exact trivial
   |exact hv
   |exact hw
   |exact eqS _
   |exact rfl
   |exact fun _ _=>rfl
   |(intro q;replace q:=Nr q;first|(exfalso;omega) |skip)
   |(intro q;replace q:=eqF q;first|(exfalso;omega) |skip)
   |refine dh ?_ ?_)
 ·have e1:Rc.out many ⟨7,tx,thread,obj,op,key,val,ret⟩ ⟨id,th,st,bg,en,tr,zK,stand⟩=(ak 12,many,⟨id,th,st,bg,en,tr,zK,stand⟩):=by
   have d1:(stand==1)=ay:=by rw[beq_eq_false_iff_ne];omega
   simp only[Rc.out,gQ,d1];rfl
  rw[e1];unfold DY EL;simp only;rw[ap2 zG W5 n m o many gR M1 M2 ⟨7,tx,thread,obj,op,key,val,ret⟩ id th st bg en tr stand zK.length (nth zK) (many:Nat) id th st bg en tr stand zK.length (zH (nth zK)),BH];repeat' (first
   |exact trivial
   |exact hv
   |exact hw
   |exact eqS _
   |exact rfl
   |exact fun _ _=>rfl
   |(intro q;replace q:=Nr q;first|(exfalso;omega) |skip)
   |(intro q;replace q:=eqF q;first|(exfalso;omega) |skip)
   |refine dh ?_ ?_)
theorem ap5(hm:many<400){e:Ev}(hk:e.kind=5)(hv:Bl e=aC)(r:Rc):
  D9 (Fv [DY n m o gR M1 M2 e (Rc.out many e r).2.1 (Rc.out many e r).2.2 [],DY n m o gR M1 M2 e (Rc.out many e r).2.1 (Rc.out many e r).2.2 [(r.th,ay,.any)]] (fun sv k=>sv=svE (Rc.out many e r).1/\k=(bif (Rc.out many e r).1.isNone then 1 else 0))) ((run (C5 zG W5 BI zV) 700 aC 79 [.code []] (LA 5 e (hpA n m o many gR M1 M2 [(e.tx,aC,.ptr 4 0)] []++EL r))).bind (toEnd [DY n m o gR M1 M2 e (Rc.out many e r).2.1 (Rc.out many e r).2.2 [],DY n m o gR M1 M2 e (Rc.out many e r).2.1 (Rc.out many e r).2.2 [(r.th,ay,.any)]])):=by
 obtain ⟨kind,tx,thread,obj,op,key,val,ret⟩:=e;obtain ⟨id,th,st,bg,en,tr,zK,stand⟩:=r;have hk:kind=5:=hk;subst hk;have hw:=wrapM hm;by_cases hs:stand=3
 ·have e1:Rc.out many ⟨5,tx,thread,obj,op,key,val,ret⟩ ⟨id,th,st,bg,en,tr,zK,stand⟩=(aK,many+1,⟨id,th,3,bg,many,tr,zK,5⟩):=by
   subst hs;rfl
  rw[e1];unfold DY EL;simp only;rw[ap0 zG W5 n m o many gR M1 M2 ⟨5,tx,thread,obj,op,key,val,ret⟩ id th st bg en tr stand zK.length (nth zK) (many+1:Nat) id th 3 bg many tr 5 zK.length (zH (nth zK)),BH];repeat' (first
   |exact trivial
   |exact hv
   |exact hw
   |exact eqS _
   |exact rfl
   |exact fun _ _=>rfl
   |(intro q;replace q:=Nr q;first|(exfalso;omega) |skip)
   |(intro q;replace q:=eqF q;first|(exfalso;omega) |skip)
   |refine dh ?_ ?_)
 ·have e1:Rc.out many ⟨5,tx,thread,obj,op,key,val,ret⟩ ⟨id,th,st,bg,en,tr,zK,stand⟩=(ak 12,many,⟨id,th,st,bg,en,tr,zK,stand⟩):=by
   have d3:(stand==3)=ay:=by rw[beq_eq_false_iff_ne];omega
   simp only[Rc.out,gQ,d3,lM];rfl
  rw[e1];unfold DY EL;simp only;rw[ap0 zG W5 n m o many gR M1 M2 ⟨5,tx,thread,obj,op,key,val,ret⟩ id th st bg en tr stand zK.length (nth zK) (many:Nat) id th st bg en tr stand zK.length (zH (nth zK)),BH];repeat' (first
   |exact trivial
   |exact hv
   |exact hw
   |exact eqS _
   |exact rfl
   |exact fun _ _=>rfl
   |(intro q;replace q:=Nr q;first|(exfalso;omega) |skip)
   |(intro q;replace q:=eqF q;first|(exfalso;omega) |skip)
   |refine dh ?_ ?_)
theorem ap6(hm:many<400){e:Ev}(hk:e.kind=6)(hv:Bl e=aC)(r:Rc):
  D9 (Fv [DY n m o gR M1 M2 e (Rc.out many e r).2.1 (Rc.out many e r).2.2 [],DY n m o gR M1 M2 e (Rc.out many e r).2.1 (Rc.out many e r).2.2 [(r.th,ay,.any)]] (fun sv k=>sv=svE (Rc.out many e r).1/\k=(bif (Rc.out many e r).1.isNone then 1 else 0))) ((run (C5 zG W5 BI zV) 700 aC 79 [.code []] (LA 6 e (hpA n m o many gR M1 M2 [(e.tx,aC,.ptr 4 0)] []++EL r))).bind (toEnd [DY n m o gR M1 M2 e (Rc.out many e r).2.1 (Rc.out many e r).2.2 [],DY n m o gR M1 M2 e (Rc.out many e r).2.1 (Rc.out many e r).2.2 [(r.th,ay,.any)]])):=by
 obtain ⟨kind,tx,thread,obj,op,key,val,ret⟩:=e;obtain ⟨id,th,st,bg,en,tr,zK,stand⟩:=r;have hk:kind=6:=hk;subst hk;have hw:=wrapM hm;by_cases hs:stand=1\/stand=2\/stand=3\/stand=4
 ·have e1:Rc.out many ⟨6,tx,thread,obj,op,key,val,ret⟩ ⟨id,th,st,bg,en,tr,zK,stand⟩=(aK,many+1,⟨id,th,4,bg,many,tr,zK,5⟩):=by
   rcases hs with rfl|rfl|rfl|rfl<;>rfl
  rw[e1];unfold DY EL;simp only;rw[ap1 zG W5 n m o many gR M1 M2 ⟨6,tx,thread,obj,op,key,val,ret⟩ id th st bg en tr stand zK.length (nth zK) (many+1:Nat) id th 4 bg many tr 5 zK.length (zH (nth zK)),BH];repeat' (first
   |exact trivial
   |exact hv
   |exact hw
   |exact eqS _
   |exact rfl
   |exact fun _ _=>rfl
   |(intro q;replace q:=Nr q;first|(exfalso;omega) |skip)
   |(intro q;replace q:=eqF q;first|(exfalso;omega) |skip)
   |refine dh ?_ ?_)
 ·have e1:Rc.out many ⟨6,tx,thread,obj,op,key,val,ret⟩ ⟨id,th,st,bg,en,tr,zK,stand⟩=(ak 12,many,⟨id,th,st,bg,en,tr,zK,stand⟩):=by
   have d1:(stand==1)=ay:=by rw[beq_eq_false_iff_ne];omega
   have d2:(stand==2)=ay:=by rw[beq_eq_false_iff_ne];omega
   have d3:(stand==3)=ay:=by rw[beq_eq_false_iff_ne];omega
   have d4:(stand==4)=ay:=by rw[beq_eq_false_iff_ne];omega
   simp only[Rc.out,gQ,d1,d2,d3,d4,lM];rfl
  rw[e1];unfold DY EL;simp only;rw[ap1 zG W5 n m o many gR M1 M2 ⟨6,tx,thread,obj,op,key,val,ret⟩ id th st bg en tr stand zK.length (nth zK) (many:Nat) id th st bg en tr stand zK.length (zH (nth zK)),BH];repeat' (first
   |exact trivial
   |exact hv
   |exact hw
   |exact eqS _
   |exact rfl
   |exact fun _ _=>rfl
   |(intro q;replace q:=Nr q;first|(exfalso;omega) |skip)
   |(intro q;replace q:=eqF q;first|(exfalso;omega) |skip)
   |refine dh ?_ ?_)
theorem ap7(hm:many<400){e:Ev}(hk:e.kind=2)(hv:Bl e=aC)(r:Rc)(hl:r.zK.length<=1000)(h1:0<=e.obj)(h2:e.obj<n)(h3:Dc e.op=(o e.obj.toNat).kind):
  D9 (Fv [DY n m o gR M1 M2 e (Rc.out many e r).2.1 (Rc.out many e r).2.2 []] (fun sv k=>sv=svE (Rc.out many e r).1/\k=0)) ((run (C5 zG W5 BI zV) 700 aC 79 [.code []] (LA 2 e (hpA n m o many gR M1 M2 [(e.tx,aC,.ptr 4 0)] []++EL r))).bind (toEnd [DY n m o gR M1 M2 e (Rc.out many e r).2.1 (Rc.out many e r).2.2 []])):=by
 obtain ⟨kind,tx,thread,obj,op,key,val,ret⟩:=e;obtain ⟨id,th,st,bg,en,tr,zK,stand⟩:=r;have hk:kind=2:=hk;subst hk;have hw:=wrapM hm;have hl:zK.length<=1000:=hl;have h1:0<=obj:=h1;have h2:obj<n:=h2;have h3:Dc op=(o obj.toNat).kind:=h3;have ho:zG.le (zG.Aa n) obj=aC->False:=fun q=>by grind [Dy,Ad]
 have hi:zG.inB obj n=aC:=by simp[AY];omega
 have hq:zG.nt (zG.eq (Dc op) (o (zG.toN obj)).kind)=aC->False:=fun q=>by
  simp_all [Bh,Ac,BL]
 have hroom:zG.room (zG.addN zK.length 1) 64=aC:=by
  show decide ((zK.length+1)*64<=140737488355328/\zK.length+1<=maxLen)=aC;grind [maxLen_eq,decide_eq_true]
 have hsn:∀i,i<zK.length+1->zG.snoc (zH (nth zK)) zK.length (Af [[.i .i64 obj,.i .i64 op,.i .i64 key,.i .i64 val,.i .i64 0,.i .i64 0,.i .i64 many,.i .i64 (-1)]]) i=zH (nth (zK++[(⟨obj,op,key,val,0,0,many,-1⟩:De)])) i:=O7 (α:=De) _ _ rfl;have hlen:zK.length+1=(zK++[(⟨obj,op,key,val,0,0,many,-1⟩:De)]).length:=by simp
 by_cases hs:stand=1
 ·have e1:Rc.out many ⟨2,tx,thread,obj,op,key,val,ret⟩ ⟨id,th,st,bg,en,tr,zK,stand⟩=(aK,many+1,⟨id,th,st,bg,en,tr,zK++[⟨obj,op,key,val,0,0,many,-1⟩],2⟩):=by
   subst hs;rfl
  rw[e1];unfold DY EL;simp only;rw[apY zG W5 n m o many gR M1 M2 ⟨2,tx,thread,obj,op,key,val,ret⟩ id th st bg en tr stand zK.length (nth zK) (many+1:Nat) id th st bg en tr 2 (zK++[(⟨obj,op,key,val,0,0,(many:Int),-1⟩:De)]).length (zH (nth (zK++[(⟨obj,op,key,val,0,0,(many:Int),-1⟩:De)]))),BH];repeat' (first
   |exact trivial
   |exact hv
   |exact hw
   |exact hi
   |exact hroom
   |exact hlen
   |exact hsn
   |(intro q;exact (ho q).elim)
   |(intro q;exact (hq q).elim)
   |exact eqS _
   |exact rfl
   |exact fun _ _=>rfl
   |(intro q;replace q:=Nr q;omega)
   |(intro q;replace q:=eqF q;first|(exfalso;omega) |skip)
   |intro _
   |refine dh ?_ ?_)
 ·have e1:Rc.out many ⟨2,tx,thread,obj,op,key,val,ret⟩ ⟨id,th,st,bg,en,tr,zK,stand⟩=(ak 12,many,⟨id,th,st,bg,en,tr,zK,stand⟩):=by
   grind [beq_eq_false_iff_ne,Rc.out,gQ]
  rw[e1];unfold DY EL;simp only;rw[apY zG W5 n m o many gR M1 M2 ⟨2,tx,thread,obj,op,key,val,ret⟩ id th st bg en tr stand zK.length (nth zK) (many:Nat) id th st bg en tr stand zK.length (zH (nth zK)),BH];repeat' (first
   |exact trivial
   |exact hv
   |exact hw
   |exact hi
   |exact hroom
   |exact hlen
   |exact hsn
   |(intro q;exact (ho q).elim)
   |(intro q;exact (hq q).elim)
   |exact eqS _
   |exact rfl
   |exact fun _ _=>rfl
   |(intro q;replace q:=Nr q;omega)
   |(intro q;replace q:=eqF q;first|(exfalso;omega) |skip)
   |intro _
   |refine dh ?_ ?_)
theorem ap8(hm:many<400){e:Ev}(hk:e.kind=3)(hv:Bl e=aC)(r:Rc)(hl:r.zK.length<=1000)(hd:r.stand=2->r.zK≠[]):
  D9 (Fv [DY n m o gR M1 M2 e (Rc.out many e r).2.1 (Rc.out many e r).2.2 []] (fun sv k=>sv=svE (Rc.out many e r).1/\k=0)) ((run (C5 zG W5 BI zV) 700 aC 79 [.code []] (LA 3 e (hpA n m o many gR M1 M2 [(e.tx,aC,.ptr 4 0)] []++EL r))).bind (toEnd [DY n m o gR M1 M2 e (Rc.out many e r).2.1 (Rc.out many e r).2.2 []])):=by
 obtain ⟨kind,tx,thread,obj,op,key,val,ret⟩:=e;obtain ⟨id,th,st,bg,en,tr,zK,stand⟩:=r;have hk:kind=3:=hk;subst hk;have hw:=wrapM hm;have hl:zK.length<=1000:=hl;have hd:stand=2->zK≠[]:=hd;by_cases hs:stand=2
 ·have hd:=hd hs
  have hpos:0<zK.length:=List.length_pos_iff.2 hd;have hix:zG.toN (zG.sub .i64 (zG.Aa zK.length) (ah 1))=zK.length - 1:=by
   grind [L9,Ad,BL,BF,jP]
  have hi:zG.inB (zG.sub .i64 (zG.Aa zK.length) (ah 1)) zK.length=aC:=by
   grind [L9,Ad,BF,jP,AY,decide_eq_true]
  have hlast:nth zK (zK.length - 1)=zK.getLast?.getD Row.Jl:=amd hd;by_cases hf:Qw (zK.getLast?.getD Row.Jl).op ret=aC
  ·have hq:zG.nt (Qw (nth zK (zG.toN (zG.sub .i64 (zG.Aa zK.length) (ah 1)))).op ret)=aC->False:=fun q=>by
    simp_all [Bh]
   have hlen:zK.length=(GZ (fun d:De=>{d with ret:=ret,got:=val,back:=(many:Int)}) zK).length:=(SA _ _).symm
   have hup:∀i,i<zK.length->zG.upd (zG.upd (zG.upd (zH (nth zK)) (zG.toN (zG.sub .i64 (zG.Aa zK.length) (ah 1))) 4 [.i .i64 ret]) (zG.toN (zG.sub .i64 (zG.Aa zK.length) (ah 1))) 5 [.i .i64 val]) (zG.toN (zG.sub .i64 (zG.Aa zK.length) (ah 1))) 7 [.i .i64 many] i=zH (nth (GZ (fun d:De=>{d with ret:=ret,got:=val,back:=(many:Int)}) zK)) i:=fun i hi=>by
    rw[hix];simp only[zH];rw[Zh _ _ _ hi];by_cases q:i=zK.length - 1
    ·rw[if_pos q]
     subst q;simp only[zG,if_true];rfl
    ·rw[if_neg q]
     simp only[zG,if_neg q];rfl
   have e1:Rc.out many ⟨3,tx,thread,obj,op,key,val,ret⟩ ⟨id,th,st,bg,en,tr,zK,stand⟩=(aK,many+1,⟨id,th,st,bg,en,tr,GZ (fun d=>{d with ret:=ret,got:=val,back:=many}) zK,1⟩):=by
    simp_all [Rc.out,gQ]
   rw[e1];unfold DY EL;simp only;rw[ajx zG W5 n m o many gR M1 M2 ⟨3,tx,thread,obj,op,key,val,ret⟩ id th st bg en tr stand zK.length (nth zK) (many+1:Nat) id th st bg en tr 1 (GZ (fun d:De=>{d with ret:=ret,got:=val,back:=(many:Int)}) zK).length (zH (nth (GZ (fun d:De=>{d with ret:=ret,got:=val,back:=(many:Int)}) zK))),BH]
   repeat' (first
    |exact trivial
    |exact hv
    |exact hw
    |exact hi
    |exact hlen
    |exact hup
    |(intro q;exact (hq q).elim)
    |exact eqS _
    |exact rfl
    |exact fun _ _=>rfl
    |(intro q;replace q:=Nr q;omega)
    |(intro q;replace q:=eqF q;first|(exfalso;omega) |skip)
    |intro _
    |refine dh ?_ ?_)
  ·have hf:Qw (zK.getLast?.getD Row.Jl).op ret=ay:=by grind
   have hq:zG.nt (Qw (nth zK (zG.toN (zG.sub .i64 (zG.Aa zK.length) (ah 1)))).op ret)=ay->False:=fun q=>by
    simp_all [Bh]
   have hlen:=hl;have hup:=hl;have e1:Rc.out many ⟨3,tx,thread,obj,op,key,val,ret⟩ ⟨id,th,st,bg,en,tr,zK,stand⟩=(ak 13,many,⟨id,th,st,bg,en,tr,zK,stand⟩):=by
    simp_all [Rc.out,gQ]
   rw[e1];unfold DY EL;simp only;rw[ajx zG W5 n m o many gR M1 M2 ⟨3,tx,thread,obj,op,key,val,ret⟩ id th st bg en tr stand zK.length (nth zK) (many:Nat) id th st bg en tr stand zK.length (zH (nth zK)),BH];repeat' (first
    |exact trivial
    |exact hv
    |exact hw
    |exact hi
    |exact hlen
    |exact hup
    |(intro q;exact (hq q).elim)
    |exact eqS _
    |exact rfl
    |exact fun _ _=>rfl
    |(intro q;replace q:=Nr q;omega)
    |(intro q;replace q:=eqF q;first|(exfalso;omega) |skip)
    |intro _
    |refine dh ?_ ?_)
 ·have hi:=hl
  have hlen:=hl;have hup:=hl;have hq:=hl;have e1:Rc.out many ⟨3,tx,thread,obj,op,key,val,ret⟩ ⟨id,th,st,bg,en,tr,zK,stand⟩=(ak 12,many,⟨id,th,st,bg,en,tr,zK,stand⟩):=by
   grind [beq_eq_false_iff_ne,Rc.out,gQ]
  rw[e1];unfold DY EL;simp only;rw[ajx zG W5 n m o many gR M1 M2 ⟨3,tx,thread,obj,op,key,val,ret⟩ id th st bg en tr stand zK.length (nth zK) (many:Nat) id th st bg en tr stand zK.length (zH (nth zK)),BH];repeat' (first
   |exact trivial
   |exact hv
   |exact hw
   |exact eqS _
   |exact rfl
   |exact fun _ _=>rfl
   |(intro q;replace q:=Nr q;omega)
   |(intro q;replace q:=eqF q;first|(exfalso;omega) |skip)
   |refine dh ?_ ?_)
end
end Go.zM
namespace Go.Sx
open Go.AL
theorem N7(d:De):(deV d).length=8:=rfl
theorem flat_length:∀l:List De,(l.flatMap deV).length=l.length*8
 |[]=>rfl |d::l=>by simp[flat_length l,N7,Nat.add_mul];omega
theorem abR:∀(l:List De) (i j:Nat),j<8->(l.flatMap deV)[i*8+j]?=(l[i]?).bind fun d=>(deV d)[j]?
 |[],i,j,_=>by simp |d::l,0,j,hj=>by
  simp only[sV,Nat.zero_mul,iw,List.getElem?_cons_zero,eH];grind [List.getElem?_append_left,N7]
 |d::l,i+1,j,hj=>by
  simp only[sV,List.getElem?_cons_succ];rw[List.getElem?_append_right (by rw[N7];omega),N7,show (i+1)*8+j - 8=i*8+j by omega];exact abR l i j hj
theorem ap9(d:De):∀u∈deV d,u.oneCell'=aC:=fun u hu=>by
 simp[deV] at hu;rcases hu with rfl|rfl|rfl|rfl|rfl|rfl|rfl|rfl<;>rfl
theorem aqa{H:Mem}(d:De)(j:Nat)(s:Sh)(v:Value)(h1:(deR d)[j]?=ak s)(h2:(deV d)[j]?=ak v):Rep H s v:=by
 match j,h1,h2 with
 |0,h1,h2=>cases h1;cases h2;exact .i _ _ |1,h1,h2=>cases h1;cases h2;exact .i _ _ |2,h1,h2=>cases h1;cases h2;exact .i _ _ |3,h1,h2=>cases h1;cases h2;exact .i _ _ |4,h1,h2=>cases h1;cases h2;exact .i _ _ |5,h1,h2=>cases h1;cases h2;exact .i _ _ |6,h1,h2=>cases h1;cases h2;exact .i _ _ |7,h1,h2=>cases h1;cases h2;exact .i _ _ |j+8,h1,h2=>simp[deR] at h1
theorem adN{α:Type}[Row α]{l:List α}{i:Nat}(h:i<l.length):l[i]?=ak (nth l i):=by
 simp_all [nth]
theorem Zi{H:Mem}(l:List De):Bq H 8 l.length (zH (nth l)) (l.flatMap deV):=by
 refine ⟨flat_length l,fun i _=>rfl,fun u hu=>?_,fun i j s v hi h1 h2=>?_⟩
 ·grind [ap9]
 ·have hj:j<8:=by
   have:=(bW.1 h1).1;exact this
  rw[abR l i j hj,adN hi] at h2;exact aqa (nth l i) j s v h1 h2
theorem abS{H:Mem}{l:List De}{xs:List Value}(h:Bq H 8 l.length (zH (nth l)) xs):xs=l.flatMap deV:=by
 apply lZ;intro q;by_cases hq:q<l.length*8
 ·have hi:q / 8<l.length:=by omega
  have hj:q % 8<8:=by omega
  have e:q=q / 8*8+q % 8:=by omega
  rw[e,abR l _ _ hj,adN hi];have hx:q / 8*8+q % 8<xs.length:=by rw[h.1];omega
  rw[aV hx];simp only[eH];have hs:∃s,(deR (nth l (q / 8)))[q % 8]?=ak s:=⟨_,aV (by exact hj)⟩;obtain ⟨s,hs⟩:=hs;have hr:=h.2.2.2 (q / 8) (q % 8) s _ hi hs (aV hx);generalize xs[q / 8*8+q % 8]=v at hr;generalize q % 8=j at hs hj hr;match j,hs,hj with
  |0,hs,_=>cases hs;cases hr;rfl |1,hs,_=>cases hs;cases hr;rfl |2,hs,_=>cases hs;cases hr;rfl |3,hs,_=>cases hs;cases hr;rfl |4,hs,_=>cases hs;cases hr;rfl |5,hs,_=>cases hs;cases hr;rfl |6,hs,_=>cases hs;cases hr;rfl |7,hs,_=>cases hs;cases hr;rfl |j+8,_,hj=>omega
 ·rw[jq (by rw[h.1];omega),jq (by rw[flat_length];omega)]
def FV(R:Nat->Nat):Nat->List Sh:=fun j=>[.v (CX (R j))]
theorem ame{H:Mem}(R:Nat->Nat)(n:Nat):Bq H 1 n (FV R) ((aY n).map fun i=>CX (R i)):=by
 refine ⟨by simp,fun i _=>rfl,fun u hu=>?_,fun i j s v hi h1 h2=>?_⟩
 ·obtain ⟨i,_,rfl⟩:=fC.1 hu
  rfl
 ·have hj:j=0:=by
   simp_all [bW,FV]
  subst hj;cases h1;simp[hi] at h2;subst h2;exact .v _ rfl
theorem Qx{H:Mem}{R:Nat->Nat}{n:Nat}{xs:List Value}(h:Bq H 1 n (FV R) xs):xs=(aY n).map fun i=>CX (R i):=by
 apply lZ;intro q;by_cases hq:q<n
 ·have hx:q<xs.length:=by rw[h.1];omega
  rw[aV hx];have hr:=h.2.2.2 q 0 _ xs[q] hq rfl (by simp);generalize xs[q]=v at hr ⊢;cases hr;simp[hq]
 ·rw[jq (by rw[h.1];omega),jq (by simp;omega)]
section
variable{H H':Mem}{E E':Env}{w w':World}{n0:Nat}{g0:Nat->List Sh}{σ σ':Au}{L L':Lay}
theorem SC(hA:Cm H w n0 g0 σ L){own:Nat->Prop}{V:Tg->Prop}(hown:∀b,own b↔∃t,V t/\L.blk σ.rs.length t=ak b)(hW:Du ⟨w,own,H⟩ H' w')(hH:H.le H')
  (hV:V .au/\V .tx/\V .KC/\V .bu/\V .ob) (hV2:∀i,V (.rc i)↔V (.de i))
  (au:w'.heap[L'.p]?=ak (.cells #[L'.v0,.int .i64 σ'.many,L'.v2,.map (ak L'.b1),.map (ak L'.b2)] 181 (0,0))) (ob:∃xs,w'.ownsRow 0 140 2 L'.v0 n0 xs/\Bq H' 2 n0 g0 xs)
  (tx:w'.ownsRow 0 182 1 L'.v2 σ'.rs.length ((aY σ'.rs.length).map fun i=>CX (L'.R i)))
  (KC:∃ms clk,w'.heap[L'.b1]?=ak (.map ms clk)/\Ew .i64 ms.toList clk fun k=>(σ'.Jz k).map fun i=>CX (L'.R i))
  (bu:∃ms clk,w'.heap[L'.b2]?=ak (.map ms clk)/\Ew .i64 ms.toList clk fun k=>(σ'.Lc k).map fun i=>CX (L'.R i))
  (rcV:∀i r,σ'.rs[i]?=ak r->V (.rc i)->w'.heap[L'.R i]?=ak (.cells (Xf r (L'.D i)) 184 (0,0))/\w'.ownsRow 0 197 8 (L'.D i) r.zK.length (r.zK.flatMap deV))
  (old:∀i r,σ'.rs[i]?=ak r->¬V (.rc i)->σ.rs[i]?=ak r/\L'.R i=L.R i/\L'.D i=L.D i)
  (ak0:∀t b,V t->L'.blk σ'.rs.length t=ak b->H' b=aK/\(w.heap.size<=b\/own b))
  (aye:∀s t b,V s->V t->L'.blk σ'.rs.length s=ak b->L'.blk σ'.rs.length t=ak b->s=t) :
  Cm H' w' n0 g0 σ' L'/\∀t b,L'.blk σ'.rs.length t=ak b->w.heap.size<=b\/∃t',L.blk σ.rs.length t'=ak b:=by
 have Xg:∀t b,¬V t->L'.blk σ'.rs.length t=ak b->L.blk σ.rs.length t=ak b:=fun t b hv hb=>by
  cases t with
  |au=>simp_all |tx=>simp_all |KC=>simp_all |bu=>simp_all |ob=>simp_all |rc i=>
   simp only[fQ] at hb ⊢;split at hb
   ·rename_i hi
    obtain ⟨o1,o2,o3⟩:=old i _ (aV hi) hv;grind
   ·cases hb
  |de i=>
   simp only[fQ] at hb ⊢;split at hb
   ·rename_i hi
    obtain ⟨o1,o2,o3⟩:=old i _ (aV hi) fun q=>hv ((hV2 i).1 q);grind
   ·cases hb
 have asi:∀t b,¬V t->L.blk σ.rs.length t=ak b->¬own b:=fun t b hv hb ho=>by
  obtain ⟨t',h1,h2⟩:=(hown b).1 ho;have:=hA.Fg _ _ _ hb h2;simp_all
 have kept:∀t b,¬V t->L.blk σ.rs.length t=ak b->w'.heap[b]?=w.heap[b]?:=fun t b hv hb=>hW.kept b (hA.lt hb) (asi t b hv hb);refine ⟨⟨au,ob,tx,KC,bu,fun i r hi=>?_,fun i r hi=>?_,fun s t b hs ht=>?_,fun t b hb=>?_⟩,fun t b hb=>?_⟩
 ·by_cases hv:V (.rc i)
  ·simp_all
  ·obtain ⟨o1,o2,o3⟩:=old i r hi hv
   rw[o2,o3,kept (.rc i) _ hv (by grind [fQ,bW])];exact hA.rc i r o1
 ·by_cases hv:V (.rc i)
  ·simp_all
  ·obtain ⟨o1,o2,o3⟩:=old i r hi hv
   rw[o3];refine Fh (hA.de i r o1) fun b hb=>kept (.de i) b (fun q=>hv ((hV2 i).2 q)) ?_;grind [fQ,bW]
 ·by_cases vs:V s<;>by_cases vt:V t
  ·grind
  ·exfalso
   have h1:=Xg t b vt ht;rcases (ak0 s b vs hs).2 with q|q
   ·have:=hA.lt h1;omega
   grind
  ·exfalso
   have h1:=Xg s b vs hs;rcases (ak0 t b vt ht).2 with q|q
   ·have:=hA.lt h1;omega
   grind
  ·exact hA.Fg s t b (Xg s b vs hs) (Xg t b vt ht)
 ·by_cases hv:V t
  ·grind
  ·have h1:=Xg t b hv hb
   cases hx:H' b with
   |none=>rfl |some o=>
    rcases hW.fresh b (by rw[hx];simp) with q|q|q
    ·exact (q (hA.un t b h1)).elim
    ·have:=hA.lt h1
     grind
    grind
 grind
end
open Go.AL Go.zM
def Iq(σ:Au)(L:Lay):Int->Option Value:=fun k=>(σ.Jz k).map fun i=>CX (L.R i)
def Ia(σ:Au)(L:Lay):Int->Option Value:=fun k=>(σ.Lc k).map fun i=>CX (L.R i)
def HY(L:Lay)(i:Option Nat):Env:=fun id=>match id with
 |0=>ak (CX L.p) |1=>ak L.v2 |2=>ak (.map (ak L.b1)) |3=>ak (.map (ak L.b2)) |4=>i.map fun i=>CX (L.R i) |5=>i.map fun i=>L.D i |6=>ak L.v0 |_=>aK
def Vw(i:Option Nat):Tg->Prop
 | .rc j=>i=ak j | .de j=>i=ak j |_=>True
def Uj(i:Nat):Nat->Tg
 |0=>.au |1=>.tx |2=>.KC |3=>.bu |4=>.rc i |5=>.de i |_=>.ob
def axz:Tg->Nat
 | .au=>0 | .tx=>1 | .KC=>2 | .bu=>3 | .rc _=>4 | .de _=>5 | .ob=>6
theorem aqb{i a:Nat}(h:a<7):axz (Uj i a)=a:=by
 match a,h with
 |0,_|1,_|2,_|3,_|4,_|5,_|6,_=>rfl |a+7,h=>omega
theorem adO{i a b:Nat}(ha:a<7)(hb:b<7)(h:Uj i a=Uj i b):a=b:=by
 grind [aqb]
section
variable{H H':Mem}{E E':Env}{w w':World}{n:Nat}{o:Nat->Oj}{σ σ':Au}{L L':Lay}
def Js(n:Nat)(o:Nat->Oj)(σ:Au)(L:Lay)(f1 f2:List (Int×Bool×SV)):List (Nat×SB):=hpA n σ.rs.length o σ.many (FV L.R) (Iq σ L) (Ia σ L) f1 f2
theorem aqc(hA:Cm H w n (zH o) σ L)(i:Option Nat){own:Nat->Prop}(hown:∀t b,Vw i t->L.blk σ.rs.length t=ak b->own b){f1 f2:List (Int×Bool×SV)}{v1 v2:List (Int×Option Value)}(h1:FD H (HY L i) f1 v1)(h2:FD H (HY L i) f2 v2)
  (m1:∀k u,(k,u)∈v1->Iq σ L k=u) (m2:∀k u,(k,u)∈v2->Ia σ L k=u):∀id sb,zI (Js n o σ L f1 f2) id=ak sb->FH ⟨w,own,H⟩ H (HY L i) w id sb/\(id<4\/id=6)/\∀b,Ag (HY L i) id sb=ak b->L.blk σ.rs.length (Uj 0 id)=ak b:=by
 intro id sb hl;have mine:∀t b,Vw i t->L.blk σ.rs.length t=ak b->Mine ⟨w,own,H⟩ H b:=fun t b hv hb=>⟨hA.un t b hb,.inr (hown t b hv hb)⟩;match id,hl with
 |0,hl=>
  cases hl;exact ⟨⟨L.p,_,rfl,hA.au,⟨⟨rfl,(let ⟨_,h1,_⟩:=hA.ob;I4 h1)⟩,rfl,⟨rfl,I4 hA.tx⟩,⟨_,rfl,rfl⟩,⟨_,rfl,rfl⟩,trivial⟩,mine .au _ trivial rfl⟩,by decide,fun b hb=>hb⟩
 |1,hl=>
  cases hl;exact ⟨⟨L.v2,_,rfl,hA.tx,ame _ _,fun b hb=>mine .tx b trivial hb⟩,by decide,fun b hb=>hb⟩
 |2,hl=>
  cases hl;obtain ⟨ms,clk,a1,a2⟩:=hA.KC;exact ⟨⟨L.b1,ms,clk,v1,[],rfl,a1,h1,trivial,m1,a2,trivial,mine .KC _ trivial rfl⟩,by decide,fun b hb=>hb⟩
 |3,hl=>
  cases hl;obtain ⟨ms,clk,a1,a2⟩:=hA.bu;exact ⟨⟨L.b2,ms,clk,v2,[],rfl,a1,h2,trivial,m2,a2,trivial,mine .bu _ trivial rfl⟩,by decide,fun b hb=>hb⟩
 |6,hl=>
  cases hl;obtain ⟨xs,a1,a2⟩:=hA.ob;exact ⟨⟨L.v0,xs,rfl,a1,a2,fun b hb=>mine .ob b trivial hb⟩,by decide,fun b hb=>hb⟩
 |4,hl=>simp[Js,hpA,zI] at hl |5,hl=>simp[Js,hpA,zI] at hl |id+7,hl=>simp[Js,hpA,zI] at hl
theorem ajz{n:Nat}{o:Nat->Oj}{σ:Au}{L:Lay}{f1 f2:List (Int×Bool×SV)}{r:Rc}{id:Nat}{sb:SB}(h:zI (Js n o σ L f1 f2++EL r) id=ak sb):
  zI (Js n o σ L f1 f2) id=ak sb\/(id=4/\sb=.box [.sym .i64 r.id,.sym .i64 r.th,.sym .i64 r.st,.sym .i64 r.bg,.sym .i64 r.en,.sym .i64 r.tr,.gs 5,.sym .i64 r.stand] 184)\/(id=5/\sb=.own 197 8 r.zK.length (zH (nth r.zK))):=by
 match id,h with
 |0,h=>exact .inl h |1,h=>exact .inl h |2,h=>exact .inl h |3,h=>exact .inl h |4,h=>cases h;simp |5,h=>cases h;simp |6,h=>exact .inl h |id+7,h=>simp[Js,hpA,EL,hpR,zI] at h
theorem asj{i j id:Nat}(h:id<4\/id=6):Uj i id=Uj j id:=by
 match id,h with
 |0,_|1,_|2,_|3,_|6,_=>rfl |4,h=>omega |5,h=>omega |id+7,h=>omega
theorem amf(hA:Cm H w n (zH o) σ L){i:Nat}{r:Rc}(hi:σ.rs[i]?=ak r){own:Nat->Prop}(hown:∀t b,Vw (ak i) t->L.blk σ.rs.length t=ak b->own b){f1 f2:List (Int×Bool×SV)}{v1 v2:List (Int×Option Value)}
  (h1:FD H (HY L (ak i)) f1 v1) (h2:FD H (HY L (ak i)) f2 v2) (m1:∀k u,(k,u)∈v1->Iq σ L k=u) (m2:∀k u,(k,u)∈v2->Ia σ L k=u) :
  zU ⟨w,own,H⟩ H (HY L (ak i)) w (Js n o σ L f1 f2++EL r):=by
 have hlt:=(bW.1 hi).1;have key:∀id sb,zI (Js n o σ L f1 f2++EL r) id=ak sb->FH ⟨w,own,H⟩ H (HY L (ak i)) w id sb/\id<7/\∀b,Ag (HY L (ak i)) id sb=ak b->L.blk σ.rs.length (Uj i id)=ak b:=fun id sb hl=>by
  rcases ajz hl with hl|⟨rfl,rfl⟩ |⟨rfl,rfl⟩
  ·grind [aqc,asj]
  ·have hb:L.blk σ.rs.length (.rc i)=ak (L.R i):=by simp[fQ,hlt]
   exact ⟨⟨L.R i,_,rfl,hA.rc i r hi,⟨rfl,rfl,rfl,rfl,rfl,rfl,⟨rfl,I4 (hA.de i r hi)⟩,rfl,trivial⟩,⟨hA.un _ _ hb,.inr (hown (.rc i) _ rfl hb)⟩⟩,by decide,fun b hb'=>by
    cases hb';exact hb⟩
  ·have hb:∀b,zT (L.D i)=ak b->L.blk σ.rs.length (.de i)=ak b:=fun b hb=>by grind [fQ]
   exact ⟨⟨L.D i,_,rfl,hA.de i r hi,Zi _,fun b hb'=>⟨hA.un _ _ (hb b hb'),.inr (hown (.de i) _ rfl (hb b hb'))⟩⟩,by decide,fun b hb'=>hb b hb'⟩
 refine ⟨fun id sb hl=>(key id sb hl).1,fun id id' sb sb' b l1 l2 o1 o2=>?_⟩;obtain ⟨_,a1,a2⟩:=key id sb l1;obtain ⟨_,b1,b2⟩:=key id' sb' l2;exact adO a1 b1 (hA.Fg _ _ _ (a2 b o1) (b2 b o2))
theorem abT(hA:Cm H w n (zH o) σ L){own:Nat->Prop}(hown:∀t b,Vw aK t->L.blk σ.rs.length t=ak b->own b){f1 f2:List (Int×Bool×SV)}{v1 v2:List (Int×Option Value)}
  (h1:FD H (HY L aK) f1 v1) (h2:FD H (HY L aK) f2 v2) (m1:∀k u,(k,u)∈v1->Iq σ L k=u) (m2:∀k u,(k,u)∈v2->Ia σ L k=u) :
  zU ⟨w,own,H⟩ H (HY L aK) w (Js n o σ L f1 f2):=by
 have key:=aqc hA aK hown h1 h2 m1 m2;refine ⟨fun id sb hl=>(key id sb hl).1,fun id id' sb sb' b l1 l2 o1 o2=>?_⟩;obtain ⟨_,a1,a2⟩:=key id sb l1;obtain ⟨_,b1,b2⟩:=key id' sb' l2;exact adO (i:=0) (by omega) (by omega) (hA.Fg _ _ _ (a2 b o1) (b2 b o2))
theorem aqd(hA:Cm H w n (zH o) σ L){i:Nat}{r:Rc}(hi:σ.rs[i]?=ak r){f1 f2:List (Int×Bool×SV)}(b:Nat):
  KL (HY L (ak i)) (Js n o σ L f1 f2++EL r) b↔∃t,Vw (ak i) t/\L.blk σ.rs.length t=ak b:=by
 have hlt:=(bW.1 hi).1;constructor
 ·rintro ⟨id,sb,hl,hb⟩
  match id,hl with
  |0,hl=>cases hl;exact ⟨.au,trivial,hb⟩ |1,hl=>cases hl;exact ⟨.tx,trivial,hb⟩ |2,hl=>cases hl;exact ⟨.KC,trivial,hb⟩ |3,hl=>cases hl;exact ⟨.bu,trivial,hb⟩ |4,hl=>cases hl;exact ⟨.rc i,rfl,by cases hb;simp[fQ,hlt]⟩ |5,hl=>cases hl;exact ⟨.de i,rfl,by simp only[fQ,if_pos hlt];exact hb⟩ |6,hl=>cases hl;exact ⟨.ob,trivial,hb⟩ |id+7,hl=>simp[Js,hpA,EL,hpR,zI] at hl
 ·rintro ⟨t,hv,hb⟩
  cases t with
  |au=>exact ⟨0,_,rfl,hb⟩ |tx=>exact ⟨1,_,rfl,hb⟩ |KC=>exact ⟨2,_,rfl,hb⟩ |bu=>exact ⟨3,_,rfl,hb⟩ |ob=>exact ⟨6,_,rfl,hb⟩ |rc j=>
   cases hv;simp only[fQ,if_pos hlt] at hb;exact ⟨4,_,rfl,hb⟩
  |de j=>
   cases hv;simp only[fQ,if_pos hlt] at hb;exact ⟨5,_,rfl,hb⟩
theorem adP{f1 f2:List (Int×Bool×SV)}(b:Nat):
  KL (HY L aK) (Js n o σ L f1 f2) b↔∃t,Vw aK t/\L.blk σ.rs.length t=ak b:=by
 constructor
 ·rintro ⟨id,sb,hl,hb⟩
  match id,hl with
  |0,hl=>cases hl;exact ⟨.au,trivial,hb⟩ |1,hl=>cases hl;exact ⟨.tx,trivial,hb⟩ |2,hl=>cases hl;exact ⟨.KC,trivial,hb⟩ |3,hl=>cases hl;exact ⟨.bu,trivial,hb⟩ |4,hl=>simp[Js,hpA,zI] at hl |5,hl=>simp[Js,hpA,zI] at hl |6,hl=>cases hl;exact ⟨.ob,trivial,hb⟩ |id+7,hl=>simp[Js,hpA,zI] at hl
 ·rintro ⟨t,hv,hb⟩
  cases t with
  |au=>exact ⟨0,_,rfl,hb⟩ |tx=>exact ⟨1,_,rfl,hb⟩ |KC=>exact ⟨2,_,rfl,hb⟩ |bu=>exact ⟨3,_,rfl,hb⟩ |ob=>exact ⟨6,_,rfl,hb⟩ |rc j=>cases hv |de j=>cases hv
end
open Go.AL Go.zM
section
variable{H H':Mem}{E E':Env}{w w':World}{n:Nat}{o:Nat->Oj}{σ σ':Au}{L L':Lay}
theorem Pq{r:List (Int×Option Value)}(h:FD H E [] r):r=[]:=by
 cases r with
 |nil=>rfl |cons _ _=>exact h.elim
theorem amg{t:Int}{x:SV}{r:List (Int×Option Value)}(h:FD H E [(t,ay,x)] r):r=[(t,aK)]:=by
 match r,h with
 |[(k,o)],⟨h1,h2,_⟩=>
  grind
 |[],h=>exact h.elim |(_,_)::_::_,⟨_,_,h⟩=>exact h.elim
def ahB(σ σ':Au)(us:List (Int×Bool×SV)):Prop:=
 (us=[]/\∀k,σ'.Lc k=σ.Lc k)\/∃t x,us=[(t,ay,x)]/\∀k,σ'.Lc k=if k=t then aK else σ.Lc k
theorem ajA{own:Nat->Prop}(hA:Cm H w n (zH o) σ L){i:Nat}{r0:Rc}(hi:σ.rs[i]?=ak r0)(hown:∀b,own b↔∃t,Vw (ak i) t/\L.blk σ.rs.length t=ak b)
  {e:Ev} {many':Nat} {r:Rc} {us:List (Int×Bool×SV)} (hh:zU ⟨w,own,H⟩ H' E' w' (DY n σ.rs.length o (FV L.R) (Iq σ L) (Ia σ L) e many' r us).hp) (hW:Du ⟨w,own,H⟩ H' w') (hH:H.le H')
  (h0:E' 0=ak (CX L.p)) (h4:E' 4=ak (CX (L.R i))) (hby:∀k,(⟨many',σ.rs.set i r⟩:Au).Jz k=σ.Jz k) (hbu:ahB σ ⟨many',σ.rs.set i r⟩ us) :
  ∃L',Cm H' w' n (zH o) ⟨many',σ.rs.set i r⟩ L'/\L'.p=L.p/\∀t b,L'.blk (σ.rs.set i r).length t=ak b->w.heap.size<=b\/∃t',L.blk σ.rs.length t'=ak b:=by
 have hlt:=(bW.1 hi).1;obtain ⟨p,⟨cs⟩,p1,p2,p3,p4⟩:=hh.ent 0 _ rfl;match cs,p3 with
 |[u0,u1,u2,u3,u4],⟨d0,d1,d2,d3,d4,_⟩=>
  have d1:u1=.int .i64 many':=d1;obtain ⟨d0,_⟩:E' 6=ak u0/\_:=d0;obtain ⟨d2,_⟩:E' 1=ak u2/\_:=d2;obtain ⟨b1,d3,d3'⟩:=d3;obtain ⟨b2,d4,d4'⟩:=d4;subst d1 d3' d4';rw[h0] at p1;have hp:L.p=p:=by
   grind [dw,CX]
  subst hp;have hob:∃xs,w'.ownsRow 0 140 2 u0 n xs/\Bq H' 2 n (zH o) xs:=by
   obtain ⟨v,xs,x1,x2,x3,_⟩:=hh.ent 6 _ rfl;grind
  obtain ⟨v2,xs,q1,q2,q3,q4⟩:=hh.ent 1 _ rfl;rw[d2] at q1;cases q1;obtain rfl:=Qx q3;obtain ⟨b1',ms1,Xh,fv1,uv1,s1,s2,s3,s4,s5,s6,_,s7⟩:=hh.ent 2 _ rfl;rw[d3] at s1;cases s1;obtain rfl:=Pq s4;obtain ⟨b2',ms2,Xi,fv2,uv2,t1,t2,t3,t4,t5,t6,_,t7⟩:=hh.ent 3 _ rfl;rw[d4] at t1;cases t1;obtain ⟨pr,⟨cr⟩,r1,r2,r3,r4⟩:=hh.ent 4 _ rfl;rw[h4] at r1;have hpr:L.R i=pr:=by
   grind [dw,CX]
  subst hpr;match cr,r3 with
  |[c0,c1,c2,c3,c4,c5,c6,c7],⟨e0,e1,e2,e3,e4,e5,e6,e7,_⟩=>
   have e0:c0=.int .i64 r.id:=e0;have e1:c1=.int .i64 r.th:=e1;have e2:c2=.int .i64 r.st:=e2;have e3:c3=.int .i64 r.bg:=e3;have e4:c4=.int .i64 r.en:=e4;have e5:c5=.int .i64 r.tr:=e5;have e7:c7=.int .i64 r.stand:=e7;obtain ⟨e6,_⟩:E' 5=ak c6/\_:=e6;subst e0 e1 e2 e3 e4 e5 e7;obtain ⟨vd,xd,g1,g2,g3,g4⟩:=hh.ent 5 _ rfl;rw[e6] at g1;cases g1;obtain rfl:=abS g3;let L':Lay:=⟨L.p,u0,u2,b1,b2,L.R,fun j=>if j=i then c6 else L.D j⟩
   have hlen:(σ.rs.set i r).length=σ.rs.length:=by simp
   have hbl:∀t b,Vw (ak i) t->L'.blk (σ.rs.set i r).length t=ak b->∃id sb,id<7/\Uj i id=t/\zI (DY n σ.rs.length o (FV L.R) (Iq σ L) (Ia σ L) e many' r us).hp id=ak sb/\Ag E' id sb=ak b:=fun t b hv hb=>by
    cases t with
    |au=>exact ⟨0,_,by decide,rfl,rfl,by simp only[Ag,h0];exact hb⟩ |tx=>exact ⟨1,_,by decide,rfl,rfl,by simp only[Ag,d2];exact hb⟩ |KC=>exact ⟨2,_,by decide,rfl,rfl,by simp only[Ag,d3];exact hb⟩ |bu=>exact ⟨3,_,by decide,rfl,rfl,by simp only[Ag,d4];exact hb⟩ |ob=>exact ⟨6,_,by decide,rfl,rfl,by simp only[Ag,d0];exact hb⟩ |rc j=>
     cases hv;refine ⟨4,_,by decide,rfl,rfl,?_⟩;simp only[fQ,hlen,if_pos hlt] at hb;simp only[Ag,h4];exact hb
    |de j=>
     cases hv;refine ⟨5,_,by decide,rfl,rfl,?_⟩;simp only[fQ,hlen,if_pos hlt,L'] at hb;simp_all [Ag]
   have mk:=SC (H':=H') (w':=w') (σ':=⟨many',σ.rs.set i r⟩) (L':=L') hA hown hW hH ⟨trivial,trivial,trivial,trivial,trivial⟩ (fun _=>yG) p2 hob (by grind)
    ⟨ms1,Xh,s2,by
     have:(fun k=>((⟨many',σ.rs.set i r⟩:Au).Jz k).map fun i=>CX (L'.R i))=TS (Iq σ L) []:=by
      funext k;rw[hby k];rfl
     simp_all⟩
    ⟨ms2,Xi,t2,by
     have:(fun k=>((⟨many',σ.rs.set i r⟩:Au).Lc k).map fun i=>CX (L'.R i))=TS (Ia σ L) uv2:=by
      rcases hbu with ⟨rfl,hb⟩ |⟨t,x,rfl,hb⟩
      ·obtain rfl:=Pq t4
       funext k;rw[hb k];rfl
      ·obtain rfl:=amg t4
       funext k;rw[hb k];simp only[TS];grind [Ia]
     simp_all⟩
    (fun j rj hj hv=>by
     cases hv;have:rj=r:=by
      simp_all
     subst this;simp only[L',if_true];exact ⟨r2,g2⟩)
    (fun j rj hj hv=>by
     have hne:¬j=i:=fun q=>hv (by rw[q];exact rfl);grind)
    (fun t b hv hb=>by
     obtain ⟨id,sb,_,_,a3,a4⟩:=hbl t b hv hb;exact ⟨((hh.ent _ _ a3).lt a4).2.1,((hh.ent _ _ a3).lt a4).2.2⟩)
    (fun s t b hs ht bs bt=>by
     obtain ⟨id,sb,a1,a2,a3,a4⟩:=hbl s b hs bs;obtain ⟨id',sb',b1,b2,b3,b4⟩:=hbl t b ht bt;have:=hh.Fg _ _ _ _ _ a3 b3 a4 b4;simp_all)
   grind
end
open Go.AL Go.zM
section
variable{H H':Mem}{E E':Env}{w w':World}{n:Nat}{o:Nat->Oj}{σ σ':Au}{L L':Lay}
theorem ahC{own:Nat->Prop}(hA:Cm H w n (zH o) σ L)(hown:∀b,own b↔∃t,Vw aK t/\L.blk σ.rs.length t=ak b)
  {f1 f2:List (Int×Bool×SV)} (hh:zU ⟨w,own,H⟩ H' E' w' (toN n σ.rs.length o σ.many (FV L.R) (Iq σ L) (Ia σ L) f1 f2).hp) (hW:Du ⟨w,own,H⟩ H' w') (hH:H.le H')
  (h0:E' 0=ak (CX L.p)) :
  ∃L',Cm H' w' n (zH o) σ L'/\L'.p=L.p/\∀t b,L'.blk σ.rs.length t=ak b->w.heap.size<=b\/∃t',L.blk σ.rs.length t'=ak b:=by
 obtain ⟨p,⟨cs⟩,p1,p2,p3,p4⟩:=hh.ent 0 _ rfl;match cs,p3 with
 |[u0,u1,u2,u3,u4],⟨d0,d1,d2,d3,d4,_⟩=>
  have d1:u1=.int .i64 σ.many:=d1;obtain ⟨d0,_⟩:E' 6=ak u0/\_:=d0;obtain ⟨d2,_⟩:E' 1=ak u2/\_:=d2;obtain ⟨b1,d3,d3'⟩:=d3;obtain ⟨b2,d4,d4'⟩:=d4;subst d1 d3' d4';rw[h0] at p1;have hp:L.p=p:=by
   grind [dw,CX]
  subst hp;have hob:∃xs,w'.ownsRow 0 140 2 u0 n xs/\Bq H' 2 n (zH o) xs:=by
   obtain ⟨v,xs,x1,x2,x3,_⟩:=hh.ent 6 _ rfl;grind
  obtain ⟨v2,xs,q1,q2,q3,q4⟩:=hh.ent 1 _ rfl;rw[d2] at q1;cases q1;obtain rfl:=Qx q3;obtain ⟨b1',ms1,Xh,fv1,uv1,s1,s2,s3,s4,s5,s6,_,s7⟩:=hh.ent 2 _ rfl;rw[d3] at s1;cases s1;obtain rfl:=Pq s4;obtain ⟨b2',ms2,Xi,fv2,uv2,t1,t2,t3,t4,t5,t6,_,t7⟩:=hh.ent 3 _ rfl;rw[d4] at t1;cases t1;obtain rfl:=Pq t4;let L':Lay:=⟨L.p,u0,u2,b1,b2,L.R,L.D⟩
  have hbl:∀t b,Vw aK t->L'.blk σ.rs.length t=ak b->∃id sb,id<7/\Uj 0 id=t/\zI (toN n σ.rs.length o σ.many (FV L.R) (Iq σ L) (Ia σ L) f1 f2).hp id=ak sb/\Ag E' id sb=ak b:=fun t b hv hb=>by
   cases t with
   |au=>exact ⟨0,_,by decide,rfl,rfl,by simp only[Ag,h0];exact hb⟩ |tx=>exact ⟨1,_,by decide,rfl,rfl,by simp only[Ag,d2];exact hb⟩ |KC=>exact ⟨2,_,by decide,rfl,rfl,by simp only[Ag,d3];exact hb⟩ |bu=>exact ⟨3,_,by decide,rfl,rfl,by simp only[Ag,d4];exact hb⟩ |ob=>exact ⟨6,_,by decide,rfl,rfl,by simp only[Ag,d0];exact hb⟩ |rc j=>cases hv |de j=>cases hv
  have mk:=SC (H':=H') (w':=w') (σ':=σ) (L':=L') hA hown hW hH ⟨trivial,trivial,trivial,trivial,trivial⟩ (fun _=>yG) p2 hob q2 ⟨ms1,Xh,s2,s6⟩ ⟨ms2,Xi,t2,t6⟩
   (fun j rj hj hv=>by cases hv) (fun j rj hj hv=>⟨hj,rfl,rfl⟩)
   (fun t b hv hb=>by
    obtain ⟨id,sb,_,_,a3,a4⟩:=hbl t b hv hb;exact ⟨((hh.ent _ _ a3).lt a4).2.1,((hh.ent _ _ a3).lt a4).2.2⟩)
   (fun s t b hs ht bs bt=>by
    obtain ⟨id,sb,a1,a2,a3,a4⟩:=hbl s b hs bs;obtain ⟨id',sb',b1,b2,b3,b4⟩:=hbl t b ht bt;have:=hh.Fg _ _ _ _ _ a3 b3 a4 b4;simp_all)
  grind
theorem adQ{t:Int}{x y:SV}{r:List (Int×Option Value)}(h:FD H E [(t,aC,x),(t,aC,y)] r):∃u v,r=[(t,ak u),(t,ak v)]/\Den H E x u:=by
 match r,h with
 |[(k,p),(k',q)],⟨h1,h2,h3,h4,_⟩=>
  grind
 |[],h=>exact h.elim |[(_,_)],⟨_,_,h⟩=>exact h.elim |(_,_)::(_,_)::_::_,⟨_,_,_,_,h⟩=>exact h.elim
theorem Zj{α:Type}{p:α->Bool}{l:List α}{i:Nat}(h:l.findIdx? p=ak i):i<l.length:=by
 simp_all [List.findIdx?_eq_some_iff_findIdx_eq]
theorem ajB{own:Nat->Prop}(hA:Cm H w n (zH o) σ L)(hown:∀b,own b↔∃t,Vw aK t/\L.blk σ.rs.length t=ak b)
  {e:Ev} {many':Nat} {r:Rc} (hd:r.zK=[]) (hh:zU ⟨w,own,H⟩ H' E' w' (toB n σ.rs.length o (FV L.R) (Iq σ L) (Ia σ L) e many' r.id r.th r.st r.bg r.en r.tr r.stand).hp) (hW:Du ⟨w,own,H⟩ H' w') (hH:H.le H')
  (h0:E' 0=ak (CX L.p)) (hby:∀k,(⟨many',σ.rs++[r]⟩:Au).Jz k=if k=e.tx then ak σ.rs.length else σ.Jz k) (hbu:∀k,(⟨many',σ.rs++[r]⟩:Au).Lc k=if k=e.thread then ak σ.rs.length else σ.Lc k) :
  ∃L',Cm H' w' n (zH o) ⟨many',σ.rs++[r]⟩ L'/\L'.p=L.p/\∀t b,L'.blk (σ.rs++[r]).length t=ak b->w.heap.size<=b\/∃t',L.blk σ.rs.length t'=ak b:=by
 obtain ⟨p,⟨cs⟩,p1,p2,p3,p4⟩:=hh.ent 0 _ rfl;match cs,p3 with
 |[u0,u1,u2,u3,u4],⟨d0,d1,d2,d3,d4,_⟩=>
  have d1:u1=.int .i64 many':=d1;obtain ⟨d0,_⟩:E' 6=ak u0/\_:=d0;obtain ⟨d2,_⟩:E' 1=ak u2/\_:=d2;obtain ⟨b1,d3,d3'⟩:=d3;obtain ⟨b2,d4,d4'⟩:=d4;subst d1 d3' d4';rw[h0] at p1;have hp:L.p=p:=by
   grind [dw,CX]
  subst hp;obtain ⟨pr,⟨cr⟩,r1,r2,r3,r4⟩:=hh.ent 4 _ rfl;have aqe:∀{u:Value},Den H' E' (.ptr 4 0) u->u=CX pr:=fun {u} h=>by
   obtain ⟨b,h1,h2⟩:=h;rw[r1] at h1;cases h1;exact h2
  have hob:∃xs,w'.ownsRow 0 140 2 u0 n xs/\Bq H' 2 n (zH o) xs:=by
   obtain ⟨v,xs,x1,x2,x3,_⟩:=hh.ent 6 _ rfl;grind
  obtain ⟨v2,xs,ys,q1,q2,q3,q5,_,_,q4⟩:=hh.ent 1 _ rfl;rw[d2] at q1;cases q1;obtain rfl:=Qx q3;match ys,q5 with
  |[y],⟨q5,_⟩=>
  obtain rfl:=aqe q5;obtain ⟨b1',ms1,Xh,fv1,uv1,s1,s2,s3,s4,s5,s6,_,s7⟩:=hh.ent 2 _ rfl;rw[d3] at s1;cases s1;obtain ⟨x1,x2,rfl,x3⟩:=adQ s4;obtain rfl:=aqe x3;obtain ⟨b2',ms2,Xi,fv2,uv2,t1,t2,t3,t4,t5,t6,_,t7⟩:=hh.ent 3 _ rfl;rw[d4] at t1;cases t1;obtain ⟨y1,y2,rfl,y3⟩:=adQ t4;obtain rfl:=aqe y3;match cr,r3 with
  |[c0,c1,c2,c3,c4,c5,c6,c7],⟨e0,e1,e2,e3,e4,e5,e6,e7,_⟩=>
   have e0:c0=.int .i64 r.id:=e0;have e1:c1=.int .i64 r.th:=e1;have e2:c2=.int .i64 r.st:=e2;have e3:c3=.int .i64 r.bg:=e3;have e4:c4=.int .i64 r.en:=e4;have e5:c5=.int .i64 r.tr:=e5;have e6:c6=.slice aK 0 0:=e6;have e7:c7=.int .i64 r.stand:=e7;subst e0 e1 e2 e3 e4 e5 e6 e7;let L':Lay:=⟨L.p,u0,u2,b1,b2,fun j=>if j=σ.rs.length then pr else L.R j,fun j=>if j=σ.rs.length then .slice aK 0 0 else L.D j⟩
   have hlen:(σ.rs++[r]).length=σ.rs.length+1:=by simp
   have hown':∀b,own b↔∃t,Vw (ak σ.rs.length) t/\L.blk σ.rs.length t=ak b:=fun b=>by
    rw[hown b];constructor
    ·rintro ⟨t,h1,h2⟩
     refine ⟨t,?_,h2⟩;cases t with
     |rc j=>cases h1 |de j=>cases h1 |_=>trivial
    ·rintro ⟨t,h1,h2⟩
     refine ⟨t,?_,h2⟩;cases t with
     |rc j=>cases h1;simp[fQ] at h2 |de j=>cases h1;simp[fQ] at h2 |_=>trivial
   have hbl:∀t b,Vw (ak σ.rs.length) t->L'.blk (σ.rs++[r]).length t=ak b->∃id sb,id<7/\Uj σ.rs.length id=t/\zI (toB n σ.rs.length o (FV L.R) (Iq σ L) (Ia σ L) e many' r.id r.th r.st r.bg r.en r.tr r.stand).hp id=ak sb/\Ag E' id sb=ak b:=fun t b hv hb=>by
    cases t with
    |au=>exact ⟨0,_,by decide,rfl,rfl,by simp only[Ag,h0];exact hb⟩ |tx=>exact ⟨1,_,by decide,rfl,rfl,by simp only[Ag,d2];exact hb⟩ |KC=>exact ⟨2,_,by decide,rfl,rfl,by simp only[Ag,d3];exact hb⟩ |bu=>exact ⟨3,_,by decide,rfl,rfl,by simp only[Ag,d4];exact hb⟩ |ob=>exact ⟨6,_,by decide,rfl,rfl,by simp only[Ag,d0];exact hb⟩ |rc j=>
     cases hv;refine ⟨4,_,by decide,rfl,rfl,?_⟩;simp[fQ,L'] at hb;simp only[Ag,r1];rw[<-hb];rfl
    |de j=>
     cases hv;grind [fQ,zT]
   have hR:∀j,j<σ.rs.length->L'.R j=L.R j:=fun j hj=>if_neg (by omega);have hmap:∀(f:Option Nat),(∀j,f=ak j->j<σ.rs.length)->(f.map fun i=>CX (L'.R i))=f.map fun i=>CX (L.R i):=fun f hf=>by
    cases f with
    |none=>rfl |some j=>simp_all
   have mk:=SC (H':=H') (w':=w') (σ':=⟨many',σ.rs++[r]⟩) (L':=L') hA hown' hW hH ⟨trivial,trivial,trivial,trivial,trivial⟩ (fun _=>yG) p2 hob
    (by
     grind [aY,CX,List.range_succ,List.map_congr_left])
    ⟨ms1,Xh,s2,by
     have:(fun k=>((⟨many',σ.rs++[r]⟩:Au).Jz k).map fun i=>CX (L'.R i))=TS (Iq σ L) [(e.tx,ak (CX pr)),(e.tx,ak x2)]:=by
      funext k;rw[hby k];simp only[TS];by_cases hk:k=e.tx
      ·simp[hk,L']
      ·rw[if_neg hk,if_neg hk,if_neg hk]
       exact hmap _ fun j hj=>Zj hj
     simp_all⟩
    ⟨ms2,Xi,t2,by
     have:(fun k=>((⟨many',σ.rs++[r]⟩:Au).Lc k).map fun i=>CX (L'.R i))=TS (Ia σ L) [(e.thread,ak (CX pr)),(e.thread,ak y2)]:=by
      funext k;rw[hbu k];simp only[TS];by_cases hk:k=e.thread
      ·simp[hk,L']
      ·rw[if_neg hk,if_neg hk,if_neg hk]
       exact hmap _ fun j hj=>Zj hj
     simp_all⟩
    (fun j rj hj hv=>by
     cases hv;have:rj=r:=by simp_all
     subst this;simp only[L',if_true];refine ⟨r2,?_⟩;simp_all [OY])
    (fun j rj hj hv=>by
     have hne:¬j=σ.rs.length:=fun q=>hv (by rw[q];exact rfl);grind)
    (fun t b hv hb=>by
     obtain ⟨id,sb,_,_,a3,a4⟩:=hbl t b hv hb;exact ⟨((hh.ent _ _ a3).lt a4).2.1,((hh.ent _ _ a3).lt a4).2.2⟩)
    (fun s t b hs ht bs bt=>by
     obtain ⟨id,sb,a1,a2,a3,a4⟩:=hbl s b hs bs;obtain ⟨id',sb',b1,b2,b3,b4⟩:=hbl t b ht bt;have:=hh.Fg _ _ _ _ _ a3 b3 a4 b4;simp_all)
   grind
end
end Go.Sx
namespace Go.AL
open Go Go.Sx
theorem LH{α:Type}{p:α->Bool}{x:α}:∀{l:List α} {i:Nat} {y:α},l[i]?=ak y->p x=p y->(l.set i x).findIdx? p=l.findIdx? p
 |[],_,_,h,_=>by simp at h |a::l,0,y,h,hp=>by
  simp at h;subst h;simp[iZ,hp]
 |a::l,i+1,y,h,hp=>by
  simp only[List.set_cons_succ,iZ];rw[LH (l:=l) (by simpa using h) hp]
theorem SE{α:Type}{p:α->Bool}:∀{l:List α} {i:Nat},l.findIdx? p=ak i->∃y,l[i]?=ak y/\p y=aC
 |[],_,h=>by simp at h |a::l,i,h=>by
  rw[iZ] at h;cases ha:p a with
  |true=>rw[ha] at h;simp at h;subst h;exact ⟨a,rfl,ha⟩ |false=>
   rw[ha] at h;simp at h;obtain ⟨j,hj,rfl⟩:=h;obtain ⟨y,h1,h2⟩:=SE hj;exact ⟨y,by simpa using h1,h2⟩
theorem ahD{α:Type}{p:α->Bool}{l:List α}(h:∀(i:Nat) (y:α),l[i]?=ak y->p y=ay):l.findIdx? p=aK:=by
 rw[oN];intro x hx;obtain ⟨i,hi,rfl⟩:=List.getElem_of_mem hx;exact h i _ (aV hi)
theorem Uk{α:Type}{p:α->Bool}{x:α}:∀{l:List α},(l++[x]).findIdx? p=match l.findIdx? p with|some i=>ak i|none=>if p x then ak l.length else aK
 |[]=>by simp[iZ] |a::l=>by
  simp only[List.cons_append,iZ];cases ha:p a with
  |true=>simp |false=>
   simp only[Bool.false_eq_true,if_false];rw[Uk (l:=l)];cases l.findIdx? p with
   |some i=>rfl |none=>
    cases hx:p x<;>simp
theorem avD{α:Type}{P:α->Prop}{c:Bool}{a b:α}(ha:P a)(hb:P b):P (bif c then a else b):=by
 cases c
 ·exact hb
 ·exact ha
theorem Qy{many:Nat}{e:Ev}{r r':Rc}(h:gQ many e r=.inr r'):r'.id=r.id/\r'.th=r.th:=by
 have:(fun x:Nat ⊕ Rc=>∀r',x=.inr r'->r'.id=r.id/\r'.th=r.th) (gQ many e r):=by
  unfold gQ;repeat' (refine avD (P:=fun x:Nat ⊕ Rc=>∀r',x=.inr r'->r'.id=r.id/\r'.th=r.th) ?_ ?_)
  all_goals
   intro r' h;first
    |(cases h;done)
    |(cases h;exact ⟨rfl,rfl⟩)
 exact this r' h
theorem Vk{many:Nat}{e:Ev}{r r':Rc}(h:gQ many e r=.inr r')(hk:2<=e.kind/\e.kind<=7)(hs:1<=r.stand/\r.stand<=5):r.live=aC/\(1<=r'.stand/\r'.stand<=5)/\(r'.live=aC↔¬(e.kind=5\/e.kind=6)):=by
 unfold gQ at h;unfold Rc.live;by_cases k2:e.kind=2
 ·simp only[k2,beq_self_eq_true,cond_true] at h
  by_cases q:r.stand=1
  ·simp only[q,beq_self_eq_true,cond_true] at h;cases h;simp[q];omega
  ·have:(r.stand==1)=ay:=by simpa using q
   rw[this] at h;cases h
 by_cases k3:e.kind=3
 ·simp only[k3,show ((3:Int)==2)=ay from rfl,beq_self_eq_true,cond_true,cond_false] at h
  by_cases q:r.stand=2
  ·simp only[q,beq_self_eq_true,cond_true] at h
   cases f:Qw (r.zK.getLast?.getD Row.Jl).op e.ret<;>simp only[f,cond_true,cond_false] at h<;>cases h
   simp[q];omega
  ·have:(r.stand==2)=ay:=by simpa using q
   rw[this] at h;cases h
 by_cases k4:e.kind=4
 ·simp only[k4,show ((4:Int)==2)=ay from rfl,show ((4:Int)==3)=ay from rfl,beq_self_eq_true,cond_true,cond_false] at h
  by_cases q:r.stand=1
  ·simp only[q,beq_self_eq_true,cond_true] at h;cases h;simp[q];omega
  ·have:(r.stand==1)=ay:=by simpa using q
   rw[this] at h;cases h
 by_cases k7:e.kind=7
 ·simp only[k7,show ((7:Int)==2)=ay from rfl,show ((7:Int)==3)=ay from rfl,show ((7:Int)==4)=ay from rfl,beq_self_eq_true,cond_true,cond_false] at h
  by_cases q:r.stand=1
  ·simp only[q,beq_self_eq_true,cond_true] at h;cases h;simp[q];omega
  ·have:(r.stand==1)=ay:=by simpa using q
   rw[this] at h;cases h
 by_cases k5:e.kind=5
 ·simp only[k5,show ((5:Int)==2)=ay from rfl,show ((5:Int)==3)=ay from rfl,show ((5:Int)==4)=ay from rfl,show ((5:Int)==7)=ay from rfl,beq_self_eq_true,cond_true,cond_false] at h
  by_cases q:r.stand=3
  ·simp only[q,beq_self_eq_true,cond_true] at h;cases h;simp[q];omega
  ·have:(r.stand==3)=ay:=by simpa using q
   rw[this] at h;cases h
 have k6:e.kind=6:=by omega
 simp only[k6,show ((6:Int)==2)=ay from rfl,show ((6:Int)==3)=ay from rfl,show ((6:Int)==4)=ay from rfl,show ((6:Int)==7)=ay from rfl,show ((6:Int)==5)=ay from rfl,cond_false] at h;by_cases q:r.stand=5
 ·rw[q] at h;cases h
 ·have:(r.stand==1||r.stand==2||r.stand==3||r.stand==4)=aC:=by
   simp;omega
  rw[this] at h;cases h;simp[q];omega
end Go.AL
namespace Go.zM
open Go Go.Sx Go.AL
section
variable{n m:Nat}{o:Nat->Oj}{many:Nat}{gR:Nat->List Sh}{M1 M2:Int->Option Value}
theorem amh(hm:many<400){e:Ev}(h1:0<=e.obj)(h2:e.obj<n)(h3:Dc e.op=(o e.obj.toNat).kind)(hk:e.kind=2)(hv:Bl e=aC):
  D9 (Fv [toN n m o many gR M1 M2 [(e.tx,ay,.any)] []] (fun sv k=>sv=svE (ak 11)/\k=0)) ((run (C5 zG W5 BI zV) 700 aC 79 [.code []] (LA 2 e (hpA n m o many gR M1 M2 [(e.tx,ay,.any)] []))).bind (toEnd [toN n m o many gR M1 M2 [(e.tx,ay,.any)] []])):=by
 obtain ⟨kind,tx,thread,obj,op,key,val,ret⟩:=e;have hk:kind=2:=hk;subst hk;have hw:=hm;have hroom:=hm;have h1:0<=obj:=h1;have h2:obj<n:=h2;have h3:Dc op=(o obj.toNat).kind:=h3;have ho:zG.le (zG.Aa n) obj=aC->False:=fun q=>by grind [Dy,Ad]
 have hi:zG.inB obj n=aC:=by simp[AY];omega
 have hq:zG.nt (zG.eq (Dc op) (o (zG.toN obj)).kind)=aC->False:=fun q=>by
  simp_all [Bh,Ac,BL]
 rw[avs zG W5 n m o many gR M1 M2 ⟨2,tx,thread,obj,op,key,val,ret⟩ many,BH];repeat' (first
  |exact trivial
  |exact hv
  |exact hw
  |exact hi
  |exact hroom
  |exact eqS _
  |exact rfl
  |exact fun _ _=>rfl
  |(intro q;exact (ho q).elim)
  |(intro q;exact (hq q).elim)
  |(intro q;replace q:=Nr q;omega)
  |(intro q;replace q:=eqF q;first|(exfalso;omega) |skip)
  |intro _
  |refine dh ?_ ?_)
theorem ami(hm:many<400){e:Ev}(hk:e.kind=3)(hv:Bl e=aC):
  D9 (Fv [toN n m o many gR M1 M2 [(e.tx,ay,.any)] []] (fun sv k=>sv=svE (ak 11)/\k=0)) ((run (C5 zG W5 BI zV) 700 aC 79 [.code []] (LA 3 e (hpA n m o many gR M1 M2 [(e.tx,ay,.any)] []))).bind (toEnd [toN n m o many gR M1 M2 [(e.tx,ay,.any)] []])):=by
 obtain ⟨kind,tx,thread,obj,op,key,val,ret⟩:=e;have hk:kind=3:=hk;subst hk;have hw:=hm;have hroom:=hm;have ho:=hm;have hi:=hm;have hq:=hm;rw[avt zG W5 n m o many gR M1 M2 ⟨3,tx,thread,obj,op,key,val,ret⟩ many,BH];repeat' (first
  |exact trivial
  |exact hv
  |exact hw
  |exact hi
  |exact hroom
  |exact eqS _
  |exact rfl
  |exact fun _ _=>rfl
  |(intro q;exact (ho q).elim)
  |(intro q;exact (hq q).elim)
  |(intro q;replace q:=Nr q;omega)
  |(intro q;replace q:=eqF q;first|(exfalso;omega) |skip)
  |intro _
  |refine dh ?_ ?_)
theorem amj(hm:many<400){e:Ev}(hk:e.kind=4)(hv:Bl e=aC):
  D9 (Fv [toN n m o many gR M1 M2 [(e.tx,ay,.any)] []] (fun sv k=>sv=svE (ak 11)/\k=0)) ((run (C5 zG W5 BI zV) 700 aC 79 [.code []] (LA 4 e (hpA n m o many gR M1 M2 [(e.tx,ay,.any)] []))).bind (toEnd [toN n m o many gR M1 M2 [(e.tx,ay,.any)] []])):=by
 obtain ⟨kind,tx,thread,obj,op,key,val,ret⟩:=e;have hk:kind=4:=hk;subst hk;have hw:=hm;have hroom:=hm;have ho:=hm;have hi:=hm;have hq:=hm;rw[avu zG W5 n m o many gR M1 M2 ⟨4,tx,thread,obj,op,key,val,ret⟩ many,BH];repeat' (first
  |exact trivial
  |exact hv
  |exact hw
  |exact hi
  |exact hroom
  |exact eqS _
  |exact rfl
  |exact fun _ _=>rfl
  |(intro q;exact (ho q).elim)
  |(intro q;exact (hq q).elim)
  |(intro q;replace q:=Nr q;omega)
  |(intro q;replace q:=eqF q;first|(exfalso;omega) |skip)
  |intro _
  |refine dh ?_ ?_)
theorem amk(hm:many<400){e:Ev}(hk:e.kind=5)(hv:Bl e=aC):
  D9 (Fv [toN n m o many gR M1 M2 [(e.tx,ay,.any)] []] (fun sv k=>sv=svE (ak 11)/\k=0)) ((run (C5 zG W5 BI zV) 700 aC 79 [.code []] (LA 5 e (hpA n m o many gR M1 M2 [(e.tx,ay,.any)] []))).bind (toEnd [toN n m o many gR M1 M2 [(e.tx,ay,.any)] []])):=by
 obtain ⟨kind,tx,thread,obj,op,key,val,ret⟩:=e;have hk:kind=5:=hk;subst hk;have hw:=hm;have hroom:=hm;have ho:=hm;have hi:=hm;have hq:=hm;rw[avv zG W5 n m o many gR M1 M2 ⟨5,tx,thread,obj,op,key,val,ret⟩ many,BH];repeat' (first
  |exact trivial
  |exact hv
  |exact hw
  |exact hi
  |exact hroom
  |exact eqS _
  |exact rfl
  |exact fun _ _=>rfl
  |(intro q;exact (ho q).elim)
  |(intro q;exact (hq q).elim)
  |(intro q;replace q:=Nr q;omega)
  |(intro q;replace q:=eqF q;first|(exfalso;omega) |skip)
  |intro _
  |refine dh ?_ ?_)
theorem aml(hm:many<400){e:Ev}(hk:e.kind=6)(hv:Bl e=aC):
  D9 (Fv [toN n m o many gR M1 M2 [(e.tx,ay,.any)] []] (fun sv k=>sv=svE (ak 11)/\k=0)) ((run (C5 zG W5 BI zV) 700 aC 79 [.code []] (LA 6 e (hpA n m o many gR M1 M2 [(e.tx,ay,.any)] []))).bind (toEnd [toN n m o many gR M1 M2 [(e.tx,ay,.any)] []])):=by
 obtain ⟨kind,tx,thread,obj,op,key,val,ret⟩:=e;have hk:kind=6:=hk;subst hk;have hw:=hm;have hroom:=hm;have ho:=hm;have hi:=hm;have hq:=hm;rw[avw zG W5 n m o many gR M1 M2 ⟨6,tx,thread,obj,op,key,val,ret⟩ many,BH];repeat' (first
  |exact trivial
  |exact hv
  |exact hw
  |exact hi
  |exact hroom
  |exact eqS _
  |exact rfl
  |exact fun _ _=>rfl
  |(intro q;exact (ho q).elim)
  |(intro q;exact (hq q).elim)
  |(intro q;replace q:=Nr q;omega)
  |(intro q;replace q:=eqF q;first|(exfalso;omega) |skip)
  |intro _
  |refine dh ?_ ?_)
theorem amm(hm:many<400){e:Ev}(hk:e.kind=7)(hv:Bl e=aC):
  D9 (Fv [toN n m o many gR M1 M2 [(e.tx,ay,.any)] []] (fun sv k=>sv=svE (ak 11)/\k=0)) ((run (C5 zG W5 BI zV) 700 aC 79 [.code []] (LA 7 e (hpA n m o many gR M1 M2 [(e.tx,ay,.any)] []))).bind (toEnd [toN n m o many gR M1 M2 [(e.tx,ay,.any)] []])):=by
 obtain ⟨kind,tx,thread,obj,op,key,val,ret⟩:=e;have hk:kind=7:=hk;subst hk;have hw:=hm;have hroom:=hm;have ho:=hm;have hi:=hm;have hq:=hm;rw[avx zG W5 n m o many gR M1 M2 ⟨7,tx,thread,obj,op,key,val,ret⟩ many,BH];repeat' (first
  |exact trivial
  |exact hv
  |exact hw
  |exact hi
  |exact hroom
  |exact eqS _
  |exact rfl
  |exact fun _ _=>rfl
  |(intro q;exact (ho q).elim)
  |(intro q;exact (hq q).elim)
  |(intro q;replace q:=Nr q;omega)
  |(intro q;replace q:=eqF q;first|(exfalso;omega) |skip)
  |intro _
  |refine dh ?_ ?_)
theorem aqf(hm:many<400){e:Ev}(hk:e.kind=1)(hv:Bl e=aC)(r:Rc):
  D9 (Fv [DY n m o gR M1 M2 e many r []] (fun sv k=>sv=svE (ak 9)/\k=0)) ((run (C5 zG W5 BI zV) 700 aC 79 [.code []] (LA 1 e (hpA n m o many gR M1 M2 [(e.tx,aC,.ptr 4 0)] []++EL r))).bind (toEnd [DY n m o gR M1 M2 e many r []])):=by
 obtain ⟨kind,tx,thread,obj,op,key,val,ret⟩:=e;obtain ⟨id,th,st,bg,en,tr,zK,stand⟩:=r;have hk:kind=1:=hk;subst hk;have hw:=hm;have hroom:=hm;have ho:=hm;have hi:=hm;have hq:=hm;unfold DY EL;simp only;rw[avy zG W5 n m o many gR M1 M2 ⟨1,tx,thread,obj,op,key,val,ret⟩ id th st bg en tr stand zK.length (nth zK) many id th st bg en tr stand zK.length (zH (nth zK)),BH];repeat' (first
  |exact trivial
  |exact hv
  |exact hw
  |exact hi
  |exact hroom
  |exact eqS _
  |exact rfl
  |exact fun _ _=>rfl
  |(intro q;exact (ho q).elim)
  |(intro q;exact (hq q).elim)
  |(intro q;replace q:=Nr q;omega)
  |(intro q;replace q:=eqF q;first|(exfalso;omega) |skip)
  |intro _
  |refine dh ?_ ?_)
theorem asl(hm:many<400){e:Ev}(hk:e.kind=1)(hv:Bl e=aC)(q:Nat):
  D9 (Fv [toN n m o many gR M1 M2 [(e.tx,ay,.any)] [(e.thread,aC,.val (.pointer (ak ⟨q,0,aK⟩)))]] (fun sv k=>sv=svE (ak 10)/\k=0)) ((run (C5 zG W5 BI zV) 700 aC 79 [.code []] (LA 1 e (hpA n m o many gR M1 M2 [(e.tx,ay,.any)] [(e.thread,aC,.val (.pointer (ak ⟨q,0,aK⟩)))]))).bind (toEnd [toN n m o many gR M1 M2 [(e.tx,ay,.any)] [(e.thread,aC,.val (.pointer (ak ⟨q,0,aK⟩)))]])):=by
 obtain ⟨kind,tx,thread,obj,op,key,val,ret⟩:=e;have hk:kind=1:=hk;subst hk;have hw:=hm;have hroom:=hm;have ho:=hm;have hi:=hm;have hq:=hm;rw[avz zG W5 n m o many gR M1 M2 ⟨1,tx,thread,obj,op,key,val,ret⟩ q many,BH];repeat' (first
  |exact trivial
  |exact hv
  |exact hw
  |exact hi
  |exact hroom
  |exact eqS _
  |exact rfl
  |exact fun _ _=>rfl
  |(intro q;exact (ho q).elim)
  |(intro q;exact (hq q).elim)
  |(intro q;replace q:=Nr q;omega)
  |(intro q;replace q:=eqF q;first|(exfalso;omega) |skip)
  |intro _
  |refine dh ?_ ?_)
theorem aqg(hm:many<400)(hl:m<=1000){e:Ev}(hk:e.kind=1)(hv:Bl e=aC):
  D9 (Fv [toB n m o gR M1 M2 e (many+1:Nat) e.tx e.thread 1 many (-1) (-1) 1] (fun sv k=>sv=svE aK/\k=0)) ((run (C5 zG W5 BI zV) 700 aC 79 [.code []] (LA 1 e (hpA n m o many gR M1 M2 [(e.tx,ay,.any)] [(e.thread,ay,.any)]))).bind (toEnd [toB n m o gR M1 M2 e (many+1:Nat) e.tx e.thread 1 many (-1) (-1) 1])):=by
 obtain ⟨kind,tx,thread,obj,op,key,val,ret⟩:=e;have hk:kind=1:=hk;subst hk;have hw:=wrapM hm;have hroom:zG.room (zG.addN m 1) 8=aC:=by
  show decide ((m+1)*8<=140737488355328/\m+1<=maxLen)=aC;grind [maxLen_eq,decide_eq_true]
 have ho:=hm;have hi:=hm;have hq:=hm;rw[avA zG W5 n m o many gR M1 M2 ⟨1,tx,thread,obj,op,key,val,ret⟩ (many+1:Nat) tx thread 1 many (-1) (-1) 1,BH];repeat' (first
  |exact trivial
  |exact hv
  |exact hw
  |exact hi
  |exact hroom
  |exact eqS _
  |exact rfl
  |exact fun _ _=>rfl
  |(intro q;exact (ho q).elim)
  |(intro q;exact (hq q).elim)
  |(intro q;replace q:=Nr q;omega)
  |(intro q;replace q:=eqF q;first|(exfalso;omega) |skip)
  |intro _
  |refine dh ?_ ?_)
end
open Go Go.Sx Go.AL
def aqh(H:Mem):Option Nat->Value->Prop
 |none,v=>v=.nilIface |some k,v=>Rep H (.er k 329) v
theorem abU{H:Mem}{E:Env}{x:Option Nat}{v:Value}(h:Den H E (svE x) v):aqh H x v:=by
 cases x with
 |none=>exact h |some k=>exact h
def SH(L:Lay)(k:Nat):Nat->Prop:=fun b=>∃t,L.blk k t=ak b
def Pv(H:Mem)(w:World)(n:Nat)(o:Nat->Oj)(σ:Au)(L:Lay)(x:Option Nat)(σ':Au)(en:Ending)(w':World):Prop:=
 ∃v H' L',en=.returned v/\aqh H' x v/\Cm H' w' n (zH o) σ' L'/\L'.p=L.p/\(∀t b,L'.blk σ'.rs.length t=ak b->w.heap.size<=b\/SH L σ.rs.length b)/\H.le H'/\Du ⟨w,SH L σ.rs.length,H⟩ H' w'
theorem TI{w w':World}{H H':Mem}{own own':Nat->Prop}(h:Du ⟨w,own,H⟩ H' w')(ho:∀b,own b->own' b):Du ⟨w,own',H⟩ H' w':=
 ⟨h.os,h.tape,h.output,h.size,fun b hb hn=>h.kept b hb fun q=>hn (ho b q),h.on,h.le,fun b hb=>by
  (rcases h.fresh b hb with q|q|q)<;>simp_all⟩
def Yr(e:Ev):Value:=.agg #[.int .i64 e.kind,.int .i64 e.tx,.int .i64 e.thread,.int .i64 e.obj,.int .i64 e.op,.int .i64 e.key,.int .i64 e.val,.int .i64 e.ret]
@[irreducible] def ak1 (H:Mem) (E:Env) (l:List SV) (vs:List Value):Prop:=zO H E l vs
theorem ahE{H:Mem}{E:Env}{l:List SV}{vs:List Value}:ak1 H E l vs=zO H E l vs:=by unfold ak1;rfl
theorem SI{P:Program}{C:Ctx}{H:Mem}{E:Env}{w:World}(hC:Az P C)(hF:AU P C){n g:Nat}{fn:Func}{c:Core}{args:Array Value}{ts:List QS}{φ:SV->Nat->Prop}(hfn:C.fns.get g=ak fn)(hb:fn.body.isSome=aC)
  (hd:ak1 H E c.tm (args++dN (fn.ntmps - args.size) undef).toList) (hh:zU ⟨w,KL E c.hp,H⟩ H E w c.hp) (hon:H.on w) (hfree:Free E c) (hg:BU C.gls H)
  (h:D9 (Fv ts φ) ((run C n aC g [.code []] c).bind (toEnd ts))) :
  Calls P g args w fun e w'=>∃v sv k t H' E1 E',e=.returned v/\φ sv k/\ts[k]?=ak t/\Den H' E1 sv v/\zU ⟨w,KL E c.hp,H⟩ H' E' w' t.hp/\Du ⟨w,KL E c.hp,H⟩ H' w'/\H.le H'/\∀i∈t.keep,∀u,E i=ak u->E' i=ak u:=by
 grind [ahE,aiO]
theorem aqi(a b u:Value)(k:Nat):(#[a,b]++dN k u).toList=[a,b]++dL k u:=by simp
theorem afb{H:Mem}{E:Env}{L:Lay}{e:Ev}{kind:Int}{hp:List (Nat×SB)}(hk:e.kind=kind)(h0:E 0=ak (CX L.p)):ak1 H E (LA kind e hp).tm (#[CX L.p,Yr e]++dN (iM.ntmps - #[CX L.p,Yr e].size) undef).toList:=by
 have hn:iM.ntmps=168:=by kernel_rfl
 rw[ahE,hn,aqi];have e1:(LA kind e hp).tm=[.ptr 0 0,evS kind e]++dL 166 .any:=rfl;have e3:168 - #[CX L.p,Yr e].size=166:=rfl;rw[e1,e3];refine zO.append ⟨⟨L.p,by rw[h0];rfl,rfl⟩,⟨_,rfl,⟨by rw[<-hk];rfl,rfl,rfl,rfl,rfl,rfl,rfl,rfl,trivial⟩⟩,trivial⟩ (zO.any _ _ ?_);rfl
theorem Vl{L:Lay}{i:Option Nat}{c:Core}(h:c.nx=7):Free (HY L i) c:=fun id h1 _=>by
 rw[h] at h1;match id,h1 with
 |id+7,_=>rfl
section
variable{H:Mem}{w:World}{n:Nat}{o:Nat->Oj}{σ:Au}{L:Lay}{e:Ev}
theorem JX(hA:Cm H w n (zH o) σ L)(hon:H.on w)(hg:BU (EO W5) H){i:Nat}{r:Rc}(hi:σ.rs[i]?=ak r)(hby:σ.Jz e.tx=ak i){kind:Int}(hk:e.kind=kind){ts:List QS}{φ:SV->Nat->Prop}
  (hrun:D9 (Fv ts φ) ((run (C5 zG W5 BI zV) 700 aC 79 [.code []] (LA kind e (hpA n σ.rs.length o σ.many (FV L.R) (Iq σ L) (Ia σ L) [(e.tx,aC,.ptr 4 0)] []++EL r))).bind (toEnd ts)))
  {x:Option Nat} {many':Nat} {r':Rc} (hid:r'.id=r.id)
  (hts:∀sv k t,φ sv k->ts[k]?=ak t->sv=svE x/\∃us,t=DY n σ.rs.length o (FV L.R) (Iq σ L) (Ia σ L) e many' r' us/\ahB σ ⟨many',σ.rs.set i r'⟩ us) :
  Calls aA 79 #[CX L.p,Yr e] w (Pv H w n o σ L x ⟨many',σ.rs.set i r'⟩):=by
 have hown:=aqd (f1:=[(e.tx,aC,.ptr 4 0)]) (f2:=[]) hA hi;have abV:=amf (own:=KL (HY L (ak i)) (Js n o σ L [(e.tx,aC,.ptr 4 0)] []++EL r)) hA hi (fun t b h1 h2=>(hown b).2 ⟨t,h1,h2⟩) (f1:=[(e.tx,aC,.ptr 4 0)]) (f2:=[]) (v1:=[(e.tx,ak (CX (L.R i)))]) (v2:=[])
  ⟨rfl,⟨⟨L.R i,rfl,rfl⟩,rfl⟩,trivial⟩ trivial (fun k u hm=>by
   simp at hm;obtain ⟨rfl,rfl⟩:=hm;simp[Iq,hby]) (fun k u hm=>by simp at hm)
 have hd:=afb (H:=H) (E:=HY L (ak i)) (L:=L) (hp:=hpA n σ.rs.length o σ.many (FV L.R) (Iq σ L) (Ia σ L) [(e.tx,aC,.ptr 4 0)] []++EL r) hk rfl;refine (SI (args:=#[CX L.p,Yr e]) (fn:=iM) (c:=LA kind e (hpA n σ.rs.length o σ.many (FV L.R) (Iq σ L) (Ia σ L) [(e.tx,aC,.ptr 4 0)] []++EL r)) (mO _ _) (ajy _) (by kernel_rfl) (by kernel_rfl) hd abV hon (Vl rfl) hg hrun).mono fun en w' ⟨v,sv,k,t,H',E1,E',h1,h2,h3,h4,h5,h6,h7,h8⟩=>?_;obtain ⟨hsv,us,rfl,hus⟩:=hts sv k t h2 h3;subst hsv;obtain ⟨L',a1,a2,a3⟩:=ajA hA hi hown h5 h6 h7 (h8 0 (by simp[DY,toR]) _ rfl) (h8 4 (by simp[DY,toR]) _ rfl)
  (fun k=>LH hi (by simp[hid])) hus
 exact ⟨v,H',L',h1,abU h4,a1,a2,a3,h7,TI h6 fun b hb=>by
  obtain ⟨t,_,q⟩:=(hown b).1 hb;exact ⟨t,q⟩⟩
theorem abW(hA:Cm H w n (zH o) σ L)(hon:H.on w)(hg:BU (EO W5) H)(hby:σ.Jz e.tx=aK){kind:Int}(hk:e.kind=kind){f2:List (Int×Bool×SV)}{v2:List (Int×Option Value)}(d2:FD H (HY L aK) f2 v2)(m2:∀k u,(k,u)∈v2->Ia σ L k=u){x:Option Nat}
  (hrun:D9 (Fv [toN n σ.rs.length o σ.many (FV L.R) (Iq σ L) (Ia σ L) [(e.tx,ay,.any)] f2] (fun sv k=>sv=svE x/\k=0)) ((run (C5 zG W5 BI zV) 700 aC 79 [.code []] (LA kind e (hpA n σ.rs.length o σ.many (FV L.R) (Iq σ L) (Ia σ L) [(e.tx,ay,.any)] f2))).bind (toEnd [toN n σ.rs.length o σ.many (FV L.R) (Iq σ L) (Ia σ L) [(e.tx,ay,.any)] f2]))) :
  Calls aA 79 #[CX L.p,Yr e] w (Pv H w n o σ L x σ):=by
 have hown:=adP (n:=n) (o:=o) (σ:=σ) (L:=L) (f1:=[(e.tx,ay,.any)]) (f2:=f2);have abV:=abT (own:=KL (HY L aK) (Js n o σ L [(e.tx,ay,.any)] f2)) hA (fun t b h1 h2=>(hown b).2 ⟨t,h1,h2⟩) (f1:=[(e.tx,ay,.any)]) (f2:=f2) (v1:=[(e.tx,aK)]) (v2:=v2)
  ⟨rfl,trivial,trivial⟩ d2 (fun k u hm=>by
   simp at hm;obtain ⟨rfl,rfl⟩:=hm;simp[Iq,hby]) m2
 have hd:=afb (H:=H) (E:=HY L aK) (L:=L) (hp:=hpA n σ.rs.length o σ.many (FV L.R) (Iq σ L) (Ia σ L) [(e.tx,ay,.any)] f2) hk rfl;refine (SI (args:=#[CX L.p,Yr e]) (fn:=iM) (c:=LA kind e (hpA n σ.rs.length o σ.many (FV L.R) (Iq σ L) (Ia σ L) [(e.tx,ay,.any)] f2)) (mO _ _) (ajy _) (by kernel_rfl) (by kernel_rfl) hd abV hon (Vl rfl) hg hrun).mono fun en w' ⟨v,sv,k,t,H',E1,E',h1,h2,h3,h4,h5,h6,h7,h8⟩=>?_;obtain ⟨rfl,rfl⟩:=h2;cases h3;obtain ⟨L',a1,a2,a3⟩:=ahC hA hown h5 h6 h7 (h8 0 (by simp[toN]) _ rfl);exact ⟨v,H',L',h1,abU h4,a1,a2,a3,h7,TI h6 fun b hb=>by
  obtain ⟨t,_,q⟩:=(hown b).1 hb;exact ⟨t,q⟩⟩
theorem amn(hA:Cm H w n (zH o) σ L)(hon:H.on w)(hg:BU (EO W5) H)(hm:σ.many<400)(hl:σ.rs.length<=1000)(hby:σ.Jz e.tx=aK)(hbu:σ.Lc e.thread=aK)(hk:e.kind=1)(hv:Bl e=aC):
  Calls aA 79 #[CX L.p,Yr e] w (Pv H w n o σ L aK ⟨σ.many+1,σ.rs++[⟨e.tx,e.thread,1,σ.many,-1,-1,[],1⟩]⟩):=by
 have hown:=adP (n:=n) (o:=o) (σ:=σ) (L:=L) (f1:=[(e.tx,ay,.any)]) (f2:=[(e.thread,ay,.any)]);have abV:=abT (own:=KL (HY L aK) (Js n o σ L [(e.tx,ay,.any)] [(e.thread,ay,.any)])) hA (fun t b h1 h2=>(hown b).2 ⟨t,h1,h2⟩) (f1:=[(e.tx,ay,.any)]) (f2:=[(e.thread,ay,.any)]) (v1:=[(e.tx,aK)]) (v2:=[(e.thread,aK)])
  ⟨rfl,trivial,trivial⟩ ⟨rfl,trivial,trivial⟩ (fun k u hm=>by
   simp at hm;obtain ⟨rfl,rfl⟩:=hm;simp[Iq,hby]) (fun k u hm=>by
   simp at hm;obtain ⟨rfl,rfl⟩:=hm;simp[Ia,hbu])
 have hd:=afb (H:=H) (E:=HY L aK) (L:=L) (hp:=hpA n σ.rs.length o σ.many (FV L.R) (Iq σ L) (Ia σ L) [(e.tx,ay,.any)] [(e.thread,ay,.any)]) hk rfl;refine (SI (args:=#[CX L.p,Yr e]) (fn:=iM) (c:=LA 1 e (hpA n σ.rs.length o σ.many (FV L.R) (Iq σ L) (Ia σ L) [(e.tx,ay,.any)] [(e.thread,ay,.any)])) (mO _ _) (ajy _) (by kernel_rfl) (by kernel_rfl) hd abV hon (Vl rfl) hg (aqg hm hl hk hv)).mono fun en w' ⟨v,sv,k,t,H',E1,E',h1,h2,h3,h4,h5,h6,h7,h8⟩=>?_;obtain ⟨rfl,rfl⟩:=h2;cases h3;obtain ⟨L',a1,a2,a3⟩:=ajB (r:=⟨e.tx,e.thread,1,σ.many,-1,-1,[],1⟩) hA hown rfl h5 h6 h7 (h8 0 (by simp[toB]) _ rfl)
  (fun k=>by
   grind [Au.Jz])
  (fun k=>by
   show (σ.rs++[_]).findIdx? _=_;rw[Uk];by_cases q:k=e.thread
   ·subst q
    rw[if_pos rfl,show σ.rs.findIdx? (fun r=>r.th==e.thread&&r.live)=aK from hbu];simp[Rc.live]
   grind [Au.Lc])
 exact ⟨v,H',L',h1,abU h4,a1,a2,a3,h7,TI h6 fun b hb=>by
  obtain ⟨t,_,q⟩:=(hown b).1 hb;exact ⟨t,q⟩⟩
end
end Go.zM
namespace Go.AL
open Go Go.Sx
theorem TJ{α:Type}{l:List α}{i:Nat}{x:α}(h:l[i]?=ak x):l.set i x=l:=by
 apply lZ;grind
theorem Me(many:Nat)(e:Ev)(r:Rc):(Rc.out many e r).2.2.id=r.id:=by
 grind [Rc.out,gQ,Qy]
theorem ajC{σ:Au}{e:Ev}{i:Nat}{r:Rc}(hi:σ.rs[i]?=ak r)(hby:σ.Jz e.tx=ak i)(hk:¬e.kind=1):σ.feed e=((Rc.out σ.many e r).1,⟨(Rc.out σ.many e r).2.1,σ.rs.set i (Rc.out σ.many e r).2.2⟩):=by
 have h1:(e.kind==1)=ay:=by grind
 have hr:σ.rs.getD i ⟨0,0,0,0,0,0,[],0⟩=r:=by simp_all
 unfold ni;rw[hby];simp only[h1,cond_false,hr];unfold Rc.out;cases h:gQ σ.many e r with
 |inl k=>simp only[TJ hi] |inr r'=>rfl
theorem Zk{e:Ev}(h:Bl e=aC):1<=e.kind/\e.kind<=7:=by
 unfold Bl at h;simp only[aG] at h;have:=of_decide_eq_true h.1.1;exact this.1
end Go.AL
namespace Go.zM
open Go Go.Sx Go.AL
theorem SK{σ:Au}{i:Nat}{r:Rc}{e:Ev}(hi:σ.rs[i]?=ak r)(hs:1<=r.stand/\r.stand<=5)(hk:2<=e.kind/\e.kind<=7)(hn:¬(e.kind=5\/e.kind=6)\/(Rc.out σ.many e r).1.isNone=ay):ahB σ ⟨(Rc.out σ.many e r).2.1,σ.rs.set i (Rc.out σ.many e r).2.2⟩ []:=by
 refine .inl ⟨rfl,fun k=>?_⟩;unfold Rc.out at hn ⊢;cases h:gQ σ.many e r with
 |inl x=>simp only[TJ hi] |inr r'=>
  rw[h] at hn;have hn:¬(e.kind=5\/e.kind=6):=by grind
  obtain ⟨l1,l2,l3⟩:=Vk h hk hs;exact LH hi (by rw[(Qy h).2,l1,l3.2 hn])
theorem asn{σ:Au}(hI:σ.OK){i:Nat}{r:Rc}{e:Ev}(hi:σ.rs[i]?=ak r)(hk:e.kind=5\/e.kind=6)(hn:(Rc.out σ.many e r).1.isNone=aC):ahB σ ⟨(Rc.out σ.many e r).2.1,σ.rs.set i (Rc.out σ.many e r).2.2⟩ [(r.th,ay,.any)]:=by
 refine .inr ⟨r.th,.any,rfl,fun k=>?_⟩;unfold Rc.out at hn ⊢;cases h:gQ σ.many e r with
 |inl x=>simp_all |inr r'=>
  obtain ⟨l1,l2,l3⟩:=Vk h (by omega) (hI.stands i r hi);have hl:r'.live=ay:=by
   simp_all
  have ht:=(Qy h).2;have hlt:=(bW.1 hi).1;by_cases q:k=r.th
  ·rw[if_pos q]
   subst q;refine ahD fun j y hj=>?_
   rw[List.getElem?_set] at hj;by_cases e1:i=j
   ·simp_all
   ·rw[if_neg e1] at hj
    cases h1:(y.th==r.th&&y.live) with
    |false=>rfl |true=>
     simp only[aG,beq_iff_eq] at h1;exact (e1 (hI.one i j r y hi hj h1.1.symm l1 h1.2)).elim
  ·rw[if_neg q]
   refine LH hi ?_;grind
section
variable{H:Mem}{w:World}{n:Nat}{o:Nat->Oj}{σ:Au}{L:Lay}{e:Ev}
theorem ts1{t0 t:QS}{k:Nat}(h:[t0][k]?=ak t)(hk:k=0):t=t0:=by
 simp_all
theorem aqk(hA:Cm H w n (zH o) σ L)(hI:σ.OK)(hon:H.on w)(hg:BU (EO W5) H)(hm:σ.many<400)(hv:Bl e=aC)(hob:e.kind=2->0<=e.obj/\e.obj<n/\Dc e.op=(o e.obj.toNat).kind):
  Calls aA 79 #[CX L.p,Yr e] w (Pv H w n o σ L (σ.feed e).1 (σ.feed e).2):=by
 have hkd:=Zk hv;have hlen:=hI.len;cases hby:σ.Jz e.tx with
 |some i=>
  obtain ⟨r,hi,hp⟩:=SE hby
  have hdl:=hI.dl i r hi;by_cases k1:e.kind=1
  ·have e1:σ.feed e=(ak 9,σ):=by
    simp_all [ni]
   rw[e1];have:=JX hA hon hg hi hby k1 (aqf (n:=n) (o:=o) hm k1 hv r) (x:=ak 9) (many':=σ.many) (r':=r) rfl fun sv k t h1 h2=>⟨h1.1,[],ts1 h2 h1.2,.inl ⟨rfl,fun k=>by rw[TJ hi]⟩⟩;simp_all [TJ]
  ·rw[ajC hi hby k1]
   have hst:=hI.stands i r hi;by_cases k2:e.kind=2
   ·obtain ⟨h1,h2,h3⟩:=hob k2
    exact JX hA hon hg hi hby k2 (ap7 hm k2 hv r (by omega) h1 h2 h3) (Me _ _ _) fun sv k t h1 h2=>⟨h1.1,[],ts1 h2 h1.2,SK hi hst (by omega) (.inl (by omega))⟩
   by_cases k3:e.kind=3
   ·exact JX hA hon hg hi hby k3 (ap8 hm k3 hv r (by omega) (hI.deed i r hi)) (Me _ _ _) fun sv k t h1 h2=>⟨h1.1,[],ts1 h2 h1.2,SK hi hst (by omega) (.inl (by omega))⟩
   by_cases k4:e.kind=4
   ·exact JX hA hon hg hi hby k4 (ap3 hm k4 hv r) (Me _ _ _) fun sv k t h1 h2=>⟨h1.1,[],ts1 h2 h1.2,SK hi hst (by omega) (.inl (by omega))⟩
   by_cases k7:e.kind=7
   ·exact JX hA hon hg hi hby k7 (ap4 hm k7 hv r) (Me _ _ _) fun sv k t h1 h2=>⟨h1.1,[],ts1 h2 h1.2,SK hi hst (by omega) (.inl (by omega))⟩
   have fin:∀(sv:SV) (k:Nat) (t:QS),(sv=svE (Rc.out σ.many e r).1/\k=bif (Rc.out σ.many e r).1.isNone then 1 else 0)->
     [DY n σ.rs.length o (FV L.R) (Iq σ L) (Ia σ L) e (Rc.out σ.many e r).2.1 (Rc.out σ.many e r).2.2 [],DY n σ.rs.length o (FV L.R) (Iq σ L) (Ia σ L) e (Rc.out σ.many e r).2.1 (Rc.out σ.many e r).2.2 [(r.th,ay,.any)]][k]?=ak t->
     sv=svE (Rc.out σ.many e r).1/\∃us,t=DY n σ.rs.length o (FV L.R) (Iq σ L) (Ia σ L) e (Rc.out σ.many e r).2.1 (Rc.out σ.many e r).2.2 us/\ahB σ ⟨(Rc.out σ.many e r).2.1,σ.rs.set i (Rc.out σ.many e r).2.2⟩ us:=fun sv k t h1 h2=>by
    obtain ⟨a,rfl⟩:=h1;refine ⟨a,?_⟩;cases hn:(Rc.out σ.many e r).1.isNone with
    |true=>
     grind [asn]
    |false=>
     grind [SK]
   by_cases k5:e.kind=5
   ·exact JX hA hon hg hi hby k5 (ap5 hm k5 hv r) (Me _ _ _) fin
   have k6:e.kind=6:=by omega
   exact JX hA hon hg hi hby k6 (ap6 hm k6 hv r) (Me _ _ _) fin
 |none=>
  by_cases k1:e.kind=1
  ·have hb:(e.kind==1)=aC:=by grind
   cases hbu:σ.Lc e.thread with
   |some j=>
    have e1:σ.feed e=(ak 10,σ):=by
     simp_all [ni,cond_true]
    rw[e1];exact abW hA hon hg hby k1 (f2:=[(e.thread,aC,.val (.pointer (ak ⟨L.R j,0,aK⟩)))]) (v2:=[(e.thread,ak (CX (L.R j)))]) ⟨rfl,⟨⟨rfl,rfl⟩,rfl⟩,trivial⟩ (fun k u hm=>by
     simp at hm;obtain ⟨rfl,rfl⟩:=hm;simp[Ia,hbu]) (asl hm k1 hv (L.R j))
   |none=>
    have e1:σ.feed e=(aK,⟨σ.many+1,σ.rs++[⟨e.tx,e.thread,1,σ.many,-1,-1,[],1⟩]⟩):=by
     simp_all [ni,cond_true]
    grind [amn]
  ·have hb:(e.kind==1)=ay:=by grind
   have e1:σ.feed e=(ak 11,σ):=by
    grind [ni]
   rw[e1];have go:∀kd:Int,e.kind=kd->D9 (Fv [toN n σ.rs.length o σ.many (FV L.R) (Iq σ L) (Ia σ L) [(e.tx,ay,.any)] []] (fun sv k=>sv=svE (ak 11)/\k=0)) ((run (C5 zG W5 BI zV) 700 aC 79 [.code []] (LA kd e (hpA n σ.rs.length o σ.many (FV L.R) (Iq σ L) (Ia σ L) [(e.tx,ay,.any)] []))).bind (toEnd [toN n σ.rs.length o σ.many (FV L.R) (Iq σ L) (Ia σ L) [(e.tx,ay,.any)] []]))->
     Calls aA 79 #[CX L.p,Yr e] w (Pv H w n o σ L (ak 11) σ):=fun kd hk hr=>abW hA hon hg hby hk (f2:=[]) (v2:=[]) trivial (fun k u hm=>by simp at hm) hr
   grind [amh,ami,amj,amk,aml,amm]
end
end Go.zM
namespace Go.AL
open Go Go.Sx
theorem ahF{many:Nat}{e:Ev}{r r':Rc}(h:gQ many e r=.inr r')(_hd:r.stand=2->r.zK≠[]):(r'.stand=2->r'.zK≠[])/\r'.zK.length<=r.zK.length+1:=by
 unfold gQ at h;have hup:∀(f:De->De) (l:List De),(GZ f l).length=l.length:=fun f l=>by
  induction l with
  |nil=>rfl |cons x l ih=>cases l with
   |nil=>rfl |cons y l=>grind [GZ]
 grind
theorem Au.OK.feed{σ:Au}(hI:σ.OK){e:Ev}(hv:Bl e=aC):(σ.feed e).2.OK:=by
 have hkd:=Zk hv;unfold ni;cases hby:σ.Jz e.tx with
 |some i=>
  obtain ⟨r,hi,hp⟩:=SE hby
  have hr:σ.rs.getD i ⟨0,0,0,0,0,0,[],0⟩=r:=by simp_all
  have hlt:=(bW.1 hi).1;by_cases k1:e.kind=1
  ·simp_all
  have b1:(e.kind==1)=ay:=by grind
  simp only[b1,cond_false,hr];cases h:gQ σ.many e r with
  |inl k=>exact hI |inr r'=>
   show Au.OK ⟨σ.many+1,σ.rs.set i r'⟩;obtain ⟨l1,l2,l3⟩:=Vk h (by omega) (hI.stands i r hi);obtain ⟨d1,d2⟩:=ahF h (hI.deed i r hi);have hk:=(Qy h).2;have at_:∀{j:Nat} {s:Rc},(σ.rs.set i r')[j]?=ak s->(j=i/\s=r')\/(j≠i/\σ.rs[j]?=ak s):=fun {j s} hj=>by
    grind
   refine ⟨fun a b x y ha hb ht hx hy=>?_,fun a x ha=>?_,fun a x ha=>?_,by simp;have:=hI.len;omega,fun a x ha=>?_⟩
   ·rcases at_ ha with ⟨rfl,rfl⟩ |⟨n1,ha'⟩
    ·rcases at_ hb with ⟨rfl,rfl⟩ |⟨n2,hb'⟩
     ·rfl
     ·exact hI.one _ _ r y hi hb' (by omega) l1 hy
    ·rcases at_ hb with ⟨rfl,rfl⟩ |⟨n2,hb'⟩
     ·exact hI.one _ _ x r ha' hi (by omega) hx l1
     ·exact hI.one _ _ x y ha' hb' ht hx hy
   ·rcases at_ ha with ⟨rfl,rfl⟩ |⟨n1,ha'⟩
    ·exact d1
    ·exact hI.deed _ _ ha'
   ·rcases at_ ha with ⟨rfl,rfl⟩ |⟨n1,ha'⟩
    ·exact l2
    ·exact hI.stands _ _ ha'
   ·rcases at_ ha with ⟨rfl,rfl⟩ |⟨n1,ha'⟩
    ·have:=hI.dl _ _ hi
     grind
    ·have:=hI.dl _ _ ha'
     grind
 |none=>
  by_cases k1:e.kind=1
  ·simp only[k1,beq_self_eq_true,cond_true]
   cases hbu:σ.Lc e.thread with
   |some j=>exact hI |none=>
    show Au.OK ⟨σ.many+1,σ.rs++[⟨e.tx,e.thread,1,σ.many,-1,-1,[],1⟩]⟩;have hno:∀(j:Nat) (s:Rc),σ.rs[j]?=ak s->s.th=e.thread->s.live=aC->False:=fun j s hj ht hl=>by
     have:=oN.1 hbu s (List.mem_of_getElem? hj);simp_all
    have at_:∀{j:Nat} {s x:Rc},(σ.rs++[x])[j]?=ak s->(j=σ.rs.length/\s=x)\/(j<σ.rs.length/\σ.rs[j]?=ak s):=fun {j s x} hj=>by
     grind
    refine ⟨fun a b x y ha hb ht hx hy=>?_,fun a x ha=>?_,fun a x ha=>?_,by simp;have:=hI.len;omega,fun a x ha=>?_⟩
    ·rcases at_ ha with ⟨rfl,rfl⟩ |⟨n1,ha'⟩
     ·grind
     ·rcases at_ hb with ⟨rfl,rfl⟩ |⟨n2,hb'⟩
      ·grind
      ·exact hI.one _ _ x y ha' hb' ht hx hy
    ·rcases at_ ha with ⟨rfl,rfl⟩ |⟨n1,ha'⟩
     ·simp
     ·exact hI.deed _ _ ha'
    ·rcases at_ ha with ⟨rfl,rfl⟩ |⟨n1,ha'⟩
     ·simp
     ·exact hI.stands _ _ ha'
    ·rcases at_ ha with ⟨rfl,rfl⟩ |⟨n1,ha'⟩
     ·simp
     ·have:=hI.dl _ _ ha'
      grind
  grind
def Au.nil:Au:=⟨0,[]⟩
theorem Au.OK.nil:Au.nil.OK:=⟨fun i j r s h=>by simp[Au.nil] at h,fun i r h=>by simp[Au.nil] at h,fun i r h=>by simp[Au.nil] at h,Nat.le_refl _,fun i r h=>by simp[Au.nil] at h⟩
theorem Vm{σ:Au}{e:Ev}(h:(σ.feed e).1=aK):(σ.feed e).2.many=σ.many+1:=by
 grind [ni]
end Go.AL
namespace Go.zM
open Go Go.Sx Go.AL
theorem aql{H H':Mem}{n:Nat}{o:Nat->Oj}{xs:List Value}(h:Bq H 2 n (zH o) xs):Bq H' 2 n (zH o) xs:=
 ⟨h.1,h.2.1,h.2.2.1,fun i j s v hi h1 h2=>by
  have:=h.2.2.2 i j s v hi h1 h2;have hs:∃k,s=.i .i64 k:=by
   match j,h1 with
   |0,h1=>exact ⟨_,(dw h1).symm⟩ |1,h1=>exact ⟨_,(dw h1).symm⟩ |j+2,h1=>simp[zH,Row.put,obR] at h1
  obtain ⟨k,rfl⟩:=hs;cases this;exact .i _ _⟩
def JY(n:Nat)(o:Nat->Oj)(σ:Au)(p:Nat):Hp->Prop:=fun h=>
 ∃L:Lay,L.p=p/\(∀b,h b≠aK↔SH L σ.rs.length b)/\∀(H:Mem) (w:World),h.at H w->Cm H w n (zH o) σ L
theorem Cm.hide{H:Mem}{w:World}{n:Nat}{o:Nat->Oj}{σ:Au}{L:Lay}(hA:Cm H w n (zH o) σ L):∃h:Hp,JY n o σ L.p h/\h.at H w/\∀b,h b≠aK↔SH L σ.rs.length b:=by
 classical
 have hlt:∀{b},SH L σ.rs.length b->∃o,w.heap[b]?=ak o:=fun {b} ⟨t,ht⟩=>⟨_,jI (hA.lt ht)⟩;have hne:∀b,(if SH L σ.rs.length b then w.heap[b]? else aK)≠aK↔SH L σ.rs.length b:=fun b=>by
  grind
 refine ⟨fun b=>if SH L σ.rs.length b then w.heap[b]? else aK,⟨L,rfl,hne,fun H' w' hat=>?_⟩,fun b o e=>?_,hne⟩
 ·have at_:∀t b,L.blk σ.rs.length t=ak b->w'.heap[b]?=w.heap[b]?/\H' b=aK:=fun t b hb=>by
   obtain ⟨o,ho⟩:=hlt ⟨t,hb⟩;have:=hat b o ((if_pos (⟨t,hb⟩:SH L σ.rs.length b)).trans ho);simp_all
  have h0:Cm (fun _=>aK) w n (zH o) σ L:=⟨hA.au,let ⟨xs,h1,h2⟩:=hA.ob;⟨xs,h1,aql h2⟩,hA.tx,hA.KC,hA.bu,hA.rc,hA.de,hA.Fg,fun _ _ _=>rfl⟩;exact h0.keep (fun _ _ e=>by cases e) (fun t b hb=>(at_ t b hb).1) fun t b hb=>(at_ t b hb).2
 ·by_cases q:SH L σ.rs.length b
  ·simp only[if_pos q] at e
   exact ⟨e,let ⟨t,ht⟩:=q;hA.un t b ht⟩
  simp_all
theorem avE{n:Nat}{o:Nat->Oj}{σ:Au}{p:Nat}{e:Ev}{es:SV}(hes:∀H E v,Den H E es v->v=Yr e)(hI:σ.OK)(hm:σ.many<400)(hv:Bl e=aC)(hob:e.kind=2->0<=e.obj/\e.obj<n/\Dc e.op=(o e.obj.toNat).kind):
  akt aA (EO W5) 79 [.val (CX p),es] (JY n o σ p) (svE (σ.feed e).1) (JY n o (σ.feed e).2 p):=by
 intro H E w vs h hd hon hg ⟨L,hp,hblk,hA⟩ hat;match vs,hd with
 |[v1,v2],⟨d1,d2,_⟩=>
  obtain ⟨rfl,_⟩:=d1;obtain rfl:=hes _ _ _ d2;subst hp;refine Calls.mono (aqk (hA H w hat) hI hon hg hm hv hob) fun en w' ⟨v,H',L',h1,h2,h3,h4,h5,h6,h7⟩=>?_;obtain ⟨h',r1,r2,r3⟩:=Cm.hide h3;refine ⟨v,H',h',h1,?_,by simp_all,r2,h6,TI h7 fun b hb=>(hblk b).2 hb,fun b hb=>?_⟩
  ·cases hx:(σ.feed e).1 with
   |none=>rw[hx] at h2;exact h2 |some k=>rw[hx] at h2;exact h2
  ·obtain ⟨t,ht⟩:=(r3 b).1 hb
   grind
section
variable{H:Mem}{E:Env}{w:World}{K:Kx}{n:Nat}{o:Nat->Oj}{h:Hp}
theorem adR{b b1 b2:Nat}{v0:Value}(au:w.heap[b]?=ak (.cells #[v0,.int .i64 0,.slice aK 0 0,.map (ak b1),.map (ak b2)] 181 (0,0)))
  (ob:∃xs,w.ownsRow 0 140 2 v0 n xs/\Bq H 2 n (zH o) xs) (m1:∃ms clk,w.heap[b1]?=ak (.map ms clk)/\Ew .i64 ms.toList clk fun _=>aK) (m2:∃ms clk,w.heap[b2]?=ak (.map ms clk)/\Ew .i64 ms.toList clk fun _=>aK)
  (Fg:b≠b1/\b≠b2/\b1≠b2/\∀x,zT v0=ak x->x≠b/\x≠b1/\x≠b2) (un:H b=aK/\H b1=aK/\H b2=aK/\∀x,zT v0=ak x->H x=aK) :
  Cm H w n (zH o) Au.nil ⟨b,v0,.slice aK 0 0,b1,b2,fun _=>0,fun _=>.slice aK 0 0⟩:=by
 obtain ⟨d1,d2,d3,d4⟩:=Fg;refine ⟨au,ob,⟨rfl,.inl ⟨rfl,rfl⟩⟩,m1,m2,fun i r hi=>by simp[Au.nil] at hi,fun i r hi=>by simp[Au.nil] at hi,fun s t x hs ht=>?_,fun t x ht=>?_⟩
 ·cases s<;>cases t<;>simp[fQ,Au.nil,zT] at hs ht<;>first|rfl|(exfalso;subst_vars;first|exact d1 rfl|exact d2 rfl|exact d3 rfl|exact d1 ht.symm|exact (d4 _ hs).1 rfl|exact (d4 _ hs).2.1 rfl|exact (d4 _ hs).2.2 rfl|exact (d4 _ ht).1 rfl|exact (d4 _ ht).2.1 rfl|exact (d4 _ ht).2.2 rfl|skip) |skip
  all_goals (first|exact d1 (hs.trans ht.symm) |exact d1 (hs ▸ ht ▸ rfl) |omega)
 ·cases t<;>simp[fQ,Au.nil,zT] at ht<;>first|(subst ht;first|exact un.1|exact un.2.1|exact un.2.2.1) |exact un.2.2.2 _ ht
theorem abX{hp:List (Nat×SB)}{σ:Au}{L:Lay}(hh:WI E w hp h)(hA:Cm H w n (zH o) σ L)(hb:∀x,(∃id sb,zI hp id=ak sb/\Ag E id sb=ak x)↔SH L σ.rs.length x):JY n o σ L.p h:=by
 obtain ⟨h0,r1,r2,r3⟩:=Cm.hide hA;have:h0=h:=by
  funext x;have e1:=r3 x;have e2:=(hh.2 x).symm.trans (hb x);cases q:h x with
  |none=>
   grind
  |some o'=>
   cases q':h0 x with
   |none=>simp_all |some o''=>
    have a1:=hh.1 x _ q;have a2:=(r2 x _ q').1;simp_all
 simp_all
theorem ZR{id:Nat}(hh:FH K H E w id (.fm .i64 (fun _=>aK) [] [] aK)):∃b ms clk,E id=ak (.map (ak b))/\w.heap[b]?=ak (.map ms clk)/\Ew .i64 ms.toList clk fun _=>aK:=by
 obtain ⟨b,ms,clk,fv,uv,s1,s2,s3,s4,s5,s6,_,s7⟩:=hh;obtain rfl:=Pq s4;exact ⟨b,ms,clk,s1,s2,s6⟩
theorem aqm{o':Nat->List Sh}(ho:∀i,i<n->o' i=zH o i){n':Nat}(hn:n'=n){hp:List (Nat×SB)}(hpe:hp=[(3,.own 140 2 n' o'),(4,.fm .i64 (fun _=>aK) [] [] aK),(5,.fm .i64 (fun _=>aK) [] [] aK),(6,.box [.gs 3,.int .i64 0,.zY,.mp 4,.mp 5] 181)])
  (hh:zU K H E w hp) (hd:WI E w hp h):∃b,E 6=ak (.pointer (ak ⟨b,0,aK⟩))/\JY n o Au.nil b h:=by
 subst hn hpe;obtain ⟨v,xs,x1,x2,x3,x4⟩:=hh.ent 3 _ rfl;obtain ⟨b1,ms1,Xh,y1,y2,y3⟩:=ZR (hh.ent 4 _ rfl);obtain ⟨b2,ms2,Xi,z1,z2,z3⟩:=ZR (hh.ent 5 _ rfl);obtain ⟨b,⟨cs⟩,p1,p2,p3,p4⟩:=hh.ent 6 _ rfl;match cs,p3 with
 |[u0,u1,u2,u3,u4],⟨d0,d1,d2,d3,d4,_⟩=>
  have d1:u1=.int .i64 0:=d1;have d2:u2=.slice aK 0 0:=d2;obtain ⟨d0,_⟩:E 3=ak u0/\_:=d0;obtain ⟨c1,d3,d3'⟩:=d3;obtain ⟨c2,d4,d4'⟩:=d4;rw[x1] at d0;cases d0;rw[y1] at d3;cases d3;rw[z1] at d4;cases d4;subst d1 d2 d3' d4';have k3:Ag E 3 (.own 140 2 n' o')=zT v:=by simp[Ag,x1]
  have k4:Ag E 4 (.fm .i64 (fun _=>aK) [] [] aK)=ak b1:=by simp[Ag,y1,zT]
  have k5:Ag E 5 (.fm .i64 (fun _=>aK) [] [] aK)=ak b2:=by simp[Ag,z1,zT]
  have k6:Ag E 6 (.box [.gs 3,.int .i64 0,.zY,.mp 4,.mp 5] 181)=ak b:=by simp[Ag,p1,zT]
  have dd:∀{i j:Nat} {s t:SB} {x:Nat},zI [(3,uH 140 2 n' o'),(4,.fm .i64 (fun _=>aK) [] [] aK),(5,.fm .i64 (fun _=>aK) [] [] aK),(6,.box [.gs 3,.int .i64 0,.zY,.mp 4,.mp 5] 181)] i=ak s->zI [(3,uH 140 2 n' o'),(4,.fm .i64 (fun _=>aK) [] [] aK),(5,.fm .i64 (fun _=>aK) [] [] aK),(6,.box [.gs 3,.int .i64 0,.zY,.mp 4,.mp 5] 181)] j=ak t->Ag E i s=ak x->Ag E j t=ak x->i=j:=fun h1 h2 h3 h4=>hh.Fg _ _ _ _ _ h1 h2 h3 h4
  have mi:∀{i:Nat} {s:SB} {x:Nat},zI [(3,uH 140 2 n' o'),(4,.fm .i64 (fun _=>aK) [] [] aK),(5,.fm .i64 (fun _=>aK) [] [] aK),(6,.box [.gs 3,.int .i64 0,.zY,.mp 4,.mp 5] 181)] i=ak s->Ag E i s=ak x->H x=aK:=fun h1 h2=>((hh.ent _ _ h1).lt h2).2.1;have hA:=adR (H:=H) (n:=n') (o:=o) p2 ⟨xs,x2,Ro x3 ho⟩ ⟨ms1,Xh,y2,y3⟩ ⟨ms2,Xi,z2,z3⟩
   ⟨fun q=>(by simp_all),fun q=>(by simp_all),fun q=>(by subst q;cases dd (i:=4) (j:=5) rfl rfl k4 k5),
    fun x hx=>⟨fun q=>(by subst q;cases dd (i:=3) (j:=6) rfl rfl (k3.trans hx) k6),fun q=>(by subst q;cases dd (i:=3) (j:=4) rfl rfl (k3.trans hx) k4),fun q=>(by subst q;cases dd (i:=3) (j:=5) rfl rfl (k3.trans hx) k5)⟩⟩
   ⟨mi (i:=6) rfl k6,mi (i:=4) rfl k4,mi (i:=5) rfl k5,fun x hx=>mi (i:=3) rfl (k3.trans hx)⟩
  refine ⟨b,p1,abX hd hA fun x=>⟨fun ⟨id,sb,h1,h2⟩=>?_,fun ⟨t,ht⟩=>?_⟩⟩
  ·simp only[zI] at h1
   cases q3:(3:Nat)==id<;>simp only[q3,cond_true,cond_false] at h1
   ·cases q4:(4:Nat)==id<;>simp only[q4,cond_true,cond_false] at h1
    ·cases q5:(5:Nat)==id<;>simp only[q5,cond_true,cond_false] at h1
     ·cases q6:(6:Nat)==id<;>simp only[q6,cond_true,cond_false] at h1
      ·cases h1
      ·cases h1;obtain rfl:6=id:=by grind
       rw[k6] at h2;exact ⟨.au,h2⟩
     ·cases h1;obtain rfl:5=id:=by grind
      rw[k5] at h2;exact ⟨.bu,h2⟩
    ·cases h1;obtain rfl:4=id:=by grind
     rw[k4] at h2;exact ⟨.KC,h2⟩
   ·cases h1;obtain rfl:3=id:=by grind
    rw[k3] at h2;exact ⟨.ob,h2⟩
  ·cases t with
   |au=>exact ⟨6,_,rfl,k6.trans ht⟩ |tx=>cases ht |KC=>exact ⟨4,_,rfl,k4.trans ht⟩ |bu=>exact ⟨5,_,rfl,k5.trans ht⟩ |ob=>exact ⟨3,_,rfl,k3.trans ht⟩ |rc i=>simp[fQ,Au.nil] at ht |de i=>simp[fQ,Au.nil] at ht
theorem aqn(hn:n=0){hp:List (Nat×SB)}(hpe:hp=[(2,.fm .i64 (fun _=>aK) [] [] aK),(3,.fm .i64 (fun _=>aK) [] [] aK),(4,.box [.zY,.int .i64 0,.zY,.mp 2,.mp 3] 181)])
  (hh:zU K H E w hp) (hd:WI E w hp h):∃b,E 4=ak (.pointer (ak ⟨b,0,aK⟩))/\JY n o Au.nil b h:=by
 subst hn hpe;obtain ⟨b1,ms1,Xh,y1,y2,y3⟩:=ZR (hh.ent 2 _ rfl);obtain ⟨b2,ms2,Xi,z1,z2,z3⟩:=ZR (hh.ent 3 _ rfl);obtain ⟨b,⟨cs⟩,p1,p2,p3,p4⟩:=hh.ent 4 _ rfl;match cs,p3 with
 |[u0,u1,u2,u3,u4],⟨d0,d1,d2,d3,d4,_⟩=>
  have d1:u1=.int .i64 0:=d1;have d2:u2=.slice aK 0 0:=d2;have d0:u0=.slice aK 0 0:=d0;obtain ⟨c1,d3,d3'⟩:=d3;obtain ⟨c2,d4,d4'⟩:=d4;rw[y1] at d3;cases d3;rw[z1] at d4;cases d4;subst d0 d1 d2 d3' d4';have k4:Ag E 2 (.fm .i64 (fun _=>aK) [] [] aK)=ak b1:=by simp[Ag,y1,zT]
  have k5:Ag E 3 (.fm .i64 (fun _=>aK) [] [] aK)=ak b2:=by simp[Ag,z1,zT]
  have k6:Ag E 4 (.box [.zY,.int .i64 0,.zY,.mp 2,.mp 3] 181)=ak b:=by simp[Ag,p1,zT]
  have dd:∀{i j:Nat} {s t:SB} {x:Nat},zI [(2,nM .i64 (fun _=>aK) [] [] aK),(3,.fm .i64 (fun _=>aK) [] [] aK),(4,.box [.zY,.int .i64 0,.zY,.mp 2,.mp 3] 181)] i=ak s->zI [(2,nM .i64 (fun _=>aK) [] [] aK),(3,.fm .i64 (fun _=>aK) [] [] aK),(4,.box [.zY,.int .i64 0,.zY,.mp 2,.mp 3] 181)] j=ak t->Ag E i s=ak x->Ag E j t=ak x->i=j:=fun h1 h2 h3 h4=>hh.Fg _ _ _ _ _ h1 h2 h3 h4
  have mi:∀{i:Nat} {s:SB} {x:Nat},zI [(2,nM .i64 (fun _=>aK) [] [] aK),(3,.fm .i64 (fun _=>aK) [] [] aK),(4,.box [.zY,.int .i64 0,.zY,.mp 2,.mp 3] 181)] i=ak s->Ag E i s=ak x->H x=aK:=fun h1 h2=>((hh.ent _ _ h1).lt h2).2.1;have hA:=adR (H:=H) (n:=0) (o:=o) p2 ⟨[],⟨rfl,.inl ⟨rfl,rfl⟩⟩,JG 2 _⟩ ⟨ms1,Xh,y2,y3⟩ ⟨ms2,Xi,z2,z3⟩
   ⟨fun q=>(by simp_all),fun q=>(by simp_all),fun q=>(by subst q;cases dd (i:=2) (j:=3) rfl rfl k4 k5),fun x hx=>by cases hx⟩
   ⟨mi (i:=4) rfl k6,mi (i:=2) rfl k4,mi (i:=3) rfl k5,fun x hx=>by cases hx⟩
  refine ⟨b,p1,abX hd hA fun x=>⟨fun ⟨id,sb,h1,h2⟩=>?_,fun ⟨t,ht⟩=>?_⟩⟩
  ·simp only[zI] at h1
   cases q4:(2:Nat)==id<;>simp only[q4,cond_true,cond_false] at h1
   ·cases q5:(3:Nat)==id<;>simp only[q5,cond_true,cond_false] at h1
    ·cases q6:(4:Nat)==id<;>simp only[q6,cond_true,cond_false] at h1
     ·cases h1
     ·cases h1;obtain rfl:4=id:=by grind
      rw[k6] at h2;exact ⟨.au,h2⟩
    ·cases h1;obtain rfl:3=id:=by grind
     rw[k5] at h2;exact ⟨.bu,h2⟩
   ·cases h1;obtain rfl:2=id:=by grind
    rw[k4] at h2;exact ⟨.KC,h2⟩
  ·cases t with
   |au=>exact ⟨4,_,rfl,k6.trans ht⟩ |tx=>cases ht |KC=>exact ⟨2,_,rfl,k4.trans ht⟩ |bu=>exact ⟨3,_,rfl,k5.trans ht⟩ |ob=>cases ht |rc i=>simp[fQ,Au.nil] at ht |de i=>simp[fQ,Au.nil] at ht
end
open Go Go.Sx Go.AL
def abY:Nat->Option (List Sh->Tree Sh)
 |77=>ak apW |_=>aK
noncomputable def CT(A:Prim)(W:Wd):Ctx:={C5 A W abY zW with amU:=fun t=>bif dQ t 179 then ak (.i64,[]) else aK}
def ak2(g:Nat):Bool:=dQ g 79
def Xj:List It:=[bF [0,1,0,1,1,1,1],bZ 0,bF [1,1,1,1,1]]
def atj:List It:=bF [0,0,1,0,1,1,1,1]::Xj
def Yt(g:Nat):Bool:=dQ g 79||dQ g 44
def LT(m:Nat)(p:Nat->Ev)(b:Nat)(c i:Int):Core:=
 {tm:=[.any,.any,.Ei,.CS,.any,.val (.pointer (ak ⟨b,0,aK⟩))]++rep [.any] 19++[.sh (.sl 8 m (zH p)),.sym .i64 c,.sym .i64 i]++rep [.any] 16,hp:=[],nx:=0,lim:=L0,tc:=[]}
def QM:List Fr:=[{g:=20,td:=[o7 [0,1] [1,2,3,4,5,6],bF [1,1]],tm:=[.any,.any,.zY,.CS]++rep [.any] 12}]
def tdP:List It:=[o7 [0,1,0,0,1,1,0,0,1,0,1,1,1,1] [2,3],bF [1,1,0,0,1,1,0,0,1,0,1,1,1,1],bZ 1,bF [1,1,1,0,0,1,0,1,1,1,1]]++Xj
def tdQ:List It:=[o7 [0,1,0,0,1,1,0,0,1,0,1,1,1,1] [3],bF [1,1,0,0,1,1,0,0,1,0,1,1,1,1],bZ 1,bF [1,1,1,0,0,1,0,1,1,1,1]]++Xj
def LP(m:Nat)(p:Nat->Ev)(b:Nat)(c i:Int)(e:Ev)(x:SV):Core:=
 {tm:=[.any,.any,.Ei,.CS,.any,.val (.pointer (ak ⟨b,0,aK⟩)),.any,.sym .i64 i]++rep [.any] 17++[.sh (.sl 8 m (zH p)),.sym .i64 c,.sym .i64 i]++rep [.any] 4 ++
   [.val (.pointer (ak ⟨b,0,aK⟩)),.agg [.sym .i64 e.kind,.sym .i64 e.tx,.sym .i64 e.thread,.sym .i64 e.obj,.sym .i64 e.op,.sym .i64 e.key,.sym .i64 e.val,.sym .i64 e.ret],x]++rep [.any] 9,hp:=[],nx:=0,lim:=L0,tc:=[]}
def adS:List It:=[o7 [0,1,1,1] [1,2,3],bF [1,1,1,1]]
def LX(x:SV):Core:={tm:=[.any,.any,.zY,.CS]++rep [.any] 10++[x,.any],hp:=[],nx:=0,lim:=L0,tc:=[]}
def rcR(N:Rc->Nat)(D:Rc->Nat->List Sh)(r:Rc):List Sh:=[.i .i64 r.id,.i .i64 r.th,.i .i64 r.st,.i .i64 r.bg,.i .i64 r.en,.i .i64 r.tr,.sl 8 (N r) (D r),.i .i64 r.stand]
def ZA(N:Rc->Nat)(D:Rc->Nat->List Sh)(rs:Nat->Rc):Nat->List Sh:=fun j=>[.pt (rcR N D (rs j))]
def auX(N:Rc->Nat)(D:Rc->Nat->List Sh)(v0:Value)(many:Int)(k:Nat)(rs:Nat->Rc)(b1 b2:Nat):SV:=.Gh 5 1 (fun _=>[.v v0,.i .i64 many,.sl 1 k (ZA N D rs),.v (.map (ak b1)),.v (.map (ak b2))]) 0 0
def txR(N:Rc->Nat)(D:Rc->Nat->List Sh)(r:Rc):List Sh:=[.i .i64 r.id,.i .i64 r.th,.i .i64 r.st,.i .i64 r.bg,.i .i64 r.en,.i .i64 r.tr,.sl 8 (N r) (D r)]
def Vo(N:Rc->Nat)(D:Rc->Nat->List Sh)(rs:Nat->Rc):Nat->List Sh:=fun j=>txR N D (rs j)
def tdT:List It:=[bF [0,1,0,1,1],bZ 0,bF [1,1,1]]
def tbT:List It:=bF [0,0,1,0,1,1]::tdT
def adT(N:Rc->Nat)(D:Rc->Nat->List Sh)(k:Nat)(rs:Nat->Rc)(c i:Int)(j:Nat)(gg:Nat->List Sh):Core:=
 {tm:=[.any,.any,.any,.gs 0]++rep [.any] 12++[.sh (.sl 1 k (ZA N D rs)),.sym .i64 c,.sym .i64 i]++rep [.any] 21,hp:=[(0,.own 115 7 j gg)],nx:=1,lim:=L0,tc:=[]}
def frX:List Fr:=[{g:=20,td:=adS,tm:=[.any,.any,.zY,.CS]++rep [.any] 12}]
theorem a32(A:Prim)(W:Wd)(n m:Nat)(o:Nat->Oj)(p:Nat->Ev):asY (CT A W) ak2 300 400 20 [.code []] (zL 16 [.agg [.sl 2 n (zH o),.sl 8 m (zH p)]] L0) []=aH (okB Oj n (zH o)) (aH (okB Ev m (zH p)) (aH (Qv m (zH p)) (aF (Gg n m) (aB (uI (bT [aI 0 0 fun _=>[],aW 6 329]))) (aF (FB n m (zH o) (zH p)) (aH (okB Oj n (zH o)) (aH (okB Ev 0 fun _=>[]) (aH (Qv 0 fun _=>[]) (aF (Gg n 0) (aB (uI (bT [aI 0 0 fun _=>[],aW 6 329]))) (aF (FB n 0 (zH o) fun _=>[]) (aF (A.Z8 n 0) ((aB (yH 43 [bF [0,1,0,1,1,1,1],bZ 0,bF [1,1,1,1,1]] {tm:=[jQ [dH (aI 2 n (zH o)),dH (aI 8 m (zH p))],jR 1 0,yM,fH,fH,jR 4 0,fH,bD,bD,bD,bD,bD,bD,oO ay,bD,bD,bD,bD,bD,bD,bD,bD,oO ay,bD,bD,dH (aI 8 m (zH p)),SV.sym aU (A.Aa m),qA aU (ah 0),bD,bD,bD,bD,bD,bD,bD,bD,bD,bD,bD,bD,bD,bD,bD,bD],hp:=[(0,jS [dH (aI 2 n (zH o)),dH (aI 8 m (zH p))] 25),(1,jS [dH (aI 2 n (zH o)),dH (aI 8 m (zH p))] 25),(2,nM aU (fun _=>aK) [] [] aK),(3,nM aU (fun _=>aK) [] [] aK),(4,jS [jV,qA aU (ah 0),jV,qZ 2,qZ 3] 181)],nx:=5,lim:=1000000000000000000000000000000,tc:=[]} [{g:=20,td:=[o7 [0,1] [1,2,3,4,5,6],bF [1,1]],tm:=[jQ [dH (aI 2 n (zH o)),dH (aI 8 m (zH p))],jR 0 0,jV,fH,bD,bD,bD,jQ [dH (aI 2 n (zH o)),dH (aI 8 m (zH p))],bD,bD,bD,bD,bD,bD,bD,bD]}])).both (aH (A.room (A.addN 0 n) 16) (aB (yH 43 [bF [0,1,0,1,1,1,1],bZ 0,bF [1,1,1,1,1]] {tm:=[jQ [dH (aI 2 n (zH o)),dH (aI 8 m (zH p))],jR 1 0,yM,fH,fH,jR 6 0,fH,bD,bD,bD,bD,bD,bD,oO ay,bD,bD,bD,bD,bD,bD,bD,bD,oO ay,bD,bD,dH (aI 8 m (zH p)),SV.sym aU (A.Aa m),qA aU (ah 0),bD,bD,bD,bD,bD,bD,bD,bD,bD,bD,bD,bD,bD,bD,bD,bD],hp:=[(0,jS [dH (aI 2 n (zH o)),dH (aI 8 m (zH p))] 25),(1,jS [dH (aI 2 n (zH o)),dH (aI 8 m (zH p))] 25),(3,uH 140 2 (A.addN 0 n) (A.snoc (Af []) 0 (zH o))),(4,nM aU (fun _=>aK) [] [] aK),(5,nM aU (fun _=>aK) [] [] aK),(6,jS [SV.gs 3,qA aU (ah 0),jV,qZ 4,qZ 5] 181)],nx:=7,lim:=1000000000000000000000000000000,tc:=[2]} [{g:=20,td:=[o7 [0,1] [1,2,3,4,5,6],bF [1,1]],tm:=[jQ [dH (aI 2 n (zH o)),dH (aI 8 m (zH p))],jR 0 0,jV,fH,bD,bD,bD,jQ [dH (aI 2 n (zH o)),dH (aI 8 m (zH p))],bD,bD,bD,bD,bD,bD,bD,bD]}])))) (aH (A.room (A.addN 0 n) 16) (aB (yH 43 [bF [0,1,0,1,1,1,1],bZ 0,bF [1,1,1,1,1]] {tm:=[jQ [dH (aI 2 n (zH o)),dH (aI 8 m (zH p))],jR 1 0,yM,fH,fH,jR 6 0,fH,bD,bD,bD,bD,bD,bD,oO ay,bD,bD,bD,bD,bD,bD,bD,bD,oO ay,bD,bD,dH (aI 8 m (zH p)),SV.sym aU (A.Aa m),qA aU (ah 0),bD,bD,bD,bD,bD,bD,bD,bD,bD,bD,bD,bD,bD,bD,bD,bD],hp:=[(0,jS [dH (aI 2 n (zH o)),dH (aI 8 m (zH p))] 25),(1,jS [dH (aI 2 n (zH o)),dH (aI 8 m (zH p))] 25),(3,uH 140 2 (A.addN 0 n) (A.snoc (Af []) 0 (zH o))),(4,nM aU (fun _=>aK) [] [] aK),(5,nM aU (fun _=>aK) [] [] aK),(6,jS [SV.gs 3,qA aU (ah 0),jV,qZ 4,qZ 5] 181)],nx:=7,lim:=1000000000000000000000000000000,tc:=[2]} [{g:=20,td:=[o7 [0,1] [1,2,3,4,5,6],bF [1,1]],tm:=[jQ [dH (aI 2 n (zH o)),dH (aI 8 m (zH p))],jR 0 0,jV,fH,bD,bD,bD,jQ [dH (aI 2 n (zH o)),dH (aI 8 m (zH p))],bD,bD,bD,bD,bD,bD,bD,bD]}])))) (aB (uI (bT [aI 0 0 fun _=>[],mZ 109 (qo [aT .i64 (Kq n 0 (zH o) fun _=>[]),aW (OJ n 0 (zH o) fun _=>[]) 329])])))))))) (aB (uI (bT [aI 0 0 fun _=>[],mZ 109 (qo [aT .i64 (Kq n m (zH o) (zH p)),aW (OJ n m (zH o) (zH p)) 329])]))))))):=by kernel_rfl
theorem b32(A:Prim)(W:Wd)(m:Nat)(p:Nat->Ev)(b:Nat)(c i:Int)(k:Nat):AA (CT A W) Yt 300 400 43 atj (LT m p b c i) QM [⟨43,tdP,LP m p b c i (p k) .any,QM⟩,⟨20,adS,LX (.val (.pointer (ak ⟨b,0,aK⟩))),[]⟩]=aF (A.lt i c) (aH (A.inB i m) (aB (bJ 0 [jH (fG (ak {block:=b,off:=0})) (fG (ak {block:=b,off:=0})),aj i i,aP (aI 8 m (zH p)) (aI 8 m (zH p)),aj c c,aj i i,jH (fG (ak {block:=b,off:=0})) (fG (ak {block:=b,off:=0})),aj (p (A.toN i)).kind (p k).kind,aj (p (A.toN i)).tx (p k).tx,aj (p (A.toN i)).thread (p k).thread,aj (p (A.toN i)).obj (p k).obj,aj (p (A.toN i)).op (p k).op,aj (p (A.toN i)).key (p k).key,aj (p (A.toN i)).val (p k).val,aj (p (A.toN i)).ret (p k).ret]))) (aB (bJ 1 [jH (fG (ak {block:=b,off:=0})) (fG (ak {block:=b,off:=0}))])):=by kernel_rfl
theorem c32(A:Prim)(W:Wd)(m:Nat)(p:Nat->Ev)(b:Nat)(c i i1:Int)(e:Ev):AA (CT A W) Yt 300 400 43 tdQ (LP m p b c i e .CS) QM [⟨43,Xj,LT m p b c i1,QM⟩]=aB (bJ 0 [jH (fG (ak {block:=b,off:=0})) (fG (ak {block:=b,off:=0})),aP (aI 8 m (zH p)) (aI 8 m (zH p)),aj c c,aj (A.add .i64 i (ah 1)) i1]):=by kernel_rfl
theorem d32(A:Prim)(W:Wd)(m:Nat)(p:Nat->Ev)(b:Nat)(c i:Int)(e:Ev)(k:Nat):AA (CT A W) Yt 300 400 43 tdQ (LP m p b c i e (.sh (.er k 329))) QM []=aB (aS (bT [aI 0 0 fun _=>[],mZ 109 (qo [aT .i64 i,aW k 329])])):=by kernel_rfl
theorem e32(A:Prim)(W:Wd)(N:Rc->Nat)(D:Rc->Nat->List Sh)(v0:Value)(many:Int)(k:Nat)(rs:Nat->Rc)(b1 b2:Nat)(c i:Int)(j:Nat)(gg:Nat->List Sh):AA (CT A W) Dh 300 400 20 adS (LX (auX N D v0 many k rs b1 b2)) [] [⟨44,tdT,adT N D k rs c i j gg,frX⟩]=aH (A.le (ah 0) (A.Aa k)) (aH (A.room (A.toN (A.Aa k)) 72) (aB (bJ 0 [aP (aI 1 k (ZA N D rs)) (aI 1 k (ZA N D rs)),aj (A.Aa k) c,aj (ah 0) i,aJ 0 j,aQ 0 (fun _=>[]) gg]))):=by kernel_rfl
theorem f32(A:Prim)(W:Wd)(N:Rc->Nat)(D:Rc->Nat->List Sh)(k:Nat)(rs:Nat->Rc)(c i i1:Int)(j j1:Nat)(gg g1:Nat->List Sh):asZ (CT A W) Dh 300 400 44 tbT (adT N D k rs c i j gg) frX [⟨44,tdT,adT N D k rs c i1 j1 g1,frX⟩]=aF (A.lt i c) (aH (A.inB i k) (aH (A.le (ah 0) (A.Aa (N (rs (A.toN i))))) (aH (A.room (A.toN (A.Aa (N (rs (A.toN i))))) 64) (aH (A.room (A.addN 0 (N (rs (A.toN i)))) 64) (aH (A.le (ah 0) (A.Aa (N (rs (A.toN i))))) (aH (A.room (A.toN (A.Aa (N (rs (A.toN i))))) 64) (aH (A.room (A.addN 0 (N (rs (A.toN i)))) 64) (aO [aJ 1 1,aZ (fun _=>rcR N D (rs (A.toN i))) fun _=>rcR N D (rs (A.toN i)),aJ 0 0,aP (aI 1 k (ZA N D rs)) (aI 1 k (ZA N D rs)),aj c c,aj i i,aJ j j,aZ gg gg,aj (rs (A.toN i)).id (rs (A.toN i)).id,aj (rs (A.toN i)).th (rs (A.toN i)).th,aj (rs (A.toN i)).st (rs (A.toN i)).st,aj (rs (A.toN i)).bg (rs (A.toN i)).bg,aj (rs (A.toN i)).en (rs (A.toN i)).en,aj (rs (A.toN i)).tr (rs (A.toN i)).tr,aJ (A.addN 0 (N (rs (A.toN i)))) (A.addN 0 (N (rs (A.toN i)))),aZ (A.snoc (fun _=>[]) 0 (D (rs (A.toN i)))) (A.snoc (fun _=>[]) 0 (D (rs (A.toN i))))] (aH (A.le (ah 0) (A.Aa (N (rs (A.toN i))))) (aH (A.room (A.toN (A.Aa (N (rs (A.toN i))))) 64) (aH (A.room (A.addN 0 (N (rs (A.toN i)))) 64) (aO [aJ 1 1,aZ (fun _=>rcR N D (rs (A.toN i))) fun _=>rcR N D (rs (A.toN i)),aJ 0 0,aP (aI 1 k (ZA N D rs)) (aI 1 k (ZA N D rs)),aj c c,aj i i,aJ j j,aZ gg gg,aj (rs (A.toN i)).id (rs (A.toN i)).id,aj (rs (A.toN i)).th (rs (A.toN i)).th,aj (rs (A.toN i)).st (rs (A.toN i)).st,aj (rs (A.toN i)).bg (rs (A.toN i)).bg,aj (rs (A.toN i)).en (rs (A.toN i)).en,aj (rs (A.toN i)).tr (rs (A.toN i)).tr,aJ (A.addN 0 (N (rs (A.toN i)))) (A.addN 0 (N (rs (A.toN i)))),aZ (A.snoc (fun _=>[]) 0 (D (rs (A.toN i)))) (A.snoc (fun _=>[]) 0 (D (rs (A.toN i))))] (aH (A.room (A.addN j 1) 72) (aB (bJ 0 [aP (aI 1 k (ZA N D rs)) (aI 1 k (ZA N D rs)),aj c c,aj (A.add .i64 i (ah 1)) i1,aJ (A.addN j 1) j1,aQ (A.addN j 1) (A.snoc gg j (Af [[aT .i64 (rs (A.toN i)).id,aT .i64 (rs (A.toN i)).th,aT .i64 (rs (A.toN i)).st,aT .i64 (rs (A.toN i)).bg,aT .i64 (rs (A.toN i)).en,aT .i64 (rs (A.toN i)).tr,aI 8 (A.addN 0 (N (rs (A.toN i)))) (A.snoc (fun _=>[]) 0 (D (rs (A.toN i))))]])) g1]))))))))))))))) (aB (aS (bT [Sh.os 115 7 j gg,Sh.v Value.nilIface]))):=by kernel_rfl
end Go.zM
namespace Go.AL
open Go Go.Sx
def rc0:Rc:=⟨0,0,0,0,0,0,[],0⟩
def DT(r:Rc):Nat:=r.zK.length
def dfn(r:Rc):Nat->List Sh:=zH (nth r.zK)
def DC(σ:Au)(j:Nat):Rc:=σ.rs.getD j rc0
theorem Vp{σ:Au}{j:Nat}(h:j<σ.rs.length):σ.rs[j]?=ak (DC σ j):=by
 simp[DC,List.getD_eq_getElem?_getD,aV h]
end Go.AL
namespace Go.zM
open Go Go.Sx Go.AL
section
variable{H:Mem}{E:Env}{w:World}{n:Nat}{o:Nat->Oj}{h:Hp}{σ:Au}{b:Nat}
theorem amq(hR:JY n o σ b h)(hat:h.at H w):∃L:Lay,Den (H.with h) E (auX DT dfn L.v0 σ.many σ.rs.length (DC σ) L.b1 L.b2) (.pointer (ak ⟨b,0,aK⟩)):=by
 obtain ⟨L,rfl,hdom,hA⟩:=hR;have A:=hA H w hat;have at_:∀t x,L.blk σ.rs.length t=ak x->(H.with h) x=w.heap[x]?:=fun t x hx=>by
  cases q:h x with
  |none=>exact ((hdom x).2 ⟨t,hx⟩ q).elim |some ob=>simp only[Mem.with,q];exact (hat x ob q).1.symm
 have atl:L.v0.oneCell'=aC:=by
  obtain ⟨xs,h1,_⟩:=A.ob;rcases h1.2 with ⟨q,_⟩ |⟨g,cap,cur,q,_⟩<;>rw[q]<;>rfl
 have axD:L.v2.oneCell'=aC:=by
  rcases A.tx.2 with ⟨q,_⟩ |⟨g,cap,cur,q,_⟩<;>rw[q]<;>rfl
 have axE:∀i,i<σ.rs.length->Rep (H.with h) (.pt (rcR DT dfn (DC σ i))) (CX (L.R i)):=fun i hi=>by
  have hs:=Vp (σ:=σ) hi;have hc:=A.rc i _ hs;have hd:=A.de i _ hs;have hb:=at_ (.rc i) (L.R i) (by simp[fQ,hi]);rw[hc] at hb;have axF:(L.D i).oneCell'=aC:=by
   rcases hd.2 with ⟨q,_⟩ |⟨g,cap,cur,q,_⟩<;>rw[q]<;>rfl
  have axG:Rep (H.with h) (.sl 8 (DT (DC σ i)) (dfn (DC σ i))) (L.D i):=Lm hd (Zi _) fun x hx=>at_ (.de i) x (by simp[fQ,hi,hx]);refine .pt _ (L.R i) 0 (fun j=>(Xf (DC σ i) (L.D i)).getD j undef) (fun j hj=>?_) (fun j hj=>?_) fun j s hs'=>?_
  ·simp only[hcell,hb,iw]
   have:j<(Xf (DC σ i) (L.D i)).size:=hj;simp[nN,jI this]
  ·have:j<8:=hj
   match j,this with
   |0,_=>rfl |1,_=>rfl |2,_=>rfl |3,_=>rfl |4,_=>rfl |5,_=>rfl |6,_=>exact axF |7,_=>rfl |j+8,hj=>omega
  ·match j,hs' with
   |0,hs'=>cases hs';exact .i _ _ |1,hs'=>cases hs';exact .i _ _ |2,hs'=>cases hs';exact .i _ _ |3,hs'=>cases hs';exact .i _ _ |4,hs'=>cases hs';exact .i _ _ |5,hs'=>cases hs';exact .i _ _ |6,hs'=>cases hs';exact axG |7,hs'=>cases hs';exact .i _ _ |j+8,hs'=>simp[rcR] at hs'
 have axH:Rep (H.with h) (.sl 1 σ.rs.length (ZA DT dfn (DC σ))) L.v2:=by
  refine Lm A.tx ?_ fun x hx=>at_ .tx x hx
  refine ⟨by simp,fun i _=>rfl,fun u hu=>?_,fun i j s v hi h1 h2=>?_⟩
  ·obtain ⟨i,_,rfl⟩:=fC.1 hu
   rfl
  ·match j,h1 with
   |0,h1=>
    cases h1;simp[hi] at h2;subst h2;exact axE i hi
   |j+1,h1=>simp[ZA] at h1
 have hb:=at_ .au L.p rfl;rw[A.au] at hb;refine ⟨L,L.p,0,fun j=>(#[L.v0,.int .i64 σ.many,L.v2,.map (ak L.b1),.map (ak L.b2)]:Array Value).getD j undef,rfl,by decide,rfl,fun j hj=>⟨?_,?_⟩,fun j s hs'=>?_⟩
 ·simp only[hcell,hb,iw]
  have:j<(#[L.v0,.int .i64 σ.many,L.v2,.map (ak L.b1),.map (ak L.b2)]:Array Value).size:=hj;simp[nN,jI this]
 ·match j,hj with
  |0,_=>exact atl |1,_=>rfl |2,_=>exact axD |3,_=>rfl |4,_=>rfl |j+5,hj=>omega
 ·match j,hs' with
  |0,hs'=>cases hs';exact .v _ atl |1,hs'=>cases hs';exact .i _ _ |2,hs'=>cases hs';exact axH |3,hs'=>cases hs';exact .v _ rfl |4,hs'=>cases hs';exact .v _ rfl |j+5,hs'=>simp at hs'
end
end Go.zM
namespace Go.Sx
def pS(x y:SV):Prop:=∀(H:Mem) (E:Env) (v:Value),Den H E x v->Den H E y v
def pL:List SV->List SV->Prop
 |[],[]=>True |x::l,y::m=>pS x y/\pL l m |_,_=>False
def pB:SB->SB->Prop
 | .box l e,.box m f=>e=f/\pL l m |a,b=>a=b
def pH:List (Nat×SB)->List (Nat×SB)->Prop
 |[],[]=>True |(i,a)::l,(j,b)::m=>i=j/\pB a b/\pH l m |_,_=>False
def ak3:List Fr->List Fr->Prop
 |[],[]=>True |f::s,f'::s'=>f.g=f'.g/\f.td=f'.td/\pL f.tm f'.tm/\ak3 s s' |_,_=>False
structure pC(c c':Core):Prop where
 tm:pL c.tm c'.tm
 hp:pH c.hp c'.hp
 nx:c.nx=c'.nx
 lim:c.lim=c'.lim
 tc:c.tc=c'.tc
theorem pS.any{x:SV}:pS x .any:=fun _ _ _ _=>trivial
theorem ZT{H:Mem}{E:Env}:∀{l m:List SV} {vs:List Value},pL l m->zO H E l vs->zO H E m vs
 |[],[],[],_,_=>trivial |_::_,_::_,_::_,⟨h1,h2⟩,⟨d1,d2⟩=>⟨h1 _ _ _ d1,ZT h2 d2⟩ |[],_::_,_,h,_=>h.elim |_::_,[],_,h,_=>h.elim |_::_,_::_,[],_,hd=>hd.elim |[],[],_::_,_,hd=>hd.elim
theorem pS.sl{st n:Nat}{g g':Nat->List Sh}(h:∀j,j<n->g j=g' j):pS (.sh (.sl st n g)) (.sh (.sl st n g')):=fun H E v hd=>by
 have hd:Rep H (.sl st n g) v:=hd;show Rep H (.sl st n g') v;cases hd with
 |sl0 _ _ A cap hc=>exact .sl0 _ _ _ _ hc |sl _ _ _ b off cap c h1 h2 h3 h4 h5 h6=>exact .sl _ _ _ b off cap c h1 h2 (fun i hi=>by rw[<-h i hi];exact h3 i hi) h4 h5 fun i j s hi e=>h6 i j s hi (by rw[h i hi];exact e)
theorem pL.set{x y:SV}(h:pS x y):∀{l m:List SV} (i:Nat),pL l m->pL (l.set i x) (m.set i y)
 |[],[],_,_=>trivial |_::_,_::_,0,⟨_,h2⟩=>⟨h,h2⟩ |_::_,_::_,i+1,⟨h1,h2⟩=>⟨h1,pL.set h i h2⟩ |[],_::_,_,h=>h.elim |_::_,[],_,h=>h.elim
section
variable{P:Program}{C:Ctx}{K:Kx}{H H':Mem}{E E':Env}{w w':World}
theorem ajE{id:Nat}{a b:SB}(h:pB a b)(he:FH K H E w id a):FH K H E w id b/\Ag E id a=Ag E id b:=by
 cases a with
 |box l e=>
  cases b with
  |box m f=>
   obtain ⟨rfl,h⟩:=h;obtain ⟨b,cs,h1,h2,h3,h4⟩:=he;exact ⟨⟨b,cs,h1,h2,ZT h h3,h4⟩,rfl⟩
  |_=>simp[pB] at h
 |_=>
  simp only[pB] at h;subst h;exact ⟨he,rfl⟩
theorem ZU:∀{l m:List (Nat×SB)} {i:Nat} {b:SB},pH l m->zI m i=ak b->∃a,zI l i=ak a/\pB a b
 |[],[],_,_,_,h=>by simp[zI] at h |(i,a)::l,(j,b)::m,k,sb,⟨h1,h2,h3⟩,h=>by
  subst h1;simp only[zI] at h ⊢;cases hk:(i==k)<;>simp only[hk,cond_true,cond_false] at h ⊢
  ·exact ZU h3 h
  ·cases h;exact ⟨_,rfl,h2⟩
 |[],_::_,_,_,h,_=>h.elim |_::_,[],_,_,h,_=>h.elim
theorem St.afc{c c':Core}{a:Act}(st:St C K H E w c a)(h:pC c c'):St C K H E w c' a:=by
 refine ⟨ZT h.tm st.den,⟨fun id sb hl=>?_,fun id id' sb sb' b l1 l2 o1 o2=>?_⟩,st.Bg,fun i h1 h2=>st.free i (by rw[h.nx];exact h1) (by rw[h.lim];exact h2),st.gl,st.defers⟩
 ·obtain ⟨x,h1,h2⟩:=ZU h.hp hl
  exact (ajE h2 (st.hp.ent _ _ h1)).1
 ·obtain ⟨x,h1,h2⟩:=ZU h.hp l1
  obtain ⟨y,h3,h4⟩:=ZU h.hp l2;exact st.hp.Fg _ _ _ _ _ h1 h3 (by rw[(ajE h2 (st.hp.ent _ _ h1)).2];exact o1) (by rw[(ajE h4 (st.hp.ent _ _ h3)).2];exact o2)
theorem Fp.afc:∀{s s':List Fr} {ms:List Frame},Fp C H E s ms->ak3 s s'->Fp C H E s' ms
 |[],[],[],_,_=>trivial |f::s,f'::s',m::ms,⟨⟨fn,a,items,h1,h2,h3,h4,h5⟩,h6⟩,⟨e1,e2,e3,e4⟩=>
  ⟨⟨fn,a,items,by rw[<-e1];exact h1,ZT e3 h2,h3,by rw[<-e2];exact h4,by rw[<-e1];exact h5⟩,Fp.afc h6 e4⟩
 |[],[],_::_,h,_=>h.elim |_::_,_,[],h,_=>h.elim |[],_::_,_,_,h=>h.elim |_::_,[],_::_,_,h=>h.elim
theorem ak4{g:Nat}:∀{s s':List Fr} {g:Nat},ak3 s s'->QG g s'=QG g s
 |[],[],_,_=>rfl |f::s,f'::s',_,⟨e1,_,_,e4⟩=>by simp only[QG];rw[e1];exact ak4 (g:=0) e4 |[],_::_,_,h=>h.elim |_::_,[],_,h=>h.elim
theorem Xk{g:Nat}{td:List It}{c c':Core}{stk Jk:List Fr}{R:Hp->Prop}{φ:Sh->Prop}(hle:pC c c')(hs:ak3 stk Jk)(h:Aw P C K g td c' Jk R φ):Aw P C K g td c stk R φ:=by
 intro H E w a items ms cs fn hfn st hi hst hx;have:=h H E w a items ms cs fn hfn (st.afc hle) hi (hst.afc hs) hx;rw[ak4 (g:=0) hs] at this;exact this
end
end Go.Sx
