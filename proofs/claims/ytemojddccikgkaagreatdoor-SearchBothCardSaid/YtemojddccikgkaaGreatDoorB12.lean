/- Own work. -/
import Derived.Test.YtemojddccikgkaaGreatDoorB11
import Derived.Conc.LoneSelect
import Derived.KernelRfl
open Int (ofNat)
open BitVec renaming ofInt->bN,toNat_and->i6,toNat_ofNat->cD
open Bool renaming false->ag,true->ah,or_eq_true->gJ,and_eq_true->ak
open Classical renaming propDecidable->ay
open Go.BinOp renaming or->cB,shl->b7
open Go.IntKind renaming i64->az
open Go.oz renaming mO->aE,nth->aQ,o9->bM
open Go.oz.Rc renaming step->bD
open Go.oz.Row renaming Ad->dk,put->dm
open Go.Proofs renaming uy->iM
open Go.Proofs.Tryz renaming prog->ai,f24->iw,f39->kA
open Go.Sx renaming Sh->mL
open Go.Sx.oM renaming nat->am,Gf->aF,sh->aw,int->ac,get->ax,val->dL,mg->cP,bool->gt
open Go.Sx.pI renaming at_->aH,ret->ar
open Go.Sx.It renaming code->aA,inBlock->aM
open Go.Sx.Sh renaming sl->aj,i->av,b->co,agg->aN,mX->aL,er->aX
open Go.Value renaming chan->cp,int->cR,nilIface->bd
open Int renaming toNat_natCast->bm,ofNat->ab
open Int.ofNat renaming inj->cZ
open List renaming mem_of_getElem?->aT,length_pos_iff->iL,getD_eq_getElem?_getD->aO,getElem?_append_left->cj,length_append->aY,getElem?_eq_some_iff->aJ,mem_cons_self->bj,mem_cons_of_mem->aZ,mem_iff_getElem->eO,pairwise_iff_getElem->cT,range->aD,countP_append->iZ,mem_map->bK,mem_flatMap->eE,mem_range->bI,all_eq_true->bh,append_nil->bR,append_assoc->cA
open Nat renaming zero_add->cy,sub_self->dh,le_trans->bL,shiftLeft_eq->eM,or_lt_two_pow->gq,one_mul->gF,pow_lt_pow_right->cF,lt_of_le_of_lt->jq,mod_eq_of_lt->cz,min_eq_left->gX,shiftRight_eq_div_pow->gT,lt_of_lt_of_le->dp,pow_le_pow_right->eY,testBit_lt_two_pow->ii,zero_testBit->kb,beq->bJ
open Option renaming some->ae,none->ao
open Option.some renaming inj->aS
namespace Go.Pl
open Go Go.Sx Go.Proofs
open Go.oz (Ev Hr De Rc)
def jX(tx:Nat->Rc)(k:Nat)(e:Ev):Int:=fdX (mP (uw tx)) k e.tx
def bX(tx:Nat->Rc)(k:Nat)(e:Ev):Int:=byX (mP (uw tx)) k e.thread
def cX(gc:Nat->List Sh)(c:Nat)(r:Rc):Bool:=cnX (mP gc) c r.id
def wX(r:Rc):Bool:=Yv r.mV.length (Go.oz.mP (aE (aQ r.mV)))
def fX(r:Rc)(e:Ev):Bool:=Go.oz.wO (aQ r.mV (mM.toN (mM.sub .i64 (mM.nK r.mV.length) 1))).op e.ret
def BU(r:Rc)(st en tr:Int)(D:Sh):List Sh:=[.i .i64 r.id,.i .i64 r.th,.i .i64 st,.i .i64 r.bg,.i .i64 en,.i .i64 tr,D]
def rY(i:Nat)(c:Int):Sh:=.mX [.sl 0 0 fun _=>[],.agg [.i .i64 c,.os 3 1 1 (nM [[.i .i64 (i:Int)]])]]
structure YP(n:Nat)(o:Nat->Oj)(k:Nat)(tx:Nat->Rc)(c:Nat)(gc:Nat->List Sh)(e:Ev)(q:Int):Prop where
 hq:mM.eq q 400=ag
 on:F8 n o e=0
 ht:okB MN k (uw tx)=ah
 hk:k<=1000
 hc:okB Int c gc=ah
 hl:c<=1000
 hd:∀j,j<k->(tx j).mV.length<=1000
end Go.Pl
namespace Go.Proofs
open Go Go.Sx Go.Pl
open Go.oz (Ev Hr De Rc)
section
variable{H0:Mem}{w0:World}{φ:Sh->Prop}{n m:Nat}{o:Nat->Oj}{ev:Nat->List Sh}{k c:Nat}{tx:Nat->Rc}{gc:Nat->List Sh}{ft:Int}{fk:Nat}{fg:Nat->List Sh}{i:Nat}{q:Int}{e:Ev}
theorem ajb{f:Nat->Bool}:∀r k,KG f k r<((k+r:Nat):Int)
 |0,k=>by unfold KG;omega |r+1,k=>by
  unfold KG;split
  ·omega
  ·have:=ajb (f:=f) r (k+1);omega
theorem wB(h:mM.lt (jX tx k e) 0=ag):mM.inB (jX tx k e) k=ah:=by
 have:=ajb (f:=fun j=>(mP (α:=MN) (uw tx) j).id==e.tx) k 0;simp_all [jX,mW,fdX,nN]
theorem DZ(P:YP n o k tx c gc e q)(h:mM.lt (jX tx k e) 0=ag):(tx (mM.toN (jX tx k e))).mV.length<=1000:=by
 have:=wB h;simp[nN] at this;exact P.hd _ (by simp[oZ];omega)
theorem atL(P:YP n o k tx c gc e q):decide (F8 n (mP (mO o)) e=0)=ah:=by
 rw[show mP (mO o)=o from yj o];exact decide_eq_true P.on
theorem JU{kd:Int}(P:YP n o k tx c gc e q)(ke:e.kind=kd):decide (F8 n (mP (mO o)) ⟨kd,e.tx,e.thread,e.obj,e.op,e.key,e.val,e.ret⟩=0)=ah:=by subst ke;exact atL P
theorem acG{r:Rc}(hd:r.mV.length<=1000)(h:wX r=ah):mM.inB (mM.sub .i64 (mM.nK r.mV.length) 1) r.mV.length=ah:=by
 grind [wX,Yv,uy,nN]
theorem akJ(P:YP n o k tx c gc e q)(ke:e.kind=1)(hr:mM.room (k+1) 72=ah)(hb:∀x:Int,x≠0->(bif mM.le 0 (jX tx k e) then 114 else bif mM.le 0 (bX tx k e) then 115 else 0)=x->φ (rY i x))
  (hgo:(bif mM.le 0 (jX tx k e) then 114 else bif mM.le 0 (bX tx k e) then 115 else 0:Int)=0->mY ai (yS mM W7 uX mZ) (K0 H0 w0) 13 vO (wJ n o m ev (k+1) (mM.snoc (uw tx) k (nM [[.i .i64 e.tx,.i .i64 e.thread,.i .i64 1,.i .i64 q,.i .i64 (-1),.i .i64 (-1),.sl 0 0 fun _=>[]]])) c gc ft fk fg (mM.add .i64 (i:Int) 1) (mM.add .i64 q 1)) [] emp φ) :
  mY ai (yS mM W7 uX mZ) (K0 H0 w0) 13 Hw (Ou n o m ev k (uw tx) c gc ft fk fg (i:Nat) q (Z5 1 e)) [] emp φ:=by
 refine qg (JL _) 300 800 [⟨13,vO,(wJ n o m ev (k+1) (mM.snoc (uw tx) k (nM [[.i .i64 e.tx,.i .i64 e.thread,.i .i64 1,.i .i64 q,.i .i64 (-1),.i .i64 (-1),.sl 0 0 fun _=>[]]])) c gc ft fk fg (mM.add .i64 (i:Int) 1) (mM.add .i64 q 1)),[]⟩] ?_;exact rQ (nd (mM.eq q 400) (fun a=>(MB P.hq a:φ (rY i 105))) fun _=>an (o9 o n) (an (JU P ke) (an P.ht (an (decide_eq_true P.hk) (nd (mM.le 0 (jX tx k e)) (fun a=>(hb 114 (by decide) (by rw[a];rfl):φ (rY i 114))) fun a=>an P.ht (an (decide_eq_true P.hk) (nd (mM.le 0 (bX tx k e)) (fun b=>(hb 115 (by decide) (by grind):φ (rY i 115))) fun b=>an hr (an hr (hgo (by grind):mY ai (yS mM W7 uX mZ) (K0 H0 w0) 13 vO (wJ n o m ev (k+1) (mM.snoc (uw tx) k (nM [[.i .i64 e.tx,.i .i64 e.thread,.i .i64 1,.i .i64 q,.i .i64 (-1),.i .i64 (-1),.sl 0 0 fun _=>[]]])) c gc ft fk fg (mM.add .i64 (i:Int) 1) (mM.add .i64 q 1)) [] emp φ)))))))))
theorem akK(P:YP n o k tx c gc e q)(ke:e.kind=2)(hr:mM.lt (jX tx k e) 0=ag->mM.room ((tx (mM.toN (jX tx k e))).mV.length+1) 64=ah)(hb:∀x:Int,x≠0->(bif mM.lt (jX tx k e) 0 then 113 else bif mM.le 0 (tx (mM.toN (jX tx k e))).en then 116 else bif mM.le 0 (tx (mM.toN (jX tx k e))).tr then 116 else bif mM.nt (cX gc c (tx (mM.toN (jX tx k e)))) then bif mM.nt (mM.nt (wX (tx (mM.toN (jX tx k e))))) then 116 else 0 else 116)=x->φ (rY i x))
  (hgo:(bif mM.lt (jX tx k e) 0 then 113 else bif mM.le 0 (tx (mM.toN (jX tx k e))).en then 116 else bif mM.le 0 (tx (mM.toN (jX tx k e))).tr then 116 else bif mM.nt (cX gc c (tx (mM.toN (jX tx k e)))) then bif mM.nt (mM.nt (wX (tx (mM.toN (jX tx k e))))) then 116 else 0 else 116:Int)=0->mY ai (yS mM W7 uX mZ) (K0 H0 w0) 13 vO (wJ n o m ev k (mM.upd (uw tx) (mM.toN (jX tx k e)) 0 (BU (tx (mM.toN (jX tx k e))) (tx (mM.toN (jX tx k e))).st (tx (mM.toN (jX tx k e))).en (tx (mM.toN (jX tx k e))).tr (.sl 8 ((tx (mM.toN (jX tx k e))).mV.length+1) (mM.snoc (aE (aQ (tx (mM.toN (jX tx k e))).mV)) (tx (mM.toN (jX tx k e))).mV.length (nM [[.i .i64 e.obj,.i .i64 e.op,.i .i64 e.key,.i .i64 e.val,.i .i64 0,.i .i64 0,.i .i64 q,.i .i64 (-1)]]))))) c gc ft fk fg (mM.add .i64 (i:Int) 1) (mM.add .i64 q 1)) [] emp φ) :
  mY ai (yS mM W7 uX mZ) (K0 H0 w0) 13 Hw (Ou n o m ev k (uw tx) c gc ft fk fg (i:Nat) q (Z5 2 e)) [] emp φ:=by
 refine qg (JL _) 300 800 [⟨13,vO,(wJ n o m ev k (mM.upd (uw tx) (mM.toN (jX tx k e)) 0 (BU (tx (mM.toN (jX tx k e))) (tx (mM.toN (jX tx k e))).st (tx (mM.toN (jX tx k e))).en (tx (mM.toN (jX tx k e))).tr (.sl 8 ((tx (mM.toN (jX tx k e))).mV.length+1) (mM.snoc (aE (aQ (tx (mM.toN (jX tx k e))).mV)) (tx (mM.toN (jX tx k e))).mV.length (nM [[.i .i64 e.obj,.i .i64 e.op,.i .i64 e.key,.i .i64 e.val,.i .i64 0,.i .i64 0,.i .i64 q,.i .i64 (-1)]]))))) c gc ft fk fg (mM.add .i64 (i:Int) 1) (mM.add .i64 q 1)),[]⟩] ?_;exact rQ (nd (mM.eq q 400) (fun a=>(MB P.hq a:φ (rY i 105))) fun _=>an (o9 o n) (an (JU P ke) (an P.ht (an (decide_eq_true P.hk) (nd (mM.lt (jX tx k e) 0) (fun a=>(hb 113 (by decide) (by rw[a];rfl):φ (rY i 113))) fun j0=>an (wB j0) (nd (mM.le 0 (tx (mM.toN (jX tx k e))).en) (fun a=>(hb 116 (by decide) (by grind):φ (rY i 116))) fun a=>nd (mM.le 0 (tx (mM.toN (jX tx k e))).tr) (fun b=>(hb 116 (by decide) (by simp_all):φ (rY i 116))) fun b=>an P.hc (an (decide_eq_true P.hl) (nd (mM.nt (cX gc c (tx (mM.toN (jX tx k e))))) (fun x=>an (bM (aQ (tx (mM.toN (jX tx k e))).mV) (tx (mM.toN (jX tx k e))).mV.length) (an (decide_eq_true (DZ P j0)) (nd (mM.nt (mM.nt (wX (tx (mM.toN (jX tx k e)))))) (fun y=>(hb 116 (by decide) (by simp_all):φ (rY i 116))) fun y=>an P.ht (an (decide_eq_true P.hk) (an (wB j0) (an (bM (aQ (tx (mM.toN (jX tx k e))).mV) (tx (mM.toN (jX tx k e))).mV.length) (an (decide_eq_true (DZ P j0)) (an (hr j0) (an (wB j0) (hgo (by simp_all):mY ai (yS mM W7 uX mZ) (K0 H0 w0) 13 vO (wJ n o m ev k (mM.upd (uw tx) (mM.toN (jX tx k e)) 0 (BU (tx (mM.toN (jX tx k e))) (tx (mM.toN (jX tx k e))).st (tx (mM.toN (jX tx k e))).en (tx (mM.toN (jX tx k e))).tr (.sl 8 ((tx (mM.toN (jX tx k e))).mV.length+1) (mM.snoc (aE (aQ (tx (mM.toN (jX tx k e))).mV)) (tx (mM.toN (jX tx k e))).mV.length (nM [[.i .i64 e.obj,.i .i64 e.op,.i .i64 e.key,.i .i64 e.val,.i .i64 0,.i .i64 0,.i .i64 q,.i .i64 (-1)]]))))) c gc ft fk fg (mM.add .i64 (i:Int) 1) (mM.add .i64 q 1)) [] emp φ)))))))))) fun x=>(hb 116 (by decide) (by simp_all):φ (rY i 116))))))))))
theorem akL(P:YP n o k tx c gc e q)(ke:e.kind=3)(hb:∀x:Int,x≠0->(bif mM.lt (jX tx k e) 0 then 113 else bif mM.le 0 (tx (mM.toN (jX tx k e))).en then 116 else bif mM.le 0 (tx (mM.toN (jX tx k e))).tr then 116 else bif mM.nt (cX gc c (tx (mM.toN (jX tx k e)))) then bif mM.nt (wX (tx (mM.toN (jX tx k e)))) then 116 else bif mM.nt (fX (tx (mM.toN (jX tx k e))) e) then 112 else 0 else 116)=x->φ (rY i x))
  (hgo:(bif mM.lt (jX tx k e) 0 then 113 else bif mM.le 0 (tx (mM.toN (jX tx k e))).en then 116 else bif mM.le 0 (tx (mM.toN (jX tx k e))).tr then 116 else bif mM.nt (cX gc c (tx (mM.toN (jX tx k e)))) then bif mM.nt (wX (tx (mM.toN (jX tx k e)))) then 116 else bif mM.nt (fX (tx (mM.toN (jX tx k e))) e) then 112 else 0 else 116:Int)=0->mY ai (yS mM W7 uX mZ) (K0 H0 w0) 13 vO (wJ n o m ev k (mM.upd (uw tx) (mM.toN (jX tx k e)) 0 (BU (tx (mM.toN (jX tx k e))) (tx (mM.toN (jX tx k e))).st (tx (mM.toN (jX tx k e))).en (tx (mM.toN (jX tx k e))).tr (.sl 8 (tx (mM.toN (jX tx k e))).mV.length (mM.upd (mM.upd (mM.upd (aE (aQ (tx (mM.toN (jX tx k e))).mV)) (mM.toN (mM.sub .i64 (mM.nK (tx (mM.toN (jX tx k e))).mV.length) 1)) 4 [.i .i64 e.ret]) (mM.toN (mM.sub .i64 (mM.nK (tx (mM.toN (jX tx k e))).mV.length) 1)) 5 [.i .i64 e.val]) (mM.toN (mM.sub .i64 (mM.nK (tx (mM.toN (jX tx k e))).mV.length) 1)) 7 [.i .i64 q])))) c gc ft fk fg (mM.add .i64 (i:Int) 1) (mM.add .i64 q 1)) [] emp φ) :
  mY ai (yS mM W7 uX mZ) (K0 H0 w0) 13 Hw (Ou n o m ev k (uw tx) c gc ft fk fg (i:Nat) q (Z5 3 e)) [] emp φ:=by
 refine qg (JL _) 300 800 [⟨13,vO,(wJ n o m ev k (mM.upd (uw tx) (mM.toN (jX tx k e)) 0 (BU (tx (mM.toN (jX tx k e))) (tx (mM.toN (jX tx k e))).st (tx (mM.toN (jX tx k e))).en (tx (mM.toN (jX tx k e))).tr (.sl 8 (tx (mM.toN (jX tx k e))).mV.length (mM.upd (mM.upd (mM.upd (aE (aQ (tx (mM.toN (jX tx k e))).mV)) (mM.toN (mM.sub .i64 (mM.nK (tx (mM.toN (jX tx k e))).mV.length) 1)) 4 [.i .i64 e.ret]) (mM.toN (mM.sub .i64 (mM.nK (tx (mM.toN (jX tx k e))).mV.length) 1)) 5 [.i .i64 e.val]) (mM.toN (mM.sub .i64 (mM.nK (tx (mM.toN (jX tx k e))).mV.length) 1)) 7 [.i .i64 q])))) c gc ft fk fg (mM.add .i64 (i:Int) 1) (mM.add .i64 q 1)),[]⟩] ?_;exact rQ (nd (mM.eq q 400) (fun a=>(MB P.hq a:φ (rY i 105))) fun _=>an (o9 o n) (an (JU P ke) (an P.ht (an (decide_eq_true P.hk) (nd (mM.lt (jX tx k e) 0) (fun a=>(hb 113 (by decide) (by rw[a];rfl):φ (rY i 113))) fun j0=>an (wB j0) (nd (mM.le 0 (tx (mM.toN (jX tx k e))).en) (fun a=>(hb 116 (by decide) (by grind):φ (rY i 116))) fun a=>nd (mM.le 0 (tx (mM.toN (jX tx k e))).tr) (fun b=>(hb 116 (by decide) (by simp_all):φ (rY i 116))) fun b=>an P.hc (an (decide_eq_true P.hl) (nd (mM.nt (cX gc c (tx (mM.toN (jX tx k e))))) (fun x=>an (bM (aQ (tx (mM.toN (jX tx k e))).mV) (tx (mM.toN (jX tx k e))).mV.length) (an (decide_eq_true (DZ P j0)) (nd (mM.nt (wX (tx (mM.toN (jX tx k e))))) (fun y=>(hb 116 (by decide) (by simp_all):φ (rY i 116))) fun y=>an (acG (DZ P j0) (by grind [oL])) (nd (mM.nt (fX (tx (mM.toN (jX tx k e))) e)) (fun z=>(hb 112 (by decide) (by simp_all):φ (rY i 112))) fun z=>an P.ht (an (decide_eq_true P.hk) (an (wB j0) (an (bM (aQ (tx (mM.toN (jX tx k e))).mV) (tx (mM.toN (jX tx k e))).mV.length) (an (decide_eq_true (DZ P j0)) (an (acG (DZ P j0) (by grind [oL])) (an (acG (DZ P j0) (by grind [oL])) (an (acG (DZ P j0) (by grind [oL])) (an (wB j0) (hgo (by simp_all):mY ai (yS mM W7 uX mZ) (K0 H0 w0) 13 vO (wJ n o m ev k (mM.upd (uw tx) (mM.toN (jX tx k e)) 0 (BU (tx (mM.toN (jX tx k e))) (tx (mM.toN (jX tx k e))).st (tx (mM.toN (jX tx k e))).en (tx (mM.toN (jX tx k e))).tr (.sl 8 (tx (mM.toN (jX tx k e))).mV.length (mM.upd (mM.upd (mM.upd (aE (aQ (tx (mM.toN (jX tx k e))).mV)) (mM.toN (mM.sub .i64 (mM.nK (tx (mM.toN (jX tx k e))).mV.length) 1)) 4 [.i .i64 e.ret]) (mM.toN (mM.sub .i64 (mM.nK (tx (mM.toN (jX tx k e))).mV.length) 1)) 5 [.i .i64 e.val]) (mM.toN (mM.sub .i64 (mM.nK (tx (mM.toN (jX tx k e))).mV.length) 1)) 7 [.i .i64 q])))) c gc ft fk fg (mM.add .i64 (i:Int) 1) (mM.add .i64 q 1)) [] emp φ))))))))))))) fun x=>(hb 116 (by decide) (by simp_all):φ (rY i 116))))))))))
theorem akM(P:YP n o k tx c gc e q)(ke:e.kind=4)(hb:∀x:Int,x≠0->(bif mM.lt (jX tx k e) 0 then 113 else bif mM.le 0 (tx (mM.toN (jX tx k e))).en then 116 else bif mM.le 0 (tx (mM.toN (jX tx k e))).tr then 116 else bif mM.nt (cX gc c (tx (mM.toN (jX tx k e)))) then bif mM.nt (mM.nt (wX (tx (mM.toN (jX tx k e))))) then 116 else 0 else 116)=x->φ (rY i x))
  (hgo:(bif mM.lt (jX tx k e) 0 then 113 else bif mM.le 0 (tx (mM.toN (jX tx k e))).en then 116 else bif mM.le 0 (tx (mM.toN (jX tx k e))).tr then 116 else bif mM.nt (cX gc c (tx (mM.toN (jX tx k e)))) then bif mM.nt (mM.nt (wX (tx (mM.toN (jX tx k e))))) then 116 else 0 else 116:Int)=0->mY ai (yS mM W7 uX mZ) (K0 H0 w0) 13 vO (wJ n o m ev k (mM.upd (uw tx) (mM.toN (jX tx k e)) 0 (BU (tx (mM.toN (jX tx k e))) 2 (tx (mM.toN (jX tx k e))).en q (.sl 8 (tx (mM.toN (jX tx k e))).mV.length (aE (aQ (tx (mM.toN (jX tx k e))).mV))))) c gc ft fk fg (mM.add .i64 (i:Int) 1) (mM.add .i64 q 1)) [] emp φ) :
  mY ai (yS mM W7 uX mZ) (K0 H0 w0) 13 Hw (Ou n o m ev k (uw tx) c gc ft fk fg (i:Nat) q (Z5 4 e)) [] emp φ:=by
 refine qg (JL _) 300 800 [⟨13,vO,(wJ n o m ev k (mM.upd (uw tx) (mM.toN (jX tx k e)) 0 (BU (tx (mM.toN (jX tx k e))) 2 (tx (mM.toN (jX tx k e))).en q (.sl 8 (tx (mM.toN (jX tx k e))).mV.length (aE (aQ (tx (mM.toN (jX tx k e))).mV))))) c gc ft fk fg (mM.add .i64 (i:Int) 1) (mM.add .i64 q 1)),[]⟩] ?_;exact rQ (nd (mM.eq q 400) (fun a=>(MB P.hq a:φ (rY i 105))) fun _=>an (o9 o n) (an (JU P ke) (an P.ht (an (decide_eq_true P.hk) (nd (mM.lt (jX tx k e) 0) (fun a=>(hb 113 (by decide) (by rw[a];rfl):φ (rY i 113))) fun j0=>an (wB j0) (nd (mM.le 0 (tx (mM.toN (jX tx k e))).en) (fun a=>(hb 116 (by decide) (by grind):φ (rY i 116))) fun a=>nd (mM.le 0 (tx (mM.toN (jX tx k e))).tr) (fun b=>(hb 116 (by decide) (by simp_all):φ (rY i 116))) fun b=>an P.hc (an (decide_eq_true P.hl) (nd (mM.nt (cX gc c (tx (mM.toN (jX tx k e))))) (fun x=>an (bM (aQ (tx (mM.toN (jX tx k e))).mV) (tx (mM.toN (jX tx k e))).mV.length) (an (decide_eq_true (DZ P j0)) (nd (mM.nt (mM.nt (wX (tx (mM.toN (jX tx k e)))))) (fun y=>(hb 116 (by decide) (by simp_all):φ (rY i 116))) fun y=>an P.ht (an (decide_eq_true P.hk) (an (wB j0) (an (bM (aQ (tx (mM.toN (jX tx k e))).mV) (tx (mM.toN (jX tx k e))).mV.length) (an (decide_eq_true (DZ P j0)) (an (wB j0) (hgo (by simp_all):mY ai (yS mM W7 uX mZ) (K0 H0 w0) 13 vO (wJ n o m ev k (mM.upd (uw tx) (mM.toN (jX tx k e)) 0 (BU (tx (mM.toN (jX tx k e))) 2 (tx (mM.toN (jX tx k e))).en q (.sl 8 (tx (mM.toN (jX tx k e))).mV.length (aE (aQ (tx (mM.toN (jX tx k e))).mV))))) c gc ft fk fg (mM.add .i64 (i:Int) 1) (mM.add .i64 q 1)) [] emp φ))))))))) fun x=>(hb 116 (by decide) (by simp_all):φ (rY i 116))))))))))
theorem akN(P:YP n o k tx c gc e q)(ke:e.kind=5)(hb:∀x:Int,x≠0->(bif mM.lt (jX tx k e) 0 then 113 else bif mM.le 0 (tx (mM.toN (jX tx k e))).en then 116 else bif mM.nt (mM.le 0 (tx (mM.toN (jX tx k e))).tr) then 116 else 0)=x->φ (rY i x))
  (hgo:(bif mM.lt (jX tx k e) 0 then 113 else bif mM.le 0 (tx (mM.toN (jX tx k e))).en then 116 else bif mM.nt (mM.le 0 (tx (mM.toN (jX tx k e))).tr) then 116 else 0:Int)=0->mY ai (yS mM W7 uX mZ) (K0 H0 w0) 13 vO (wJ n o m ev k (mM.upd (uw tx) (mM.toN (jX tx k e)) 0 (BU (tx (mM.toN (jX tx k e))) 3 q (tx (mM.toN (jX tx k e))).tr (.sl 8 (tx (mM.toN (jX tx k e))).mV.length (aE (aQ (tx (mM.toN (jX tx k e))).mV))))) c gc ft fk fg (mM.add .i64 (i:Int) 1) (mM.add .i64 q 1)) [] emp φ) :
  mY ai (yS mM W7 uX mZ) (K0 H0 w0) 13 Hw (Ou n o m ev k (uw tx) c gc ft fk fg (i:Nat) q (Z5 5 e)) [] emp φ:=by
 refine qg (JL _) 300 800 [⟨13,vO,(wJ n o m ev k (mM.upd (uw tx) (mM.toN (jX tx k e)) 0 (BU (tx (mM.toN (jX tx k e))) 3 q (tx (mM.toN (jX tx k e))).tr (.sl 8 (tx (mM.toN (jX tx k e))).mV.length (aE (aQ (tx (mM.toN (jX tx k e))).mV))))) c gc ft fk fg (mM.add .i64 (i:Int) 1) (mM.add .i64 q 1)),[]⟩] ?_;exact rQ (nd (mM.eq q 400) (fun a=>(MB P.hq a:φ (rY i 105))) fun _=>an (o9 o n) (an (JU P ke) (an P.ht (an (decide_eq_true P.hk) (nd (mM.lt (jX tx k e) 0) (fun a=>(hb 113 (by decide) (by rw[a];rfl):φ (rY i 113))) fun j0=>an (wB j0) (nd (mM.le 0 (tx (mM.toN (jX tx k e))).en) (fun a=>(hb 116 (by decide) (by grind):φ (rY i 116))) fun a=>nd (mM.le 0 (tx (mM.toN (jX tx k e))).tr) (fun b=>nd (mM.nt (mM.le 0 (tx (mM.toN (jX tx k e))).tr)) (fun y=>(hb 116 (by decide) (by simp_all):φ (rY i 116))) fun y=>an P.ht (an (decide_eq_true P.hk) (an (wB j0) (an (bM (aQ (tx (mM.toN (jX tx k e))).mV) (tx (mM.toN (jX tx k e))).mV.length) (an (decide_eq_true (DZ P j0)) (an (wB j0) (hgo (by simp_all):mY ai (yS mM W7 uX mZ) (K0 H0 w0) 13 vO (wJ n o m ev k (mM.upd (uw tx) (mM.toN (jX tx k e)) 0 (BU (tx (mM.toN (jX tx k e))) 3 q (tx (mM.toN (jX tx k e))).tr (.sl 8 (tx (mM.toN (jX tx k e))).mV.length (aE (aQ (tx (mM.toN (jX tx k e))).mV))))) c gc ft fk fg (mM.add .i64 (i:Int) 1) (mM.add .i64 q 1)) [] emp φ))))))) fun b=>an P.hc (an (decide_eq_true P.hl) (nd (mM.nt (mM.le 0 (tx (mM.toN (jX tx k e))).tr)) (fun y=>(hb 116 (by decide) (by simp_all):φ (rY i 116))) fun y=>an P.ht (an (decide_eq_true P.hk) (an (wB j0) (an (bM (aQ (tx (mM.toN (jX tx k e))).mV) (tx (mM.toN (jX tx k e))).mV.length) (an (decide_eq_true (DZ P j0)) (an (wB j0) (hgo (by simp_all):mY ai (yS mM W7 uX mZ) (K0 H0 w0) 13 vO (wJ n o m ev k (mM.upd (uw tx) (mM.toN (jX tx k e)) 0 (BU (tx (mM.toN (jX tx k e))) 3 q (tx (mM.toN (jX tx k e))).tr (.sl 8 (tx (mM.toN (jX tx k e))).mV.length (aE (aQ (tx (mM.toN (jX tx k e))).mV))))) c gc ft fk fg (mM.add .i64 (i:Int) 1) (mM.add .i64 q 1)) [] emp φ))))))))))))))
theorem akO(P:YP n o k tx c gc e q)(ke:e.kind=6)(hb:∀x:Int,x≠0->(bif mM.lt (jX tx k e) 0 then 113 else bif mM.le 0 (tx (mM.toN (jX tx k e))).en then 116 else 0)=x->φ (rY i x))
  (hgo:(bif mM.lt (jX tx k e) 0 then 113 else bif mM.le 0 (tx (mM.toN (jX tx k e))).en then 116 else 0:Int)=0->mY ai (yS mM W7 uX mZ) (K0 H0 w0) 13 vO (wJ n o m ev k (mM.upd (uw tx) (mM.toN (jX tx k e)) 0 (BU (tx (mM.toN (jX tx k e))) 4 q (tx (mM.toN (jX tx k e))).tr (.sl 8 (tx (mM.toN (jX tx k e))).mV.length (aE (aQ (tx (mM.toN (jX tx k e))).mV))))) c gc ft fk fg (mM.add .i64 (i:Int) 1) (mM.add .i64 q 1)) [] emp φ) :
  mY ai (yS mM W7 uX mZ) (K0 H0 w0) 13 Hw (Ou n o m ev k (uw tx) c gc ft fk fg (i:Nat) q (Z5 6 e)) [] emp φ:=by
 refine qg (JL _) 300 800 [⟨13,vO,(wJ n o m ev k (mM.upd (uw tx) (mM.toN (jX tx k e)) 0 (BU (tx (mM.toN (jX tx k e))) 4 q (tx (mM.toN (jX tx k e))).tr (.sl 8 (tx (mM.toN (jX tx k e))).mV.length (aE (aQ (tx (mM.toN (jX tx k e))).mV))))) c gc ft fk fg (mM.add .i64 (i:Int) 1) (mM.add .i64 q 1)),[]⟩] ?_;exact rQ (nd (mM.eq q 400) (fun a=>(MB P.hq a:φ (rY i 105))) fun _=>an (o9 o n) (an (JU P ke) (an P.ht (an (decide_eq_true P.hk) (nd (mM.lt (jX tx k e) 0) (fun a=>(hb 113 (by decide) (by rw[a];rfl):φ (rY i 113))) fun j0=>an (wB j0) (nd (mM.le 0 (tx (mM.toN (jX tx k e))).en) (fun a=>(hb 116 (by decide) (by grind):φ (rY i 116))) fun a=>nd (mM.le 0 (tx (mM.toN (jX tx k e))).tr) (fun b=>an P.ht (an (decide_eq_true P.hk) (an (wB j0) (an (bM (aQ (tx (mM.toN (jX tx k e))).mV) (tx (mM.toN (jX tx k e))).mV.length) (an (decide_eq_true (DZ P j0)) (an (wB j0) (hgo (by grind):mY ai (yS mM W7 uX mZ) (K0 H0 w0) 13 vO (wJ n o m ev k (mM.upd (uw tx) (mM.toN (jX tx k e)) 0 (BU (tx (mM.toN (jX tx k e))) 4 q (tx (mM.toN (jX tx k e))).tr (.sl 8 (tx (mM.toN (jX tx k e))).mV.length (aE (aQ (tx (mM.toN (jX tx k e))).mV))))) c gc ft fk fg (mM.add .i64 (i:Int) 1) (mM.add .i64 q 1)) [] emp φ))))))) fun b=>an P.hc (an (decide_eq_true P.hl) (an P.ht (an (decide_eq_true P.hk) (an (wB j0) (an (bM (aQ (tx (mM.toN (jX tx k e))).mV) (tx (mM.toN (jX tx k e))).mV.length) (an (decide_eq_true (DZ P j0)) (an (wB j0) (hgo (by grind):mY ai (yS mM W7 uX mZ) (K0 H0 w0) 13 vO (wJ n o m ev k (mM.upd (uw tx) (mM.toN (jX tx k e)) 0 (BU (tx (mM.toN (jX tx k e))) 4 q (tx (mM.toN (jX tx k e))).tr (.sl 8 (tx (mM.toN (jX tx k e))).mV.length (aE (aQ (tx (mM.toN (jX tx k e))).mV))))) c gc ft fk fg (mM.add .i64 (i:Int) 1) (mM.add .i64 q 1)) [] emp φ))))))))))))))
theorem akP(P:YP n o k tx c gc e q)(ke:e.kind=7)(hr:mM.room (c+1) 8=ah)(hb:∀x:Int,x≠0->(bif mM.lt (jX tx k e) 0 then 113 else bif mM.le 0 (tx (mM.toN (jX tx k e))).en then 116 else bif mM.le 0 (tx (mM.toN (jX tx k e))).tr then 116 else bif mM.nt (cX gc c (tx (mM.toN (jX tx k e)))) then bif mM.nt (mM.nt (wX (tx (mM.toN (jX tx k e))))) then 116 else 0 else 116)=x->φ (rY i x))
  (hgo:(bif mM.lt (jX tx k e) 0 then 113 else bif mM.le 0 (tx (mM.toN (jX tx k e))).en then 116 else bif mM.le 0 (tx (mM.toN (jX tx k e))).tr then 116 else bif mM.nt (cX gc c (tx (mM.toN (jX tx k e)))) then bif mM.nt (mM.nt (wX (tx (mM.toN (jX tx k e))))) then 116 else 0 else 116:Int)=0->mY ai (yS mM W7 uX mZ) (K0 H0 w0) 13 vO (wJ n o m ev k (mM.upd (uw tx) (mM.toN (jX tx k e)) 0 (BU (tx (mM.toN (jX tx k e))) (tx (mM.toN (jX tx k e))).st (tx (mM.toN (jX tx k e))).en (tx (mM.toN (jX tx k e))).tr (.sl 8 (tx (mM.toN (jX tx k e))).mV.length (aE (aQ (tx (mM.toN (jX tx k e))).mV))))) (c+1) (mM.snoc gc c (nM [[.i .i64 (tx (mM.toN (jX tx k e))).id]])) ft fk fg (mM.add .i64 (i:Int) 1) (mM.add .i64 q 1)) [] emp φ) :
  mY ai (yS mM W7 uX mZ) (K0 H0 w0) 13 Hw (Ou n o m ev k (uw tx) c gc ft fk fg (i:Nat) q (Z5 7 e)) [] emp φ:=by
 refine qg (JL _) 300 800 [⟨13,vO,(wJ n o m ev k (mM.upd (uw tx) (mM.toN (jX tx k e)) 0 (BU (tx (mM.toN (jX tx k e))) (tx (mM.toN (jX tx k e))).st (tx (mM.toN (jX tx k e))).en (tx (mM.toN (jX tx k e))).tr (.sl 8 (tx (mM.toN (jX tx k e))).mV.length (aE (aQ (tx (mM.toN (jX tx k e))).mV))))) (c+1) (mM.snoc gc c (nM [[.i .i64 (tx (mM.toN (jX tx k e))).id]])) ft fk fg (mM.add .i64 (i:Int) 1) (mM.add .i64 q 1)),[]⟩] ?_;exact rQ (nd (mM.eq q 400) (fun a=>(MB P.hq a:φ (rY i 105))) fun _=>an (o9 o n) (an (JU P ke) (an P.ht (an (decide_eq_true P.hk) (nd (mM.lt (jX tx k e) 0) (fun a=>(hb 113 (by decide) (by rw[a];rfl):φ (rY i 113))) fun j0=>an (wB j0) (nd (mM.le 0 (tx (mM.toN (jX tx k e))).en) (fun a=>(hb 116 (by decide) (by grind):φ (rY i 116))) fun a=>nd (mM.le 0 (tx (mM.toN (jX tx k e))).tr) (fun b=>(hb 116 (by decide) (by simp_all):φ (rY i 116))) fun b=>an P.hc (an (decide_eq_true P.hl) (nd (mM.nt (cX gc c (tx (mM.toN (jX tx k e))))) (fun x=>an (bM (aQ (tx (mM.toN (jX tx k e))).mV) (tx (mM.toN (jX tx k e))).mV.length) (an (decide_eq_true (DZ P j0)) (nd (mM.nt (mM.nt (wX (tx (mM.toN (jX tx k e)))))) (fun y=>(hb 116 (by decide) (by simp_all):φ (rY i 116))) fun y=>an P.ht (an (decide_eq_true P.hk) (an (wB j0) (an (bM (aQ (tx (mM.toN (jX tx k e))).mV) (tx (mM.toN (jX tx k e))).mV.length) (an (decide_eq_true (DZ P j0)) (an hr (an hr (an (wB j0) (hgo (by simp_all):mY ai (yS mM W7 uX mZ) (K0 H0 w0) 13 vO (wJ n o m ev k (mM.upd (uw tx) (mM.toN (jX tx k e)) 0 (BU (tx (mM.toN (jX tx k e))) (tx (mM.toN (jX tx k e))).st (tx (mM.toN (jX tx k e))).en (tx (mM.toN (jX tx k e))).tr (.sl 8 (tx (mM.toN (jX tx k e))).mV.length (aE (aQ (tx (mM.toN (jX tx k e))).mV))))) (c+1) (mM.snoc gc c (nM [[.i .i64 (tx (mM.toN (jX tx k e))).id]])) ft fk fg (mM.add .i64 (i:Int) 1) (mM.add .i64 q 1)) [] emp φ))))))))))) fun x=>(hb 116 (by decide) (by simp_all):φ (rY i 116))))))))))
end
end Go.Proofs
namespace Go.Pl
open Go Go.Sx Go.Proofs
open Go.oz (Ev Hr De Rc Au oG wO uq)
theorem NI{α:Type}{q:α->Bool}:∀(l:List α) (k:Nat) (f:Nat->Bool),(∀(j:Nat) (x:α),l[j]?=ae x->f (k+j)=q x)->KG f k l.length=match l.findIdx? q with
  |some i=>((k+i:Nat):Int) |none=>-1
 |[],k,f,h=>rfl |a::l,k,f,h=>by
  have h0:f k=q a:=h 0 a rfl;rw[List.length_cons,KG,List.findIdx?_cons,h0];cases hq:q a with
  |true=>rfl |false=>
   simp only[Bool.false_eq_true,if_false];rw[NI (q:=q) l (k+1) f fun j x hj=>by rw[<-h (j+1) x (by grind)];grind];grind
theorem Ug(σ:Au)(e:Ev):jX (oG σ) σ.rs.length e=match σ.yt e.tx with
  |some i=>(i:Int) |none=>-1:=by
 have:=NI (q:=fun r=>r.id==e.tx) σ.rs 0 (fun j=>(mP (α:=MN) (uw (oG σ)) j).id==e.tx) fun j x hj=>by
  rw[cy];show ((oG σ j).id==e.tx)=_;rw[Aw hj]
 simp_all [jX,fdX,Au.yt]
theorem atM{σ:Au}{cs:List Int}(hI:RD σ cs)(hO:σ.OK)(e:Ev):bX (oG σ) σ.rs.length e=match σ.Ba e.thread with
  |some i=>(i:Int) |none=>-1:=by
 have:=NI (q:=fun r=>r.th==e.thread&&r.live) σ.rs 0 (fun j=>(mP (α:=MN) (uw (oG σ)) j).th==e.thread&&decide ((mP (α:=MN) (uw (oG σ)) j).en<0)) fun j x hj=>by
  rw[cy];show ((oG σ j).th==e.thread&&decide ((oG σ j).en<0))=_;rw[Aw hj];have h1:=(hI.st x (aT hj)).en;congr 1;unfold Go.oz.Rc.live;grind
 simp_all [bX,byX,Au.Ba]
theorem Wh(cs:List Int)(r:Rc):cX (mO (nth cs)) cs.length r=cs.contains r.id:=by
 have:=NI (q:=fun x=>x==r.id) cs 0 (fun j=>mP (α:=Int) (mO (nth cs)) j==r.id) fun j x hj=>by
  simp_all [cy,yj,nth]
 unfold cX cnX;grind
theorem acH(r:Rc):wX r=YM r:=by
 rfl
theorem atN{r:Rc}(h:r.mV≠[])(hl:r.mV.length<=1000)(e:Ev):fX r e=wO (r.mV.getLast?.getD dk).op e.ret:=by
 simp_all [iL,fX,iM,oZ,Go.oz.aaY]
def rT(fg:Nat->List Sh)(p:Nat->Ev):Nat->Nat->Au->List Int->Sh
 |_,0,σ,_=>.mX [.os 106 7 σ.rs.length (uw (oG σ)),.agg [.i .i64 0,.sl 1 0 fg]] |i,r+1,σ,cs=>if xJ σ cs (p i)=0 then rT fg p (i+1) r (σ.feed (p i)).2 (RF cs (p i)) else rY i (xJ σ cs (p i))
theorem EU{σ:Au}{i:Nat}{r':Rc}{row:List Sh}{D:Sh}{many:Nat}(hi:i<σ.rs.length)(hrow:row=BU r' r'.st r'.en r'.tr D)(hD:∀(H:Mem) (u:Value),Rep H D u->Rep H (.sl 8 r'.mV.length (aE (aQ r'.mV))) u):
  Gz σ.rs.length (mM.upd (uw (oG σ)) i 0 row) (uw (oG ⟨many,σ.rs.set i r'⟩)):=fun j hj=>by
 subst hrow;rw[ER];by_cases e:j=i
 ·subst e
  have:oG ⟨many,σ.rs.set j r'⟩ j=r':=Aw (by simp[hi]);rw[if_pos rfl];have e2:uw (oG ⟨many,σ.rs.set j r'⟩) j=BU r' r'.st r'.en r'.tr (.sl 8 r'.mV.length (aE (aQ r'.mV))):=by grind [uw,BU]
  rw[e2];refine ⟨rfl,fun a s' h=>?_⟩;match a,h with
  |0,h|1,h|2,h|3,h|4,h|5,h=>exact ⟨s',h,fun _ _ q=>q⟩ |6,h=>
   obtain rfl:=aS h;exact ⟨D,rfl,hD⟩
  |a+7,h=>simp[BU] at h
 ·have:oG ⟨many,σ.rs.set i r'⟩ j=oG σ j:=by
   grind [oG]
  have e2:uw (oG ⟨many,σ.rs.set i r'⟩) j=uw (oG σ) j:=by unfold uw;rw[this]
  rw[if_neg e,e2];exact ⟨rfl,fun a s' h=>⟨s',h,fun _ _ q=>q⟩⟩
theorem akQ{σ:Au}{r':Rc}{row:List Sh}{D:Sh}{many:Nat}(hrow:row=BU r' r'.st r'.en r'.tr D)(hD:∀(H:Mem) (u:Value),Rep H D u->Rep H (.sl 8 r'.mV.length (aE (aQ r'.mV))) u):
  Gz (σ.rs.length+1) (mM.snoc (uw (oG σ)) σ.rs.length (nM [row])) (uw (oG ⟨many,σ.rs++[r']⟩)):=fun j hj=>by
 subst hrow;rw[rH];by_cases e:j<σ.rs.length
 ·have:oG ⟨many,σ.rs++[r']⟩ j=oG σ j:=by
   unfold oG;rw[aO,aO,cj e]
  have e2:uw (oG ⟨many,σ.rs++[r']⟩) j=uw (oG σ) j:=by unfold uw;rw[this]
  rw[if_pos e,e2];exact ⟨rfl,fun a s' h=>⟨s',h,fun _ _ q=>q⟩⟩
 ·obtain rfl:j=σ.rs.length:=by omega
  have:oG ⟨many,σ.rs++[r']⟩ σ.rs.length=r':=Aw (by simp);have e2:uw (oG ⟨many,σ.rs++[r']⟩) σ.rs.length=BU r' r'.st r'.en r'.tr (.sl 8 r'.mV.length (aE (aQ r'.mV))):=by grind [uw,BU]
  rw[if_neg e,dh,e2];refine ⟨rfl,fun a s' h=>?_⟩;match a,h with
  |0,h|1,h|2,h|3,h|4,h|5,h=>exact ⟨s',h,fun _ _ q=>q⟩ |6,h=>
   obtain rfl:=aS h;exact ⟨D,rfl,hD⟩
  |a+7,h=>simp[BU] at h
theorem ahv{l:List De}{d:De}(hd:d=⟨d.obj,d.op,d.key,d.val,d.ret,d.got,d.here,d.back⟩)(H:Mem)(u:Value)(h:Rep H (.sl 8 (l.length+1) (mM.snoc (aE (aQ l)) l.length (nM [[.i .i64 d.obj,.i .i64 d.op,.i .i64 d.key,.i .i64 d.val,.i .i64 d.ret,.i .i64 d.got,.i .i64 d.here,.i .i64 d.back]]))) u):
  Rep H (.sl 8 (l++[d]).length (aE (aQ (l++[d])))) u:=by
 rw[aY];refine qN h fun j hj=>?_
 rw[rH];split
 ·rename_i q
  show dm _=dm _;simp_all [aQ,aO]
 ·rename_i q
  obtain rfl:j=l.length:=by grind
  rw[dh];show _=dm (aQ (l++[d]) l.length);have:aQ (l++[d]) l.length=d:=by simp[aQ]
  rw[this];rfl
theorem akR{l:List De}{e:Ev}{m:Int}(h0:l≠[])(hl:l.length<=1000)(H:Mem)(u:Value)(h:Rep H (.sl 8 l.length (mM.upd (mM.upd (mM.upd (aE (aQ l)) (mM.toN (mM.sub .i64 (mM.nK l.length) 1)) 4 [.i .i64 e.ret]) (mM.toN (mM.sub .i64 (mM.nK l.length) 1)) 5 [.i .i64 e.val]) (mM.toN (mM.sub .i64 (mM.nK l.length) 1)) 7 [.i .i64 m])) u):
  Rep H (.sl 8 (uq (fun d=>{d with ret:=e.ret,got:=e.val,back:=m}) l).length (aE (aQ (uq (fun d=>{d with ret:=e.ret,got:=e.val,back:=m}) l)))) u:=by
 have hp:=iL.2 h0;rw[iM hp hl,show mM.toN ((l.length - 1:Nat):Int)=l.length - 1 from by rfl] at h;rw[Go.oz.BL];refine qN h fun j hj=>?_
 simp only[ER];show _=dm (aQ (uq _ l) j);rw[Go.oz.Gw _ l j hj];by_cases e:j=l.length - 1
 ·simp only[if_pos e];rfl
 ·simp only[if_neg e];rfl
section
variable{σ:Au}{cs:List Int}{e:Ev}
theorem ajc(hI:RD σ cs)(hO:σ.OK)(ke:e.kind=1):(bif mM.le 0 (jX (oG σ) σ.rs.length e) then 114 else bif mM.le 0 (bX (oG σ) σ.rs.length e) then 115 else 0:Int)=xJ σ cs e:=by
 grind [Ug,atM,xJ,tN]
theorem acI(hO:σ.OK)(hl:σ.many<=1000)(ke:e.kind=2\/e.kind=4\/e.kind=7):(bif mM.lt (jX (oG σ) σ.rs.length e) 0 then 113 else bif mM.le 0 (oG σ (mM.toN (jX (oG σ) σ.rs.length e))).en then 116 else bif mM.le 0 (oG σ (mM.toN (jX (oG σ) σ.rs.length e))).tr then 116 else bif mM.nt (cX (mO (nth cs)) cs.length (oG σ (mM.toN (jX (oG σ) σ.rs.length e)))) then bif mM.nt (mM.nt (wX (oG σ (mM.toN (jX (oG σ) σ.rs.length e))))) then 116 else 0 else 116:Int)=xJ σ cs e:=by
 have h1:(e.kind==1)=ag:=by simp;omega
 unfold xJ;rw[Ug];cases h:σ.yt e.tx with
 |none=>simp[h1,mW] |some i=>
  obtain ⟨r,hr,hid⟩:=by_some h;have hd:r.mV.length<=1000:=bL (hO.dl i r hr) hl;simp only[h1,cond_false,mW,oZ,bm,Aw hr,show ¬((i:Int)<0) by omega,decide_false,Wh,acH,hid,oL,tN];grind [JR,decide,YM]
theorem aqH(hO:σ.OK)(hl:σ.many<=1000)(ke:e.kind=3):(bif mM.lt (jX (oG σ) σ.rs.length e) 0 then 113 else bif mM.le 0 (oG σ (mM.toN (jX (oG σ) σ.rs.length e))).en then 116 else bif mM.le 0 (oG σ (mM.toN (jX (oG σ) σ.rs.length e))).tr then 116 else bif mM.nt (cX (mO (nth cs)) cs.length (oG σ (mM.toN (jX (oG σ) σ.rs.length e)))) then bif mM.nt (wX (oG σ (mM.toN (jX (oG σ) σ.rs.length e)))) then 116 else bif mM.nt (fX (oG σ (mM.toN (jX (oG σ) σ.rs.length e))) e) then 112 else 0 else 116:Int)=xJ σ cs e:=by
 have h1:(e.kind==1)=ag:=by simp;omega
 unfold xJ;rw[Ug];cases h:σ.yt e.tx with
 |none=>simp[h1,mW] |some i=>
  obtain ⟨r,hr,hid⟩:=by_some h;have hd:r.mV.length<=1000:=bL (hO.dl i r hr) hl;simp only[h1,cond_false,mW,oZ,bm,Aw hr,show ¬((i:Int)<0) by omega,decide_false,Wh,acH,hid,oL,tN];unfold JR;rw[ke];cases decide (0<=r.en)
  ·(cases decide (0<=r.tr))<;>grind [decide,YM,Yv,atN,wO,dk]
  ·rfl
theorem aqI(hO:σ.OK)(hl:σ.many<=1000)(ke:e.kind=5):(bif mM.lt (jX (oG σ) σ.rs.length e) 0 then 113 else bif mM.le 0 (oG σ (mM.toN (jX (oG σ) σ.rs.length e))).en then 116 else bif mM.nt (mM.le 0 (oG σ (mM.toN (jX (oG σ) σ.rs.length e))).tr) then 116 else 0:Int)=xJ σ cs e:=by
 have h1:(e.kind==1)=ag:=by simp;omega
 unfold xJ;rw[Ug];cases h:σ.yt e.tx with
 |none=>simp[h1,mW] |some i=>
  obtain ⟨r,hr,hid⟩:=by_some h;have hd:r.mV.length<=1000:=bL (hO.dl i r hr) hl;simp only[h1,cond_false,mW,oZ,bm,Aw hr,show ¬((i:Int)<0) by omega,decide_false,oL,tN];unfold JR;grind
theorem aqJ(hO:σ.OK)(hl:σ.many<=1000)(ke:e.kind=6):(bif mM.lt (jX (oG σ) σ.rs.length e) 0 then 113 else bif mM.le 0 (oG σ (mM.toN (jX (oG σ) σ.rs.length e))).en then 116 else 0:Int)=xJ σ cs e:=by
 have h1:(e.kind==1)=ag:=by simp;omega
 unfold xJ;rw[Ug];cases h:σ.yt e.tx with
 |none=>simp[h1,mW] |some i=>
  obtain ⟨r,hr,hid⟩:=by_some h;have hd:r.mV.length<=1000:=bL (hO.dl i r hr) hl;simp only[h1,cond_false,mW,oZ,bm,Aw hr,show ¬((i:Int)<0) by omega,decide_false,tN];simp_all [JR,decide]
end
open Go Go.Sx Go.Proofs
open Go.oz (Ev Hr De Rc Au oG wO uq oQ)
section
variable{σ:Au}{cs:List Int}{e:Ev}
theorem zG(h1:e.kind≠1)(hc:xJ σ cs e=0)(hf:(σ.feed e).1=ao):∃i r r',jX (oG σ) σ.rs.length e=((i:Nat):Int)/\σ.rs[i]?=ae r/\r.id=e.tx/\bD σ.many e r=.inr r'/\(σ.feed e).2=⟨σ.many+1,σ.rs.set i r'⟩:=by
 have b1:(e.kind==1)=ag:=by grind
 rw[Ug];unfold xJ at hc;revert hf;unfold Au.feed;grind [by_some]
theorem TY(h1:e.kind=1)(hf:(σ.feed e).1=ao):(σ.feed e).2=⟨σ.many+1,σ.rs++[⟨e.tx,e.thread,1,σ.many,-1,-1,[],1⟩]⟩:=by
 grind [Au.feed]
end
section
variable{m:Nat}{e:Ev}{r r':Rc}
theorem aqK(ke:e.kind=2)(hs:bD m e r=.inr r'):r'={r with stand:=2,mV:=r.mV++[⟨e.obj,e.op,e.key,e.val,0,0,m,-1⟩]}:=by
 grind [bD]
theorem aqL(ke:e.kind=4)(hs:bD m e r=.inr r'):r'={r with stand:=3,tr:=m,st:=2}:=by
 grind [bD]
theorem aqM(ke:e.kind=7)(hs:bD m e r=.inr r'):r'={r with stand:=4}:=by
 grind [bD]
theorem aqN(ke:e.kind=5)(hs:bD m e r=.inr r'):r'={r with stand:=5,en:=m,st:=3}:=by
 grind [bD]
theorem aqO(ke:e.kind=6)(hs:bD m e r=.inr r'):r'={r with stand:=5,en:=m,st:=4}:=by
 grind [bD]
theorem aqP(ke:e.kind=3)(hs:bD m e r=.inr r'):r.stand=2/\r'={r with stand:=1,mV:=uq (fun d=>{d with ret:=e.ret,got:=e.val,back:=m}) r.mV}:=by
 grind [bD,wO,dk]
end
end Go.Pl
namespace Go.Proofs
open Go Go.Sx Go.Pl
open Go.oz (Ev Hr De Rc Au oG wO uq oQ)
section
variable{H0:Mem}{w0:World}{φ:Sh->Prop}{n m:Nat}{o:Nat->Oj}{p:Nat->Ev}{fg:Nat->List Sh}
theorem GI{ev G gc:Nat->List Sh}{k c fk:Nat}{ft i q i' q':Int}{σ:Au}{cs:List Int}(hk:k=σ.rs.length)(hw:Gz k G (uw (oG σ)))(hc:c=cs.length)(hw2:Gz c gc (mO (nth cs)))(hi:i=i')(hq:q=q')
  (hgo:mY ai (yS mM W7 uX mZ) (K0 H0 w0) 13 vO (wJ n o m ev σ.rs.length (uw (oG σ)) cs.length (mO (nth cs)) ft fk fg i' q') [] emp φ) :
  mY ai (yS mM W7 uX mZ) (K0 H0 w0) 13 vO (wJ n o m ev k G c gc ft fk fg i q) [] emp φ:=by
 subst hk hc hi hq;exact yJ (id:=4) rfl hw (yJ (id:=5) rfl hw2 hgo)
theorem Dt{n:Nat}{G:Nat->List Sh}:Gz n G G:=fun _ _=>⟨rfl,fun _ s' h=>⟨s',h,fun _ _ q=>q⟩⟩
theorem afv(tx:Nat->Rc):∀k,okB MN k (uw tx)=ah
 |0=>rfl |k+1=>by show (okB MN k (uw tx)&&_)=ah;rw[afv tx k];rfl
theorem Rz(hm:m<=400)(hon:∀j,j<m->F8 n o (p j)=0)(hv:∀j,j<m->oQ (p j)=ah):
  ∀r i σ cs,i+r=m->σ.OK->σ.many=i->RD σ cs->φ (rT fg p i r σ cs)->
   mY ai (yS mM W7 uX mZ) (K0 H0 w0) 13 vO (wJ n o m (aE p) σ.rs.length (uw (oG σ)) cs.length (mO (nth cs)) 0 0 fg (i:Nat) (i:Nat)) [] emp φ
 |0,i,σ,cs,hir,hO,hM,hI,hφ=>by
  have:¬i<m:=by omega
  exact GH (p i).kind (fun _=>rfl) (fun _=>hφ) (fun h=>(this h).elim)
 |r+1,i,σ,cs,hir,hO,hM,hI,hφ=>by
  have him:i<m:=by omega
  have hval:=hv i him;have hkd:=Go.oz.Gy hval;have hlen:=hO.len;have hcl:=hI.len;have e1:mM.add .i64 (i:Int) 1=((i+1:Nat):Int):=add1 (by omega);have P:YP n o σ.rs.length (oG σ) cs.length (mO (nth cs)) (p i) (i:Nat):=⟨by simp[nG];omega,hon i him,afv _ _,by omega,o9 _ _,by omega,fun j hj=>by
   have:=hO.dl j _ (Go.oz.JK hj);omega⟩
  unfold rT at hφ;have bad (x:Int) (hx:x≠0) (hc:xJ σ cs (p i)=x):φ (rY i x):=by
   simp_all
  have good (hc:xJ σ cs (p i)=0):((σ.feed (p i)).1=ao/\(σ.feed (p i)).2.OK/\(σ.feed (p i)).2.many=i+1/\RD (σ.feed (p i)).2 (RF cs (p i)))/\
    mY ai (yS mM W7 uX mZ) (K0 H0 w0) 13 vO (wJ n o m (aE p) (σ.feed (p i)).2.rs.length (uw (oG (σ.feed (p i)).2)) (RF cs (p i)).length (mO (nth (RF cs (p i)))) 0 0 fg ((i+1:Nat):Int) ((i+1:Nat):Int)) [] emp φ:=by
   have hf:=(YN hI hO hkd).1 hc;have h2:=hO.feed hval;have h3:=Go.oz.FU hf;have h4:=abg hI hO hkd hf;rw[if_pos hc] at hφ;exact ⟨⟨hf,h2,by omega,h4⟩,Rz hm hon hv r (i+1) _ _ (by omega) h2 (by omega) h4 hφ⟩
  have hcs (h:(p i).kind≠7):RF cs (p i)=cs:=if_neg h;have hkk:(p i).kind=1\/(p i).kind=2\/(p i).kind=3\/(p i).kind=4\/(p i).kind=5\/(p i).kind=6\/(p i).kind=7:=by omega
  rcases hkk with ke|ke|ke|ke|ke|ke|ke
  ·refine GH 1 (fun _=>ke) (fun h=>(h him).elim) fun _=>?_
   refine akJ P ke (room_le (by omega) (by omega)) (fun x hx hc=>bad x hx (by grind [ajc])) fun hc=>?_
   obtain ⟨⟨hf,_⟩,hgo⟩:=good (by grind [ajc]);have hσ:=TY ke hf;rw[hcs (by omega),hσ] at hgo;refine GI (by simp) ?_ rfl Dt e1 e1 hgo;refine akQ (D:=.sl 0 0 fun _=>[]) (by rw[hM];rfl) fun H u h=>?_
   cases h with
   |sl0 _ _ A cap hc=>exact .sl0 _ _ _ _ hc |sl _ _ _ b off cap c h1 h2 h3 h4 h5 h6=>exact .sl0 _ _ _ _ h2
  ·refine GH 2 (fun _=>ke) (fun h=>(h him).elim) fun _=>?_
   have hcd:=acI (σ:=σ) (cs:=cs) (e:=p i) hO (by omega) (.inl ke);refine akK P ke (fun j0=>room_le (by grind [DZ]) (by omega)) (fun x hx hc=>bad x hx (by omega)) fun hc=>?_
   obtain ⟨⟨hf,_⟩,hgo⟩:=good (by omega);obtain ⟨j,r0,r1,hj,hr,hid,hs,hσ⟩:=zG (by omega) (by rw[<-hcd];exact hc) hf;have hlt:=(aJ.1 hr).1;have hjn:mM.toN (jX (oG σ) σ.rs.length (p i))=j:=by grind [oZ]
   rw[hcs (by omega),hσ] at hgo;rw[hjn,Aw hr];have hs:=aqK ke hs;refine GI (by simp) ?_ rfl Dt e1 e1 hgo;exact EU hlt (by rw[hs];rfl) fun H u h=>by
    grind [ahv]
  ·refine GH 3 (fun _=>ke) (fun h=>(h him).elim) fun _=>?_
   have hcd:=aqH (σ:=σ) (cs:=cs) (e:=p i) hO (by omega) ke;refine akL P ke (fun x hx hc=>bad x hx (by omega)) fun hc=>?_
   obtain ⟨⟨hf,_⟩,hgo⟩:=good (by omega);obtain ⟨j,r0,r1,hj,hr,hid,hs,hσ⟩:=zG (by omega) (by rw[<-hcd];exact hc) hf;have hlt:=(aJ.1 hr).1;have hjn:mM.toN (jX (oG σ) σ.rs.length (p i))=j:=by grind [oZ]
   rw[hcs (by omega),hσ] at hgo;rw[hjn,Aw hr];obtain ⟨h2,hs⟩:=aqP ke hs;have hne:=hO.deed j r0 hr h2;have hdl:=hO.dl j r0 hr;refine GI (by simp) ?_ rfl Dt e1 e1 hgo;exact EU hlt (by rw[hs];rfl) fun H u h=>by
    grind [akR]
  ·refine GH 4 (fun _=>ke) (fun h=>(h him).elim) fun _=>?_
   have hcd:=acI (σ:=σ) (cs:=cs) (e:=p i) hO (by omega) (.inr (.inl ke));refine akM P ke (fun x hx hc=>bad x hx (by omega)) fun hc=>?_
   obtain ⟨⟨hf,_⟩,hgo⟩:=good (by omega);obtain ⟨j,r0,r1,hj,hr,hid,hs,hσ⟩:=zG (by omega) (by rw[<-hcd];exact hc) hf;have hlt:=(aJ.1 hr).1;have hjn:mM.toN (jX (oG σ) σ.rs.length (p i))=j:=by grind [oZ]
   rw[hcs (by omega),hσ] at hgo;rw[hjn,Aw hr];have hs:=aqL ke hs;refine GI (by simp) ?_ rfl Dt e1 e1 hgo;exact EU hlt (by rw[hs,hM];rfl) fun H u h=>by simp_all
  ·refine GH 5 (fun _=>ke) (fun h=>(h him).elim) fun _=>?_
   have hcd:=aqI (σ:=σ) (cs:=cs) (e:=p i) hO (by omega) ke;refine akN P ke (fun x hx hc=>bad x hx (by omega)) fun hc=>?_
   obtain ⟨⟨hf,_⟩,hgo⟩:=good (by omega);obtain ⟨j,r0,r1,hj,hr,hid,hs,hσ⟩:=zG (by omega) (by rw[<-hcd];exact hc) hf;have hlt:=(aJ.1 hr).1;have hjn:mM.toN (jX (oG σ) σ.rs.length (p i))=j:=by grind [oZ]
   rw[hcs (by omega),hσ] at hgo;rw[hjn,Aw hr];have hs:=aqN ke hs;refine GI (by simp) ?_ rfl Dt e1 e1 hgo;exact EU hlt (by rw[hs,hM];rfl) fun H u h=>by simp_all
  ·refine GH 6 (fun _=>ke) (fun h=>(h him).elim) fun _=>?_
   have hcd:=aqJ (σ:=σ) (cs:=cs) (e:=p i) hO (by omega) ke;refine akO P ke (fun x hx hc=>bad x hx (by omega)) fun hc=>?_
   obtain ⟨⟨hf,_⟩,hgo⟩:=good (by omega);obtain ⟨j,r0,r1,hj,hr,hid,hs,hσ⟩:=zG (by omega) (by rw[<-hcd];exact hc) hf;have hlt:=(aJ.1 hr).1;have hjn:mM.toN (jX (oG σ) σ.rs.length (p i))=j:=by grind [oZ]
   rw[hcs (by omega),hσ] at hgo;rw[hjn,Aw hr];have hs:=aqO ke hs;refine GI (by simp) ?_ rfl Dt e1 e1 hgo;exact EU hlt (by rw[hs,hM];rfl) fun H u h=>by simp_all
  ·refine GH 7 (fun _=>ke) (fun h=>(h him).elim) fun _=>?_
   have hcd:=acI (σ:=σ) (cs:=cs) (e:=p i) hO (by omega) (.inr (.inr ke));refine akP P ke (room_le (by omega) (by omega)) (fun x hx hc=>bad x hx (by omega)) fun hc=>?_
   obtain ⟨⟨hf,_⟩,hgo⟩:=good (by omega);obtain ⟨j,r0,r1,hj,hr,hid,hs,hσ⟩:=zG (by omega) (by rw[<-hcd];exact hc) hf;have hlt:=(aJ.1 hr).1;have hjn:mM.toN (jX (oG σ) σ.rs.length (p i))=j:=by grind [oZ]
   have avY:RF cs (p i)=cs++[(p i).tx]:=if_pos ke;rw[avY,hσ] at hgo;rw[hjn,Aw hr];have hs:=aqM ke hs;refine GI (by simp) ?_ (by simp) ?_ e1 e1 hgo
   ·exact EU hlt (by rw[hs];rfl) fun H u h=>by simp_all
   ·intro a ha
    have:mM.snoc (mO (nth cs)) cs.length (nM [[.i .i64 r0.id]]) a=mO (nth (cs++[(p i).tx])) a:=by
     rw[rH];split
     ·rename_i q
      show Row.put _=Row.put _;simp_all [nth,aO]
     ·rename_i q
      obtain rfl:a=cs.length:=by omega
      rw[dh,hid];show _=Row.put (nth (cs++[(p i).tx]) cs.length);have:nth (cs++[(p i).tx]) cs.length=(p i).tx:=by simp[nth]
      rw[this];rfl
    simp_all
end
end Go.Proofs
namespace Go.Pl
open Go Go.Sx Go.Proofs
noncomputable def plN(n:Nat)(g:Nat->List Sh)(m:Nat)(h:Nat->List Sh):Bool:=okB Dd m h&&(decide (m<=100000)&&aiS n g (lst Dd m h))
noncomputable def plO(n:Nat)(g:Nat->List Sh)(m:Nat)(h:Nat->List Sh):Bool:=Yh n g (lst Dd m h)
noncomputable def N7(n:Nat)(g:Nat->List Sh)(m:Nat)(h:Nat->List Sh):Nat->List Sh:=Yi n g (lst Dd m h)
noncomputable def RG(n:Nat)(g:Nat->List Sh)(m:Nat)(h:Nat->List Sh):Int:=ag8 n g (lst Dd m h)
noncomputable def plE(n:Nat)(g:Nat->List Sh)(m:Nat)(h:Nat->List Sh):Nat:=ag9 n g (lst Dd m h)
end Go.Pl
namespace Go.Proofs
open Go Go.Sx Go.Pl
noncomputable def D76:List Sh->Tree Sh
 |[.agg [s0],s1]=>match qp 4 s0,qp 8 s1 with
  |some (n,g),ae (m,h)=>.need (plN n g m h) (.node (plO n g m h)
   (.leaf (.mX [.agg [.sl 4 n (N7 n g m h)],.v .nilIface]))
   (.leaf (.mX [.agg [.sl 4 0 noT],.qK 90 (.pt [.i .i64 (RG n g m h),.er (plE n g m h) 288])])))
  |_,_=>.fail
 |_=>.fail
noncomputable def GK:Nat->Option (List Sh->Tree Sh)
 |47=>ae D76 |_=>ao
def pz(lv:Int)(N:Nat)(T:Nat->pO)(N':Nat)(mk:Nat->Int)(k0:Nat)(g0:Nat->List Sh):List Sh:=[.i .i64 lv,.sl 7 N (mO T),.sl 1 N' (mO mk),.sl 4 k0 g0]
def Vl:List It:=[aA [0,1,0,1,1],aM 0,aA [1,1,1]]
def aop:List It:=aA [0,0,1,0,1,1]::Vl
def Vm(lv:Int)(N:Nat)(T:Nat->pO)(N':Nat)(mk:Nat->Int)(k0:Nat)(g0:Nat->List Sh)(p:Int)(n:Nat)(g:Nat->List Sh)(m:Nat)(R:Nat->Bc)(i:Int):Core:={tm:=sK 104 [(0,.yD 4 1 (fun _=>pz lv N T N' mk k0 g0) 0 0),(3,.ptr 0 0),(5,.gs 1),(15,.sh (.sl 7 N (mO T))),(16,.sym .i64 (N:Int)),(17,.sym .i64 i)],hp:=[(0,.box [.sym .i64 p,.sh (.sl 4 n g)] 85),(1,.own 89 4 m (mO R))],nx:=2,lim:=L0,tc:=[]}
end Go.Proofs
namespace Go.Bf
section
variable{α κ:Type}[DecidableEq κ](key:α->κ)(next:α->List α)
def BN(o:List α)(k:κ):Bool:=o.any fun n=>decide (key n=k)
def yT(m:Nat)(o:List α)(n:α):Option (List α):=if BN key o (key n)=ah then ae o else if o.length=m then ao else ae (o++[n])
def wC(m:Nat):List α->List α->Option (List α)
 |o,[]=>ae o |o,n::l=>match yT key m o n with
  |none=>ao |some o'=>wC m o' l
def EJ(m:Nat):Nat->List α->Nat->Option (List α)
 |0,o,_=>ae o |f+1,o,i=>match o[i]? with
  |none=>ae o |some n=>match wC key m o (next n) with
   |none=>ao |some o'=>EJ m f o' (i+1)
variable{key next}
theorem akS{m:Nat}{o o':List α}{n:α}(h:yT key m o n=ae o'):∃t,o'=o++t/\t.length<=1/\(o.length<=m->o'.length<=m):=by
 unfold yT at h;split at h
 ·simp_all
 ·split at h
  ·cases h
  ·cases h;exact ⟨[n],rfl,by simp,fun h=>by simp;omega⟩
theorem IL{m:Nat}:∀{l o o':List α},wC key m o l=ae o'->∃t,o'=o++t/\(o.length<=m->o'.length<=m)
 |[],o,o',h=>by cases h;simp |n::l,o,o',h=>by
  simp only[wC] at h;cases hp:yT key m o n with
  |none=>simp_all |some o1=>
   rw[hp] at h;obtain ⟨t,rfl,_,h1⟩:=akS hp;obtain ⟨t',rfl,h2⟩:=IL h;simp_all
theorem YQ{m:Nat}:∀{f i:Nat} {o r:List α},EJ key next m f o i=ae r->∃t,r=o++t/\(o.length<=m->r.length<=m)
 |0,_,o,r,h=>by cases h;simp |f+1,i,o,r,h=>by
  simp only[EJ] at h;cases hi:o[i]? with
  |none=>simp_all |some n=>
   rw[hi] at h;simp only at h;cases hp:wC key m o (next n) with
   |none=>simp_all |some o1=>
    rw[hp] at h;obtain ⟨t,rfl,h1⟩:=IL hp;obtain ⟨t',rfl,h2⟩:=YQ h;simp_all
end
section
variable{α κ:Type}[DecidableEq κ]{key:α->κ}{next:α->List α}
theorem FW{o:List α}{k:κ}:BN key o k=ah↔∃n∈o,key n=k:=by simp[BN]
theorem afw{o t:List α}{k:κ}(h:BN key o k=ah):BN key (o++t) k=ah:=by
 grind [FW,List.mem_append_left]
theorem akT{m:Nat}{o o':List α}{n:α}(h:yT key m o n=ae o'):BN key o' (key n)=ah:=by
 unfold yT at h;grind [FW]
theorem abh{m:Nat}:∀{l o o':List α},wC key m o l=ae o'->∀n∈l,BN key o' (key n)=ah
 |[],_,_,_,_,h=>by cases h |n::l,o,o',h,x,hx=>by
  simp only[wC] at h;cases hp:yT key m o n with
  |none=>simp_all |some o1=>
   rw[hp] at h;rcases List.mem_cons.1 hx with rfl|hx
   ·obtain ⟨t,rfl,_⟩:=IL h
    exact afw (akT hp)
   ·exact abh h x hx
theorem abj{m:Nat}{o o':List α}{n:α}{P:α->Prop}(h:yT key m o n=ae o')(ho:∀x∈o,P x)(hn:P n):∀x∈o',P x:=by
 grind [yT]
theorem NJ{m:Nat}{P:α->Prop}:∀{l o o':List α},wC key m o l=ae o'->(∀x∈o,P x)->(∀x∈l,P x)->∀x∈o',P x
 |[],_,_,h,ho,_=>by cases h;exact ho |n::l,o,o',h,ho,hl=>by
  simp only[wC] at h;cases hp:yT key m o n with
  |none=>simp_all |some o1=>
   rw[hp] at h;exact NJ h (abj hp ho (hl n bj)) fun x hx=>hl x (aZ _ hx)
theorem IQ{m:Nat}{P:α->Prop}(hP:∀n,P n->∀t∈next n,P t):∀{f i:Nat} {o r:List α},EJ key next m f o i=ae r->(∀x∈o,P x)->∀x∈r,P x
 |0,_,_,_,h,ho=>by cases h;exact ho |f+1,i,o,r,h,ho=>by
  simp only[EJ] at h;cases hi:o[i]? with
  |none=>simp_all |some n=>
   rw[hi] at h;simp only at h;cases hp:wC key m o (next n) with
   |none=>simp_all |some o1=>
    rw[hp] at h;exact IQ hP h (NJ hp ho (hP n (ho n (aT hi))))
theorem MR{m:Nat}:∀{f i:Nat} {o r:List α},EJ key next m f o i=ae r->r.length<i+f->(∀j n,j<i->o[j]?=ae n->∀t∈next n,BN key o (key t)=ah)->∀n∈r,∀t∈next n,BN key r (key t)=ah
 |0,i,o,r,h,hl,hc=>by
  cases h;intro n hn t ht;obtain ⟨j,hj,e⟩:=eO.1 hn;exact hc j n (by omega) (by simp_all) t ht
 |f+1,i,o,r,h,hl,hc=>by
  simp only[EJ] at h;cases hi:o[i]? with
  |none=>
   rw[hi] at h;cases h;have hle:o.length<=i:=List.getElem?_eq_none_iff.1 hi;intro n hn t ht;obtain ⟨j,hj,e⟩:=eO.1 hn;exact hc j n (by omega) (by simp_all) t ht
  |some n=>
   rw[hi] at h;simp only at h;cases hp:wC key m o (next n) with
   |none=>simp_all |some o1=>
    rw[hp] at h;obtain ⟨t',e,_⟩:=IL hp;refine MR h (by omega) fun j x hj hx t ht=>?_
    have hil:i<o.length:=(aJ.1 hi).1;have hx':o[j]?=ae x:=by
     grind
    rcases Nat.lt_or_ge j i with h1|h1
    ·grind [afw]
    grind [abh]
theorem ahw{m:Nat}{o o':List α}{n:α}(h:yT key m o n=ae o')(ho:(o.map key).Nodup):(o'.map key).Nodup:=by
 unfold yT at h;grind [FW]
theorem Vo{m:Nat}:∀{l o o':List α},wC key m o l=ae o'->(o.map key).Nodup->(o'.map key).Nodup
 |[],_,_,h,ho=>by cases h;exact ho |n::l,o,o',h,ho=>by
  simp only[wC] at h;cases hp:yT key m o n with
  |none=>simp_all |some o1=>
   rw[hp] at h;exact Vo h (ahw hp ho)
theorem YR{m:Nat}:∀{f i:Nat} {o r:List α},EJ key next m f o i=ae r->(o.map key).Nodup->(r.map key).Nodup
 |0,_,_,_,h,ho=>by cases h;exact ho |f+1,i,o,r,h,ho=>by
  simp only[EJ] at h;cases hi:o[i]? with
  |none=>simp_all |some n=>
   rw[hi] at h;simp only at h;cases hp:wC key m o (next n) with
   |none=>simp_all |some o1=>
    rw[hp] at h;exact YR h (Vo hp ho)
def Lay(rk:α->Nat)(b:Nat)(o:List α):Prop:=o.Pairwise (fun x y=>rk x<=rk y)/\∀x∈o,rk x<=b
theorem aoq{m b:Nat}{rk:α->Nat}{o o':List α}{n:α}(h:yT key m o n=ae o')(ho:Lay rk b o)(hn:rk n=b):Lay rk b o':=by
 unfold yT at h;split at h
 ·simp_all
 ·split at h
  ·cases h
  ·cases h
   refine ⟨List.pairwise_append.2 ⟨ho.1,List.pairwise_singleton _ _,fun x hx y hy=>?_⟩,fun x hx=>?_⟩
   ·obtain rfl:y=n:=by grind
    rw[hn];exact ho.2 x hx
   ·rcases List.mem_append.1 hx with hx|hx
    ·exact ho.2 x hx
    simp_all
theorem abk{m b:Nat}{rk:α->Nat}:∀{l o o':List α},wC key m o l=ae o'->Lay rk b o->(∀x∈l,rk x=b)->Lay rk b o'
 |[],_,_,h,ho,_=>by cases h;exact ho |n::l,o,o',h,ho,hl=>by
  simp only[wC] at h;cases hp:yT key m o n with
  |none=>simp_all |some o1=>
   rw[hp] at h;exact abk h (aoq hp ho (hl n bj)) fun x hx=>hl x (aZ _ hx)
theorem afx{m:Nat}{rk:α->Nat}(hr:∀n,∀t∈next n,rk t=rk n+1):∀{f i:Nat} {o r:List α},EJ key next m f o i=ae r->(∀n,o[i]?=ae n->Lay rk (rk n+1) o)->o.Pairwise (fun x y=>rk x<=rk y)->r.Pairwise fun x y=>rk x<=rk y
 |0,_,_,_,h,_,ho=>by cases h;exact ho |f+1,i,o,r,h,hL,ho=>by
  simp only[EJ] at h;cases hi:o[i]? with
  |none=>simp_all |some n=>
   rw[hi] at h;simp only at h;cases hp:wC key m o (next n) with
   |none=>simp_all |some o1=>
    rw[hp] at h;have h1:=abk hp (hL n hi) fun x hx=>hr n x hx
    refine afx hr h (fun n' hn'=>⟨h1.1,fun x hx=>?_⟩) h1.1;obtain ⟨t,e,_⟩:=IL hp;have hil:=(aJ.1 hi).1;have hn:o1[i]?=ae n:=by grind
    have hle:rk n<=rk n':=by
     obtain ⟨q1,e1⟩:=aJ.1 hn;obtain ⟨q2,e2⟩:=aJ.1 hn';have:=cT.1 h1.1 i (i+1) q1 q2 (by omega);simp_all
    have:=h1.2 x hx;omega
def zk(key:α->κ)(next:α->List α)(full:α->Bool):List α->κ->Bool
 |[],_=>ag |n::l,k=>if key n=k then full n||(next n).any (fun t=>zk key next full l (key t)) else zk key next full l k
inductive yw(next:α->List α)(full:α->Bool):α->Prop
 |here {n:α}:full n=ah->yw next full n
 |step {n t:α}:t∈next n->yw next full t->yw next full n
theorem YS{full:α->Bool}{Q:α->Prop}(hQ:∀n,Q n->∀t∈next n,Q t)(hk:∀x y,Q x->Q y->key x=key y->x=y):∀{l:List α},(∀x∈l,Q x)->(l.map key).Nodup->
  (∀(i:Nat) n,l[i]?=ae n->∀t∈next n,∃(j:Nat) (x:α),i<j/\l[j]?=ae x/\key x=key t)->∀n∈l,(zk key next full l (key n)=ah↔yw next full n)
 |[],_,_,_,n,hn=>by cases hn |a::l,hq,hd,hf,n,hn=>by
  have hd':=List.nodup_cons.1 (by grind:(key a::l.map key).Nodup);have ih:=YS (l:=l) (full:=full) hQ hk (fun x hx=>hq x (aZ _ hx)) hd'.2 (fun i n hi t ht=>by
   obtain ⟨j,x,h1,h2,h3⟩:=hf (i+1) n (by grind) t ht;grind)
  have tail:∀t∈next a,(zk key next full l (key t)=ah↔yw next full t):=fun t ht=>by
   obtain ⟨j,x,h1,h2,h3⟩:=hf 0 a rfl t ht;grind
  by_cases e:key a=key n
  ·have:a=n:=hk a n (hq a bj) (hq n hn) e
   subst this;unfold zk;rw[if_pos rfl,gJ,List.any_eq_true];constructor
   ·rintro (h|⟨t,ht,h⟩)
    ·exact .here h
    ·exact .step ht ((tail t ht).1 h)
   ·intro h
    cases h with
    |here h=>exact .inl h |step ht h=>grind
  grind [zk]
theorem behind{m f:Nat}{rk:α->Nat}{Q:α->Prop}{a r:List α}(hQ:∀n,Q n->∀t∈next n,Q t)(hk:∀x y,Q x->Q y->key x=key y->x=y)(hr:∀n,∀t∈next n,rk t=rk n+1)
  (h:EJ key next m f a 0=ae r) (hl:r.length<f) (ha:∀x∈a,Q x) (h1:a.length<=1):∀(i:Nat) n,r[i]?=ae n->∀t∈next n,∃(j:Nat) (x:α),i<j/\r[j]?=ae x/\key x=key t:=by
 have hq:=IQ hQ h ha;have hc:=MR h (by omega) (fun j n hj=>by omega);have hs:=afx hr h (fun n hn=>⟨by
   match a,h1 with
   |[],_=>simp |[x],_=>simp,fun x hx=>by
   match a,h1,hn,hx with
   |[y],_,hn,hx=>
    simp_all⟩) (by
   match a,h1 with
   |[],_=>simp |[x],_=>simp)
 intro i n hi t ht;obtain ⟨x,hx,e⟩:=FW.1 (hc n (aT hi) t ht);obtain ⟨j,hj,ej⟩:=eO.1 hx;have hxt:x=t:=hk x t (hq x hx) (hQ n (hq n (aT hi)) t ht) e;refine ⟨j,x,?_,by simp_all,e⟩;grind [cT]
end
end Go.Bf
namespace Go.Gm
open Go.Bf
structure Nd(S:Type)where
 placed:Nat
 st:S
structure Game(S:Type)where
 n:Nat
 id:Nat->Int
 com:Nat->Bool
 Uh:Nat->Bool
 mask:Nat->Nat
 run:S->Nat->Option S
 all:Bool
section
variable{S:Type}(g:Game S)
def may(p i:Nat):Bool:=!p.testBit i&&(aD g.n).all fun j=>!(g.mask i).testBit j||p.testBit j
def xK(nd:Nd S)(i:Nat):List ((Int×Bool)×Nd S):=
 if may g nd.placed i=ah then
  (match g.com i,g.run nd.st i with
   |true,ae s=>[((g.id i,ah),⟨nd.placed|||1<<<i,s⟩)] |_,_=>[]) ++
  (if g.Uh i=ah/\(g.all=ah->(g.run nd.st i).isSome=ah) then [((g.id i,ag),⟨nd.placed|||1<<<i,nd.st⟩)] else [])
 else []
def turns(nd:Nd S):List ((Int×Bool)×Nd S):=(aD g.n).flatMap (xK g nd)
def next(nd:Nd S):List (Nd S):=(turns g nd).map (·.2)
def rk(nd:Nd S):Nat:=(aD g.n).countP fun i=>nd.placed.testBit i
def full(nd:Nd S):Bool:=decide (nd.placed=2^g.n - 1)
variable{g}
theorem aqR(p i j:Nat):(p|||1<<<i).testBit j=(p.testBit j||decide (i=j)):=by
 grind [eM]
theorem abl{nd:Nd S}{i:Nat}{t:(Int×Bool)×Nd S}(h:t∈xK g nd i):nd.placed.testBit i=ag/\t.1.1=g.id i/\t.2.placed=nd.placed|||1<<<i:=by
 unfold xK at h;grind [may]
theorem Vp{p:Nat->Bool}{i:Nat}:∀n,i<n->p i=ag->(aD n).countP (fun j=>p j||decide (i=j))=(aD n).countP p+1
 |0,h,_=>by omega |n+1,h,hp=>by
  rw[List.range_succ,iZ,iZ];by_cases e:i=n
  ·grind [aD,decide,List.countP_congr,decide_eq_false]
  ·have ih:=Vp (p:=p) (i:=i) n (by omega) hp
   grind
theorem YT{nd:Nd S}:∀t∈next g nd,rk g t=rk g nd+1:=fun t ht=>by
 unfold next turns at ht;obtain ⟨x,hx,rfl⟩:=bK.1 ht;obtain ⟨i,hi,hx⟩:=eE.1 hx;obtain ⟨h1,_,h2⟩:=abl hx;unfold rk;rw[h2];simp only[aqR];simp_all [Vp,bI]
theorem lt_next{nd:Nd S}(h:nd.placed<2^g.n):∀t∈next g nd,t.placed<2^g.n:=fun t ht=>by
 unfold next turns at ht;obtain ⟨x,hx,rfl⟩:=bK.1 ht;obtain ⟨i,hi,hx⟩:=eE.1 hx;obtain ⟨_,_,h2⟩:=abl hx;simp_all [gq,eM,gF,cF,bI]
def least(g:Game S)(ld:Nd S->Bool):Nat->Nd S->List (Int×Bool)
 |0,_=>[] |f+1,nd=>if full g nd=ah then [] else match (turns g nd).find? fun t=>ld t.2 with
  |none=>[] |some t=>t.1::least g ld f t.2
def walk(g:Game S):Nd S->List (Int×Bool)->Option (Nd S)
 |nd,[]=>ae nd |nd,s::l=>match (turns g nd).find? fun t=>t.1==s with
  |none=>ao |some t=>walk g t.2 l
theorem ahx{nd:Nd S}(h:yw (next g) (full g) nd)(hn:full g nd=ag):∃t∈turns g nd,yw (next g) (full g) t.2:=by
 cases h with
 |here h=>simp_all |step ht h=>
  obtain ⟨t,q,rfl⟩:=bK.1 ht;grind
end
open Go.Bf
section
variable{S κ:Type}[DecidableEq κ](g:Game S)(key:Nd S->κ)
def start(s:S):Nd S:=⟨0,s⟩
def uH(s:S)(m:Nat):Option (List (Nd S)):=EJ key (next g) m (m+1) [start s] 0
def PG(r:List (Nd S))(nd:Nd S):Bool:=zk key (next g) (full g) r (key nd)
def Kr(s:S)(r:List (Nd S)):Bool:=PG g key r (start s)
def BO(s:S)(r:List (Nd S)):List (Int×Bool):=if Kr g key s r=ah then least g (PG g key r) (g.n+1) (start s) else []
variable{g key}
theorem PI{s:S}{m:Nat}(hm:1<=m){r:List (Nd S)}(h:uH g key s m=ae r):1<=r.length/\r.length<=m:=by
 obtain ⟨t,e,hl⟩:=YQ h;simp_all
theorem ajd{s:S}{m:Nat}(hm:1<=m){r:List (Nd S)}(h:uH g key s m=ae r){Q:Nd S->Prop}(hQ:∀n,Q n->∀t∈next g n,Q t)(hk:∀x y,Q x->Q y->key x=key y->x=y)(hs:Q (start s)):
  ∀n∈r,(PG g key r n=ah↔yw (next g) (full g) n):=by
 have hl:=(PI hm h).2;have ha:∀x∈[start s],Q x:=fun x hx=>by
  simp_all
 exact YS hQ hk (IQ hQ h ha) (YR h (by simp)) (behind hQ hk (fun n t ht=>YT t ht) h (by omega) ha (by simp))
theorem abm{s:S}{m:Nat}{r:List (Nd S)}(h:uH g key s m=ae r):start s∈r:=by
 obtain ⟨t,e,_⟩:=YQ h;rw[e];simp
theorem akU{s:S}{m:Nat}(hm:1<=m){r:List (Nd S)}(h:uH g key s m=ae r){Q:Nd S->Prop}(hQ:∀n,Q n->∀t∈next g n,Q t)(hk:∀x y,Q x->Q y->key x=key y->x=y)(hs:Q (start s)):∀n∈r,∀t∈next g n,t∈r:=by
 have hl:=(PI hm h).2;have ha:∀x∈[start s],Q x:=fun x hx=>by
  simp_all
 have hq:=IQ hQ h ha;have hc:=MR h (by omega) (fun j n hj=>by omega);grind [FW]
theorem aor{s:S}{m:Nat}(hm:1<=m){r:List (Nd S)}(h:uH g key s m=ae r){Q:Nd S->Prop}(hQ:∀n,Q n->∀t∈next g n,Q t)(hk:∀x y,Q x->Q y->key x=key y->x=y)(hs:Q (start s)):Kr g key s r=ah↔yw (next g) (full g) (start s):=
 ajd hm h hQ hk hs _ (abm h)
end
end Go.Gm
namespace Go.Pl
open Go Go.Sx
theorem Du(p:Nat):bN 64 (p:Int)=BitVec.ofNat 64 p:=BitVec.ofInt_natCast 64 p
theorem IU{p:Nat}(h:p<2^63):az.wrap (p:Int)=(p:Int):=pF (by omega) (by omega)
theorem aje{p q n:Nat}(h:p<2^n):p&&&q<2^n:=jq Nat.and_le_left h
theorem afy{p q:Nat}(hp:p<2^63)(hq:q<2^63):mM.bin .and .i64 (p:Int) (q:Int)=((p&&&q:Nat):Int):=by
 show az.wrap ((bN 64 (p:Int)&&&bN 64 (q:Int)).toNat:Int)=_;rw[Du,Du,i6,cD,cD,cz (by omega),cz (by omega)];exact IU (aje hp)
theorem aqS{p q:Nat}(hp:p<2^63)(hq:q<2^63):mM.bin .or .i64 (p:Int) (q:Int)=((p|||q:Nat):Int):=by
 show az.wrap ((bN 64 (p:Int)|||bN 64 (q:Int)).toNat:Int)=_;rw[Du,Du,BitVec.toNat_or,cD,cD,cz (by omega),cz (by omega)];exact IU (gq hp hq)
theorem afz{p q:Nat}(hp:p<2^63)(hq:q<2^63):mM.bin .andNot .i64 (p:Int) (q:Int)=((p&&&(2^64 - 1 - q):Nat):Int):=by
 show az.wrap ((bN 64 (p:Int)&&&~~~ bN 64 (q:Int)).toNat:Int)=_;rw[Du,Du,i6,BitVec.toNat_not,cD,cD,cz (by omega),cz (by omega)];exact IU (aje hp)
theorem YU{i:Nat}(h:i<63):mM.bin .shl .i64 (ab 1) (i:Int)=((2^i:Nat):Int):=by
 show az.wrap ((1:Int)*2^(min (i:Int).toNat 64))=_;rw[bm,gX (by omega),Int.one_mul];have:((2:Int)^i)=((2^i:Nat):Int):=by rfl
 rw[this];exact IU (cF (by decide) h)
theorem aos{p i:Nat}(h:i<=64):mM.bin .shr .i64 (p:Int) (i:Int)=((p>>>i:Nat):Int):=by
 show Int.fdiv (p:Int) (2^(min (i:Int).toNat 64))=_;grind [bm,gX,Int.fdiv_eq_ediv_of_nonneg,Int.natCast_nonneg,Int.natCast_ediv,gT]
theorem aqT(p i:Nat):p>>>i<=p:=by rw[gT];exact Nat.div_le_self _ _
theorem aqU{p i:Nat}(hp:p<2^63)(hi:i<=64):mM.eq (mM.bin .and .i64 (mM.bin .shr .i64 (p:Int) (i:Int)) (ab 1)) (ab 1)=p.testBit i:=by
 rw[aos hi];have h:=afy (p:=p>>>i) (q:=1) (jq (aqT p i) hp) (by decide);have h:mM.bin .and .i64 ((p>>>i:Nat):Int) (ab 1)=((p>>>i&&&1:Nat):Int):=h;grind [nG,Nat.testBit,Nat.mod_two_eq_zero_or_one]
theorem abn{m p N:Nat}(hm:m<2^N)(hN:N<=62)(hp:p<2^63):mM.nt (mM.eq (mM.bin .andNot .i64 (m:Int) (p:Int)) (ab 0))=!((aD N).all fun j=>!m.testBit j||p.testBit j):=by
 have hm':m<2^63:=dp hm (eY (by decide) (by omega));rw[afz hm' hp,oL,nG];congr 1;have key:∀j,(m&&&(2^64 - 1 - p)).testBit j=(m.testBit j && !p.testBit j):=fun j=>by
  rw[Nat.testBit_and];by_cases hj:j<N
  ·rw[show 2^64 - 1 - p=2^64 - (p+1) by omega,Nat.testBit_two_pow_sub_succ (by omega),decide_eq_true (by omega:j<64)];rfl
  grind [ii,dp,eY]
 cases ha:(aD N).all fun j=>!m.testBit j||p.testBit j with
 |true=>
  rw[bh] at ha;have:m&&&(2^64 - 1 - p)=0:=Nat.eq_of_testBit_eq fun j=>by
   grind [ii,dp,eY]
  grind
 |false=>
  grind [aD,bh,beq_eq_false_iff_ne,cZ]
theorem or_eq{p i:Nat}(hp:p<2^63)(hi:i<63):mM.bin .or .i64 (p:Int) (mM.bin .shl .i64 (ab 1) (i:Int))=((p|||1<<<i:Nat):Int):=by
 rw[YU hi,aqS hp (cF (by decide) hi),eM,gF]
theorem afA{N:Nat}(hN:N<=62):mM.sub .i64 (mM.bin .shl .i64 (ab 1) (N:Int)) (ab 1)=((2^N - 1:Nat):Int):=by
 rw[YU (by omega),Di];have h1:1<=2^N:=Nat.one_le_two_pow;have h2:2^N<2^63:=cF (by decide) (by omega);grind [Int.natCast_sub,IU]
open Go Go.Sx Go.Proofs Go.Gm
noncomputable def N8(lv:Int)(N:Nat)(T:Nat->pO)(mk:Nat->Int)(n:Nat):Game (Nat->List Sh) where
 n:=N
 id i:=(T i).id
 com i:=(T i).st==3||(T i).st==2
 Uh i:=!((T i).st==3)
 mask i:=(mk i).toNat
 run g i:=if plO n g (T i).k (T i).g=ah then ae (N7 n g (T i).k (T i).g) else ao
 all:=lv==3
def yx(n:Nat)(t:(Int×Bool)×Nd (Nat->List Sh)):Bc:=⟨t.1.1,t.1.2,(t.2.placed:Nat),n,t.2.st⟩
structure TuP(lv:Int)(N:Nat)(T:Nat->pO)(N':Nat)(mk:Nat->Int)(p:Int)(n:Nat)(g:Nat->List Sh):Prop where
 le:N<=62
 eq:N=N'
 pos:0<=p
 lt:p<2^62
 mpos:∀i,i<N->0<=mk i
 mlt:∀i,i<N->(mk i).toNat<2^N
 fit:∀i,i<N->may (N8 lv N T mk n) p.toNat i=ah->plN n g (T i).k (T i).g=ah
noncomputable def tuL(lv:Int)(N:Nat)(T:Nat->pO)(mk:Nat->Int)(p:Int)(n:Nat)(g:Nat->List Sh):List Bc:=(turns (N8 lv N T mk n) ⟨p.toNat,g⟩).map (yx n)
noncomputable def YV(lv:Int)(N:Nat)(T':Nat->List Sh)(N':Nat)(mk':Nat->List Sh)(p:Int)(st n:Nat)(g:Nat->List Sh):Bool:=
 okB pO N T'&&(okB Int N' mk'&&((bJ st 4||bJ n 0)&&@decide (TuP lv N (mP T') N' (mP mk') p n g) (ay _)))
noncomputable def Hy(lv:Int)(N:Nat)(T':Nat->List Sh)(mk':Nat->List Sh)(p:Int)(n:Nat)(g:Nat->List Sh):Nat:=(tuL lv N (mP T') (mP mk') p n g).length
noncomputable def YW(lv:Int)(N:Nat)(T':Nat->List Sh)(mk':Nat->List Sh)(p:Int)(n:Nat)(g:Nat->List Sh):Nat->Bc:=nth (tuL lv N (mP T') (mP mk') p n g)
theorem JQ{α:Type}[Row α](o:Nat->α):mP (mO o)=o:=funext fun i=>Dh o i
end Go.Pl
namespace Go.Proofs
open Go Go.Sx Go.Pl Go.Gm
noncomputable def D41:List Sh->Tree Sh
 |[.pt [.i .i64 lv,s1,s2,s3],.agg [t,.sl st n g]]=>match qp 7 s1,qp 1 s2,qp 4 s3,nO t with
  |some (N,T'),ae (N',mk'),ae _,ae p=>.need (YV lv N T' N' mk' p st n g) (.leaf (.sl 4 (Hy lv N T' mk' p n g) (mO (YW lv N T' mk' p n g)))) |_,_,_,_=>.fail
 |_=>.fail
open Go Go.Sx Go.Pl
theorem ahz(A:Prim)(W:Wd)(lv:Int)(N:Nat)(T:Nat->pO)(N':Nat)(mk:Nat->Int)(k0:Nat)(g0:Nat->List Sh)(p:Int)(n:Nat)(g:Nat->List Sh)(m:Nat)(R:Nat->Bc)(i':Int){ψ:pI->Prop}(y1:ψ (aH 0 [am 1 1,aF (fun (x:Nat)=>pz lv N T N' mk k0 g0) fun (x:Nat)=>pz lv N T N' mk k0 g0,am 0 0,aw (aj 7 N (mO T)) (aj 7 N (mO T)),ac (A.nK N) (ab N),ac (ab 0) i',ac p p,aw (aj 4 n g) (aj 4 n g),am m 0])):oP ψ (nR (C7 A W GK mZ) qm 300 400 24 [.code []] (nX 104 [.pt (pz lv N T N' mk k0 g0),.agg [.i .i64 p,.sl 4 n g]] L0) [] [⟨24,Vl,Vm lv N T N' mk k0 g0 p n g m R i',[]⟩]):=by
 exact wH y1
theorem YX(A:Prim)(W:Wd)(lv:Int)(N:Nat)(T:Nat->pO)(N':Nat)(mk:Nat->Int)(k0:Nat)(g0:Nat->List Sh)(p:Int)(n:Nat)(g:Nat->List Sh)(m m':Nat)(R R':Nat->Bc)(i i':Int){ψ:pI->Prop}{c0 c1 c2 c3 c4 c5 c6 c7:Bool}(e0:A.lt i (ab N)=c0)(e1:A.eq (A.bin BinOp.and az (A.bin BinOp.shr az p i) (ab 1)) (ab 1)=c1)(e2:A.nt (A.eq (A.bin BinOp.andNot az (mk (A.toN i)) p) (ab 0))=c2)(e3:plO n g (T (A.toN i)).k (T (A.toN i)).g=c3)(e4:A.eq (T (A.toN i)).st (ab 3)=c4)(e5:A.nt (A.eq (T (A.toN i)).st (ab 3))=c5)(e6:A.nt (A.eq lv (ab 3))=c6)(e7:A.eq (T (A.toN i)).st (ab 2)=c7)(h1:c0=ah->(A.inB i N)=ah)(h2:c0=ah->(A.le (ab 0) i)=ah)(h3:c0=ah->c1=ag->(A.inB i N')=ah)(h4:c0=ah->c1=ag->c2=ag->(plN n g (T (A.toN i)).k (T (A.toN i)).g)=ah)(h5:c0=ah->c1=ag->c2=ag->c3=ah->c4=ah->(A.room (A.addN m 1) 48)=ah)(h6:c0=ah->c1=ag->c2=ag->c3=ah->c4=ah->c5=ah->c6=ah->(A.room (A.addN (A.addN m 1) 1) 48)=ah)(h7:c0=ah->c1=ag->c2=ag->c3=ah->c4=ah->c5=ah->c6=ag->(A.room (A.addN (A.addN m 1) 1) 48)=ah)(h8:c0=ah->c1=ag->c2=ag->c3=ah->c4=ag->c7=ah->(A.room (A.addN m 1) 48)=ah)(h9:c0=ah->c1=ag->c2=ag->c3=ah->c4=ag->c7=ah->c5=ah->c6=ah->(A.room (A.addN (A.addN m 1) 1) 48)=ah)(h10:c0=ah->c1=ag->c2=ag->c3=ah->c4=ag->c7=ah->c5=ah->c6=ag->(A.room (A.addN (A.addN m 1) 1) 48)=ah)(h11:c0=ah->c1=ag->c2=ag->c3=ah->c4=ag->c7=ag->c5=ah->c6=ah->(A.room (A.addN m 1) 48)=ah)(h12:c0=ah->c1=ag->c2=ag->c3=ah->c4=ag->c7=ag->c5=ah->c6=ag->(A.room (A.addN m 1) 48)=ah)(h13:c0=ah->c1=ag->c2=ag->c3=ag->c4=ah->c5=ah->c6=ah->(A.room (A.addN m 1) 48)=ah)(MO:c0=ah->c1=ag->c2=ag->c3=ag->c4=ag->c7=ah->c5=ah->c6=ah->(A.room (A.addN m 1) 48)=ah)(h15:c0=ah->c1=ag->c2=ag->c3=ag->c4=ag->c7=ag->c5=ah->c6=ah->(A.room (A.addN m 1) 48)=ah)(y1:c0=ah->c1=ah->ψ (aH 0 [am 1 1,aF (fun (x:Nat)=>pz lv N T N' mk k0 g0) fun (x:Nat)=>pz lv N T N' mk k0 g0,am 0 0,aw (aj 7 N (mO T)) (aj 7 N (mO T)),ac (ab N) (ab N),ac (A.add .i64 i (ab 1)) i',ac p p,aw (aj 4 n g) (aj 4 n g),am m m',ax m (mO R) (mO R')]))(y2:c0=ah->c1=ag->c2=ah->ψ (aH 0 [am 1 1,aF (fun (x:Nat)=>pz lv N T N' mk k0 g0) fun (x:Nat)=>pz lv N T N' mk k0 g0,am 0 0,aw (aj 7 N (mO T)) (aj 7 N (mO T)),ac (ab N) (ab N),ac (A.add .i64 i (ab 1)) i',ac p p,aw (aj 4 n g) (aj 4 n g),am m m',ax m (mO R) (mO R')]))(y3:c0=ah->c1=ag->c2=ag->c3=ah->c4=ah->c5=ah->c6=ah->ψ (aH 0 [am 1 1,aF (fun (x:Nat)=>pz lv N T N' mk k0 g0) fun (x:Nat)=>pz lv N T N' mk k0 g0,am 0 0,aw (aj 7 N (mO T)) (aj 7 N (mO T)),ac (ab N) (ab N),ac (A.add .i64 i (ab 1)) i',ac p p,aw (aj 4 n g) (aj 4 n g),am (A.addN (A.addN m 1) 1) m',ax (A.addN (A.addN m 1) 1) (A.snoc (A.snoc (mO R) m (nM [[av .i64 (T (A.toN i)).id,co ah,av .i64 (A.bin cB az p (A.bin b7 az (ab 1) i)),aj 4 n (N7 n g (T (A.toN i)).k (T (A.toN i)).g)]])) (A.addN m 1) (nM [[av .i64 (T (A.toN i)).id,co ag,av .i64 (A.bin cB az p (A.bin b7 az (ab 1) i)),aj 4 n g]])) (mO R')]))(y4:c0=ah->c1=ag->c2=ag->c3=ah->c4=ah->c5=ah->c6=ag->ψ (aH 0 [am 1 1,aF (fun (x:Nat)=>pz lv N T N' mk k0 g0) fun (x:Nat)=>pz lv N T N' mk k0 g0,am 0 0,aw (aj 7 N (mO T)) (aj 7 N (mO T)),ac (ab N) (ab N),ac (A.add .i64 i (ab 1)) i',ac p p,aw (aj 4 n g) (aj 4 n g),am (A.addN (A.addN m 1) 1) m',ax (A.addN (A.addN m 1) 1) (A.snoc (A.snoc (mO R) m (nM [[av .i64 (T (A.toN i)).id,co ah,av .i64 (A.bin cB az p (A.bin b7 az (ab 1) i)),aj 4 n (N7 n g (T (A.toN i)).k (T (A.toN i)).g)]])) (A.addN m 1) (nM [[av .i64 (T (A.toN i)).id,co ag,av .i64 (A.bin cB az p (A.bin b7 az (ab 1) i)),aj 4 n g]])) (mO R')]))(y5:c0=ah->c1=ag->c2=ag->c3=ah->c4=ah->c5=ag->ψ (aH 0 [am 1 1,aF (fun (x:Nat)=>pz lv N T N' mk k0 g0) fun (x:Nat)=>pz lv N T N' mk k0 g0,am 0 0,aw (aj 7 N (mO T)) (aj 7 N (mO T)),ac (ab N) (ab N),ac (A.add .i64 i (ab 1)) i',ac p p,aw (aj 4 n g) (aj 4 n g),am (A.addN m 1) m',ax (A.addN m 1) (A.snoc (mO R) m (nM [[av .i64 (T (A.toN i)).id,co ah,av .i64 (A.bin cB az p (A.bin b7 az (ab 1) i)),aj 4 n (N7 n g (T (A.toN i)).k (T (A.toN i)).g)]])) (mO R')]))(y6:c0=ah->c1=ag->c2=ag->c3=ah->c4=ag->c7=ah->c5=ah->c6=ah->ψ (aH 0 [am 1 1,aF (fun (x:Nat)=>pz lv N T N' mk k0 g0) fun (x:Nat)=>pz lv N T N' mk k0 g0,am 0 0,aw (aj 7 N (mO T)) (aj 7 N (mO T)),ac (ab N) (ab N),ac (A.add .i64 i (ab 1)) i',ac p p,aw (aj 4 n g) (aj 4 n g),am (A.addN (A.addN m 1) 1) m',ax (A.addN (A.addN m 1) 1) (A.snoc (A.snoc (mO R) m (nM [[av .i64 (T (A.toN i)).id,co ah,av .i64 (A.bin cB az p (A.bin b7 az (ab 1) i)),aj 4 n (N7 n g (T (A.toN i)).k (T (A.toN i)).g)]])) (A.addN m 1) (nM [[av .i64 (T (A.toN i)).id,co ag,av .i64 (A.bin cB az p (A.bin b7 az (ab 1) i)),aj 4 n g]])) (mO R')]))(y7:c0=ah->c1=ag->c2=ag->c3=ah->c4=ag->c7=ah->c5=ah->c6=ag->ψ (aH 0 [am 1 1,aF (fun (x:Nat)=>pz lv N T N' mk k0 g0) fun (x:Nat)=>pz lv N T N' mk k0 g0,am 0 0,aw (aj 7 N (mO T)) (aj 7 N (mO T)),ac (ab N) (ab N),ac (A.add .i64 i (ab 1)) i',ac p p,aw (aj 4 n g) (aj 4 n g),am (A.addN (A.addN m 1) 1) m',ax (A.addN (A.addN m 1) 1) (A.snoc (A.snoc (mO R) m (nM [[av .i64 (T (A.toN i)).id,co ah,av .i64 (A.bin cB az p (A.bin b7 az (ab 1) i)),aj 4 n (N7 n g (T (A.toN i)).k (T (A.toN i)).g)]])) (A.addN m 1) (nM [[av .i64 (T (A.toN i)).id,co ag,av .i64 (A.bin cB az p (A.bin b7 az (ab 1) i)),aj 4 n g]])) (mO R')]))(y8:c0=ah->c1=ag->c2=ag->c3=ah->c4=ag->c7=ah->c5=ag->ψ (aH 0 [am 1 1,aF (fun (x:Nat)=>pz lv N T N' mk k0 g0) fun (x:Nat)=>pz lv N T N' mk k0 g0,am 0 0,aw (aj 7 N (mO T)) (aj 7 N (mO T)),ac (ab N) (ab N),ac (A.add .i64 i (ab 1)) i',ac p p,aw (aj 4 n g) (aj 4 n g),am (A.addN m 1) m',ax (A.addN m 1) (A.snoc (mO R) m (nM [[av .i64 (T (A.toN i)).id,co ah,av .i64 (A.bin cB az p (A.bin b7 az (ab 1) i)),aj 4 n (N7 n g (T (A.toN i)).k (T (A.toN i)).g)]])) (mO R')]))(y9:c0=ah->c1=ag->c2=ag->c3=ah->c4=ag->c7=ag->c5=ah->c6=ah->ψ (aH 0 [am 1 1,aF (fun (x:Nat)=>pz lv N T N' mk k0 g0) fun (x:Nat)=>pz lv N T N' mk k0 g0,am 0 0,aw (aj 7 N (mO T)) (aj 7 N (mO T)),ac (ab N) (ab N),ac (A.add .i64 i (ab 1)) i',ac p p,aw (aj 4 n g) (aj 4 n g),am (A.addN m 1) m',ax (A.addN m 1) (A.snoc (mO R) m (nM [[av .i64 (T (A.toN i)).id,co ag,av .i64 (A.bin cB az p (A.bin b7 az (ab 1) i)),aj 4 n g]])) (mO R')]))(y10:c0=ah->c1=ag->c2=ag->c3=ah->c4=ag->c7=ag->c5=ah->c6=ag->ψ (aH 0 [am 1 1,aF (fun (x:Nat)=>pz lv N T N' mk k0 g0) fun (x:Nat)=>pz lv N T N' mk k0 g0,am 0 0,aw (aj 7 N (mO T)) (aj 7 N (mO T)),ac (ab N) (ab N),ac (A.add .i64 i (ab 1)) i',ac p p,aw (aj 4 n g) (aj 4 n g),am (A.addN m 1) m',ax (A.addN m 1) (A.snoc (mO R) m (nM [[av .i64 (T (A.toN i)).id,co ag,av .i64 (A.bin cB az p (A.bin b7 az (ab 1) i)),aj 4 n g]])) (mO R')]))(y11:c0=ah->c1=ag->c2=ag->c3=ah->c4=ag->c7=ag->c5=ag->ψ (aH 0 [am 1 1,aF (fun (x:Nat)=>pz lv N T N' mk k0 g0) fun (x:Nat)=>pz lv N T N' mk k0 g0,am 0 0,aw (aj 7 N (mO T)) (aj 7 N (mO T)),ac (ab N) (ab N),ac (A.add .i64 i (ab 1)) i',ac p p,aw (aj 4 n g) (aj 4 n g),am m m',ax m (mO R) (mO R')]))(y12:c0=ah->c1=ag->c2=ag->c3=ag->c4=ah->c5=ah->c6=ah->ψ (aH 0 [am 1 1,aF (fun (x:Nat)=>pz lv N T N' mk k0 g0) fun (x:Nat)=>pz lv N T N' mk k0 g0,am 0 0,aw (aj 7 N (mO T)) (aj 7 N (mO T)),ac (ab N) (ab N),ac (A.add .i64 i (ab 1)) i',ac p p,aw (aj 4 n g) (aj 4 n g),am (A.addN m 1) m',ax (A.addN m 1) (A.snoc (mO R) m (nM [[av .i64 (T (A.toN i)).id,co ag,av .i64 (A.bin cB az p (A.bin b7 az (ab 1) i)),aj 4 n g]])) (mO R')]))(y13:c0=ah->c1=ag->c2=ag->c3=ag->c4=ah->c5=ah->c6=ag->ψ (aH 0 [am 1 1,aF (fun (x:Nat)=>pz lv N T N' mk k0 g0) fun (x:Nat)=>pz lv N T N' mk k0 g0,am 0 0,aw (aj 7 N (mO T)) (aj 7 N (mO T)),ac (ab N) (ab N),ac (A.add .i64 i (ab 1)) i',ac p p,aw (aj 4 n g) (aj 4 n g),am m m',ax m (mO R) (mO R')]))(y14:c0=ah->c1=ag->c2=ag->c3=ag->c4=ah->c5=ag->ψ (aH 0 [am 1 1,aF (fun (x:Nat)=>pz lv N T N' mk k0 g0) fun (x:Nat)=>pz lv N T N' mk k0 g0,am 0 0,aw (aj 7 N (mO T)) (aj 7 N (mO T)),ac (ab N) (ab N),ac (A.add .i64 i (ab 1)) i',ac p p,aw (aj 4 n g) (aj 4 n g),am m m',ax m (mO R) (mO R')]))(y15:c0=ah->c1=ag->c2=ag->c3=ag->c4=ag->c7=ah->c5=ah->c6=ah->ψ (aH 0 [am 1 1,aF (fun (x:Nat)=>pz lv N T N' mk k0 g0) fun (x:Nat)=>pz lv N T N' mk k0 g0,am 0 0,aw (aj 7 N (mO T)) (aj 7 N (mO T)),ac (ab N) (ab N),ac (A.add .i64 i (ab 1)) i',ac p p,aw (aj 4 n g) (aj 4 n g),am (A.addN m 1) m',ax (A.addN m 1) (A.snoc (mO R) m (nM [[av .i64 (T (A.toN i)).id,co ag,av .i64 (A.bin cB az p (A.bin b7 az (ab 1) i)),aj 4 n g]])) (mO R')]))(y16:c0=ah->c1=ag->c2=ag->c3=ag->c4=ag->c7=ah->c5=ah->c6=ag->ψ (aH 0 [am 1 1,aF (fun (x:Nat)=>pz lv N T N' mk k0 g0) fun (x:Nat)=>pz lv N T N' mk k0 g0,am 0 0,aw (aj 7 N (mO T)) (aj 7 N (mO T)),ac (ab N) (ab N),ac (A.add .i64 i (ab 1)) i',ac p p,aw (aj 4 n g) (aj 4 n g),am m m',ax m (mO R) (mO R')]))(y17:c0=ah->c1=ag->c2=ag->c3=ag->c4=ag->c7=ah->c5=ag->ψ (aH 0 [am 1 1,aF (fun (x:Nat)=>pz lv N T N' mk k0 g0) fun (x:Nat)=>pz lv N T N' mk k0 g0,am 0 0,aw (aj 7 N (mO T)) (aj 7 N (mO T)),ac (ab N) (ab N),ac (A.add .i64 i (ab 1)) i',ac p p,aw (aj 4 n g) (aj 4 n g),am m m',ax m (mO R) (mO R')]))(y18:c0=ah->c1=ag->c2=ag->c3=ag->c4=ag->c7=ag->c5=ah->c6=ah->ψ (aH 0 [am 1 1,aF (fun (x:Nat)=>pz lv N T N' mk k0 g0) fun (x:Nat)=>pz lv N T N' mk k0 g0,am 0 0,aw (aj 7 N (mO T)) (aj 7 N (mO T)),ac (ab N) (ab N),ac (A.add .i64 i (ab 1)) i',ac p p,aw (aj 4 n g) (aj 4 n g),am (A.addN m 1) m',ax (A.addN m 1) (A.snoc (mO R) m (nM [[av .i64 (T (A.toN i)).id,co ag,av .i64 (A.bin cB az p (A.bin b7 az (ab 1) i)),aj 4 n g]])) (mO R')]))(y19:c0=ah->c1=ag->c2=ag->c3=ag->c4=ag->c7=ag->c5=ah->c6=ag->ψ (aH 0 [am 1 1,aF (fun (x:Nat)=>pz lv N T N' mk k0 g0) fun (x:Nat)=>pz lv N T N' mk k0 g0,am 0 0,aw (aj 7 N (mO T)) (aj 7 N (mO T)),ac (ab N) (ab N),ac (A.add .i64 i (ab 1)) i',ac p p,aw (aj 4 n g) (aj 4 n g),am m m',ax m (mO R) (mO R')]))(y20:c0=ah->c1=ag->c2=ag->c3=ag->c4=ag->c7=ag->c5=ag->ψ (aH 0 [am 1 1,aF (fun (x:Nat)=>pz lv N T N' mk k0 g0) fun (x:Nat)=>pz lv N T N' mk k0 g0,am 0 0,aw (aj 7 N (mO T)) (aj 7 N (mO T)),ac (ab N) (ab N),ac (A.add .i64 i (ab 1)) i',ac p p,aw (aj 4 n g) (aj 4 n g),am m m',ax m (mO R) (mO R')]))(y21:c0=ag->ψ (ar (Sh.os 89 4 m (mO R)))):oP ψ (nR (C7 A W GK mZ) qm 300 400 24 aop (Vm lv N T N' mk k0 g0 p n g m R i) [] [⟨24,Vl,Vm lv N T N' mk k0 g0 p n g m' R' i',[]⟩]):=by
 subst e0 e1 e2 e3 e4 e5 e6 e7;exact wH (an (fun q0=>an (h1 q0) (an (h2 q0) (an (y1 q0) (fun q1=>an (h3 q0 q1) (an (y2 q0 q1) (fun q2=>an (h4 q0 q1 q2) (an (fun q3=>an (h2 q0) (an (fun q4=>an (h5 q0 q1 q2 q3 q4) (an (fun q5=>an (fun q6=>an (h6 q0 q1 q2 q3 q4 q5 q6) (y3 q0 q1 q2 q3 q4 q5 q6)) (fun q6=>an (h7 q0 q1 q2 q3 q4 q5 q6) (y4 q0 q1 q2 q3 q4 q5 q6))) (y5 q0 q1 q2 q3 q4))) (fun q4=>an (fun q5=>an (h8 q0 q1 q2 q3 q4 q5) (an (fun q6=>an (fun q7=>an (h9 q0 q1 q2 q3 q4 q5 q6 q7) (y6 q0 q1 q2 q3 q4 q5 q6 q7)) (fun q7=>an (h10 q0 q1 q2 q3 q4 q5 q6 q7) (y7 q0 q1 q2 q3 q4 q5 q6 q7))) (y8 q0 q1 q2 q3 q4 q5))) (fun q5=>an (fun q6=>an (fun q7=>an (h11 q0 q1 q2 q3 q4 q5 q6 q7) (y9 q0 q1 q2 q3 q4 q5 q6 q7)) (fun q7=>an (h12 q0 q1 q2 q3 q4 q5 q6 q7) (y10 q0 q1 q2 q3 q4 q5 q6 q7))) (y11 q0 q1 q2 q3 q4 q5))))) (fun q3=>an (h2 q0) (an (fun q4=>an (fun q5=>an (fun q6=>an (h13 q0 q1 q2 q3 q4 q5 q6) (y12 q0 q1 q2 q3 q4 q5 q6)) (y13 q0 q1 q2 q3 q4 q5)) (y14 q0 q1 q2 q3 q4)) (fun q4=>an (fun q5=>an (fun q6=>an (fun q7=>an (MO q0 q1 q2 q3 q4 q5 q6 q7) (y15 q0 q1 q2 q3 q4 q5 q6 q7)) (y16 q0 q1 q2 q3 q4 q5 q6)) (y17 q0 q1 q2 q3 q4 q5)) (fun q5=>an (fun q6=>an (fun q7=>an (h15 q0 q1 q2 q3 q4 q5 q6 q7) (y18 q0 q1 q2 q3 q4 q5 q6 q7)) (y19 q0 q1 q2 q3 q4 q5 q6)) (y20 q0 q1 q2 q3 q4 q5)))))))))))) y21)
end Go.Proofs
namespace Go.Pl
open Go Go.Sx Go.Proofs Go.Gm
def xF{α:Type}(c1 c2 c3 c4 c5 c6 c7:Bool)(A B:α):List α:=
 bif c1||c2 then [] else (bif (c4||c7)&&c3 then [A] else [])++(bif c5&&(c6||c3) then [B] else [])
noncomputable def tuG(lv:Int)(N:Nat)(T:Nat->pO)(mk:Nat->Int)(p:Int)(n:Nat)(g:Nat->List Sh):Nat->Nat->List Bc
 |_,0=>[] |i,r+1=>(xK (N8 lv N T mk n) ⟨p.toNat,g⟩ i).map (yx n)++tuG lv N T mk p n g (i+1) r
theorem YZ(lv:Int)(N:Nat)(T:Nat->pO)(mk:Nat->Int)(p:Int)(n:Nat)(g:Nat->List Sh):∀r i,tuG lv N T mk p n g i r=(((aD r).map fun j=>i+j).flatMap (xK (N8 lv N T mk n) ⟨p.toNat,g⟩)).map (yx n)
 |0,i=>rfl |r+1,i=>by
  rw[tuG,YZ lv N T mk p n g r (i+1),List.range_succ_eq_map,List.map_cons,List.flatMap_cons,List.map_append,List.map_map];congr 3;grind [List.map_congr_left]
theorem aot(lv:Int)(N:Nat)(T:Nat->pO)(mk:Nat->Int)(p:Int)(n:Nat)(g:Nat->List Sh):tuG lv N T mk p n g 0 N=tuL lv N T mk p n g:=by
 rw[YZ];unfold tuL turns;have:(aD N).map (fun j=>0+j)=aD N:=by simp
 rw[this];rfl
theorem aqW{lv:Int}{N:Nat}{T:Nat->pO}{mk:Nat->Int}{p n:Nat}{g:Nat->List Sh}{i:Nat}(hp:p<2^62)(hi:i<N)(hN:N<=62)(hm:0<=mk i)(hm2:(mk i).toNat<2^N){c1 c2 c3 c4 c5 c6 c7:Bool}
  (e1:mM.eq (mM.bin .and .i64 (mM.bin .shr .i64 (p:Int) (i:Int)) (ab 1)) (ab 1)=c1)
  (e2:mM.nt (mM.eq (mM.bin .andNot .i64 (mk i) (p:Int)) (ab 0))=c2)
  (e3:plO n g (T i).k (T i).g=c3) (e4:mM.eq (T i).st (ab 3)=c4) (e5:mM.nt (mM.eq (T i).st (ab 3))=c5) (e6:mM.nt (mM.eq lv (ab 3))=c6) (e7:mM.eq (T i).st (ab 2)=c7) :
  (xK (N8 lv N T mk n) ⟨p,g⟩ i).map (yx n)=xF c1 c2 c3 c4 c5 c6 c7 ⟨(T i).id,ah,mM.bin .or .i64 (p:Int) (mM.bin .shl .i64 (ab 1) (i:Int)),n,N7 n g (T i).k (T i).g⟩ ⟨(T i).id,ag,mM.bin .or .i64 (p:Int) (mM.bin .shl .i64 (ab 1) (i:Int)),n,g⟩/\may (N8 lv N T mk n) p i=(!c1 && !c2):=by
 have hp2:p<2^63:=by omega
 have hmay:may (N8 lv N T mk n) p i=(!c1 && !c2):=by
  rw[<-e1,aqU hp2 (by omega),<-e2];have:mk i=((mk i).toNat:Int):=(Int.toNat_of_nonneg hm).symm;rw[this,abn hm2 hN hp2,Bool.not_not];rfl
 refine ⟨?_,hmay⟩;have ho:=or_eq (p:=p) (i:=i) hp2 (by omega);unfold xK;show List.map (yx n) (if may (N8 lv N T mk n) p i=ah then _ else _)=_;rw[hmay];have hc:(N8 lv N T mk n).com i=(c4||c7):=by rw[<-e4,<-e7];rfl
 have ha:(N8 lv N T mk n).Uh i=c5:=by rw[<-e5];rfl
 have hl:(N8 lv N T mk n).all=!c6:=by rw[<-e6];show (lv==3)=!(!(lv==3));simp
 have hr:(N8 lv N T mk n).run g i=if c3=ah then ae (N7 n g (T i).k (T i).g) else ao:=by rw[<-e3];rfl
 rw[hc,ha,hl];simp only[hr,ho];unfold xF;clear hc ha hl hr hmay e1 e2 e3 e4 e5 e6 e7;grind [yx,N8]
end Go.Pl
namespace Go.Proofs
open Go Go.Sx Go.Pl Go.Gm
theorem ahA(stop:Nat->List Nat->Bool)(O:nD ai (nJ W7) 47 D76):oD ai (C7 mM W7 GK stop):=C7.Hq (fun g F h=>by
 grind [GK]) fun g h=>by
 unfold GK at h;split at h;all_goals first|(cases h;done) |kernel_rfl
theorem aou:nD ai (nJ W7) 47 D76:=O76.mono fun H nY args φ hr h=>by
 unfold D76 at h;split at h
 ·split at h
  ·rename_i e0 e1
   obtain ⟨h1,h2,h3⟩:=h;unfold plN at h1;rw[ak,ak] at h1;unfold F76;simp only[e0,e1];exact ⟨h1.1,h1.2.1,h1.2.2,h2,h3⟩
  ·exact h.elim
 ·exact h.elim
section
variable{H0:Mem}{w0:World}{φ:Sh->Prop}{lv:Int}{N:Nat}{T:Nat->pO}{mk:Nat->Int}{k0:Nat}{g0:Nat->List Sh}{p:Nat}{n:Nat}{g:Nat->List Sh}
theorem aov{α:Type}[Row α](l r:List α)(j:Nat)(h:j<l.length):nth (l++r) j=nth l j:=by
 simp_all [nth,aO,cj]
theorem zL{α:Type}[Row α](l:List α)(a:α)(s:List Sh)(hs:s=Row.put a):∀j,j<l.length+1->mM.snoc (mO (nth l)) l.length (nM [s]) j=mO (nth (l++[a])) j:=fun j hj=>by
 rw[rH];split
 ·rename_i q
  show Row.put (nth l j)=Row.put (nth (l++[a]) j);rw[aov _ _ _ q]
 ·have:j=l.length:=by omega
  subst this;rw[dh];show s=Row.put (nth (l++[a]) l.length);simp_all [nth]
theorem afB{g g':Nat->List Sh}{n:Nat}(h:∀j,j<n->g j=g' j)(r:Nat->List Sh):mM.snoc g n r=mM.snoc g' n r:=by
 grind [rH]
theorem ajf(Q:TuP lv N T N mk (p:Int) n g):∀r i (acc:List Bc),i+r=N->acc.length<=2*i->φ (.sl 4 (acc++tuG lv N T mk p n g i r).length (mO (nth (acc++tuG lv N T mk p n g i r))))->
  mY ai (C7 mM W7 GK mZ) (K0 H0 w0) 24 Vl (Vm lv N T N mk k0 g0 p n g acc.length (nth acc) (i:Nat)) [] emp (up φ)
 |0,i,acc,hi,hl,hφ=>by
  refine uT iw aop ?_;refine qg (ahA _ aou) 300 400 [⟨24,Vl,Vm lv N T N mk k0 g0 p n g 0 (nth []) 0,[]⟩] ?_;have lt {P:Prop} (h:mM.lt (i:Int) (ab N)=ah):P:=by simp[mW] at h;omega
  have e:acc++tuG lv N T mk p n g i 0=acc:=by rw[tuG,bR]
  rw[e] at hφ;refine YX mM W7 lv N T N mk k0 g0 p n g acc.length 0 (nth acc) (nth []) i 0 rfl rfl rfl rfl rfl rfl rfl rfl ?_ ?_ ?_ ?_ ?_ ?_ ?_ ?_ ?_ ?_ ?_ ?_ ?_ ?_ ?_ ?_ ?_ ?_ ?_ ?_ ?_ ?_ ?_ ?_ ?_ ?_ ?_ ?_ ?_ ?_ ?_ ?_ ?_ ?_ ?_ ?_;all_goals first|(intro q;exact lt q) |skip
  exact fun _=>nP (s':=.sl 4 acc.length (mO (nth acc))) anc hφ
 |r+1,i,acc,hi,hl,hφ=>by
  refine uT iw aop ?_;have hlN:=Q.le;have w1:mM.add .i64 (i:Int) (ab 1)=((i+1:Nat):Int):=add1 (by omega);have no {P:Prop} (h:mM.lt (i:Int) (ab N)=ag):P:=by simp[mW] at h;omega
  have inb:mM.inB (i:Int) N=ah:=by simp[nN];omega
  have rm1:mM.room (mM.addN acc.length 1) 48=ah:=by rw[uK,decide_eq_true_eq,uo];unfold maxLen;omega
  have rm2:mM.room (mM.addN (mM.addN acc.length 1) 1) 48=ah:=by rw[uK,decide_eq_true_eq,uo,uo];unfold maxLen;omega
  have le0:mM.le (ab 0) (i:Int)=ah:=by simp[tN]
  have hp:p<2^62:=by have:=Q.lt;omega
  obtain ⟨c1,e1⟩:∃c,mM.eq (mM.bin .and .i64 (mM.bin .shr .i64 (p:Int) (i:Int)) (ab 1)) (ab 1)=c:=⟨_,rfl⟩;obtain ⟨c2,e2⟩:∃c,mM.nt (mM.eq (mM.bin .andNot .i64 (mk (mM.toN i)) (p:Int)) (ab 0))=c:=⟨_,rfl⟩;obtain ⟨c3,e3⟩:∃c,plO n g (T (mM.toN i)).k (T (mM.toN i)).g=c:=⟨_,rfl⟩;obtain ⟨c4,e4⟩:∃c,mM.eq (T (mM.toN i)).st (ab 3)=c:=⟨_,rfl⟩;obtain ⟨c5,e5⟩:∃c,mM.nt (mM.eq (T (mM.toN i)).st (ab 3))=c:=⟨_,rfl⟩;obtain ⟨c6,e6⟩:∃c,mM.nt (mM.eq lv (ab 3))=c:=⟨_,rfl⟩;obtain ⟨c7,e7⟩:∃c,mM.eq (T (mM.toN i)).st (ab 2)=c:=⟨_,rfl⟩;obtain ⟨hx,hmay⟩:=aqW (lv:=lv) (T:=T) (n:=n) (g:=g) hp (by omega:i<N) Q.le (Q.mpos i (by omega)) (Q.mlt i (by omega)) e1 e2 e3 e4 e5 e6 e7;have hfit:=Q.fit i (by omega);rw[bm,hmay] at hfit;rw[tuG,bm,<-cA] at hφ;have nx:=fun (h:(acc++(xK (N8 lv N T mk n) ⟨p,g⟩ i).map (yx n)).length<=2*(i+1))=>ajf Q r (i+1) (acc++(xK (N8 lv N T mk n) ⟨p,g⟩ i).map (yx n)) (by omega) h hφ;rw[hx] at nx;generalize hacc:acc++xF _ _ _ _ _ _ _ _ _=acc' at nx;refine qg (ahA _ aou) 300 400 [⟨24,Vl,Vm lv N T N mk k0 g0 p n g acc'.length (nth acc') ((i+1:Nat):Int),[]⟩] ?_;have lf:∀(mm:Nat) (gg:Nat->List Sh),mm=acc'.length->(∀j,j<mm->gg j=mO (nth acc') j)->acc'.length<=2*(i+1)->yc ai (C7 mM W7 GK mZ) (K0 H0 w0) [⟨24,Vl,Vm lv N T N mk k0 g0 p n g acc'.length (nth acc') ((i+1:Nat):Int),[]⟩] emp (up φ)
    (aH 0 [am 1 1,aF (fun _=>pz lv N T N mk k0 g0) fun _=>pz lv N T N mk k0 g0,am 0 0,aw (aj 7 N (mO T)) (aj 7 N (mO T)),ac (ab N) (ab N),ac (mM.add .i64 i (ab 1)) ((i+1:Nat):Int),ac p p,aw (aj 4 n g) (aj 4 n g),am mm acc'.length,ax mm gg (mO (nth acc'))]):=
   fun mm gg e1 e2 e3=>⟨⟨rfl,rfl,rfl,rfl,rfl,w1,rfl,rfl,e1,e2,trivial⟩,_,rfl,nx e3⟩
  have l0 (h:acc'=acc):=lf acc.length (mO (nth acc)) (by rw[h]) (fun j _=>by rw[h]) (by rw[h];omega);have l1 (a:Bc) (h:acc'=acc++[a]):=lf (mM.addN acc.length 1) (mM.snoc (mO (nth acc)) acc.length (nM [Row.put a])) (by rw[h,aY];rfl) (fun j hj=>by rw[h];exact zL acc a _ rfl j hj) (by rw[h,aY];show acc.length+1<=_;omega);have l2 (a b:Bc) (h:acc'=acc++[a,b]):=lf (mM.addN (mM.addN acc.length 1) 1) (mM.snoc (mM.snoc (mO (nth acc)) acc.length (nM [Row.put a])) (mM.addN acc.length 1) (nM [Row.put b])) (by rw[h,aY];rfl) (fun j hj=>by
   have e:=zL (acc++[a]) b _ rfl j (by rw[aY];exact hj);rw[cA,aY] at e;rw[h];have e2:=afB (n:=acc.length+1) (fun j hj=>zL acc a _ rfl j hj) (nM [Row.put b]);exact (congrFun e2 j).trans e) (by rw[h,aY];show acc.length+2<=_;omega)
  clear lf nx;refine YX mM W7 lv N T N mk k0 g0 p n g acc.length acc'.length (nth acc) (nth acc') i ((i+1:Nat):Int) rfl e1 e2 e3 e4 e5 e6 e7
   (fun _=>inb)
   (fun _=>le0)
   (fun _ _=>inb)
   (fun _ q1 q2=>hfit (by rw[q1,q2];rfl))
   (fun _ _ _ _ _=>rm1)
   (fun _ _ _ _ _ _ _=>rm2)
   (fun _ _ _ _ _ _ _=>rm2)
   (fun _ _ _ _ _ _=>rm1)
   (fun _ _ _ _ _ _ _ _=>rm2)
   (fun _ _ _ _ _ _ _ _=>rm2)
   (fun _ _ _ _ _ _ _ _=>rm1)
   (fun _ _ _ _ _ _ _ _=>rm1)
   (fun _ _ _ _ _ _ _=>rm1)
   (fun _ _ _ _ _ _ _ _=>rm1)
   (fun _ _ _ _ _ _ _ _=>rm1)
   (fun _ q1=>l0 (by rw[<-hacc,q1];exact bR _))
   (fun _ q1 q2=>l0 (by rw[<-hacc,q1,q2];exact bR _))
   (fun _ q1 q2 q3 q4 q5 q6=>l2 _ _ (by rw[<-hacc,q1,q2,q3,q4,q5,q6];rfl))
   (fun _ q1 q2 q3 q4 q5 q6=>l2 _ _ (by rw[<-hacc,q1,q2,q3,q4,q5,q6];rfl))
   (fun _ q1 q2 q3 q4 q5=>l1 _ (by rw[<-hacc,q1,q2,q3,q4,q5];rfl))
   (fun _ q1 q2 q3 q4 q5 q6 q7=>l2 _ _ (by rw[<-hacc,q1,q2,q3,q4,q5,q6,q7];rfl))
   (fun _ q1 q2 q3 q4 q5 q6 q7=>l2 _ _ (by rw[<-hacc,q1,q2,q3,q4,q5,q6,q7];rfl))
   (fun _ q1 q2 q3 q4 q5 q6=>l1 _ (by rw[<-hacc,q1,q2,q3,q4,q5,q6];rfl))
   (fun _ q1 q2 q3 q4 q5 q6 q7=>l1 _ (by rw[<-hacc,q1,q2,q3,q4,q5,q6,q7];rfl))
   (fun _ q1 q2 q3 q4 q5 q6 q7=>l1 _ (by rw[<-hacc,q1,q2,q3,q4,q5,q6,q7];rfl))
   (fun _ q1 q2 q3 q4 q5 q6=>l0 (by rw[<-hacc,q1,q2,q3,q4,q5,q6];exact bR _))
   (fun _ q1 q2 q3 q4 q5 q6=>l1 _ (by rw[<-hacc,q1,q2,q3,q4,q5,q6];rfl))
   (fun _ q1 q2 q3 q4 q5 q6=>l0 (by rw[<-hacc,q1,q2,q3,q4,q5,q6];exact bR _))
   (fun _ q1 q2 q3 q4 q5=>l0 (by rw[<-hacc,q1,q2,q3,q4,q5];exact bR _))
   (fun _ q1 q2 q3 q4 q5 q6 q7=>l1 _ (by rw[<-hacc,q1,q2,q3,q4,q5,q6,q7];rfl))
   (fun _ q1 q2 q3 q4 q5 q6 q7=>l0 (by rw[<-hacc,q1,q2,q3,q4,q5,q6,q7];exact bR _))
   (fun _ q1 q2 q3 q4 q5 q6=>l0 (by rw[<-hacc,q1,q2,q3,q4,q5,q6];exact bR _))
   (fun _ q1 q2 q3 q4 q5 q6 q7=>l1 _ (by rw[<-hacc,q1,q2,q3,q4,q5,q6,q7];rfl))
   (fun _ q1 q2 q3 q4 q5 q6 q7=>l0 (by rw[<-hacc,q1,q2,q3,q4,q5,q6,q7];exact bR _))
   (fun _ q1 q2 q3 q4 q5 q6=>l0 (by rw[<-hacc,q1,q2,q3,q4,q5,q6];exact bR _))
   (fun q=>no q)
end
def Wi(H:Mem):List Sh->List Sh->Prop
 |[],[]=>True |s::l,s'::l'=>(∀u,Rep H s u->Rep H s' u)/\Wi H l l' |_,_=>False
theorem acL{H:Mem}:∀{l l':List Sh},Wi H l l'->l'.length=l.length/\∀(j:Nat) (s':Sh),l'[j]?=ae s'->∃s:Sh,l[j]?=ae s/\∀u,Rep H s u->Rep H s' u
 |[],[],_=>⟨rfl,fun j s' h=>by cases h⟩ |_::_,_::_,⟨h,t⟩=>by
  obtain ⟨e,q⟩:=acL t;grind
 |[],_::_,h=>h.elim |_::_,[],h=>h.elim
theorem afC{H:Mem}{l l':List Sh}{v:Value}(hr:Rep H (.pt l) v)(h:Wi H l l'):Rep H (.pt l') v:=by
 obtain ⟨e,q⟩:=acL h;cases hr with
 |pt _ b off c h1 h2 h3=>
  exact .pt _ b off c (fun j hj=>h1 j (by omega)) (fun j hj=>h2 j (by omega)) fun j s' hs=>by
   grind
theorem JV{H:Mem}{l l':List Sh}{v:Value}(hr:Rep H (.agg l) v)(h:Wi H l l'):Rep H (.agg l') v:=by
 obtain ⟨e,q⟩:=acL h;cases hr with
 |agg _ vs h1 h3=>
  exact .agg _ vs (by omega) fun j s' u hs hv=>by
   grind
theorem afD{H:Mem}{st n:Nat}{g:Nat->List Sh}{u:Value}(h:(bJ st 4||bJ n 0)=ah)(hr:Rep H (.sl st n g) u):Rep H (.sl 4 n g) u:=by
 rw[gJ] at h;rcases h with h|h
 ·simp_all
 ·obtain rfl:=Nat.eq_of_beq_eq_true h
  grind [Jw]
theorem avZ:nD ai (nJ W7) 24 D41:=by
 refine rC (C7 mM W7 GK mZ) iw fun H w nY args φ hrep h=>?_
 have hn:iw.ntmps=104:=by kernel_rfl
 unfold D41 at h;split at h
 ·rename_i lv s1 s2 s3 t st n g
  split at h
  ·rename_i N T' N' mk' q0 p e1 e2 e4 e3
   obtain ⟨h1,hφ⟩:=h;unfold YV at h1;rw[ak,ak,ak] at h1;obtain ⟨a1,a2,a3,a4⟩:=h1;have Q:TuP lv N (mP T') N' (mP mk') p n g:=@of_decide_eq_true _ (ay _) a4;obtain rfl:=Q.eq;obtain ⟨q,rfl⟩:=Int.eq_ofNat_of_zero_le Q.pos;match args,hrep with
   |[v,u],⟨rv,ru,_⟩=>
    obtain ⟨k0,g0⟩:=q0;refine ⟨[.pt (pz lv N (mP T') N (mP mk') k0 g0),.agg [.i .i64 (q:Int),.sl 4 n g]],⟨afC rv ⟨fun _ r=>r,fun _ r=>pX (nZ e1 r) a1,fun _ r=>pX (nZ e2 r) a2,fun _ r=>nZ e4 r,trivial⟩,JV ru ⟨fun _ r=>rO e3 r,fun _ r=>afD a3 r,trivial⟩,trivial⟩,L0,?_⟩;have hφ:φ (.sl 4 (tuL lv N (mP T') (mP mk') (q:Int) n g).length (mO (nth (tuL lv N (mP T') (mP mk') (q:Int) n g)))):=hφ;rw[<-aot] at hφ;refine qg (ahA _ aou) 300 400 [⟨24,Vl,Vm lv N (mP T') N (mP mk') k0 g0 q n g 0 (nth []) ((0:Nat):Int),[]⟩] ?_;rw[hn];exact ahz mM W7 lv N (mP T') N (mP mk') k0 g0 q n g 0 (nth []) _ ⟨⟨rfl,rfl,rfl,rfl,rfl,rfl,rfl,rfl,rfl,trivial⟩,_,rfl,ajf Q N 0 [] (by omega) (by simp) hφ⟩
  ·exact h.elim
 ·exact h.elim
open Go Go.Conc Go.RowKit
set_option maxRecDepth 100000 in
theorem afE(w:World):Calls ai 39 #[.chan ao] w fun e w'=>e=.returned (.bool ag)/\w'=w:=by
 refine calls_of_loneTo fun cs=>?_
 have e:Frame.enter ai 39 #[.chan ao] .normal=(Conc.base 39).at ⟨#[.chan ao,undef,undef,undef,undef,undef,undef],[]⟩ [.code (kA.body.getD .skip)]:=by
  rfl
 rw[e];refine LoneTo.goes (n:=14) ?_;simp only[kA,Option.getD_some];s_c stepG_seq
 s_reg
 s_op
 s_c stepG_region_end
 s_c stepG_seq
 s_reg
 s_op
 s_c stepG_region_end
 s_c stepG_seq
 s_reg
 s_stop
 refine LoneTo.step (step_lone_select_recv_nil (z:=.agg #[]) (stepG_comm (cases:=#[rcaseNil (.agg #[])]) (blocking:=ag) (shape:=.select) (w':=w) rfl rfl (by decide) (by simp[go_sem,execOp,rcaseNil,Act.eval]))) ?_;rw[Frame.finish_at];walk_nrm
 refine LoneTo.goes (n:=10) ?_;s_op
 s_op
 s_c stepG_region_end
 s_c stepG_block
 s_cond ag
 s_c stepG_seq
 s_reg
 s_op
 s_c stepG_region_end
 s_c stepG_ret'
 s_stop
 exact LoneTo.done ⟨.returned (.bool ag),_,rfl,⟨rfl,rfl⟩,rfl,rfl,rfl,rfl,_,Tryz.func39,by simp[results,kA,Frame.at]⟩
def aow:List mL->Go.Sx.Tree mL
 |[.v (.chan ao)]=>.leaf (.b ag) |_=>.fail
theorem av1:Go.Sx.nD ai (nJ W7) 39 aow:=by
 intro H w nY args φ hon hg hr h;unfold aow at h;split at h
 ·match args,hr with
  |[v],⟨rv,_⟩=>
   cases rv;refine Calls.mono (afE w) fun e w' ⟨he,hw⟩=>?_;subst hw;exact ⟨_,_,H,he,h,fun _ _ h=>h,hon,rfl,rfl,rfl,Nat.le_refl _,fun _ _=>rfl,fun b h=>.inl h,fun b0=>⟨fun _=>ao,fun i h=>absurd rfl h,fun i b h=>(by cases h),rfl,Go.Sx.Ir⟩⟩
 ·exact h.elim
end Go.Proofs
namespace Go.Pl
open Go Go.Sx Go.Proofs
structure yU where
 okb:Bool
 PK:Bool
 pos:Int
 e:Nat
 lv:Int
 N:Nat
 T:Nat->pO
 ms:Nat->Int
 k0:Nat
 g0:Nat->List Sh
noncomputable def aox(s:Sh)(l:Int)(h:Sh)(lv:Int):Bool:=@decide (s=h/\l=lv) (ay _)
noncomputable def VJ(st n:Nat)(g:Nat->List Sh):Bool:=(bJ st 4||bJ n 0)&&(stB n g&&keysB n (tH n g))
noncomputable def Hz(n:Nat)(g:Nat->List Sh):List UInt8:=aaS ((aD n).map (tH n g))
structure MS where
 placed:Int
 st:Nat
 n:Nat
 g:Nat->List Sh
instance:Inhabited MS:=⟨⟨0,0,0,fun _=>[]⟩⟩
instance:Row MS where
 put x:=[.i .i64 x.placed,.sl x.st x.n x.g]
 get l:=match l with
  |[.i .i64 a,.sl s n g]=>ae ⟨a,s,n,g⟩ |_=>ao
 qQ l a h:=by
  split at h
  ·cases h;rfl
  ·cases h
 get_put a:=rfl
 Ad:=default
structure PrQ where
 placed:Int
 key:List UInt8
instance:Inhabited PrQ:=⟨⟨0,[]⟩⟩
instance:Row PrQ where
 put x:=[.i .i64 x.placed,.str x.key]
 get l:=match l with
  |[.i .i64 a,.str k]=>ae ⟨a,k⟩ |_=>ao
 qQ l a h:=by
  split at h
  ·cases h;rfl
  ·cases h
 get_put a:=rfl
 Ad:=default
end Go.Pl
namespace Go.Proofs
open Go Go.Sx Go.Pl
noncomputable def RH(h0:Sh)(lv:Int)(B:yU):List Sh->Tree Sh
 |[s,t]=>match nO t with
  |some l=>.need (aox s l h0 lv) (.node B.okb (.leaf (.mX [.pt (pz B.lv B.N B.T B.N B.ms B.k0 B.g0),.v .nilIface]))
   (.node B.PK (.leaf (.mX [.v (.pointer ao),.qK 90 (.pt [.i .i64 B.pos,.er B.e 288])])) (.leaf (.mX [.v (.pointer ao),.er B.e 288]))))
  |none=>.fail
 |_=>.fail
noncomputable def D92:List Sh->Tree Sh
 |[.agg [.sl st n g]]=>.need (VJ st n g) (.leaf (.str (Hz n g))) |_=>.fail
noncomputable def qY(h0:Sh)(lv:Int)(B:yU):Nat->Option (List Sh->Tree Sh)
 |23=>ae (RH h0 lv B) |24=>ae D41 |39=>ae aow |57=>ae D92 |_=>ao
def Z7:List It:=[aA [0,0,1,1,1,1,1,1,1,1,1,1],aM 0,aA [1,1,1,1,1,1,1,1,1,1,1]]
def tbA:List It:=aA [0,0,0,1,1,1,1,1,1,1,1,1,1]::Z7
def hpA(B:yU)(mo:Int)(M:Int×List UInt8->Option Value)(c:Nat)(cr:Nat->PrQ)(at_:Int)(q:Nat)(qr:Nat->MS)(m:Nat)(od:Nat->Py):List (Nat×SB):=
 [(1,.box [.bool ag,.nS,.int .i64 0] 44),(2,.pm .int M []),(3,.box [.sym .i64 mo,.mp 2,.gs 7] 150),(4,.box [.ptr 3 0] 111),(5,.box [.gs 8,.sym .i64 at_] 117),(6,.box [.gs 9] 115),(7,.own 114 2 c (mO cr)),(8,.own 85 2 q (mO qr)),(9,.own 85 2 m (mO od))]
def tmA(B:yU):List (Nat×SV):=[(0,.val (.chan ao)),(8,.ptr 1 0),(10,.yD 4 1 (fun _=>pz B.lv B.N B.T B.N B.ms B.k0 B.g0) 0 0),(12,.ptr 4 0),(13,.ptr 5 0),(14,.ptr 6 0),(15,.fn 34 [.ptr 4 0,.ptr 5 0,.ptr 6 0])]
def LA(B:yU)(mo:Int)(M:Int×List UInt8->Option Value)(c:Nat)(cr:Nat->PrQ)(at_:Int)(q:Nat)(qr:Nat->MS)(m:Nat)(od:Nat->Py):Core:=
 {tm:=sK 111 (tmA B),hp:=hpA B mo M c cr at_ q qr m od,nx:=10,lim:=L0,tc:=[]}
def Y0:List It:=[aA [0,1,1,1,1,0,0,0,0,1,1,1,1,1,1,1,1,1,1],aM 2,aM 1,aA [0,0,1,1,1,1,1,1,1,1,1,1],aM 0,aA [1,1,1,1,1,1,1,1,1,1,1]]
def tbB:List It:=aA [0,0,1,1,1,1,0,0,0,0,1,1,1,1,1,1,1,1,1,1]::Y0
def LB(B:yU)(mo:Int)(M:Int×List UInt8->Option Value)(c:Nat)(cr:Nat->PrQ)(at_:Int)(q:Nat)(qr:Nat->MS)(m:Nat)(od:Nat->Py)(t:Nat)(tr:Nat->Bc)(j:Int):Core:=
 {tm:=sK 111 (tmA B++[(76,.sh (.sl 4 t (mO tr))),(77,.sym .i64 (t:Int)),(78,.sym .i64 j)]),hp:=hpA B mo M c cr at_ q qr m od,nx:=10,lim:=L0,tc:=[]}
def HY(B:yU):List Fr:=[{g:=20,td:=[It.reg [0,1,1,1,1,1,1,1,1,1,1,1,1] [2,3],aA [1,1,1,1,1,1,1,1,1,1,1,1,1]],tm:=sK 111 [(8,.ptr 1 0),(10,.yD 4 1 (fun _=>pz B.lv B.N B.T B.N B.ms B.k0 B.g0) 0 0),(22,.ptr 11 0)]}]
def VK:List It:=[aA [0,1,0,1,1],aM 0,aA [1,1,1]]
def tbC:List It:=aA [0,0,1,0,1,1]::VK
def hpC(m:Nat)(od:Nat->Py)(M:Int×List UInt8->Option Value)(c:Int):List (Nat×SB):=[(1,.box [.bool ag,.nS,.int .i64 0] 44),(9,.own 85 2 m (mO od)),(10,.pm .bool M []),(11,.box [.bool ag,.nS,.sym .i64 c] 44)]
def tmC(B:yU)(i:Int):List (Nat×SV):=[(0,.yD 4 1 (fun _=>pz B.lv B.N B.T B.N B.ms B.k0 B.g0) 0 0),(1,.gs 9),(5,.mp 10),(6,.sym .i64 i)]
def LC(B:yU)(m:Nat)(od:Nat->Py)(M:Int×List UInt8->Option Value)(c:Int)(i:Int):Core:={tm:=sK 50 (tmC B i),hp:=hpC m od M c,nx:=12,lim:=L0,tc:=[]}
theorem ahC(A:Prim)(W:Wd)(B:yU)(lv mo:Int)(o m:Nat)(og mg:Nat->List Sh)(mo':Int)(M':Int×List UInt8->Option Value)(c':Nat)(JW:Nat->PrQ)(at':Int)(q':Nat)(RI:Nat->MS)(m':Nat)(od':Nat->Py){ψ:pI->Prop}{c0 c1 c2 c3 c4 c5 c6 c7:Bool}(e0:A.lt lv (ab 1)=c0)(e1:A.lt (ab 3) lv=c1)(e2:A.lt mo (ab 1)=c2)(e3:A.lt (ab 65536) mo=c3)(e4:B.okb=c4)(e5:A.isS ao=c5)(e6:A.eq (ab 0) (A.max mo (ab 0))=c6)(e7:B.PK=c7)(h1:c0=ag->c1=ag->c2=ag->c3=ag->(aox (aN [aj 2 o og,aj 8 m mg]) lv (aN [aj 2 o og,aj 8 m mg]) lv)=ah)(h2:c0=ag->c1=ag->c2=ag->c3=ag->c4=ah->(VJ 4 B.k0 B.g0)=ah)(y1:c0=ah->ψ (ar (aL [aN [co ag,aj 0 0 fun _=>[],av .i64 (ab 0)],aX 1 288])))(y2:c0=ag->c1=ah->ψ (ar (aL [aN [co ag,aj 0 0 fun _=>[],av .i64 (ab 0)],aX 1 288])))(y3:c0=ag->c1=ag->c2=ah->ψ (ar (aL [aN [co ag,aj 0 0 fun _=>[],av .i64 (ab 0)],aX 3 288])))(y4:c0=ag->c1=ag->c2=ag->c3=ah->ψ (ar (aL [aN [co ag,aj 0 0 fun _=>[],av .i64 (ab 0)],aX 3 288])))(y5:c0=ag->c1=ag->c2=ag->c3=ag->c4=ah->c5=ah->ψ (aH 0 [dL (cp ao) (cp ao),am 1 1,aF (fun (x:Nat)=>pz B.lv B.N B.T B.N B.ms B.k0 B.g0) fun (x:Nat)=>pz B.lv B.N B.T B.N B.ms B.k0 B.g0,am 0 0,ac (ab 0) (ab 0),cP (fun (x:Int×List UInt8)=>ao) M',ac (A.max mo (ab 0)) mo',ac (ab 0) at',am c' 0,am q' 0,am m' 0]))(y6:c0=ag->c1=ag->c2=ag->c3=ag->c4=ah->c5=ag->c6=ah->ψ (ar (aL [aN [co ag,aj 0 0 fun _=>[],av .i64 (ab 0)],aX 0 288])))(y7:c0=ag->c1=ag->c2=ag->c3=ag->c4=ah->c5=ag->c6=ag->ψ (aH 0 [dL (cp ao) (cp ao),am 1 1,aF (fun (x:Nat)=>pz B.lv B.N B.T B.N B.ms B.k0 B.g0) fun (x:Nat)=>pz B.lv B.N B.T B.N B.ms B.k0 B.g0,am 0 0,ac (ab 0) (ab 0),cP (Ep (ab 0,Hz B.k0 B.g0) (ae (cR .i64 (ab 0))) fun (x:Int×List UInt8)=>ao) M',ac (A.max mo (ab 0)) mo',ac (ab 0) at',am 1 c',ax 1 (nM [[av .i64 (ab 0),Sh.str (Hz B.k0 B.g0)]]) (mO JW),am 1 q',ax 1 (nM [[av .i64 (ab 0),aj 4 B.k0 B.g0]]) (mO RI),am 1 m',ax 1 (nM [[av .i64 (ab 0),aj 4 B.k0 B.g0]]) (mO od')]))(y8:c0=ag->c1=ag->c2=ag->c3=ag->c4=ag->c7=ah->ψ (ar (aL [aN [co ag,aj 0 0 fun _=>[],av .i64 (ab 0)],Sh.qK 90 (Sh.pt [av .i64 B.pos,aX B.e 288])])))(y9:c0=ag->c1=ag->c2=ag->c3=ag->c4=ag->c7=ag->ψ (ar (aL [aN [co ag,aj 0 0 fun _=>[],av .i64 (ab 0)],aX B.e 288]))):oP ψ (nR (C7 A W (qY (.agg [.sl 2 o og,.sl 8 m mg]) lv B) mZ) qm 300 400 20 [.code []] (nX 111 [.v (.chan ao),.agg [.sl 2 o og,.sl 8 m mg],.i .i64 lv,.i .i64 mo] L0) [] [⟨20,Z7,LA B mo' M' c' JW at' q' RI m' od',[]⟩]):=by
 subst e0 e1 e2 e3 e4 e5 e6 e7;exact DV (an y1 (fun q0=>an (y2 q0) (fun q1=>an (y3 q0 q1) (fun q2=>an (y4 q0 q1 q2) (fun q3=>an (h1 q0 q1 q2 q3) (an (fun q4=>an (h2 q0 q1 q2 q3 q4) (an (y5 q0 q1 q2 q3 q4) (fun q5=>an (y6 q0 q1 q2 q3 q4 q5) (y7 q0 q1 q2 q3 q4 q5)))) (fun q4=>an (y8 q0 q1 q2 q3 q4) (y9 q0 q1 q2 q3 q4))))))))
theorem PL(A:Prim)(W:Wd)(B:yU)(hs:Sh)(lv mo:Int)(M:Int×List UInt8->Option Value)(c:Nat)(cr:Nat->PrQ)(at_:Int)(q:Nat)(qr:Nat->MS)(m:Nat)(od:Nat->Py)(at':Int)(q':Nat)(RI:Nat->MS)(t:Nat)(tr:Nat->Bc)(M':Int×List UInt8->Option Value)(c' i':Int){ψ:pI->Prop}{c0 c1 c2:Bool}(e0:A.eq at_ (A.nK q)=c0)(e1:A.eq (A.add .i64 at_ (ab 1)) (A.nK q)=c1)(e2:ag=c2)(h1:c0=ag->(A.inB at_ q)=ah)(h2:c0=ag->c1=ah->c2=ag->(YV B.lv B.N (mO B.T) B.N (mO B.ms) (qr (A.toN at_)).placed (qr (A.toN at_)).st (qr (A.toN at_)).n (qr (A.toN at_)).g)=ah)(h3:c0=ag->c1=ag->c2=ag->(YV B.lv B.N (mO B.T) B.N (mO B.ms) (qr (A.toN at_)).placed (qr (A.toN at_)).st (qr (A.toN at_)).n (qr (A.toN at_)).g)=ah)(y1:c0=ah->ψ (aH 1 [am 1 1,aF (fun (x:Nat)=>pz B.lv B.N B.T B.N B.ms B.k0 B.g0) fun (x:Nat)=>pz B.lv B.N B.T B.N B.ms B.k0 B.g0,am 0 0,ac (A.sub .i64 (A.nK m) (ab 1)) i',ac (ab 0) (ab 0),am m m,ax m (mO od) (mO od),cP (fun (x:Int×List UInt8)=>ao) M',ac (A.nK c) c',am 1 1,aF (fun (x:Nat)=>pz B.lv B.N B.T B.N B.ms B.k0 B.g0) fun (x:Nat)=>pz B.lv B.N B.T B.N B.ms B.k0 B.g0,am 0 0]))(y2:c0=ag->c1=ah->c2=ah->ψ (ar (aL [aN [co ag,aj 0 0 fun _=>[],av .i64 (ab 0)],aX 4 288])))(y3:c0=ag->c1=ah->c2=ag->ψ (aH 0 [dL (cp ao) (cp ao),am 1 1,aF (fun (x:Nat)=>pz B.lv B.N B.T B.N B.ms B.k0 B.g0) fun (x:Nat)=>pz B.lv B.N B.T B.N B.ms B.k0 B.g0,am 0 0,aw (aj 4 (Hy B.lv B.N (mO B.T) (mO B.ms) (qr (A.toN at_)).placed (qr (A.toN at_)).n (qr (A.toN at_)).g) (mO (YW B.lv B.N (mO B.T) (mO B.ms) (qr (A.toN at_)).placed (qr (A.toN at_)).n (qr (A.toN at_)).g))) (aj 4 t (mO tr)),ac (A.nK (Hy B.lv B.N (mO B.T) (mO B.ms) (qr (A.toN at_)).placed (qr (A.toN at_)).n (qr (A.toN at_)).g)) (ab t),ac (ab 0) (ab 0),ac (ab 0) (ab 0),cP M M,ac mo mo,ac (ab 0) at',am c c,ax c (mO cr) (mO cr),am q' 0,am m m,ax m (mO od) (mO od)]))(y4:c0=ag->c1=ag->c2=ah->ψ (ar (aL [aN [co ag,aj 0 0 fun _=>[],av .i64 (ab 0)],aX 4 288])))(y5:c0=ag->c1=ag->c2=ag->ψ (aH 0 [dL (cp ao) (cp ao),am 1 1,aF (fun (x:Nat)=>pz B.lv B.N B.T B.N B.ms B.k0 B.g0) fun (x:Nat)=>pz B.lv B.N B.T B.N B.ms B.k0 B.g0,am 0 0,aw (aj 4 (Hy B.lv B.N (mO B.T) (mO B.ms) (qr (A.toN at_)).placed (qr (A.toN at_)).n (qr (A.toN at_)).g) (mO (YW B.lv B.N (mO B.T) (mO B.ms) (qr (A.toN at_)).placed (qr (A.toN at_)).n (qr (A.toN at_)).g))) (aj 4 t (mO tr)),ac (A.nK (Hy B.lv B.N (mO B.T) (mO B.ms) (qr (A.toN at_)).placed (qr (A.toN at_)).n (qr (A.toN at_)).g)) (ab t),ac (ab 0) (ab 0),ac (ab 0) (ab 0),cP M M,ac mo mo,ac (A.add .i64 at_ (ab 1)) at',am c c,ax c (mO cr) (mO cr),am q q',ax q (A.upd (mO qr) (A.toN at_) 0 [av .i64 (ab 0),aj 0 0 fun _=>[]]) (mO RI),am m m,ax m (mO od) (mO od)])):oP ψ (nR (C7 A W (qY hs lv B) mZ) qm 300 400 20 tbA (LA B mo M c cr at_ q qr m od) [] [⟨20,Y0,LB B mo M c cr at' q' RI m od t tr 0,[]⟩,⟨41,VK,LC B m od M' c' i',HY B⟩]):=by
 subst e0 e1 e2;exact wH (an y1 (fun q0=>an (h1 q0) (an (h1 q0) (an (fun q1=>an (y2 q0 q1) (fun q2=>an (h2 q0 q1 q2) (y3 q0 q1 q2))) (fun q1=>an (y4 q0 q1) (fun q2=>an (h3 q0 q1 q2) (y5 q0 q1 q2)))))))
theorem JX(A:Prim)(W:Wd)(B:yU)(hs:Sh)(lv mo:Int)(M M':Int×List UInt8->Option Value)(c c':Nat)(cr JW:Nat->PrQ)(at_:Int)(q q':Nat)(qr RI:Nat->MS)(m m':Nat)(od od':Nat->Py)(t:Nat)(tr:Nat->Bc)(j j':Int){ψ:pI->Prop}{c0 c1 c2:Bool}(e0:A.lt j (ab t)=c0)(e1:A.isS (M ((tr (A.toN j)).placed,Hz (tr (A.toN j)).n (tr (A.toN j)).g))=c1)(e2:A.eq (A.nK c) mo=c2)(h1:c0=ah->(A.inB j t)=ah)(h2:c0=ah->(VJ 4 (tr (A.toN j)).n (tr (A.toN j)).g)=ah)(h3:c0=ah->c1=ag->c2=ag->(A.room (A.addN c 1) 24)=ah)(h4:c0=ah->c1=ag->c2=ag->(A.room (A.addN q 1) 32)=ah)(h5:c0=ah->c1=ag->c2=ag->(A.room (A.addN m 1) 32)=ah)(y1:c0=ah->c1=ah->ψ (aH 0 [dL (cp ao) (cp ao),am 1 1,aF (fun (x:Nat)=>pz B.lv B.N B.T B.N B.ms B.k0 B.g0) fun (x:Nat)=>pz B.lv B.N B.T B.N B.ms B.k0 B.g0,am 0 0,aw (aj 4 t (mO tr)) (aj 4 t (mO tr)),ac (ab t) (ab t),ac (A.add .i64 j (ab 1)) j',ac (ab 0) (ab 0),cP M M',ac mo mo,ac at_ at_,am c c',ax c (mO cr) (mO JW),am q q',ax q (mO qr) (mO RI),am m m',ax m (mO od) (mO od')]))(y2:c0=ah->c1=ag->c2=ah->ψ (ar (aL [aN [co ag,aj 0 0 fun _=>[],av .i64 (ab 0)],aX 0 288])))(y3:c0=ah->c1=ag->c2=ag->ψ (aH 0 [dL (cp ao) (cp ao),am 1 1,aF (fun (x:Nat)=>pz B.lv B.N B.T B.N B.ms B.k0 B.g0) fun (x:Nat)=>pz B.lv B.N B.T B.N B.ms B.k0 B.g0,am 0 0,aw (aj 4 t (mO tr)) (aj 4 t (mO tr)),ac (ab t) (ab t),ac (A.add .i64 j (ab 1)) j',ac (ab 0) (ab 0),cP (Ep ((tr (A.toN j)).placed,Hz (tr (A.toN j)).n (tr (A.toN j)).g) (ae (cR .i64 (A.nK c))) M) M',ac mo mo,ac at_ at_,am (A.addN c 1) c',ax (A.addN c 1) (A.snoc (mO cr) c (nM [[av .i64 (tr (A.toN j)).placed,Sh.str (Hz (tr (A.toN j)).n (tr (A.toN j)).g)]])) (mO JW),am (A.addN q 1) q',ax (A.addN q 1) (A.snoc (mO qr) q (nM [[av .i64 (tr (A.toN j)).placed,aj 4 (tr (A.toN j)).n (tr (A.toN j)).g]])) (mO RI),am (A.addN m 1) m',ax (A.addN m 1) (A.snoc (mO od) m (nM [[av .i64 (tr (A.toN j)).placed,aj 4 (tr (A.toN j)).n (tr (A.toN j)).g]])) (mO od')]))(y4:c0=ag->ψ (aH 1 [dL (cp ao) (cp ao),am 1 1,aF (fun (x:Nat)=>pz B.lv B.N B.T B.N B.ms B.k0 B.g0) fun (x:Nat)=>pz B.lv B.N B.T B.N B.ms B.k0 B.g0,am 0 0,ac (ab 0) (ab 0),cP M M,ac mo mo,ac at_ at_,am c c,ax c (mO cr) (mO cr),am q q,ax q (mO qr) (mO qr),am m m,ax m (mO od) (mO od)])):oP ψ (nR (C7 A W (qY hs lv B) mZ) qm 300 400 20 tbB (LB B mo M c cr at_ q qr m od t tr j) [] [⟨20,Y0,LB B mo M' c' JW at_ q' RI m' od' t tr j',[]⟩,⟨20,Z7,LA B mo M c cr at_ q qr m od,[]⟩]):=by
 subst e0 e1 e2;exact DV (an (fun q0=>an (h1 q0) (an (h2 q0) (an (y1 q0) (fun q1=>an (y2 q0 q1) (fun q2=>an (h3 q0 q1 q2) (an (h3 q0 q1 q2) (an (h4 q0 q1 q2) (an (h4 q0 q1 q2) (an (h5 q0 q1 q2) (y3 q0 q1 q2)))))))))) y4)
end Go.Proofs
namespace Go.Pl
open Go Go.Sx Go.Proofs
structure sO where
 tx:Int
 com:Bool
 deriving DecidableEq
instance:Inhabited sO:=⟨⟨0,ag⟩⟩
instance:Row sO where
 put x:=[.i .i64 x.tx,.b x.com]
 get l:=match l with
  |[.i .i64 a,.b c]=>ae ⟨a,c⟩ |_=>ao
 qQ l a h:=by
  split at h
  ·cases h;rfl
  ·cases h
 get_put a:=rfl
 Ad:=default
end Go.Pl
namespace Go.Proofs
open Go Go.Sx Go.Pl
def tdD:List It:=[aA [0,1,0,1,1,0,0,1,0,0,1,0,1,1],aM 2,aA [1,1,1,0,0,1,0,0,1,0,1,1],aM 1,aA [1,1,0,0,1,0,1,1],aA [0,1,0,1,1],aM 0,aA [1,1,1]]
def tbD:List It:=aA [0,0,1,0,1,1,0,0,1,0,0,1,0,1,1]::tdD
def LD(B:yU)(m:Nat)(od:Nat->Py)(M:Int×List UInt8->Option Value)(c:Int)(i:Int)(p:Int)(n:Nat)(g:Nat->List Sh)(is:Bool)(t:Nat)(tr:Nat->Bc)(j:Int):Core:=
 {tm:=sK 50 (tmC B i++[(7,.ptr 12 0),(8,.test is),(30,.sh (.sl 4 t (mO tr))),(31,.sym .i64 (t:Int)),(32,.sym .i64 j)]),hp:=hpC m od M c++[(12,.box [.sym .i64 p,.sh (.sl 4 n g)] 85)],nx:=13,lim:=L0,tc:=[]}
def N9(B:yU):List Fr:=[{g:=20,td:=[It.reg [0,1,0,1,1,1,1,1,1,1,1,1,1,1,1,1] [2,3,4,5,6],aA [1,1,1,1,1,1,1,1,1,1,1,1,1,1]],tm:=sK 111 [(8,.ptr 1 0),(22,.ptr 11 0)]}]
def tdE:List It:=[aA [0,1,0,1,1],aM 0,aA [1,1,1]]
def tbE:List It:=aA [0,0,1,0,1,1]::tdE
def hpE(M:Int×List UInt8->Option Value)(c:Int)(p:Int)(n:Nat)(g:Nat->List Sh)(k:Nat)(sr:Nat->sO):List (Nat×SB):=[(1,.box [.bool ag,.nS,.int .i64 0] 44),(10,.pm .bool M []),(11,.box [.bool ag,.nS,.sym .i64 c] 44),(12,.box [.sym .i64 p,.sh (.sl 4 n g)] 85),(13,.own 58 2 k (mO sr))]
def tmE(B:yU):List (Nat×SV):=[(0,.yD 4 1 (fun _=>pz B.lv B.N B.T B.N B.ms B.k0 B.g0) 0 0),(1,.mp 10),(5,.gs 13),(6,.ptr 12 0)]
def LE(B:yU)(M:Int×List UInt8->Option Value)(c:Int)(p:Int)(n:Nat)(g:Nat->List Sh)(k:Nat)(sr:Nat->sO):Core:={tm:=sK 42 (tmE B),hp:=hpE M c p n g k sr,nx:=14,lim:=L0,tc:=[]}
def tdF:List It:=[aA [0,1,0,0,1,0,0,1,0,1,1],aM 2,aM 1,aA [1,1,0,0,1,0,1,1],aA [0,1,0,1,1],aM 0,aA [1,1,1]]
def tbF:List It:=aA [0,0,1,0,0,1,0,0,1,0,1,1]::tdF
def LF(B:yU)(M:Int×List UInt8->Option Value)(c:Int)(p:Int)(n:Nat)(g:Nat->List Sh)(k:Nat)(sr:Nat->sO)(t:Nat)(tr:Nat->Bc)(j:Int):Core:={tm:=sK 42 (tmE B++[(21,.sh (.sl 4 t (mO tr))),(22,.sym .i64 (t:Int)),(23,.sym .i64 j)]),hp:=hpE M c p n g k sr,nx:=14,lim:=L0,tc:=[]}
theorem Y1(A:Prim)(W:Wd)(B:yU)(hs:Sh)(lv:Int)(M:Int×List UInt8->Option Value)(m:Nat)(od:Nat->Py)(c i:Int)(p:Int)(n:Nat)(g:Nat->List Sh)(is:Bool)(t:Nat)(tr:Nat->Bc)(sr:Nat->sO){ψ:pI->Prop}{c0 c1 c2:Bool}(e0:A.le (ab 0) i=c0)(e1:A.isS (M (ab 0,Hz B.k0 B.g0))=c1)(e2:A.AA (M (ab 0,Hz B.k0 B.g0))=c2)(h1:c0=ah->(A.inB i m)=ah)(h2:c0=ah->(A.le (ab 0) (A.nK B.N))=ah)(h3:c0=ah->(YV B.lv B.N (mO B.T) B.N (mO B.ms) (od (A.toN i)).placed 4 (od (A.toN i)).n (od (A.toN i)).g)=ah)(h4:c0=ag->(VJ 4 B.k0 B.g0)=ah)(y1:c0=ah->ψ (aH 0 [am 1 1,aF (fun (x:Nat)=>pz B.lv B.N B.T B.N B.ms B.k0 B.g0) fun (x:Nat)=>pz B.lv B.N B.T B.N B.ms B.k0 B.g0,am 0 0,ac i i,gt (A.eq (od (A.toN i)).placed (A.sub .i64 (A.bin b7 az (ab 1) (A.nK B.N)) (ab 1))) is,aw (aj 4 (Hy B.lv B.N (mO B.T) (mO B.ms) (od (A.toN i)).placed (od (A.toN i)).n (od (A.toN i)).g) (mO (YW B.lv B.N (mO B.T) (mO B.ms) (od (A.toN i)).placed (od (A.toN i)).n (od (A.toN i)).g))) (aj 4 t (mO tr)),ac (A.nK (Hy B.lv B.N (mO B.T) (mO B.ms) (od (A.toN i)).placed (od (A.toN i)).n (od (A.toN i)).g)) (ab t),ac (ab 0) (ab 0),ac (ab 0) (ab 0),am m m,ax m (mO od) (mO od),cP M M,ac c c,ac (od (A.toN i)).placed p,aw (aj 4 (od (A.toN i)).n (od (A.toN i)).g) (aj 4 n g),am 1 1,aF (fun (x:Nat)=>pz B.lv B.N B.T B.N B.ms B.k0 B.g0) fun (x:Nat)=>pz B.lv B.N B.T B.N B.ms B.k0 B.g0,am 0 0]))(y2:c0=ag->c1=ah->c2=ah->ψ (aH 1 [am 1 1,aF (fun (x:Nat)=>pz B.lv B.N B.T B.N B.ms B.k0 B.g0) fun (x:Nat)=>pz B.lv B.N B.T B.N B.ms B.k0 B.g0,am 0 0,ac (ab 0) (ab 0),cP M M,ac c c,ac (ab 0) (ab 0),aw (aj 4 B.k0 B.g0) (aj 4 B.k0 B.g0),am 0 0]))(y3:c0=ag->c1=ah->c2=ag->ψ (ar (aL [aN [co ag,aj 0 0 fun _=>[],av .i64 c],Sh.v bd])))(y4:c0=ag->c1=ag->ψ (ar (aL [aN [co ag,aj 0 0 fun _=>[],av .i64 c],Sh.v bd]))):oP ψ (nR (C7 A W (qY hs lv B) mZ) qm 300 400 41 tbC (LC B m od M c i) (HY B) [⟨41,tdD,LD B m od M c i p n g is t tr 0,HY B⟩,⟨42,tdE,LE B M c 0 B.k0 B.g0 0 sr,N9 B⟩]):=by
 subst e0 e1 e2;exact wH (an (fun q0=>an (h1 q0) (an (h2 q0) (an (h3 q0) (y1 q0)))) (fun q0=>an (h4 q0) (an (fun q1=>an (y2 q0 q1) (y3 q0 q1)) (y4 q0))))
theorem Y2(A:Prim)(W:Wd)(B:yU)(hs:Sh)(lv:Int)(M M':Int×List UInt8->Option Value)(m:Nat)(od:Nat->Py)(c i:Int)(p:Int)(n:Nat)(g:Nat->List Sh)(is is':Bool)(t:Nat)(tr:Nat->Bc)(j j' i':Int){ψ:pI->Prop}{c0 c1 c2:Bool}(e0:A.lt j (ab t)=c0)(e1:is=c1)(e2:A.isS (M ((tr (A.toN j)).placed,Hz (tr (A.toN j)).n (tr (A.toN j)).g))=c2)(h1:c0=ah->(A.inB j t)=ah)(h2:c0=ah->c1=ag->(VJ 4 (tr (A.toN j)).n (tr (A.toN j)).g)=ah)(h3:c0=ag->(VJ 4 n g)=ah)(y1:c0=ah->c1=ah->ψ (aH 0 [am 1 1,aF (fun (x:Nat)=>pz B.lv B.N B.T B.N B.ms B.k0 B.g0) fun (x:Nat)=>pz B.lv B.N B.T B.N B.ms B.k0 B.g0,am 0 0,ac i i,gt ah is',aw (aj 4 t (mO tr)) (aj 4 t (mO tr)),ac (ab t) (ab t),ac (A.add .i64 j (ab 1)) j',ac (ab 0) (ab 0),am m m,ax m (mO od) (mO od),cP M M,ac c c,ac p p,aw (aj 4 n g) (aj 4 n g),am 1 1,aF (fun (x:Nat)=>pz B.lv B.N B.T B.N B.ms B.k0 B.g0) fun (x:Nat)=>pz B.lv B.N B.T B.N B.ms B.k0 B.g0,am 0 0]))(y2:c0=ah->c1=ag->c2=ah->ψ (aH 0 [am 1 1,aF (fun (x:Nat)=>pz B.lv B.N B.T B.N B.ms B.k0 B.g0) fun (x:Nat)=>pz B.lv B.N B.T B.N B.ms B.k0 B.g0,am 0 0,ac i i,gt (A.AA (M ((tr (A.toN j)).placed,Hz (tr (A.toN j)).n (tr (A.toN j)).g))) is',aw (aj 4 t (mO tr)) (aj 4 t (mO tr)),ac (ab t) (ab t),ac (A.add .i64 j (ab 1)) j',ac (ab 0) (ab 0),am m m,ax m (mO od) (mO od),cP M M,ac c c,ac p p,aw (aj 4 n g) (aj 4 n g),am 1 1,aF (fun (x:Nat)=>pz B.lv B.N B.T B.N B.ms B.k0 B.g0) fun (x:Nat)=>pz B.lv B.N B.T B.N B.ms B.k0 B.g0,am 0 0]))(y3:c0=ah->c1=ag->c2=ag->ψ (aH 0 [am 1 1,aF (fun (x:Nat)=>pz B.lv B.N B.T B.N B.ms B.k0 B.g0) fun (x:Nat)=>pz B.lv B.N B.T B.N B.ms B.k0 B.g0,am 0 0,ac i i,gt ag is',aw (aj 4 t (mO tr)) (aj 4 t (mO tr)),ac (ab t) (ab t),ac (A.add .i64 j (ab 1)) j',ac (ab 0) (ab 0),am m m,ax m (mO od) (mO od),cP M M,ac c c,ac p p,aw (aj 4 n g) (aj 4 n g),am 1 1,aF (fun (x:Nat)=>pz B.lv B.N B.T B.N B.ms B.k0 B.g0) fun (x:Nat)=>pz B.lv B.N B.T B.N B.ms B.k0 B.g0,am 0 0]))(y4:c0=ag->ψ (aH 1 [am 1 1,aF (fun (x:Nat)=>pz B.lv B.N B.T B.N B.ms B.k0 B.g0) fun (x:Nat)=>pz B.lv B.N B.T B.N B.ms B.k0 B.g0,am 0 0,ac (A.sub .i64 i (ab 1)) i',ac (ab 0) (ab 0),am m m,ax m (mO od) (mO od),cP (Ep (p,Hz n g) (ae (Value.bool is)) M) M',ac c c,am 1 1,aF (fun (x:Nat)=>pz B.lv B.N B.T B.N B.ms B.k0 B.g0) fun (x:Nat)=>pz B.lv B.N B.T B.N B.ms B.k0 B.g0,am 0 0])):oP ψ (nR (C7 A W (qY hs lv B) mZ) qm 300 400 41 tbD (LD B m od M c i p n g is t tr j) (HY B) [⟨41,tdD,LD B m od M c i p n g is' t tr j',HY B⟩,⟨41,VK,LC B m od M' c i',HY B⟩]):=by
 subst e0 e1 e2;exact wH (an (fun q0=>an (h1 q0) (an (y1 q0) (fun q1=>an (h2 q0 q1) (an (y2 q0 q1) (y3 q0 q1))))) (fun q0=>an (h3 q0) (y4 q0)))
theorem Y3(A:Prim)(W:Wd)(B:yU)(hs:Sh)(lv:Int)(M:Int×List UInt8->Option Value)(c:Int)(p:Int)(n:Nat)(g:Nat->List Sh)(k:Nat)(sr:Nat->sO)(t:Nat)(tr:Nat->Bc){ψ:pI->Prop}{c0:Bool}(e0:A.nt (A.eq p (A.sub .i64 (A.bin b7 az (ab 1) (A.nK B.N)) (ab 1)))=c0)(h1:(A.le (ab 0) (A.nK B.N))=ah)(h2:c0=ah->(YV B.lv B.N (mO B.T) B.N (mO B.ms) p 4 n g)=ah)(y1:c0=ah->ψ (aH 0 [am 1 1,aF (fun (x:Nat)=>pz B.lv B.N B.T B.N B.ms B.k0 B.g0) fun (x:Nat)=>pz B.lv B.N B.T B.N B.ms B.k0 B.g0,am 0 0,aw (aj 4 (Hy B.lv B.N (mO B.T) (mO B.ms) p n g) (mO (YW B.lv B.N (mO B.T) (mO B.ms) p n g))) (aj 4 t (mO tr)),ac (A.nK (Hy B.lv B.N (mO B.T) (mO B.ms) p n g)) (ab t),ac (ab 0) (ab 0),ac (ab 0) (ab 0),cP M M,ac c c,ac p p,aw (aj 4 n g) (aj 4 n g),am k k,ax k (mO sr) (mO sr)]))(y2:c0=ag->ψ (ar (aL [aN [co ah,Sh.os 58 2 k (mO sr),av .i64 c],Sh.v bd]))):oP ψ (nR (C7 A W (qY hs lv B) mZ) qm 300 400 42 tbE (LE B M c p n g k sr) (N9 B) [⟨42,tdF,LF B M c p n g k sr t tr 0,N9 B⟩]):=by
 subst e0;exact wH (an h1 (an (fun q0=>an (h2 q0) (y1 q0)) y2))
theorem Y4(A:Prim)(W:Wd)(B:yU)(hs:Sh)(lv:Int)(M:Int×List UInt8->Option Value)(c:Int)(p p':Int)(n n':Nat)(g g':Nat->List Sh)(k k':Nat)(sr sr':Nat->sO)(t:Nat)(tr:Nat->Bc)(j j':Int){ψ:pI->Prop}{c0 c1 c2:Bool}(e0:A.lt j (ab t)=c0)(e1:A.isS (M ((tr (A.toN j)).placed,Hz (tr (A.toN j)).n (tr (A.toN j)).g))=c1)(e2:A.AA (M ((tr (A.toN j)).placed,Hz (tr (A.toN j)).n (tr (A.toN j)).g))=c2)(h1:c0=ah->(A.inB j t)=ah)(h2:c0=ah->(VJ 4 (tr (A.toN j)).n (tr (A.toN j)).g)=ah)(h3:c0=ah->c1=ah->c2=ah->(A.room (A.addN k 1) 16)=ah)(y1:c0=ah->c1=ah->c2=ah->ψ (aH 1 [am 1 1,aF (fun (x:Nat)=>pz B.lv B.N B.T B.N B.ms B.k0 B.g0) fun (x:Nat)=>pz B.lv B.N B.T B.N B.ms B.k0 B.g0,am 0 0,ac (ab 0) (ab 0),cP M M,ac c c,ac (tr (A.toN j)).placed p',aw (aj 4 (tr (A.toN j)).n (tr (A.toN j)).g) (aj 4 n' g'),am (A.addN k 1) k',ax (A.addN k 1) (A.snoc (mO sr) k (nM [[av .i64 (tr (A.toN j)).tx,co (tr (A.toN j)).com]])) (mO sr')]))(y2:c0=ah->c1=ah->c2=ag->ψ (aH 0 [am 1 1,aF (fun (x:Nat)=>pz B.lv B.N B.T B.N B.ms B.k0 B.g0) fun (x:Nat)=>pz B.lv B.N B.T B.N B.ms B.k0 B.g0,am 0 0,aw (aj 4 t (mO tr)) (aj 4 t (mO tr)),ac (ab t) (ab t),ac (A.add .i64 j (ab 1)) j',ac (ab 0) (ab 0),cP M M,ac c c,ac p p,aw (aj 4 n g) (aj 4 n g),am k k,ax k (mO sr) (mO sr)]))(y3:c0=ah->c1=ag->ψ (aH 0 [am 1 1,aF (fun (x:Nat)=>pz B.lv B.N B.T B.N B.ms B.k0 B.g0) fun (x:Nat)=>pz B.lv B.N B.T B.N B.ms B.k0 B.g0,am 0 0,aw (aj 4 t (mO tr)) (aj 4 t (mO tr)),ac (ab t) (ab t),ac (A.add .i64 j (ab 1)) j',ac (ab 0) (ab 0),cP M M,ac c c,ac p p,aw (aj 4 n g) (aj 4 n g),am k k,ax k (mO sr) (mO sr)]))(y4:c0=ag->ψ (aH 1 [am 1 1,aF (fun (x:Nat)=>pz B.lv B.N B.T B.N B.ms B.k0 B.g0) fun (x:Nat)=>pz B.lv B.N B.T B.N B.ms B.k0 B.g0,am 0 0,ac (ab 0) (ab 0),cP M M,ac c c,ac p p',aw (aj 4 n g) (aj 4 n' g'),am k k',ax k (mO sr) (mO sr')])):oP ψ (nR (C7 A W (qY hs lv B) mZ) qm 300 400 42 tbF (LF B M c p n g k sr t tr j) (N9 B) [⟨42,tdF,LF B M c p n g k sr t tr j',N9 B⟩,⟨42,tdE,LE B M c p' n' g' k' sr',N9 B⟩]):=by
 subst e0 e1 e2;exact wH (an (fun q0=>an (h1 q0) (an (h2 q0) (an (fun q1=>an (fun q2=>an (h3 q0 q1 q2) (y1 q0 q1 q2)) (y2 q0 q1)) (y3 q0)))) y4)
end Go.Proofs
