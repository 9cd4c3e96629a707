/- Own work. -/
import Derived.Test.YthehnhaoiijkhaaGreatDoorL10
import Derived.Conc.LoneSelect
import Derived.KernelRfl
open Int (ofNat)
open Bool renaming true->aC,false->ay,not_not->yM,and_eq_true->aI,or_false->kR
open Classical renaming propDecidable->bG
open Go.BinOp renaming shl->iE
open Go.Conc renaming base->Af
open Go.Frame renaming enter->gQ
open Go.Gm renaming start->fD
open Go.IntKind renaming i64->aW
open Go.Proofs renaming W7->rP,akx->Ah
open Go.Proofs.C7 renaming Vo->nT,ok->dD
open Go.Proofs.Tryz renaming prog->aA,f41->sD,f69->sF,func69->zu,f71->sG,f39->uN,f74->lQ,f40->zx,tys->mZ,fns->oV,live->yO,tysB_->yP,fnsAre_->jl,mixed_->tX,entersB_->jP
open Go.Sx renaming Sh->Ag
open Go.Sx.BK renaming nat->aJ,Mc->bF,sh->aO,int->aj,get->aU,val->jO,mg->jm,bool->pW
open Go.Sx.ED renaming at_->bK,ret->aT
open Go.Sx.It renaming code->bD,inBlock->dw
open Go.Sx.Sh renaming sl->aG,agg->cO,AQ->cZ,b->gU,i->aY,er->bf,str->dB,pt->pR,v->jG
open Go.Value renaming chan->iL,int->iW,nilIface->bJ,pointer->dZ
open Int renaming ofNat->ah,toNat_natCast->fU
open Int.ofNat renaming inj->lq
open List renaming range->aZ,range_succ_eq_map->rF,map_cons->jr,flatMap_cons->oO,map_append->iR,map_map->qm,getD_eq_getElem?_getD->aX,getElem?_append_left->dN,append_nil->fA,append_assoc->dV,length_append->bC,length_map->dP,length_range->kD,drop_eq_nil_of_le->jT,getElem?_eq_getElem->aS,mem_map->dJ,mem_of_getElem?->bT,drop_eq_getElem_cons->iT,drop_zero->ji,any_nil->yN,any_cons->xI,nil_append->jM,getElem?_eq_some_iff->aV
open Nat renaming sub_self->qV,beq->fC,eq_of_beq_eq_true->fK,le_refl->dn,add_zero->jC,or_lt_two_pow->pV,shiftLeft_eq->mP,one_mul->iK,pow_lt_pow_right->jD
open Option renaming some->ak,none->aK,getD_some->oD
open Option.some renaming inj->dH
namespace Go.Pl
open Go Go.Sx Go.Proofs Go.Gm
def xF{α:Type}(c1 c2 c3 c4 c5 c6 c7:Bool)(A B:α):List α:=
 bif c1||c2 then [] else (bif (c4||c7)&&c3 then [A] else [])++(bif c5&&(c6||c3) then [B] else [])
noncomputable def tuG(lv:Int)(N:Nat)(T:Nat->Ee)(mk:Nat->Int)(p:Int)(n:Nat)(g:Nat->List Sh):Nat->Nat->List JJ
 |_,0=>[] |i,r+1=>(Fg (Ux lv N T mk n) ⟨p.toNat,g⟩ i).map (G8 n)++tuG lv N T mk p n g (i+1) r
theorem ab1(lv:Int)(N:Nat)(T:Nat->Ee)(mk:Nat->Int)(p:Int)(n:Nat)(g:Nat->List Sh):∀r i,tuG lv N T mk p n g i r=(((aZ r).map fun j=>i+j).flatMap (Fg (Ux lv N T mk n) ⟨p.toNat,g⟩)).map (G8 n)
 |0,i=>rfl |r+1,i=>by
  rw[tuG,ab1 lv N T mk p n g r (i+1),rF,jr,oO,iR,qm];congr 3;refine List.map_congr_left fun j _=>?_
  show i+1+j=i+(j+1);omega
theorem aoR(lv:Int)(N:Nat)(T:Nat->Ee)(mk:Nat->Int)(p:Int)(n:Nat)(g:Nat->List Sh):tuG lv N T mk p n g 0 N=tuL lv N T mk p n g:=by
 rw[ab1];unfold tuL turns;have:(aZ N).map (fun j=>0+j)=aZ N:=by simp
 rw[this];rfl
theorem arP{lv:Int}{N:Nat}{T:Nat->Ee}{mk:Nat->Int}{p n:Nat}{g:Nat->List Sh}{i:Nat}(hp:p<2^62)(hi:i<N)(hN:N<=62)(hm:0<=mk i)(hm2:(mk i).toNat<2^N){c1 c2 c3 c4 c5 c6 c7:Bool}
  (e1:Ai.eq (Ai.bin .and .i64 (Ai.bin .shr .i64 (p:Int) (i:Int)) (ah 1)) (ah 1)=c1)
  (e2:Ai.nt (Ai.eq (Ai.bin .andNot .i64 (mk i) (p:Int)) (ah 0))=c2)
  (e3:plO n g (T i).k (T i).g=c3) (e4:Ai.eq (T i).st (ah 3)=c4) (e5:Ai.nt (Ai.eq (T i).st (ah 3))=c5) (e6:Ai.nt (Ai.eq lv (ah 3))=c6) (e7:Ai.eq (T i).st (ah 2)=c7) :
  (Fg (Ux lv N T mk n) ⟨p,g⟩ i).map (G8 n)=xF c1 c2 c3 c4 c5 c6 c7 ⟨(T i).id,aC,Ai.bin .or .i64 (p:Int) (Ai.bin .shl .i64 (ah 1) (i:Int)),n,Tq n g (T i).k (T i).g⟩ ⟨(T i).id,ay,Ai.bin .or .i64 (p:Int) (Ai.bin .shl .i64 (ah 1) (i:Int)),n,g⟩/\may (Ux lv N T mk n) p i=(!c1 && !c2):=by
 have hp2:p<2^63:=by omega
 have hmay:may (Ux lv N T mk n) p i=(!c1 && !c2):=by
  rw[<-e1,arN hp2 (by omega),<-e2];have:mk i=((mk i).toNat:Int):=(Int.toNat_of_nonneg hm).symm;rw[this,al3 hm2 hN hp2,yM];rfl
 refine ⟨?_,hmay⟩;have ho:=or_eq (p:=p) (i:=i) hp2 (by omega);unfold Fg;show List.map (G8 n) (if may (Ux lv N T mk n) p i=aC then _ else _)=_;rw[hmay];have hc:(Ux lv N T mk n).com i=(c4||c7):=by rw[<-e4,<-e7];rfl
 have ha:(Ux lv N T mk n).Uw i=c5:=by rw[<-e5];rfl
 have hl:(Ux lv N T mk n).all=!c6:=by rw[<-e6];show (lv==3)=!(!(lv==3));rw[yM]
 have hr:(Ux lv N T mk n).run g i=if c3=aC then ak (Tq n g (T i).k (T i).g) else aK:=by rw[<-e3];rfl
 rw[hc,ha,hl];simp only[hr,ho];unfold xF;clear hc ha hl hr hmay e1 e2 e3 e4 e5 e6 e7;cases c1<;>cases c2<;>cases c3<;>cases c4<;>cases c5<;>cases c6<;>cases c7<;>simp[G8,Ux]
end Go.Pl
namespace Go.Proofs
open Go Go.Sx Go.Pl Go.Gm
theorem ajh(stop:Nat->List Nat->Bool)(O:AV aA (Bq W7) 76 D76):BP aA (C7 Ai W7 Oy stop):=nT (fun g F h=>by
 unfold Oy at h;split at h
 ·cases h;exact O
 ·cases h) fun g h=>by
 unfold Oy at h;split at h;all_goals first|(cases h;done) |kernel_rfl
theorem aoS:AV aA (Bq W7) 76 D76:=O76.mono fun H Bv args φ hr h=>by
 unfold D76 at h;split at h
 ·split at h
  ·rename_i e0 e1
   obtain ⟨h1,h2,h3⟩:=h;unfold plN at h1;rw[aI,aI] at h1;unfold F76;simp only[e0,e1];exact ⟨h1.1,h1.2.1,h1.2.2,h2,h3⟩
  ·exact h.elim
 ·exact h.elim
section
variable{H0:Mem}{w0:World}{φ:Sh->Prop}{lv:Int}{N:Nat}{T:Nat->Ee}{mk:Nat->Int}{k0:Nat}{g0:Nat->List Sh}{p:Nat}{n:Nat}{g:Nat->List Sh}
theorem aoT{α:Type}[Row α](l r:List α)(j:Nat)(h:j<l.length):nth (l++r) j=nth l j:=by
 unfold nth;rw[aX,aX,dN h]
theorem IL{α:Type}[Row α](l:List α)(a:α)(s:List Sh)(hs:s=Row.put a):∀j,j<l.length+1->Ai.snoc (Aj (nth l)) l.length (Bh [s]) j=Aj (nth (l++[a])) j:=fun j hj=>by
 rw[Ec];split
 ·rename_i q
  show Row.put (nth l j)=Row.put (nth (l++[a]) j);rw[aoT _ _ _ q]
 ·have:j=l.length:=by omega
  subst this;rw[qV];show s=Row.put (nth (l++[a]) l.length);unfold nth;rw[hs];simp
theorem aho{g g':Nat->List Sh}{n:Nat}(h:∀j,j<n->g j=g' j)(r:Nat->List Sh):Ai.snoc g n r=Ai.snoc g' n r:=by
 funext j;rw[Ec,Ec];split
 ·exact h j (by assumption)
 ·rfl
theorem akR(Q:TuP lv N T N mk (p:Int) n g):∀r i (acc:List JJ),i+r=N->acc.length<=2*i->φ (.sl 4 (acc++tuG lv N T mk p n g i r).length (Aj (nth (acc++tuG lv N T mk p n g i r))))->
  Bz aA (C7 Ai W7 Oy AU) (K0 H0 w0) 41 Xq (Zu lv N T N mk k0 g0 p n g acc.length (nth acc) (i:Nat)) [] emp (up φ)
 |0,i,acc,hi,hl,hφ=>by
  refine GK (fn:=sD) (tb:=akO) (by kernel_rfl) (by kernel_rfl) ?_;refine Fh (dD _ _) (ajh _ aoS) (hold:=BL) (m:=300) (n:=400) (ts:=[⟨41,Xq,Zu lv N T N mk k0 g0 p n g 0 (nth []) 0,[]⟩]) ?_;have lt {P:Prop} (h:Ai.lt (i:Int) (ah N)=aC):P:=by simp[Aq] at h;omega
  have e:acc++tuG lv N T mk p n g i 0=acc:=by rw[tuG,fA]
  rw[e] at hφ;refine abZ Ai W7 lv N T N mk k0 g0 p n g acc.length 0 (nth acc) (nth []) i 0 rfl rfl rfl rfl rfl rfl rfl rfl ?_ ?_ ?_ ?_ ?_ ?_ ?_ ?_ ?_ ?_ ?_ ?_ ?_ ?_ ?_ ?_ ?_ ?_ ?_ ?_ ?_ ?_ ?_ ?_ ?_ ?_ ?_ ?_ ?_ ?_ ?_ ?_ ?_ ?_ ?_ ?_;all_goals first|(intro q;exact lt q) |skip
  exact fun _=>BX (s':=.sl 4 acc.length (Aj (nth acc))) aoJ hφ
 |r+1,i,acc,hi,hl,hφ=>by
  refine GK (fn:=sD) (tb:=akO) (by kernel_rfl) (by kernel_rfl) ?_;have hlN:=Q.le;have w1:Ai.add .i64 (i:Int) (ah 1)=((i+1:Nat):Int):=add1 (by omega);have no {P:Prop} (h:Ai.lt (i:Int) (ah N)=ay):P:=by simp[Aq] at h;omega
  have inb:Ai.inB (i:Int) N=aC:=by simp[BJ];omega
  have rm1:Ai.room (Ai.addN acc.length 1) 48=aC:=by rw[EM,decide_eq_true_eq,Du];unfold maxLen;omega
  have rm2:Ai.room (Ai.addN (Ai.addN acc.length 1) 1) 48=aC:=by rw[EM,decide_eq_true_eq,Du,Du];unfold maxLen;omega
  have le0:Ai.le (ah 0) (i:Int)=aC:=by simp[DJ]
  have hp:p<2^62:=by have:=Q.lt;omega
  obtain ⟨c1,e1⟩:∃c,Ai.eq (Ai.bin .and .i64 (Ai.bin .shr .i64 (p:Int) (i:Int)) (ah 1)) (ah 1)=c:=⟨_,rfl⟩;obtain ⟨c2,e2⟩:∃c,Ai.nt (Ai.eq (Ai.bin .andNot .i64 (mk (Ai.toN i)) (p:Int)) (ah 0))=c:=⟨_,rfl⟩;obtain ⟨c3,e3⟩:∃c,plO n g (T (Ai.toN i)).k (T (Ai.toN i)).g=c:=⟨_,rfl⟩;obtain ⟨c4,e4⟩:∃c,Ai.eq (T (Ai.toN i)).st (ah 3)=c:=⟨_,rfl⟩;obtain ⟨c5,e5⟩:∃c,Ai.nt (Ai.eq (T (Ai.toN i)).st (ah 3))=c:=⟨_,rfl⟩;obtain ⟨c6,e6⟩:∃c,Ai.nt (Ai.eq lv (ah 3))=c:=⟨_,rfl⟩;obtain ⟨c7,e7⟩:∃c,Ai.eq (T (Ai.toN i)).st (ah 2)=c:=⟨_,rfl⟩;obtain ⟨hx,hmay⟩:=arP (lv:=lv) (T:=T) (n:=n) (g:=g) hp (by omega:i<N) Q.le (Q.mpos i (by omega)) (Q.mlt i (by omega)) e1 e2 e3 e4 e5 e6 e7;have hfit:=Q.fit i (by omega);rw[fU,hmay] at hfit;rw[tuG,fU,<-dV] at hφ;have nx:=fun (h:(acc++(Fg (Ux lv N T mk n) ⟨p,g⟩ i).map (G8 n)).length<=2*(i+1))=>akR Q r (i+1) (acc++(Fg (Ux lv N T mk n) ⟨p,g⟩ i).map (G8 n)) (by omega) h hφ;rw[hx] at nx;generalize hacc:acc++xF _ _ _ _ _ _ _ _ _=acc' at nx;refine Fh (dD _ _) (ajh _ aoS) (hold:=BL) (m:=300) (n:=400) (ts:=[⟨41,Xq,Zu lv N T N mk k0 g0 p n g acc'.length (nth acc') ((i+1:Nat):Int),[]⟩]) ?_;have lf:∀(mm:Nat) (gg:Nat->List Sh),mm=acc'.length->(∀j,j<mm->gg j=Aj (nth acc') j)->acc'.length<=2*(i+1)->Jo aA (C7 Ai W7 Oy AU) (K0 H0 w0) [⟨41,Xq,Zu lv N T N mk k0 g0 p n g acc'.length (nth acc') ((i+1:Nat):Int),[]⟩] emp (up φ)
    (bK 0 [aJ 1 1,bF (fun _=>Cb lv N T N mk k0 g0) fun _=>Cb lv N T N mk k0 g0,aJ 0 0,aO (aG 7 N (Aj T)) (aG 7 N (Aj T)),aj (ah N) (ah N),aj (Ai.add .i64 i (ah 1)) ((i+1:Nat):Int),aj p p,aO (aG 4 n g) (aG 4 n g),aJ mm acc'.length,aU mm gg (Aj (nth acc'))]):=
   fun mm gg e1 e2 e3=>⟨⟨rfl,rfl,rfl,rfl,rfl,w1,rfl,rfl,e1,e2,trivial⟩,_,rfl,nx e3⟩
  have l0 (h:acc'=acc):=lf acc.length (Aj (nth acc)) (by rw[h]) (fun j _=>by rw[h]) (by rw[h];omega);have l1 (a:JJ) (h:acc'=acc++[a]):=lf (Ai.addN acc.length 1) (Ai.snoc (Aj (nth acc)) acc.length (Bh [Row.put a])) (by rw[h,bC];rfl) (fun j hj=>by rw[h];exact IL acc a _ rfl j hj) (by rw[h,bC];show acc.length+1<=_;omega);have l2 (a b:JJ) (h:acc'=acc++[a,b]):=lf (Ai.addN (Ai.addN acc.length 1) 1) (Ai.snoc (Ai.snoc (Aj (nth acc)) acc.length (Bh [Row.put a])) (Ai.addN acc.length 1) (Bh [Row.put b])) (by rw[h,bC];rfl) (fun j hj=>by
   have e:=IL (acc++[a]) b _ rfl j (by rw[bC];exact hj);rw[dV,bC] at e;rw[h];have e2:=aho (n:=acc.length+1) (fun j hj=>IL acc a _ rfl j hj) (Bh [Row.put b]);exact (congrFun e2 j).trans e) (by rw[h,bC];show acc.length+2<=_;omega)
  clear lf nx;refine abZ Ai W7 lv N T N mk k0 g0 p n g acc.length acc'.length (nth acc) (nth acc') i ((i+1:Nat):Int) rfl e1 e2 e3 e4 e5 e6 e7
   (fun _=>inb)
   (fun _=>le0)
   (fun _ _=>inb)
   (fun _ q1 q2=>hfit (by rw[q1,q2];rfl))
   (fun _ _ _ _ _=>rm1)
   (fun _ _ _ _ _ _ _=>rm2)
   (fun _ _ _ _ _ _ _=>rm2)
   (fun _ _ _ _ _ _=>rm1)
   (fun _ _ _ _ _ _ _ _=>rm2)
   (fun _ _ _ _ _ _ _ _=>rm2)
   (fun _ _ _ _ _ _ _ _=>rm1)
   (fun _ _ _ _ _ _ _ _=>rm1)
   (fun _ _ _ _ _ _ _=>rm1)
   (fun _ _ _ _ _ _ _ _=>rm1)
   (fun _ _ _ _ _ _ _ _=>rm1)
   (fun _ q1=>l0 (by rw[<-hacc,q1];exact fA _))
   (fun _ q1 q2=>l0 (by rw[<-hacc,q1,q2];exact fA _))
   (fun _ q1 q2 q3 q4 q5 q6=>l2 _ _ (by rw[<-hacc,q1,q2,q3,q4,q5,q6];rfl))
   (fun _ q1 q2 q3 q4 q5 q6=>l2 _ _ (by rw[<-hacc,q1,q2,q3,q4,q5,q6];rfl))
   (fun _ q1 q2 q3 q4 q5=>l1 _ (by rw[<-hacc,q1,q2,q3,q4,q5];rfl))
   (fun _ q1 q2 q3 q4 q5 q6 q7=>l2 _ _ (by rw[<-hacc,q1,q2,q3,q4,q5,q6,q7];rfl))
   (fun _ q1 q2 q3 q4 q5 q6 q7=>l2 _ _ (by rw[<-hacc,q1,q2,q3,q4,q5,q6,q7];rfl))
   (fun _ q1 q2 q3 q4 q5 q6=>l1 _ (by rw[<-hacc,q1,q2,q3,q4,q5,q6];rfl))
   (fun _ q1 q2 q3 q4 q5 q6 q7=>l1 _ (by rw[<-hacc,q1,q2,q3,q4,q5,q6,q7];rfl))
   (fun _ q1 q2 q3 q4 q5 q6 q7=>l1 _ (by rw[<-hacc,q1,q2,q3,q4,q5,q6,q7];rfl))
   (fun _ q1 q2 q3 q4 q5 q6=>l0 (by rw[<-hacc,q1,q2,q3,q4,q5,q6];exact fA _))
   (fun _ q1 q2 q3 q4 q5 q6=>l1 _ (by rw[<-hacc,q1,q2,q3,q4,q5,q6];rfl))
   (fun _ q1 q2 q3 q4 q5 q6=>l0 (by rw[<-hacc,q1,q2,q3,q4,q5,q6];exact fA _))
   (fun _ q1 q2 q3 q4 q5=>l0 (by rw[<-hacc,q1,q2,q3,q4,q5];exact fA _))
   (fun _ q1 q2 q3 q4 q5 q6 q7=>l1 _ (by rw[<-hacc,q1,q2,q3,q4,q5,q6,q7];rfl))
   (fun _ q1 q2 q3 q4 q5 q6 q7=>l0 (by rw[<-hacc,q1,q2,q3,q4,q5,q6,q7];exact fA _))
   (fun _ q1 q2 q3 q4 q5 q6=>l0 (by rw[<-hacc,q1,q2,q3,q4,q5,q6];exact fA _))
   (fun _ q1 q2 q3 q4 q5 q6 q7=>l1 _ (by rw[<-hacc,q1,q2,q3,q4,q5,q6,q7];rfl))
   (fun _ q1 q2 q3 q4 q5 q6 q7=>l0 (by rw[<-hacc,q1,q2,q3,q4,q5,q6,q7];exact fA _))
   (fun _ q1 q2 q3 q4 q5 q6=>l0 (by rw[<-hacc,q1,q2,q3,q4,q5,q6];exact fA _))
   (fun q=>no q)
end
def aap(H:Mem):List Sh->List Sh->Prop
 |[],[]=>True |s::l,s'::l'=>(∀u,Rep H s u->Rep H s' u)/\aap H l l' |_,_=>False
theorem afk{H:Mem}:∀{l l':List Sh},aap H l l'->l'.length=l.length/\∀(j:Nat) (s':Sh),l'[j]?=ak s'->∃s:Sh,l[j]?=ak s/\∀u,Rep H s u->Rep H s' u
 |[],[],_=>⟨rfl,fun j s' h=>by cases h⟩ |_::_,_::_,⟨h,t⟩=>by
  obtain ⟨e,q⟩:=afk t;refine ⟨by simp[e],fun j s' h'=>?_⟩;match j,h' with
  |0,h'=>cases h';exact ⟨_,rfl,h⟩ |j+1,h'=>exact q j s' h'
 |[],_::_,h=>h.elim |_::_,[],h=>h.elim
theorem ahp{H:Mem}{l l':List Sh}{v:Value}(hr:Rep H (.pt l) v)(h:aap H l l'):Rep H (.pt l') v:=by
 obtain ⟨e,q⟩:=afk h;cases hr with
 |pt _ b off c h1 h2 h3=>
  exact .pt _ b off c (fun j hj=>h1 j (by omega)) (fun j hj=>h2 j (by omega)) fun j s' hs=>by
   obtain ⟨s,hs',hu⟩:=q j s' hs;exact hu _ (h3 j s hs')
theorem QS{H:Mem}{l l':List Sh}{v:Value}(hr:Rep H (.agg l) v)(h:aap H l l'):Rep H (.agg l') v:=by
 obtain ⟨e,q⟩:=afk h;cases hr with
 |agg _ vs h1 h3=>
  exact .agg _ vs (by omega) fun j s' u hs hv=>by
   obtain ⟨s,hs',hu⟩:=q j s' hs;exact hu _ (h3 j s u hs' hv)
theorem ahq{H:Mem}{st n:Nat}{g:Nat->List Sh}{u:Value}(h:(fC st 4||fC n 0)=aC)(hr:Rep H (.sl st n g) u):Rep H (.sl 4 n g) u:=by
 rw[Bool.or_eq_true] at h;rcases h with h|h
 ·obtain rfl:=fK h
  exact hr
 ·obtain rfl:=fK h
  exact QF hr (.inl ⟨rfl,rfl⟩)
theorem aww:AV aA (Bq W7) 41 D41:=by
 refine FT (C:=C7 Ai W7 Oy AU) (dD _ _) (fn:=sD) (by kernel_rfl) (by kernel_rfl) fun H w Bv args φ hrep h=>?_
 have hn:sD.ntmps=104:=by kernel_rfl
 unfold D41 at h;split at h
 ·rename_i lv s1 s2 s3 t st n g
  split at h
  ·rename_i N T' N' mk' q0 p e1 e2 e4 e3
   obtain ⟨h1,hφ⟩:=h;unfold tuB at h1;rw[aI,aI,aI] at h1;obtain ⟨a1,a2,a3,a4⟩:=h1;have Q:TuP lv N (Am T') N' (Am mk') p n g:=@of_decide_eq_true _ (bG _) a4;obtain rfl:=Q.eq;obtain ⟨q,rfl⟩:=Int.eq_ofNat_of_zero_le Q.pos;match args,hrep with
   |[v,u],⟨rv,ru,_⟩=>
    obtain ⟨k0,g0⟩:=q0;refine ⟨[.pt (Cb lv N (Am T') N (Am mk') k0 g0),.agg [.i .i64 (q:Int),.sl 4 n g]],⟨ahp rv ⟨fun _ r=>r,fun _ r=>Ez (BQ e1 r) a1,fun _ r=>Ez (BQ e2 r) a2,fun _ r=>BQ e4 r,trivial⟩,QS ru ⟨fun _ r=>EJ e3 r,fun _ r=>ahq a3 r,trivial⟩,trivial⟩,L0,?_⟩;have hφ:φ (.sl 4 (tuL lv N (Am T') (Am mk') (q:Int) n g).length (Aj (nth (tuL lv N (Am T') (Am mk') (q:Int) n g)))):=hφ;rw[<-aoR] at hφ;refine Fh (dD _ _) (ajh _ aoS) (hold:=BL) (m:=300) (n:=400) (ts:=[⟨41,Xq,Zu lv N (Am T') N (Am mk') k0 g0 q n g 0 (nth []) ((0:Nat):Int),[]⟩]) ?_;rw[hn];exact ajg Ai W7 lv N (Am T') N (Am mk') k0 g0 q n g 0 (nth []) _ ⟨⟨rfl,rfl,rfl,rfl,rfl,rfl,rfl,rfl,rfl,trivial⟩,_,rfl,akR Q N 0 [] (by omega) (by simp) hφ⟩
  ·exact h.elim
 ·exact h.elim
open Go Go.Conc Go.RowKit
set_option maxRecDepth 100000 in
theorem ahr(w:World):Calls aA 69 #[.chan aK] w fun e w'=>e=.returned (.bool ay)/\w'=w:=by
 refine calls_of_loneTo fun cs=>?_
 have e:gQ aA 69 #[.chan aK] .normal=(Af 69).at ⟨#[.chan aK,undef,undef,undef,undef,undef,undef],[]⟩ [.code (sF.body.getD .skip)]:=by
  simp[gQ,Frame.at,zu,Af,sF]
 rw[e];refine LoneTo.goes (n:=14) ?_;simp only[sF,oD];s_c stepG_seq
 s_reg
 s_op
 s_c stepG_region_end
 s_c stepG_seq
 s_reg
 s_op
 s_c stepG_region_end
 s_c stepG_seq
 s_reg
 s_stop
 refine LoneTo.step (step_lone_select_recv_nil (z:=.agg #[]) (stepG_comm (cases:=#[rcaseNil (.agg #[])]) (blocking:=ay) (shape:=.select) (w':=w) rfl rfl (by decide) (by simp[go_sem,execOp,rcaseNil,Act.eval]))) ?_;rw[Frame.finish_at];walk_nrm
 refine LoneTo.goes (n:=10) ?_;s_op
 s_op
 s_c stepG_region_end
 s_c stepG_block
 s_cond ay
 s_c stepG_seq
 s_reg
 s_op
 s_c stepG_region_end
 s_c stepG_ret'
 s_stop
 exact LoneTo.done ⟨.returned (.bool ay),_,rfl,⟨rfl,rfl⟩,rfl,rfl,rfl,rfl,_,zu,by simp[results,sF,Frame.at]⟩
def aoU:List Ag->Go.Sx.Tree Ag
 |[.v (.chan aK)]=>.leaf (.b ay) |_=>.fail
theorem awx:Go.Sx.AV aA (Bq W7) 69 aoU:=by
 intro H w Bv args φ hon hg hr h;unfold aoU at h;split at h
 ·match args,hr with
  |[v],⟨rv,_⟩=>
   cases rv;refine Calls.mono (ahr w) fun e w' ⟨he,hw⟩=>?_;subst hw;exact ⟨_,_,H,he,h,fun _ _ h=>h,hon,rfl,rfl,rfl,dn _,fun _ _=>rfl,fun b h=>.inl h,fun b0=>⟨fun _=>aK,fun i h=>absurd rfl h,fun i b h=>(by cases h),rfl,Go.Sx.PL⟩⟩
 ·exact h.elim
end Go.Proofs
namespace Go.Pl
open Go Go.Sx Go.Proofs
structure Ie where
 okb:Bool
 Ig:Bool
 pos:Int
 e:Nat
 lv:Int
 N:Nat
 T:Nat->Ee
 ms:Nat->Int
 k0:Nat
 g0:Nat->List Sh
noncomputable def aoV(s:Sh)(l:Int)(h:Sh)(lv:Int):Bool:=@decide (s=h/\l=lv) (bG _)
noncomputable def ZX(st n:Nat)(g:Nat->List Sh):Bool:=(fC st 4||fC n 0)&&(stB n g&&keysB n (Et n g))
noncomputable def OZ(n:Nat)(g:Nat->List Sh):List UInt8:=adY ((aZ n).map (Et n g))
structure Tz where
 placed:Int
 st:Nat
 n:Nat
 g:Nat->List Sh
instance:Inhabited Tz:=⟨⟨0,0,0,fun _=>[]⟩⟩
instance:Row Tz where
 put x:=[.i .i64 x.placed,.sl x.st x.n x.g]
 get l:=match l with
  |[.i .i64 a,.sl s n g]=>ak ⟨a,s,n,g⟩ |_=>aK
 DF l a h:=by
  split at h
  ·cases h;rfl
  ·cases h
 get_put a:=rfl
 JI:=default
structure PrQ where
 placed:Int
 key:List UInt8
instance:Inhabited PrQ:=⟨⟨0,[]⟩⟩
instance:Row PrQ where
 put x:=[.i .i64 x.placed,.str x.key]
 get l:=match l with
  |[.i .i64 a,.str k]=>ak ⟨a,k⟩ |_=>aK
 DF l a h:=by
  split at h
  ·cases h;rfl
  ·cases h
 get_put a:=rfl
 JI:=default
end Go.Pl
namespace Go.Proofs
open Go Go.Sx Go.Pl
noncomputable def Xt(h0:Sh)(lv:Int)(B:Ie):List Sh->Tree Sh
 |[s,t]=>match BF t with
  |some l=>.need (aoV s l h0 lv) (.node B.okb (.leaf (.AQ [.pt (Cb B.lv B.N B.T B.N B.ms B.k0 B.g0),.v .nilIface]))
   (.node B.Ig (.leaf (.AQ [.v (.pointer aK),.C9 109 (.pt [.i .i64 B.pos,.er B.e 329])])) (.leaf (.AQ [.v (.pointer aK),.er B.e 329]))))
  |none=>.fail
 |_=>.fail
noncomputable def D92:List Sh->Tree Sh
 |[.agg [.sl st n g]]=>.need (ZX st n g) (.leaf (.str (OZ n g))) |_=>.fail
noncomputable def Dw(h0:Sh)(lv:Int)(B:Ie):Nat->Option (List Sh->Tree Sh)
 |40=>ak (Xt h0 lv B) |41=>ak D41 |69=>ak aoU |92=>ak D92 |_=>aK
def tdA:List It:=[bD [0,0,1,1,1,1,1,1,1,1,1,1],dw 0,bD [1,1,1,1,1,1,1,1,1,1,1]]
def tbA:List It:=bD [0,0,0,1,1,1,1,1,1,1,1,1,1]::tdA
def hpA(B:Ie)(mo:Int)(M:Int×List UInt8->Option Value)(c:Nat)(cr:Nat->PrQ)(at_:Int)(q:Nat)(qr:Nat->Tz)(m:Nat)(od:Nat->Vu):List (Nat×SB):=
 [(1,.box [.bool ay,.A8,.int .i64 0] 44),(2,.pm .int M []),(3,.box [.sym .i64 mo,.mp 2,.gs 7] 204),(4,.box [.ptr 3 0] 154),(5,.box [.gs 8,.sym .i64 at_] 160),(6,.box [.gs 9] 158),(7,.own 157 2 c (Aj cr)),(8,.own 104 2 q (Aj qr)),(9,.own 104 2 m (Aj od))]
def tmA(B:Ie):List (Nat×SV):=[(0,.val (.chan aK)),(8,.ptr 1 0),(10,.GX 4 1 (fun _=>Cb B.lv B.N B.T B.N B.ms B.k0 B.g0) 0 0),(12,.ptr 4 0),(13,.ptr 5 0),(14,.ptr 6 0),(15,.fn 64 [.ptr 4 0,.ptr 5 0,.ptr 6 0])]
def LA(B:Ie)(mo:Int)(M:Int×List UInt8->Option Value)(c:Nat)(cr:Nat->PrQ)(at_:Int)(q:Nat)(qr:Nat->Tz)(m:Nat)(od:Nat->Vu):Core:=
 {tm:=G6 111 (tmA B),hp:=hpA B mo M c cr at_ q qr m od,nx:=10,lim:=L0,tc:=[]}
def tdB:List It:=[bD [0,1,1,1,1,0,0,0,0,1,1,1,1,1,1,1,1,1,1],dw 2,dw 1,bD [0,0,1,1,1,1,1,1,1,1,1,1],dw 0,bD [1,1,1,1,1,1,1,1,1,1,1]]
def tbB:List It:=bD [0,0,1,1,1,1,0,0,0,0,1,1,1,1,1,1,1,1,1,1]::tdB
def LB(B:Ie)(mo:Int)(M:Int×List UInt8->Option Value)(c:Nat)(cr:Nat->PrQ)(at_:Int)(q:Nat)(qr:Nat->Tz)(m:Nat)(od:Nat->Vu)(t:Nat)(tr:Nat->JJ)(j:Int):Core:=
 {tm:=G6 111 (tmA B++[(76,.sh (.sl 4 t (Aj tr))),(77,.sym .i64 (t:Int)),(78,.sym .i64 j)]),hp:=hpA B mo M c cr at_ q qr m od,nx:=10,lim:=L0,tc:=[]}
def O1(B:Ie):List Fr:=[{g:=39,td:=[It.reg [0,1,1,1,1,1,1,1,1,1,1,1,1] [2,3],bD [1,1,1,1,1,1,1,1,1,1,1,1,1]],tm:=G6 111 [(8,.ptr 1 0),(10,.GX 4 1 (fun _=>Cb B.lv B.N B.T B.N B.ms B.k0 B.g0) 0 0),(22,.ptr 11 0)]}]
def ZY:List It:=[bD [0,1,0,1,1],dw 0,bD [1,1,1]]
def tbC:List It:=bD [0,0,1,0,1,1]::ZY
def hpC(m:Nat)(od:Nat->Vu)(M:Int×List UInt8->Option Value)(c:Int):List (Nat×SB):=[(1,.box [.bool ay,.A8,.int .i64 0] 44),(9,.own 104 2 m (Aj od)),(10,.pm .bool M []),(11,.box [.bool ay,.A8,.sym .i64 c] 44)]
def tmC(B:Ie)(i:Int):List (Nat×SV):=[(0,.GX 4 1 (fun _=>Cb B.lv B.N B.T B.N B.ms B.k0 B.g0) 0 0),(1,.gs 9),(5,.mp 10),(6,.sym .i64 i)]
def LC(B:Ie)(m:Nat)(od:Nat->Vu)(M:Int×List UInt8->Option Value)(c:Int)(i:Int):Core:={tm:=G6 50 (tmC B i),hp:=hpC m od M c,nx:=12,lim:=L0,tc:=[]}
theorem ajj(A:Prim)(W:Wd)(B:Ie)(lv mo:Int)(o m:Nat)(og mg:Nat->List Sh)(mo':Int)(M':Int×List UInt8->Option Value)(c':Nat)(QT:Nat->PrQ)(at':Int)(q':Nat)(Xu:Nat->Tz)(m':Nat)(od':Nat->Vu){ψ:ED->Prop}{c0 c1 c2 c3 c4 c5 c6 c7:Bool}(e0:A.lt lv (ah 1)=c0)(e1:A.lt (ah 3) lv=c1)(e2:A.lt mo (ah 1)=c2)(e3:A.lt (ah 65536) mo=c3)(e4:B.okb=c4)(e5:A.isS aK=c5)(e6:A.eq (ah 0) (A.max mo (ah 0))=c6)(e7:B.Ig=c7)(h1:c0=ay->c1=ay->c2=ay->c3=ay->(aoV (cO [aG 2 o og,aG 8 m mg]) lv (cO [aG 2 o og,aG 8 m mg]) lv)=aC)(h2:c0=ay->c1=ay->c2=ay->c3=ay->c4=aC->(ZX 4 B.k0 B.g0)=aC)(y1:c0=aC->ψ (aT (cZ [cO [gU ay,aG 0 0 fun _=>[],aY .i64 (ah 0)],bf 2 329])))(y2:c0=ay->c1=aC->ψ (aT (cZ [cO [gU ay,aG 0 0 fun _=>[],aY .i64 (ah 0)],bf 2 329])))(y3:c0=ay->c1=ay->c2=aC->ψ (aT (cZ [cO [gU ay,aG 0 0 fun _=>[],aY .i64 (ah 0)],bf 4 329])))(y4:c0=ay->c1=ay->c2=ay->c3=aC->ψ (aT (cZ [cO [gU ay,aG 0 0 fun _=>[],aY .i64 (ah 0)],bf 4 329])))(y5:c0=ay->c1=ay->c2=ay->c3=ay->c4=aC->c5=aC->ψ (bK 0 [jO (iL aK) (iL aK),aJ 1 1,bF (fun (x:Nat)=>Cb B.lv B.N B.T B.N B.ms B.k0 B.g0) fun (x:Nat)=>Cb B.lv B.N B.T B.N B.ms B.k0 B.g0,aJ 0 0,aj (ah 0) (ah 0),jm (fun (x:Int×List UInt8)=>aK) M',aj (A.max mo (ah 0)) mo',aj (ah 0) at',aJ c' 0,aJ q' 0,aJ m' 0]))(y6:c0=ay->c1=ay->c2=ay->c3=ay->c4=aC->c5=ay->c6=aC->ψ (aT (cZ [cO [gU ay,aG 0 0 fun _=>[],aY .i64 (ah 0)],bf 0 329])))(y7:c0=ay->c1=ay->c2=ay->c3=ay->c4=aC->c5=ay->c6=ay->ψ (bK 0 [jO (iL aK) (iL aK),aJ 1 1,bF (fun (x:Nat)=>Cb B.lv B.N B.T B.N B.ms B.k0 B.g0) fun (x:Nat)=>Cb B.lv B.N B.T B.N B.ms B.k0 B.g0,aJ 0 0,aj (ah 0) (ah 0),jm (Me (ah 0,OZ B.k0 B.g0) (ak (iW .i64 (ah 0))) fun (x:Int×List UInt8)=>aK) M',aj (A.max mo (ah 0)) mo',aj (ah 0) at',aJ 1 c',aU 1 (Bh [[aY .i64 (ah 0),dB (OZ B.k0 B.g0)]]) (Aj QT),aJ 1 q',aU 1 (Bh [[aY .i64 (ah 0),aG 4 B.k0 B.g0]]) (Aj Xu),aJ 1 m',aU 1 (Bh [[aY .i64 (ah 0),aG 4 B.k0 B.g0]]) (Aj od')]))(y8:c0=ay->c1=ay->c2=ay->c3=ay->c4=ay->c7=aC->ψ (aT (cZ [cO [gU ay,aG 0 0 fun _=>[],aY .i64 (ah 0)],Sh.C9 109 (pR [aY .i64 B.pos,bf B.e 329])])))(y9:c0=ay->c1=ay->c2=ay->c3=ay->c4=ay->c7=ay->ψ (aT (cZ [cO [gU ay,aG 0 0 fun _=>[],aY .i64 (ah 0)],bf B.e 329]))):Df ψ (Bj (C7 A W (Dw (.agg [.sl 2 o og,.sl 8 m mg]) lv B) AU) BL 300 400 39 [.code []] (Ap 111 [.v (.chan aK),.agg [.sl 2 o og,.sl 8 m mg],.i .i64 lv,.i .i64 mo] L0) [] [⟨39,tdA,LA B mo' M' c' QT at' q' Xu m' od',[]⟩]):=by
 subst e0 e1 e2 e3 e4 e5 e6 e7;exact akM (by kernel_rfl) (an y1 (fun q0=>an (y2 q0) (fun q1=>an (y3 q0 q1) (fun q2=>an (y4 q0 q1 q2) (fun q3=>an (h1 q0 q1 q2 q3) (an (fun q4=>an (h2 q0 q1 q2 q3 q4) (an (y5 q0 q1 q2 q3 q4) (fun q5=>an (y6 q0 q1 q2 q3 q4 q5) (y7 q0 q1 q2 q3 q4 q5)))) (fun q4=>an (y8 q0 q1 q2 q3 q4) (y9 q0 q1 q2 q3 q4)))))))) (by kernel_rfl)
theorem VA(A:Prim)(W:Wd)(B:Ie)(hs:Sh)(lv mo:Int)(M:Int×List UInt8->Option Value)(c:Nat)(cr:Nat->PrQ)(at_:Int)(q:Nat)(qr:Nat->Tz)(m:Nat)(od:Nat->Vu)(at':Int)(q':Nat)(Xu:Nat->Tz)(t:Nat)(tr:Nat->JJ)(M':Int×List UInt8->Option Value)(c' i':Int){ψ:ED->Prop}{c0 c1 c2:Bool}(e0:A.eq at_ (A.AZ q)=c0)(e1:A.eq (A.add .i64 at_ (ah 1)) (A.AZ q)=c1)(e2:ay=c2)(h1:c0=ay->(A.inB at_ q)=aC)(h2:c0=ay->c1=aC->c2=ay->(tuB B.lv B.N (Aj B.T) B.N (Aj B.ms) (qr (A.toN at_)).placed (qr (A.toN at_)).st (qr (A.toN at_)).n (qr (A.toN at_)).g)=aC)(h3:c0=ay->c1=ay->c2=ay->(tuB B.lv B.N (Aj B.T) B.N (Aj B.ms) (qr (A.toN at_)).placed (qr (A.toN at_)).st (qr (A.toN at_)).n (qr (A.toN at_)).g)=aC)(y1:c0=aC->ψ (bK 1 [aJ 1 1,bF (fun (x:Nat)=>Cb B.lv B.N B.T B.N B.ms B.k0 B.g0) fun (x:Nat)=>Cb B.lv B.N B.T B.N B.ms B.k0 B.g0,aJ 0 0,aj (A.sub .i64 (A.AZ m) (ah 1)) i',aj (ah 0) (ah 0),aJ m m,aU m (Aj od) (Aj od),jm (fun (x:Int×List UInt8)=>aK) M',aj (A.AZ c) c',aJ 1 1,bF (fun (x:Nat)=>Cb B.lv B.N B.T B.N B.ms B.k0 B.g0) fun (x:Nat)=>Cb B.lv B.N B.T B.N B.ms B.k0 B.g0,aJ 0 0]))(y2:c0=ay->c1=aC->c2=aC->ψ (aT (cZ [cO [gU ay,aG 0 0 fun _=>[],aY .i64 (ah 0)],bf 5 329])))(y3:c0=ay->c1=aC->c2=ay->ψ (bK 0 [jO (iL aK) (iL aK),aJ 1 1,bF (fun (x:Nat)=>Cb B.lv B.N B.T B.N B.ms B.k0 B.g0) fun (x:Nat)=>Cb B.lv B.N B.T B.N B.ms B.k0 B.g0,aJ 0 0,aO (aG 4 (OY B.lv B.N (Aj B.T) (Aj B.ms) (qr (A.toN at_)).placed (qr (A.toN at_)).n (qr (A.toN at_)).g) (Aj (ZW B.lv B.N (Aj B.T) (Aj B.ms) (qr (A.toN at_)).placed (qr (A.toN at_)).n (qr (A.toN at_)).g))) (aG 4 t (Aj tr)),aj (A.AZ (OY B.lv B.N (Aj B.T) (Aj B.ms) (qr (A.toN at_)).placed (qr (A.toN at_)).n (qr (A.toN at_)).g)) (ah t),aj (ah 0) (ah 0),aj (ah 0) (ah 0),jm M M,aj mo mo,aj (ah 0) at',aJ c c,aU c (Aj cr) (Aj cr),aJ q' 0,aJ m m,aU m (Aj od) (Aj od)]))(y4:c0=ay->c1=ay->c2=aC->ψ (aT (cZ [cO [gU ay,aG 0 0 fun _=>[],aY .i64 (ah 0)],bf 5 329])))(y5:c0=ay->c1=ay->c2=ay->ψ (bK 0 [jO (iL aK) (iL aK),aJ 1 1,bF (fun (x:Nat)=>Cb B.lv B.N B.T B.N B.ms B.k0 B.g0) fun (x:Nat)=>Cb B.lv B.N B.T B.N B.ms B.k0 B.g0,aJ 0 0,aO (aG 4 (OY B.lv B.N (Aj B.T) (Aj B.ms) (qr (A.toN at_)).placed (qr (A.toN at_)).n (qr (A.toN at_)).g) (Aj (ZW B.lv B.N (Aj B.T) (Aj B.ms) (qr (A.toN at_)).placed (qr (A.toN at_)).n (qr (A.toN at_)).g))) (aG 4 t (Aj tr)),aj (A.AZ (OY B.lv B.N (Aj B.T) (Aj B.ms) (qr (A.toN at_)).placed (qr (A.toN at_)).n (qr (A.toN at_)).g)) (ah t),aj (ah 0) (ah 0),aj (ah 0) (ah 0),jm M M,aj mo mo,aj (A.add .i64 at_ (ah 1)) at',aJ c c,aU c (Aj cr) (Aj cr),aJ q q',aU q (A.upd (Aj qr) (A.toN at_) 0 [aY .i64 (ah 0),aG 0 0 fun _=>[]]) (Aj Xu),aJ m m,aU m (Aj od) (Aj od)])):Df ψ (Bj (C7 A W (Dw hs lv B) AU) BL 300 400 39 tbA (LA B mo M c cr at_ q qr m od) [] [⟨39,tdB,LB B mo M c cr at' q' Xu m od t tr 0,[]⟩,⟨71,ZY,LC B m od M' c' i',O1 B⟩]):=by
 subst e0 e1 e2;exact FU (an y1 (fun q0=>an (h1 q0) (an (h1 q0) (an (fun q1=>an (y2 q0 q1) (fun q2=>an (h2 q0 q1 q2) (y3 q0 q1 q2))) (fun q1=>an (y4 q0 q1) (fun q2=>an (h3 q0 q1 q2) (y5 q0 q1 q2))))))) (by kernel_rfl)
theorem QU(A:Prim)(W:Wd)(B:Ie)(hs:Sh)(lv mo:Int)(M M':Int×List UInt8->Option Value)(c c':Nat)(cr QT:Nat->PrQ)(at_:Int)(q q':Nat)(qr Xu:Nat->Tz)(m m':Nat)(od od':Nat->Vu)(t:Nat)(tr:Nat->JJ)(j j':Int){ψ:ED->Prop}{c0 c1 c2:Bool}(e0:A.lt j (ah t)=c0)(e1:A.isS (M ((tr (A.toN j)).placed,OZ (tr (A.toN j)).n (tr (A.toN j)).g))=c1)(e2:A.eq (A.AZ c) mo=c2)(h1:c0=aC->(A.inB j t)=aC)(h2:c0=aC->(ZX 4 (tr (A.toN j)).n (tr (A.toN j)).g)=aC)(h3:c0=aC->c1=ay->c2=ay->(A.room (A.addN c 1) 24)=aC)(h4:c0=aC->c1=ay->c2=ay->(A.room (A.addN q 1) 32)=aC)(h5:c0=aC->c1=ay->c2=ay->(A.room (A.addN m 1) 32)=aC)(y1:c0=aC->c1=aC->ψ (bK 0 [jO (iL aK) (iL aK),aJ 1 1,bF (fun (x:Nat)=>Cb B.lv B.N B.T B.N B.ms B.k0 B.g0) fun (x:Nat)=>Cb B.lv B.N B.T B.N B.ms B.k0 B.g0,aJ 0 0,aO (aG 4 t (Aj tr)) (aG 4 t (Aj tr)),aj (ah t) (ah t),aj (A.add .i64 j (ah 1)) j',aj (ah 0) (ah 0),jm M M',aj mo mo,aj at_ at_,aJ c c',aU c (Aj cr) (Aj QT),aJ q q',aU q (Aj qr) (Aj Xu),aJ m m',aU m (Aj od) (Aj od')]))(y2:c0=aC->c1=ay->c2=aC->ψ (aT (cZ [cO [gU ay,aG 0 0 fun _=>[],aY .i64 (ah 0)],bf 0 329])))(y3:c0=aC->c1=ay->c2=ay->ψ (bK 0 [jO (iL aK) (iL aK),aJ 1 1,bF (fun (x:Nat)=>Cb B.lv B.N B.T B.N B.ms B.k0 B.g0) fun (x:Nat)=>Cb B.lv B.N B.T B.N B.ms B.k0 B.g0,aJ 0 0,aO (aG 4 t (Aj tr)) (aG 4 t (Aj tr)),aj (ah t) (ah t),aj (A.add .i64 j (ah 1)) j',aj (ah 0) (ah 0),jm (Me ((tr (A.toN j)).placed,OZ (tr (A.toN j)).n (tr (A.toN j)).g) (ak (iW .i64 (A.AZ c))) M) M',aj mo mo,aj at_ at_,aJ (A.addN c 1) c',aU (A.addN c 1) (A.snoc (Aj cr) c (Bh [[aY .i64 (tr (A.toN j)).placed,dB (OZ (tr (A.toN j)).n (tr (A.toN j)).g)]])) (Aj QT),aJ (A.addN q 1) q',aU (A.addN q 1) (A.snoc (Aj qr) q (Bh [[aY .i64 (tr (A.toN j)).placed,aG 4 (tr (A.toN j)).n (tr (A.toN j)).g]])) (Aj Xu),aJ (A.addN m 1) m',aU (A.addN m 1) (A.snoc (Aj od) m (Bh [[aY .i64 (tr (A.toN j)).placed,aG 4 (tr (A.toN j)).n (tr (A.toN j)).g]])) (Aj od')]))(y4:c0=ay->ψ (bK 1 [jO (iL aK) (iL aK),aJ 1 1,bF (fun (x:Nat)=>Cb B.lv B.N B.T B.N B.ms B.k0 B.g0) fun (x:Nat)=>Cb B.lv B.N B.T B.N B.ms B.k0 B.g0,aJ 0 0,aj (ah 0) (ah 0),jm M M,aj mo mo,aj at_ at_,aJ c c,aU c (Aj cr) (Aj cr),aJ q q,aU q (Aj qr) (Aj qr),aJ m m,aU m (Aj od) (Aj od)])):Df ψ (Bj (C7 A W (Dw hs lv B) AU) BL 300 400 39 tbB (LB B mo M c cr at_ q qr m od t tr j) [] [⟨39,tdB,LB B mo M' c' QT at_ q' Xu m' od' t tr j',[]⟩,⟨39,tdA,LA B mo M c cr at_ q qr m od,[]⟩]):=by
 subst e0 e1 e2;exact akM (by kernel_rfl) (an (fun q0=>an (h1 q0) (an (h2 q0) (an (y1 q0) (fun q1=>an (y2 q0 q1) (fun q2=>an (h3 q0 q1 q2) (an (h3 q0 q1 q2) (an (h4 q0 q1 q2) (an (h4 q0 q1 q2) (an (h5 q0 q1 q2) (y3 q0 q1 q2)))))))))) y4) (by kernel_rfl)
end Go.Proofs
namespace Go.Pl
open Go Go.Sx Go.Proofs
structure Ea where
 tx:Int
 com:Bool
 deriving DecidableEq
instance:Inhabited Ea:=⟨⟨0,ay⟩⟩
instance:Row Ea where
 put x:=[.i .i64 x.tx,.b x.com]
 get l:=match l with
  |[.i .i64 a,.b c]=>ak ⟨a,c⟩ |_=>aK
 DF l a h:=by
  split at h
  ·cases h;rfl
  ·cases h
 get_put a:=rfl
 JI:=default
end Go.Pl
namespace Go.Proofs
open Go Go.Sx Go.Pl
def tdD:List It:=[bD [0,1,0,1,1,0,0,1,0,0,1,0,1,1],dw 2,bD [1,1,1,0,0,1,0,0,1,0,1,1],dw 1,bD [1,1,0,0,1,0,1,1],bD [0,1,0,1,1],dw 0,bD [1,1,1]]
def tbD:List It:=bD [0,0,1,0,1,1,0,0,1,0,0,1,0,1,1]::tdD
def LD(B:Ie)(m:Nat)(od:Nat->Vu)(M:Int×List UInt8->Option Value)(c:Int)(i:Int)(p:Int)(n:Nat)(g:Nat->List Sh)(is:Bool)(t:Nat)(tr:Nat->JJ)(j:Int):Core:=
 {tm:=G6 50 (tmC B i++[(7,.ptr 12 0),(8,.test is),(30,.sh (.sl 4 t (Aj tr))),(31,.sym .i64 (t:Int)),(32,.sym .i64 j)]),hp:=hpC m od M c++[(12,.box [.sym .i64 p,.sh (.sl 4 n g)] 104)],nx:=13,lim:=L0,tc:=[]}
def Uy(B:Ie):List Fr:=[{g:=39,td:=[It.reg [0,1,0,1,1,1,1,1,1,1,1,1,1,1,1,1] [2,3,4,5,6],bD [1,1,1,1,1,1,1,1,1,1,1,1,1,1]],tm:=G6 111 [(8,.ptr 1 0),(22,.ptr 11 0)]}]
def tdE:List It:=[bD [0,1,0,1,1],dw 0,bD [1,1,1]]
def tbE:List It:=bD [0,0,1,0,1,1]::tdE
def hpE(M:Int×List UInt8->Option Value)(c:Int)(p:Int)(n:Nat)(g:Nat->List Sh)(k:Nat)(sr:Nat->Ea):List (Nat×SB):=[(1,.box [.bool ay,.A8,.int .i64 0] 44),(10,.pm .bool M []),(11,.box [.bool ay,.A8,.sym .i64 c] 44),(12,.box [.sym .i64 p,.sh (.sl 4 n g)] 104),(13,.own 55 2 k (Aj sr))]
def tmE(B:Ie):List (Nat×SV):=[(0,.GX 4 1 (fun _=>Cb B.lv B.N B.T B.N B.ms B.k0 B.g0) 0 0),(1,.mp 10),(5,.gs 13),(6,.ptr 12 0)]
def LE(B:Ie)(M:Int×List UInt8->Option Value)(c:Int)(p:Int)(n:Nat)(g:Nat->List Sh)(k:Nat)(sr:Nat->Ea):Core:={tm:=G6 42 (tmE B),hp:=hpE M c p n g k sr,nx:=14,lim:=L0,tc:=[]}
def tdF:List It:=[bD [0,1,0,0,1,0,0,1,0,1,1],dw 2,dw 1,bD [1,1,0,0,1,0,1,1],bD [0,1,0,1,1],dw 0,bD [1,1,1]]
def tbF:List It:=bD [0,0,1,0,0,1,0,0,1,0,1,1]::tdF
def LF(B:Ie)(M:Int×List UInt8->Option Value)(c:Int)(p:Int)(n:Nat)(g:Nat->List Sh)(k:Nat)(sr:Nat->Ea)(t:Nat)(tr:Nat->JJ)(j:Int):Core:={tm:=G6 42 (tmE B++[(21,.sh (.sl 4 t (Aj tr))),(22,.sym .i64 (t:Int)),(23,.sym .i64 j)]),hp:=hpE M c p n g k sr,nx:=14,lim:=L0,tc:=[]}
theorem ab3(A:Prim)(W:Wd)(B:Ie)(hs:Sh)(lv:Int)(M:Int×List UInt8->Option Value)(m:Nat)(od:Nat->Vu)(c i:Int)(p:Int)(n:Nat)(g:Nat->List Sh)(is:Bool)(t:Nat)(tr:Nat->JJ)(sr:Nat->Ea){ψ:ED->Prop}{c0 c1 c2:Bool}(e0:A.le (ah 0) i=c0)(e1:A.isS (M (ah 0,OZ B.k0 B.g0))=c1)(e2:A.HY (M (ah 0,OZ B.k0 B.g0))=c2)(h1:c0=aC->(A.inB i m)=aC)(h2:c0=aC->(A.le (ah 0) (A.AZ B.N))=aC)(h3:c0=aC->(tuB B.lv B.N (Aj B.T) B.N (Aj B.ms) (od (A.toN i)).placed 4 (od (A.toN i)).n (od (A.toN i)).g)=aC)(h4:c0=ay->(ZX 4 B.k0 B.g0)=aC)(y1:c0=aC->ψ (bK 0 [aJ 1 1,bF (fun (x:Nat)=>Cb B.lv B.N B.T B.N B.ms B.k0 B.g0) fun (x:Nat)=>Cb B.lv B.N B.T B.N B.ms B.k0 B.g0,aJ 0 0,aj i i,pW (A.eq (od (A.toN i)).placed (A.sub .i64 (A.bin iE aW (ah 1) (A.AZ B.N)) (ah 1))) is,aO (aG 4 (OY B.lv B.N (Aj B.T) (Aj B.ms) (od (A.toN i)).placed (od (A.toN i)).n (od (A.toN i)).g) (Aj (ZW B.lv B.N (Aj B.T) (Aj B.ms) (od (A.toN i)).placed (od (A.toN i)).n (od (A.toN i)).g))) (aG 4 t (Aj tr)),aj (A.AZ (OY B.lv B.N (Aj B.T) (Aj B.ms) (od (A.toN i)).placed (od (A.toN i)).n (od (A.toN i)).g)) (ah t),aj (ah 0) (ah 0),aj (ah 0) (ah 0),aJ m m,aU m (Aj od) (Aj od),jm M M,aj c c,aj (od (A.toN i)).placed p,aO (aG 4 (od (A.toN i)).n (od (A.toN i)).g) (aG 4 n g),aJ 1 1,bF (fun (x:Nat)=>Cb B.lv B.N B.T B.N B.ms B.k0 B.g0) fun (x:Nat)=>Cb B.lv B.N B.T B.N B.ms B.k0 B.g0,aJ 0 0]))(y2:c0=ay->c1=aC->c2=aC->ψ (bK 1 [aJ 1 1,bF (fun (x:Nat)=>Cb B.lv B.N B.T B.N B.ms B.k0 B.g0) fun (x:Nat)=>Cb B.lv B.N B.T B.N B.ms B.k0 B.g0,aJ 0 0,aj (ah 0) (ah 0),jm M M,aj c c,aj (ah 0) (ah 0),aO (aG 4 B.k0 B.g0) (aG 4 B.k0 B.g0),aJ 0 0]))(y3:c0=ay->c1=aC->c2=ay->ψ (aT (cZ [cO [gU ay,aG 0 0 fun _=>[],aY .i64 c],jG bJ])))(y4:c0=ay->c1=ay->ψ (aT (cZ [cO [gU ay,aG 0 0 fun _=>[],aY .i64 c],jG bJ]))):Df ψ (Bj (C7 A W (Dw hs lv B) AU) BL 300 400 71 tbC (LC B m od M c i) (O1 B) [⟨71,tdD,LD B m od M c i p n g is t tr 0,O1 B⟩,⟨72,tdE,LE B M c 0 B.k0 B.g0 0 sr,Uy B⟩]):=by
 subst e0 e1 e2;exact FU (an (fun q0=>an (h1 q0) (an (h2 q0) (an (h3 q0) (y1 q0)))) (fun q0=>an (h4 q0) (an (fun q1=>an (y2 q0 q1) (y3 q0 q1)) (y4 q0)))) (by kernel_rfl)
theorem ab4(A:Prim)(W:Wd)(B:Ie)(hs:Sh)(lv:Int)(M M':Int×List UInt8->Option Value)(m:Nat)(od:Nat->Vu)(c i:Int)(p:Int)(n:Nat)(g:Nat->List Sh)(is is':Bool)(t:Nat)(tr:Nat->JJ)(j j' i':Int){ψ:ED->Prop}{c0 c1 c2:Bool}(e0:A.lt j (ah t)=c0)(e1:is=c1)(e2:A.isS (M ((tr (A.toN j)).placed,OZ (tr (A.toN j)).n (tr (A.toN j)).g))=c2)(h1:c0=aC->(A.inB j t)=aC)(h2:c0=aC->c1=ay->(ZX 4 (tr (A.toN j)).n (tr (A.toN j)).g)=aC)(h3:c0=ay->(ZX 4 n g)=aC)(y1:c0=aC->c1=aC->ψ (bK 0 [aJ 1 1,bF (fun (x:Nat)=>Cb B.lv B.N B.T B.N B.ms B.k0 B.g0) fun (x:Nat)=>Cb B.lv B.N B.T B.N B.ms B.k0 B.g0,aJ 0 0,aj i i,pW aC is',aO (aG 4 t (Aj tr)) (aG 4 t (Aj tr)),aj (ah t) (ah t),aj (A.add .i64 j (ah 1)) j',aj (ah 0) (ah 0),aJ m m,aU m (Aj od) (Aj od),jm M M,aj c c,aj p p,aO (aG 4 n g) (aG 4 n g),aJ 1 1,bF (fun (x:Nat)=>Cb B.lv B.N B.T B.N B.ms B.k0 B.g0) fun (x:Nat)=>Cb B.lv B.N B.T B.N B.ms B.k0 B.g0,aJ 0 0]))(y2:c0=aC->c1=ay->c2=aC->ψ (bK 0 [aJ 1 1,bF (fun (x:Nat)=>Cb B.lv B.N B.T B.N B.ms B.k0 B.g0) fun (x:Nat)=>Cb B.lv B.N B.T B.N B.ms B.k0 B.g0,aJ 0 0,aj i i,pW (A.HY (M ((tr (A.toN j)).placed,OZ (tr (A.toN j)).n (tr (A.toN j)).g))) is',aO (aG 4 t (Aj tr)) (aG 4 t (Aj tr)),aj (ah t) (ah t),aj (A.add .i64 j (ah 1)) j',aj (ah 0) (ah 0),aJ m m,aU m (Aj od) (Aj od),jm M M,aj c c,aj p p,aO (aG 4 n g) (aG 4 n g),aJ 1 1,bF (fun (x:Nat)=>Cb B.lv B.N B.T B.N B.ms B.k0 B.g0) fun (x:Nat)=>Cb B.lv B.N B.T B.N B.ms B.k0 B.g0,aJ 0 0]))(y3:c0=aC->c1=ay->c2=ay->ψ (bK 0 [aJ 1 1,bF (fun (x:Nat)=>Cb B.lv B.N B.T B.N B.ms B.k0 B.g0) fun (x:Nat)=>Cb B.lv B.N B.T B.N B.ms B.k0 B.g0,aJ 0 0,aj i i,pW ay is',aO (aG 4 t (Aj tr)) (aG 4 t (Aj tr)),aj (ah t) (ah t),aj (A.add .i64 j (ah 1)) j',aj (ah 0) (ah 0),aJ m m,aU m (Aj od) (Aj od),jm M M,aj c c,aj p p,aO (aG 4 n g) (aG 4 n g),aJ 1 1,bF (fun (x:Nat)=>Cb B.lv B.N B.T B.N B.ms B.k0 B.g0) fun (x:Nat)=>Cb B.lv B.N B.T B.N B.ms B.k0 B.g0,aJ 0 0]))(y4:c0=ay->ψ (bK 1 [aJ 1 1,bF (fun (x:Nat)=>Cb B.lv B.N B.T B.N B.ms B.k0 B.g0) fun (x:Nat)=>Cb B.lv B.N B.T B.N B.ms B.k0 B.g0,aJ 0 0,aj (A.sub .i64 i (ah 1)) i',aj (ah 0) (ah 0),aJ m m,aU m (Aj od) (Aj od),jm (Me (p,OZ n g) (ak (Value.bool is)) M) M',aj c c,aJ 1 1,bF (fun (x:Nat)=>Cb B.lv B.N B.T B.N B.ms B.k0 B.g0) fun (x:Nat)=>Cb B.lv B.N B.T B.N B.ms B.k0 B.g0,aJ 0 0])):Df ψ (Bj (C7 A W (Dw hs lv B) AU) BL 300 400 71 tbD (LD B m od M c i p n g is t tr j) (O1 B) [⟨71,tdD,LD B m od M c i p n g is' t tr j',O1 B⟩,⟨71,ZY,LC B m od M' c i',O1 B⟩]):=by
 subst e0 e1 e2;exact FU (an (fun q0=>an (h1 q0) (an (y1 q0) (fun q1=>an (h2 q0 q1) (an (y2 q0 q1) (y3 q0 q1))))) (fun q0=>an (h3 q0) (y4 q0))) (by kernel_rfl)
theorem ab5(A:Prim)(W:Wd)(B:Ie)(hs:Sh)(lv:Int)(M:Int×List UInt8->Option Value)(c:Int)(p:Int)(n:Nat)(g:Nat->List Sh)(k:Nat)(sr:Nat->Ea)(t:Nat)(tr:Nat->JJ){ψ:ED->Prop}{c0:Bool}(e0:A.nt (A.eq p (A.sub .i64 (A.bin iE aW (ah 1) (A.AZ B.N)) (ah 1)))=c0)(h1:(A.le (ah 0) (A.AZ B.N))=aC)(h2:c0=aC->(tuB B.lv B.N (Aj B.T) B.N (Aj B.ms) p 4 n g)=aC)(y1:c0=aC->ψ (bK 0 [aJ 1 1,bF (fun (x:Nat)=>Cb B.lv B.N B.T B.N B.ms B.k0 B.g0) fun (x:Nat)=>Cb B.lv B.N B.T B.N B.ms B.k0 B.g0,aJ 0 0,aO (aG 4 (OY B.lv B.N (Aj B.T) (Aj B.ms) p n g) (Aj (ZW B.lv B.N (Aj B.T) (Aj B.ms) p n g))) (aG 4 t (Aj tr)),aj (A.AZ (OY B.lv B.N (Aj B.T) (Aj B.ms) p n g)) (ah t),aj (ah 0) (ah 0),aj (ah 0) (ah 0),jm M M,aj c c,aj p p,aO (aG 4 n g) (aG 4 n g),aJ k k,aU k (Aj sr) (Aj sr)]))(y2:c0=ay->ψ (aT (cZ [cO [gU aC,Sh.os 55 2 k (Aj sr),aY .i64 c],jG bJ]))):Df ψ (Bj (C7 A W (Dw hs lv B) AU) BL 300 400 72 tbE (LE B M c p n g k sr) (Uy B) [⟨72,tdF,LF B M c p n g k sr t tr 0,Uy B⟩]):=by
 subst e0;exact FU (an h1 (an (fun q0=>an (h2 q0) (y1 q0)) y2)) (by kernel_rfl)
theorem ab6(A:Prim)(W:Wd)(B:Ie)(hs:Sh)(lv:Int)(M:Int×List UInt8->Option Value)(c:Int)(p p':Int)(n n':Nat)(g g':Nat->List Sh)(k k':Nat)(sr sr':Nat->Ea)(t:Nat)(tr:Nat->JJ)(j j':Int){ψ:ED->Prop}{c0 c1 c2:Bool}(e0:A.lt j (ah t)=c0)(e1:A.isS (M ((tr (A.toN j)).placed,OZ (tr (A.toN j)).n (tr (A.toN j)).g))=c1)(e2:A.HY (M ((tr (A.toN j)).placed,OZ (tr (A.toN j)).n (tr (A.toN j)).g))=c2)(h1:c0=aC->(A.inB j t)=aC)(h2:c0=aC->(ZX 4 (tr (A.toN j)).n (tr (A.toN j)).g)=aC)(h3:c0=aC->c1=aC->c2=aC->(A.room (A.addN k 1) 16)=aC)(y1:c0=aC->c1=aC->c2=aC->ψ (bK 1 [aJ 1 1,bF (fun (x:Nat)=>Cb B.lv B.N B.T B.N B.ms B.k0 B.g0) fun (x:Nat)=>Cb B.lv B.N B.T B.N B.ms B.k0 B.g0,aJ 0 0,aj (ah 0) (ah 0),jm M M,aj c c,aj (tr (A.toN j)).placed p',aO (aG 4 (tr (A.toN j)).n (tr (A.toN j)).g) (aG 4 n' g'),aJ (A.addN k 1) k',aU (A.addN k 1) (A.snoc (Aj sr) k (Bh [[aY .i64 (tr (A.toN j)).tx,gU (tr (A.toN j)).com]])) (Aj sr')]))(y2:c0=aC->c1=aC->c2=ay->ψ (bK 0 [aJ 1 1,bF (fun (x:Nat)=>Cb B.lv B.N B.T B.N B.ms B.k0 B.g0) fun (x:Nat)=>Cb B.lv B.N B.T B.N B.ms B.k0 B.g0,aJ 0 0,aO (aG 4 t (Aj tr)) (aG 4 t (Aj tr)),aj (ah t) (ah t),aj (A.add .i64 j (ah 1)) j',aj (ah 0) (ah 0),jm M M,aj c c,aj p p,aO (aG 4 n g) (aG 4 n g),aJ k k,aU k (Aj sr) (Aj sr)]))(y3:c0=aC->c1=ay->ψ (bK 0 [aJ 1 1,bF (fun (x:Nat)=>Cb B.lv B.N B.T B.N B.ms B.k0 B.g0) fun (x:Nat)=>Cb B.lv B.N B.T B.N B.ms B.k0 B.g0,aJ 0 0,aO (aG 4 t (Aj tr)) (aG 4 t (Aj tr)),aj (ah t) (ah t),aj (A.add .i64 j (ah 1)) j',aj (ah 0) (ah 0),jm M M,aj c c,aj p p,aO (aG 4 n g) (aG 4 n g),aJ k k,aU k (Aj sr) (Aj sr)]))(y4:c0=ay->ψ (bK 1 [aJ 1 1,bF (fun (x:Nat)=>Cb B.lv B.N B.T B.N B.ms B.k0 B.g0) fun (x:Nat)=>Cb B.lv B.N B.T B.N B.ms B.k0 B.g0,aJ 0 0,aj (ah 0) (ah 0),jm M M,aj c c,aj p p',aO (aG 4 n g) (aG 4 n' g'),aJ k k',aU k (Aj sr) (Aj sr')])):Df ψ (Bj (C7 A W (Dw hs lv B) AU) BL 300 400 72 tbF (LF B M c p n g k sr t tr j) (Uy B) [⟨72,tdF,LF B M c p n g k sr t tr j',Uy B⟩,⟨72,tdE,LE B M c p' n' g' k' sr',Uy B⟩]):=by
 subst e0 e1 e2;exact FU (an (fun q0=>an (h1 q0) (an (h2 q0) (an (fun q1=>an (fun q2=>an (h3 q0 q1 q2) (y1 q0 q1 q2)) (y2 q0 q1)) (y3 q0)))) y4) (by kernel_rfl)
end Go.Proofs
namespace Go.Pl
open Go Go.Sx Go.Proofs Go.Gm Go.Bf
abbrev SG:=Nat->List Sh
noncomputable def Gb(B:Ie):Game SG:=Ux B.lv B.N B.T B.ms B.k0
noncomputable def CS(k0:Nat)(nd:Nd SG):Int×List UInt8:=((nd.placed:Nat),OZ k0 nd.st)
def Jq(k0:Nat)(nd:Nd SG):Vu:=⟨(nd.placed:Nat),k0,nd.st⟩
def Em(t:Int×Bool):Ea:=⟨t.1,t.2⟩
structure LY(B:Ie)(Q:Nd SG->Prop):Prop where
 start:Q ⟨0,B.g0⟩
 step:∀nd,Q nd->∀t∈next (Gb B) nd,Q t
 tu:∀nd,Q nd->TuP B.lv B.N B.T B.N B.ms (nd.placed:Nat) B.k0 nd.st
 ke:∀nd,Q nd->ZX 4 B.k0 nd.st=aC
section
variable{B:Ie}{Q:Nd SG->Prop}{nd:Nd SG}
theorem Xv(hg:LY B Q)(h:Q nd){st:Nat}(hst:(fC st 4||fC B.k0 0)=aC):tuB B.lv B.N (Aj B.T) B.N (Aj B.ms) (nd.placed:Nat) st B.k0 nd.st=aC:=by
 unfold tuB;rw[DI,DI,hst,EX,EX];exact @decide_eq_true _ (bG _) (hg.tu nd h)
theorem La:OY B.lv B.N (Aj B.T) (Aj B.ms) (nd.placed:Nat) B.k0 nd.st=(turns (Gb B) nd).length:=by
 unfold OY tuL;rw[EX,EX,dP];rfl
theorem Xw:ZW B.lv B.N (Aj B.T) (Aj B.ms) (nd.placed:Nat) B.k0 nd.st=nth ((turns (Gb B) nd).map (G8 B.k0)):=by
 unfold ZW tuL;rw[EX,EX];rfl
theorem P6{α β:Type}[Row β](f:α->β)(l:List α){j:Nat}{a:α}(h:l[j]?=ak a):nth (l.map f) j=f a:=by
 unfold nth;rw[aX,List.getElem?_map,h];rfl
theorem P7(hN:B.N<=62)(nd:Nd SG):(turns (Gb B) nd).length<=124:=by
 have key:∀(l:List Nat),(l.flatMap (Fg (Gb B) nd)).length<=2*l.length:=by
  intro l;induction l with
  |nil=>simp |cons a l ih=>
   rw[oO,bC,List.length_cons];have:(Fg (Gb B) nd a).length<=2:=by
    unfold Fg;split
    ·rw[bC]
     refine Nat.le_trans (Nat.add_le_add (?_:_<=1) (?_:_<=1)) (by decide)
     ·split<;>simp
     ·split<;>simp
    ·simp
   omega
 have:=key (aZ B.N);rw[kD] at this;have e:(turns (Gb B) nd).length=(((aZ B.N).flatMap (Fg (Gb B) nd))).length:=rfl;omega
end
end Go.Pl
namespace Go.Proofs
open Go Go.Sx Go.Pl Go.Gm Go.Bf
theorem awI:AV aA (Bq W7) 92 D92:=fun H w Bv args φ hon hg hr h=>by
 unfold D92 at h;split at h
 ·rename_i st n g
  obtain ⟨h1,h2⟩:=h;unfold ZX at h1;rw[aI,aI] at h1;match args,hr with
  |[v],⟨rv,_⟩=>
   refine O32 H w [.agg [.sl 4 n g]] [v] φ hon hg ⟨QS rv ⟨fun _ r=>ahq h1.1 r,trivial⟩,trivial⟩ ?_;exact ⟨h1.2.1,h1.2.2,h2⟩
 ·exact h.elim
section
variable{B:Ie}{hs:Sh}{lv:Int}
theorem F9(FN:AV aA (Bq W7) 40 (Xt hs lv B))(stop:Nat->List Nat->Bool):BP aA (C7 Ai W7 (Dw hs lv B) stop):=nT (fun g F h=>by
 unfold Dw at h;split at h
 ·cases h;exact FN
 ·cases h;exact aww
 ·cases h;exact awx
 ·cases h;exact awI
 ·cases h) fun g h=>by
 unfold Dw at h;split at h;all_goals first|(cases h;done) |kernel_rfl
end
section
variable{H0:Mem}{w0:World}{φ:Sh->Prop}{B:Ie}{Q:Nd SG->Prop}{hs:Sh}{lv:Int}{M:Int×List UInt8->Option Value}{c:Int}
theorem YD{o:Option Value}(h:Ai.HY o=aC):Ai.isS o=aC:=by
 cases o with
 |none=>exact absurd h (by decide) |some v=>rfl
theorem aoW(FN:AV aA (Bq W7) 40 (Xt hs lv B))(hg:LY B Q)(nd:Nd SG)(hq:Q nd)(acc:List Ea)(hk:acc.length<=1000):
  ∀r j,j+r=(turns (Gb B) nd).length->
  (∀t,((turns (Gb B) nd).drop j).find? (fun t=>Ai.HY (M (CS B.k0 t.2)))=ak t->Bz aA (C7 Ai W7 (Dw hs lv B) AU) (K0 H0 w0) 72 tdE (LE B M c (t.2.placed:Nat) B.k0 t.2.st (acc++[Em t.1]).length (nth (acc++[Em t.1]))) (Uy B) emp (up φ))->
  (∃t∈(turns (Gb B) nd).drop j,Ai.HY (M (CS B.k0 t.2))=aC)->
  Bz aA (C7 Ai W7 (Dw hs lv B) AU) (K0 H0 w0) 72 tdF (LF B M c (nd.placed:Nat) B.k0 nd.st acc.length (nth acc) (turns (Gb B) nd).length (nth ((turns (Gb B) nd).map (G8 B.k0))) (j:Nat)) (Uy B) emp (up φ)
 |0,j,hj,hnx,⟨t,ht,_⟩=>by
  rw[jT (by omega)] at ht;cases ht
 |r+1,j,hj,hnx,hex=>by
  have hjl:j<(turns (Gb B) nd).length:=by omega
  have hN:(turns (Gb B) nd).length<=124:=P7 (hg.tu nd hq).le nd;obtain ⟨t,ht⟩:∃t,(turns (Gb B) nd)[j]?=ak t:=⟨_,aS hjl⟩;have hqt:Q t.2:=hg.step nd hq _ (dJ.2 ⟨t,bT ht,rfl⟩);have hd:(turns (Gb B) nd).drop j=t::(turns (Gb B) nd).drop (j+1):=by
   rw[iT hjl];congr 1;rw[aS hjl] at ht;exact dH ht
  have htr:nth ((turns (Gb B) nd).map (G8 B.k0)) (Ai.toN (j:Int))=G8 B.k0 t:=P6 _ _ ht;obtain ⟨tr,etr⟩:∃tr,nth ((turns (Gb B) nd).map (G8 B.k0))=tr:=⟨_,rfl⟩;rw[etr] at htr ⊢;refine GK (fn:=Tryz.f72) (tb:=tbF) (by kernel_rfl) (by kernel_rfl) ?_;have w1:Ai.add .i64 (j:Int) (ah 1)=((j+1:Nat):Int):=add1 (by omega);have no {P:Prop} (h:Ai.lt (j:Int) (ah (turns (Gb B) nd).length)=ay):P:=by simp[Aq] at h;omega
  have inb:Ai.inB (j:Int) (turns (Gb B) nd).length=aC:=by simp[BJ];omega
  have hke:ZX 4 (tr (Ai.toN (j:Int))).n (tr (Ai.toN (j:Int))).g=aC:=by rw[htr];exact hg.ke _ hqt
  have hM:M ((tr (Ai.toN (j:Int))).placed,OZ (tr (Ai.toN (j:Int))).n (tr (Ai.toN (j:Int))).g)=M (CS B.k0 t.2):=by rw[htr];rfl
  have rm:Ai.room (Ai.addN acc.length 1) 16=aC:=by rw[EM,decide_eq_true_eq,Du];unfold maxLen;omega
  cases hb:Ai.HY (M (CS B.k0 t.2)) with
  |true=>
   have nx:=hnx t (by rw[hd];exact List.find?_cons_of_pos (p:=fun t:(Int×Bool)×Nd SG=>Ai.HY (M (CS B.k0 t.2))) hb);refine Fh (dD _ _) (F9 FN _) (hold:=BL) (m:=300) (n:=400) (ts:=[⟨72,tdF,LF B M c (nd.placed:Nat) B.k0 nd.st acc.length (nth acc) (turns (Gb B) nd).length tr 0,Uy B⟩,⟨72,tdE,LE B M c (t.2.placed:Nat) B.k0 t.2.st (acc++[Em t.1]).length (nth (acc++[Em t.1])),Uy B⟩]) ?_;refine ab6 Ai W7 B hs lv M c _ _ B.k0 B.k0 nd.st t.2.st _ _ (nth acc) _ _ tr _ 0 (c1:=aC) (c2:=aC) rfl (by rw[hM];exact YD hb) (by rw[hM];exact hb) (fun _=>inb) (fun _=>hke) (fun _ _ _=>rm) (fun _ _ _=>?_) (fun _ _ q=>by cases q) (fun _ q=>by cases q) (fun q=>no q);exact ⟨⟨rfl,rfl,rfl,rfl,rfl,rfl,congrArg JJ.placed htr,congrArg (fun x:JJ=>aG 4 x.n x.g) htr,by rw[bC];rfl,fun i hi=>IL acc (Em t.1) _ (by rw[htr];rfl) i hi,trivial⟩,_,rfl,nx⟩
  |false=>
   have nx:=aoW FN hg nd hq acc hk r (j+1) (by omega) (fun t' h=>hnx t' (by
    rw[hd];exact (List.find?_cons_of_neg (p:=fun t:(Int×Bool)×Nd SG=>Ai.HY (M (CS B.k0 t.2))) (by rw[hb];simp)).trans h)) (by
    obtain ⟨x,hx,hx2⟩:=hex;rw[hd] at hx;rcases List.mem_cons.1 hx with rfl|hx
    ·rw[hb] at hx2;cases hx2
    ·exact ⟨x,hx,hx2⟩)
   rw[etr] at nx;refine Fh (dD _ _) (F9 FN _) (hold:=BL) (m:=300) (n:=400) (ts:=[⟨72,tdF,LF B M c (nd.placed:Nat) B.k0 nd.st acc.length (nth acc) (turns (Gb B) nd).length tr ((j+1:Nat):Int),Uy B⟩,⟨72,tdE,LE B M c 0 0 noT 0 (nth []),Uy B⟩]) ?_;refine ab6 Ai W7 B hs lv M c _ _ B.k0 0 nd.st noT _ _ (nth acc) _ _ tr _ ((j+1:Nat):Int) (c2:=ay) rfl rfl (by rw[hM];exact hb) (fun _=>inb) (fun _=>hke) (fun _ _ _=>rm) (fun _ _ q=>by cases q) (fun _ _ _=>?_) (fun _ _=>?_) (fun q=>no q)
   ·exact ⟨⟨rfl,rfl,rfl,rfl,rfl,w1,rfl,rfl,rfl,rfl,rfl,rfl,fun _ _=>rfl,trivial⟩,_,rfl,nx⟩
   ·exact ⟨⟨rfl,rfl,rfl,rfl,rfl,w1,rfl,rfl,rfl,rfl,rfl,rfl,fun _ _=>rfl,trivial⟩,_,rfl,nx⟩
def ajm(c:Int)(l:List (Int×Bool)):Sh:=.AQ [.agg [.b aC,.sl 2 (l.map Em).length (Aj (nth (l.map Em))),.i .i64 c],.v .nilIface]
def noSh(c:Int):Sh:=.AQ [.agg [.b ay,.sl 2 0 (Aj (nth ([]:List Ea))),.i .i64 c],.v .nilIface]
theorem ahs(hN:B.N<=62)(nd:Nd SG):Ai.eq ((nd.placed:Nat):Int) (Ai.sub .i64 (Ai.bin .shl .i64 (ah 1) (Ai.AZ B.N)) (ah 1))=full (Gb B) nd:=by
 have e:Ai.sub .i64 (Ai.bin .shl .i64 (ah 1) (Ai.AZ B.N)) (ah 1)=((2^B.N - 1:Nat):Int):=aoQ hN;rw[e,AX];unfold full;rw[Bool.eq_iff_iff,beq_iff_eq];show _↔decide (nd.placed=2^(Gb B).n - 1)=aC;rw[decide_eq_true_eq];exact ⟨fun e=>lq e,fun e=>congrArg ah e⟩
theorem aoX(nd:Nd SG):rk (Gb B) nd<=B.N:=by
 unfold rk;have:=List.countP_le_length (p:=fun i=>nd.placed.testBit i) (l:=aZ (Gb B).n);rw[kD] at this;exact this
theorem aoY(FN:AV aA (Bq W7) 40 (Xt hs lv B))(hg:LY B Q){ld:Nd SG->Bool}(hM:∀nd,Ai.HY (M (CS B.k0 nd))=ld nd)
  (hl:∀nd,Q nd->ld nd=aC->full (Gb B) nd=ay->∃t∈turns (Gb B) nd,ld t.2=aC) :
  ∀f (nd:Nd SG) (acc:List (Int×Bool)),Q nd->ld nd=aC->B.N<rk (Gb B) nd+f->acc.length+f<=1000->φ (ajm c (acc++least (Gb B) ld f nd))->
  Bz aA (C7 Ai W7 (Dw hs lv B) AU) (K0 H0 w0) 72 tdE (LE B M c (nd.placed:Nat) B.k0 nd.st (acc.map Em).length (nth (acc.map Em))) (Uy B) emp (up φ)
 |0,nd,acc,hq,hld,hf,hk,hφ=>by
  have:=aoX (B:=B) nd;omega
 |f+1,nd,acc,hq,hld,hf,hk,hφ=>by
  refine GK (fn:=Tryz.f72) (tb:=tbE) (by kernel_rfl) (by kernel_rfl) ?_;have hN:=(hg.tu nd hq).le;have hfu:=ahs hN nd;have h0:Ai.le (ah 0) (Ai.AZ B.N)=aC:=by simp[DJ,AY]
  refine Fh (dD _ _) (F9 FN _) (hold:=BL) (m:=300) (n:=400) (ts:=[⟨72,tdF,LF B M c (nd.placed:Nat) B.k0 nd.st (acc.map Em).length (nth (acc.map Em)) (turns (Gb B) nd).length (nth ((turns (Gb B) nd).map (G8 B.k0))) ((0:Nat):Int),Uy B⟩]) ?_;cases hfl:full (Gb B) nd with
  |true=>
   have e:least (Gb B) ld (f+1) nd=[]:=by rw[least,if_pos hfl]
   rw[e,fA] at hφ;refine ab5 Ai W7 B hs lv M c _ B.k0 nd.st _ (nth (acc.map Em)) _ _ (c0:=ay) (by rw[hfu,hfl];rfl) h0 (fun q=>by cases q) (fun q=>by cases q) (fun _=>?_);exact BX (s':=ajm c acc) ⟨⟨.inl rfl,.inr ⟨rfl,rfl,fun _ _=>rfl⟩,rfl,trivial⟩,rfl,trivial⟩ hφ
  |false=>
   obtain ⟨t,ht,hlt⟩:=hl nd hq hld hfl;have nx:=aoW (φ:=φ) (c:=c) FN hg nd hq (acc.map Em) (by rw[dP];omega) (turns (Gb B) nd).length 0 (by omega) (M:=M) (fun x hx=>by
    rw[ji] at hx;have hx1:=List.mem_of_find?_eq_some hx;have hx2:ld x.2=aC:=by rw[<-hM];exact List.find?_some (p:=fun t:(Int×Bool)×Nd SG=>Ai.HY (M (CS B.k0 t.2))) hx
    have hn:x.2∈next (Gb B) nd:=dJ.2 ⟨x,hx1,rfl⟩;have hr:=abX _ hn;have hx':(turns (Gb B) nd).find? (fun t=>ld t.2)=ak x:=by
     rw[<-hx];congr 1;funext t;exact (hM t.2).symm
    have e:least (Gb B) ld (f+1) nd=x.1::least (Gb B) ld f x.2:=by rw[least,if_neg (by rw[hfl];simp),hx']
    rw[e] at hφ;have:=aoY FN hg hM hl f x.2 (acc++[x.1]) (hg.step nd hq _ hn) hx2 (by omega) (by simp;omega) (by rw[dV];exact hφ);rw[iR] at this;exact this) ⟨t,by rw[ji];exact ht,by rw[hM];exact hlt⟩
   refine ab5 Ai W7 B hs lv M c _ B.k0 nd.st _ (nth (acc.map Em)) _ _ (c0:=aC) (by rw[hfu,hfl];rfl) h0 (fun _=>Xv hg hq rfl) (fun _=>?_) (fun q=>by cases q);exact ⟨⟨rfl,rfl,rfl,by rw[La,Xw];rfl,by rw[La];rfl,rfl,rfl,rfl,rfl,rfl,rfl,rfl,fun _ _=>rfl,trivial⟩,_,rfl,nx⟩
theorem aoZ(FN:AV aA (Bq W7) 40 (Xt hs lv B))(hg:LY B Q)(nd:Nd SG)(hq:Q nd){m:Nat}{od:Nat->Vu}{i:Int}:
  ∀r j (is:Bool),j+r=(turns (Gb B) nd).length->
  Bz aA (C7 Ai W7 (Dw hs lv B) AU) (K0 H0 w0) 71 ZY (LC B m od (Me (CS B.k0 nd) (ak (.bool (is||((turns (Gb B) nd).drop j).any fun t=>Ai.HY (M (CS B.k0 t.2))))) M) c (Ai.sub .i64 i (ah 1))) (O1 B) emp (up φ)->
  Bz aA (C7 Ai W7 (Dw hs lv B) AU) (K0 H0 w0) 71 tdD (LD B m od M c i (nd.placed:Nat) B.k0 nd.st is (turns (Gb B) nd).length (nth ((turns (Gb B) nd).map (G8 B.k0))) (j:Nat)) (O1 B) emp (up φ)
 |0,j,is,hj,nx=>by
  rw[jT (by omega),yN,kR] at nx;refine GK (fn:=sG) (tb:=tbD) (by kernel_rfl) (by kernel_rfl) ?_;have lt {P:Prop} (h:Ai.lt (j:Int) (ah (turns (Gb B) nd).length)=aC):P:=by simp[Aq] at h;omega
  refine Fh (dD _ _) (F9 FN _) (hold:=BL) (m:=300) (n:=400) (ts:=[⟨71,tdD,LD B m od M c i (nd.placed:Nat) B.k0 nd.st is (turns (Gb B) nd).length (nth ((turns (Gb B) nd).map (G8 B.k0))) 0,O1 B⟩,⟨71,ZY,LC B m od (Me (CS B.k0 nd) (ak (.bool is)) M) c (Ai.sub .i64 i (ah 1)),O1 B⟩]) ?_;exact ab4 Ai W7 B hs lv M _ m od c i _ B.k0 nd.st is is _ _ j 0 _ rfl rfl rfl (fun q=>lt q) (fun q=>lt q) (fun _=>hg.ke nd hq) (fun q=>lt q) (fun q=>lt q) (fun q=>lt q)
   (fun _=>⟨⟨rfl,rfl,rfl,rfl,rfl,rfl,fun _ _=>rfl,rfl,rfl,rfl,rfl,rfl,trivial⟩,_,rfl,nx⟩)
 |r+1,j,is,hj,nx=>by
  have hjl:j<(turns (Gb B) nd).length:=by omega
  have hN:(turns (Gb B) nd).length<=124:=P7 (hg.tu nd hq).le nd;obtain ⟨t,ht⟩:∃t,(turns (Gb B) nd)[j]?=ak t:=⟨_,aS hjl⟩;have hqt:Q t.2:=hg.step nd hq _ (dJ.2 ⟨t,bT ht,rfl⟩);have hd:(turns (Gb B) nd).drop j=t::(turns (Gb B) nd).drop (j+1):=by
   rw[iT hjl];congr 1;rw[aS hjl] at ht;exact dH ht
  rw[hd,xI,<-Bool.or_assoc] at nx;have nx:=aoZ FN hg nd hq r (j+1) (is||Ai.HY (M (CS B.k0 t.2))) (by omega) nx;have htr:nth ((turns (Gb B) nd).map (G8 B.k0)) (Ai.toN (j:Int))=G8 B.k0 t:=P6 _ _ ht;obtain ⟨tr,etr⟩:∃tr,nth ((turns (Gb B) nd).map (G8 B.k0))=tr:=⟨_,rfl⟩;rw[etr] at htr nx ⊢;refine GK (fn:=sG) (tb:=tbD) (by kernel_rfl) (by kernel_rfl) ?_;have w1:Ai.add .i64 (j:Int) (ah 1)=((j+1:Nat):Int):=add1 (by omega);have no {P:Prop} (h:Ai.lt (j:Int) (ah (turns (Gb B) nd).length)=ay):P:=by simp[Aq] at h;omega
  have inb:Ai.inB (j:Int) (turns (Gb B) nd).length=aC:=by simp[BJ];omega
  have hke:ZX 4 (tr (Ai.toN (j:Int))).n (tr (Ai.toN (j:Int))).g=aC:=by rw[htr];exact hg.ke _ hqt
  have hM:M ((tr (Ai.toN (j:Int))).placed,OZ (tr (Ai.toN (j:Int))).n (tr (Ai.toN (j:Int))).g)=M (CS B.k0 t.2):=by rw[htr];rfl
  refine Fh (dD _ _) (F9 FN _) (hold:=BL) (m:=300) (n:=400) (ts:=[⟨71,tdD,LD B m od M c i (nd.placed:Nat) B.k0 nd.st (is||Ai.HY (M (CS B.k0 t.2))) (turns (Gb B) nd).length tr ((j+1:Nat):Int),O1 B⟩,⟨71,ZY,LC B m od M c 0,O1 B⟩]) ?_;have fin (b:Bool) (hb:b=(is||Ai.HY (M (CS B.k0 t.2)))):Jo aA (C7 Ai W7 (Dw hs lv B) AU) (K0 H0 w0) [⟨71,tdD,LD B m od M c i (nd.placed:Nat) B.k0 nd.st (is||Ai.HY (M (CS B.k0 t.2))) (turns (Gb B) nd).length tr ((j+1:Nat):Int),O1 B⟩,⟨71,ZY,LC B m od M c 0,O1 B⟩] emp (up φ) (bK 0 [aJ 1 1,bF (fun _=>Cb B.lv B.N B.T B.N B.ms B.k0 B.g0) fun _=>Cb B.lv B.N B.T B.N B.ms B.k0 B.g0,aJ 0 0,aj i i,pW b (is||Ai.HY (M (CS B.k0 t.2))),aO (aG 4 (turns (Gb B) nd).length (Aj tr)) (aG 4 (turns (Gb B) nd).length (Aj tr)),aj (ah (turns (Gb B) nd).length) (ah (turns (Gb B) nd).length),aj (Ai.add .i64 j (ah 1)) ((j+1:Nat):Int),aj (ah 0) (ah 0),aJ m m,aU m (Aj od) (Aj od),jm M M,aj c c,aj (nd.placed:Nat) (nd.placed:Nat),aO (aG 4 B.k0 nd.st) (aG 4 B.k0 nd.st),aJ 1 1,bF (fun _=>Cb B.lv B.N B.T B.N B.ms B.k0 B.g0) fun _=>Cb B.lv B.N B.T B.N B.ms B.k0 B.g0,aJ 0 0]):=
   ⟨⟨rfl,rfl,rfl,rfl,hb,rfl,rfl,w1,rfl,rfl,fun _ _=>rfl,rfl,rfl,rfl,rfl,rfl,rfl,rfl,trivial⟩,_,rfl,nx⟩
  refine ab4 Ai W7 B hs lv M _ m od c i _ B.k0 nd.st is _ _ tr j ((j+1:Nat):Int) _ rfl rfl rfl (fun _=>inb) (fun _ _=>hke) (fun q=>no q) (fun _ q=>?_) (fun _ q q2=>?_) (fun _ q q2=>?_) (fun q=>no q)
  ·exact fin aC (by rw[q];rfl)
  ·exact fin _ (by rw[q,hM];rfl)
  ·refine fin ay ?_
   rw[hM] at q2;rw[q];cases hb:Ai.HY (M (CS B.k0 t.2)) with
   |false=>rfl |true=>rw[YD hb] at q2;cases q2
end
end Go.Proofs
namespace Go.Pl
open Go Go.Sx Go.Proofs Go.Gm Go.Bf
def ndQ(k0:Nat)(nd:Nd SG):Tz:=⟨(nd.placed:Nat),4,k0,nd.st⟩
noncomputable def O4(k0:Nat)(nd:Nd SG):PrQ:=⟨(nd.placed:Nat),OZ k0 nd.st⟩
structure QOK(k0:Nat)(o:List (Nd SG))(i at_ q:Nat)(qr:Nat->Tz):Prop where
 le:i<=o.length
 len:q=at_+(o.length - i)
 row:∀j nd,o[i+j]?=ak nd->qr (at_+j)=ndQ k0 nd
end Go.Pl
namespace Go.Proofs
open Go Go.Sx Go.Pl Go.Gm Go.Bf
section
variable{H0:Mem}{w0:World}{φ:Sh->Prop}{B:Ie}{Q:Nd SG->Prop}{hs:Sh}{lv:Int}{c:Int}
theorem awJ{r:Nat}(h:r<=100000):Ai.sub .i64 (((r+1:Nat):Int) - 1) (ah 1)=(r:Int) - 1:=by
 have e:Ai.sub .i64 (((r+1:Nat):Int) - 1) (ah 1)=aW.wrap (((r+1:Nat):Int) - 1 - 1):=rfl;rw[e,Cj (by omega) (by omega)];omega
theorem ao0(FN:AV aA (Bq W7) 40 (Xt hs lv B))(hg:LY B Q)(o:List (Nd SG))(ho:∀x∈o,Q x)(hlen:o.length<=100000)
  (hl:∀nd,Q nd->Vy (Gb B) (CS B.k0) o nd=aC->full (Gb B) nd=ay->∃t∈turns (Gb B) nd,Vy (Gb B) (CS B.k0) o t.2=aC)
  (hy:Kt (Gb B) (CS B.k0) B.g0 o=aC->φ (ajm c (Ir (Gb B) (CS B.k0) B.g0 o))) (hn:Kt (Gb B) (CS B.k0) B.g0 o=ay->φ (noSh c)) :
  ∀r (M:Int×List UInt8->Option Value),r<=o.length->(∀k,Ai.HY (M k)=Iq (CS B.k0) (next (Gb B)) (full (Gb B)) (o.drop r) k)->
  Bz aA (C7 Ai W7 (Dw hs lv B) AU) (K0 H0 w0) 71 ZY (LC B o.length (nth (o.map (Jq B.k0))) M c ((r:Nat) - 1:Int)) (O1 B) emp (up φ)
 |0,M,hr,hM=>by
  refine GK (fn:=sG) (tb:=tbC) (by kernel_rfl) (by kernel_rfl) ?_;rw[ji] at hM;have ge {P:Prop} (h:Ai.le (ah 0) (((0:Nat):Int) - 1)=aC):P:=by simp[DJ] at h
  have hN:=(hg.tu _ hg.start).le;have hK:M (ah 0,OZ B.k0 B.g0)=M (CS B.k0 ⟨0,B.g0⟩):=rfl;refine Fh (dD _ _) (F9 FN _) (hold:=BL) (m:=300) (n:=400) (ts:=[⟨71,tdD,LD B o.length (nth (o.map (Jq B.k0))) M c (((0:Nat):Int) - 1) 0 0 noT ay 0 (nth []) 0,O1 B⟩,⟨72,tdE,LE B M c 0 B.k0 B.g0 0 (nth []),Uy B⟩]) ?_;refine ab3 Ai W7 B hs lv M _ _ c _ 0 0 noT ay 0 (nth []) (nth []) rfl rfl rfl (fun q=>ge q) (fun q=>ge q) (fun q=>ge q) (fun _=>hg.ke _ hg.start) (fun q=>ge q) (fun _ _ q=>?_) (fun _ _ q=>?_) (fun _ q=>?_)
  ·have hld:Kt (Gb B) (CS B.k0) B.g0 o=aC:=by
    rw[hK,hM] at q;exact q
   have hφ:=hy hld;have e:Ir (Gb B) (CS B.k0) B.g0 o=least (Gb B) (Vy (Gb B) (CS B.k0) o) ((Gb B).n+1) (fD B.g0):=if_pos hld;rw[e] at hφ;have nx:=aoY (H0:=H0) (w0:=w0) (φ:=φ) (c:=c) (M:=M) FN hg (ld:=Vy (Gb B) (CS B.k0) o) (fun nd=>hM _) hl ((Gb B).n+1) (fD B.g0) [] hg.start hld (by have:(Gb B).n=B.N:=rfl;omega) (by have:(Gb B).n=B.N:=rfl;simp;omega) (by rw[jM];exact hφ);exact ⟨⟨rfl,rfl,rfl,rfl,rfl,rfl,rfl,rfl,rfl,trivial⟩,_,rfl,nx⟩
  ·refine BX (s':=noSh c) ⟨⟨.inl rfl,.inl ⟨rfl,rfl⟩,rfl,trivial⟩,rfl,trivial⟩ (hn ?_)
   rw[hK,hM] at q;exact q
  ·refine BX (s':=noSh c) ⟨⟨.inl rfl,.inl ⟨rfl,rfl⟩,rfl,trivial⟩,rfl,trivial⟩ (hn ?_)
   have q2:Ai.HY (M (CS B.k0 ⟨0,B.g0⟩))=ay:=by
    cases hb:Ai.HY (M (CS B.k0 ⟨0,B.g0⟩)) with
    |false=>rfl |true=>rw[hK,YD hb] at q;cases q
   rw[hM] at q2;exact q2
 |r+1,M,hr,hM=>by
  obtain ⟨nd,hnd⟩:∃nd,o[r]?=ak nd:=⟨_,aS (by omega)⟩;have hq:Q nd:=ho nd (bT hnd);have hN:=(hg.tu nd hq).le;have hd:o.drop r=nd::o.drop (r+1):=by
   rw[iT (by omega)];congr 1;rw[aS (by omega)] at hnd;exact dH hnd
  have hi:Ai.toN (((r+1:Nat):Int) - 1)=r:=by rw[CX];omega
  have hod:nth (o.map (Jq B.k0)) (Ai.toN (((r+1:Nat):Int) - 1))=Jq B.k0 nd:=by rw[hi];exact P6 _ _ hnd
  have nx:=ao0 FN hg o ho hlen hl hy hn r (Me (CS B.k0 nd) (ak (.bool (full (Gb B) nd||((turns (Gb B) nd).drop 0).any fun t=>Ai.HY (M (CS B.k0 t.2))))) M) (by omega) (fun k=>by
   have e:(next (Gb B) nd).any (fun t=>Iq (CS B.k0) (next (Gb B)) (full (Gb B)) (o.drop (r+1)) (CS B.k0 t))=((turns (Gb B) nd).drop 0).any fun t=>Ai.HY (M (CS B.k0 t.2)):=by
    unfold next;rw[List.any_map,ji];congr 1;funext t;exact (hM _).symm
   rw[hd,Iq,e];unfold Me;by_cases h:k=CS B.k0 nd
   ·rw[if_pos h,if_pos h.symm];rfl
   ·rw[if_neg h,if_neg (fun e=>h e.symm)]
    exact hM k)
  refine GK (fn:=sG) (tb:=tbC) (by kernel_rfl) (by kernel_rfl) ?_;obtain ⟨od,awK⟩:∃od,nth (o.map (Jq B.k0))=od:=⟨_,rfl⟩;rw[awK] at hod nx ⊢;have lt {P:Prop} (h:Ai.le (ah 0) (((r+1:Nat):Int) - 1)=ay):P:=by rw[DJ,decide_eq_false_iff_not] at h;exact (h (by show (0:Int)<=_;omega)).elim
  have hD:=aoZ (H0:=H0) (w0:=w0) (φ:=φ) (c:=c) (M:=M) (m:=o.length) (od:=od) (i:=((r+1:Nat):Int) - 1) FN hg nd hq (turns (Gb B) nd).length 0 (full (Gb B) nd) (by omega) (by rw[awJ (by omega)];exact nx);refine Fh (dD _ _) (F9 FN _) (hold:=BL) (m:=300) (n:=400) (ts:=[⟨71,tdD,LD B o.length od M c (((r+1:Nat):Int) - 1) (nd.placed:Nat) B.k0 nd.st (full (Gb B) nd) (turns (Gb B) nd).length (nth ((turns (Gb B) nd).map (G8 B.k0))) ((0:Nat):Int),O1 B⟩,⟨72,tdE,LE B M c 0 B.k0 B.g0 0 (nth []),Uy B⟩]) ?_;refine ab3 Ai W7 B hs lv M _ od c _ _ _ _ _ _ _ (nth []) rfl rfl rfl (fun _=>by rw[BJ,decide_eq_true_eq];omega) (fun _=>by simp[DJ,AY]) (fun _=>by rw[hod];exact Xv hg hq rfl) (fun q=>lt q) (fun _=>?_) (fun q=>lt q) (fun q=>lt q) (fun q=>lt q);exact ⟨⟨rfl,rfl,rfl,rfl,by rw[hod];exact ahs hN nd,by rw[hod];show aG 4 (OY B.lv B.N (Aj B.T) (Aj B.ms) (nd.placed:Nat) B.k0 nd.st) (Aj (ZW B.lv B.N (Aj B.T) (Aj B.ms) (nd.placed:Nat) B.k0 nd.st))=_;rw[La,Xw],by rw[hod];show ((OY B.lv B.N (Aj B.T) (Aj B.ms) (nd.placed:Nat) B.k0 nd.st:Nat):Int)=_;rw[La];rfl,rfl,rfl,rfl,fun _ _=>rfl,rfl,rfl,by rw[hod];rfl,by rw[hod];rfl,rfl,rfl,rfl,trivial⟩,_,rfl,hD⟩
def afo:Sh:=.AQ [.agg [.b ay,.sl 2 0 (fun _=>[]),.i .i64 0],.er 0 329]
theorem getM{o:List (Nd SG)}{k:Int×List UInt8}{k0:Nat}{v:Value}{nd:Nd SG}{M:Int×List UInt8->Option Value}(hM:∀k,Ai.isS (M k)=J3 (CS k0) o k):
  ∀k,Ai.isS (Me (CS k0 nd) (ak v) M k)=J3 (CS k0) (o++[nd]) k:=fun k=>by
 unfold Me;by_cases h:k=CS k0 nd
 ·rw[if_pos h]
  have:J3 (CS k0) (o++[nd]) k=aC:=J4.2 ⟨nd,by simp,h.symm⟩;rw[this];rfl
 ·rw[if_neg h,hM k]
  unfold J3;rw[List.any_append];have:[nd].any (fun n=>decide (CS k0 n=k))=ay:=by
   simp only[xI,yN,kR];exact decide_eq_false fun e=>h e.symm
  rw[this,kR]
theorem ao1{k0:Nat}{o:List (Nd SG)}{i at_ q:Nat}{qr:Nat->Tz}{nd:Nd SG}(h:QOK k0 o i at_ q qr):QOK k0 (o++[nd]) i at_ (q+1) (fun j=>if j<q then qr j else ndQ k0 nd):=by
 obtain ⟨h1,h2,h3⟩:=h;refine ⟨by rw[bC];omega,by rw[bC];simp;omega,fun j x hx=>?_⟩;by_cases hj:i+j<o.length
 ·rw[dN hj] at hx
  show (if at_+j<q then qr (at_+j) else ndQ k0 nd)=ndQ k0 x;rw[if_pos (by omega)];exact h3 j x hx
 ·rw[List.getElem?_append_right (by omega)] at hx
  have e:i+j - o.length=0:=by
   have:=(aV.1 hx).1;simp at this;omega
  rw[e] at hx;cases hx;show (if at_+j<q then qr (at_+j) else ndQ k0 nd)=ndQ k0 nd;rw[if_neg (by omega)]
theorem ao2(FN:AV aA (Bq W7) 40 (Xt hs lv B))(hg:LY B Q)(nd:Nd SG)(hq:Q nd){m:Nat}(hm:m<=65536){i:Nat}
  {P:List (Nd SG)->Prop} (hA:∀(o':List (Nd SG)) (M:Int×List UInt8->Option Value) (at_ q:Nat) (qr:Nat->Tz),P o'->QOK B.k0 o' i at_ q qr->q<=100000+o'.length->o'.length<=m->(∀k,Ai.isS (M k)=J3 (CS B.k0) o' k)->
   Bz aA (C7 Ai W7 (Dw hs lv B) AU) (K0 H0 w0) 39 tdA (LA B (m:Nat) M o'.length (nth (o'.map (O4 B.k0))) (at_:Nat) q qr o'.length (nth (o'.map (Jq B.k0)))) [] emp (up φ)) :
  ∀r j (o:List (Nd SG)) (M:Int×List UInt8->Option Value) (at_ q:Nat) (qr:Nat->Tz),j+r=(turns (Gb B) nd).length->QOK B.k0 o i at_ q qr->q<=100000+o.length->o.length<=m->(∀k,Ai.isS (M k)=J3 (CS B.k0) o k)->
   (∀o',FM (CS B.k0) m o (((turns (Gb B) nd).drop j).map (·.2))=ak o'->P o')->(FM (CS B.k0) m o (((turns (Gb B) nd).drop j).map (·.2))=aK->φ afo)->
   Bz aA (C7 Ai W7 (Dw hs lv B) AU) (K0 H0 w0) 39 tdB (LB B (m:Nat) M o.length (nth (o.map (O4 B.k0))) (at_:Nat) q qr o.length (nth (o.map (Jq B.k0))) (turns (Gb B) nd).length (nth ((turns (Gb B) nd).map (G8 B.k0))) (j:Nat)) [] emp (up φ)
 |0,j,o,M,at_,q,qr,hj,hQ,hq2,hlo,hM,hP,_=>by
  have hP:=hP o (by rw[jT (by omega)];rfl);have nx:=hA o M at_ q qr hP hQ hq2 hlo hM;refine GK (fn:=uN) (tb:=tbB) (by kernel_rfl) (by kernel_rfl) ?_;have lt {P:Prop} (h:Ai.lt (j:Int) (ah (turns (Gb B) nd).length)=aC):P:=by simp[Aq] at h;omega
  refine Fh (dD _ _) (F9 FN _) (hold:=BL) (m:=300) (n:=400) (ts:=[⟨39,tdB,LB B (m:Nat) M 0 (nth []) (at_:Nat) 0 (fun _=>default) 0 (nth []) (turns (Gb B) nd).length (nth ((turns (Gb B) nd).map (G8 B.k0))) 0,[]⟩,⟨39,tdA,LA B (m:Nat) M o.length (nth (o.map (O4 B.k0))) (at_:Nat) q qr o.length (nth (o.map (Jq B.k0))),[]⟩]) ?_;exact QU Ai W7 B hs lv _ M M _ 0 _ (nth []) _ q 0 qr _ _ 0 _ (nth []) _ _ j 0 rfl rfl rfl (fun q=>lt q) (fun q=>lt q) (fun q=>lt q) (fun q=>lt q) (fun q=>lt q) (fun q=>lt q) (fun q=>lt q) (fun q=>lt q)
   (fun _=>⟨⟨rfl,rfl,rfl,rfl,rfl,rfl,rfl,rfl,rfl,fun _ _=>rfl,rfl,fun _ _=>rfl,rfl,fun _ _=>rfl,trivial⟩,_,rfl,nx⟩)
 |r+1,j,o,M,at_,q,qr,hj,hQ,hq2,hlo,hM,hP,akS=>by
  have hjl:j<(turns (Gb B) nd).length:=by omega
  have hN:(turns (Gb B) nd).length<=124:=P7 (hg.tu nd hq).le nd;obtain ⟨t,ht⟩:∃t,(turns (Gb B) nd)[j]?=ak t:=⟨_,aS hjl⟩;have hqt:Q t.2:=hg.step nd hq _ (dJ.2 ⟨t,bT ht,rfl⟩);have hd:(turns (Gb B) nd).drop j=t::(turns (Gb B) nd).drop (j+1):=by
   rw[iT hjl];congr 1;rw[aS hjl] at ht;exact dH ht
  rw[hd,jr] at hP akS;have ih:=fun o' M' q' Xu (h1:Ic (CS B.k0) m o t.2=ak o')=>ao2 FN hg nd hq hm hA r (j+1) o' M' at_ q' Xu (by omega);refine GK (fn:=uN) (tb:=tbB) (by kernel_rfl) (by kernel_rfl) ?_;have htr:nth ((turns (Gb B) nd).map (G8 B.k0)) (Ai.toN (j:Int))=G8 B.k0 t:=P6 _ _ ht;obtain ⟨tr,etr⟩:∃tr,nth ((turns (Gb B) nd).map (G8 B.k0))=tr:=⟨_,rfl⟩;rw[etr] at htr ih ⊢;have w1:Ai.add .i64 (j:Int) (ah 1)=((j+1:Nat):Int):=add1 (by omega);have no {P:Prop} (h:Ai.lt (j:Int) (ah (turns (Gb B) nd).length)=ay):P:=by simp[Aq] at h;omega
  have inb:Ai.inB (j:Int) (turns (Gb B) nd).length=aC:=by simp[BJ];omega
  have hke:ZX 4 (tr (Ai.toN (j:Int))).n (tr (Ai.toN (j:Int))).g=aC:=by rw[htr];exact hg.ke _ hqt
  have hMt:M ((tr (Ai.toN (j:Int))).placed,OZ (tr (Ai.toN (j:Int))).n (tr (Ai.toN (j:Int))).g)=M (CS B.k0 t.2):=by rw[htr];rfl
  have rmo:Ai.room (Ai.addN o.length 1) 32=aC:=by rw[EM,decide_eq_true_eq,Du];unfold maxLen;omega
  have rmc:Ai.room (Ai.addN o.length 1) 24=aC:=by rw[EM,decide_eq_true_eq,Du];unfold maxLen;omega
  have rmq:Ai.room (Ai.addN q 1) 32=aC:=by rw[EM,decide_eq_true_eq,Du];unfold maxLen;omega
  cases hb:J3 (CS B.k0) o (CS B.k0 t.2) with
  |true=>
   have hpb:Ic (CS B.k0) m o t.2=ak o:=if_pos hb;have nx:=ih o M q qr hpb hQ hq2 hlo hM (fun o' h=>hP o' (by rw[FM,hpb];exact h)) (fun h=>akS (by rw[FM,hpb];exact h));refine Fh (dD _ _) (F9 FN _) (hold:=BL) (m:=300) (n:=400) (ts:=[⟨39,tdB,LB B (m:Nat) M o.length (nth (o.map (O4 B.k0))) (at_:Nat) q qr o.length (nth (o.map (Jq B.k0))) (turns (Gb B) nd).length tr ((j+1:Nat):Int),[]⟩,⟨39,tdA,LA B (m:Nat) M o.length (nth (o.map (O4 B.k0))) (at_:Nat) q qr o.length (nth (o.map (Jq B.k0))),[]⟩]) ?_;exact QU Ai W7 B hs lv _ M M _ _ _ (nth (o.map (O4 B.k0))) _ q q qr qr _ _ _ (nth (o.map (Jq B.k0))) _ tr j ((j+1:Nat):Int) (c1:=aC) rfl (by rw[hMt,hM];exact hb) rfl (fun _=>inb) (fun _=>hke) (fun _ q=>by cases q) (fun _ q=>by cases q) (fun _ q=>by cases q)
    (fun _ _=>⟨⟨rfl,rfl,rfl,rfl,rfl,rfl,w1,rfl,rfl,rfl,rfl,rfl,fun _ _=>rfl,rfl,fun _ _=>rfl,rfl,fun _ _=>rfl,trivial⟩,_,rfl,nx⟩) (fun _ q=>by cases q) (fun _ q=>by cases q) (fun q=>no q)
  |false=>
   have hc:Ai.eq (Ai.AZ o.length) ((m:Nat):Int)=decide (o.length=m):=by
    rw[AX,AY];by_cases h:o.length=m
    ·rw[decide_eq_true h,h];simp
    ·rw[decide_eq_false h,beq_eq_false_iff_ne]
     exact fun e=>h (lq e)
   by_cases hml:o.length=m
   ·refine Fh (dD _ _) (F9 FN _) (hold:=BL) (m:=300) (n:=400) (ts:=[⟨39,tdB,LB B (m:Nat) M o.length (nth (o.map (O4 B.k0))) (at_:Nat) q qr o.length (nth (o.map (Jq B.k0))) (turns (Gb B) nd).length tr ((j+1:Nat):Int),[]⟩,⟨39,tdA,LA B (m:Nat) M o.length (nth (o.map (O4 B.k0))) (at_:Nat) q qr o.length (nth (o.map (Jq B.k0))),[]⟩]) ?_
    exact QU Ai W7 B hs lv _ M M _ _ _ (nth (o.map (O4 B.k0))) _ q q qr qr _ _ _ (nth (o.map (Jq B.k0))) _ tr j ((j+1:Nat):Int) (c1:=ay) (c2:=aC) rfl (by rw[hMt,hM];exact hb) (by rw[hc];exact decide_eq_true hml) (fun _=>inb) (fun _=>hke) (fun _ _ q=>by cases q) (fun _ _ q=>by cases q) (fun _ _ q=>by cases q)
     (fun _ q=>by cases q) (fun _ _ _=>BX (s':=afo) ⟨⟨.inl rfl,.inl ⟨rfl,rfl⟩,rfl,trivial⟩,rfl,trivial⟩ (akS (by rw[FM];unfold Ic;rw[if_neg (by rw[hb];simp),if_pos hml]))) (fun _ _ q=>by cases q) (fun q=>no q)
   ·have hpb:Ic (CS B.k0) m o t.2=ak (o++[t.2]):=by
     unfold Ic;rw[if_neg (by rw[hb];simp),if_neg hml]
    have nx:=ih (o++[t.2]) (Me (CS B.k0 t.2) (ak (.int .i64 (Ai.AZ o.length))) M) (q+1) (fun j=>if j<q then qr j else ndQ B.k0 t.2) hpb (ao1 hQ) (by rw[bC];simp;omega) (by rw[bC];simp;omega) (getM (k:=CS B.k0 t.2) hM) (fun o' h=>hP o' (by rw[FM,hpb];exact h)) (fun h=>akS (by rw[FM,hpb];exact h));refine Fh (dD _ _) (F9 FN _) (hold:=BL) (m:=300) (n:=400) (ts:=[⟨39,tdB,LB B (m:Nat) (Me (CS B.k0 t.2) (ak (.int .i64 (Ai.AZ o.length))) M) (o++[t.2]).length (nth ((o++[t.2]).map (O4 B.k0))) (at_:Nat) (q+1) (fun j=>if j<q then qr j else ndQ B.k0 t.2) (o++[t.2]).length (nth ((o++[t.2]).map (Jq B.k0))) (turns (Gb B) nd).length tr ((j+1:Nat):Int),[]⟩,⟨39,tdA,LA B (m:Nat) M o.length (nth (o.map (O4 B.k0))) (at_:Nat) q qr o.length (nth (o.map (Jq B.k0))),[]⟩]) ?_;refine QU Ai W7 B hs lv _ M _ _ _ _ _ _ q _ qr _ _ _ (nth (o.map (Jq B.k0))) _ _ tr j ((j+1:Nat):Int) (c1:=ay) (c2:=ay) rfl (by rw[hMt,hM];exact hb) (by rw[hc];exact decide_eq_false hml) (fun _=>inb) (fun _=>hke) (fun _ _ _=>rmc) (fun _ _ _=>rmq) (fun _ _ _=>rmo)
     (fun _ q=>by cases q) (fun _ _ q=>by cases q) (fun _ _ _=>?_) (fun q=>no q)
    have asK:(o++[t.2]).length=Ai.addN o.length 1:=by rw[bC];rfl
    refine ⟨⟨rfl,rfl,rfl,rfl,rfl,rfl,w1,rfl,?_,rfl,rfl,asK.symm,fun i hi=>?_,rfl,fun i hi=>?_,asK.symm,fun i hi=>?_,trivial⟩,_,rfl,nx⟩
    ·show Me ((tr (Ai.toN (j:Int))).placed,OZ (tr (Ai.toN (j:Int))).n (tr (Ai.toN (j:Int))).g) _ M=_
     rw[htr];rfl
    ·have:=IL (o.map (O4 B.k0)) (O4 B.k0 t.2) [aY .i64 (tr (Ai.toN (j:Int))).placed,dB (OZ (tr (Ai.toN (j:Int))).n (tr (Ai.toN (j:Int))).g)] (by rw[htr];rfl) i (by rw[dP];exact hi)
     rw[dP] at this;rw[iR];exact this
    ·rw[Ec]
     show _=Row.put (if i<q then qr i else ndQ B.k0 t.2);split
     ·rfl
     ·have:i - q=0:=by have:i<q+1:=hi;omega
      rw[this,htr];rfl
    ·have:=IL (o.map (Jq B.k0)) (Jq B.k0 t.2) [aY .i64 (tr (Ai.toN (j:Int))).placed,aG 4 (tr (Ai.toN (j:Int))).n (tr (Ai.toN (j:Int))).g] (by rw[htr];rfl) i (by rw[dP];exact hi)
     rw[dP] at this;rw[iR];exact this
theorem loopA(FN:AV aA (Bq W7) 40 (Xt hs lv B))(hg:LY B Q){m:Nat}(hm:m<=65536)
  (hC:∀o:List (Nd SG),Dv (Gb B) (CS B.k0) B.g0 m=ak o->Bz aA (C7 Ai W7 (Dw hs lv B) AU) (K0 H0 w0) 71 ZY (LC B o.length (nth (o.map (Jq B.k0))) (fun _=>aK) (o.length:Nat) (Ai.sub .i64 (Ai.AZ o.length) (ah 1))) (O1 B) emp (up φ)) :
  ∀f i (o:List (Nd SG)) (M:Int×List UInt8->Option Value) (at_ q:Nat) (qr:Nat->Tz),m<i+f->(∀x∈o,Q x)->QOK B.k0 o i at_ q qr->q<=100000+o.length->o.length<=m->(∀k,Ai.isS (M k)=J3 (CS B.k0) o k)->
   (∀r,LW (CS B.k0) (next (Gb B)) m f o i=ak r->Dv (Gb B) (CS B.k0) B.g0 m=ak r)->(LW (CS B.k0) (next (Gb B)) m f o i=aK->φ afo)->
   Bz aA (C7 Ai W7 (Dw hs lv B) AU) (K0 H0 w0) 39 tdA (LA B (m:Nat) M o.length (nth (o.map (O4 B.k0))) (at_:Nat) q qr o.length (nth (o.map (Jq B.k0)))) [] emp (up φ)
 |f,i,o,M,at_,q,qr,hf,ho,hQ,hq2,hlo,hM,hr,hr0=>by
  refine GK (fn:=uN) (tb:=tbA) (by kernel_rfl) (by kernel_rfl) ?_;have hil:=hQ.le;have hql:=hQ.len;by_cases hi:i=o.length
  ·
   have hb:LW (CS B.k0) (next (Gb B)) m f o i=ak o:=by
    cases f with
    |zero=>rfl |succ f=>
     rw[LW,List.getElem?_eq_none (by omega)]
   have hp:=hr o hb;have nx:=hC o hp;have hat:Ai.eq (at_:Int) (Ai.AZ q)=aC:=by
    have:at_=q:=by omega
    rw[this,AX,AY];simp
   refine Fh (dD _ _) (F9 FN _) (hold:=BL) (m:=300) (n:=400) (ts:=[⟨39,tdB,LB B (m:Nat) M o.length (nth (o.map (O4 B.k0))) 0 0 (fun _=>default) o.length (nth (o.map (Jq B.k0))) 0 (nth []) 0,[]⟩,⟨71,ZY,LC B o.length (nth (o.map (Jq B.k0))) (fun _=>aK) (o.length:Nat) (Ai.sub .i64 (Ai.AZ o.length) (ah 1)),O1 B⟩]) ?_;exact VA Ai W7 B hs lv _ M _ (nth (o.map (O4 B.k0))) _ q qr _ (nth (o.map (Jq B.k0))) 0 0 (fun _=>default) 0 (nth []) _ _ _ (c0:=aC) hat rfl rfl (fun q=>by cases q) (fun q=>by cases q) (fun q=>by cases q)
    (fun _=>⟨⟨rfl,rfl,rfl,rfl,rfl,rfl,fun _ _=>rfl,rfl,rfl,rfl,rfl,rfl,trivial⟩,_,rfl,nx⟩) (fun q=>by cases q) (fun q=>by cases q) (fun q=>by cases q) (fun q=>by cases q)
  ·obtain ⟨nd,hnd⟩:∃nd,o[i]?=ak nd:=⟨_,aS (by omega)⟩
   have hq:Q nd:=ho nd (bT hnd);have hrow:=hQ.row 0 nd hnd;rw[jC] at hrow;have hqr:qr (Ai.toN (at_:Int))=ndQ B.k0 nd:=hrow;cases f with
   |zero=>omega |succ f=>
    rw[LW,hnd] at hr hr0;have hN:=(hg.tu nd hq).le;have inb:Ai.inB (at_:Int) q=aC:=by rw[BJ,decide_eq_true_eq];omega
    have ne:Ai.eq (at_:Int) (Ai.AZ q)=ay:=by
     rw[AX,AY,beq_eq_false_iff_ne];intro e;have:=lq e;omega
    have w1:Ai.add .i64 (at_:Int) (ah 1)=((at_+1:Nat):Int):=by
     show aW.wrap ((at_:Int)+1)=_;rw[Cj (by omega) (by omega)];rfl
    have htu:tuB B.lv B.N (Aj B.T) B.N (Aj B.ms) (qr (Ai.toN (at_:Int))).placed (qr (Ai.toN (at_:Int))).st (qr (Ai.toN (at_:Int))).n (qr (Ai.toN (at_:Int))).g=aC:=by
     rw[hqr];exact Xv hg hq rfl
    have e1:aG 4 (OY B.lv B.N (Aj B.T) (Aj B.ms) (qr (Ai.toN (at_:Int))).placed (qr (Ai.toN (at_:Int))).n (qr (Ai.toN (at_:Int))).g) (Aj (ZW B.lv B.N (Aj B.T) (Aj B.ms) (qr (Ai.toN (at_:Int))).placed (qr (Ai.toN (at_:Int))).n (qr (Ai.toN (at_:Int))).g))=aG 4 (turns (Gb B) nd).length (Aj (nth ((turns (Gb B) nd).map (G8 B.k0)))):=by
     rw[hqr];show aG 4 (OY B.lv B.N (Aj B.T) (Aj B.ms) (nd.placed:Nat) B.k0 nd.st) (Aj (ZW B.lv B.N (Aj B.T) (Aj B.ms) (nd.placed:Nat) B.k0 nd.st))=_;rw[La,Xw]
    have e2:Ai.AZ (OY B.lv B.N (Aj B.T) (Aj B.ms) (qr (Ai.toN (at_:Int))).placed (qr (Ai.toN (at_:Int))).n (qr (Ai.toN (at_:Int))).g)=ah (turns (Gb B) nd).length:=by
     rw[hqr];show Ai.AZ (OY B.lv B.N (Aj B.T) (Aj B.ms) (nd.placed:Nat) B.k0 nd.st)=_;rw[La];rfl
    have hLB:=fun (at' q':Nat) (Xu:Nat->Tz) (h:QOK B.k0 o (i+1) at' q' Xu) (h2:q'<=100000+o.length)=>
     ao2 (H0:=H0) (w0:=w0) (φ:=φ) FN hg nd hq hm (i:=i+1) (P:=fun o'=>(∀x∈o',Q x)/\(∀r,LW (CS B.k0) (next (Gb B)) m f o' (i+1)=ak r->Dv (Gb B) (CS B.k0) B.g0 m=ak r)/\(LW (CS B.k0) (next (Gb B)) m f o' (i+1)=aK->φ afo))
      (fun o' M' awM q'' awN hP hQ' hq' awO hM'=>loopA FN hg hm hC f (i+1) o' M' awM q'' awN (by omega) hP.1 hQ' hq' awO hM' hP.2.1 hP.2.2)
      (turns (Gb B) nd).length 0 o M at' q' Xu (by omega) h h2 hlo hM (fun o' h=>by
       rw[ji] at h;have h:FM (CS B.k0) m o (next (Gb B) nd)=ak o':=h;refine ⟨Uh h ho (hg.step nd hq),fun r hb=>hr r ?_,fun hb=>hr0 ?_⟩
       ·simp only[h]
        exact hb
       ·simp only[h]
        exact hb) (fun h=>hr0 (by
       rw[ji] at h;have h:FM (CS B.k0) m o (next (Gb B) nd)=aK:=h;simp only[h]))
    by_cases hlast:at_+1=q
    ·have hc1:Ai.eq (Ai.add .i64 (at_:Int) (ah 1)) (Ai.AZ q)=aC:=by rw[w1,hlast,AX,AY];simp
     have nx:=hLB 0 0 (fun _=>default) ⟨by omega,by omega,fun j x hx=>by have:=(aV.1 hx).1;omega⟩ (by omega);refine Fh (dD _ _) (F9 FN _) (hold:=BL) (m:=300) (n:=400) (ts:=[⟨39,tdB,LB B (m:Nat) M o.length (nth (o.map (O4 B.k0))) ((0:Nat):Int) 0 (fun _=>default) o.length (nth (o.map (Jq B.k0))) (turns (Gb B) nd).length (nth ((turns (Gb B) nd).map (G8 B.k0))) ((0:Nat):Int),[]⟩,⟨71,ZY,LC B o.length (nth (o.map (Jq B.k0))) (fun _=>aK) (o.length:Nat) 0,O1 B⟩]) ?_;exact VA Ai W7 B hs lv _ M _ (nth (o.map (O4 B.k0))) _ q qr _ (nth (o.map (Jq B.k0))) _ 0 (fun _=>default) _ _ _ _ _ (c0:=ay) (c1:=aC) ne hc1 rfl (fun _=>inb) (fun _ _ _=>htu) (fun _ q=>by cases q)
      (fun q=>by cases q) (fun _ _ q=>by cases q) (fun _ _ _=>⟨⟨rfl,rfl,rfl,rfl,e1,e2,rfl,rfl,rfl,rfl,rfl,rfl,fun _ _=>rfl,rfl,rfl,fun _ _=>rfl,trivial⟩,_,rfl,nx⟩) (fun _ q=>by cases q) (fun _ q=>by cases q)
    ·have hc1:Ai.eq (Ai.add .i64 (at_:Int) (ah 1)) (Ai.AZ q)=ay:=by
      rw[w1,AX,AY,beq_eq_false_iff_ne];intro e;exact hlast (lq e)
     have nx:=hLB (at_+1) q (fun j=>if j=at_ then ⟨0,0,0,fun _=>[]⟩ else qr j) ⟨by omega,by omega,fun j x hx=>by
      show (if at_+1+j=at_ then _ else qr (at_+1+j))=_;rw[if_neg (by omega)];have:=hQ.row (j+1) x (by rw[show i+(j+1)=i+1+j by omega];exact hx);rw[show at_+1+j=at_+(j+1) by omega];exact this⟩ hq2
     refine Fh (dD _ _) (F9 FN _) (hold:=BL) (m:=300) (n:=400) (ts:=[⟨39,tdB,LB B (m:Nat) M o.length (nth (o.map (O4 B.k0))) ((at_+1:Nat):Int) q (fun j=>if j=at_ then ⟨0,0,0,fun _=>[]⟩ else qr j) o.length (nth (o.map (Jq B.k0))) (turns (Gb B) nd).length (nth ((turns (Gb B) nd).map (G8 B.k0))) ((0:Nat):Int),[]⟩,⟨71,ZY,LC B o.length (nth (o.map (Jq B.k0))) (fun _=>aK) (o.length:Nat) 0,O1 B⟩]) ?_;refine VA Ai W7 B hs lv _ M _ (nth (o.map (O4 B.k0))) _ q qr _ (nth (o.map (Jq B.k0))) _ q _ _ _ _ _ _ (c0:=ay) (c1:=ay) ne hc1 rfl (fun _=>inb) (fun _ q=>by cases q) (fun _ _ _=>htu)
      (fun q=>by cases q) (fun _ q=>by cases q) (fun _ q=>by cases q) (fun _ _ q=>by cases q) (fun _ _ _=>⟨⟨rfl,rfl,rfl,rfl,e1,e2,rfl,rfl,rfl,rfl,w1,rfl,fun _ _=>rfl,rfl,fun j hj=>?_,rfl,fun _ _=>rfl,trivial⟩,_,rfl,nx⟩)
     show (if j=at_ then (Aj qr j).take 0++[aY .i64 (ah 0),aG 0 0 fun _=>[]]++(Aj qr j).drop (0+2) else Aj qr j)=Row.put (if j=at_ then (⟨0,0,0,fun _=>[]⟩:Tz) else qr j);split
     ·rfl
     ·rfl
end
end Go.Proofs
namespace Go.Pl
open Go Go.Sx Go.Proofs
structure TA where
 okb:Bool
 Ig:Bool
 pos:Int
 e:Nat
 n:Nat
 T:Nat->Ee
noncomputable def asL(s h:Sh):Bool:=@decide (s=h) (bG _)
def VB(st lv:Int):Bool:=if lv=1\/lv=2 then st==3||st==2 else lv==3
def VD(en bg:Int):Bool:=decide (0<=en)&&decide (en<bg)
def EO(lv:Int)(n:Nat)(T:Nat->Ee):List Ee:=((aZ n).map T).filter fun t=>VB t.st lv
def JE(lv bg:Int):Nat->List Ee->Nat->Nat
 |_,[],m=>m |i,a::l,m=>JE lv bg (i+1) l (if lv≠1/\VD a.en bg=aC then m|||1<<<i else m)
def YE(lv:Int)(l:List Ee)(k:Nat):Int:=(JE lv (nth l k).bg 0 l 0:Nat)
noncomputable def mkP(lv:Int)(n:Nat)(T:Nat->List Sh):Bool:=okB Ee n T&&(decide (1<=lv)&&(decide (lv<=3)&&decide (n<=62)))
def mkN(lv:Int)(n:Nat)(T:Nat->List Sh):Nat:=(EO lv n (Am T)).length
def mkR(lv:Int)(n:Nat)(T:Nat->List Sh):Nat->Int:=YE lv (EO lv n (Am T))
def nwB(n:Nat)(g:Nat->List Sh):Bool:=okB Oj n g&&(QH n (Am g)&&(!S9 n&&NQ n (Am g)))
def FD(g:Nat->List Sh):Nat->List Sh:=CP (newT (Am g))
end Go.Pl
namespace Go.Proofs
open Go Go.Sx Go.Pl
noncomputable def D20(hs:Sh)(B:TA):List Sh->Tree Sh
 |[s]=>.need (asL s hs) (.node B.okb (.leaf (.AQ [.sl 7 B.n (Aj B.T),.v .nilIface]))
   (.node B.Ig (.leaf (.AQ [.sl 0 0 (fun _=>[]),.C9 109 (.pt [.i .i64 B.pos,.er B.e 329])])) (.leaf (.AQ [.sl 0 0 (fun _=>[]),.er B.e 329]))))
 |_=>.fail
noncomputable def D73:List Sh->Tree Sh
 |[.agg l,t]=>match Row.get (α:=Ee) l,BF t with
  |some x,ak lv=>.leaf (.b (VB x.st lv)) |_,_=>.fail
 |_=>.fail
noncomputable def D94:List Sh->Tree Sh
 |[.agg l,.agg r]=>match Row.get (α:=Ee) l,Row.get (α:=Ee) r with
  |some x,ak y=>.leaf (.b (VD x.en y.bg)) |_,_=>.fail
 |_=>.fail
noncomputable def D74:List Sh->Tree Sh
 |[s,t]=>match D9 7 s,BF t with
  |some (n,T),ak lv=>.need (mkP lv n T) (.leaf (.AQ [.sl 1 (mkN lv n T) (Aj (mkR lv n T)),.v .nilIface])) |_,_=>.fail
 |_=>.fail
noncomputable def D75:List Sh->Tree Sh
 |[s]=>match D9 2 s with
  |some (n,g)=>.need (nwB n g) (.leaf (.AQ [.agg [.sl 4 n (FD g)],.v .nilIface])) |none=>.fail
 |_=>.fail
noncomputable def QV(hs:Sh)(B:TA):Nat->Option (List Sh->Tree Sh)
 |20=>ak (D20 hs B) |73=>ak D73 |74=>ak D74 |75=>ak D75 |_=>aK
noncomputable def IQ:Nat->Option (List Sh->Tree Sh)
 |73=>ak D73 |94=>ak D94 |_=>aK
def Zx:List It:=[bD [0,1,0,1,1,1,1,1],dw 0,bD [1,1,1,1,1,1]]
def ao3:List It:=bD [0,0,1,0,1,1,1,1,1]::Zx
def Zy(o m:Nat)(og mg:Nat->List Sh)(lv:Int)(n:Nat)(T:Nat->Ee)(c:Nat)(cr:Nat->Ee)(i:Int):Core:=
 {tm:=G6 71 [(1,.sym .i64 lv),(2,.ptr 0 0),(6,.sh (.sl 7 n (Aj T))),(8,.ptr 1 0),(26,.sh (.sl 7 n (Aj T))),(27,.sym .i64 (n:Int)),(28,.sym .i64 i)],hp:=[(0,.box [.sh (.sl 2 o og),.sh (.sl 8 m mg)] 25),(1,.box [.sym .i64 lv,.gs 2,.A8,.A8] 102),(2,.own 115 7 c (Aj cr))],nx:=3,lim:=L0,tc:=[]}
def Zz:List It:=[bD [0,1,0,1,1,1],dw 0,bD [1,1,1,1]]
def ao4:List It:=bD [0,0,1,0,1,1,1]::Zz
def ZA(lv:Int)(n:Nat)(T:Nat->Ee)(c:Nat)(cr:Nat->Ee)(i:Int):Core:=
 {tm:=G6 74 [(1,.sym .i64 lv),(6,.gs 0),(21,.sh (.sl 7 n (Aj T))),(22,.sym .i64 (n:Int)),(23,.sym .i64 i)],hp:=[(0,.own 115 7 c (Aj cr))],nx:=1,lim:=L0,tc:=[]}
def LZ:List It:=[bD [0,1,0,1,1,1,1,1,1],dw 2,bD [1,1,1,1,1,1,1]]
def ajp:List It:=bD [0,0,1,0,1,1,1,1,1,1]::LZ
def Rl(lv:Int)(c:Nat)(cr:Nat->Ee)(n:Nat)(o:Nat->Int)(k:Int):Core:=
 {tm:=G6 74 [(1,.sym .i64 lv),(6,.gs 0),(9,.gs 1),(42,.gs 0),(43,.sym .i64 (c:Int)),(44,.sym .i64 k)],hp:=[(0,.own 115 7 c (Aj cr)),(1,.own 3 1 n (Aj o))],nx:=2,lim:=L0,tc:=[]}
def O5:List It:=[bD [0,1,1,0,0,1,1,0,0,1,0,1,1,1,1,1,1],dw 4,dw 3,bD [1,1,1,0,0,1,0,1,1,1,1,1,1],bD [0,1,0,1,1,1,1,1,1],dw 2,bD [1,1,1,1,1,1,1]]
def ajq:List It:=bD [0,0,1,1,0,0,1,1,0,0,1,0,1,1,1,1,1,1]::O5
def UJ(lv:Int)(c:Nat)(cr:Nat->Ee)(n:Nat)(o:Nat->Int)(k:Int)(b:Ee)(i:Int):Core:=
 {tm:=G6 74 [(1,.sym .i64 lv),(6,.gs 0),(9,.gs 1),(10,.sym .i64 k),(11,.ptr 2 0),(42,.gs 0),(43,.sym .i64 (c:Int)),(44,.sym .i64 k),(49,.gs 0),(50,.sym .i64 (c:Int)),(51,.sym .i64 i)],hp:=[(0,.own 115 7 c (Aj cr)),(1,.own 3 1 n (Aj o)),(2,.box [.sym .i64 b.id,.sym .i64 b.th,.sym .i64 b.st,.sym .i64 b.bg,.sym .i64 b.en,.sym .i64 b.tr,.sh (.sl 8 b.k b.g)] 115)],nx:=3,lim:=L0,tc:=[]}
theorem ajr(A:Prim)(W:Wd)(B:TA)(lv:Int)(o m:Nat)(og mg:Nat->List Sh)(cr:Nat->Ee)(i':Int){ψ:ED->Prop}{c0 c1 c2:Bool}(e0:B.okb=c0)(e1:A.lt (ah 12) (A.AZ B.n)=c1)(e2:B.Ig=c2)(h1:(asL (cO [aG 2 o og,aG 8 m mg]) (cO [aG 2 o og,aG 8 m mg]))=aC)(y1:c0=aC->c1=aC->ψ (aT (cZ [jG (dZ aK),bf 1 329])))(y2:c0=aC->c1=ay->ψ (bK 0 [aj lv lv,aO (aG 7 B.n (Aj B.T)) (aG 7 B.n (Aj B.T)),aO (aG 7 B.n (Aj B.T)) (aG 7 B.n (Aj B.T)),aj (A.AZ B.n) (ah B.n),aj (ah 0) i',aO (aG 2 o og) (aG 2 o og),aO (aG 8 m mg) (aG 8 m mg),aj lv lv,aJ 0 0]))(y3:c0=ay->c2=aC->ψ (aT (cZ [jG (dZ aK),Sh.C9 109 (pR [aY .i64 B.pos,bf B.e 329])])))(y4:c0=ay->c2=ay->ψ (aT (cZ [jG (dZ aK),bf B.e 329]))):Df ψ (Bj (C7 A W (QV (.agg [.sl 2 o og,.sl 8 m mg]) B) AU) BL 300 400 40 [.code []] (Ap 71 [.agg [.sl 2 o og,.sl 8 m mg],.i .i64 lv] L0) [] [⟨40,Zx,Zy o m og mg lv B.n B.T 0 cr i',[]⟩]):=by
 subst e0 e1 e2;exact FU (an h1 (an (fun q0=>an (y1 q0) (y2 q0)) (fun q0=>an (y3 q0) (y4 q0)))) (by kernel_rfl)
theorem VE(A:Prim)(W:Wd)(hs:Sh)(B:TA)(lv:Int)(o m:Nat)(og mg:Nat->List Sh)(n:Nat)(T:Nat->Ee)(c c':Nat)(cr QT:Nat->Ee)(i i':Int){ψ:ED->Prop}{c0 c1:Bool}(e0:A.lt i (ah n)=c0)(e1:VB (T (A.toN i)).st lv=c1)(h1:c0=aC->(A.inB i n)=aC)(h2:c0=aC->c1=aC->(A.room (A.addN c 1) 72)=aC)(h3:c0=ay->(mkP lv n (Aj T))=aC)(h4:c0=ay->(nwB o og)=aC)(y1:c0=aC->c1=aC->ψ (bK 0 [aj lv lv,aO (aG 7 n (Aj T)) (aG 7 n (Aj T)),aO (aG 7 n (Aj T)) (aG 7 n (Aj T)),aj (ah n) (ah n),aj (A.add .i64 i (ah 1)) i',aO (aG 2 o og) (aG 2 o og),aO (aG 8 m mg) (aG 8 m mg),aj lv lv,aJ (A.addN c 1) c',aU (A.addN c 1) (A.snoc (Aj cr) c (Bh [[aY .i64 (T (A.toN i)).id,aY .i64 (T (A.toN i)).th,aY .i64 (T (A.toN i)).st,aY .i64 (T (A.toN i)).bg,aY .i64 (T (A.toN i)).en,aY .i64 (T (A.toN i)).tr,aG 8 (T (A.toN i)).k (T (A.toN i)).g]])) (Aj QT)]))(y2:c0=aC->c1=ay->ψ (bK 0 [aj lv lv,aO (aG 7 n (Aj T)) (aG 7 n (Aj T)),aO (aG 7 n (Aj T)) (aG 7 n (Aj T)),aj (ah n) (ah n),aj (A.add .i64 i (ah 1)) i',aO (aG 2 o og) (aG 2 o og),aO (aG 8 m mg) (aG 8 m mg),aj lv lv,aJ c c',aU c (Aj cr) (Aj QT)]))(y3:c0=ay->ψ (aT (cZ [pR [aY .i64 lv,aG 7 c (Aj cr),aG 1 (mkN lv n (Aj T)) (Aj (mkR lv n (Aj T))),aG 4 o (FD og)],jG bJ]))):Df ψ (Bj (C7 A W (QV hs B) AU) BL 300 400 40 ao3 (Zy o m og mg lv n T c cr i) [] [⟨40,Zx,Zy o m og mg lv n T c' QT i',[]⟩]):=by
 subst e0 e1;exact akM (by kernel_rfl) (an (fun q0=>an (h1 q0) (an (fun q1=>an (h2 q0 q1) (an (h2 q0 q1) (y1 q0 q1))) (y2 q0))) (fun q0=>an (h3 q0) (an (h4 q0) (y3 q0)))) (by kernel_rfl)
theorem ajs(A:Prim)(W:Wd)(lv:Int)(n:Nat)(T:Nat->Ee)(QT:Nat->Ee)(i':Int){ψ:ED->Prop}{c0 c1:Bool}(e0:A.lt lv (ah 1)=c0)(e1:A.lt (ah 3) lv=c1)(y1:c0=aC->ψ (aT (cZ [aG 0 0 fun _=>[],bf 2 329])))(y2:c0=ay->c1=aC->ψ (aT (cZ [aG 0 0 fun _=>[],bf 2 329])))(y3:c0=ay->c1=ay->ψ (bK 0 [aj lv lv,aO (aG 7 n (Aj T)) (aG 7 n (Aj T)),aj (A.AZ n) (ah n),aj (ah 0) i',aJ 0 0])):Df ψ (Bj (C7 A W IQ AU) BL 300 400 74 [.code []] (Ap 74 [.sl 7 n (Aj T),.i .i64 lv] L0) [] [⟨74,Zz,ZA lv n T 0 QT i',[]⟩]):=by
 subst e0 e1;exact FU (an y1 (fun q0=>an (y2 q0) (y3 q0))) (by kernel_rfl)
theorem VF(A:Prim)(W:Wd)(lv:Int)(n:Nat)(T:Nat->Ee)(c c':Nat)(cr QT:Nat->Ee)(i i':Int)(m':Nat)(o':Nat->Int){ψ:ED->Prop}{c0 c1 c2:Bool}(e0:A.lt i (ah n)=c0)(e1:VB (T (A.toN i)).st lv=c1)(e2:A.lt (ah 62) (A.AZ c)=c2)(h1:c0=aC->(A.inB i n)=aC)(h2:c0=aC->c1=aC->(A.room (A.addN c 1) 72)=aC)(h3:c0=ay->c2=ay->(A.le (ah 0) (A.AZ c))=aC)(h4:c0=ay->c2=ay->(A.room (A.toN (A.AZ c)) 8)=aC)(y1:c0=aC->c1=aC->ψ (bK 0 [aj lv lv,aO (aG 7 n (Aj T)) (aG 7 n (Aj T)),aj (ah n) (ah n),aj (A.add .i64 i (ah 1)) i',aJ (A.addN c 1) c',aU (A.addN c 1) (A.snoc (Aj cr) c (Bh [[aY .i64 (T (A.toN i)).id,aY .i64 (T (A.toN i)).th,aY .i64 (T (A.toN i)).st,aY .i64 (T (A.toN i)).bg,aY .i64 (T (A.toN i)).en,aY .i64 (T (A.toN i)).tr,aG 8 (T (A.toN i)).k (T (A.toN i)).g]])) (Aj QT)]))(y2:c0=aC->c1=ay->ψ (bK 0 [aj lv lv,aO (aG 7 n (Aj T)) (aG 7 n (Aj T)),aj (ah n) (ah n),aj (A.add .i64 i (ah 1)) i',aJ c c',aU c (Aj cr) (Aj QT)]))(y3:c0=ay->c2=aC->ψ (aT (cZ [aG 0 0 fun _=>[],bf 1 329])))(y4:c0=ay->c2=ay->ψ (bK 1 [aj lv lv,aj (A.AZ c) (ah c),aj (ah 0) (ah 0),aJ c c,aU c (Aj cr) (Aj cr),aJ (A.toN (A.AZ c)) m',aU (A.toN (A.AZ c)) (fun (x:Nat)=>[aY .i64 (ah 0)]) (Aj o')])):Df ψ (Bj (C7 A W IQ AU) BL 300 400 74 ao4 (ZA lv n T c cr i) [] [⟨74,Zz,ZA lv n T c' QT i',[]⟩,⟨74,LZ,Rl lv c cr m' o' 0,[]⟩]):=by
 subst e0 e1 e2;exact FU (an (fun q0=>an (h1 q0) (an (fun q1=>an (h2 q0 q1) (y1 q0 q1)) (y2 q0))) (fun q0=>an (y3 q0) (fun q1=>an (h3 q0 q1) (an (h4 q0 q1) (y4 q0 q1))))) (by kernel_rfl)
theorem ab8(A:Prim)(W:Wd)(lv:Int)(c:Nat)(cr:Nat->Ee)(n:Nat)(o:Nat->Int)(k:Int)(b:Ee){ψ:ED->Prop}{c0:Bool}(e0:A.lt k (ah c)=c0)(h1:c0=aC->(A.inB k c)=aC)(y1:c0=aC->ψ (bK 0 [aj lv lv,aj k k,aj (ah c) (ah c),aj k k,aj (A.AZ c) (ah c),aj (ah 0) (ah 0),aJ c c,aU c (Aj cr) (Aj cr),aJ n n,aU n (Aj o) (Aj o),aj (cr (A.toN k)).id b.id,aj (cr (A.toN k)).th b.th,aj (cr (A.toN k)).st b.st,aj (cr (A.toN k)).bg b.bg,aj (cr (A.toN k)).en b.en,aj (cr (A.toN k)).tr b.tr,aO (aG 8 (cr (A.toN k)).k (cr (A.toN k)).g) (aG 8 b.k b.g)]))(y2:c0=ay->ψ (aT (cZ [Sh.os 3 1 n (Aj o),jG bJ]))):Df ψ (Bj (C7 A W IQ AU) BL 300 400 74 ajp (Rl lv c cr n o k) [] [⟨74,O5,UJ lv c cr n o k b 0,[]⟩]):=by
 subst e0;exact FU (an (fun q0=>an (h1 q0) (y1 q0)) y2) (by kernel_rfl)
theorem VG(A:Prim)(W:Wd)(lv:Int)(c:Nat)(cr:Nat->Ee)(n:Nat)(o o':Nat->Int)(k k':Int)(b:Ee)(i i':Int){ψ:ED->Prop}{c0 c1 c2:Bool}(e0:A.lt i (ah c)=c0)(e1:A.nt (A.eq lv (ah 1))=c1)(e2:VD (cr (A.toN i)).en b.bg=c2)(h1:c0=aC->(A.inB i c)=aC)(h2:c0=aC->c1=aC->c2=aC->(A.inB k n)=aC)(h3:c0=aC->c1=aC->c2=aC->(A.le (ah 0) i)=aC)(y1:c0=aC->c1=aC->c2=aC->ψ (bK 0 [aj lv lv,aj k k,aj (ah c) (ah c),aj k k,aj (ah c) (ah c),aj (A.add .i64 i (ah 1)) i',aJ c c,aU c (Aj cr) (Aj cr),aJ n n,aU n (A.upd (Aj o) (A.toN k) 0 [aY .i64 (A.bin BinOp.or aW (o (A.toN k)) (A.bin iE aW (ah 1) i))]) (Aj o'),aj b.id b.id,aj b.th b.th,aj b.st b.st,aj b.bg b.bg,aj b.en b.en,aj b.tr b.tr,aO (aG 8 b.k b.g) (aG 8 b.k b.g)]))(y2:c0=aC->c1=aC->c2=ay->ψ (bK 0 [aj lv lv,aj k k,aj (ah c) (ah c),aj k k,aj (ah c) (ah c),aj (A.add .i64 i (ah 1)) i',aJ c c,aU c (Aj cr) (Aj cr),aJ n n,aU n (Aj o) (Aj o'),aj b.id b.id,aj b.th b.th,aj b.st b.st,aj b.bg b.bg,aj b.en b.en,aj b.tr b.tr,aO (aG 8 b.k b.g) (aG 8 b.k b.g)]))(y3:c0=aC->c1=ay->ψ (bK 0 [aj lv lv,aj k k,aj (ah c) (ah c),aj k k,aj (ah c) (ah c),aj (A.add .i64 i (ah 1)) i',aJ c c,aU c (Aj cr) (Aj cr),aJ n n,aU n (Aj o) (Aj o'),aj b.id b.id,aj b.th b.th,aj b.st b.st,aj b.bg b.bg,aj b.en b.en,aj b.tr b.tr,aO (aG 8 b.k b.g) (aG 8 b.k b.g)]))(y4:c0=ay->ψ (bK 1 [aj lv lv,aj (ah c) (ah c),aj (A.add .i64 k (ah 1)) k',aJ c c,aU c (Aj cr) (Aj cr),aJ n n,aU n (Aj o) (Aj o)])):Df ψ (Bj (C7 A W IQ AU) BL 300 400 74 ajq (UJ lv c cr n o k b i) [] [⟨74,O5,UJ lv c cr n o' k b i',[]⟩,⟨74,LZ,Rl lv c cr n o k',[]⟩]):=by
 subst e0 e1 e2;exact FU (an (fun q0=>an (h1 q0) (an (fun q1=>an (fun q2=>an (h2 q0 q1 q2) (an (h3 q0 q1 q2) (an (h2 q0 q1 q2) (y1 q0 q1 q2)))) (y2 q0 q1)) (y3 q0))) y4) (by kernel_rfl)
theorem ajt(A:Prim)(W:Wd)(t:Ee)(lv:Int){ψ:ED->Prop}{c0 c1 c2:Bool}(e0:A.eq lv (ah 1)=c0)(e1:A.eq t.st (ah 3)=c1)(e2:A.eq lv (ah 2)=c2)(y1:c0=aC->c1=aC->ψ (aT (gU aC)))(y2:c0=aC->c1=ay->ψ (aT (gU (A.eq t.st (ah 2)))))(y3:c0=ay->c2=aC->c1=aC->ψ (aT (gU aC)))(y4:c0=ay->c2=aC->c1=ay->ψ (aT (gU (A.eq t.st (ah 2)))))(y5:c0=ay->c2=ay->ψ (aT (gU (A.eq lv (ah 3))))):Df ψ (Bj (C7 A W noSpec AU) BL 300 400 73 [.code []] (Ap 19 [.agg [.i .i64 t.id,.i .i64 t.th,.i .i64 t.st,.i .i64 t.bg,.i .i64 t.en,.i .i64 t.tr,.sl 8 t.k t.g],.i .i64 lv] L0) [] []):=by
 subst e0 e1 e2;exact FU (an (fun q0=>an (y1 q0) (y2 q0)) (fun q0=>an (fun q1=>an (y3 q0 q1) (y4 q0 q1)) (y5 q0))) (by kernel_rfl)
theorem aju(A:Prim)(W:Wd)(t u:Ee){ψ:ED->Prop}{c0:Bool}(e0:A.le (ah 0) t.en=c0)(y1:c0=aC->ψ (aT (gU (A.lt t.en u.bg))))(y2:c0=ay->ψ (aT (gU ay))):Df ψ (Bj (C7 A W noSpec AU) BL 300 400 94 [.code []] (Ap 15 [.agg [.i .i64 t.id,.i .i64 t.th,.i .i64 t.st,.i .i64 t.bg,.i .i64 t.en,.i .i64 t.tr,.sl 8 t.k t.g],.agg [.i .i64 u.id,.i .i64 u.th,.i .i64 u.st,.i .i64 u.bg,.i .i64 u.en,.i .i64 u.tr,.sl 8 u.k u.g]] L0) [] []):=by
 subst e0;exact FU (an y1 y2) (by kernel_rfl)
end Go.Proofs
namespace Go.Pl
open Go Go.Sx Go.Proofs
def ctF(lv:Int)(T:Nat->Ee)(i r:Nat):List Ee:=((aZ r).map fun j=>T (i+j)).filter fun t=>VB t.st lv
theorem ad6(lv:Int)(T:Nat->Ee)(i r:Nat):ctF lv T i (r+1)=(if VB (T i).st lv=aC then [T i] else [])++ctF lv T (i+1) r:=by
 unfold ctF;rw[rF,jr,qm,List.filter_cons];have:((fun j=>T (i+j)) ∘ Nat.succ)=fun j=>T (i+1+j):=by
  funext j;show T (i+(j+1))=T (i+1+j);congr 1;omega
 rw[this,jC];by_cases h:VB (T i).st lv=aC
 ·rw[if_pos h,if_pos h];rfl
 ·rw[if_neg h,if_neg h];rfl
theorem ahu(lv:Int)(T:Nat->Ee)(n:Nat):ctF lv T 0 n=EO lv n T:=by
 unfold ctF EO;simp
theorem akT(lv:Int)(n:Nat)(T:Nat->Ee):(EO lv n T).length<=n:=by
 unfold EO;have:=List.length_filter_le (fun t:Ee=>VB t.st lv) ((aZ n).map T);rw[dP,kD] at this;exact this
theorem ahv{lv bg:Int}:∀(l:List Ee) (i m N:Nat),m<2^N->i+l.length<=N->JE lv bg i l m<2^N
 |[],i,m,N,h,_=>h |a::l,i,m,N,h,hl=>by
  rw[JE];refine ahv l (i+1) _ N ?_ (by simp at hl;omega);split
  ·refine pV h ?_
   rw[mP,iK];exact jD (by decide) (by simp at hl;omega)
  ·exact h
end Go.Pl
namespace Go.Proofs
open Go Go.Sx Go.Pl
section
variable{H0:Mem}{w0:World}{φ:Sh->Prop}
theorem QW(Gf:AV aA (Bq W7) 73 D73)(Gx:AV aA (Bq W7) 94 D94)(stop:Nat->List Nat->Bool):BP aA (C7 Ai W7 IQ stop):=nT (fun g F h=>by
 unfold IQ at h;split at h
 ·cases h;exact Gf
 ·cases h;exact Gx
 ·cases h) fun g h=>by
 unfold IQ at h;split at h;all_goals first|(cases h;done) |kernel_rfl
theorem ao5{o:Nat->Int}{k:Nat}{v:Int}:∀j,Ai.upd (Aj o) k 0 [aY .i64 v] j=Aj (fun j=>if j=k then v else o j) j:=fun j=>by
 show (if j=k then (Aj o j).take 0++[aY .i64 v]++(Aj o j).drop (0+1) else Aj o j)=Row.put (if j=k then v else o j);split
 ·rfl
 ·rfl
variable{lv:Int}{l:List Ee}
theorem ahw(Gf:AV aA (Bq W7) 73 D73)(Gx:AV aA (Bq W7) 94 D94)(hl:l.length<=62){k:Nat}(hk:k<l.length){b:Ee}:
  ∀r i (o:Nat->Int) (m:Nat),i+r=l.length->o k=(m:Nat)->m<2^62->
  (Bz aA (C7 Ai W7 IQ AU) (K0 H0 w0) 74 LZ (Rl lv l.length (nth l) l.length (fun j=>if j=k then (JE lv b.bg i (l.drop i) m:Nat) else o j) ((k+1:Nat):Int)) [] emp (up φ))->
  Bz aA (C7 Ai W7 IQ AU) (K0 H0 w0) 74 O5 (UJ lv l.length (nth l) l.length o (k:Nat) b (i:Nat)) [] emp (up φ)
 |0,i,o,m,hi,ho,hm,nx=>by
  refine GK (fn:=lQ) (tb:=ajq) (by kernel_rfl) (by kernel_rfl) ?_;have lt {P:Prop} (h:Ai.lt (i:Int) (ah l.length)=aC):P:=by simp[Aq] at h;omega
  have w1:Ai.add .i64 (k:Int) (ah 1)=((k+1:Nat):Int):=add1 (by omega);have e:(fun j=>if j=k then ((JE lv b.bg i (l.drop i) m:Nat):Int) else o j)=o:=by
   funext j;rw[jT (by omega),JE];split
   ·rename_i h;rw[h,ho]
   ·rfl
  rw[e] at nx;refine Fh (dD _ _) (QW Gf Gx _) (hold:=BL) (m:=300) (n:=400) (ts:=[⟨74,O5,UJ lv l.length (nth l) l.length o (k:Nat) b 0,[]⟩,⟨74,LZ,Rl lv l.length (nth l) l.length o ((k+1:Nat):Int),[]⟩]) ?_;exact VG Ai W7 lv _ (nth l) _ o o k _ b i 0 rfl rfl rfl (fun q=>lt q) (fun q=>lt q) (fun q=>lt q) (fun q=>lt q) (fun q=>lt q) (fun q=>lt q)
   (fun _=>⟨⟨rfl,rfl,w1,rfl,fun _ _=>rfl,rfl,fun _ _=>rfl,trivial⟩,_,rfl,nx⟩)
 |r+1,i,o,m,hi,ho,hm,nx=>by
  obtain ⟨a,ha⟩:∃a,l[i]?=ak a:=⟨_,aS (by omega)⟩;have hd:l.drop i=a::l.drop (i+1):=by
   rw[iT (by omega)];congr 1;rw[aS (by omega)] at ha;exact dH ha
  have hna:nth l (Ai.toN (i:Int))=a:=by
   show nth l i=a;unfold nth;rw[aX,ha];rfl
  rw[hd,JE] at nx;refine GK (fn:=lQ) (tb:=ajq) (by kernel_rfl) (by kernel_rfl) ?_;have w1:Ai.add .i64 (i:Int) (ah 1)=((i+1:Nat):Int):=add1 (by omega);have no {P:Prop} (h:Ai.lt (i:Int) (ah l.length)=ay):P:=by simp[Aq] at h;omega
  have inb:Ai.inB (i:Int) l.length=aC:=by rw[BJ,decide_eq_true_eq];omega
  have asM:Ai.inB (k:Int) l.length=aC:=by rw[BJ,decide_eq_true_eq];omega
  have le0:Ai.le (ah 0) (i:Int)=aC:=by simp[DJ]
  have hc1:Ai.nt (Ai.eq lv (ah 1))=decide (lv≠1):=by
   rw[CB,AX];by_cases h:lv=1
   ·subst h;rfl
   ·rw[decide_eq_true h]
    have:(lv==ah 1)=ay:=beq_eq_false_iff_ne.2 h;rw[this];rfl
  have step (m':Nat) (hm':m'<2^62) (o':Nat->Int) (h1:o'=fun j=>if j=k then (m':Int) else o j)
    (h2:(if lv≠1/\VD a.en b.bg=aC then m|||1<<<i else m)=m'):=ahw Gf Gx hl hk r (i+1) o' m' (by omega) (by rw[h1];simp) hm' (b:=b) (by
     rw[h2] at nx;have e:(fun j=>if j=k then ((JE lv b.bg (i+1) (l.drop (i+1)) m':Nat):Int) else o' j)=fun j=>if j=k then ((JE lv b.bg (i+1) (l.drop (i+1)) m':Nat):Int) else o j:=by
      funext j;rw[h1];split
      ·rfl
      ·rename_i hj;simp[hj]
     rw[e];exact nx)
  have same:(fun j=>if j=k then ((m:Nat):Int) else o j)=o:=by
   funext j;split
   ·rename_i h;rw[h,ho]
   ·rfl
  by_cases hc:lv≠1/\VD a.en b.bg=aC
  ·have st:=step (m|||1<<<i) (pV hm (by rw[mP,iK];exact jD (by decide) (by omega))) _ rfl (if_pos hc)
   refine Fh (dD _ _) (QW Gf Gx _) (hold:=BL) (m:=300) (n:=400) (ts:=[⟨74,O5,UJ lv l.length (nth l) l.length (fun j=>if j=k then ((m|||1<<<i:Nat):Int) else o j) (k:Nat) b ((i+1:Nat):Int),[]⟩,⟨74,LZ,Rl lv l.length (nth l) l.length o 0,[]⟩]) ?_;refine VG Ai W7 lv _ (nth l) _ o _ k _ b i _ (c1:=aC) (c2:=aC) rfl (by rw[hc1];exact decide_eq_true hc.1) (by rw[hna];exact hc.2) (fun _=>inb) (fun _ _ _=>asM) (fun _ _ _=>le0)
    (fun _ _ _=>⟨⟨rfl,rfl,rfl,rfl,rfl,w1,rfl,fun _ _=>rfl,rfl,fun j hj=>?_,rfl,rfl,rfl,rfl,rfl,rfl,rfl,trivial⟩,_,rfl,st⟩) (fun _ _ q=>by cases q) (fun _ q=>by cases q) (fun q=>no q)
   have e:Ai.bin .or .i64 (o (Ai.toN (k:Int))) (Ai.bin .shl .i64 (ah 1) (i:Int))=((m|||1<<<i:Nat):Int):=by
    show Ai.bin .or .i64 (o k) _=_;rw[ho];exact or_eq (by omega) (by omega)
   rw[e];exact ao5 j
  ·have st:=step m hm o same.symm (if_neg hc)
   refine Fh (dD _ _) (QW Gf Gx _) (hold:=BL) (m:=300) (n:=400) (ts:=[⟨74,O5,UJ lv l.length (nth l) l.length o (k:Nat) b ((i+1:Nat):Int),[]⟩,⟨74,LZ,Rl lv l.length (nth l) l.length o 0,[]⟩]) ?_;have fin:=(⟨⟨rfl,rfl,rfl,rfl,rfl,w1,rfl,fun _ _=>rfl,rfl,fun _ _=>rfl,rfl,rfl,rfl,rfl,rfl,rfl,rfl,trivial⟩,_,rfl,st⟩:Jo aA (C7 Ai W7 IQ AU) (K0 H0 w0) [⟨74,O5,UJ lv l.length (nth l) l.length o (k:Nat) b ((i+1:Nat):Int),[]⟩,⟨74,LZ,Rl lv l.length (nth l) l.length o 0,[]⟩] emp (up φ) (bK 0 [aj lv lv,aj k k,aj (ah l.length) (ah l.length),aj k k,aj (ah l.length) (ah l.length),aj (Ai.add .i64 i (ah 1)) ((i+1:Nat):Int),aJ l.length l.length,aU l.length (Aj (nth l)) (Aj (nth l)),aJ l.length l.length,aU l.length (Aj o) (Aj o),aj b.id b.id,aj b.th b.th,aj b.st b.st,aj b.bg b.bg,aj b.en b.en,aj b.tr b.tr,aO (aG 8 b.k b.g) (aG 8 b.k b.g)]));exact VG Ai W7 lv _ (nth l) _ o _ k _ b i _ rfl rfl rfl (fun _=>inb) (fun _ _ _=>asM) (fun _ _ _=>le0)
    (fun _ q1 q2=>(hc ⟨of_decide_eq_true (hc1.symm.trans q1),by rw[hna] at q2;exact q2⟩).elim) (fun _ _ _=>fin) (fun _ _=>fin) (fun q=>no q)
theorem ahx(Gf:AV aA (Bq W7) 73 D73)(Gx:AV aA (Bq W7) 94 D94)(hl:l.length<=62)(hφ:φ (.AQ [.sl 1 l.length (Aj (YE lv l)),.v .nilIface])):
  ∀r k (o:Nat->Int),k+r=l.length->(∀j,j<k->o j=YE lv l j)->(∀j,k<=j->o j=0)->
  Bz aA (C7 Ai W7 IQ AU) (K0 H0 w0) 74 LZ (Rl lv l.length (nth l) l.length o (k:Nat)) [] emp (up φ)
 |0,k,o,hk,ho,ho2=>by
  refine GK (fn:=lQ) (tb:=ajp) (by kernel_rfl) (by kernel_rfl) ?_;have lt {P:Prop} (h:Ai.lt (k:Int) (ah l.length)=aC):P:=by simp[Aq] at h;omega
  refine Fh (dD _ _) (QW Gf Gx _) (hold:=BL) (m:=300) (n:=400) (ts:=[⟨74,O5,UJ lv l.length (nth l) l.length o (k:Nat) default 0,[]⟩]) ?_;refine ab8 Ai W7 lv _ (nth l) _ o k default rfl (fun q=>lt q) (fun q=>lt q) (fun _=>?_);refine BX (s':=.AQ [.sl 1 l.length (Aj (YE lv l)),.v .nilIface]) ⟨.inr ⟨rfl,rfl,fun j hj=>?_⟩,rfl,trivial⟩ hφ;show Row.put (o j)=Row.put (YE lv l j);rw[ho j (by omega)]
 |r+1,k,o,hk,ho,ho2=>by
  refine GK (fn:=lQ) (tb:=ajp) (by kernel_rfl) (by kernel_rfl) ?_;have no {P:Prop} (h:Ai.lt (k:Int) (ah l.length)=ay):P:=by simp[Aq] at h;omega
  have inb:Ai.inB (k:Int) l.length=aC:=by rw[BJ,decide_eq_true_eq];omega
  have st:=ahw (H0:=H0) (w0:=w0) (φ:=φ) (lv:=lv) Gf Gx hl (k:=k) (by omega) (b:=nth l k) l.length 0 o 0 (by omega) (ho2 k (dn _)) (by decide)
   (ahx Gf Gx hl hφ r (k+1) _ (by omega) (fun j hj=>by
    show (if j=k then ((JE lv (nth l k).bg 0 (l.drop 0) 0:Nat):Int) else o j)=_;split
    ·rename_i h;subst h;rfl
    ·exact ho j (by omega)) (fun j hj=>by
    show (if j=k then ((JE lv (nth l k).bg 0 (l.drop 0) 0:Nat):Int) else o j)=_;rw[if_neg (by omega)];exact ho2 j (by omega)))
  refine Fh (dD _ _) (QW Gf Gx _) (hold:=BL) (m:=300) (n:=400) (ts:=[⟨74,O5,UJ lv l.length (nth l) l.length o (k:Nat) (nth l k) ((0:Nat):Int),[]⟩]) ?_;exact ab8 Ai W7 lv _ (nth l) _ o k (nth l k) rfl (fun _=>inb) (fun _=>⟨⟨rfl,rfl,rfl,rfl,rfl,rfl,rfl,fun _ _=>rfl,rfl,fun _ _=>rfl,rfl,rfl,rfl,rfl,rfl,rfl,rfl,trivial⟩,_,rfl,st⟩) (fun q=>no q)
theorem ab9{n:Nat}{T:Nat->Ee}(Gf:AV aA (Bq W7) 73 D73)(Gx:AV aA (Bq W7) 94 D94)(hn:n<=62)(hφ:φ (.AQ [.sl 1 (EO lv n T).length (Aj (YE lv (EO lv n T))),.v .nilIface])):
  ∀r i (acc:List Ee),i+r=n->acc.length<=i->acc++ctF lv T i r=EO lv n T->
  Bz aA (C7 Ai W7 IQ AU) (K0 H0 w0) 74 Zz (ZA lv n T acc.length (nth acc) (i:Nat)) [] emp (up φ)
 |0,i,acc,hi,hl,he=>by
  have he:acc=EO lv n T:=by
   rw[<-he];show acc=acc++[];rw[fA]
  refine GK (fn:=lQ) (tb:=ao4) (by kernel_rfl) (by kernel_rfl) ?_;have lt {P:Prop} (h:Ai.lt (i:Int) (ah n)=aC):P:=by simp[Aq] at h;omega
  have c2 {P:Prop} (h:Ai.lt (ah 62) (Ai.AZ acc.length)=aC):P:=by simp[Aq,AY] at h;omega
  have st:=ahx (H0:=H0) (w0:=w0) (φ:=φ) (lv:=lv) (l:=acc) Gf Gx (by omega) (by rw[he];exact hφ) acc.length 0 (fun _=>0) (by omega) (fun j hj=>by omega) (fun j _=>rfl);refine Fh (dD _ _) (QW Gf Gx _) (hold:=BL) (m:=300) (n:=400) (ts:=[⟨74,Zz,ZA lv n T acc.length (nth acc) 0,[]⟩,⟨74,LZ,Rl lv acc.length (nth acc) acc.length (fun _=>0) ((0:Nat):Int),[]⟩]) ?_;refine VF Ai W7 lv n T _ _ (nth acc) _ i 0 acc.length (fun _=>0) rfl rfl rfl (fun q=>lt q) (fun q=>lt q) (fun _ _=>by simp[DJ,AY]) (fun _ _=>?_) (fun q=>lt q) (fun q=>lt q) (fun _ q=>c2 q)
   (fun _ _=>⟨⟨rfl,rfl,rfl,rfl,fun _ _=>rfl,rfl,fun _ _=>rfl,trivial⟩,_,rfl,st⟩)
  rw[EM,decide_eq_true_eq,AY,CX,fU];unfold maxLen;omega
 |r+1,i,acc,hi,hl,he=>by
  refine GK (fn:=lQ) (tb:=ao4) (by kernel_rfl) (by kernel_rfl) ?_;have w1:Ai.add .i64 (i:Int) (ah 1)=((i+1:Nat):Int):=add1 (by omega);have no {P:Prop} (h:Ai.lt (i:Int) (ah n)=ay):P:=by simp[Aq] at h;omega
  have inb:Ai.inB (i:Int) n=aC:=by rw[BJ,decide_eq_true_eq];omega
  have rm:Ai.room (Ai.addN acc.length 1) 72=aC:=by rw[EM,decide_eq_true_eq,Du];unfold maxLen;omega
  rw[ad6] at he;cases hc:VB (T i).st lv with
  |true=>
   rw[if_pos hc,<-dV] at he;have nx:=ab9 Gf Gx hn hφ r (i+1) (acc++[T i]) (by omega) (by rw[bC];simp;omega) he;refine Fh (dD _ _) (QW Gf Gx _) (hold:=BL) (m:=300) (n:=400) (ts:=[⟨74,Zz,ZA lv n T (acc++[T i]).length (nth (acc++[T i])) ((i+1:Nat):Int),[]⟩,⟨74,LZ,Rl lv acc.length (nth acc) 0 (fun _=>0) 0,[]⟩]) ?_;exact VF Ai W7 lv n T _ _ (nth acc) _ i _ 0 (fun _=>0) (c1:=aC) rfl hc rfl (fun _=>inb) (fun _ _=>rm) (fun q=>no q) (fun q=>no q)
    (fun _ _=>⟨⟨rfl,rfl,rfl,w1,by rw[bC];rfl,fun j hj=>IL acc (T i) _ rfl j hj,trivial⟩,_,rfl,nx⟩) (fun _ q=>by cases q) (fun q=>no q) (fun q=>no q)
  |false=>
   rw[if_neg (by rw[hc];simp),jM] at he;have nx:=ab9 Gf Gx hn hφ r (i+1) acc (by omega) (by omega) he;refine Fh (dD _ _) (QW Gf Gx _) (hold:=BL) (m:=300) (n:=400) (ts:=[⟨74,Zz,ZA lv n T acc.length (nth acc) ((i+1:Nat):Int),[]⟩,⟨74,LZ,Rl lv acc.length (nth acc) 0 (fun _=>0) 0,[]⟩]) ?_;exact VF Ai W7 lv n T _ _ (nth acc) _ i _ 0 (fun _=>0) (c1:=ay) rfl hc rfl (fun _=>inb) (fun _ q=>by cases q) (fun q=>no q) (fun q=>no q)
    (fun _ q=>by cases q) (fun _ _=>⟨⟨rfl,rfl,rfl,w1,rfl,fun _ _=>rfl,trivial⟩,_,rfl,nx⟩) (fun q=>no q) (fun q=>no q)
end
theorem Gf:AV aA (Bq W7) 73 D73:=by
 refine FT (C:=C7 Ai W7 noSpec AU) (dD _ _) (fn:=Tryz.f73) (by kernel_rfl) (by kernel_rfl) fun H w Bv args φ hrep h=>?_
 have hn:Tryz.f73.ntmps=19:=by kernel_rfl
 unfold D73 at h;split at h
 ·rename_i l t
  split at h
  ·rename_i x lv e1 e2
   have hφ:φ (.b (VB x.st lv)):=h;match args,hrep with
   |[v,u],⟨rv,ru,_⟩=>
    have hl:l=Row.put x:=(Row.DF _ _ e1).symm;subst hl;refine ⟨[.agg (Row.put x),.i .i64 lv],⟨rv,EJ e2 ru,trivial⟩,L0,?_⟩;refine Fh (dD _ _) (MC _) (hold:=BL) (m:=300) (n:=400) (ts:=[]) ?_;rw[hn];have fin (b:Bool) (hb:b=VB x.st lv):up φ (.b b):=BX (s':=.b (VB x.st lv)) (.inl (by rw[hb])) hφ;have e3:Ai.eq x.st (ah 3)=(x.st==3):=rfl;have e2':Ai.eq x.st (ah 2)=(x.st==2):=rfl;refine ajt Ai W7 x lv rfl rfl rfl (fun q0 q1=>fin _ ?_) (fun q0 q1=>fin _ ?_) (fun q0 q2 q1=>fin _ ?_) (fun q0 q2 q1=>fin _ ?_) (fun q0 q2=>fin _ ?_);all_goals unfold VB
    ·rw[if_pos (.inl (by simpa[AX] using q0)),<-e3,q1];rfl
    ·rw[if_pos (.inl (by simpa[AX] using q0)),<-e3,q1,e2'];rfl
    ·rw[if_pos (.inr (by simpa[AX] using q2)),<-e3,q1];rfl
    ·rw[if_pos (.inr (by simpa[AX] using q2)),<-e3,q1,e2'];rfl
    ·rw[if_neg (by
      rintro (h|h)
      ·rw[h] at q0;cases q0
      ·rw[h] at q2;cases q2)]
     rfl
  ·exact h.elim
 ·exact h.elim
theorem Gx:AV aA (Bq W7) 94 D94:=by
 refine FT (C:=C7 Ai W7 noSpec AU) (dD _ _) (fn:=Tryz.f94) (by kernel_rfl) (by kernel_rfl) fun H w Bv args φ hrep h=>?_
 have hn:Tryz.f94.ntmps=15:=by kernel_rfl
 unfold D94 at h;split at h
 ·rename_i l r
  split at h
  ·rename_i x y e1 e2
   have hφ:φ (.b (VD x.en y.bg)):=h;have hl:l=Row.put x:=(Row.DF _ _ e1).symm;have hr:r=Row.put y:=(Row.DF _ _ e2).symm;subst hl hr;refine ⟨[.agg (Row.put x),.agg (Row.put y)],hrep,L0,?_⟩;refine Fh (dD _ _) (MC _) (hold:=BL) (m:=300) (n:=400) (ts:=[]) ?_;rw[hn];have fin (b:Bool) (hb:b=VD x.en y.bg):up φ (.b b):=BX (s':=.b (VD x.en y.bg)) (.inl (by rw[hb])) hφ;refine aju Ai W7 x y rfl (fun q=>fin _ ?_) (fun q=>fin _ ?_)
   ·have q:decide (0<=x.en)=aC:=q
    unfold VD;rw[q];rfl
   ·have q:decide (0<=x.en)=ay:=q
    unfold VD;rw[q];rfl
  ·exact h.elim
 ·exact h.elim
theorem auf:AV aA (Bq W7) 74 D74:=by
 refine FT (C:=C7 Ai W7 IQ AU) (dD _ _) (fn:=lQ) (by kernel_rfl) (by kernel_rfl) fun H w Bv args φ hrep h=>?_
 have hn:lQ.ntmps=74:=by kernel_rfl
 unfold D74 at h;split at h
 ·rename_i s t
  split at h
  ·rename_i n T lv e1 e2
   obtain ⟨h1,hφ⟩:=h;unfold mkP at h1;rw[aI,aI,aI] at h1;obtain ⟨a1,a2,a3,a4⟩:=h1;have a2:=of_decide_eq_true a2;have a3:=of_decide_eq_true a3;have a4:=of_decide_eq_true a4;match args,hrep with
   |[v,u],⟨rv,ru,_⟩=>
    refine ⟨[.sl 7 n (Aj (Am (α:=Ee) T)),.i .i64 lv],⟨Ez (BQ e1 rv) a1,EJ e2 ru,trivial⟩,L0,?_⟩;have st:=ab9 (H0:=H) (w0:=w) (φ:=φ) (lv:=lv) (n:=n) (T:=Am T) Gf Gx a4 hφ n 0 [] (by omega) (by simp) (by rw[jM,ahu]);refine Fh (dD _ _) (QW Gf Gx _) (hold:=BL) (m:=300) (n:=400) (ts:=[⟨74,Zz,ZA lv n (Am T) 0 (nth []) ((0:Nat):Int),[]⟩]) ?_;rw[hn];have c0 {P:Prop} (h:Ai.lt lv (ah 1)=aC):P:=by simp[Aq] at h;omega
    have c1 {P:Prop} (h:Ai.lt (ah 3) lv=aC):P:=by simp[Aq] at h;omega
    exact ajs Ai W7 lv n (Am T) (nth []) _ rfl rfl (fun q=>c0 q) (fun _ q=>c1 q) (fun _ _=>⟨⟨rfl,rfl,rfl,rfl,rfl,trivial⟩,_,rfl,st⟩)
  ·exact h.elim
 ·exact h.elim
theorem awP:AV aA (Bq W7) 75 D75:=O25.mono fun H Bv args φ hr h=>by
 unfold D75 at h;split at h
 ·split at h
  ·rename_i n g e0
   obtain ⟨h1,h2⟩:=h;unfold nwB at h1;rw[aI,aI,aI,Bool.not_eq_true'] at h1;obtain ⟨a1,a2,a3,a4⟩:=h1;unfold F25;simp only[e0];exact ⟨a1,a2,fun q=>(by rw[q] at a3;cases a3),fun _=>⟨fun _=>h2,fun q=>(by rw[q] at a4;cases a4)⟩⟩
  ·exact h.elim
 ·exact h.elim
theorem afp{hs:Sh}{B:TA}(O20:AV aA (Bq W7) 20 (D20 hs B))(stop:Nat->List Nat->Bool):BP aA (C7 Ai W7 (QV hs B) stop):=nT (fun g F h=>by
 unfold QV at h;split at h
 ·cases h;exact O20
 ·cases h;exact Gf
 ·cases h;exact auf
 ·cases h;exact awP
 ·cases h) fun g h=>by
 unfold QV at h;split at h;all_goals first|(cases h;done) |kernel_rfl
section
variable{H0:Mem}{w0:World}{φ:Sh->Prop}{hs:Sh}{B:TA}{lv:Int}{o m:Nat}{og mg:Nat->List Sh}
theorem afq(O20:AV aA (Bq W7) 20 (D20 hs B)){n:Nat}{T:Nat->Ee}(h1:1<=lv)(h3:lv<=3)(hn:n<=12)(hw:nwB o og=aC)
  (hφ:φ (.AQ [.pt (Cb lv (EO lv n T).length (nth (EO lv n T)) (EO lv n T).length (YE lv (EO lv n T)) o (FD og)),.v .nilIface])) :
  ∀r i (acc:List Ee),i+r=n->acc.length<=i->acc++ctF lv T i r=EO lv n T->
  Bz aA (C7 Ai W7 (QV hs B) AU) (K0 H0 w0) 40 Zx (Zy o m og mg lv n T acc.length (nth acc) (i:Nat)) [] emp (up φ)
 |0,i,acc,hi,hl,he=>by
  have he:acc=EO lv n T:=by
   rw[<-he];show acc=acc++[];rw[fA]
  refine GK (fn:=zx) (tb:=ao3) (by kernel_rfl) (by kernel_rfl) ?_;have lt {P:Prop} (h:Ai.lt (i:Int) (ah n)=aC):P:=by simp[Aq] at h;omega
  refine Fh (dD _ _) (afp O20 _) (hold:=BL) (m:=300) (n:=400) (ts:=[⟨40,Zx,Zy o m og mg lv n T 0 (nth []) 0,[]⟩]) ?_;refine VE Ai W7 hs B lv o m og mg n T _ 0 (nth acc) (nth []) i 0 rfl rfl (fun q=>lt q) (fun q=>lt q) (fun _=>?_) (fun _=>hw) (fun q=>lt q) (fun q=>lt q) (fun _=>?_)
  ·unfold mkP
   rw[DI,decide_eq_true h1,decide_eq_true h3,decide_eq_true (by omega:n<=62)];rfl
  ·have e1:mkN lv n (Aj T)=(EO lv n T).length:=by unfold mkN;rw[EX]
   have e2:mkR lv n (Aj T)=YE lv (EO lv n T):=by unfold mkR;rw[EX]
   rw[e1,e2,he];exact BX (s':=.AQ [.pt (Cb lv (EO lv n T).length (nth (EO lv n T)) (EO lv n T).length (YE lv (EO lv n T)) o (FD og)),.v .nilIface]) ⟨rfl,rfl,trivial⟩ hφ
 |r+1,i,acc,hi,hl,he=>by
  refine GK (fn:=zx) (tb:=ao3) (by kernel_rfl) (by kernel_rfl) ?_;have w1:Ai.add .i64 (i:Int) (ah 1)=((i+1:Nat):Int):=add1 (by omega);have no {P:Prop} (h:Ai.lt (i:Int) (ah n)=ay):P:=by simp[Aq] at h;omega
  have inb:Ai.inB (i:Int) n=aC:=by rw[BJ,decide_eq_true_eq];omega
  have rm:Ai.room (Ai.addN acc.length 1) 72=aC:=by rw[EM,decide_eq_true_eq,Du];unfold maxLen;omega
  rw[ad6] at he;cases hc:VB (T i).st lv with
  |true=>
   rw[if_pos hc,<-dV] at he;have nx:=afq O20 h1 h3 hn hw hφ r (i+1) (acc++[T i]) (by omega) (by rw[bC];simp;omega) he;refine Fh (dD _ _) (afp O20 _) (hold:=BL) (m:=300) (n:=400) (ts:=[⟨40,Zx,Zy o m og mg lv n T (acc++[T i]).length (nth (acc++[T i])) ((i+1:Nat):Int),[]⟩]) ?_;exact VE Ai W7 hs B lv o m og mg n T _ _ (nth acc) _ i _ (c1:=aC) rfl hc (fun _=>inb) (fun _ _=>rm) (fun q=>no q) (fun q=>no q)
    (fun _ _=>⟨⟨rfl,rfl,rfl,rfl,w1,rfl,rfl,rfl,by rw[bC];rfl,fun j hj=>IL acc (T i) _ rfl j hj,trivial⟩,_,rfl,nx⟩) (fun _ q=>by cases q) (fun q=>no q)
  |false=>
   rw[if_neg (by rw[hc];simp),jM] at he;have nx:=afq O20 h1 h3 hn hw hφ r (i+1) acc (by omega) (by omega) he;refine Fh (dD _ _) (afp O20 _) (hold:=BL) (m:=300) (n:=400) (ts:=[⟨40,Zx,Zy o m og mg lv n T acc.length (nth acc) ((i+1:Nat):Int),[]⟩]) ?_;exact VE Ai W7 hs B lv o m og mg n T _ _ (nth acc) _ i _ (c1:=ay) rfl hc (fun _=>inb) (fun _ q=>by cases q) (fun q=>no q) (fun q=>no q)
    (fun _ q=>by cases q) (fun _ _=>⟨⟨rfl,rfl,rfl,rfl,w1,rfl,rfl,rfl,rfl,fun _ _=>rfl,trivial⟩,_,rfl,nx⟩) (fun q=>no q)
end
end Go.Proofs
namespace Go.Aw
open Go Go.Sx
abbrev Wd:=Go.Proofs.Wd
abbrev Xi:=Go.Proofs.Xi
abbrev FV:=Go.Proofs.Bq
abbrev W5:=rP
abbrev noSpec:=Go.Proofs.noSpec
noncomputable def C5(A:Prim)(W:Wd)(spec:Nat->Option (List Sh->Tree Sh))(stop:Nat->List Nat->Bool):Ctx:=
 {A,tys:=mZ,fns:=oV,spec,eqs:=[140,71],VU:=[329],MQ:=stop,gls:=FV W,live:=yO,pks:=[157],aev:=Go.Proofs.an5}
theorem awQ:WY aA mZ [140,71]=aC:=by kernel_rfl
theorem awR:agw aA [329]=aC:=by kernel_rfl
theorem C5.ok(spec:Nat->Option (List Sh->Tree Sh))(stop:Nat->List Nat->Bool):BG aA (C5 Ai W5 spec stop):=
 ⟨aa8 yP,Qy jl,rfl,tX,fun t i h hi xs ys w h1 h2 x y=>X9 (QB awQ t i h hi) xs ys w h1 h2 x y,WX awR,Ah⟩
theorem C5.Vo{spec:Nat->Option (List Sh->Tree Sh)}{stop:Nat->List Nat->Bool}(hs:∀g F,spec g=ak F->AV aA (FV W5) g F)(he:∀g,(spec g).isSome=aC->(oV.get g).isSome=aC):BP aA (C5 Ai W5 spec stop):=
 ⟨hs,fun g h=>by
  rcases h with h|h
  ·exact Hq jl jP g (he g h)
  ·exact Hq jl jP g h,fun _ _ _ h=>(by cases h),fun _ _ _ h=>(by cases h)⟩
theorem MC(stop:Nat->List Nat->Bool):BP aA (C5 Ai W5 noSpec stop):=C5.Vo (fun _ _ h=>by cases h) (fun _ h=>by cases h)
def AP:Nat->List Nat->Bool:=fun _ _=>ay
end Go.Aw
namespace Go.BR
open Go Go.Sx
structure Oj where
 kind:Int
 init:Int
 deriving DecidableEq,Inhabited
structure Ev where
 kind:Int
 tx:Int
 thread:Int
 obj:Int
 op:Int
 key:Int
 val:Int
 ret:Int
 deriving DecidableEq,Inhabited
def obR(o:Oj):List Sh:=[.i .i64 o.kind,.i .i64 o.init]
def EY(e:Ev):List Sh:=[.i .i64 e.kind,.i .i64 e.tx,.i .i64 e.thread,.i .i64 e.obj,.i .i64 e.op,.i .i64 e.key,.i .i64 e.val,.i .i64 e.ret]
def inR(n:Int):List Sh:=[.i .i64 n]
class Row(α:Type)where
 put:α->List Sh
 get:List Sh->Option α
 DF:∀l a,get l=ak a->put a=l
 get_put:∀a,get (put a)=ak a
 JI:α
instance:Row Oj where
 put:=obR
 get l:=match l with
  |[.i .i64 a,.i .i64 b]=>ak ⟨a,b⟩ |_=>aK
 DF l a h:=by
  split at h
  ·cases h;rfl
  ·cases h
 get_put a:=rfl
 JI:=⟨0,0⟩
instance:Row Ev where
 put:=EY
 get l:=match l with
  |[.i .i64 a,.i .i64 b,.i .i64 c,.i .i64 d,.i .i64 e,.i .i64 f,.i .i64 g,.i .i64 h]=>ak ⟨a,b,c,d,e,f,g,h⟩ |_=>aK
 DF l a h:=by
  split at h
  ·cases h;rfl
  ·cases h
 get_put a:=rfl
 JI:=⟨0,0,0,0,0,0,0,0⟩
instance:Row Int where
 put:=inR
 get l:=match l with
  |[.i .i64 a]=>ak a |_=>aK
 DF l a h:=by
  split at h
  ·cases h;rfl
  ·cases h
 get_put a:=rfl
 JI:=0
def okB(α:Type)[Row α](n:Nat)(g:Nat->List Sh):Bool:=
 match n with
 |0=>aC |n+1=>okB α n g&&(Row.get (α:=α) (g n)).isSome
def Am{α:Type}[Row α](g:Nat->List Sh)(i:Nat):α:=(Row.get (g i)).getD Row.JI
def lst(α:Type)[Row α](n:Nat)(g:Nat->List Sh):List α:=(aZ n).map (Am g)
def nth{α:Type}[Row α](l:List α)(i:Nat):α:=l.getD i Row.JI
def Aj{α:Type}[Row α](o:Nat->α):Nat->List Sh:=fun j=>Row.put (o j)
section
variable{α:Type}[Row α]
theorem Jh{n:Nat}{g:Nat->List Sh}(h:okB α n g=aC):∀i,i<n->g i=Row.put (Am (α:=α) g i):=by
 induction n with
 |zero=>intro i hi;omega |succ n ih=>
  simp only[okB,aI] at h;intro i hi;by_cases e:i=n
  ·subst e
   obtain ⟨a,ha⟩:=Option.isSome_iff_exists.1 h.2;simp only[Am,ha,oD];exact (Row.DF _ _ ha).symm
  ·exact ih h.1 i (by omega)
theorem DI(o:Nat->α):∀n,okB α n (Aj o)=aC
 |0=>rfl |n+1=>by simp[okB,DI o n,Aj,Row.get_put]
theorem aao{g:Nat->List Sh}{o:Nat->α}:∀{n:Nat},(∀i,i<n->g i=Row.put (o i))->okB α n g=aC
 |0,_=>rfl |n+1,h=>by simp[okB,aao (n:=n) fun i hi=>h i (by omega),h n (by omega),Row.get_put]
theorem NK(o:Nat->α)(i:Nat):Am (Aj o) i=o i:=by simp[Am,Aj,Row.get_put]
@[simp] theorem FK (n:Nat) (g:Nat->List Sh):(lst α n g).length=n:=by simp[lst]
theorem SQ{n:Nat}{g:Nat->List Sh}{i:Nat}(h:i<n):nth (lst α n g) i=Am g i:=by simp[nth,lst,h]
end
theorem EK{H:Mem}{st n:Nat}{g g':Nat->List Sh}{v:Value}(h:Rep H (.sl st n g) v)(hg:∀j,j<n->g j=g' j):Rep H (.sl st n g') v:=by
 cases h with
 |sl0 _ _ A cap hc=>exact .sl0 _ _ _ _ hc |sl _ _ _ b off cap c h1 h2 h3 h4 h5 h6=>exact .sl _ _ _ b off cap c h1 h2 (fun i hi=>by rw[<-hg i hi];exact h3 i hi) h4 h5 fun i j s hi e=>h6 i j s hi (by rw[hg i hi];exact e)
theorem Ez{α:Type}[Row α]{H:Mem}{st n:Nat}{g:Nat->List Sh}{v:Value}(h:Rep H (.sl st n g) v)(hg:okB α n g=aC):Rep H (.sl st n (Aj (Am (α:=α) g))) v:=
 EK h fun j hj=>Jh hg j hj
def len{α:Type}(l:List α):Nat:=l.length
def fO(g:Nat->List Sh):Nat->List Sh:=Aj (Am (α:=Oj) g)
def fE(g:Nat->List Sh):Nat->List Sh:=Aj (Am (α:=Ev) g)
open Go Go.Sx
theorem Aq(a b:Int):Ai.lt a b=decide (a<b):=rfl
theorem DJ(a b:Int):Ai.le a b=decide (a<=b):=rfl
theorem AX(a b:Int):Ai.eq a b=(a==b):=rfl
theorem BJ(a:Int)(n:Nat):Ai.inB a n=decide (0<=a/\a<n):=rfl
theorem Jp(a:Int)(n:Nat):Ai.upTo a n=decide (0<=a/\a<=n):=rfl
theorem EM(n b:Nat):Ai.room n b=decide (n*b<=140737488355328/\n<=maxLen):=rfl
theorem CX(a:Int):Ai.toN a=a.toNat:=rfl
theorem AY(n:Nat):Ai.AZ n=(n:Int):=rfl
theorem Du(n m:Nat):Ai.addN n m=n+m:=rfl
theorem Ud(n m:Nat):Ai.ZN n m=decide (n<=m):=rfl
theorem CB(b:Bool):Ai.nt b=!b:=rfl
theorem Ef(a b c:Bool):Ai.ite a b c=bif a then b else c:=rfl
theorem Yi(a b:List UInt8):Ai.seq a b=(a==b):=rfl
theorem Dq(a b:Int):Ai.add .i64 a b=aW.wrap (a+b):=rfl
theorem Na(a b:Int):Ai.sub .i64 a b=aW.wrap (a - b):=rfl
theorem JC(a b:Int):Ai.max a b=if b>a then b else a:=rfl
theorem PS(a b:Int):Ai.min a b=if b<a then b else a:=rfl
theorem Ec(g:Nat->List Sh)(n:Nat)(h:Nat->List Sh)(i:Nat):Ai.snoc g n h i=if i<n then g i else h (i - n):=rfl
theorem Cj{a:Int}(h1:-9223372036854775808<=a)(h2:a<=9223372036854775807):aW.wrap a=a:=by
 rw[IntKind.wrap_i64];omega
theorem GR:ah 1=1:=rfl
theorem maxLen_eq:maxLen=9223372036854775807:=rfl
theorem ad7{α:Type}[Row α]{k:Nat}{o:Nat->α}{l:List (List Sh)}(h:Bh l 0=Row.put (o k)):∀i,i<k+1->Ai.snoc (Aj o) k (Bh l) i=Aj o i:=fun i hi=>by
 rw[Ec];split
 ·rfl
 ·have:i=k:=by omega
  subst this;rw[qV,h];rfl
def BM(n b:Nat):Bool:=Ai.room n b
end Go.BR
