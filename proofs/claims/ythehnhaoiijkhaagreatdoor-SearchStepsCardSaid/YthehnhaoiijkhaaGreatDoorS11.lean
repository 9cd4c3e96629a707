/- Own work. -/
import Derived.Test.YthehnhaoiijkhaaGreatDoorS10
import Derived.Conc.LoneSelect
import Derived.KernelRfl
open Int (ofNat)
open Bool renaming true->aF,false->aA,not_not->yS,and_eq_true->aJ,or_false->kN
open Classical renaming propDecidable->bG
open Go.BinOp renaming shl->iC
open Go.Conc renaming base->Ap
open Go.Frame renaming enter->gQ
open Go.Gm renaming start->jk
open Go.IntKind renaming i64->aW
open Go.Proofs renaming W7->rO,akT->Ar
open Go.Proofs.C7 renaming Um->nU,ok->dn
open Go.Proofs.Tryz renaming prog->aB,f41->sD,f69->sF,func69->zC,f71->sG,f39->uQ,f74->lQ,f40->zD,tys->ni,fns->oW,live->yU,tysB_->yV,fnsAre_->jl,mixed_->tY,entersB_->jM
open Go.Sx renaming Sh->Aq
open Go.Sx.BQ renaming nat->aK,L9->bF,sh->aP,int->ak,get->aV,val->kX,mg->jm,bool->lK
open Go.Sx.Eo renaming at_->bJ,ret->aU
open Go.Sx.It renaming code->bD,inBlock->dh
open Go.Sx.Sh renaming sl->aH,agg->bU,Ba->cZ,b->gq,i->aZ,er->bC,str->dA,pt->tZ,v->jF
open Go.Value renaming chan->iJ,int->iU,nilIface->bM,pointer->gJ
open Int renaming ofNat->ah,toNat_natCast->fK
open Int.ofNat renaming inj->kZ
open List renaming range->aY,range_succ_eq_map->rE,map_cons->jr,flatMap_cons->oP,map_append->iO,map_map->mP,getD_eq_getElem?_getD->aX,getElem?_append_left->dM,append_nil->fA,append_assoc->dV,length_append->bf,length_map->dQ,length_range->oh,drop_eq_nil_of_le->jR,getElem?_eq_getElem->aS,mem_map->dL,mem_of_getElem?->bP,drop_eq_getElem_cons->iP,drop_zero->jg,any_nil->yT,any_cons->xQ,nil_append->jK,getElem?_eq_some_iff->aQ
open Nat renaming sub_self->qR,beq->fC,eq_of_beq_eq_true->fH,le_refl->dw,add_zero->jB,or_lt_two_pow->pW,shiftLeft_eq->mO,one_mul->iI,pow_lt_pow_right->jC
open Option renaming some->ay,none->aN,getD_some->oI
open Option.some renaming inj->dH
namespace Go.Pl
open Go Go.Sx Go.Proofs Go.Gm
def xF{α:Type}(c1 c2 c3 c4 c5 c6 c7:Bool)(A B:α):List α:=
 bif c1||c2 then [] else (bif (c4||c7)&&c3 then [A] else [])++(bif c5&&(c6||c3) then [B] else [])
noncomputable def tuG(lv:Int)(N:Nat)(T:Nat->En)(mk:Nat->Int)(p:Int)(n:Nat)(g:Nat->List Sh):Nat->Nat->List JK
 |_,0=>[] |i,r+1=>(GI (Ur lv N T mk n) ⟨p.toNat,g⟩ i).map (G9 n)++tuG lv N T mk p n g (i+1) r
theorem acd(lv:Int)(N:Nat)(T:Nat->En)(mk:Nat->Int)(p:Int)(n:Nat)(g:Nat->List Sh):∀r i,tuG lv N T mk p n g i r=(((aY r).map fun j=>i+j).flatMap (GI (Ur lv N T mk n) ⟨p.toNat,g⟩)).map (G9 n)
 |0,i=>rfl |r+1,i=>by
  rw[tuG,acd lv N T mk p n g r (i+1),rE,jr,oP,iO,mP];congr 3;refine List.map_congr_left fun j _=>?_
  show i+1+j=i+(j+1);omega
theorem ao9(lv:Int)(N:Nat)(T:Nat->En)(mk:Nat->Int)(p:Int)(n:Nat)(g:Nat->List Sh):tuG lv N T mk p n g 0 N=tuL lv N T mk p n g:=by
 rw[acd];unfold tuL turns;have:(aY N).map (fun j=>0+j)=aY N:=by simp
 rw[this];rfl
theorem ar7{lv:Int}{N:Nat}{T:Nat->En}{mk:Nat->Int}{p n:Nat}{g:Nat->List Sh}{i:Nat}(hp:p<2^62)(hi:i<N)(hN:N<=62)(hm:0<=mk i)(hm2:(mk i).toNat<2^N){c1 c2 c3 c4 c5 c6 c7:Bool}
  (e1:Aw.eq (Aw.bin .and .i64 (Aw.bin .shr .i64 (p:Int) (i:Int)) (ah 1)) (ah 1)=c1)
  (e2:Aw.nt (Aw.eq (Aw.bin .andNot .i64 (mk i) (p:Int)) (ah 0))=c2)
  (e3:plO n g (T i).k (T i).g=c3) (e4:Aw.eq (T i).st (ah 3)=c4) (e5:Aw.nt (Aw.eq (T i).st (ah 3))=c5) (e6:Aw.nt (Aw.eq lv (ah 3))=c6) (e7:Aw.eq (T i).st (ah 2)=c7) :
  (GI (Ur lv N T mk n) ⟨p,g⟩ i).map (G9 n)=xF c1 c2 c3 c4 c5 c6 c7 ⟨(T i).id,aF,Aw.bin .or .i64 (p:Int) (Aw.bin .shl .i64 (ah 1) (i:Int)),n,Uo n g (T i).k (T i).g⟩ ⟨(T i).id,aA,Aw.bin .or .i64 (p:Int) (Aw.bin .shl .i64 (ah 1) (i:Int)),n,g⟩/\may (Ur lv N T mk n) p i=(!c1 && !c2):=by
 have hp2:p<2^63:=by omega
 have hmay:may (Ur lv N T mk n) p i=(!c1 && !c2):=by
  rw[<-e1,ar5 hp2 (by omega),<-e2];have:mk i=((mk i).toNat:Int):=(Int.toNat_of_nonneg hm).symm;rw[this,amn hm2 hN hp2,yS];rfl
 refine ⟨?_,hmay⟩;have ho:=or_eq (p:=p) (i:=i) hp2 (by omega);unfold GI;show List.map (G9 n) (if may (Ur lv N T mk n) p i=aF then _ else _)=_;rw[hmay];have hc:(Ur lv N T mk n).com i=(c4||c7):=by rw[<-e4,<-e7];rfl
 have ha:(Ur lv N T mk n).YD i=c5:=by rw[<-e5];rfl
 have hl:(Ur lv N T mk n).all=!c6:=by rw[<-e6];show (lv==3)=!(!(lv==3));rw[yS]
 have hr:(Ur lv N T mk n).run g i=if c3=aF then ay (Uo n g (T i).k (T i).g) else aN:=by rw[<-e3];rfl
 rw[hc,ha,hl];simp only[hr,ho];unfold xF;clear hc ha hl hr hmay e1 e2 e3 e4 e5 e6 e7;cases c1<;>cases c2<;>cases c3<;>cases c4<;>cases c5<;>cases c6<;>cases c7<;>simp[G9,Ur]
end Go.Pl
namespace Go.Proofs
open Go Go.Sx Go.Pl Go.Gm
theorem ajF(stop:Nat->List Nat->Bool)(O:Bh aB (BG W7) 76 D76):Cb aB (C7 Aw W7 Ot stop):=nU (fun g F h=>by
 unfold Ot at h;split at h
 ·cases h;exact O
 ·cases h) fun g h=>by
 unfold Ot at h;split at h;all_goals first|(cases h;done) |kernel_rfl
theorem apa:Bh aB (BG W7) 76 D76:=O76.mono fun H BI args φ hr h=>by
 unfold D76 at h;split at h
 ·split at h
  ·rename_i e0 e1
   obtain ⟨h1,h2,h3⟩:=h;unfold plN at h1;rw[aJ,aJ] at h1;unfold F76;simp only[e0,e1];exact ⟨h1.1,h1.2.1,h1.2.2,h2,h3⟩
  ·exact h.elim
 ·exact h.elim
section
variable{H0:Mem}{w0:World}{φ:Sh->Prop}{lv:Int}{N:Nat}{T:Nat->En}{mk:Nat->Int}{k0:Nat}{g0:Nat->List Sh}{p:Nat}{n:Nat}{g:Nat->List Sh}
theorem apb{α:Type}[Row α](l r:List α)(j:Nat)(h:j<l.length):nth (l++r) j=nth l j:=by
 unfold nth;rw[aX,aX,dM h]
theorem IW{α:Type}[Row α](l:List α)(a:α)(s:List Sh)(hs:s=Row.put a):∀j,j<l.length+1->Aw.snoc (Az (nth l)) l.length (BD [s]) j=Az (nth (l++[a])) j:=fun j hj=>by
 rw[EF];split
 ·rename_i q
  show Row.put (nth l j)=Row.put (nth (l++[a]) j);rw[apb _ _ _ q]
 ·have:j=l.length:=by omega
  subst this;rw[qR];show s=Row.put (nth (l++[a]) l.length);unfold nth;rw[hs];simp
theorem ahM{g g':Nat->List Sh}{n:Nat}(h:∀j,j<n->g j=g' j)(r:Nat->List Sh):Aw.snoc g n r=Aw.snoc g' n r:=by
 funext j;rw[EF,EF];split
 ·exact h j (by assumption)
 ·rfl
theorem alb(Q:TuP lv N T N mk (p:Int) n g):∀r i (acc:List JK),i+r=N->acc.length<=2*i->φ (.sl 4 (acc++tuG lv N T mk p n g i r).length (Az (nth (acc++tuG lv N T mk p n g i r))))->
  BK aB (C7 Aw W7 Ot Bc) (K0 H0 w0) 41 Xo (Zv lv N T N mk k0 g0 p n g acc.length (nth acc) (i:Nat)) [] emp (up φ)
 |0,i,acc,hi,hl,hφ=>by
  refine FW (fn:=sD) (tb:=ak9) (by kernel_rfl) (by kernel_rfl) ?_;refine EP (dn _ _) (ajF _ apa) (hold:=BN) (m:=300) (n:=400) (ts:=[⟨41,Xo,Zv lv N T N mk k0 g0 p n g 0 (nth []) 0,[]⟩]) ?_;have lt {P:Prop} (h:Aw.lt (i:Int) (ah N)=aF):P:=by simp[AO] at h;omega
  have e:acc++tuG lv N T mk p n g i 0=acc:=by rw[tuG,fA]
  rw[e] at hφ;refine ab9 Aw W7 lv N T N mk k0 g0 p n g acc.length 0 (nth acc) (nth []) i 0 rfl rfl rfl rfl rfl rfl rfl rfl ?_ ?_ ?_ ?_ ?_ ?_ ?_ ?_ ?_ ?_ ?_ ?_ ?_ ?_ ?_ ?_ ?_ ?_ ?_ ?_ ?_ ?_ ?_ ?_ ?_ ?_ ?_ ?_ ?_ ?_ ?_ ?_ ?_ ?_ ?_ ?_;all_goals first|(intro q;exact lt q) |skip
  exact fun _=>Cj (s':=.sl 4 acc.length (Az (nth acc))) ajA hφ
 |r+1,i,acc,hi,hl,hφ=>by
  refine FW (fn:=sD) (tb:=ak9) (by kernel_rfl) (by kernel_rfl) ?_;have hlN:=Q.le;have w1:Aw.add .i64 (i:Int) (ah 1)=((i+1:Nat):Int):=add1 (by omega);have no {P:Prop} (h:Aw.lt (i:Int) (ah N)=aA):P:=by simp[AO] at h;omega
  have inb:Aw.inB (i:Int) N=aF:=by simp[BO];omega
  have rm1:Aw.room (Aw.addN acc.length 1) 48=aF:=by rw[ET,decide_eq_true_eq,DU];unfold maxLen;omega
  have rm2:Aw.room (Aw.addN (Aw.addN acc.length 1) 1) 48=aF:=by rw[ET,decide_eq_true_eq,DU,DU];unfold maxLen;omega
  have le0:Aw.le (ah 0) (i:Int)=aF:=by simp[DK]
  have hp:p<2^62:=by have:=Q.lt;omega
  obtain ⟨c1,e1⟩:∃c,Aw.eq (Aw.bin .and .i64 (Aw.bin .shr .i64 (p:Int) (i:Int)) (ah 1)) (ah 1)=c:=⟨_,rfl⟩;obtain ⟨c2,e2⟩:∃c,Aw.nt (Aw.eq (Aw.bin .andNot .i64 (mk (Aw.toN i)) (p:Int)) (ah 0))=c:=⟨_,rfl⟩;obtain ⟨c3,e3⟩:∃c,plO n g (T (Aw.toN i)).k (T (Aw.toN i)).g=c:=⟨_,rfl⟩;obtain ⟨c4,e4⟩:∃c,Aw.eq (T (Aw.toN i)).st (ah 3)=c:=⟨_,rfl⟩;obtain ⟨c5,e5⟩:∃c,Aw.nt (Aw.eq (T (Aw.toN i)).st (ah 3))=c:=⟨_,rfl⟩;obtain ⟨c6,e6⟩:∃c,Aw.nt (Aw.eq lv (ah 3))=c:=⟨_,rfl⟩;obtain ⟨c7,e7⟩:∃c,Aw.eq (T (Aw.toN i)).st (ah 2)=c:=⟨_,rfl⟩;obtain ⟨hx,hmay⟩:=ar7 (lv:=lv) (T:=T) (n:=n) (g:=g) hp (by omega:i<N) Q.le (Q.mpos i (by omega)) (Q.mlt i (by omega)) e1 e2 e3 e4 e5 e6 e7;have hfit:=Q.fit i (by omega);rw[fK,hmay] at hfit;rw[tuG,fK,<-dV] at hφ;have nx:=fun (h:(acc++(GI (Ur lv N T mk n) ⟨p,g⟩ i).map (G9 n)).length<=2*(i+1))=>alb Q r (i+1) (acc++(GI (Ur lv N T mk n) ⟨p,g⟩ i).map (G9 n)) (by omega) h hφ;rw[hx] at nx;generalize hacc:acc++xF _ _ _ _ _ _ _ _ _=acc' at nx;refine EP (dn _ _) (ajF _ apa) (hold:=BN) (m:=300) (n:=400) (ts:=[⟨41,Xo,Zv lv N T N mk k0 g0 p n g acc'.length (nth acc') ((i+1:Nat):Int),[]⟩]) ?_;have lf:∀(mm:Nat) (gg:Nat->List Sh),mm=acc'.length->(∀j,j<mm->gg j=Az (nth acc') j)->acc'.length<=2*(i+1)->Jq aB (C7 Aw W7 Ot Bc) (K0 H0 w0) [⟨41,Xo,Zv lv N T N mk k0 g0 p n g acc'.length (nth acc') ((i+1:Nat):Int),[]⟩] emp (up φ)
    (bJ 0 [aK 1 1,bF (fun _=>CG lv N T N mk k0 g0) fun _=>CG lv N T N mk k0 g0,aK 0 0,aP (aH 7 N (Az T)) (aH 7 N (Az T)),ak (ah N) (ah N),ak (Aw.add .i64 i (ah 1)) ((i+1:Nat):Int),ak p p,aP (aH 4 n g) (aH 4 n g),aK mm acc'.length,aV mm gg (Az (nth acc'))]):=
   fun mm gg e1 e2 e3=>⟨⟨rfl,rfl,rfl,rfl,rfl,w1,rfl,rfl,e1,e2,trivial⟩,_,rfl,nx e3⟩
  have l0 (h:acc'=acc):=lf acc.length (Az (nth acc)) (by rw[h]) (fun j _=>by rw[h]) (by rw[h];omega);have l1 (a:JK) (h:acc'=acc++[a]):=lf (Aw.addN acc.length 1) (Aw.snoc (Az (nth acc)) acc.length (BD [Row.put a])) (by rw[h,bf];rfl) (fun j hj=>by rw[h];exact IW acc a _ rfl j hj) (by rw[h,bf];show acc.length+1<=_;omega);have l2 (a b:JK) (h:acc'=acc++[a,b]):=lf (Aw.addN (Aw.addN acc.length 1) 1) (Aw.snoc (Aw.snoc (Az (nth acc)) acc.length (BD [Row.put a])) (Aw.addN acc.length 1) (BD [Row.put b])) (by rw[h,bf];rfl) (fun j hj=>by
   have e:=IW (acc++[a]) b _ rfl j (by rw[bf];exact hj);rw[dV,bf] at e;rw[h];have e2:=ahM (n:=acc.length+1) (fun j hj=>IW acc a _ rfl j hj) (BD [Row.put b]);exact (congrFun e2 j).trans e) (by rw[h,bf];show acc.length+2<=_;omega)
  clear lf nx;refine ab9 Aw W7 lv N T N mk k0 g0 p n g acc.length acc'.length (nth acc) (nth acc') i ((i+1:Nat):Int) rfl e1 e2 e3 e4 e5 e6 e7
   (fun _=>inb)
   (fun _=>le0)
   (fun _ _=>inb)
   (fun _ q1 q2=>hfit (by rw[q1,q2];rfl))
   (fun _ _ _ _ _=>rm1)
   (fun _ _ _ _ _ _ _=>rm2)
   (fun _ _ _ _ _ _ _=>rm2)
   (fun _ _ _ _ _ _=>rm1)
   (fun _ _ _ _ _ _ _ _=>rm2)
   (fun _ _ _ _ _ _ _ _=>rm2)
   (fun _ _ _ _ _ _ _ _=>rm1)
   (fun _ _ _ _ _ _ _ _=>rm1)
   (fun _ _ _ _ _ _ _=>rm1)
   (fun _ _ _ _ _ _ _ _=>rm1)
   (fun _ _ _ _ _ _ _ _=>rm1)
   (fun _ q1=>l0 (by rw[<-hacc,q1];exact fA _))
   (fun _ q1 q2=>l0 (by rw[<-hacc,q1,q2];exact fA _))
   (fun _ q1 q2 q3 q4 q5 q6=>l2 _ _ (by rw[<-hacc,q1,q2,q3,q4,q5,q6];rfl))
   (fun _ q1 q2 q3 q4 q5 q6=>l2 _ _ (by rw[<-hacc,q1,q2,q3,q4,q5,q6];rfl))
   (fun _ q1 q2 q3 q4 q5=>l1 _ (by rw[<-hacc,q1,q2,q3,q4,q5];rfl))
   (fun _ q1 q2 q3 q4 q5 q6 q7=>l2 _ _ (by rw[<-hacc,q1,q2,q3,q4,q5,q6,q7];rfl))
   (fun _ q1 q2 q3 q4 q5 q6 q7=>l2 _ _ (by rw[<-hacc,q1,q2,q3,q4,q5,q6,q7];rfl))
   (fun _ q1 q2 q3 q4 q5 q6=>l1 _ (by rw[<-hacc,q1,q2,q3,q4,q5,q6];rfl))
   (fun _ q1 q2 q3 q4 q5 q6 q7=>l1 _ (by rw[<-hacc,q1,q2,q3,q4,q5,q6,q7];rfl))
   (fun _ q1 q2 q3 q4 q5 q6 q7=>l1 _ (by rw[<-hacc,q1,q2,q3,q4,q5,q6,q7];rfl))
   (fun _ q1 q2 q3 q4 q5 q6=>l0 (by rw[<-hacc,q1,q2,q3,q4,q5,q6];exact fA _))
   (fun _ q1 q2 q3 q4 q5 q6=>l1 _ (by rw[<-hacc,q1,q2,q3,q4,q5,q6];rfl))
   (fun _ q1 q2 q3 q4 q5 q6=>l0 (by rw[<-hacc,q1,q2,q3,q4,q5,q6];exact fA _))
   (fun _ q1 q2 q3 q4 q5=>l0 (by rw[<-hacc,q1,q2,q3,q4,q5];exact fA _))
   (fun _ q1 q2 q3 q4 q5 q6 q7=>l1 _ (by rw[<-hacc,q1,q2,q3,q4,q5,q6,q7];rfl))
   (fun _ q1 q2 q3 q4 q5 q6 q7=>l0 (by rw[<-hacc,q1,q2,q3,q4,q5,q6,q7];exact fA _))
   (fun _ q1 q2 q3 q4 q5 q6=>l0 (by rw[<-hacc,q1,q2,q3,q4,q5,q6];exact fA _))
   (fun _ q1 q2 q3 q4 q5 q6 q7=>l1 _ (by rw[<-hacc,q1,q2,q3,q4,q5,q6,q7];rfl))
   (fun _ q1 q2 q3 q4 q5 q6 q7=>l0 (by rw[<-hacc,q1,q2,q3,q4,q5,q6,q7];exact fA _))
   (fun _ q1 q2 q3 q4 q5 q6=>l0 (by rw[<-hacc,q1,q2,q3,q4,q5,q6];exact fA _))
   (fun q=>no q)
end
def aat(H:Mem):List Sh->List Sh->Prop
 |[],[]=>True |s::l,s'::l'=>(∀u,Rep H s u->Rep H s' u)/\aat H l l' |_,_=>False
theorem afy{H:Mem}:∀{l l':List Sh},aat H l l'->l'.length=l.length/\∀(j:Nat) (s':Sh),l'[j]?=ay s'->∃s:Sh,l[j]?=ay s/\∀u,Rep H s u->Rep H s' u
 |[],[],_=>⟨rfl,fun j s' h=>by cases h⟩ |_::_,_::_,⟨h,t⟩=>by
  obtain ⟨e,q⟩:=afy t;refine ⟨by simp[e],fun j s' h'=>?_⟩;match j,h' with
  |0,h'=>cases h';exact ⟨_,rfl,h⟩ |j+1,h'=>exact q j s' h'
 |[],_::_,h=>h.elim |_::_,[],h=>h.elim
theorem ahN{H:Mem}{l l':List Sh}{v:Value}(hr:Rep H (.pt l) v)(h:aat H l l'):Rep H (.pt l') v:=by
 obtain ⟨e,q⟩:=afy h;cases hr with
 |pt _ b off c h1 h2 h3=>
  exact .pt _ b off c (fun j hj=>h1 j (by omega)) (fun j hj=>h2 j (by omega)) fun j s' hs=>by
   obtain ⟨s,hs',hu⟩:=q j s' hs;exact hu _ (h3 j s hs')
theorem QN{H:Mem}{l l':List Sh}{v:Value}(hr:Rep H (.agg l) v)(h:aat H l l'):Rep H (.agg l') v:=by
 obtain ⟨e,q⟩:=afy h;cases hr with
 |agg _ vs h1 h3=>
  exact .agg _ vs (by omega) fun j s' u hs hv=>by
   obtain ⟨s,hs',hu⟩:=q j s' hs;exact hu _ (h3 j s u hs' hv)
theorem ahO{H:Mem}{st n:Nat}{g:Nat->List Sh}{u:Value}(h:(fC st 4||fC n 0)=aF)(hr:Rep H (.sl st n g) u):Rep H (.sl 4 n g) u:=by
 rw[Bool.or_eq_true] at h;rcases h with h|h
 ·obtain rfl:=fH h
  exact hr
 ·obtain rfl:=fH h
  exact QB hr (.inl ⟨rfl,rfl⟩)
theorem awF:Bh aB (BG W7) 41 D41:=by
 refine FX (C:=C7 Aw W7 Ot Bc) (dn _ _) (fn:=sD) (by kernel_rfl) (by kernel_rfl) fun H w BI args φ hrep h=>?_
 have hn:sD.ntmps=104:=by kernel_rfl
 unfold D41 at h;split at h
 ·rename_i lv s1 s2 s3 t st n g
  split at h
  ·rename_i N T' N' mk' q0 p e1 e2 e4 e3
   obtain ⟨h1,hφ⟩:=h;unfold tuB at h1;rw[aJ,aJ,aJ] at h1;obtain ⟨a1,a2,a3,a4⟩:=h1;have Q:TuP lv N (AB T') N' (AB mk') p n g:=@of_decide_eq_true _ (bG _) a4;obtain rfl:=Q.eq;obtain ⟨q,rfl⟩:=Int.eq_ofNat_of_zero_le Q.pos;match args,hrep with
   |[v,u],⟨rv,ru,_⟩=>
    obtain ⟨k0,g0⟩:=q0;refine ⟨[.pt (CG lv N (AB T') N (AB mk') k0 g0),.agg [.i .i64 (q:Int),.sl 4 n g]],⟨ahN rv ⟨fun _ r=>r,fun _ r=>EK (Ce e1 r) a1,fun _ r=>EK (Ce e2 r) a2,fun _ r=>Ce e4 r,trivial⟩,QN ru ⟨fun _ r=>EH e3 r,fun _ r=>ahO a3 r,trivial⟩,trivial⟩,L0,?_⟩;have hφ:φ (.sl 4 (tuL lv N (AB T') (AB mk') (q:Int) n g).length (Az (nth (tuL lv N (AB T') (AB mk') (q:Int) n g)))):=hφ;rw[<-ao9] at hφ;refine EP (dn _ _) (ajF _ apa) (hold:=BN) (m:=300) (n:=400) (ts:=[⟨41,Xo,Zv lv N (AB T') N (AB mk') k0 g0 q n g 0 (nth []) ((0:Nat):Int),[]⟩]) ?_;rw[hn];exact ajE Aw W7 lv N (AB T') N (AB mk') k0 g0 q n g 0 (nth []) _ ⟨⟨rfl,rfl,rfl,rfl,rfl,rfl,rfl,rfl,rfl,trivial⟩,_,rfl,alb Q N 0 [] (by omega) (by simp) hφ⟩
  ·exact h.elim
 ·exact h.elim
open Go Go.Conc Go.RowKit
set_option maxRecDepth 100000 in
theorem ahP(w:World):Calls aB 69 #[.chan aN] w fun e w'=>e=.returned (.bool aA)/\w'=w:=by
 refine calls_of_loneTo fun cs=>?_
 have e:gQ aB 69 #[.chan aN] .normal=(Ap 69).at ⟨#[.chan aN,undef,undef,undef,undef,undef,undef],[]⟩ [.code (sF.body.getD .skip)]:=by
  simp[gQ,Frame.at,zC,Ap,sF]
 rw[e];refine LoneTo.goes (n:=14) ?_;simp only[sF,oI];s_c stepG_seq
 s_reg
 s_op
 s_c stepG_region_end
 s_c stepG_seq
 s_reg
 s_op
 s_c stepG_region_end
 s_c stepG_seq
 s_reg
 s_stop
 refine LoneTo.step (step_lone_select_recv_nil (z:=.agg #[]) (stepG_comm (cases:=#[rcaseNil (.agg #[])]) (blocking:=aA) (shape:=.select) (w':=w) rfl rfl (by decide) (by simp[go_sem,execOp,rcaseNil,Act.eval]))) ?_;rw[Frame.finish_at];walk_nrm
 refine LoneTo.goes (n:=10) ?_;s_op
 s_op
 s_c stepG_region_end
 s_c stepG_block
 s_cond aA
 s_c stepG_seq
 s_reg
 s_op
 s_c stepG_region_end
 s_c stepG_ret'
 s_stop
 exact LoneTo.done ⟨.returned (.bool aA),_,rfl,⟨rfl,rfl⟩,rfl,rfl,rfl,rfl,_,zC,by simp[results,sF,Frame.at]⟩
def apc:List Aq->Go.Sx.Tree Aq
 |[.v (.chan aN)]=>.leaf (.b aA) |_=>.fail
theorem awG:Go.Sx.Bh aB (BG W7) 69 apc:=by
 intro H w BI args φ hon hg hr h;unfold apc at h;split at h
 ·match args,hr with
  |[v],⟨rv,_⟩=>
   cases rv;refine Calls.mono (ahP w) fun e w' ⟨he,hw⟩=>?_;subst hw;exact ⟨_,_,H,he,h,fun _ _ h=>h,hon,rfl,rfl,rfl,dw _,fun _ _=>rfl,fun b h=>.inl h,fun b0=>⟨fun _=>aN,fun i h=>absurd rfl h,fun i b h=>(by cases h),rfl,Go.Sx.Px⟩⟩
 ·exact h.elim
end Go.Proofs
namespace Go.Pl
open Go Go.Sx Go.Proofs
structure Ij where
 okb:Bool
 Vr:Bool
 pos:Int
 e:Nat
 lv:Int
 N:Nat
 T:Nat->En
 ms:Nat->Int
 k0:Nat
 g0:Nat->List Sh
noncomputable def apd(s:Sh)(l:Int)(h:Sh)(lv:Int):Bool:=@decide (s=h/\l=lv) (bG _)
noncomputable def Z7(st n:Nat)(g:Nat->List Sh):Bool:=(fC st 4||fC n 0)&&(stB n g&&keysB n (EG n g))
noncomputable def OW(n:Nat)(g:Nat->List Sh):List UInt8:=aec ((aY n).map (EG n g))
structure Tj where
 placed:Int
 st:Nat
 n:Nat
 g:Nat->List Sh
instance:Inhabited Tj:=⟨⟨0,0,0,fun _=>[]⟩⟩
instance:Row Tj where
 put x:=[.i .i64 x.placed,.sl x.st x.n x.g]
 get l:=match l with
  |[.i .i64 a,.sl s n g]=>ay ⟨a,s,n,g⟩ |_=>aN
 DJ l a h:=by
  split at h
  ·cases h;rfl
  ·cases h
 get_put a:=rfl
 JJ:=default
structure PrQ where
 placed:Int
 key:List UInt8
instance:Inhabited PrQ:=⟨⟨0,[]⟩⟩
instance:Row PrQ where
 put x:=[.i .i64 x.placed,.str x.key]
 get l:=match l with
  |[.i .i64 a,.str k]=>ay ⟨a,k⟩ |_=>aN
 DJ l a h:=by
  split at h
  ·cases h;rfl
  ·cases h
 get_put a:=rfl
 JJ:=default
end Go.Pl
namespace Go.Proofs
open Go Go.Sx Go.Pl
noncomputable def Xq(h0:Sh)(lv:Int)(B:Ij):List Sh->Tree Sh
 |[s,t]=>match BH t with
  |some l=>.need (apd s l h0 lv) (.node B.okb (.leaf (.Ba [.pt (CG B.lv B.N B.T B.N B.ms B.k0 B.g0),.v .nilIface]))
   (.node B.Vr (.leaf (.Ba [.v (.pointer aN),.Dv 109 (.pt [.i .i64 B.pos,.er B.e 329])])) (.leaf (.Ba [.v (.pointer aN),.er B.e 329]))))
  |none=>.fail
 |_=>.fail
noncomputable def D92:List Sh->Tree Sh
 |[.agg [.sl st n g]]=>.need (Z7 st n g) (.leaf (.str (OW n g))) |_=>.fail
noncomputable def DC(h0:Sh)(lv:Int)(B:Ij):Nat->Option (List Sh->Tree Sh)
 |40=>ay (Xq h0 lv B) |41=>ay D41 |69=>ay apc |92=>ay D92 |_=>aN
def tdA:List It:=[bD [0,0,1,1,1,1,1,1,1,1,1,1],dh 0,bD [1,1,1,1,1,1,1,1,1,1,1]]
def tbA:List It:=bD [0,0,0,1,1,1,1,1,1,1,1,1,1]::tdA
def hpA(B:Ij)(mo:Int)(M:Int×List UInt8->Option Value)(c:Nat)(cr:Nat->PrQ)(at_:Int)(q:Nat)(qr:Nat->Tj)(m:Nat)(od:Nat->Vp):List (Nat×SB):=
 [(1,.box [.bool aA,.Bj,.int .i64 0] 44),(2,.pm .int M []),(3,.box [.sym .i64 mo,.mp 2,.gs 7] 204),(4,.box [.ptr 3 0] 154),(5,.box [.gs 8,.sym .i64 at_] 160),(6,.box [.gs 9] 158),(7,.own 157 2 c (Az cr)),(8,.own 104 2 q (Az qr)),(9,.own 104 2 m (Az od))]
def tmA(B:Ij):List (Nat×SV):=[(0,.val (.chan aN)),(8,.ptr 1 0),(10,.G5 4 1 (fun _=>CG B.lv B.N B.T B.N B.ms B.k0 B.g0) 0 0),(12,.ptr 4 0),(13,.ptr 5 0),(14,.ptr 6 0),(15,.fn 64 [.ptr 4 0,.ptr 5 0,.ptr 6 0])]
def LA(B:Ij)(mo:Int)(M:Int×List UInt8->Option Value)(c:Nat)(cr:Nat->PrQ)(at_:Int)(q:Nat)(qr:Nat->Tj)(m:Nat)(od:Nat->Vp):Core:=
 {tm:=F8 111 (tmA B),hp:=hpA B mo M c cr at_ q qr m od,nx:=10,lim:=L0,tc:=[]}
def tdB:List It:=[bD [0,1,1,1,1,0,0,0,0,1,1,1,1,1,1,1,1,1,1],dh 2,dh 1,bD [0,0,1,1,1,1,1,1,1,1,1,1],dh 0,bD [1,1,1,1,1,1,1,1,1,1,1]]
def tbB:List It:=bD [0,0,1,1,1,1,0,0,0,0,1,1,1,1,1,1,1,1,1,1]::tdB
def LB(B:Ij)(mo:Int)(M:Int×List UInt8->Option Value)(c:Nat)(cr:Nat->PrQ)(at_:Int)(q:Nat)(qr:Nat->Tj)(m:Nat)(od:Nat->Vp)(t:Nat)(tr:Nat->JK)(j:Int):Core:=
 {tm:=F8 111 (tmA B++[(76,.sh (.sl 4 t (Az tr))),(77,.sym .i64 (t:Int)),(78,.sym .i64 j)]),hp:=hpA B mo M c cr at_ q qr m od,nx:=10,lim:=L0,tc:=[]}
def OX(B:Ij):List Fr:=[{g:=39,td:=[It.reg [0,1,1,1,1,1,1,1,1,1,1,1,1] [2,3],bD [1,1,1,1,1,1,1,1,1,1,1,1,1]],tm:=F8 111 [(8,.ptr 1 0),(10,.G5 4 1 (fun _=>CG B.lv B.N B.T B.N B.ms B.k0 B.g0) 0 0),(22,.ptr 11 0)]}]
def Z8:List It:=[bD [0,1,0,1,1],dh 0,bD [1,1,1]]
def tbC:List It:=bD [0,0,1,0,1,1]::Z8
def hpC(m:Nat)(od:Nat->Vp)(M:Int×List UInt8->Option Value)(c:Int):List (Nat×SB):=[(1,.box [.bool aA,.Bj,.int .i64 0] 44),(9,.own 104 2 m (Az od)),(10,.pm .bool M []),(11,.box [.bool aA,.Bj,.sym .i64 c] 44)]
def tmC(B:Ij)(i:Int):List (Nat×SV):=[(0,.G5 4 1 (fun _=>CG B.lv B.N B.T B.N B.ms B.k0 B.g0) 0 0),(1,.gs 9),(5,.mp 10),(6,.sym .i64 i)]
def LC(B:Ij)(m:Nat)(od:Nat->Vp)(M:Int×List UInt8->Option Value)(c:Int)(i:Int):Core:={tm:=F8 50 (tmC B i),hp:=hpC m od M c,nx:=12,lim:=L0,tc:=[]}
theorem ajH(A:Prim)(W:Wd)(B:Ij)(lv mo:Int)(o m:Nat)(og mg:Nat->List Sh)(mo':Int)(M':Int×List UInt8->Option Value)(c':Nat)(QO:Nat->PrQ)(at':Int)(q':Nat)(Xr:Nat->Tj)(m':Nat)(od':Nat->Vp){ψ:Eo->Prop}{c0 c1 c2 c3 c4 c5 c6 c7:Bool}(e0:A.lt lv (ah 1)=c0)(e1:A.lt (ah 3) lv=c1)(e2:A.lt mo (ah 1)=c2)(e3:A.lt (ah 65536) mo=c3)(e4:B.okb=c4)(e5:A.isS aN=c5)(e6:A.eq (ah 0) (A.max mo (ah 0))=c6)(e7:B.Vr=c7)(h1:c0=aA->c1=aA->c2=aA->c3=aA->(apd (bU [aH 2 o og,aH 8 m mg]) lv (bU [aH 2 o og,aH 8 m mg]) lv)=aF)(h2:c0=aA->c1=aA->c2=aA->c3=aA->c4=aF->(Z7 4 B.k0 B.g0)=aF)(y1:c0=aF->ψ (aU (cZ [bU [gq aA,aH 0 0 fun _=>[],aZ .i64 (ah 0)],bC 2 329])))(y2:c0=aA->c1=aF->ψ (aU (cZ [bU [gq aA,aH 0 0 fun _=>[],aZ .i64 (ah 0)],bC 2 329])))(y3:c0=aA->c1=aA->c2=aF->ψ (aU (cZ [bU [gq aA,aH 0 0 fun _=>[],aZ .i64 (ah 0)],bC 4 329])))(y4:c0=aA->c1=aA->c2=aA->c3=aF->ψ (aU (cZ [bU [gq aA,aH 0 0 fun _=>[],aZ .i64 (ah 0)],bC 4 329])))(y5:c0=aA->c1=aA->c2=aA->c3=aA->c4=aF->c5=aF->ψ (bJ 0 [kX (iJ aN) (iJ aN),aK 1 1,bF (fun (x:Nat)=>CG B.lv B.N B.T B.N B.ms B.k0 B.g0) fun (x:Nat)=>CG B.lv B.N B.T B.N B.ms B.k0 B.g0,aK 0 0,ak (ah 0) (ah 0),jm (fun (x:Int×List UInt8)=>aN) M',ak (A.max mo (ah 0)) mo',ak (ah 0) at',aK c' 0,aK q' 0,aK m' 0]))(y6:c0=aA->c1=aA->c2=aA->c3=aA->c4=aF->c5=aA->c6=aF->ψ (aU (cZ [bU [gq aA,aH 0 0 fun _=>[],aZ .i64 (ah 0)],bC 0 329])))(y7:c0=aA->c1=aA->c2=aA->c3=aA->c4=aF->c5=aA->c6=aA->ψ (bJ 0 [kX (iJ aN) (iJ aN),aK 1 1,bF (fun (x:Nat)=>CG B.lv B.N B.T B.N B.ms B.k0 B.g0) fun (x:Nat)=>CG B.lv B.N B.T B.N B.ms B.k0 B.g0,aK 0 0,ak (ah 0) (ah 0),jm (Md (ah 0,OW B.k0 B.g0) (ay (iU .i64 (ah 0))) fun (x:Int×List UInt8)=>aN) M',ak (A.max mo (ah 0)) mo',ak (ah 0) at',aK 1 c',aV 1 (BD [[aZ .i64 (ah 0),dA (OW B.k0 B.g0)]]) (Az QO),aK 1 q',aV 1 (BD [[aZ .i64 (ah 0),aH 4 B.k0 B.g0]]) (Az Xr),aK 1 m',aV 1 (BD [[aZ .i64 (ah 0),aH 4 B.k0 B.g0]]) (Az od')]))(y8:c0=aA->c1=aA->c2=aA->c3=aA->c4=aA->c7=aF->ψ (aU (cZ [bU [gq aA,aH 0 0 fun _=>[],aZ .i64 (ah 0)],Sh.Dv 109 (tZ [aZ .i64 B.pos,bC B.e 329])])))(y9:c0=aA->c1=aA->c2=aA->c3=aA->c4=aA->c7=aA->ψ (aU (cZ [bU [gq aA,aH 0 0 fun _=>[],aZ .i64 (ah 0)],bC B.e 329]))):CZ ψ (BA (C7 A W (DC (.agg [.sl 2 o og,.sl 8 m mg]) lv B) Bc) BN 300 400 39 [.code []] (AL 111 [.v (.chan aN),.agg [.sl 2 o og,.sl 8 m mg],.i .i64 lv,.i .i64 mo] L0) [] [⟨39,tdA,LA B mo' M' c' QO at' q' Xr m' od',[]⟩]):=by
 subst e0 e1 e2 e3 e4 e5 e6 e7;exact aoZ (by kernel_rfl) (an y1 (fun q0=>an (y2 q0) (fun q1=>an (y3 q0 q1) (fun q2=>an (y4 q0 q1 q2) (fun q3=>an (h1 q0 q1 q2 q3) (an (fun q4=>an (h2 q0 q1 q2 q3 q4) (an (y5 q0 q1 q2 q3 q4) (fun q5=>an (y6 q0 q1 q2 q3 q4 q5) (y7 q0 q1 q2 q3 q4 q5)))) (fun q4=>an (y8 q0 q1 q2 q3 q4) (y9 q0 q1 q2 q3 q4)))))))) (by kernel_rfl)
theorem Vs(A:Prim)(W:Wd)(B:Ij)(hs:Sh)(lv mo:Int)(M:Int×List UInt8->Option Value)(c:Nat)(cr:Nat->PrQ)(at_:Int)(q:Nat)(qr:Nat->Tj)(m:Nat)(od:Nat->Vp)(at':Int)(q':Nat)(Xr:Nat->Tj)(t:Nat)(tr:Nat->JK)(M':Int×List UInt8->Option Value)(c' i':Int){ψ:Eo->Prop}{c0 c1 c2:Bool}(e0:A.eq at_ (A.Bl q)=c0)(e1:A.eq (A.add .i64 at_ (ah 1)) (A.Bl q)=c1)(e2:aA=c2)(h1:c0=aA->(A.inB at_ q)=aF)(h2:c0=aA->c1=aF->c2=aA->(tuB B.lv B.N (Az B.T) B.N (Az B.ms) (qr (A.toN at_)).placed (qr (A.toN at_)).st (qr (A.toN at_)).n (qr (A.toN at_)).g)=aF)(h3:c0=aA->c1=aA->c2=aA->(tuB B.lv B.N (Az B.T) B.N (Az B.ms) (qr (A.toN at_)).placed (qr (A.toN at_)).st (qr (A.toN at_)).n (qr (A.toN at_)).g)=aF)(y1:c0=aF->ψ (bJ 1 [aK 1 1,bF (fun (x:Nat)=>CG B.lv B.N B.T B.N B.ms B.k0 B.g0) fun (x:Nat)=>CG B.lv B.N B.T B.N B.ms B.k0 B.g0,aK 0 0,ak (A.sub .i64 (A.Bl m) (ah 1)) i',ak (ah 0) (ah 0),aK m m,aV m (Az od) (Az od),jm (fun (x:Int×List UInt8)=>aN) M',ak (A.Bl c) c',aK 1 1,bF (fun (x:Nat)=>CG B.lv B.N B.T B.N B.ms B.k0 B.g0) fun (x:Nat)=>CG B.lv B.N B.T B.N B.ms B.k0 B.g0,aK 0 0]))(y2:c0=aA->c1=aF->c2=aF->ψ (aU (cZ [bU [gq aA,aH 0 0 fun _=>[],aZ .i64 (ah 0)],bC 5 329])))(y3:c0=aA->c1=aF->c2=aA->ψ (bJ 0 [kX (iJ aN) (iJ aN),aK 1 1,bF (fun (x:Nat)=>CG B.lv B.N B.T B.N B.ms B.k0 B.g0) fun (x:Nat)=>CG B.lv B.N B.T B.N B.ms B.k0 B.g0,aK 0 0,aP (aH 4 (OV B.lv B.N (Az B.T) (Az B.ms) (qr (A.toN at_)).placed (qr (A.toN at_)).n (qr (A.toN at_)).g) (Az (Z5 B.lv B.N (Az B.T) (Az B.ms) (qr (A.toN at_)).placed (qr (A.toN at_)).n (qr (A.toN at_)).g))) (aH 4 t (Az tr)),ak (A.Bl (OV B.lv B.N (Az B.T) (Az B.ms) (qr (A.toN at_)).placed (qr (A.toN at_)).n (qr (A.toN at_)).g)) (ah t),ak (ah 0) (ah 0),ak (ah 0) (ah 0),jm M M,ak mo mo,ak (ah 0) at',aK c c,aV c (Az cr) (Az cr),aK q' 0,aK m m,aV m (Az od) (Az od)]))(y4:c0=aA->c1=aA->c2=aF->ψ (aU (cZ [bU [gq aA,aH 0 0 fun _=>[],aZ .i64 (ah 0)],bC 5 329])))(y5:c0=aA->c1=aA->c2=aA->ψ (bJ 0 [kX (iJ aN) (iJ aN),aK 1 1,bF (fun (x:Nat)=>CG B.lv B.N B.T B.N B.ms B.k0 B.g0) fun (x:Nat)=>CG B.lv B.N B.T B.N B.ms B.k0 B.g0,aK 0 0,aP (aH 4 (OV B.lv B.N (Az B.T) (Az B.ms) (qr (A.toN at_)).placed (qr (A.toN at_)).n (qr (A.toN at_)).g) (Az (Z5 B.lv B.N (Az B.T) (Az B.ms) (qr (A.toN at_)).placed (qr (A.toN at_)).n (qr (A.toN at_)).g))) (aH 4 t (Az tr)),ak (A.Bl (OV B.lv B.N (Az B.T) (Az B.ms) (qr (A.toN at_)).placed (qr (A.toN at_)).n (qr (A.toN at_)).g)) (ah t),ak (ah 0) (ah 0),ak (ah 0) (ah 0),jm M M,ak mo mo,ak (A.add .i64 at_ (ah 1)) at',aK c c,aV c (Az cr) (Az cr),aK q q',aV q (A.upd (Az qr) (A.toN at_) 0 [aZ .i64 (ah 0),aH 0 0 fun _=>[]]) (Az Xr),aK m m,aV m (Az od) (Az od)])):CZ ψ (BA (C7 A W (DC hs lv B) Bc) BN 300 400 39 tbA (LA B mo M c cr at_ q qr m od) [] [⟨39,tdB,LB B mo M c cr at' q' Xr m od t tr 0,[]⟩,⟨71,Z8,LC B m od M' c' i',OX B⟩]):=by
 subst e0 e1 e2;exact FK (an y1 (fun q0=>an (h1 q0) (an (h1 q0) (an (fun q1=>an (y2 q0 q1) (fun q2=>an (h2 q0 q1 q2) (y3 q0 q1 q2))) (fun q1=>an (y4 q0 q1) (fun q2=>an (h3 q0 q1 q2) (y5 q0 q1 q2))))))) (by kernel_rfl)
theorem QS(A:Prim)(W:Wd)(B:Ij)(hs:Sh)(lv mo:Int)(M M':Int×List UInt8->Option Value)(c c':Nat)(cr QO:Nat->PrQ)(at_:Int)(q q':Nat)(qr Xr:Nat->Tj)(m m':Nat)(od od':Nat->Vp)(t:Nat)(tr:Nat->JK)(j j':Int){ψ:Eo->Prop}{c0 c1 c2:Bool}(e0:A.lt j (ah t)=c0)(e1:A.isS (M ((tr (A.toN j)).placed,OW (tr (A.toN j)).n (tr (A.toN j)).g))=c1)(e2:A.eq (A.Bl c) mo=c2)(h1:c0=aF->(A.inB j t)=aF)(h2:c0=aF->(Z7 4 (tr (A.toN j)).n (tr (A.toN j)).g)=aF)(h3:c0=aF->c1=aA->c2=aA->(A.room (A.addN c 1) 24)=aF)(h4:c0=aF->c1=aA->c2=aA->(A.room (A.addN q 1) 32)=aF)(h5:c0=aF->c1=aA->c2=aA->(A.room (A.addN m 1) 32)=aF)(y1:c0=aF->c1=aF->ψ (bJ 0 [kX (iJ aN) (iJ aN),aK 1 1,bF (fun (x:Nat)=>CG B.lv B.N B.T B.N B.ms B.k0 B.g0) fun (x:Nat)=>CG B.lv B.N B.T B.N B.ms B.k0 B.g0,aK 0 0,aP (aH 4 t (Az tr)) (aH 4 t (Az tr)),ak (ah t) (ah t),ak (A.add .i64 j (ah 1)) j',ak (ah 0) (ah 0),jm M M',ak mo mo,ak at_ at_,aK c c',aV c (Az cr) (Az QO),aK q q',aV q (Az qr) (Az Xr),aK m m',aV m (Az od) (Az od')]))(y2:c0=aF->c1=aA->c2=aF->ψ (aU (cZ [bU [gq aA,aH 0 0 fun _=>[],aZ .i64 (ah 0)],bC 0 329])))(y3:c0=aF->c1=aA->c2=aA->ψ (bJ 0 [kX (iJ aN) (iJ aN),aK 1 1,bF (fun (x:Nat)=>CG B.lv B.N B.T B.N B.ms B.k0 B.g0) fun (x:Nat)=>CG B.lv B.N B.T B.N B.ms B.k0 B.g0,aK 0 0,aP (aH 4 t (Az tr)) (aH 4 t (Az tr)),ak (ah t) (ah t),ak (A.add .i64 j (ah 1)) j',ak (ah 0) (ah 0),jm (Md ((tr (A.toN j)).placed,OW (tr (A.toN j)).n (tr (A.toN j)).g) (ay (iU .i64 (A.Bl c))) M) M',ak mo mo,ak at_ at_,aK (A.addN c 1) c',aV (A.addN c 1) (A.snoc (Az cr) c (BD [[aZ .i64 (tr (A.toN j)).placed,dA (OW (tr (A.toN j)).n (tr (A.toN j)).g)]])) (Az QO),aK (A.addN q 1) q',aV (A.addN q 1) (A.snoc (Az qr) q (BD [[aZ .i64 (tr (A.toN j)).placed,aH 4 (tr (A.toN j)).n (tr (A.toN j)).g]])) (Az Xr),aK (A.addN m 1) m',aV (A.addN m 1) (A.snoc (Az od) m (BD [[aZ .i64 (tr (A.toN j)).placed,aH 4 (tr (A.toN j)).n (tr (A.toN j)).g]])) (Az od')]))(y4:c0=aA->ψ (bJ 1 [kX (iJ aN) (iJ aN),aK 1 1,bF (fun (x:Nat)=>CG B.lv B.N B.T B.N B.ms B.k0 B.g0) fun (x:Nat)=>CG B.lv B.N B.T B.N B.ms B.k0 B.g0,aK 0 0,ak (ah 0) (ah 0),jm M M,ak mo mo,ak at_ at_,aK c c,aV c (Az cr) (Az cr),aK q q,aV q (Az qr) (Az qr),aK m m,aV m (Az od) (Az od)])):CZ ψ (BA (C7 A W (DC hs lv B) Bc) BN 300 400 39 tbB (LB B mo M c cr at_ q qr m od t tr j) [] [⟨39,tdB,LB B mo M' c' QO at_ q' Xr m' od' t tr j',[]⟩,⟨39,tdA,LA B mo M c cr at_ q qr m od,[]⟩]):=by
 subst e0 e1 e2;exact aoZ (by kernel_rfl) (an (fun q0=>an (h1 q0) (an (h2 q0) (an (y1 q0) (fun q1=>an (y2 q0 q1) (fun q2=>an (h3 q0 q1 q2) (an (h3 q0 q1 q2) (an (h4 q0 q1 q2) (an (h4 q0 q1 q2) (an (h5 q0 q1 q2) (y3 q0 q1 q2)))))))))) y4) (by kernel_rfl)
end Go.Proofs
namespace Go.Pl
open Go Go.Sx Go.Proofs
structure DF where
 tx:Int
 com:Bool
 deriving DecidableEq
instance:Inhabited DF:=⟨⟨0,aA⟩⟩
instance:Row DF where
 put x:=[.i .i64 x.tx,.b x.com]
 get l:=match l with
  |[.i .i64 a,.b c]=>ay ⟨a,c⟩ |_=>aN
 DJ l a h:=by
  split at h
  ·cases h;rfl
  ·cases h
 get_put a:=rfl
 JJ:=default
end Go.Pl
namespace Go.Proofs
open Go Go.Sx Go.Pl
def tdD:List It:=[bD [0,1,0,1,1,0,0,1,0,0,1,0,1,1],dh 2,bD [1,1,1,0,0,1,0,0,1,0,1,1],dh 1,bD [1,1,0,0,1,0,1,1],bD [0,1,0,1,1],dh 0,bD [1,1,1]]
def tbD:List It:=bD [0,0,1,0,1,1,0,0,1,0,0,1,0,1,1]::tdD
def LD(B:Ij)(m:Nat)(od:Nat->Vp)(M:Int×List UInt8->Option Value)(c:Int)(i:Int)(p:Int)(n:Nat)(g:Nat->List Sh)(is:Bool)(t:Nat)(tr:Nat->JK)(j:Int):Core:=
 {tm:=F8 50 (tmC B i++[(7,.ptr 12 0),(8,.test is),(30,.sh (.sl 4 t (Az tr))),(31,.sym .i64 (t:Int)),(32,.sym .i64 j)]),hp:=hpC m od M c++[(12,.box [.sym .i64 p,.sh (.sl 4 n g)] 104)],nx:=13,lim:=L0,tc:=[]}
def Us(B:Ij):List Fr:=[{g:=39,td:=[It.reg [0,1,0,1,1,1,1,1,1,1,1,1,1,1,1,1] [2,3,4,5,6],bD [1,1,1,1,1,1,1,1,1,1,1,1,1,1]],tm:=F8 111 [(8,.ptr 1 0),(22,.ptr 11 0)]}]
def tdE:List It:=[bD [0,1,0,1,1],dh 0,bD [1,1,1]]
def tbE:List It:=bD [0,0,1,0,1,1]::tdE
def hpE(M:Int×List UInt8->Option Value)(c:Int)(p:Int)(n:Nat)(g:Nat->List Sh)(k:Nat)(sr:Nat->DF):List (Nat×SB):=[(1,.box [.bool aA,.Bj,.int .i64 0] 44),(10,.pm .bool M []),(11,.box [.bool aA,.Bj,.sym .i64 c] 44),(12,.box [.sym .i64 p,.sh (.sl 4 n g)] 104),(13,.own 55 2 k (Az sr))]
def tmE(B:Ij):List (Nat×SV):=[(0,.G5 4 1 (fun _=>CG B.lv B.N B.T B.N B.ms B.k0 B.g0) 0 0),(1,.mp 10),(5,.gs 13),(6,.ptr 12 0)]
def LE(B:Ij)(M:Int×List UInt8->Option Value)(c:Int)(p:Int)(n:Nat)(g:Nat->List Sh)(k:Nat)(sr:Nat->DF):Core:={tm:=F8 42 (tmE B),hp:=hpE M c p n g k sr,nx:=14,lim:=L0,tc:=[]}
def tdF:List It:=[bD [0,1,0,0,1,0,0,1,0,1,1],dh 2,dh 1,bD [1,1,0,0,1,0,1,1],bD [0,1,0,1,1],dh 0,bD [1,1,1]]
def tbF:List It:=bD [0,0,1,0,0,1,0,0,1,0,1,1]::tdF
def LF(B:Ij)(M:Int×List UInt8->Option Value)(c:Int)(p:Int)(n:Nat)(g:Nat->List Sh)(k:Nat)(sr:Nat->DF)(t:Nat)(tr:Nat->JK)(j:Int):Core:={tm:=F8 42 (tmE B++[(21,.sh (.sl 4 t (Az tr))),(22,.sym .i64 (t:Int)),(23,.sym .i64 j)]),hp:=hpE M c p n g k sr,nx:=14,lim:=L0,tc:=[]}
theorem acf(A:Prim)(W:Wd)(B:Ij)(hs:Sh)(lv:Int)(M:Int×List UInt8->Option Value)(m:Nat)(od:Nat->Vp)(c i:Int)(p:Int)(n:Nat)(g:Nat->List Sh)(is:Bool)(t:Nat)(tr:Nat->JK)(sr:Nat->DF){ψ:Eo->Prop}{c0 c1 c2:Bool}(e0:A.le (ah 0) i=c0)(e1:A.isS (M (ah 0,OW B.k0 B.g0))=c1)(e2:A.H8 (M (ah 0,OW B.k0 B.g0))=c2)(h1:c0=aF->(A.inB i m)=aF)(h2:c0=aF->(A.le (ah 0) (A.Bl B.N))=aF)(h3:c0=aF->(tuB B.lv B.N (Az B.T) B.N (Az B.ms) (od (A.toN i)).placed 4 (od (A.toN i)).n (od (A.toN i)).g)=aF)(h4:c0=aA->(Z7 4 B.k0 B.g0)=aF)(y1:c0=aF->ψ (bJ 0 [aK 1 1,bF (fun (x:Nat)=>CG B.lv B.N B.T B.N B.ms B.k0 B.g0) fun (x:Nat)=>CG B.lv B.N B.T B.N B.ms B.k0 B.g0,aK 0 0,ak i i,lK (A.eq (od (A.toN i)).placed (A.sub .i64 (A.bin iC aW (ah 1) (A.Bl B.N)) (ah 1))) is,aP (aH 4 (OV B.lv B.N (Az B.T) (Az B.ms) (od (A.toN i)).placed (od (A.toN i)).n (od (A.toN i)).g) (Az (Z5 B.lv B.N (Az B.T) (Az B.ms) (od (A.toN i)).placed (od (A.toN i)).n (od (A.toN i)).g))) (aH 4 t (Az tr)),ak (A.Bl (OV B.lv B.N (Az B.T) (Az B.ms) (od (A.toN i)).placed (od (A.toN i)).n (od (A.toN i)).g)) (ah t),ak (ah 0) (ah 0),ak (ah 0) (ah 0),aK m m,aV m (Az od) (Az od),jm M M,ak c c,ak (od (A.toN i)).placed p,aP (aH 4 (od (A.toN i)).n (od (A.toN i)).g) (aH 4 n g),aK 1 1,bF (fun (x:Nat)=>CG B.lv B.N B.T B.N B.ms B.k0 B.g0) fun (x:Nat)=>CG B.lv B.N B.T B.N B.ms B.k0 B.g0,aK 0 0]))(y2:c0=aA->c1=aF->c2=aF->ψ (bJ 1 [aK 1 1,bF (fun (x:Nat)=>CG B.lv B.N B.T B.N B.ms B.k0 B.g0) fun (x:Nat)=>CG B.lv B.N B.T B.N B.ms B.k0 B.g0,aK 0 0,ak (ah 0) (ah 0),jm M M,ak c c,ak (ah 0) (ah 0),aP (aH 4 B.k0 B.g0) (aH 4 B.k0 B.g0),aK 0 0]))(y3:c0=aA->c1=aF->c2=aA->ψ (aU (cZ [bU [gq aA,aH 0 0 fun _=>[],aZ .i64 c],jF bM])))(y4:c0=aA->c1=aA->ψ (aU (cZ [bU [gq aA,aH 0 0 fun _=>[],aZ .i64 c],jF bM]))):CZ ψ (BA (C7 A W (DC hs lv B) Bc) BN 300 400 71 tbC (LC B m od M c i) (OX B) [⟨71,tdD,LD B m od M c i p n g is t tr 0,OX B⟩,⟨72,tdE,LE B M c 0 B.k0 B.g0 0 sr,Us B⟩]):=by
 subst e0 e1 e2;exact FK (an (fun q0=>an (h1 q0) (an (h2 q0) (an (h3 q0) (y1 q0)))) (fun q0=>an (h4 q0) (an (fun q1=>an (y2 q0 q1) (y3 q0 q1)) (y4 q0)))) (by kernel_rfl)
theorem acg(A:Prim)(W:Wd)(B:Ij)(hs:Sh)(lv:Int)(M M':Int×List UInt8->Option Value)(m:Nat)(od:Nat->Vp)(c i:Int)(p:Int)(n:Nat)(g:Nat->List Sh)(is is':Bool)(t:Nat)(tr:Nat->JK)(j j' i':Int){ψ:Eo->Prop}{c0 c1 c2:Bool}(e0:A.lt j (ah t)=c0)(e1:is=c1)(e2:A.isS (M ((tr (A.toN j)).placed,OW (tr (A.toN j)).n (tr (A.toN j)).g))=c2)(h1:c0=aF->(A.inB j t)=aF)(h2:c0=aF->c1=aA->(Z7 4 (tr (A.toN j)).n (tr (A.toN j)).g)=aF)(h3:c0=aA->(Z7 4 n g)=aF)(y1:c0=aF->c1=aF->ψ (bJ 0 [aK 1 1,bF (fun (x:Nat)=>CG B.lv B.N B.T B.N B.ms B.k0 B.g0) fun (x:Nat)=>CG B.lv B.N B.T B.N B.ms B.k0 B.g0,aK 0 0,ak i i,lK aF is',aP (aH 4 t (Az tr)) (aH 4 t (Az tr)),ak (ah t) (ah t),ak (A.add .i64 j (ah 1)) j',ak (ah 0) (ah 0),aK m m,aV m (Az od) (Az od),jm M M,ak c c,ak p p,aP (aH 4 n g) (aH 4 n g),aK 1 1,bF (fun (x:Nat)=>CG B.lv B.N B.T B.N B.ms B.k0 B.g0) fun (x:Nat)=>CG B.lv B.N B.T B.N B.ms B.k0 B.g0,aK 0 0]))(y2:c0=aF->c1=aA->c2=aF->ψ (bJ 0 [aK 1 1,bF (fun (x:Nat)=>CG B.lv B.N B.T B.N B.ms B.k0 B.g0) fun (x:Nat)=>CG B.lv B.N B.T B.N B.ms B.k0 B.g0,aK 0 0,ak i i,lK (A.H8 (M ((tr (A.toN j)).placed,OW (tr (A.toN j)).n (tr (A.toN j)).g))) is',aP (aH 4 t (Az tr)) (aH 4 t (Az tr)),ak (ah t) (ah t),ak (A.add .i64 j (ah 1)) j',ak (ah 0) (ah 0),aK m m,aV m (Az od) (Az od),jm M M,ak c c,ak p p,aP (aH 4 n g) (aH 4 n g),aK 1 1,bF (fun (x:Nat)=>CG B.lv B.N B.T B.N B.ms B.k0 B.g0) fun (x:Nat)=>CG B.lv B.N B.T B.N B.ms B.k0 B.g0,aK 0 0]))(y3:c0=aF->c1=aA->c2=aA->ψ (bJ 0 [aK 1 1,bF (fun (x:Nat)=>CG B.lv B.N B.T B.N B.ms B.k0 B.g0) fun (x:Nat)=>CG B.lv B.N B.T B.N B.ms B.k0 B.g0,aK 0 0,ak i i,lK aA is',aP (aH 4 t (Az tr)) (aH 4 t (Az tr)),ak (ah t) (ah t),ak (A.add .i64 j (ah 1)) j',ak (ah 0) (ah 0),aK m m,aV m (Az od) (Az od),jm M M,ak c c,ak p p,aP (aH 4 n g) (aH 4 n g),aK 1 1,bF (fun (x:Nat)=>CG B.lv B.N B.T B.N B.ms B.k0 B.g0) fun (x:Nat)=>CG B.lv B.N B.T B.N B.ms B.k0 B.g0,aK 0 0]))(y4:c0=aA->ψ (bJ 1 [aK 1 1,bF (fun (x:Nat)=>CG B.lv B.N B.T B.N B.ms B.k0 B.g0) fun (x:Nat)=>CG B.lv B.N B.T B.N B.ms B.k0 B.g0,aK 0 0,ak (A.sub .i64 i (ah 1)) i',ak (ah 0) (ah 0),aK m m,aV m (Az od) (Az od),jm (Md (p,OW n g) (ay (Value.bool is)) M) M',ak c c,aK 1 1,bF (fun (x:Nat)=>CG B.lv B.N B.T B.N B.ms B.k0 B.g0) fun (x:Nat)=>CG B.lv B.N B.T B.N B.ms B.k0 B.g0,aK 0 0])):CZ ψ (BA (C7 A W (DC hs lv B) Bc) BN 300 400 71 tbD (LD B m od M c i p n g is t tr j) (OX B) [⟨71,tdD,LD B m od M c i p n g is' t tr j',OX B⟩,⟨71,Z8,LC B m od M' c i',OX B⟩]):=by
 subst e0 e1 e2;exact FK (an (fun q0=>an (h1 q0) (an (y1 q0) (fun q1=>an (h2 q0 q1) (an (y2 q0 q1) (y3 q0 q1))))) (fun q0=>an (h3 q0) (y4 q0))) (by kernel_rfl)
theorem ach(A:Prim)(W:Wd)(B:Ij)(hs:Sh)(lv:Int)(M:Int×List UInt8->Option Value)(c:Int)(p:Int)(n:Nat)(g:Nat->List Sh)(k:Nat)(sr:Nat->DF)(t:Nat)(tr:Nat->JK){ψ:Eo->Prop}{c0:Bool}(e0:A.nt (A.eq p (A.sub .i64 (A.bin iC aW (ah 1) (A.Bl B.N)) (ah 1)))=c0)(h1:(A.le (ah 0) (A.Bl B.N))=aF)(h2:c0=aF->(tuB B.lv B.N (Az B.T) B.N (Az B.ms) p 4 n g)=aF)(y1:c0=aF->ψ (bJ 0 [aK 1 1,bF (fun (x:Nat)=>CG B.lv B.N B.T B.N B.ms B.k0 B.g0) fun (x:Nat)=>CG B.lv B.N B.T B.N B.ms B.k0 B.g0,aK 0 0,aP (aH 4 (OV B.lv B.N (Az B.T) (Az B.ms) p n g) (Az (Z5 B.lv B.N (Az B.T) (Az B.ms) p n g))) (aH 4 t (Az tr)),ak (A.Bl (OV B.lv B.N (Az B.T) (Az B.ms) p n g)) (ah t),ak (ah 0) (ah 0),ak (ah 0) (ah 0),jm M M,ak c c,ak p p,aP (aH 4 n g) (aH 4 n g),aK k k,aV k (Az sr) (Az sr)]))(y2:c0=aA->ψ (aU (cZ [bU [gq aF,Sh.os 55 2 k (Az sr),aZ .i64 c],jF bM]))):CZ ψ (BA (C7 A W (DC hs lv B) Bc) BN 300 400 72 tbE (LE B M c p n g k sr) (Us B) [⟨72,tdF,LF B M c p n g k sr t tr 0,Us B⟩]):=by
 subst e0;exact FK (an h1 (an (fun q0=>an (h2 q0) (y1 q0)) y2)) (by kernel_rfl)
theorem aci(A:Prim)(W:Wd)(B:Ij)(hs:Sh)(lv:Int)(M:Int×List UInt8->Option Value)(c:Int)(p p':Int)(n n':Nat)(g g':Nat->List Sh)(k k':Nat)(sr sr':Nat->DF)(t:Nat)(tr:Nat->JK)(j j':Int){ψ:Eo->Prop}{c0 c1 c2:Bool}(e0:A.lt j (ah t)=c0)(e1:A.isS (M ((tr (A.toN j)).placed,OW (tr (A.toN j)).n (tr (A.toN j)).g))=c1)(e2:A.H8 (M ((tr (A.toN j)).placed,OW (tr (A.toN j)).n (tr (A.toN j)).g))=c2)(h1:c0=aF->(A.inB j t)=aF)(h2:c0=aF->(Z7 4 (tr (A.toN j)).n (tr (A.toN j)).g)=aF)(h3:c0=aF->c1=aF->c2=aF->(A.room (A.addN k 1) 16)=aF)(y1:c0=aF->c1=aF->c2=aF->ψ (bJ 1 [aK 1 1,bF (fun (x:Nat)=>CG B.lv B.N B.T B.N B.ms B.k0 B.g0) fun (x:Nat)=>CG B.lv B.N B.T B.N B.ms B.k0 B.g0,aK 0 0,ak (ah 0) (ah 0),jm M M,ak c c,ak (tr (A.toN j)).placed p',aP (aH 4 (tr (A.toN j)).n (tr (A.toN j)).g) (aH 4 n' g'),aK (A.addN k 1) k',aV (A.addN k 1) (A.snoc (Az sr) k (BD [[aZ .i64 (tr (A.toN j)).tx,gq (tr (A.toN j)).com]])) (Az sr')]))(y2:c0=aF->c1=aF->c2=aA->ψ (bJ 0 [aK 1 1,bF (fun (x:Nat)=>CG B.lv B.N B.T B.N B.ms B.k0 B.g0) fun (x:Nat)=>CG B.lv B.N B.T B.N B.ms B.k0 B.g0,aK 0 0,aP (aH 4 t (Az tr)) (aH 4 t (Az tr)),ak (ah t) (ah t),ak (A.add .i64 j (ah 1)) j',ak (ah 0) (ah 0),jm M M,ak c c,ak p p,aP (aH 4 n g) (aH 4 n g),aK k k,aV k (Az sr) (Az sr)]))(y3:c0=aF->c1=aA->ψ (bJ 0 [aK 1 1,bF (fun (x:Nat)=>CG B.lv B.N B.T B.N B.ms B.k0 B.g0) fun (x:Nat)=>CG B.lv B.N B.T B.N B.ms B.k0 B.g0,aK 0 0,aP (aH 4 t (Az tr)) (aH 4 t (Az tr)),ak (ah t) (ah t),ak (A.add .i64 j (ah 1)) j',ak (ah 0) (ah 0),jm M M,ak c c,ak p p,aP (aH 4 n g) (aH 4 n g),aK k k,aV k (Az sr) (Az sr)]))(y4:c0=aA->ψ (bJ 1 [aK 1 1,bF (fun (x:Nat)=>CG B.lv B.N B.T B.N B.ms B.k0 B.g0) fun (x:Nat)=>CG B.lv B.N B.T B.N B.ms B.k0 B.g0,aK 0 0,ak (ah 0) (ah 0),jm M M,ak c c,ak p p',aP (aH 4 n g) (aH 4 n' g'),aK k k',aV k (Az sr) (Az sr')])):CZ ψ (BA (C7 A W (DC hs lv B) Bc) BN 300 400 72 tbF (LF B M c p n g k sr t tr j) (Us B) [⟨72,tdF,LF B M c p n g k sr t tr j',Us B⟩,⟨72,tdE,LE B M c p' n' g' k' sr',Us B⟩]):=by
 subst e0 e1 e2;exact FK (an (fun q0=>an (h1 q0) (an (h2 q0) (an (fun q1=>an (fun q2=>an (h3 q0 q1 q2) (y1 q0 q1 q2)) (y2 q0 q1)) (y3 q0)))) y4) (by kernel_rfl)
end Go.Proofs
namespace Go.Pl
open Go Go.Sx Go.Proofs Go.Gm Go.Bf
abbrev SG:=Nat->List Sh
noncomputable def Gb(B:Ij):Game SG:=Ur B.lv B.N B.T B.ms B.k0
noncomputable def Dl(k0:Nat)(nd:Nd SG):Int×List UInt8:=((nd.placed:Nat),OW k0 nd.st)
def Jr(k0:Nat)(nd:Nd SG):Vp:=⟨(nd.placed:Nat),k0,nd.st⟩
def DI(t:Int×Bool):DF:=⟨t.1,t.2⟩
structure LY(B:Ij)(Q:Nd SG->Prop):Prop where
 start:Q ⟨0,B.g0⟩
 step:∀nd,Q nd->∀t∈next (Gb B) nd,Q t
 tu:∀nd,Q nd->TuP B.lv B.N B.T B.N B.ms (nd.placed:Nat) B.k0 nd.st
 ke:∀nd,Q nd->Z7 4 B.k0 nd.st=aF
section
variable{B:Ij}{Q:Nd SG->Prop}{nd:Nd SG}
theorem Xt(hg:LY B Q)(h:Q nd){st:Nat}(hst:(fC st 4||fC B.k0 0)=aF):tuB B.lv B.N (Az B.T) B.N (Az B.ms) (nd.placed:Nat) st B.k0 nd.st=aF:=by
 unfold tuB;rw[Eh,Eh,hst,H6,H6];exact @decide_eq_true _ (bG _) (hg.tu nd h)
theorem Lc:OV B.lv B.N (Az B.T) (Az B.ms) (nd.placed:Nat) B.k0 nd.st=(turns (Gb B) nd).length:=by
 unfold OV tuL;rw[H6,H6,dQ];rfl
theorem Xu:Z5 B.lv B.N (Az B.T) (Az B.ms) (nd.placed:Nat) B.k0 nd.st=nth ((turns (Gb B) nd).map (G9 B.k0)):=by
 unfold Z5 tuL;rw[H6,H6];rfl
theorem PU{α β:Type}[Row β](f:α->β)(l:List α){j:Nat}{a:α}(h:l[j]?=ay a):nth (l.map f) j=f a:=by
 unfold nth;rw[aX,List.getElem?_map,h];rfl
theorem Nc(hN:B.N<=62)(nd:Nd SG):(turns (Gb B) nd).length<=124:=by
 have key:∀(l:List Nat),(l.flatMap (GI (Gb B) nd)).length<=2*l.length:=by
  intro l;induction l with
  |nil=>simp |cons a l ih=>
   rw[oP,bf,List.length_cons];have:(GI (Gb B) nd a).length<=2:=by
    unfold GI;split
    ·rw[bf]
     refine Nat.le_trans (Nat.add_le_add (?_:_<=1) (?_:_<=1)) (by decide)
     ·split<;>simp
     ·split<;>simp
    ·simp
   omega
 have:=key (aY B.N);rw[oh] at this;have e:(turns (Gb B) nd).length=(((aY B.N).flatMap (GI (Gb B) nd))).length:=rfl;omega
end
end Go.Pl
namespace Go.Proofs
open Go Go.Sx Go.Pl Go.Gm Go.Bf
theorem awP:Bh aB (BG W7) 92 D92:=fun H w BI args φ hon hg hr h=>by
 unfold D92 at h;split at h
 ·rename_i st n g
  obtain ⟨h1,h2⟩:=h;unfold Z7 at h1;rw[aJ,aJ] at h1;match args,hr with
  |[v],⟨rv,_⟩=>
   refine O32 H w [.agg [.sl 4 n g]] [v] φ hon hg ⟨QN rv ⟨fun _ r=>ahO h1.1 r,trivial⟩,trivial⟩ ?_;exact ⟨h1.2.1,h1.2.2,h2⟩
 ·exact h.elim
section
variable{B:Ij}{hs:Sh}{lv:Int}
theorem Gh(FT:Bh aB (BG W7) 40 (Xq hs lv B))(stop:Nat->List Nat->Bool):Cb aB (C7 Aw W7 (DC hs lv B) stop):=nU (fun g F h=>by
 unfold DC at h;split at h
 ·cases h;exact FT
 ·cases h;exact awF
 ·cases h;exact awG
 ·cases h;exact awP
 ·cases h) fun g h=>by
 unfold DC at h;split at h;all_goals first|(cases h;done) |kernel_rfl
end
section
variable{H0:Mem}{w0:World}{φ:Sh->Prop}{B:Ij}{Q:Nd SG->Prop}{hs:Sh}{lv:Int}{M:Int×List UInt8->Option Value}{c:Int}
theorem YF{o:Option Value}(h:Aw.H8 o=aF):Aw.isS o=aF:=by
 cases o with
 |none=>exact absurd h (by decide) |some v=>rfl
theorem ape(FT:Bh aB (BG W7) 40 (Xq hs lv B))(hg:LY B Q)(nd:Nd SG)(hq:Q nd)(acc:List DF)(hk:acc.length<=1000):
  ∀r j,j+r=(turns (Gb B) nd).length->
  (∀t,((turns (Gb B) nd).drop j).find? (fun t=>Aw.H8 (M (Dl B.k0 t.2)))=ay t->BK aB (C7 Aw W7 (DC hs lv B) Bc) (K0 H0 w0) 72 tdE (LE B M c (t.2.placed:Nat) B.k0 t.2.st (acc++[DI t.1]).length (nth (acc++[DI t.1]))) (Us B) emp (up φ))->
  (∃t∈(turns (Gb B) nd).drop j,Aw.H8 (M (Dl B.k0 t.2))=aF)->
  BK aB (C7 Aw W7 (DC hs lv B) Bc) (K0 H0 w0) 72 tdF (LF B M c (nd.placed:Nat) B.k0 nd.st acc.length (nth acc) (turns (Gb B) nd).length (nth ((turns (Gb B) nd).map (G9 B.k0))) (j:Nat)) (Us B) emp (up φ)
 |0,j,hj,hnx,⟨t,ht,_⟩=>by
  rw[jR (by omega)] at ht;cases ht
 |r+1,j,hj,hnx,hex=>by
  have hjl:j<(turns (Gb B) nd).length:=by omega
  have hN:(turns (Gb B) nd).length<=124:=Nc (hg.tu nd hq).le nd;obtain ⟨t,ht⟩:∃t,(turns (Gb B) nd)[j]?=ay t:=⟨_,aS hjl⟩;have hqt:Q t.2:=hg.step nd hq _ (dL.2 ⟨t,bP ht,rfl⟩);have hd:(turns (Gb B) nd).drop j=t::(turns (Gb B) nd).drop (j+1):=by
   rw[iP hjl];congr 1;rw[aS hjl] at ht;exact dH ht
  have htr:nth ((turns (Gb B) nd).map (G9 B.k0)) (Aw.toN (j:Int))=G9 B.k0 t:=PU _ _ ht;obtain ⟨tr,etr⟩:∃tr,nth ((turns (Gb B) nd).map (G9 B.k0))=tr:=⟨_,rfl⟩;rw[etr] at htr ⊢;refine FW (fn:=Tryz.f72) (tb:=tbF) (by kernel_rfl) (by kernel_rfl) ?_;have w1:Aw.add .i64 (j:Int) (ah 1)=((j+1:Nat):Int):=add1 (by omega);have no {P:Prop} (h:Aw.lt (j:Int) (ah (turns (Gb B) nd).length)=aA):P:=by simp[AO] at h;omega
  have inb:Aw.inB (j:Int) (turns (Gb B) nd).length=aF:=by simp[BO];omega
  have hke:Z7 4 (tr (Aw.toN (j:Int))).n (tr (Aw.toN (j:Int))).g=aF:=by rw[htr];exact hg.ke _ hqt
  have hM:M ((tr (Aw.toN (j:Int))).placed,OW (tr (Aw.toN (j:Int))).n (tr (Aw.toN (j:Int))).g)=M (Dl B.k0 t.2):=by rw[htr];rfl
  have rm:Aw.room (Aw.addN acc.length 1) 16=aF:=by rw[ET,decide_eq_true_eq,DU];unfold maxLen;omega
  cases hb:Aw.H8 (M (Dl B.k0 t.2)) with
  |true=>
   have nx:=hnx t (by rw[hd];exact List.find?_cons_of_pos (p:=fun t:(Int×Bool)×Nd SG=>Aw.H8 (M (Dl B.k0 t.2))) hb);refine EP (dn _ _) (Gh FT _) (hold:=BN) (m:=300) (n:=400) (ts:=[⟨72,tdF,LF B M c (nd.placed:Nat) B.k0 nd.st acc.length (nth acc) (turns (Gb B) nd).length tr 0,Us B⟩,⟨72,tdE,LE B M c (t.2.placed:Nat) B.k0 t.2.st (acc++[DI t.1]).length (nth (acc++[DI t.1])),Us B⟩]) ?_;refine aci Aw W7 B hs lv M c _ _ B.k0 B.k0 nd.st t.2.st _ _ (nth acc) _ _ tr _ 0 (c1:=aF) (c2:=aF) rfl (by rw[hM];exact YF hb) (by rw[hM];exact hb) (fun _=>inb) (fun _=>hke) (fun _ _ _=>rm) (fun _ _ _=>?_) (fun _ _ q=>by cases q) (fun _ q=>by cases q) (fun q=>no q);exact ⟨⟨rfl,rfl,rfl,rfl,rfl,rfl,congrArg JK.placed htr,congrArg (fun x:JK=>aH 4 x.n x.g) htr,by rw[bf];rfl,fun i hi=>IW acc (DI t.1) _ (by rw[htr];rfl) i hi,trivial⟩,_,rfl,nx⟩
  |false=>
   have nx:=ape FT hg nd hq acc hk r (j+1) (by omega) (fun t' h=>hnx t' (by
    rw[hd];exact (List.find?_cons_of_neg (p:=fun t:(Int×Bool)×Nd SG=>Aw.H8 (M (Dl B.k0 t.2))) (by rw[hb];simp)).trans h)) (by
    obtain ⟨x,hx,hx2⟩:=hex;rw[hd] at hx;rcases List.mem_cons.1 hx with rfl|hx
    ·rw[hb] at hx2;cases hx2
    ·exact ⟨x,hx,hx2⟩)
   rw[etr] at nx;refine EP (dn _ _) (Gh FT _) (hold:=BN) (m:=300) (n:=400) (ts:=[⟨72,tdF,LF B M c (nd.placed:Nat) B.k0 nd.st acc.length (nth acc) (turns (Gb B) nd).length tr ((j+1:Nat):Int),Us B⟩,⟨72,tdE,LE B M c 0 0 noT 0 (nth []),Us B⟩]) ?_;refine aci Aw W7 B hs lv M c _ _ B.k0 0 nd.st noT _ _ (nth acc) _ _ tr _ ((j+1:Nat):Int) (c2:=aA) rfl rfl (by rw[hM];exact hb) (fun _=>inb) (fun _=>hke) (fun _ _ _=>rm) (fun _ _ q=>by cases q) (fun _ _ _=>?_) (fun _ _=>?_) (fun q=>no q)
   ·exact ⟨⟨rfl,rfl,rfl,rfl,rfl,w1,rfl,rfl,rfl,rfl,rfl,rfl,fun _ _=>rfl,trivial⟩,_,rfl,nx⟩
   ·exact ⟨⟨rfl,rfl,rfl,rfl,rfl,w1,rfl,rfl,rfl,rfl,rfl,rfl,fun _ _=>rfl,trivial⟩,_,rfl,nx⟩
def ajK(c:Int)(l:List (Int×Bool)):Sh:=.Ba [.agg [.b aF,.sl 2 (l.map DI).length (Az (nth (l.map DI))),.i .i64 c],.v .nilIface]
def noSh(c:Int):Sh:=.Ba [.agg [.b aA,.sl 2 0 (Az (nth ([]:List DF))),.i .i64 c],.v .nilIface]
theorem ahQ(hN:B.N<=62)(nd:Nd SG):Aw.eq ((nd.placed:Nat):Int) (Aw.sub .i64 (Aw.bin .shl .i64 (ah 1) (Aw.Bl B.N)) (ah 1))=full (Gb B) nd:=by
 have e:Aw.sub .i64 (Aw.bin .shl .i64 (ah 1) (Aw.Bl B.N)) (ah 1)=((2^B.N - 1:Nat):Int):=ao8 hN;rw[e,Bd];unfold full;rw[Bool.eq_iff_iff,beq_iff_eq];show _↔decide (nd.placed=2^(Gb B).n - 1)=aF;rw[decide_eq_true_eq];exact ⟨fun e=>kZ e,fun e=>congrArg ah e⟩
theorem apf(nd:Nd SG):rk (Gb B) nd<=B.N:=by
 unfold rk;have:=List.countP_le_length (p:=fun i=>nd.placed.testBit i) (l:=aY (Gb B).n);rw[oh] at this;exact this
theorem apg(FT:Bh aB (BG W7) 40 (Xq hs lv B))(hg:LY B Q){ld:Nd SG->Bool}(hM:∀nd,Aw.H8 (M (Dl B.k0 nd))=ld nd)
  (hl:∀nd,Q nd->ld nd=aF->full (Gb B) nd=aA->∃t∈turns (Gb B) nd,ld t.2=aF) :
  ∀f (nd:Nd SG) (acc:List (Int×Bool)),Q nd->ld nd=aF->B.N<rk (Gb B) nd+f->acc.length+f<=1000->φ (ajK c (acc++least (Gb B) ld f nd))->
  BK aB (C7 Aw W7 (DC hs lv B) Bc) (K0 H0 w0) 72 tdE (LE B M c (nd.placed:Nat) B.k0 nd.st (acc.map DI).length (nth (acc.map DI))) (Us B) emp (up φ)
 |0,nd,acc,hq,hld,hf,hk,hφ=>by
  have:=apf (B:=B) nd;omega
 |f+1,nd,acc,hq,hld,hf,hk,hφ=>by
  refine FW (fn:=Tryz.f72) (tb:=tbE) (by kernel_rfl) (by kernel_rfl) ?_;have hN:=(hg.tu nd hq).le;have hfu:=ahQ hN nd;have h0:Aw.le (ah 0) (Aw.Bl B.N)=aF:=by simp[DK,Bg]
  refine EP (dn _ _) (Gh FT _) (hold:=BN) (m:=300) (n:=400) (ts:=[⟨72,tdF,LF B M c (nd.placed:Nat) B.k0 nd.st (acc.map DI).length (nth (acc.map DI)) (turns (Gb B) nd).length (nth ((turns (Gb B) nd).map (G9 B.k0))) ((0:Nat):Int),Us B⟩]) ?_;cases hfl:full (Gb B) nd with
  |true=>
   have e:least (Gb B) ld (f+1) nd=[]:=by rw[least,if_pos hfl]
   rw[e,fA] at hφ;refine ach Aw W7 B hs lv M c _ B.k0 nd.st _ (nth (acc.map DI)) _ _ (c0:=aA) (by rw[hfu,hfl];rfl) h0 (fun q=>by cases q) (fun q=>by cases q) (fun _=>?_);exact Cj (s':=ajK c acc) ⟨⟨.inl rfl,.inr ⟨rfl,rfl,fun _ _=>rfl⟩,rfl,trivial⟩,rfl,trivial⟩ hφ
  |false=>
   obtain ⟨t,ht,hlt⟩:=hl nd hq hld hfl;have nx:=ape (φ:=φ) (c:=c) FT hg nd hq (acc.map DI) (by rw[dQ];omega) (turns (Gb B) nd).length 0 (by omega) (M:=M) (fun x hx=>by
    rw[jg] at hx;have hx1:=List.mem_of_find?_eq_some hx;have hx2:ld x.2=aF:=by rw[<-hM];exact List.find?_some (p:=fun t:(Int×Bool)×Nd SG=>Aw.H8 (M (Dl B.k0 t.2))) hx
    have hn:x.2∈next (Gb B) nd:=dL.2 ⟨x,hx1,rfl⟩;have hr:=Xp _ hn;have hx':(turns (Gb B) nd).find? (fun t=>ld t.2)=ay x:=by
     rw[<-hx];congr 1;funext t;exact (hM t.2).symm
    have e:least (Gb B) ld (f+1) nd=x.1::least (Gb B) ld f x.2:=by rw[least,if_neg (by rw[hfl];simp),hx']
    rw[e] at hφ;have:=apg FT hg hM hl f x.2 (acc++[x.1]) (hg.step nd hq _ hn) hx2 (by omega) (by simp;omega) (by rw[dV];exact hφ);rw[iO] at this;exact this) ⟨t,by rw[jg];exact ht,by rw[hM];exact hlt⟩
   refine ach Aw W7 B hs lv M c _ B.k0 nd.st _ (nth (acc.map DI)) _ _ (c0:=aF) (by rw[hfu,hfl];rfl) h0 (fun _=>Xt hg hq rfl) (fun _=>?_) (fun q=>by cases q);exact ⟨⟨rfl,rfl,rfl,by rw[Lc,Xu];rfl,by rw[Lc];rfl,rfl,rfl,rfl,rfl,rfl,rfl,rfl,fun _ _=>rfl,trivial⟩,_,rfl,nx⟩
theorem aph(FT:Bh aB (BG W7) 40 (Xq hs lv B))(hg:LY B Q)(nd:Nd SG)(hq:Q nd){m:Nat}{od:Nat->Vp}{i:Int}:
  ∀r j (is:Bool),j+r=(turns (Gb B) nd).length->
  BK aB (C7 Aw W7 (DC hs lv B) Bc) (K0 H0 w0) 71 Z8 (LC B m od (Md (Dl B.k0 nd) (ay (.bool (is||((turns (Gb B) nd).drop j).any fun t=>Aw.H8 (M (Dl B.k0 t.2))))) M) c (Aw.sub .i64 i (ah 1))) (OX B) emp (up φ)->
  BK aB (C7 Aw W7 (DC hs lv B) Bc) (K0 H0 w0) 71 tdD (LD B m od M c i (nd.placed:Nat) B.k0 nd.st is (turns (Gb B) nd).length (nth ((turns (Gb B) nd).map (G9 B.k0))) (j:Nat)) (OX B) emp (up φ)
 |0,j,is,hj,nx=>by
  rw[jR (by omega),yT,kN] at nx;refine FW (fn:=sG) (tb:=tbD) (by kernel_rfl) (by kernel_rfl) ?_;have lt {P:Prop} (h:Aw.lt (j:Int) (ah (turns (Gb B) nd).length)=aF):P:=by simp[AO] at h;omega
  refine EP (dn _ _) (Gh FT _) (hold:=BN) (m:=300) (n:=400) (ts:=[⟨71,tdD,LD B m od M c i (nd.placed:Nat) B.k0 nd.st is (turns (Gb B) nd).length (nth ((turns (Gb B) nd).map (G9 B.k0))) 0,OX B⟩,⟨71,Z8,LC B m od (Md (Dl B.k0 nd) (ay (.bool is)) M) c (Aw.sub .i64 i (ah 1)),OX B⟩]) ?_;exact acg Aw W7 B hs lv M _ m od c i _ B.k0 nd.st is is _ _ j 0 _ rfl rfl rfl (fun q=>lt q) (fun q=>lt q) (fun _=>hg.ke nd hq) (fun q=>lt q) (fun q=>lt q) (fun q=>lt q)
   (fun _=>⟨⟨rfl,rfl,rfl,rfl,rfl,rfl,fun _ _=>rfl,rfl,rfl,rfl,rfl,rfl,trivial⟩,_,rfl,nx⟩)
 |r+1,j,is,hj,nx=>by
  have hjl:j<(turns (Gb B) nd).length:=by omega
  have hN:(turns (Gb B) nd).length<=124:=Nc (hg.tu nd hq).le nd;obtain ⟨t,ht⟩:∃t,(turns (Gb B) nd)[j]?=ay t:=⟨_,aS hjl⟩;have hqt:Q t.2:=hg.step nd hq _ (dL.2 ⟨t,bP ht,rfl⟩);have hd:(turns (Gb B) nd).drop j=t::(turns (Gb B) nd).drop (j+1):=by
   rw[iP hjl];congr 1;rw[aS hjl] at ht;exact dH ht
  rw[hd,xQ,<-Bool.or_assoc] at nx;have nx:=aph FT hg nd hq r (j+1) (is||Aw.H8 (M (Dl B.k0 t.2))) (by omega) nx;have htr:nth ((turns (Gb B) nd).map (G9 B.k0)) (Aw.toN (j:Int))=G9 B.k0 t:=PU _ _ ht;obtain ⟨tr,etr⟩:∃tr,nth ((turns (Gb B) nd).map (G9 B.k0))=tr:=⟨_,rfl⟩;rw[etr] at htr nx ⊢;refine FW (fn:=sG) (tb:=tbD) (by kernel_rfl) (by kernel_rfl) ?_;have w1:Aw.add .i64 (j:Int) (ah 1)=((j+1:Nat):Int):=add1 (by omega);have no {P:Prop} (h:Aw.lt (j:Int) (ah (turns (Gb B) nd).length)=aA):P:=by simp[AO] at h;omega
  have inb:Aw.inB (j:Int) (turns (Gb B) nd).length=aF:=by simp[BO];omega
  have hke:Z7 4 (tr (Aw.toN (j:Int))).n (tr (Aw.toN (j:Int))).g=aF:=by rw[htr];exact hg.ke _ hqt
  have hM:M ((tr (Aw.toN (j:Int))).placed,OW (tr (Aw.toN (j:Int))).n (tr (Aw.toN (j:Int))).g)=M (Dl B.k0 t.2):=by rw[htr];rfl
  refine EP (dn _ _) (Gh FT _) (hold:=BN) (m:=300) (n:=400) (ts:=[⟨71,tdD,LD B m od M c i (nd.placed:Nat) B.k0 nd.st (is||Aw.H8 (M (Dl B.k0 t.2))) (turns (Gb B) nd).length tr ((j+1:Nat):Int),OX B⟩,⟨71,Z8,LC B m od M c 0,OX B⟩]) ?_;have fin (b:Bool) (hb:b=(is||Aw.H8 (M (Dl B.k0 t.2)))):Jq aB (C7 Aw W7 (DC hs lv B) Bc) (K0 H0 w0) [⟨71,tdD,LD B m od M c i (nd.placed:Nat) B.k0 nd.st (is||Aw.H8 (M (Dl B.k0 t.2))) (turns (Gb B) nd).length tr ((j+1:Nat):Int),OX B⟩,⟨71,Z8,LC B m od M c 0,OX B⟩] emp (up φ) (bJ 0 [aK 1 1,bF (fun _=>CG B.lv B.N B.T B.N B.ms B.k0 B.g0) fun _=>CG B.lv B.N B.T B.N B.ms B.k0 B.g0,aK 0 0,ak i i,lK b (is||Aw.H8 (M (Dl B.k0 t.2))),aP (aH 4 (turns (Gb B) nd).length (Az tr)) (aH 4 (turns (Gb B) nd).length (Az tr)),ak (ah (turns (Gb B) nd).length) (ah (turns (Gb B) nd).length),ak (Aw.add .i64 j (ah 1)) ((j+1:Nat):Int),ak (ah 0) (ah 0),aK m m,aV m (Az od) (Az od),jm M M,ak c c,ak (nd.placed:Nat) (nd.placed:Nat),aP (aH 4 B.k0 nd.st) (aH 4 B.k0 nd.st),aK 1 1,bF (fun _=>CG B.lv B.N B.T B.N B.ms B.k0 B.g0) fun _=>CG B.lv B.N B.T B.N B.ms B.k0 B.g0,aK 0 0]):=
   ⟨⟨rfl,rfl,rfl,rfl,hb,rfl,rfl,w1,rfl,rfl,fun _ _=>rfl,rfl,rfl,rfl,rfl,rfl,rfl,rfl,trivial⟩,_,rfl,nx⟩
  refine acg Aw W7 B hs lv M _ m od c i _ B.k0 nd.st is _ _ tr j ((j+1:Nat):Int) _ rfl rfl rfl (fun _=>inb) (fun _ _=>hke) (fun q=>no q) (fun _ q=>?_) (fun _ q q2=>?_) (fun _ q q2=>?_) (fun q=>no q)
  ·exact fin aF (by rw[q];rfl)
  ·exact fin _ (by rw[q,hM];rfl)
  ·refine fin aA ?_
   rw[hM] at q2;rw[q];cases hb:Aw.H8 (M (Dl B.k0 t.2)) with
   |false=>rfl |true=>rw[YF hb] at q2;cases q2
end
end Go.Proofs
namespace Go.Pl
open Go Go.Sx Go.Proofs Go.Gm Go.Bf
def ndQ(k0:Nat)(nd:Nd SG):Tj:=⟨(nd.placed:Nat),4,k0,nd.st⟩
noncomputable def OY(k0:Nat)(nd:Nd SG):PrQ:=⟨(nd.placed:Nat),OW k0 nd.st⟩
structure QOK(k0:Nat)(o:List (Nd SG))(i at_ q:Nat)(qr:Nat->Tj):Prop where
 le:i<=o.length
 len:q=at_+(o.length - i)
 row:∀j nd,o[i+j]?=ay nd->qr (at_+j)=ndQ k0 nd
end Go.Pl
namespace Go.Proofs
open Go Go.Sx Go.Pl Go.Gm Go.Bf
section
variable{H0:Mem}{w0:World}{φ:Sh->Prop}{B:Ij}{Q:Nd SG->Prop}{hs:Sh}{lv:Int}{c:Int}
theorem awQ{r:Nat}(h:r<=100000):Aw.sub .i64 (((r+1:Nat):Int) - 1) (ah 1)=(r:Int) - 1:=by
 have e:Aw.sub .i64 (((r+1:Nat):Int) - 1) (ah 1)=aW.wrap (((r+1:Nat):Int) - 1 - 1):=rfl;rw[e,CO (by omega) (by omega)];omega
theorem apj(FT:Bh aB (BG W7) 40 (Xq hs lv B))(hg:LY B Q)(o:List (Nd SG))(ho:∀x∈o,Q x)(hlen:o.length<=100000)
  (hl:∀nd,Q nd->Ti (Gb B) (Dl B.k0) o nd=aF->full (Gb B) nd=aA->∃t∈turns (Gb B) nd,Ti (Gb B) (Dl B.k0) o t.2=aF)
  (hy:PO (Gb B) (Dl B.k0) B.g0 o=aF->φ (ajK c (Gs (Gb B) (Dl B.k0) B.g0 o))) (hn:PO (Gb B) (Dl B.k0) B.g0 o=aA->φ (noSh c)) :
  ∀r (M:Int×List UInt8->Option Value),r<=o.length->(∀k,Aw.H8 (M k)=Iw (Dl B.k0) (next (Gb B)) (full (Gb B)) (o.drop r) k)->
  BK aB (C7 Aw W7 (DC hs lv B) Bc) (K0 H0 w0) 71 Z8 (LC B o.length (nth (o.map (Jr B.k0))) M c ((r:Nat) - 1:Int)) (OX B) emp (up φ)
 |0,M,hr,hM=>by
  refine FW (fn:=sG) (tb:=tbC) (by kernel_rfl) (by kernel_rfl) ?_;rw[jg] at hM;have ge {P:Prop} (h:Aw.le (ah 0) (((0:Nat):Int) - 1)=aF):P:=by simp[DK] at h
  have hN:=(hg.tu _ hg.start).le;have hK:M (ah 0,OW B.k0 B.g0)=M (Dl B.k0 ⟨0,B.g0⟩):=rfl;refine EP (dn _ _) (Gh FT _) (hold:=BN) (m:=300) (n:=400) (ts:=[⟨71,tdD,LD B o.length (nth (o.map (Jr B.k0))) M c (((0:Nat):Int) - 1) 0 0 noT aA 0 (nth []) 0,OX B⟩,⟨72,tdE,LE B M c 0 B.k0 B.g0 0 (nth []),Us B⟩]) ?_;refine acf Aw W7 B hs lv M _ _ c _ 0 0 noT aA 0 (nth []) (nth []) rfl rfl rfl (fun q=>ge q) (fun q=>ge q) (fun q=>ge q) (fun _=>hg.ke _ hg.start) (fun q=>ge q) (fun _ _ q=>?_) (fun _ _ q=>?_) (fun _ q=>?_)
  ·have hld:PO (Gb B) (Dl B.k0) B.g0 o=aF:=by
    rw[hK,hM] at q;exact q
   have hφ:=hy hld;have e:Gs (Gb B) (Dl B.k0) B.g0 o=least (Gb B) (Ti (Gb B) (Dl B.k0) o) ((Gb B).n+1) (jk B.g0):=if_pos hld;rw[e] at hφ;have nx:=apg (H0:=H0) (w0:=w0) (φ:=φ) (c:=c) (M:=M) FT hg (ld:=Ti (Gb B) (Dl B.k0) o) (fun nd=>hM _) hl ((Gb B).n+1) (jk B.g0) [] hg.start hld (by have:(Gb B).n=B.N:=rfl;omega) (by have:(Gb B).n=B.N:=rfl;simp;omega) (by rw[jK];exact hφ);exact ⟨⟨rfl,rfl,rfl,rfl,rfl,rfl,rfl,rfl,rfl,trivial⟩,_,rfl,nx⟩
  ·refine Cj (s':=noSh c) ⟨⟨.inl rfl,.inl ⟨rfl,rfl⟩,rfl,trivial⟩,rfl,trivial⟩ (hn ?_)
   rw[hK,hM] at q;exact q
  ·refine Cj (s':=noSh c) ⟨⟨.inl rfl,.inl ⟨rfl,rfl⟩,rfl,trivial⟩,rfl,trivial⟩ (hn ?_)
   have q2:Aw.H8 (M (Dl B.k0 ⟨0,B.g0⟩))=aA:=by
    cases hb:Aw.H8 (M (Dl B.k0 ⟨0,B.g0⟩)) with
    |false=>rfl |true=>rw[hK,YF hb] at q;cases q
   rw[hM] at q2;exact q2
 |r+1,M,hr,hM=>by
  obtain ⟨nd,hnd⟩:∃nd,o[r]?=ay nd:=⟨_,aS (by omega)⟩;have hq:Q nd:=ho nd (bP hnd);have hN:=(hg.tu nd hq).le;have hd:o.drop r=nd::o.drop (r+1):=by
   rw[iP (by omega)];congr 1;rw[aS (by omega)] at hnd;exact dH hnd
  have hi:Aw.toN (((r+1:Nat):Int) - 1)=r:=by rw[Dn];omega
  have hod:nth (o.map (Jr B.k0)) (Aw.toN (((r+1:Nat):Int) - 1))=Jr B.k0 nd:=by rw[hi];exact PU _ _ hnd
  have nx:=apj FT hg o ho hlen hl hy hn r (Md (Dl B.k0 nd) (ay (.bool (full (Gb B) nd||((turns (Gb B) nd).drop 0).any fun t=>Aw.H8 (M (Dl B.k0 t.2))))) M) (by omega) (fun k=>by
   have e:(next (Gb B) nd).any (fun t=>Iw (Dl B.k0) (next (Gb B)) (full (Gb B)) (o.drop (r+1)) (Dl B.k0 t))=((turns (Gb B) nd).drop 0).any fun t=>Aw.H8 (M (Dl B.k0 t.2)):=by
    unfold next;rw[List.any_map,jg];congr 1;funext t;exact (hM _).symm
   rw[hd,Iw,e];unfold Md;by_cases h:k=Dl B.k0 nd
   ·rw[if_pos h,if_pos h.symm];rfl
   ·rw[if_neg h,if_neg (fun e=>h e.symm)]
    exact hM k)
  refine FW (fn:=sG) (tb:=tbC) (by kernel_rfl) (by kernel_rfl) ?_;obtain ⟨od,awR⟩:∃od,nth (o.map (Jr B.k0))=od:=⟨_,rfl⟩;rw[awR] at hod nx ⊢;have lt {P:Prop} (h:Aw.le (ah 0) (((r+1:Nat):Int) - 1)=aA):P:=by rw[DK,decide_eq_false_iff_not] at h;exact (h (by show (0:Int)<=_;omega)).elim
  have hD:=aph (H0:=H0) (w0:=w0) (φ:=φ) (c:=c) (M:=M) (m:=o.length) (od:=od) (i:=((r+1:Nat):Int) - 1) FT hg nd hq (turns (Gb B) nd).length 0 (full (Gb B) nd) (by omega) (by rw[awQ (by omega)];exact nx);refine EP (dn _ _) (Gh FT _) (hold:=BN) (m:=300) (n:=400) (ts:=[⟨71,tdD,LD B o.length od M c (((r+1:Nat):Int) - 1) (nd.placed:Nat) B.k0 nd.st (full (Gb B) nd) (turns (Gb B) nd).length (nth ((turns (Gb B) nd).map (G9 B.k0))) ((0:Nat):Int),OX B⟩,⟨72,tdE,LE B M c 0 B.k0 B.g0 0 (nth []),Us B⟩]) ?_;refine acf Aw W7 B hs lv M _ od c _ _ _ _ _ _ _ (nth []) rfl rfl rfl (fun _=>by rw[BO,decide_eq_true_eq];omega) (fun _=>by simp[DK,Bg]) (fun _=>by rw[hod];exact Xt hg hq rfl) (fun q=>lt q) (fun _=>?_) (fun q=>lt q) (fun q=>lt q) (fun q=>lt q);exact ⟨⟨rfl,rfl,rfl,rfl,by rw[hod];exact ahQ hN nd,by rw[hod];show aH 4 (OV B.lv B.N (Az B.T) (Az B.ms) (nd.placed:Nat) B.k0 nd.st) (Az (Z5 B.lv B.N (Az B.T) (Az B.ms) (nd.placed:Nat) B.k0 nd.st))=_;rw[Lc,Xu],by rw[hod];show ((OV B.lv B.N (Az B.T) (Az B.ms) (nd.placed:Nat) B.k0 nd.st:Nat):Int)=_;rw[Lc];rfl,rfl,rfl,rfl,fun _ _=>rfl,rfl,rfl,by rw[hod];rfl,by rw[hod];rfl,rfl,rfl,rfl,trivial⟩,_,rfl,hD⟩
def afC:Sh:=.Ba [.agg [.b aA,.sl 2 0 (fun _=>[]),.i .i64 0],.er 0 329]
theorem getM{o:List (Nd SG)}{k:Int×List UInt8}{k0:Nat}{v:Value}{nd:Nd SG}{M:Int×List UInt8->Option Value}(hM:∀k,Aw.isS (M k)=J5 (Dl k0) o k):
  ∀k,Aw.isS (Md (Dl k0 nd) (ay v) M k)=J5 (Dl k0) (o++[nd]) k:=fun k=>by
 unfold Md;by_cases h:k=Dl k0 nd
 ·rw[if_pos h]
  have:J5 (Dl k0) (o++[nd]) k=aF:=J6.2 ⟨nd,by simp,h.symm⟩;rw[this];rfl
 ·rw[if_neg h,hM k]
  unfold J5;rw[List.any_append];have:[nd].any (fun n=>decide (Dl k0 n=k))=aA:=by
   simp only[xQ,yT,kN];exact decide_eq_false fun e=>h e.symm
  rw[this,kN]
theorem apk{k0:Nat}{o:List (Nd SG)}{i at_ q:Nat}{qr:Nat->Tj}{nd:Nd SG}(h:QOK k0 o i at_ q qr):QOK k0 (o++[nd]) i at_ (q+1) (fun j=>if j<q then qr j else ndQ k0 nd):=by
 obtain ⟨h1,h2,h3⟩:=h;refine ⟨by rw[bf];omega,by rw[bf];simp;omega,fun j x hx=>?_⟩;by_cases hj:i+j<o.length
 ·rw[dM hj] at hx
  show (if at_+j<q then qr (at_+j) else ndQ k0 nd)=ndQ k0 x;rw[if_pos (by omega)];exact h3 j x hx
 ·rw[List.getElem?_append_right (by omega)] at hx
  have e:i+j - o.length=0:=by
   have:=(aQ.1 hx).1;simp at this;omega
  rw[e] at hx;cases hx;show (if at_+j<q then qr (at_+j) else ndQ k0 nd)=ndQ k0 nd;rw[if_neg (by omega)]
theorem apl(FT:Bh aB (BG W7) 40 (Xq hs lv B))(hg:LY B Q)(nd:Nd SG)(hq:Q nd){m:Nat}(hm:m<=65536){i:Nat}
  {P:List (Nd SG)->Prop} (hA:∀(o':List (Nd SG)) (M:Int×List UInt8->Option Value) (at_ q:Nat) (qr:Nat->Tj),P o'->QOK B.k0 o' i at_ q qr->q<=100000+o'.length->o'.length<=m->(∀k,Aw.isS (M k)=J5 (Dl B.k0) o' k)->
   BK aB (C7 Aw W7 (DC hs lv B) Bc) (K0 H0 w0) 39 tdA (LA B (m:Nat) M o'.length (nth (o'.map (OY B.k0))) (at_:Nat) q qr o'.length (nth (o'.map (Jr B.k0)))) [] emp (up φ)) :
  ∀r j (o:List (Nd SG)) (M:Int×List UInt8->Option Value) (at_ q:Nat) (qr:Nat->Tj),j+r=(turns (Gb B) nd).length->QOK B.k0 o i at_ q qr->q<=100000+o.length->o.length<=m->(∀k,Aw.isS (M k)=J5 (Dl B.k0) o k)->
   (∀o',FY (Dl B.k0) m o (((turns (Gb B) nd).drop j).map (·.2))=ay o'->P o')->(FY (Dl B.k0) m o (((turns (Gb B) nd).drop j).map (·.2))=aN->φ afC)->
   BK aB (C7 Aw W7 (DC hs lv B) Bc) (K0 H0 w0) 39 tdB (LB B (m:Nat) M o.length (nth (o.map (OY B.k0))) (at_:Nat) q qr o.length (nth (o.map (Jr B.k0))) (turns (Gb B) nd).length (nth ((turns (Gb B) nd).map (G9 B.k0))) (j:Nat)) [] emp (up φ)
 |0,j,o,M,at_,q,qr,hj,hQ,hq2,hlo,hM,hP,_=>by
  have hP:=hP o (by rw[jR (by omega)];rfl);have nx:=hA o M at_ q qr hP hQ hq2 hlo hM;refine FW (fn:=uQ) (tb:=tbB) (by kernel_rfl) (by kernel_rfl) ?_;have lt {P:Prop} (h:Aw.lt (j:Int) (ah (turns (Gb B) nd).length)=aF):P:=by simp[AO] at h;omega
  refine EP (dn _ _) (Gh FT _) (hold:=BN) (m:=300) (n:=400) (ts:=[⟨39,tdB,LB B (m:Nat) M 0 (nth []) (at_:Nat) 0 (fun _=>default) 0 (nth []) (turns (Gb B) nd).length (nth ((turns (Gb B) nd).map (G9 B.k0))) 0,[]⟩,⟨39,tdA,LA B (m:Nat) M o.length (nth (o.map (OY B.k0))) (at_:Nat) q qr o.length (nth (o.map (Jr B.k0))),[]⟩]) ?_;exact QS Aw W7 B hs lv _ M M _ 0 _ (nth []) _ q 0 qr _ _ 0 _ (nth []) _ _ j 0 rfl rfl rfl (fun q=>lt q) (fun q=>lt q) (fun q=>lt q) (fun q=>lt q) (fun q=>lt q) (fun q=>lt q) (fun q=>lt q) (fun q=>lt q)
   (fun _=>⟨⟨rfl,rfl,rfl,rfl,rfl,rfl,rfl,rfl,rfl,fun _ _=>rfl,rfl,fun _ _=>rfl,rfl,fun _ _=>rfl,trivial⟩,_,rfl,nx⟩)
 |r+1,j,o,M,at_,q,qr,hj,hQ,hq2,hlo,hM,hP,alc=>by
  have hjl:j<(turns (Gb B) nd).length:=by omega
  have hN:(turns (Gb B) nd).length<=124:=Nc (hg.tu nd hq).le nd;obtain ⟨t,ht⟩:∃t,(turns (Gb B) nd)[j]?=ay t:=⟨_,aS hjl⟩;have hqt:Q t.2:=hg.step nd hq _ (dL.2 ⟨t,bP ht,rfl⟩);have hd:(turns (Gb B) nd).drop j=t::(turns (Gb B) nd).drop (j+1):=by
   rw[iP hjl];congr 1;rw[aS hjl] at ht;exact dH ht
  rw[hd,jr] at hP alc;have ih:=fun o' M' q' Xr (h1:Ii (Dl B.k0) m o t.2=ay o')=>apl FT hg nd hq hm hA r (j+1) o' M' at_ q' Xr (by omega);refine FW (fn:=uQ) (tb:=tbB) (by kernel_rfl) (by kernel_rfl) ?_;have htr:nth ((turns (Gb B) nd).map (G9 B.k0)) (Aw.toN (j:Int))=G9 B.k0 t:=PU _ _ ht;obtain ⟨tr,etr⟩:∃tr,nth ((turns (Gb B) nd).map (G9 B.k0))=tr:=⟨_,rfl⟩;rw[etr] at htr ih ⊢;have w1:Aw.add .i64 (j:Int) (ah 1)=((j+1:Nat):Int):=add1 (by omega);have no {P:Prop} (h:Aw.lt (j:Int) (ah (turns (Gb B) nd).length)=aA):P:=by simp[AO] at h;omega
  have inb:Aw.inB (j:Int) (turns (Gb B) nd).length=aF:=by simp[BO];omega
  have hke:Z7 4 (tr (Aw.toN (j:Int))).n (tr (Aw.toN (j:Int))).g=aF:=by rw[htr];exact hg.ke _ hqt
  have hMt:M ((tr (Aw.toN (j:Int))).placed,OW (tr (Aw.toN (j:Int))).n (tr (Aw.toN (j:Int))).g)=M (Dl B.k0 t.2):=by rw[htr];rfl
  have rmo:Aw.room (Aw.addN o.length 1) 32=aF:=by rw[ET,decide_eq_true_eq,DU];unfold maxLen;omega
  have rmc:Aw.room (Aw.addN o.length 1) 24=aF:=by rw[ET,decide_eq_true_eq,DU];unfold maxLen;omega
  have rmq:Aw.room (Aw.addN q 1) 32=aF:=by rw[ET,decide_eq_true_eq,DU];unfold maxLen;omega
  cases hb:J5 (Dl B.k0) o (Dl B.k0 t.2) with
  |true=>
   have hpb:Ii (Dl B.k0) m o t.2=ay o:=if_pos hb;have nx:=ih o M q qr hpb hQ hq2 hlo hM (fun o' h=>hP o' (by rw[FY,hpb];exact h)) (fun h=>alc (by rw[FY,hpb];exact h));refine EP (dn _ _) (Gh FT _) (hold:=BN) (m:=300) (n:=400) (ts:=[⟨39,tdB,LB B (m:Nat) M o.length (nth (o.map (OY B.k0))) (at_:Nat) q qr o.length (nth (o.map (Jr B.k0))) (turns (Gb B) nd).length tr ((j+1:Nat):Int),[]⟩,⟨39,tdA,LA B (m:Nat) M o.length (nth (o.map (OY B.k0))) (at_:Nat) q qr o.length (nth (o.map (Jr B.k0))),[]⟩]) ?_;exact QS Aw W7 B hs lv _ M M _ _ _ (nth (o.map (OY B.k0))) _ q q qr qr _ _ _ (nth (o.map (Jr B.k0))) _ tr j ((j+1:Nat):Int) (c1:=aF) rfl (by rw[hMt,hM];exact hb) rfl (fun _=>inb) (fun _=>hke) (fun _ q=>by cases q) (fun _ q=>by cases q) (fun _ q=>by cases q)
    (fun _ _=>⟨⟨rfl,rfl,rfl,rfl,rfl,rfl,w1,rfl,rfl,rfl,rfl,rfl,fun _ _=>rfl,rfl,fun _ _=>rfl,rfl,fun _ _=>rfl,trivial⟩,_,rfl,nx⟩) (fun _ q=>by cases q) (fun _ q=>by cases q) (fun q=>no q)
  |false=>
   have hc:Aw.eq (Aw.Bl o.length) ((m:Nat):Int)=decide (o.length=m):=by
    rw[Bd,Bg];by_cases h:o.length=m
    ·rw[decide_eq_true h,h];simp
    ·rw[decide_eq_false h,beq_eq_false_iff_ne]
     exact fun e=>h (kZ e)
   by_cases hml:o.length=m
   ·refine EP (dn _ _) (Gh FT _) (hold:=BN) (m:=300) (n:=400) (ts:=[⟨39,tdB,LB B (m:Nat) M o.length (nth (o.map (OY B.k0))) (at_:Nat) q qr o.length (nth (o.map (Jr B.k0))) (turns (Gb B) nd).length tr ((j+1:Nat):Int),[]⟩,⟨39,tdA,LA B (m:Nat) M o.length (nth (o.map (OY B.k0))) (at_:Nat) q qr o.length (nth (o.map (Jr B.k0))),[]⟩]) ?_
    exact QS Aw W7 B hs lv _ M M _ _ _ (nth (o.map (OY B.k0))) _ q q qr qr _ _ _ (nth (o.map (Jr B.k0))) _ tr j ((j+1:Nat):Int) (c1:=aA) (c2:=aF) rfl (by rw[hMt,hM];exact hb) (by rw[hc];exact decide_eq_true hml) (fun _=>inb) (fun _=>hke) (fun _ _ q=>by cases q) (fun _ _ q=>by cases q) (fun _ _ q=>by cases q)
     (fun _ q=>by cases q) (fun _ _ _=>Cj (s':=afC) ⟨⟨.inl rfl,.inl ⟨rfl,rfl⟩,rfl,trivial⟩,rfl,trivial⟩ (alc (by rw[FY];unfold Ii;rw[if_neg (by rw[hb];simp),if_pos hml]))) (fun _ _ q=>by cases q) (fun q=>no q)
   ·have hpb:Ii (Dl B.k0) m o t.2=ay (o++[t.2]):=by
     unfold Ii;rw[if_neg (by rw[hb];simp),if_neg hml]
    have nx:=ih (o++[t.2]) (Md (Dl B.k0 t.2) (ay (.int .i64 (Aw.Bl o.length))) M) (q+1) (fun j=>if j<q then qr j else ndQ B.k0 t.2) hpb (apk hQ) (by rw[bf];simp;omega) (by rw[bf];simp;omega) (getM (k:=Dl B.k0 t.2) hM) (fun o' h=>hP o' (by rw[FY,hpb];exact h)) (fun h=>alc (by rw[FY,hpb];exact h));refine EP (dn _ _) (Gh FT _) (hold:=BN) (m:=300) (n:=400) (ts:=[⟨39,tdB,LB B (m:Nat) (Md (Dl B.k0 t.2) (ay (.int .i64 (Aw.Bl o.length))) M) (o++[t.2]).length (nth ((o++[t.2]).map (OY B.k0))) (at_:Nat) (q+1) (fun j=>if j<q then qr j else ndQ B.k0 t.2) (o++[t.2]).length (nth ((o++[t.2]).map (Jr B.k0))) (turns (Gb B) nd).length tr ((j+1:Nat):Int),[]⟩,⟨39,tdA,LA B (m:Nat) M o.length (nth (o.map (OY B.k0))) (at_:Nat) q qr o.length (nth (o.map (Jr B.k0))),[]⟩]) ?_;refine QS Aw W7 B hs lv _ M _ _ _ _ _ _ q _ qr _ _ _ (nth (o.map (Jr B.k0))) _ _ tr j ((j+1:Nat):Int) (c1:=aA) (c2:=aA) rfl (by rw[hMt,hM];exact hb) (by rw[hc];exact decide_eq_false hml) (fun _=>inb) (fun _=>hke) (fun _ _ _=>rmc) (fun _ _ _=>rmq) (fun _ _ _=>rmo)
     (fun _ q=>by cases q) (fun _ _ q=>by cases q) (fun _ _ _=>?_) (fun q=>no q)
    have as3:(o++[t.2]).length=Aw.addN o.length 1:=by rw[bf];rfl
    refine ⟨⟨rfl,rfl,rfl,rfl,rfl,rfl,w1,rfl,?_,rfl,rfl,as3.symm,fun i hi=>?_,rfl,fun i hi=>?_,as3.symm,fun i hi=>?_,trivial⟩,_,rfl,nx⟩
    ·show Md ((tr (Aw.toN (j:Int))).placed,OW (tr (Aw.toN (j:Int))).n (tr (Aw.toN (j:Int))).g) _ M=_
     rw[htr];rfl
    ·have:=IW (o.map (OY B.k0)) (OY B.k0 t.2) [aZ .i64 (tr (Aw.toN (j:Int))).placed,dA (OW (tr (Aw.toN (j:Int))).n (tr (Aw.toN (j:Int))).g)] (by rw[htr];rfl) i (by rw[dQ];exact hi)
     rw[dQ] at this;rw[iO];exact this
    ·rw[EF]
     show _=Row.put (if i<q then qr i else ndQ B.k0 t.2);split
     ·rfl
     ·have:i - q=0:=by have:i<q+1:=hi;omega
      rw[this,htr];rfl
    ·have:=IW (o.map (Jr B.k0)) (Jr B.k0 t.2) [aZ .i64 (tr (Aw.toN (j:Int))).placed,aH 4 (tr (Aw.toN (j:Int))).n (tr (Aw.toN (j:Int))).g] (by rw[htr];rfl) i (by rw[dQ];exact hi)
     rw[dQ] at this;rw[iO];exact this
theorem loopA(FT:Bh aB (BG W7) 40 (Xq hs lv B))(hg:LY B Q){m:Nat}(hm:m<=65536)
  (hC:∀o:List (Nd SG),EU (Gb B) (Dl B.k0) B.g0 m=ay o->BK aB (C7 Aw W7 (DC hs lv B) Bc) (K0 H0 w0) 71 Z8 (LC B o.length (nth (o.map (Jr B.k0))) (fun _=>aN) (o.length:Nat) (Aw.sub .i64 (Aw.Bl o.length) (ah 1))) (OX B) emp (up φ)) :
  ∀f i (o:List (Nd SG)) (M:Int×List UInt8->Option Value) (at_ q:Nat) (qr:Nat->Tj),m<i+f->(∀x∈o,Q x)->QOK B.k0 o i at_ q qr->q<=100000+o.length->o.length<=m->(∀k,Aw.isS (M k)=J5 (Dl B.k0) o k)->
   (∀r,MN (Dl B.k0) (next (Gb B)) m f o i=ay r->EU (Gb B) (Dl B.k0) B.g0 m=ay r)->(MN (Dl B.k0) (next (Gb B)) m f o i=aN->φ afC)->
   BK aB (C7 Aw W7 (DC hs lv B) Bc) (K0 H0 w0) 39 tdA (LA B (m:Nat) M o.length (nth (o.map (OY B.k0))) (at_:Nat) q qr o.length (nth (o.map (Jr B.k0)))) [] emp (up φ)
 |f,i,o,M,at_,q,qr,hf,ho,hQ,hq2,hlo,hM,hr,hr0=>by
  refine FW (fn:=uQ) (tb:=tbA) (by kernel_rfl) (by kernel_rfl) ?_;have hil:=hQ.le;have hql:=hQ.len;by_cases hi:i=o.length
  ·
   have hb:MN (Dl B.k0) (next (Gb B)) m f o i=ay o:=by
    cases f with
    |zero=>rfl |succ f=>
     rw[MN,List.getElem?_eq_none (by omega)]
   have hp:=hr o hb;have nx:=hC o hp;have hat:Aw.eq (at_:Int) (Aw.Bl q)=aF:=by
    have:at_=q:=by omega
    rw[this,Bd,Bg];simp
   refine EP (dn _ _) (Gh FT _) (hold:=BN) (m:=300) (n:=400) (ts:=[⟨39,tdB,LB B (m:Nat) M o.length (nth (o.map (OY B.k0))) 0 0 (fun _=>default) o.length (nth (o.map (Jr B.k0))) 0 (nth []) 0,[]⟩,⟨71,Z8,LC B o.length (nth (o.map (Jr B.k0))) (fun _=>aN) (o.length:Nat) (Aw.sub .i64 (Aw.Bl o.length) (ah 1)),OX B⟩]) ?_;exact Vs Aw W7 B hs lv _ M _ (nth (o.map (OY B.k0))) _ q qr _ (nth (o.map (Jr B.k0))) 0 0 (fun _=>default) 0 (nth []) _ _ _ (c0:=aF) hat rfl rfl (fun q=>by cases q) (fun q=>by cases q) (fun q=>by cases q)
    (fun _=>⟨⟨rfl,rfl,rfl,rfl,rfl,rfl,fun _ _=>rfl,rfl,rfl,rfl,rfl,rfl,trivial⟩,_,rfl,nx⟩) (fun q=>by cases q) (fun q=>by cases q) (fun q=>by cases q) (fun q=>by cases q)
  ·obtain ⟨nd,hnd⟩:∃nd,o[i]?=ay nd:=⟨_,aS (by omega)⟩
   have hq:Q nd:=ho nd (bP hnd);have hrow:=hQ.row 0 nd hnd;rw[jB] at hrow;have hqr:qr (Aw.toN (at_:Int))=ndQ B.k0 nd:=hrow;cases f with
   |zero=>omega |succ f=>
    rw[MN,hnd] at hr hr0;have hN:=(hg.tu nd hq).le;have inb:Aw.inB (at_:Int) q=aF:=by rw[BO,decide_eq_true_eq];omega
    have ne:Aw.eq (at_:Int) (Aw.Bl q)=aA:=by
     rw[Bd,Bg,beq_eq_false_iff_ne];intro e;have:=kZ e;omega
    have w1:Aw.add .i64 (at_:Int) (ah 1)=((at_+1:Nat):Int):=by
     show aW.wrap ((at_:Int)+1)=_;rw[CO (by omega) (by omega)];rfl
    have htu:tuB B.lv B.N (Az B.T) B.N (Az B.ms) (qr (Aw.toN (at_:Int))).placed (qr (Aw.toN (at_:Int))).st (qr (Aw.toN (at_:Int))).n (qr (Aw.toN (at_:Int))).g=aF:=by
     rw[hqr];exact Xt hg hq rfl
    have e1:aH 4 (OV B.lv B.N (Az B.T) (Az B.ms) (qr (Aw.toN (at_:Int))).placed (qr (Aw.toN (at_:Int))).n (qr (Aw.toN (at_:Int))).g) (Az (Z5 B.lv B.N (Az B.T) (Az B.ms) (qr (Aw.toN (at_:Int))).placed (qr (Aw.toN (at_:Int))).n (qr (Aw.toN (at_:Int))).g))=aH 4 (turns (Gb B) nd).length (Az (nth ((turns (Gb B) nd).map (G9 B.k0)))):=by
     rw[hqr];show aH 4 (OV B.lv B.N (Az B.T) (Az B.ms) (nd.placed:Nat) B.k0 nd.st) (Az (Z5 B.lv B.N (Az B.T) (Az B.ms) (nd.placed:Nat) B.k0 nd.st))=_;rw[Lc,Xu]
    have e2:Aw.Bl (OV B.lv B.N (Az B.T) (Az B.ms) (qr (Aw.toN (at_:Int))).placed (qr (Aw.toN (at_:Int))).n (qr (Aw.toN (at_:Int))).g)=ah (turns (Gb B) nd).length:=by
     rw[hqr];show Aw.Bl (OV B.lv B.N (Az B.T) (Az B.ms) (nd.placed:Nat) B.k0 nd.st)=_;rw[Lc];rfl
    have hLB:=fun (at' q':Nat) (Xr:Nat->Tj) (h:QOK B.k0 o (i+1) at' q' Xr) (h2:q'<=100000+o.length)=>
     apl (H0:=H0) (w0:=w0) (φ:=φ) FT hg nd hq hm (i:=i+1) (P:=fun o'=>(∀x∈o',Q x)/\(∀r,MN (Dl B.k0) (next (Gb B)) m f o' (i+1)=ay r->EU (Gb B) (Dl B.k0) B.g0 m=ay r)/\(MN (Dl B.k0) (next (Gb B)) m f o' (i+1)=aN->φ afC))
      (fun o' M' awT q'' awU hP hQ' hq' awV hM'=>loopA FT hg hm hC f (i+1) o' M' awT q'' awU (by omega) hP.1 hQ' hq' awV hM' hP.2.1 hP.2.2)
      (turns (Gb B) nd).length 0 o M at' q' Xr (by omega) h h2 hlo hM (fun o' h=>by
       rw[jg] at h;have h:FY (Dl B.k0) m o (next (Gb B) nd)=ay o':=h;refine ⟨TY h ho (hg.step nd hq),fun r hb=>hr r ?_,fun hb=>hr0 ?_⟩
       ·simp only[h]
        exact hb
       ·simp only[h]
        exact hb) (fun h=>hr0 (by
       rw[jg] at h;have h:FY (Dl B.k0) m o (next (Gb B) nd)=aN:=h;simp only[h]))
    by_cases hlast:at_+1=q
    ·have hc1:Aw.eq (Aw.add .i64 (at_:Int) (ah 1)) (Aw.Bl q)=aF:=by rw[w1,hlast,Bd,Bg];simp
     have nx:=hLB 0 0 (fun _=>default) ⟨by omega,by omega,fun j x hx=>by have:=(aQ.1 hx).1;omega⟩ (by omega);refine EP (dn _ _) (Gh FT _) (hold:=BN) (m:=300) (n:=400) (ts:=[⟨39,tdB,LB B (m:Nat) M o.length (nth (o.map (OY B.k0))) ((0:Nat):Int) 0 (fun _=>default) o.length (nth (o.map (Jr B.k0))) (turns (Gb B) nd).length (nth ((turns (Gb B) nd).map (G9 B.k0))) ((0:Nat):Int),[]⟩,⟨71,Z8,LC B o.length (nth (o.map (Jr B.k0))) (fun _=>aN) (o.length:Nat) 0,OX B⟩]) ?_;exact Vs Aw W7 B hs lv _ M _ (nth (o.map (OY B.k0))) _ q qr _ (nth (o.map (Jr B.k0))) _ 0 (fun _=>default) _ _ _ _ _ (c0:=aA) (c1:=aF) ne hc1 rfl (fun _=>inb) (fun _ _ _=>htu) (fun _ q=>by cases q)
      (fun q=>by cases q) (fun _ _ q=>by cases q) (fun _ _ _=>⟨⟨rfl,rfl,rfl,rfl,e1,e2,rfl,rfl,rfl,rfl,rfl,rfl,fun _ _=>rfl,rfl,rfl,fun _ _=>rfl,trivial⟩,_,rfl,nx⟩) (fun _ q=>by cases q) (fun _ q=>by cases q)
    ·have hc1:Aw.eq (Aw.add .i64 (at_:Int) (ah 1)) (Aw.Bl q)=aA:=by
      rw[w1,Bd,Bg,beq_eq_false_iff_ne];intro e;exact hlast (kZ e)
     have nx:=hLB (at_+1) q (fun j=>if j=at_ then ⟨0,0,0,fun _=>[]⟩ else qr j) ⟨by omega,by omega,fun j x hx=>by
      show (if at_+1+j=at_ then _ else qr (at_+1+j))=_;rw[if_neg (by omega)];have:=hQ.row (j+1) x (by rw[show i+(j+1)=i+1+j by omega];exact hx);rw[show at_+1+j=at_+(j+1) by omega];exact this⟩ hq2
     refine EP (dn _ _) (Gh FT _) (hold:=BN) (m:=300) (n:=400) (ts:=[⟨39,tdB,LB B (m:Nat) M o.length (nth (o.map (OY B.k0))) ((at_+1:Nat):Int) q (fun j=>if j=at_ then ⟨0,0,0,fun _=>[]⟩ else qr j) o.length (nth (o.map (Jr B.k0))) (turns (Gb B) nd).length (nth ((turns (Gb B) nd).map (G9 B.k0))) ((0:Nat):Int),[]⟩,⟨71,Z8,LC B o.length (nth (o.map (Jr B.k0))) (fun _=>aN) (o.length:Nat) 0,OX B⟩]) ?_;refine Vs Aw W7 B hs lv _ M _ (nth (o.map (OY B.k0))) _ q qr _ (nth (o.map (Jr B.k0))) _ q _ _ _ _ _ _ (c0:=aA) (c1:=aA) ne hc1 rfl (fun _=>inb) (fun _ q=>by cases q) (fun _ _ _=>htu)
      (fun q=>by cases q) (fun _ q=>by cases q) (fun _ q=>by cases q) (fun _ _ q=>by cases q) (fun _ _ _=>⟨⟨rfl,rfl,rfl,rfl,e1,e2,rfl,rfl,rfl,rfl,w1,rfl,fun _ _=>rfl,rfl,fun j hj=>?_,rfl,fun _ _=>rfl,trivial⟩,_,rfl,nx⟩)
     show (if j=at_ then (Az qr j).take 0++[aZ .i64 (ah 0),aH 0 0 fun _=>[]]++(Az qr j).drop (0+2) else Az qr j)=Row.put (if j=at_ then (⟨0,0,0,fun _=>[]⟩:Tj) else qr j);split
     ·rfl
     ·rfl
end
end Go.Proofs
namespace Go.Pl
open Go Go.Sx Go.Proofs
structure Tm where
 okb:Bool
 Vr:Bool
 pos:Int
 e:Nat
 n:Nat
 T:Nat->En
noncomputable def as4(s h:Sh):Bool:=@decide (s=h) (bG _)
def JL(st lv:Int):Bool:=if lv=1\/lv=2 then st==3||st==2 else lv==3
def reB(en bg:Int):Bool:=decide (0<=en)&&decide (en<bg)
def FM(lv:Int)(n:Nat)(T:Nat->En):List En:=((aY n).map T).filter fun t=>JL t.st lv
def PW(lv bg:Int):Nat->List En->Nat->Nat
 |_,[],m=>m |i,a::l,m=>PW lv bg (i+1) l (if lv≠1/\reB a.en bg=aF then m|||1<<<i else m)
def mkI(lv:Int)(l:List En)(k:Nat):Int:=(PW lv (nth l k).bg 0 l 0:Nat)
noncomputable def mkP(lv:Int)(n:Nat)(T:Nat->List Sh):Bool:=okB En n T&&(decide (1<=lv)&&(decide (lv<=3)&&decide (n<=62)))
def mkN(lv:Int)(n:Nat)(T:Nat->List Sh):Nat:=(FM lv n (AB T)).length
def mkR(lv:Int)(n:Nat)(T:Nat->List Sh):Nat->Int:=mkI lv (FM lv n (AB T))
def nwB(n:Nat)(g:Nat->List Sh):Bool:=okB Oj n g&&(QF n (AB g)&&(!SL n&&NR n (AB g)))
def Ik(g:Nat->List Sh):Nat->List Sh:=CY (newT (AB g))
end Go.Pl
namespace Go.Proofs
open Go Go.Sx Go.Pl
noncomputable def D20(hs:Sh)(B:Tm):List Sh->Tree Sh
 |[s]=>.need (as4 s hs) (.node B.okb (.leaf (.Ba [.sl 7 B.n (Az B.T),.v .nilIface]))
   (.node B.Vr (.leaf (.Ba [.sl 0 0 (fun _=>[]),.Dv 109 (.pt [.i .i64 B.pos,.er B.e 329])])) (.leaf (.Ba [.sl 0 0 (fun _=>[]),.er B.e 329]))))
 |_=>.fail
noncomputable def D73:List Sh->Tree Sh
 |[.agg l,t]=>match Row.get (α:=En) l,BH t with
  |some x,ay lv=>.leaf (.b (JL x.st lv)) |_,_=>.fail
 |_=>.fail
noncomputable def D94:List Sh->Tree Sh
 |[.agg l,.agg r]=>match Row.get (α:=En) l,Row.get (α:=En) r with
  |some x,ay y=>.leaf (.b (reB x.en y.bg)) |_,_=>.fail
 |_=>.fail
noncomputable def D74:List Sh->Tree Sh
 |[s,t]=>match Ej 7 s,BH t with
  |some (n,T),ay lv=>.need (mkP lv n T) (.leaf (.Ba [.sl 1 (mkN lv n T) (Az (mkR lv n T)),.v .nilIface])) |_,_=>.fail
 |_=>.fail
noncomputable def D75:List Sh->Tree Sh
 |[s]=>match Ej 2 s with
  |some (n,g)=>.need (nwB n g) (.leaf (.Ba [.agg [.sl 4 n (Ik g)],.v .nilIface])) |none=>.fail
 |_=>.fail
noncomputable def QT(hs:Sh)(B:Tm):Nat->Option (List Sh->Tree Sh)
 |20=>ay (D20 hs B) |73=>ay D73 |74=>ay D74 |75=>ay D75 |_=>aN
noncomputable def IX:Nat->Option (List Sh->Tree Sh)
 |73=>ay D73 |94=>ay D94 |_=>aN
def Zy:List It:=[bD [0,1,0,1,1,1,1,1],dh 0,bD [1,1,1,1,1,1]]
def apm:List It:=bD [0,0,1,0,1,1,1,1,1]::Zy
def Zz(o m:Nat)(og mg:Nat->List Sh)(lv:Int)(n:Nat)(T:Nat->En)(c:Nat)(cr:Nat->En)(i:Int):Core:=
 {tm:=F8 71 [(1,.sym .i64 lv),(2,.ptr 0 0),(6,.sh (.sl 7 n (Az T))),(8,.ptr 1 0),(26,.sh (.sl 7 n (Az T))),(27,.sym .i64 (n:Int)),(28,.sym .i64 i)],hp:=[(0,.box [.sh (.sl 2 o og),.sh (.sl 8 m mg)] 25),(1,.box [.sym .i64 lv,.gs 2,.Bj,.Bj] 102),(2,.own 115 7 c (Az cr))],nx:=3,lim:=L0,tc:=[]}
def ZA:List It:=[bD [0,1,0,1,1,1],dh 0,bD [1,1,1,1]]
def apn:List It:=bD [0,0,1,0,1,1,1]::ZA
def ZB(lv:Int)(n:Nat)(T:Nat->En)(c:Nat)(cr:Nat->En)(i:Int):Core:=
 {tm:=F8 74 [(1,.sym .i64 lv),(6,.gs 0),(21,.sh (.sl 7 n (Az T))),(22,.sym .i64 (n:Int)),(23,.sym .i64 i)],hp:=[(0,.own 115 7 c (Az cr))],nx:=1,lim:=L0,tc:=[]}
def LZ:List It:=[bD [0,1,0,1,1,1,1,1,1],dh 2,bD [1,1,1,1,1,1,1]]
def ajN:List It:=bD [0,0,1,0,1,1,1,1,1,1]::LZ
def Rl(lv:Int)(c:Nat)(cr:Nat->En)(n:Nat)(o:Nat->Int)(k:Int):Core:=
 {tm:=F8 74 [(1,.sym .i64 lv),(6,.gs 0),(9,.gs 1),(42,.gs 0),(43,.sym .i64 (c:Int)),(44,.sym .i64 k)],hp:=[(0,.own 115 7 c (Az cr)),(1,.own 3 1 n (Az o))],nx:=2,lim:=L0,tc:=[]}
def OZ:List It:=[bD [0,1,1,0,0,1,1,0,0,1,0,1,1,1,1,1,1],dh 4,dh 3,bD [1,1,1,0,0,1,0,1,1,1,1,1,1],bD [0,1,0,1,1,1,1,1,1],dh 2,bD [1,1,1,1,1,1,1]]
def ajO:List It:=bD [0,0,1,1,0,0,1,1,0,0,1,0,1,1,1,1,1,1]::OZ
def UG(lv:Int)(c:Nat)(cr:Nat->En)(n:Nat)(o:Nat->Int)(k:Int)(b:En)(i:Int):Core:=
 {tm:=F8 74 [(1,.sym .i64 lv),(6,.gs 0),(9,.gs 1),(10,.sym .i64 k),(11,.ptr 2 0),(42,.gs 0),(43,.sym .i64 (c:Int)),(44,.sym .i64 k),(49,.gs 0),(50,.sym .i64 (c:Int)),(51,.sym .i64 i)],hp:=[(0,.own 115 7 c (Az cr)),(1,.own 3 1 n (Az o)),(2,.box [.sym .i64 b.id,.sym .i64 b.th,.sym .i64 b.st,.sym .i64 b.bg,.sym .i64 b.en,.sym .i64 b.tr,.sh (.sl 8 b.k b.g)] 115)],nx:=3,lim:=L0,tc:=[]}
theorem ajP(A:Prim)(W:Wd)(B:Tm)(lv:Int)(o m:Nat)(og mg:Nat->List Sh)(cr:Nat->En)(i':Int){ψ:Eo->Prop}{c0 c1 c2:Bool}(e0:B.okb=c0)(e1:A.lt (ah 12) (A.Bl B.n)=c1)(e2:B.Vr=c2)(h1:(as4 (bU [aH 2 o og,aH 8 m mg]) (bU [aH 2 o og,aH 8 m mg]))=aF)(y1:c0=aF->c1=aF->ψ (aU (cZ [jF (gJ aN),bC 1 329])))(y2:c0=aF->c1=aA->ψ (bJ 0 [ak lv lv,aP (aH 7 B.n (Az B.T)) (aH 7 B.n (Az B.T)),aP (aH 7 B.n (Az B.T)) (aH 7 B.n (Az B.T)),ak (A.Bl B.n) (ah B.n),ak (ah 0) i',aP (aH 2 o og) (aH 2 o og),aP (aH 8 m mg) (aH 8 m mg),ak lv lv,aK 0 0]))(y3:c0=aA->c2=aF->ψ (aU (cZ [jF (gJ aN),Sh.Dv 109 (tZ [aZ .i64 B.pos,bC B.e 329])])))(y4:c0=aA->c2=aA->ψ (aU (cZ [jF (gJ aN),bC B.e 329]))):CZ ψ (BA (C7 A W (QT (.agg [.sl 2 o og,.sl 8 m mg]) B) Bc) BN 300 400 40 [.code []] (AL 71 [.agg [.sl 2 o og,.sl 8 m mg],.i .i64 lv] L0) [] [⟨40,Zy,Zz o m og mg lv B.n B.T 0 cr i',[]⟩]):=by
 subst e0 e1 e2;exact FK (an h1 (an (fun q0=>an (y1 q0) (y2 q0)) (fun q0=>an (y3 q0) (y4 q0)))) (by kernel_rfl)
theorem Vt(A:Prim)(W:Wd)(hs:Sh)(B:Tm)(lv:Int)(o m:Nat)(og mg:Nat->List Sh)(n:Nat)(T:Nat->En)(c c':Nat)(cr QO:Nat->En)(i i':Int){ψ:Eo->Prop}{c0 c1:Bool}(e0:A.lt i (ah n)=c0)(e1:JL (T (A.toN i)).st lv=c1)(h1:c0=aF->(A.inB i n)=aF)(h2:c0=aF->c1=aF->(A.room (A.addN c 1) 72)=aF)(h3:c0=aA->(mkP lv n (Az T))=aF)(h4:c0=aA->(nwB o og)=aF)(y1:c0=aF->c1=aF->ψ (bJ 0 [ak lv lv,aP (aH 7 n (Az T)) (aH 7 n (Az T)),aP (aH 7 n (Az T)) (aH 7 n (Az T)),ak (ah n) (ah n),ak (A.add .i64 i (ah 1)) i',aP (aH 2 o og) (aH 2 o og),aP (aH 8 m mg) (aH 8 m mg),ak lv lv,aK (A.addN c 1) c',aV (A.addN c 1) (A.snoc (Az cr) c (BD [[aZ .i64 (T (A.toN i)).id,aZ .i64 (T (A.toN i)).th,aZ .i64 (T (A.toN i)).st,aZ .i64 (T (A.toN i)).bg,aZ .i64 (T (A.toN i)).en,aZ .i64 (T (A.toN i)).tr,aH 8 (T (A.toN i)).k (T (A.toN i)).g]])) (Az QO)]))(y2:c0=aF->c1=aA->ψ (bJ 0 [ak lv lv,aP (aH 7 n (Az T)) (aH 7 n (Az T)),aP (aH 7 n (Az T)) (aH 7 n (Az T)),ak (ah n) (ah n),ak (A.add .i64 i (ah 1)) i',aP (aH 2 o og) (aH 2 o og),aP (aH 8 m mg) (aH 8 m mg),ak lv lv,aK c c',aV c (Az cr) (Az QO)]))(y3:c0=aA->ψ (aU (cZ [tZ [aZ .i64 lv,aH 7 c (Az cr),aH 1 (mkN lv n (Az T)) (Az (mkR lv n (Az T))),aH 4 o (Ik og)],jF bM]))):CZ ψ (BA (C7 A W (QT hs B) Bc) BN 300 400 40 apm (Zz o m og mg lv n T c cr i) [] [⟨40,Zy,Zz o m og mg lv n T c' QO i',[]⟩]):=by
 subst e0 e1;exact aoZ (by kernel_rfl) (an (fun q0=>an (h1 q0) (an (fun q1=>an (h2 q0 q1) (an (h2 q0 q1) (y1 q0 q1))) (y2 q0))) (fun q0=>an (h3 q0) (an (h4 q0) (y3 q0)))) (by kernel_rfl)
theorem ajQ(A:Prim)(W:Wd)(lv:Int)(n:Nat)(T:Nat->En)(QO:Nat->En)(i':Int){ψ:Eo->Prop}{c0 c1:Bool}(e0:A.lt lv (ah 1)=c0)(e1:A.lt (ah 3) lv=c1)(y1:c0=aF->ψ (aU (cZ [aH 0 0 fun _=>[],bC 2 329])))(y2:c0=aA->c1=aF->ψ (aU (cZ [aH 0 0 fun _=>[],bC 2 329])))(y3:c0=aA->c1=aA->ψ (bJ 0 [ak lv lv,aP (aH 7 n (Az T)) (aH 7 n (Az T)),ak (A.Bl n) (ah n),ak (ah 0) i',aK 0 0])):CZ ψ (BA (C7 A W IX Bc) BN 300 400 74 [.code []] (AL 74 [.sl 7 n (Az T),.i .i64 lv] L0) [] [⟨74,ZA,ZB lv n T 0 QO i',[]⟩]):=by
 subst e0 e1;exact FK (an y1 (fun q0=>an (y2 q0) (y3 q0))) (by kernel_rfl)
theorem Vu(A:Prim)(W:Wd)(lv:Int)(n:Nat)(T:Nat->En)(c c':Nat)(cr QO:Nat->En)(i i':Int)(m':Nat)(o':Nat->Int){ψ:Eo->Prop}{c0 c1 c2:Bool}(e0:A.lt i (ah n)=c0)(e1:JL (T (A.toN i)).st lv=c1)(e2:A.lt (ah 62) (A.Bl c)=c2)(h1:c0=aF->(A.inB i n)=aF)(h2:c0=aF->c1=aF->(A.room (A.addN c 1) 72)=aF)(h3:c0=aA->c2=aA->(A.le (ah 0) (A.Bl c))=aF)(h4:c0=aA->c2=aA->(A.room (A.toN (A.Bl c)) 8)=aF)(y1:c0=aF->c1=aF->ψ (bJ 0 [ak lv lv,aP (aH 7 n (Az T)) (aH 7 n (Az T)),ak (ah n) (ah n),ak (A.add .i64 i (ah 1)) i',aK (A.addN c 1) c',aV (A.addN c 1) (A.snoc (Az cr) c (BD [[aZ .i64 (T (A.toN i)).id,aZ .i64 (T (A.toN i)).th,aZ .i64 (T (A.toN i)).st,aZ .i64 (T (A.toN i)).bg,aZ .i64 (T (A.toN i)).en,aZ .i64 (T (A.toN i)).tr,aH 8 (T (A.toN i)).k (T (A.toN i)).g]])) (Az QO)]))(y2:c0=aF->c1=aA->ψ (bJ 0 [ak lv lv,aP (aH 7 n (Az T)) (aH 7 n (Az T)),ak (ah n) (ah n),ak (A.add .i64 i (ah 1)) i',aK c c',aV c (Az cr) (Az QO)]))(y3:c0=aA->c2=aF->ψ (aU (cZ [aH 0 0 fun _=>[],bC 1 329])))(y4:c0=aA->c2=aA->ψ (bJ 1 [ak lv lv,ak (A.Bl c) (ah c),ak (ah 0) (ah 0),aK c c,aV c (Az cr) (Az cr),aK (A.toN (A.Bl c)) m',aV (A.toN (A.Bl c)) (fun (x:Nat)=>[aZ .i64 (ah 0)]) (Az o')])):CZ ψ (BA (C7 A W IX Bc) BN 300 400 74 apn (ZB lv n T c cr i) [] [⟨74,ZA,ZB lv n T c' QO i',[]⟩,⟨74,LZ,Rl lv c cr m' o' 0,[]⟩]):=by
 subst e0 e1 e2;exact FK (an (fun q0=>an (h1 q0) (an (fun q1=>an (h2 q0 q1) (y1 q0 q1)) (y2 q0))) (fun q0=>an (y3 q0) (fun q1=>an (h3 q0 q1) (an (h4 q0 q1) (y4 q0 q1))))) (by kernel_rfl)
theorem aco(A:Prim)(W:Wd)(lv:Int)(c:Nat)(cr:Nat->En)(n:Nat)(o:Nat->Int)(k:Int)(b:En){ψ:Eo->Prop}{c0:Bool}(e0:A.lt k (ah c)=c0)(h1:c0=aF->(A.inB k c)=aF)(y1:c0=aF->ψ (bJ 0 [ak lv lv,ak k k,ak (ah c) (ah c),ak k k,ak (A.Bl c) (ah c),ak (ah 0) (ah 0),aK c c,aV c (Az cr) (Az cr),aK n n,aV n (Az o) (Az o),ak (cr (A.toN k)).id b.id,ak (cr (A.toN k)).th b.th,ak (cr (A.toN k)).st b.st,ak (cr (A.toN k)).bg b.bg,ak (cr (A.toN k)).en b.en,ak (cr (A.toN k)).tr b.tr,aP (aH 8 (cr (A.toN k)).k (cr (A.toN k)).g) (aH 8 b.k b.g)]))(y2:c0=aA->ψ (aU (cZ [Sh.os 3 1 n (Az o),jF bM]))):CZ ψ (BA (C7 A W IX Bc) BN 300 400 74 ajN (Rl lv c cr n o k) [] [⟨74,OZ,UG lv c cr n o k b 0,[]⟩]):=by
 subst e0;exact FK (an (fun q0=>an (h1 q0) (y1 q0)) y2) (by kernel_rfl)
theorem Vx(A:Prim)(W:Wd)(lv:Int)(c:Nat)(cr:Nat->En)(n:Nat)(o o':Nat->Int)(k k':Int)(b:En)(i i':Int){ψ:Eo->Prop}{c0 c1 c2:Bool}(e0:A.lt i (ah c)=c0)(e1:A.nt (A.eq lv (ah 1))=c1)(e2:reB (cr (A.toN i)).en b.bg=c2)(h1:c0=aF->(A.inB i c)=aF)(h2:c0=aF->c1=aF->c2=aF->(A.inB k n)=aF)(h3:c0=aF->c1=aF->c2=aF->(A.le (ah 0) i)=aF)(y1:c0=aF->c1=aF->c2=aF->ψ (bJ 0 [ak lv lv,ak k k,ak (ah c) (ah c),ak k k,ak (ah c) (ah c),ak (A.add .i64 i (ah 1)) i',aK c c,aV c (Az cr) (Az cr),aK n n,aV n (A.upd (Az o) (A.toN k) 0 [aZ .i64 (A.bin BinOp.or aW (o (A.toN k)) (A.bin iC aW (ah 1) i))]) (Az o'),ak b.id b.id,ak b.th b.th,ak b.st b.st,ak b.bg b.bg,ak b.en b.en,ak b.tr b.tr,aP (aH 8 b.k b.g) (aH 8 b.k b.g)]))(y2:c0=aF->c1=aF->c2=aA->ψ (bJ 0 [ak lv lv,ak k k,ak (ah c) (ah c),ak k k,ak (ah c) (ah c),ak (A.add .i64 i (ah 1)) i',aK c c,aV c (Az cr) (Az cr),aK n n,aV n (Az o) (Az o'),ak b.id b.id,ak b.th b.th,ak b.st b.st,ak b.bg b.bg,ak b.en b.en,ak b.tr b.tr,aP (aH 8 b.k b.g) (aH 8 b.k b.g)]))(y3:c0=aF->c1=aA->ψ (bJ 0 [ak lv lv,ak k k,ak (ah c) (ah c),ak k k,ak (ah c) (ah c),ak (A.add .i64 i (ah 1)) i',aK c c,aV c (Az cr) (Az cr),aK n n,aV n (Az o) (Az o'),ak b.id b.id,ak b.th b.th,ak b.st b.st,ak b.bg b.bg,ak b.en b.en,ak b.tr b.tr,aP (aH 8 b.k b.g) (aH 8 b.k b.g)]))(y4:c0=aA->ψ (bJ 1 [ak lv lv,ak (ah c) (ah c),ak (A.add .i64 k (ah 1)) k',aK c c,aV c (Az cr) (Az cr),aK n n,aV n (Az o) (Az o)])):CZ ψ (BA (C7 A W IX Bc) BN 300 400 74 ajO (UG lv c cr n o k b i) [] [⟨74,OZ,UG lv c cr n o' k b i',[]⟩,⟨74,LZ,Rl lv c cr n o k',[]⟩]):=by
 subst e0 e1 e2;exact FK (an (fun q0=>an (h1 q0) (an (fun q1=>an (fun q2=>an (h2 q0 q1 q2) (an (h3 q0 q1 q2) (an (h2 q0 q1 q2) (y1 q0 q1 q2)))) (y2 q0 q1)) (y3 q0))) y4) (by kernel_rfl)
theorem ajR(A:Prim)(W:Wd)(t:En)(lv:Int){ψ:Eo->Prop}{c0 c1 c2:Bool}(e0:A.eq lv (ah 1)=c0)(e1:A.eq t.st (ah 3)=c1)(e2:A.eq lv (ah 2)=c2)(y1:c0=aF->c1=aF->ψ (aU (gq aF)))(y2:c0=aF->c1=aA->ψ (aU (gq (A.eq t.st (ah 2)))))(y3:c0=aA->c2=aF->c1=aF->ψ (aU (gq aF)))(y4:c0=aA->c2=aF->c1=aA->ψ (aU (gq (A.eq t.st (ah 2)))))(y5:c0=aA->c2=aA->ψ (aU (gq (A.eq lv (ah 3))))):CZ ψ (BA (C7 A W noSpec Bc) BN 300 400 73 [.code []] (AL 19 [.agg [.i .i64 t.id,.i .i64 t.th,.i .i64 t.st,.i .i64 t.bg,.i .i64 t.en,.i .i64 t.tr,.sl 8 t.k t.g],.i .i64 lv] L0) [] []):=by
 subst e0 e1 e2;exact FK (an (fun q0=>an (y1 q0) (y2 q0)) (fun q0=>an (fun q1=>an (y3 q0 q1) (y4 q0 q1)) (y5 q0))) (by kernel_rfl)
theorem ajS(A:Prim)(W:Wd)(t u:En){ψ:Eo->Prop}{c0:Bool}(e0:A.le (ah 0) t.en=c0)(y1:c0=aF->ψ (aU (gq (A.lt t.en u.bg))))(y2:c0=aA->ψ (aU (gq aA))):CZ ψ (BA (C7 A W noSpec Bc) BN 300 400 94 [.code []] (AL 15 [.agg [.i .i64 t.id,.i .i64 t.th,.i .i64 t.st,.i .i64 t.bg,.i .i64 t.en,.i .i64 t.tr,.sl 8 t.k t.g],.agg [.i .i64 u.id,.i .i64 u.th,.i .i64 u.st,.i .i64 u.bg,.i .i64 u.en,.i .i64 u.tr,.sl 8 u.k u.g]] L0) [] []):=by
 subst e0;exact FK (an y1 y2) (by kernel_rfl)
end Go.Proofs
namespace Go.Pl
open Go Go.Sx Go.Proofs
def ctF(lv:Int)(T:Nat->En)(i r:Nat):List En:=((aY r).map fun j=>T (i+j)).filter fun t=>JL t.st lv
theorem YG(lv:Int)(T:Nat->En)(i r:Nat):ctF lv T i (r+1)=(if JL (T i).st lv=aF then [T i] else [])++ctF lv T (i+1) r:=by
 unfold ctF;rw[rE,jr,mP,List.filter_cons];have:((fun j=>T (i+j)) ∘ Nat.succ)=fun j=>T (i+1+j):=by
  funext j;show T (i+(j+1))=T (i+1+j);congr 1;omega
 rw[this,jB];by_cases h:JL (T i).st lv=aF
 ·rw[if_pos h,if_pos h];rfl
 ·rw[if_neg h,if_neg h];rfl
theorem acp(lv:Int)(T:Nat->En)(n:Nat):ctF lv T 0 n=FM lv n T:=by
 unfold ctF FM;simp
theorem afD(lv:Int)(n:Nat)(T:Nat->En):(FM lv n T).length<=n:=by
 unfold FM;have:=List.length_filter_le (fun t:En=>JL t.st lv) ((aY n).map T);rw[dQ,oh] at this;exact this
theorem ahS{lv bg:Int}:∀(l:List En) (i m N:Nat),m<2^N->i+l.length<=N->PW lv bg i l m<2^N
 |[],i,m,N,h,_=>h |a::l,i,m,N,h,hl=>by
  rw[PW];refine ahS l (i+1) _ N ?_ (by simp at hl;omega);split
  ·refine pW h ?_
   rw[mO,iI];exact jC (by decide) (by simp at hl;omega)
  ·exact h
end Go.Pl
namespace Go.Proofs
open Go Go.Sx Go.Pl
section
variable{H0:Mem}{w0:World}{φ:Sh->Prop}
theorem QU(Gi:Bh aB (BG W7) 73 D73)(GK:Bh aB (BG W7) 94 D94)(stop:Nat->List Nat->Bool):Cb aB (C7 Aw W7 IX stop):=nU (fun g F h=>by
 unfold IX at h;split at h
 ·cases h;exact Gi
 ·cases h;exact GK
 ·cases h) fun g h=>by
 unfold IX at h;split at h;all_goals first|(cases h;done) |kernel_rfl
theorem apo{o:Nat->Int}{k:Nat}{v:Int}:∀j,Aw.upd (Az o) k 0 [aZ .i64 v] j=Az (fun j=>if j=k then v else o j) j:=fun j=>by
 show (if j=k then (Az o j).take 0++[aZ .i64 v]++(Az o j).drop (0+1) else Az o j)=Row.put (if j=k then v else o j);split
 ·rfl
 ·rfl
variable{lv:Int}{l:List En}
theorem ahT(Gi:Bh aB (BG W7) 73 D73)(GK:Bh aB (BG W7) 94 D94)(hl:l.length<=62){k:Nat}(hk:k<l.length){b:En}:
  ∀r i (o:Nat->Int) (m:Nat),i+r=l.length->o k=(m:Nat)->m<2^62->
  (BK aB (C7 Aw W7 IX Bc) (K0 H0 w0) 74 LZ (Rl lv l.length (nth l) l.length (fun j=>if j=k then (PW lv b.bg i (l.drop i) m:Nat) else o j) ((k+1:Nat):Int)) [] emp (up φ))->
  BK aB (C7 Aw W7 IX Bc) (K0 H0 w0) 74 OZ (UG lv l.length (nth l) l.length o (k:Nat) b (i:Nat)) [] emp (up φ)
 |0,i,o,m,hi,ho,hm,nx=>by
  refine FW (fn:=lQ) (tb:=ajO) (by kernel_rfl) (by kernel_rfl) ?_;have lt {P:Prop} (h:Aw.lt (i:Int) (ah l.length)=aF):P:=by simp[AO] at h;omega
  have w1:Aw.add .i64 (k:Int) (ah 1)=((k+1:Nat):Int):=add1 (by omega);have e:(fun j=>if j=k then ((PW lv b.bg i (l.drop i) m:Nat):Int) else o j)=o:=by
   funext j;rw[jR (by omega),PW];split
   ·rename_i h;rw[h,ho]
   ·rfl
  rw[e] at nx;refine EP (dn _ _) (QU Gi GK _) (hold:=BN) (m:=300) (n:=400) (ts:=[⟨74,OZ,UG lv l.length (nth l) l.length o (k:Nat) b 0,[]⟩,⟨74,LZ,Rl lv l.length (nth l) l.length o ((k+1:Nat):Int),[]⟩]) ?_;exact Vx Aw W7 lv _ (nth l) _ o o k _ b i 0 rfl rfl rfl (fun q=>lt q) (fun q=>lt q) (fun q=>lt q) (fun q=>lt q) (fun q=>lt q) (fun q=>lt q)
   (fun _=>⟨⟨rfl,rfl,w1,rfl,fun _ _=>rfl,rfl,fun _ _=>rfl,trivial⟩,_,rfl,nx⟩)
 |r+1,i,o,m,hi,ho,hm,nx=>by
  obtain ⟨a,ha⟩:∃a,l[i]?=ay a:=⟨_,aS (by omega)⟩;have hd:l.drop i=a::l.drop (i+1):=by
   rw[iP (by omega)];congr 1;rw[aS (by omega)] at ha;exact dH ha
  have hna:nth l (Aw.toN (i:Int))=a:=by
   show nth l i=a;unfold nth;rw[aX,ha];rfl
  rw[hd,PW] at nx;refine FW (fn:=lQ) (tb:=ajO) (by kernel_rfl) (by kernel_rfl) ?_;have w1:Aw.add .i64 (i:Int) (ah 1)=((i+1:Nat):Int):=add1 (by omega);have no {P:Prop} (h:Aw.lt (i:Int) (ah l.length)=aA):P:=by simp[AO] at h;omega
  have inb:Aw.inB (i:Int) l.length=aF:=by rw[BO,decide_eq_true_eq];omega
  have ald:Aw.inB (k:Int) l.length=aF:=by rw[BO,decide_eq_true_eq];omega
  have le0:Aw.le (ah 0) (i:Int)=aF:=by simp[DK]
  have hc1:Aw.nt (Aw.eq lv (ah 1))=decide (lv≠1):=by
   rw[CU,Bd];by_cases h:lv=1
   ·subst h;rfl
   ·rw[decide_eq_true h]
    have:(lv==ah 1)=aA:=beq_eq_false_iff_ne.2 h;rw[this];rfl
  have step (m':Nat) (hm':m'<2^62) (o':Nat->Int) (h1:o'=fun j=>if j=k then (m':Int) else o j)
    (h2:(if lv≠1/\reB a.en b.bg=aF then m|||1<<<i else m)=m'):=ahT Gi GK hl hk r (i+1) o' m' (by omega) (by rw[h1];simp) hm' (b:=b) (by
     rw[h2] at nx;have e:(fun j=>if j=k then ((PW lv b.bg (i+1) (l.drop (i+1)) m':Nat):Int) else o' j)=fun j=>if j=k then ((PW lv b.bg (i+1) (l.drop (i+1)) m':Nat):Int) else o j:=by
      funext j;rw[h1];split
      ·rfl
      ·rename_i hj;simp[hj]
     rw[e];exact nx)
  have same:(fun j=>if j=k then ((m:Nat):Int) else o j)=o:=by
   funext j;split
   ·rename_i h;rw[h,ho]
   ·rfl
  by_cases hc:lv≠1/\reB a.en b.bg=aF
  ·have st:=step (m|||1<<<i) (pW hm (by rw[mO,iI];exact jC (by decide) (by omega))) _ rfl (if_pos hc)
   refine EP (dn _ _) (QU Gi GK _) (hold:=BN) (m:=300) (n:=400) (ts:=[⟨74,OZ,UG lv l.length (nth l) l.length (fun j=>if j=k then ((m|||1<<<i:Nat):Int) else o j) (k:Nat) b ((i+1:Nat):Int),[]⟩,⟨74,LZ,Rl lv l.length (nth l) l.length o 0,[]⟩]) ?_;refine Vx Aw W7 lv _ (nth l) _ o _ k _ b i _ (c1:=aF) (c2:=aF) rfl (by rw[hc1];exact decide_eq_true hc.1) (by rw[hna];exact hc.2) (fun _=>inb) (fun _ _ _=>ald) (fun _ _ _=>le0)
    (fun _ _ _=>⟨⟨rfl,rfl,rfl,rfl,rfl,w1,rfl,fun _ _=>rfl,rfl,fun j hj=>?_,rfl,rfl,rfl,rfl,rfl,rfl,rfl,trivial⟩,_,rfl,st⟩) (fun _ _ q=>by cases q) (fun _ q=>by cases q) (fun q=>no q)
   have e:Aw.bin .or .i64 (o (Aw.toN (k:Int))) (Aw.bin .shl .i64 (ah 1) (i:Int))=((m|||1<<<i:Nat):Int):=by
    show Aw.bin .or .i64 (o k) _=_;rw[ho];exact or_eq (by omega) (by omega)
   rw[e];exact apo j
  ·have st:=step m hm o same.symm (if_neg hc)
   refine EP (dn _ _) (QU Gi GK _) (hold:=BN) (m:=300) (n:=400) (ts:=[⟨74,OZ,UG lv l.length (nth l) l.length o (k:Nat) b ((i+1:Nat):Int),[]⟩,⟨74,LZ,Rl lv l.length (nth l) l.length o 0,[]⟩]) ?_;have fin:=(⟨⟨rfl,rfl,rfl,rfl,rfl,w1,rfl,fun _ _=>rfl,rfl,fun _ _=>rfl,rfl,rfl,rfl,rfl,rfl,rfl,rfl,trivial⟩,_,rfl,st⟩:Jq aB (C7 Aw W7 IX Bc) (K0 H0 w0) [⟨74,OZ,UG lv l.length (nth l) l.length o (k:Nat) b ((i+1:Nat):Int),[]⟩,⟨74,LZ,Rl lv l.length (nth l) l.length o 0,[]⟩] emp (up φ) (bJ 0 [ak lv lv,ak k k,ak (ah l.length) (ah l.length),ak k k,ak (ah l.length) (ah l.length),ak (Aw.add .i64 i (ah 1)) ((i+1:Nat):Int),aK l.length l.length,aV l.length (Az (nth l)) (Az (nth l)),aK l.length l.length,aV l.length (Az o) (Az o),ak b.id b.id,ak b.th b.th,ak b.st b.st,ak b.bg b.bg,ak b.en b.en,ak b.tr b.tr,aP (aH 8 b.k b.g) (aH 8 b.k b.g)]));exact Vx Aw W7 lv _ (nth l) _ o _ k _ b i _ rfl rfl rfl (fun _=>inb) (fun _ _ _=>ald) (fun _ _ _=>le0)
    (fun _ q1 q2=>(hc ⟨of_decide_eq_true (hc1.symm.trans q1),by rw[hna] at q2;exact q2⟩).elim) (fun _ _ _=>fin) (fun _ _=>fin) (fun q=>no q)
theorem ahU(Gi:Bh aB (BG W7) 73 D73)(GK:Bh aB (BG W7) 94 D94)(hl:l.length<=62)(hφ:φ (.Ba [.sl 1 l.length (Az (mkI lv l)),.v .nilIface])):
  ∀r k (o:Nat->Int),k+r=l.length->(∀j,j<k->o j=mkI lv l j)->(∀j,k<=j->o j=0)->
  BK aB (C7 Aw W7 IX Bc) (K0 H0 w0) 74 LZ (Rl lv l.length (nth l) l.length o (k:Nat)) [] emp (up φ)
 |0,k,o,hk,ho,ho2=>by
  refine FW (fn:=lQ) (tb:=ajN) (by kernel_rfl) (by kernel_rfl) ?_;have lt {P:Prop} (h:Aw.lt (k:Int) (ah l.length)=aF):P:=by simp[AO] at h;omega
  refine EP (dn _ _) (QU Gi GK _) (hold:=BN) (m:=300) (n:=400) (ts:=[⟨74,OZ,UG lv l.length (nth l) l.length o (k:Nat) default 0,[]⟩]) ?_;refine aco Aw W7 lv _ (nth l) _ o k default rfl (fun q=>lt q) (fun q=>lt q) (fun _=>?_);refine Cj (s':=.Ba [.sl 1 l.length (Az (mkI lv l)),.v .nilIface]) ⟨.inr ⟨rfl,rfl,fun j hj=>?_⟩,rfl,trivial⟩ hφ;show Row.put (o j)=Row.put (mkI lv l j);rw[ho j (by omega)]
 |r+1,k,o,hk,ho,ho2=>by
  refine FW (fn:=lQ) (tb:=ajN) (by kernel_rfl) (by kernel_rfl) ?_;have no {P:Prop} (h:Aw.lt (k:Int) (ah l.length)=aA):P:=by simp[AO] at h;omega
  have inb:Aw.inB (k:Int) l.length=aF:=by rw[BO,decide_eq_true_eq];omega
  have st:=ahT (H0:=H0) (w0:=w0) (φ:=φ) (lv:=lv) Gi GK hl (k:=k) (by omega) (b:=nth l k) l.length 0 o 0 (by omega) (ho2 k (dw _)) (by decide)
   (ahU Gi GK hl hφ r (k+1) _ (by omega) (fun j hj=>by
    show (if j=k then ((PW lv (nth l k).bg 0 (l.drop 0) 0:Nat):Int) else o j)=_;split
    ·rename_i h;subst h;rfl
    ·exact ho j (by omega)) (fun j hj=>by
    show (if j=k then ((PW lv (nth l k).bg 0 (l.drop 0) 0:Nat):Int) else o j)=_;rw[if_neg (by omega)];exact ho2 j (by omega)))
  refine EP (dn _ _) (QU Gi GK _) (hold:=BN) (m:=300) (n:=400) (ts:=[⟨74,OZ,UG lv l.length (nth l) l.length o (k:Nat) (nth l k) ((0:Nat):Int),[]⟩]) ?_;exact aco Aw W7 lv _ (nth l) _ o k (nth l k) rfl (fun _=>inb) (fun _=>⟨⟨rfl,rfl,rfl,rfl,rfl,rfl,rfl,fun _ _=>rfl,rfl,fun _ _=>rfl,rfl,rfl,rfl,rfl,rfl,rfl,rfl,trivial⟩,_,rfl,st⟩) (fun q=>no q)
theorem acr{n:Nat}{T:Nat->En}(Gi:Bh aB (BG W7) 73 D73)(GK:Bh aB (BG W7) 94 D94)(hn:n<=62)(hφ:φ (.Ba [.sl 1 (FM lv n T).length (Az (mkI lv (FM lv n T))),.v .nilIface])):
  ∀r i (acc:List En),i+r=n->acc.length<=i->acc++ctF lv T i r=FM lv n T->
  BK aB (C7 Aw W7 IX Bc) (K0 H0 w0) 74 ZA (ZB lv n T acc.length (nth acc) (i:Nat)) [] emp (up φ)
 |0,i,acc,hi,hl,he=>by
  have he:acc=FM lv n T:=by
   rw[<-he];show acc=acc++[];rw[fA]
  refine FW (fn:=lQ) (tb:=apn) (by kernel_rfl) (by kernel_rfl) ?_;have lt {P:Prop} (h:Aw.lt (i:Int) (ah n)=aF):P:=by simp[AO] at h;omega
  have c2 {P:Prop} (h:Aw.lt (ah 62) (Aw.Bl acc.length)=aF):P:=by simp[AO,Bg] at h;omega
  have st:=ahU (H0:=H0) (w0:=w0) (φ:=φ) (lv:=lv) (l:=acc) Gi GK (by omega) (by rw[he];exact hφ) acc.length 0 (fun _=>0) (by omega) (fun j hj=>by omega) (fun j _=>rfl);refine EP (dn _ _) (QU Gi GK _) (hold:=BN) (m:=300) (n:=400) (ts:=[⟨74,ZA,ZB lv n T acc.length (nth acc) 0,[]⟩,⟨74,LZ,Rl lv acc.length (nth acc) acc.length (fun _=>0) ((0:Nat):Int),[]⟩]) ?_;refine Vu Aw W7 lv n T _ _ (nth acc) _ i 0 acc.length (fun _=>0) rfl rfl rfl (fun q=>lt q) (fun q=>lt q) (fun _ _=>by simp[DK,Bg]) (fun _ _=>?_) (fun q=>lt q) (fun q=>lt q) (fun _ q=>c2 q)
   (fun _ _=>⟨⟨rfl,rfl,rfl,rfl,fun _ _=>rfl,rfl,fun _ _=>rfl,trivial⟩,_,rfl,st⟩)
  rw[ET,decide_eq_true_eq,Bg,Dn,fK];unfold maxLen;omega
 |r+1,i,acc,hi,hl,he=>by
  refine FW (fn:=lQ) (tb:=apn) (by kernel_rfl) (by kernel_rfl) ?_;have w1:Aw.add .i64 (i:Int) (ah 1)=((i+1:Nat):Int):=add1 (by omega);have no {P:Prop} (h:Aw.lt (i:Int) (ah n)=aA):P:=by simp[AO] at h;omega
  have inb:Aw.inB (i:Int) n=aF:=by rw[BO,decide_eq_true_eq];omega
  have rm:Aw.room (Aw.addN acc.length 1) 72=aF:=by rw[ET,decide_eq_true_eq,DU];unfold maxLen;omega
  rw[YG] at he;cases hc:JL (T i).st lv with
  |true=>
   rw[if_pos hc,<-dV] at he;have nx:=acr Gi GK hn hφ r (i+1) (acc++[T i]) (by omega) (by rw[bf];simp;omega) he;refine EP (dn _ _) (QU Gi GK _) (hold:=BN) (m:=300) (n:=400) (ts:=[⟨74,ZA,ZB lv n T (acc++[T i]).length (nth (acc++[T i])) ((i+1:Nat):Int),[]⟩,⟨74,LZ,Rl lv acc.length (nth acc) 0 (fun _=>0) 0,[]⟩]) ?_;exact Vu Aw W7 lv n T _ _ (nth acc) _ i _ 0 (fun _=>0) (c1:=aF) rfl hc rfl (fun _=>inb) (fun _ _=>rm) (fun q=>no q) (fun q=>no q)
    (fun _ _=>⟨⟨rfl,rfl,rfl,w1,by rw[bf];rfl,fun j hj=>IW acc (T i) _ rfl j hj,trivial⟩,_,rfl,nx⟩) (fun _ q=>by cases q) (fun q=>no q) (fun q=>no q)
  |false=>
   rw[if_neg (by rw[hc];simp),jK] at he;have nx:=acr Gi GK hn hφ r (i+1) acc (by omega) (by omega) he;refine EP (dn _ _) (QU Gi GK _) (hold:=BN) (m:=300) (n:=400) (ts:=[⟨74,ZA,ZB lv n T acc.length (nth acc) ((i+1:Nat):Int),[]⟩,⟨74,LZ,Rl lv acc.length (nth acc) 0 (fun _=>0) 0,[]⟩]) ?_;exact Vu Aw W7 lv n T _ _ (nth acc) _ i _ 0 (fun _=>0) (c1:=aA) rfl hc rfl (fun _=>inb) (fun _ q=>by cases q) (fun q=>no q) (fun q=>no q)
    (fun _ q=>by cases q) (fun _ _=>⟨⟨rfl,rfl,rfl,w1,rfl,fun _ _=>rfl,trivial⟩,_,rfl,nx⟩) (fun q=>no q) (fun q=>no q)
end
theorem Gi:Bh aB (BG W7) 73 D73:=by
 refine FX (C:=C7 Aw W7 noSpec Bc) (dn _ _) (fn:=Tryz.f73) (by kernel_rfl) (by kernel_rfl) fun H w BI args φ hrep h=>?_
 have hn:Tryz.f73.ntmps=19:=by kernel_rfl
 unfold D73 at h;split at h
 ·rename_i l t
  split at h
  ·rename_i x lv e1 e2
   have hφ:φ (.b (JL x.st lv)):=h;match args,hrep with
   |[v,u],⟨rv,ru,_⟩=>
    have hl:l=Row.put x:=(Row.DJ _ _ e1).symm;subst hl;refine ⟨[.agg (Row.put x),.i .i64 lv],⟨rv,EH e2 ru,trivial⟩,L0,?_⟩;refine EP (dn _ _) (MB _) (hold:=BN) (m:=300) (n:=400) (ts:=[]) ?_;rw[hn];have fin (b:Bool) (hb:b=JL x.st lv):up φ (.b b):=Cj (s':=.b (JL x.st lv)) (.inl (by rw[hb])) hφ;have e3:Aw.eq x.st (ah 3)=(x.st==3):=rfl;have e2':Aw.eq x.st (ah 2)=(x.st==2):=rfl;refine ajR Aw W7 x lv rfl rfl rfl (fun q0 q1=>fin _ ?_) (fun q0 q1=>fin _ ?_) (fun q0 q2 q1=>fin _ ?_) (fun q0 q2 q1=>fin _ ?_) (fun q0 q2=>fin _ ?_);all_goals unfold JL
    ·rw[if_pos (.inl (by simpa[Bd] using q0)),<-e3,q1];rfl
    ·rw[if_pos (.inl (by simpa[Bd] using q0)),<-e3,q1,e2'];rfl
    ·rw[if_pos (.inr (by simpa[Bd] using q2)),<-e3,q1];rfl
    ·rw[if_pos (.inr (by simpa[Bd] using q2)),<-e3,q1,e2'];rfl
    ·rw[if_neg (by
      rintro (h|h)
      ·rw[h] at q0;cases q0
      ·rw[h] at q2;cases q2)]
     rfl
  ·exact h.elim
 ·exact h.elim
theorem GK:Bh aB (BG W7) 94 D94:=by
 refine FX (C:=C7 Aw W7 noSpec Bc) (dn _ _) (fn:=Tryz.f94) (by kernel_rfl) (by kernel_rfl) fun H w BI args φ hrep h=>?_
 have hn:Tryz.f94.ntmps=15:=by kernel_rfl
 unfold D94 at h;split at h
 ·rename_i l r
  split at h
  ·rename_i x y e1 e2
   have hφ:φ (.b (reB x.en y.bg)):=h;have hl:l=Row.put x:=(Row.DJ _ _ e1).symm;have hr:r=Row.put y:=(Row.DJ _ _ e2).symm;subst hl hr;refine ⟨[.agg (Row.put x),.agg (Row.put y)],hrep,L0,?_⟩;refine EP (dn _ _) (MB _) (hold:=BN) (m:=300) (n:=400) (ts:=[]) ?_;rw[hn];have fin (b:Bool) (hb:b=reB x.en y.bg):up φ (.b b):=Cj (s':=.b (reB x.en y.bg)) (.inl (by rw[hb])) hφ;refine ajS Aw W7 x y rfl (fun q=>fin _ ?_) (fun q=>fin _ ?_)
   ·have q:decide (0<=x.en)=aF:=q
    unfold reB;rw[q];rfl
   ·have q:decide (0<=x.en)=aA:=q
    unfold reB;rw[q];rfl
  ·exact h.elim
 ·exact h.elim
theorem aus:Bh aB (BG W7) 74 D74:=by
 refine FX (C:=C7 Aw W7 IX Bc) (dn _ _) (fn:=lQ) (by kernel_rfl) (by kernel_rfl) fun H w BI args φ hrep h=>?_
 have hn:lQ.ntmps=74:=by kernel_rfl
 unfold D74 at h;split at h
 ·rename_i s t
  split at h
  ·rename_i n T lv e1 e2
   obtain ⟨h1,hφ⟩:=h;unfold mkP at h1;rw[aJ,aJ,aJ] at h1;obtain ⟨a1,a2,a3,a4⟩:=h1;have a2:=of_decide_eq_true a2;have a3:=of_decide_eq_true a3;have a4:=of_decide_eq_true a4;match args,hrep with
   |[v,u],⟨rv,ru,_⟩=>
    refine ⟨[.sl 7 n (Az (AB (α:=En) T)),.i .i64 lv],⟨EK (Ce e1 rv) a1,EH e2 ru,trivial⟩,L0,?_⟩;have st:=acr (H0:=H) (w0:=w) (φ:=φ) (lv:=lv) (n:=n) (T:=AB T) Gi GK a4 hφ n 0 [] (by omega) (by simp) (by rw[jK,acp]);refine EP (dn _ _) (QU Gi GK _) (hold:=BN) (m:=300) (n:=400) (ts:=[⟨74,ZA,ZB lv n (AB T) 0 (nth []) ((0:Nat):Int),[]⟩]) ?_;rw[hn];have c0 {P:Prop} (h:Aw.lt lv (ah 1)=aF):P:=by simp[AO] at h;omega
    have c1 {P:Prop} (h:Aw.lt (ah 3) lv=aF):P:=by simp[AO] at h;omega
    exact ajQ Aw W7 lv n (AB T) (nth []) _ rfl rfl (fun q=>c0 q) (fun _ q=>c1 q) (fun _ _=>⟨⟨rfl,rfl,rfl,rfl,rfl,trivial⟩,_,rfl,st⟩)
  ·exact h.elim
 ·exact h.elim
theorem awW:Bh aB (BG W7) 75 D75:=O25.mono fun H BI args φ hr h=>by
 unfold D75 at h;split at h
 ·split at h
  ·rename_i n g e0
   obtain ⟨h1,h2⟩:=h;unfold nwB at h1;rw[aJ,aJ,aJ,Bool.not_eq_true'] at h1;obtain ⟨a1,a2,a3,a4⟩:=h1;unfold F25;simp only[e0];exact ⟨a1,a2,fun q=>(by rw[q] at a3;cases a3),fun _=>⟨fun _=>h2,fun q=>(by rw[q] at a4;cases a4)⟩⟩
  ·exact h.elim
 ·exact h.elim
theorem afE{hs:Sh}{B:Tm}(O20:Bh aB (BG W7) 20 (D20 hs B))(stop:Nat->List Nat->Bool):Cb aB (C7 Aw W7 (QT hs B) stop):=nU (fun g F h=>by
 unfold QT at h;split at h
 ·cases h;exact O20
 ·cases h;exact Gi
 ·cases h;exact aus
 ·cases h;exact awW
 ·cases h) fun g h=>by
 unfold QT at h;split at h;all_goals first|(cases h;done) |kernel_rfl
section
variable{H0:Mem}{w0:World}{φ:Sh->Prop}{hs:Sh}{B:Tm}{lv:Int}{o m:Nat}{og mg:Nat->List Sh}
theorem afF(O20:Bh aB (BG W7) 20 (D20 hs B)){n:Nat}{T:Nat->En}(h1:1<=lv)(h3:lv<=3)(hn:n<=12)(hw:nwB o og=aF)
  (hφ:φ (.Ba [.pt (CG lv (FM lv n T).length (nth (FM lv n T)) (FM lv n T).length (mkI lv (FM lv n T)) o (Ik og)),.v .nilIface])) :
  ∀r i (acc:List En),i+r=n->acc.length<=i->acc++ctF lv T i r=FM lv n T->
  BK aB (C7 Aw W7 (QT hs B) Bc) (K0 H0 w0) 40 Zy (Zz o m og mg lv n T acc.length (nth acc) (i:Nat)) [] emp (up φ)
 |0,i,acc,hi,hl,he=>by
  have he:acc=FM lv n T:=by
   rw[<-he];show acc=acc++[];rw[fA]
  refine FW (fn:=zD) (tb:=apm) (by kernel_rfl) (by kernel_rfl) ?_;have lt {P:Prop} (h:Aw.lt (i:Int) (ah n)=aF):P:=by simp[AO] at h;omega
  refine EP (dn _ _) (afE O20 _) (hold:=BN) (m:=300) (n:=400) (ts:=[⟨40,Zy,Zz o m og mg lv n T 0 (nth []) 0,[]⟩]) ?_;refine Vt Aw W7 hs B lv o m og mg n T _ 0 (nth acc) (nth []) i 0 rfl rfl (fun q=>lt q) (fun q=>lt q) (fun _=>?_) (fun _=>hw) (fun q=>lt q) (fun q=>lt q) (fun _=>?_)
  ·unfold mkP
   rw[Eh,decide_eq_true h1,decide_eq_true h3,decide_eq_true (by omega:n<=62)];rfl
  ·have e1:mkN lv n (Az T)=(FM lv n T).length:=by unfold mkN;rw[H6]
   have e2:mkR lv n (Az T)=mkI lv (FM lv n T):=by unfold mkR;rw[H6]
   rw[e1,e2,he];exact Cj (s':=.Ba [.pt (CG lv (FM lv n T).length (nth (FM lv n T)) (FM lv n T).length (mkI lv (FM lv n T)) o (Ik og)),.v .nilIface]) ⟨rfl,rfl,trivial⟩ hφ
 |r+1,i,acc,hi,hl,he=>by
  refine FW (fn:=zD) (tb:=apm) (by kernel_rfl) (by kernel_rfl) ?_;have w1:Aw.add .i64 (i:Int) (ah 1)=((i+1:Nat):Int):=add1 (by omega);have no {P:Prop} (h:Aw.lt (i:Int) (ah n)=aA):P:=by simp[AO] at h;omega
  have inb:Aw.inB (i:Int) n=aF:=by rw[BO,decide_eq_true_eq];omega
  have rm:Aw.room (Aw.addN acc.length 1) 72=aF:=by rw[ET,decide_eq_true_eq,DU];unfold maxLen;omega
  rw[YG] at he;cases hc:JL (T i).st lv with
  |true=>
   rw[if_pos hc,<-dV] at he;have nx:=afF O20 h1 h3 hn hw hφ r (i+1) (acc++[T i]) (by omega) (by rw[bf];simp;omega) he;refine EP (dn _ _) (afE O20 _) (hold:=BN) (m:=300) (n:=400) (ts:=[⟨40,Zy,Zz o m og mg lv n T (acc++[T i]).length (nth (acc++[T i])) ((i+1:Nat):Int),[]⟩]) ?_;exact Vt Aw W7 hs B lv o m og mg n T _ _ (nth acc) _ i _ (c1:=aF) rfl hc (fun _=>inb) (fun _ _=>rm) (fun q=>no q) (fun q=>no q)
    (fun _ _=>⟨⟨rfl,rfl,rfl,rfl,w1,rfl,rfl,rfl,by rw[bf];rfl,fun j hj=>IW acc (T i) _ rfl j hj,trivial⟩,_,rfl,nx⟩) (fun _ q=>by cases q) (fun q=>no q)
  |false=>
   rw[if_neg (by rw[hc];simp),jK] at he;have nx:=afF O20 h1 h3 hn hw hφ r (i+1) acc (by omega) (by omega) he;refine EP (dn _ _) (afE O20 _) (hold:=BN) (m:=300) (n:=400) (ts:=[⟨40,Zy,Zz o m og mg lv n T acc.length (nth acc) ((i+1:Nat):Int),[]⟩]) ?_;exact Vt Aw W7 hs B lv o m og mg n T _ _ (nth acc) _ i _ (c1:=aA) rfl hc (fun _=>inb) (fun _ q=>by cases q) (fun q=>no q) (fun q=>no q)
    (fun _ q=>by cases q) (fun _ _=>⟨⟨rfl,rfl,rfl,rfl,w1,rfl,rfl,rfl,rfl,fun _ _=>rfl,trivial⟩,_,rfl,nx⟩) (fun q=>no q)
end
end Go.Proofs
namespace Go.AQ
open Go Go.Sx
abbrev Wd:=Go.Proofs.Wd
abbrev Xg:=Go.Proofs.Xg
abbrev F9:=Go.Proofs.BG
abbrev W5:=rO
abbrev noSpec:=Go.Proofs.noSpec
noncomputable def C5(A:Prim)(W:Wd)(spec:Nat->Option (List Sh->Tree Sh))(stop:Nat->List Nat->Bool):Ctx:=
 {A,tys:=ni,fns:=oW,spec,eqs:=[140,71],VQ:=[329],MP:=stop,gls:=F9 W,live:=yU,pks:=[157],aeH:=Go.Proofs.aol}
theorem awX:WW aB ni [140,71]=aF:=by kernel_rfl
theorem awY:agT aB [329]=aF:=by kernel_rfl
theorem C5.ok(spec:Nat->Option (List Sh->Tree Sh))(stop:Nat->List Nat->Bool):BL aB (C5 Aw W5 spec stop):=
 ⟨abe yV,Qu jl,rfl,tY,fun t i h hi xs ys w h1 h2 x y=>Ya (Qx awX t i h hi) xs ys w h1 h2 x y,WV awY,Ar⟩
theorem C5.Um{spec:Nat->Option (List Sh->Tree Sh)}{stop:Nat->List Nat->Bool}(hs:∀g F,spec g=ay F->Bh aB (F9 W5) g F)(he:∀g,(spec g).isSome=aF->(oW.get g).isSome=aF):Cb aB (C5 Aw W5 spec stop):=
 ⟨hs,fun g h=>by
  rcases h with h|h
  ·exact Ht jl jM g (he g h)
  ·exact Ht jl jM g h,fun _ _ _ h=>(by cases h),fun _ _ _ h=>(by cases h)⟩
theorem MB(stop:Nat->List Nat->Bool):Cb aB (C5 Aw W5 noSpec stop):=C5.Um (fun _ _ h=>by cases h) (fun _ h=>by cases h)
def A8:Nat->List Nat->Bool:=fun _ _=>aA
end Go.AQ
namespace Go.Cc
open Go Go.Sx
structure Oj where
 kind:Int
 init:Int
 deriving DecidableEq,Inhabited
structure Ev where
 kind:Int
 tx:Int
 thread:Int
 obj:Int
 op:Int
 key:Int
 val:Int
 ret:Int
 deriving DecidableEq,Inhabited
def obR(o:Oj):List Sh:=[.i .i64 o.kind,.i .i64 o.init]
def Fb(e:Ev):List Sh:=[.i .i64 e.kind,.i .i64 e.tx,.i .i64 e.thread,.i .i64 e.obj,.i .i64 e.op,.i .i64 e.key,.i .i64 e.val,.i .i64 e.ret]
def inR(n:Int):List Sh:=[.i .i64 n]
class Row(α:Type)where
 put:α->List Sh
 get:List Sh->Option α
 DJ:∀l a,get l=ay a->put a=l
 get_put:∀a,get (put a)=ay a
 JJ:α
instance:Row Oj where
 put:=obR
 get l:=match l with
  |[.i .i64 a,.i .i64 b]=>ay ⟨a,b⟩ |_=>aN
 DJ l a h:=by
  split at h
  ·cases h;rfl
  ·cases h
 get_put a:=rfl
 JJ:=⟨0,0⟩
instance:Row Ev where
 put:=Fb
 get l:=match l with
  |[.i .i64 a,.i .i64 b,.i .i64 c,.i .i64 d,.i .i64 e,.i .i64 f,.i .i64 g,.i .i64 h]=>ay ⟨a,b,c,d,e,f,g,h⟩ |_=>aN
 DJ l a h:=by
  split at h
  ·cases h;rfl
  ·cases h
 get_put a:=rfl
 JJ:=⟨0,0,0,0,0,0,0,0⟩
instance:Row Int where
 put:=inR
 get l:=match l with
  |[.i .i64 a]=>ay a |_=>aN
 DJ l a h:=by
  split at h
  ·cases h;rfl
  ·cases h
 get_put a:=rfl
 JJ:=0
def okB(α:Type)[Row α](n:Nat)(g:Nat->List Sh):Bool:=
 match n with
 |0=>aF |n+1=>okB α n g&&(Row.get (α:=α) (g n)).isSome
def AB{α:Type}[Row α](g:Nat->List Sh)(i:Nat):α:=(Row.get (g i)).getD Row.JJ
def lst(α:Type)[Row α](n:Nat)(g:Nat->List Sh):List α:=(aY n).map (AB g)
def nth{α:Type}[Row α](l:List α)(i:Nat):α:=l.getD i Row.JJ
def Az{α:Type}[Row α](o:Nat->α):Nat->List Sh:=fun j=>Row.put (o j)
section
variable{α:Type}[Row α]
theorem Jj{n:Nat}{g:Nat->List Sh}(h:okB α n g=aF):∀i,i<n->g i=Row.put (AB (α:=α) g i):=by
 induction n with
 |zero=>intro i hi;omega |succ n ih=>
  simp only[okB,aJ] at h;intro i hi;by_cases e:i=n
  ·subst e
   obtain ⟨a,ha⟩:=Option.isSome_iff_exists.1 h.2;simp only[AB,ha,oI];exact (Row.DJ _ _ ha).symm
  ·exact ih h.1 i (by omega)
theorem Eh(o:Nat->α):∀n,okB α n (Az o)=aF
 |0=>rfl |n+1=>by simp[okB,Eh o n,Az,Row.get_put]
theorem aas{g:Nat->List Sh}{o:Nat->α}:∀{n:Nat},(∀i,i<n->g i=Row.put (o i))->okB α n g=aF
 |0,_=>rfl |n+1,h=>by simp[okB,aas (n:=n) fun i hi=>h i (by omega),h n (by omega),Row.get_put]
theorem NP(o:Nat->α)(i:Nat):AB (Az o) i=o i:=by simp[AB,Az,Row.get_put]
@[simp] theorem FQ (n:Nat) (g:Nat->List Sh):(lst α n g).length=n:=by simp[lst]
theorem SI{n:Nat}{g:Nat->List Sh}{i:Nat}(h:i<n):nth (lst α n g) i=AB g i:=by simp[nth,lst,h]
end
theorem ER{H:Mem}{st n:Nat}{g g':Nat->List Sh}{v:Value}(h:Rep H (.sl st n g) v)(hg:∀j,j<n->g j=g' j):Rep H (.sl st n g') v:=by
 cases h with
 |sl0 _ _ A cap hc=>exact .sl0 _ _ _ _ hc |sl _ _ _ b off cap c h1 h2 h3 h4 h5 h6=>exact .sl _ _ _ b off cap c h1 h2 (fun i hi=>by rw[<-hg i hi];exact h3 i hi) h4 h5 fun i j s hi e=>h6 i j s hi (by rw[hg i hi];exact e)
theorem EK{α:Type}[Row α]{H:Mem}{st n:Nat}{g:Nat->List Sh}{v:Value}(h:Rep H (.sl st n g) v)(hg:okB α n g=aF):Rep H (.sl st n (Az (AB (α:=α) g))) v:=
 ER h fun j hj=>Jj hg j hj
def len{α:Type}(l:List α):Nat:=l.length
def fO(g:Nat->List Sh):Nat->List Sh:=Az (AB (α:=Oj) g)
def fE(g:Nat->List Sh):Nat->List Sh:=Az (AB (α:=Ev) g)
open Go Go.Sx
theorem AO(a b:Int):Aw.lt a b=decide (a<b):=rfl
theorem DK(a b:Int):Aw.le a b=decide (a<=b):=rfl
theorem Bd(a b:Int):Aw.eq a b=(a==b):=rfl
theorem BO(a:Int)(n:Nat):Aw.inB a n=decide (0<=a/\a<n):=rfl
theorem II(a:Int)(n:Nat):Aw.upTo a n=decide (0<=a/\a<=n):=rfl
theorem ET(n b:Nat):Aw.room n b=decide (n*b<=140737488355328/\n<=maxLen):=rfl
theorem Dn(a:Int):Aw.toN a=a.toNat:=rfl
theorem Bg(n:Nat):Aw.Bl n=(n:Int):=rfl
theorem DU(n m:Nat):Aw.addN n m=n+m:=rfl
theorem Yj(n m:Nat):Aw.leN n m=decide (n<=m):=rfl
theorem CU(b:Bool):Aw.nt b=!b:=rfl
theorem Ep(a b c:Bool):Aw.ite a b c=bif a then b else c:=rfl
theorem Yk(a b:List UInt8):Aw.seq a b=(a==b):=rfl
theorem DR(a b:Int):Aw.add .i64 a b=aW.wrap (a+b):=rfl
theorem MZ(a b:Int):Aw.sub .i64 a b=aW.wrap (a - b):=rfl
theorem Na(a b:Int):Aw.max a b=if b>a then b else a:=rfl
theorem ael(a b:Int):Aw.min a b=if b<a then b else a:=rfl
theorem EF(g:Nat->List Sh)(n:Nat)(h:Nat->List Sh)(i:Nat):Aw.snoc g n h i=if i<n then g i else h (i - n):=rfl
theorem CO{a:Int}(h1:-9223372036854775808<=a)(h2:a<=9223372036854775807):aW.wrap a=a:=by
 rw[IntKind.wrap_i64];omega
theorem Hz:ah 1=1:=rfl
theorem maxLen_eq:maxLen=9223372036854775807:=rfl
theorem aem{α:Type}[Row α]{k:Nat}{o:Nat->α}{l:List (List Sh)}(h:BD l 0=Row.put (o k)):∀i,i<k+1->Aw.snoc (Az o) k (BD l) i=Az o i:=fun i hi=>by
 rw[EF];split
 ·rfl
 ·have:i=k:=by omega
  subst this;rw[qR,h];rfl
def BU(n b:Nat):Bool:=Aw.room n b
end Go.Cc
