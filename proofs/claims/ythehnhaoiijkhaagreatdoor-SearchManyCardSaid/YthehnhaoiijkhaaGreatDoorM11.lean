/- Own work. -/
import Derived.Test.YthehnhaoiijkhaaGreatDoorM10
import Derived.Conc.LoneSelect
import Derived.KernelRfl
open Int (ofNat)
open Bool renaming true->aC,false->ak,not_not->yB,and_eq_true->aH,or_false->kE
open Classical renaming propDecidable->bD
open Go.BinOp renaming shl->ig
open Go.Conc renaming base->zS
open Go.Frame renaming enter->gI
open Go.Gm renaming start->je
open Go.IntKind renaming i64->aT
open Go.Proofs renaming W7->qX,akb->zU
open Go.Proofs.C7 renaming UK->lQ,ok->cZ
open Go.Proofs.Tryz renaming prog->aB,f41->rJ,f69->rM,func69->yU,f71->rO,f39->uw,f74->lF,f40->yV,tys->mM,fns->oG,live->yD,tysB_->yE,fnsAre_->jf,mixed_->sS,entersB_->jH
open Go.Sx renaming Sh->zT
open Go.Sx.Bh renaming nat->aJ,Le->bC,sh->aP,int->aj,get->aS,val->kQ,mg->jg,bool->oZ
open Go.Sx.D7 renaming at_->bJ,ret->aO
open Go.Sx.It renaming code->bF,inBlock->dA
open Go.Sx.Sh renaming sl->aG,agg->bM,Aj->cO,b->eP,i->aW,er->aZ,str->dn,pt->sU,v->jB
open Go.Value renaming chan->iG,int->iQ,nilIface->bI,pointer->gB
open Int renaming ofNat->ah,toNat_natCast->fJ
open Int.ofNat renaming inj->kT
open List renaming range->aX,range_succ_eq_map->qN,map_cons->jk,flatMap_cons->oz,map_append->iL,map_map->pJ,getD_eq_getElem?_getD->aY,getElem?_append_left->dI,append_nil->eY,append_assoc->dS,length_append->bf,length_map->dY,length_range->nO,drop_eq_nil_of_le->jL,getElem?_eq_getElem->aV,mem_map->dJ,mem_of_getElem?->bT,drop_eq_getElem_cons->iM,drop_zero->jc,any_nil->yC,any_cons->xg,nil_append->jG,getElem?_eq_some_iff->aU
open Nat renaming sub_self->qw,beq->fB,eq_of_beq_eq_true->fG,le_refl->dh,add_zero->jv,or_lt_two_pow->oW,shiftLeft_eq->lZ,one_mul->iF,pow_lt_pow_right->jw
open Option renaming some->ay,none->aK,getD_some->nX
open Option.some renaming inj->dD
namespace Go.Pl
open Go Go.Sx Go.Proofs Go.Gm
def xF{α:Type}(c1 c2 c3 c4 c5 c6 c7:Bool)(A B:α):List α:=
 bif c1||c2 then [] else (bif (c4||c7)&&c3 then [A] else [])++(bif c5&&(c6||c3) then [B] else [])
noncomputable def tuG(lv:Int)(N:Nat)(T:Nat->D8)(mk:Nat->Int)(p:Int)(n:Nat)(g:Nat->List Sh):Nat->Nat->List Jl
 |_,0=>[] |i,r+1=>(GX (TN lv N T mk n) ⟨p.toNat,g⟩ i).map (Gu n)++tuG lv N T mk p n g (i+1) r
theorem aby(lv:Int)(N:Nat)(T:Nat->D8)(mk:Nat->Int)(p:Int)(n:Nat)(g:Nat->List Sh):∀r i,tuG lv N T mk p n g i r=(((aX r).map fun j=>i+j).flatMap (GX (TN lv N T mk n) ⟨p.toNat,g⟩)).map (Gu n)
 |0,i=>rfl |r+1,i=>by
  rw[tuG,aby lv N T mk p n g r (i+1),qN,jk,oz,iL,pJ];congr 3;refine List.map_congr_left fun j _=>?_
  show i+1+j=i+(j+1);omega
theorem aos(lv:Int)(N:Nat)(T:Nat->D8)(mk:Nat->Int)(p:Int)(n:Nat)(g:Nat->List Sh):tuG lv N T mk p n g 0 N=tuL lv N T mk p n g:=by
 rw[aby];unfold tuL turns;have:(aX N).map (fun j=>0+j)=aX N:=by simp
 rw[this];rfl
theorem arh{lv:Int}{N:Nat}{T:Nat->D8}{mk:Nat->Int}{p n:Nat}{g:Nat->List Sh}{i:Nat}(hp:p<2^62)(hi:i<N)(hN:N<=62)(hm:0<=mk i)(hm2:(mk i).toNat<2^N){c1 c2 c3 c4 c5 c6 c7:Bool}
  (e1:zV.eq (zV.bin .and .i64 (zV.bin .shr .i64 (p:Int) (i:Int)) (ah 1)) (ah 1)=c1)
  (e2:zV.nt (zV.eq (zV.bin .andNot .i64 (mk i) (p:Int)) (ah 0))=c2)
  (e3:plO n g (T i).k (T i).g=c3) (e4:zV.eq (T i).st (ah 3)=c4) (e5:zV.nt (zV.eq (T i).st (ah 3))=c5) (e6:zV.nt (zV.eq lv (ah 3))=c6) (e7:zV.eq (T i).st (ah 2)=c7) :
  (GX (TN lv N T mk n) ⟨p,g⟩ i).map (Gu n)=xF c1 c2 c3 c4 c5 c6 c7 ⟨(T i).id,aC,zV.bin .or .i64 (p:Int) (zV.bin .shl .i64 (ah 1) (i:Int)),n,TM n g (T i).k (T i).g⟩ ⟨(T i).id,ak,zV.bin .or .i64 (p:Int) (zV.bin .shl .i64 (ah 1) (i:Int)),n,g⟩/\may (TN lv N T mk n) p i=(!c1 && !c2):=by
 have hp2:p<2^63:=by omega
 have hmay:may (TN lv N T mk n) p i=(!c1 && !c2):=by
  rw[<-e1,ard hp2 (by omega),<-e2];have:mk i=((mk i).toNat:Int):=(Int.toNat_of_nonneg hm).symm;rw[this,alE hm2 hN hp2,yB];rfl
 refine ⟨?_,hmay⟩;have ho:=or_eq (p:=p) (i:=i) hp2 (by omega);unfold GX;show List.map (Gu n) (if may (TN lv N T mk n) p i=aC then _ else _)=_;rw[hmay];have hc:(TN lv N T mk n).com i=(c4||c7):=by rw[<-e4,<-e7];rfl
 have ha:(TN lv N T mk n).abo i=c5:=by rw[<-e5];rfl
 have hl:(TN lv N T mk n).all=!c6:=by rw[<-e6];show (lv==3)=!(!(lv==3));rw[yB]
 have hr:(TN lv N T mk n).run g i=if c3=aC then ay (TM n g (T i).k (T i).g) else aK:=by rw[<-e3];rfl
 rw[hc,ha,hl];simp only[hr,ho];unfold xF;clear hc ha hl hr hmay e1 e2 e3 e4 e5 e6 e7;cases c1<;>cases c2<;>cases c3<;>cases c4<;>cases c5<;>cases c6<;>cases c7<;>simp[Gu,TN]
end Go.Pl
namespace Go.Proofs
open Go Go.Sx Go.Pl Go.Gm
theorem aiU(stop:Nat->List Nat->Bool)(O:Aq aB (AY W7) 76 D76):Bz aB (C7 zV W7 NP stop):=lQ (fun g F h=>by
 unfold NP at h;split at h
 ·cases h;exact O
 ·cases h) fun g h=>by
 unfold NP at h;split at h;all_goals first|(cases h;done) |kernel_rfl
theorem aot:Aq aB (AY W7) 76 D76:=O76.mono fun H AX args φ hr h=>by
 unfold D76 at h;split at h
 ·split at h
  ·rename_i e0 e1
   obtain ⟨h1,h2,h3⟩:=h;unfold plN at h1;rw[aH,aH] at h1;unfold F76;simp only[e0,e1];exact ⟨h1.1,h1.2.1,h1.2.2,h2,h3⟩
  ·exact h.elim
 ·exact h.elim
section
variable{H0:Mem}{w0:World}{φ:Sh->Prop}{lv:Int}{N:Nat}{T:Nat->D8}{mk:Nat->Int}{k0:Nat}{g0:Nat->List Sh}{p:Nat}{n:Nat}{g:Nat->List Sh}
theorem aou{α:Type}[Row α](l r:List α)(j:Nat)(h:j<l.length):nth (l++r) j=nth l j:=by
 unfold nth;rw[aY,aY,dI h]
theorem Il{α:Type}[Row α](l:List α)(a:α)(s:List Sh)(hs:s=Row.put a):∀j,j<l.length+1->zV.snoc (zW (nth l)) l.length (AQ [s]) j=zW (nth (l++[a])) j:=fun j hj=>by
 rw[Ed];split
 ·rename_i q
  show Row.put (nth l j)=Row.put (nth (l++[a]) j);rw[aou _ _ _ q]
 ·have:j=l.length:=by omega
  subst this;rw[qw];show s=Row.put (nth (l++[a]) l.length);unfold nth;rw[hs];simp
theorem ag6{g g':Nat->List Sh}{n:Nat}(h:∀j,j<n->g j=g' j)(r:Nat->List Sh):zV.snoc g n r=zV.snoc g' n r:=by
 funext j;rw[Ed,Ed];split
 ·exact h j (by assumption)
 ·rfl
theorem akt(Q:TuP lv N T N mk (p:Int) n g):∀r i (acc:List Jl),i+r=N->acc.length<=2*i->φ (.sl 4 (acc++tuG lv N T mk p n g i r).length (zW (nth (acc++tuG lv N T mk p n g i r))))->
  Bc aB (C7 zV W7 NP Am) (K0 H0 w0) 41 WI (Y0 lv N T N mk k0 g0 p n g acc.length (nth acc) (i:Nat)) [] emp (up φ)
 |0,i,acc,hi,hl,hφ=>by
  refine Gq (fn:=rJ) (tb:=akr) (by kernel_rfl) (by kernel_rfl) ?_;refine ED (cZ _ _) (aiU _ aot) (hold:=Bg) (m:=300) (n:=400) (ts:=[⟨41,WI,Y0 lv N T N mk k0 g0 p n g 0 (nth []) 0,[]⟩]) ?_;have lt {P:Prop} (h:zV.lt (i:Int) (ah N)=aC):P:=by simp[Aa] at h;omega
  have e:acc++tuG lv N T mk p n g i 0=acc:=by rw[tuG,eY]
  rw[e] at hφ;refine abx zV W7 lv N T N mk k0 g0 p n g acc.length 0 (nth acc) (nth []) i 0 rfl rfl rfl rfl rfl rfl rfl rfl ?_ ?_ ?_ ?_ ?_ ?_ ?_ ?_ ?_ ?_ ?_ ?_ ?_ ?_ ?_ ?_ ?_ ?_ ?_ ?_ ?_ ?_ ?_ ?_ ?_ ?_ ?_ ?_ ?_ ?_ ?_ ?_ ?_ ?_ ?_ ?_;all_goals first|(intro q;exact lt q) |skip
  exact fun _=>BH (s':=.sl 4 acc.length (zW (nth acc))) aoj hφ
 |r+1,i,acc,hi,hl,hφ=>by
  refine Gq (fn:=rJ) (tb:=akr) (by kernel_rfl) (by kernel_rfl) ?_;have hlN:=Q.le;have w1:zV.add .i64 (i:Int) (ah 1)=((i+1:Nat):Int):=add1 (by omega);have no {P:Prop} (h:zV.lt (i:Int) (ah N)=ak):P:=by simp[Aa] at h;omega
  have inb:zV.inB (i:Int) N=aC:=by simp[Bj];omega
  have rm1:zV.room (zV.addN acc.length 1) 48=aC:=by rw[Et,decide_eq_true_eq,Di];unfold maxLen;omega
  have rm2:zV.room (zV.addN (zV.addN acc.length 1) 1) 48=aC:=by rw[Et,decide_eq_true_eq,Di,Di];unfold maxLen;omega
  have le0:zV.le (ah 0) (i:Int)=aC:=by simp[Dw]
  have hp:p<2^62:=by have:=Q.lt;omega
  obtain ⟨c1,e1⟩:∃c,zV.eq (zV.bin .and .i64 (zV.bin .shr .i64 (p:Int) (i:Int)) (ah 1)) (ah 1)=c:=⟨_,rfl⟩;obtain ⟨c2,e2⟩:∃c,zV.nt (zV.eq (zV.bin .andNot .i64 (mk (zV.toN i)) (p:Int)) (ah 0))=c:=⟨_,rfl⟩;obtain ⟨c3,e3⟩:∃c,plO n g (T (zV.toN i)).k (T (zV.toN i)).g=c:=⟨_,rfl⟩;obtain ⟨c4,e4⟩:∃c,zV.eq (T (zV.toN i)).st (ah 3)=c:=⟨_,rfl⟩;obtain ⟨c5,e5⟩:∃c,zV.nt (zV.eq (T (zV.toN i)).st (ah 3))=c:=⟨_,rfl⟩;obtain ⟨c6,e6⟩:∃c,zV.nt (zV.eq lv (ah 3))=c:=⟨_,rfl⟩;obtain ⟨c7,e7⟩:∃c,zV.eq (T (zV.toN i)).st (ah 2)=c:=⟨_,rfl⟩;obtain ⟨hx,hmay⟩:=arh (lv:=lv) (T:=T) (n:=n) (g:=g) hp (by omega:i<N) Q.le (Q.mpos i (by omega)) (Q.mlt i (by omega)) e1 e2 e3 e4 e5 e6 e7;have hfit:=Q.fit i (by omega);rw[fJ,hmay] at hfit;rw[tuG,fJ,<-dS] at hφ;have nx:=fun (h:(acc++(GX (TN lv N T mk n) ⟨p,g⟩ i).map (Gu n)).length<=2*(i+1))=>akt Q r (i+1) (acc++(GX (TN lv N T mk n) ⟨p,g⟩ i).map (Gu n)) (by omega) h hφ;rw[hx] at nx;generalize hacc:acc++xF _ _ _ _ _ _ _ _ _=acc' at nx;refine ED (cZ _ _) (aiU _ aot) (hold:=Bg) (m:=300) (n:=400) (ts:=[⟨41,WI,Y0 lv N T N mk k0 g0 p n g acc'.length (nth acc') ((i+1:Nat):Int),[]⟩]) ?_;have lf:∀(mm:Nat) (gg:Nat->List Sh),mm=acc'.length->(∀j,j<mm->gg j=zW (nth acc') j)->acc'.length<=2*(i+1)->Jw aB (C7 zV W7 NP Am) (K0 H0 w0) [⟨41,WI,Y0 lv N T N mk k0 g0 p n g acc'.length (nth acc') ((i+1:Nat):Int),[]⟩] emp (up φ)
    (bJ 0 [aJ 1 1,bC (fun _=>BJ lv N T N mk k0 g0) fun _=>BJ lv N T N mk k0 g0,aJ 0 0,aP (aG 7 N (zW T)) (aG 7 N (zW T)),aj (ah N) (ah N),aj (zV.add .i64 i (ah 1)) ((i+1:Nat):Int),aj p p,aP (aG 4 n g) (aG 4 n g),aJ mm acc'.length,aS mm gg (zW (nth acc'))]):=
   fun mm gg e1 e2 e3=>⟨⟨rfl,rfl,rfl,rfl,rfl,w1,rfl,rfl,e1,e2,trivial⟩,_,rfl,nx e3⟩
  have l0 (h:acc'=acc):=lf acc.length (zW (nth acc)) (by rw[h]) (fun j _=>by rw[h]) (by rw[h];omega);have l1 (a:Jl) (h:acc'=acc++[a]):=lf (zV.addN acc.length 1) (zV.snoc (zW (nth acc)) acc.length (AQ [Row.put a])) (by rw[h,bf];rfl) (fun j hj=>by rw[h];exact Il acc a _ rfl j hj) (by rw[h,bf];show acc.length+1<=_;omega);have l2 (a b:Jl) (h:acc'=acc++[a,b]):=lf (zV.addN (zV.addN acc.length 1) 1) (zV.snoc (zV.snoc (zW (nth acc)) acc.length (AQ [Row.put a])) (zV.addN acc.length 1) (AQ [Row.put b])) (by rw[h,bf];rfl) (fun j hj=>by
   have e:=Il (acc++[a]) b _ rfl j (by rw[bf];exact hj);rw[dS,bf] at e;rw[h];have e2:=ag6 (n:=acc.length+1) (fun j hj=>Il acc a _ rfl j hj) (AQ [Row.put b]);exact (congrFun e2 j).trans e) (by rw[h,bf];show acc.length+2<=_;omega)
  clear lf nx;refine abx zV W7 lv N T N mk k0 g0 p n g acc.length acc'.length (nth acc) (nth acc') i ((i+1:Nat):Int) rfl e1 e2 e3 e4 e5 e6 e7
   (fun _=>inb)
   (fun _=>le0)
   (fun _ _=>inb)
   (fun _ q1 q2=>hfit (by rw[q1,q2];rfl))
   (fun _ _ _ _ _=>rm1)
   (fun _ _ _ _ _ _ _=>rm2)
   (fun _ _ _ _ _ _ _=>rm2)
   (fun _ _ _ _ _ _=>rm1)
   (fun _ _ _ _ _ _ _ _=>rm2)
   (fun _ _ _ _ _ _ _ _=>rm2)
   (fun _ _ _ _ _ _ _ _=>rm1)
   (fun _ _ _ _ _ _ _ _=>rm1)
   (fun _ _ _ _ _ _ _=>rm1)
   (fun _ _ _ _ _ _ _ _=>rm1)
   (fun _ _ _ _ _ _ _ _=>rm1)
   (fun _ q1=>l0 (by rw[<-hacc,q1];exact eY _))
   (fun _ q1 q2=>l0 (by rw[<-hacc,q1,q2];exact eY _))
   (fun _ q1 q2 q3 q4 q5 q6=>l2 _ _ (by rw[<-hacc,q1,q2,q3,q4,q5,q6];rfl))
   (fun _ q1 q2 q3 q4 q5 q6=>l2 _ _ (by rw[<-hacc,q1,q2,q3,q4,q5,q6];rfl))
   (fun _ q1 q2 q3 q4 q5=>l1 _ (by rw[<-hacc,q1,q2,q3,q4,q5];rfl))
   (fun _ q1 q2 q3 q4 q5 q6 q7=>l2 _ _ (by rw[<-hacc,q1,q2,q3,q4,q5,q6,q7];rfl))
   (fun _ q1 q2 q3 q4 q5 q6 q7=>l2 _ _ (by rw[<-hacc,q1,q2,q3,q4,q5,q6,q7];rfl))
   (fun _ q1 q2 q3 q4 q5 q6=>l1 _ (by rw[<-hacc,q1,q2,q3,q4,q5,q6];rfl))
   (fun _ q1 q2 q3 q4 q5 q6 q7=>l1 _ (by rw[<-hacc,q1,q2,q3,q4,q5,q6,q7];rfl))
   (fun _ q1 q2 q3 q4 q5 q6 q7=>l1 _ (by rw[<-hacc,q1,q2,q3,q4,q5,q6,q7];rfl))
   (fun _ q1 q2 q3 q4 q5 q6=>l0 (by rw[<-hacc,q1,q2,q3,q4,q5,q6];exact eY _))
   (fun _ q1 q2 q3 q4 q5 q6=>l1 _ (by rw[<-hacc,q1,q2,q3,q4,q5,q6];rfl))
   (fun _ q1 q2 q3 q4 q5 q6=>l0 (by rw[<-hacc,q1,q2,q3,q4,q5,q6];exact eY _))
   (fun _ q1 q2 q3 q4 q5=>l0 (by rw[<-hacc,q1,q2,q3,q4,q5];exact eY _))
   (fun _ q1 q2 q3 q4 q5 q6 q7=>l1 _ (by rw[<-hacc,q1,q2,q3,q4,q5,q6,q7];rfl))
   (fun _ q1 q2 q3 q4 q5 q6 q7=>l0 (by rw[<-hacc,q1,q2,q3,q4,q5,q6,q7];exact eY _))
   (fun _ q1 q2 q3 q4 q5 q6=>l0 (by rw[<-hacc,q1,q2,q3,q4,q5,q6];exact eY _))
   (fun _ q1 q2 q3 q4 q5 q6 q7=>l1 _ (by rw[<-hacc,q1,q2,q3,q4,q5,q6,q7];rfl))
   (fun _ q1 q2 q3 q4 q5 q6 q7=>l0 (by rw[<-hacc,q1,q2,q3,q4,q5,q6,q7];exact eY _))
   (fun _ q1 q2 q3 q4 q5 q6=>l0 (by rw[<-hacc,q1,q2,q3,q4,q5,q6];exact eY _))
   (fun q=>no q)
end
def ZM(H:Mem):List Sh->List Sh->Prop
 |[],[]=>True |s::l,s'::l'=>(∀u,Rep H s u->Rep H s' u)/\ZM H l l' |_,_=>False
theorem aeU{H:Mem}:∀{l l':List Sh},ZM H l l'->l'.length=l.length/\∀(j:Nat) (s':Sh),l'[j]?=ay s'->∃s:Sh,l[j]?=ay s/\∀u,Rep H s u->Rep H s' u
 |[],[],_=>⟨rfl,fun j s' h=>by cases h⟩ |_::_,_::_,⟨h,t⟩=>by
  obtain ⟨e,q⟩:=aeU t;refine ⟨by simp[e],fun j s' h'=>?_⟩;match j,h' with
  |0,h'=>cases h';exact ⟨_,rfl,h⟩ |j+1,h'=>exact q j s' h'
 |[],_::_,h=>h.elim |_::_,[],h=>h.elim
theorem ag7{H:Mem}{l l':List Sh}{v:Value}(hr:Rep H (.pt l) v)(h:ZM H l l'):Rep H (.pt l') v:=by
 obtain ⟨e,q⟩:=aeU h;cases hr with
 |pt _ b off c h1 h2 h3=>
  exact .pt _ b off c (fun j hj=>h1 j (by omega)) (fun j hj=>h2 j (by omega)) fun j s' hs=>by
   obtain ⟨s,hs',hu⟩:=q j s' hs;exact hu _ (h3 j s hs')
theorem Qm{H:Mem}{l l':List Sh}{v:Value}(hr:Rep H (.agg l) v)(h:ZM H l l'):Rep H (.agg l') v:=by
 obtain ⟨e,q⟩:=aeU h;cases hr with
 |agg _ vs h1 h3=>
  exact .agg _ vs (by omega) fun j s' u hs hv=>by
   obtain ⟨s,hs',hu⟩:=q j s' hs;exact hu _ (h3 j s u hs' hv)
theorem ag8{H:Mem}{st n:Nat}{g:Nat->List Sh}{u:Value}(h:(fB st 4||fB n 0)=aC)(hr:Rep H (.sl st n g) u):Rep H (.sl 4 n g) u:=by
 rw[Bool.or_eq_true] at h;rcases h with h|h
 ·obtain rfl:=fG h
  exact hr
 ·obtain rfl:=fG h
  exact P9 hr (.inl ⟨rfl,rfl⟩)
theorem avN:Aq aB (AY W7) 41 D41:=by
 refine FM (C:=C7 zV W7 NP Am) (cZ _ _) (fn:=rJ) (by kernel_rfl) (by kernel_rfl) fun H w AX args φ hrep h=>?_
 have hn:rJ.ntmps=104:=by kernel_rfl
 unfold D41 at h;split at h
 ·rename_i lv s1 s2 s3 t st n g
  split at h
  ·rename_i N T' N' mk' q0 p e1 e2 e4 e3
   obtain ⟨h1,hφ⟩:=h;unfold tuB at h1;rw[aH,aH,aH] at h1;obtain ⟨a1,a2,a3,a4⟩:=h1;have Q:TuP lv N (zY T') N' (zY mk') p n g:=@of_decide_eq_true _ (bD _) a4;obtain rfl:=Q.eq;obtain ⟨q,rfl⟩:=Int.eq_ofNat_of_zero_le Q.pos;match args,hrep with
   |[v,u],⟨rv,ru,_⟩=>
    obtain ⟨k0,g0⟩:=q0;refine ⟨[.pt (BJ lv N (zY T') N (zY mk') k0 g0),.agg [.i .i64 (q:Int),.sl 4 n g]],⟨ag7 rv ⟨fun _ r=>r,fun _ r=>DV (BD e1 r) a1,fun _ r=>DV (BD e2 r) a2,fun _ r=>BD e4 r,trivial⟩,Qm ru ⟨fun _ r=>Ei e3 r,fun _ r=>ag8 a3 r,trivial⟩,trivial⟩,L0,?_⟩;have hφ:φ (.sl 4 (tuL lv N (zY T') (zY mk') (q:Int) n g).length (zW (nth (tuL lv N (zY T') (zY mk') (q:Int) n g)))):=hφ;rw[<-aos] at hφ;refine ED (cZ _ _) (aiU _ aot) (hold:=Bg) (m:=300) (n:=400) (ts:=[⟨41,WI,Y0 lv N (zY T') N (zY mk') k0 g0 q n g 0 (nth []) ((0:Nat):Int),[]⟩]) ?_;rw[hn];exact aiT zV W7 lv N (zY T') N (zY mk') k0 g0 q n g 0 (nth []) _ ⟨⟨rfl,rfl,rfl,rfl,rfl,rfl,rfl,rfl,rfl,trivial⟩,_,rfl,akt Q N 0 [] (by omega) (by simp) hφ⟩
  ·exact h.elim
 ·exact h.elim
open Go Go.Conc Go.RowKit
set_option maxRecDepth 100000 in
theorem ag9(w:World):Calls aB 69 #[.chan aK] w fun e w'=>e=.returned (.bool ak)/\w'=w:=by
 refine calls_of_loneTo fun cs=>?_
 have e:gI aB 69 #[.chan aK] .normal=(zS 69).at ⟨#[.chan aK,undef,undef,undef,undef,undef,undef],[]⟩ [.code (rM.body.getD .skip)]:=by
  simp[gI,Frame.at,yU,zS,rM]
 rw[e];refine LoneTo.goes (n:=14) ?_;simp only[rM,nX];s_c stepG_seq
 s_reg
 s_op
 s_c stepG_region_end
 s_c stepG_seq
 s_reg
 s_op
 s_c stepG_region_end
 s_c stepG_seq
 s_reg
 s_stop
 refine LoneTo.step (step_lone_select_recv_nil (z:=.agg #[]) (stepG_comm (cases:=#[rcaseNil (.agg #[])]) (blocking:=ak) (shape:=.select) (w':=w) rfl rfl (by decide) (by simp[go_sem,execOp,rcaseNil,Act.eval]))) ?_;rw[Frame.finish_at];walk_nrm
 refine LoneTo.goes (n:=10) ?_;s_op
 s_op
 s_c stepG_region_end
 s_c stepG_block
 s_cond ak
 s_c stepG_seq
 s_reg
 s_op
 s_c stepG_region_end
 s_c stepG_ret'
 s_stop
 exact LoneTo.done ⟨.returned (.bool ak),_,rfl,⟨rfl,rfl⟩,rfl,rfl,rfl,rfl,_,yU,by simp[results,rM,Frame.at]⟩
def aov:List zT->Go.Sx.Tree zT
 |[.v (.chan aK)]=>.leaf (.b ak) |_=>.fail
theorem avO:Go.Sx.Aq aB (AY W7) 69 aov:=by
 intro H w AX args φ hon hg hr h;unfold aov at h;split at h
 ·match args,hr with
  |[v],⟨rv,_⟩=>
   cases rv;refine Calls.mono (ag9 w) fun e w' ⟨he,hw⟩=>?_;subst hw;exact ⟨_,_,H,he,h,fun _ _ h=>h,hon,rfl,rfl,rfl,dh _,fun _ _=>rfl,fun b h=>.inl h,fun b0=>⟨fun _=>aK,fun i h=>absurd rfl h,fun i b h=>(by cases h),rfl,Go.Sx.OM⟩⟩
 ·exact h.elim
end Go.Proofs
namespace Go.Pl
open Go Go.Sx Go.Proofs
structure Ho where
 okb:Bool
 Ih:Bool
 pos:Int
 e:Nat
 lv:Int
 N:Nat
 T:Nat->D8
 ms:Nat->Int
 k0:Nat
 g0:Nat->List Sh
noncomputable def aow(s:Sh)(l:Int)(h:Sh)(lv:Int):Bool:=@decide (s=h/\l=lv) (bD _)
noncomputable def Zq(st n:Nat)(g:Nat->List Sh):Bool:=(fB st 4||fB n 0)&&(stB n g&&keysB n (Ee n g))
noncomputable def Om(n:Nat)(g:Nat->List Sh):List UInt8:=ady ((aX n).map (Ee n g))
structure RZ where
 placed:Int
 st:Nat
 n:Nat
 g:Nat->List Sh
instance:Inhabited RZ:=⟨⟨0,0,0,fun _=>[]⟩⟩
instance:Row RZ where
 put x:=[.i .i64 x.placed,.sl x.st x.n x.g]
 get l:=match l with
  |[.i .i64 a,.sl s n g]=>ay ⟨a,s,n,g⟩ |_=>aK
 Dl l a h:=by
  split at h
  ·cases h;rfl
  ·cases h
 get_put a:=rfl
 Jk:=default
structure PrQ where
 placed:Int
 key:List UInt8
instance:Inhabited PrQ:=⟨⟨0,[]⟩⟩
instance:Row PrQ where
 put x:=[.i .i64 x.placed,.str x.key]
 get l:=match l with
  |[.i .i64 a,.str k]=>ay ⟨a,k⟩ |_=>aK
 Dl l a h:=by
  split at h
  ·cases h;rfl
  ·cases h
 get_put a:=rfl
 Jk:=default
end Go.Pl
namespace Go.Proofs
open Go Go.Sx Go.Pl
noncomputable def WJ(h0:Sh)(lv:Int)(B:Ho):List Sh->Tree Sh
 |[s,t]=>match AZ t with
  |some l=>.need (aow s l h0 lv) (.node B.okb (.leaf (.Aj [.pt (BJ B.lv B.N B.T B.N B.ms B.k0 B.g0),.v .nilIface]))
   (.node B.Ih (.leaf (.Aj [.v (.pointer aK),.CG 109 (.pt [.i .i64 B.pos,.er B.e 329])])) (.leaf (.Aj [.v (.pointer aK),.er B.e 329]))))
  |none=>.fail
 |_=>.fail
noncomputable def D92:List Sh->Tree Sh
 |[.agg [.sl st n g]]=>.need (Zq st n g) (.leaf (.str (Om n g))) |_=>.fail
noncomputable def CX(h0:Sh)(lv:Int)(B:Ho):Nat->Option (List Sh->Tree Sh)
 |40=>ay (WJ h0 lv B) |41=>ay D41 |69=>ay aov |92=>ay D92 |_=>aK
def tdA:List It:=[bF [0,0,1,1,1,1,1,1,1,1,1,1],dA 0,bF [1,1,1,1,1,1,1,1,1,1,1]]
def tbA:List It:=bF [0,0,0,1,1,1,1,1,1,1,1,1,1]::tdA
def hpA(B:Ho)(mo:Int)(M:Int×List UInt8->Option Value)(c:Nat)(cr:Nat->PrQ)(at_:Int)(q:Nat)(qr:Nat->RZ)(m:Nat)(od:Nat->UR):List (Nat×SB):=
 [(1,.box [.bool ak,.Aw,.int .i64 0] 44),(2,.pm .int M []),(3,.box [.sym .i64 mo,.mp 2,.gs 7] 204),(4,.box [.ptr 3 0] 154),(5,.box [.gs 8,.sym .i64 at_] 160),(6,.box [.gs 9] 158),(7,.own 157 2 c (zW cr)),(8,.own 104 2 q (zW qr)),(9,.own 104 2 m (zW od))]
def tmA(B:Ho):List (Nat×SV):=[(0,.val (.chan aK)),(8,.ptr 1 0),(10,.Gl 4 1 (fun _=>BJ B.lv B.N B.T B.N B.ms B.k0 B.g0) 0 0),(12,.ptr 4 0),(13,.ptr 5 0),(14,.ptr 6 0),(15,.fn 64 [.ptr 4 0,.ptr 5 0,.ptr 6 0])]
def LA(B:Ho)(mo:Int)(M:Int×List UInt8->Option Value)(c:Nat)(cr:Nat->PrQ)(at_:Int)(q:Nat)(qr:Nat->RZ)(m:Nat)(od:Nat->UR):Core:=
 {tm:=Gs 111 (tmA B),hp:=hpA B mo M c cr at_ q qr m od,nx:=10,lim:=L0,tc:=[]}
def tdB:List It:=[bF [0,1,1,1,1,0,0,0,0,1,1,1,1,1,1,1,1,1,1],dA 2,dA 1,bF [0,0,1,1,1,1,1,1,1,1,1,1],dA 0,bF [1,1,1,1,1,1,1,1,1,1,1]]
def tbB:List It:=bF [0,0,1,1,1,1,0,0,0,0,1,1,1,1,1,1,1,1,1,1]::tdB
def LB(B:Ho)(mo:Int)(M:Int×List UInt8->Option Value)(c:Nat)(cr:Nat->PrQ)(at_:Int)(q:Nat)(qr:Nat->RZ)(m:Nat)(od:Nat->UR)(t:Nat)(tr:Nat->Jl)(j:Int):Core:=
 {tm:=Gs 111 (tmA B++[(76,.sh (.sl 4 t (zW tr))),(77,.sym .i64 (t:Int)),(78,.sym .i64 j)]),hp:=hpA B mo M c cr at_ q qr m od,nx:=10,lim:=L0,tc:=[]}
def Oo(B:Ho):List Fr:=[{g:=39,td:=[It.reg [0,1,1,1,1,1,1,1,1,1,1,1,1] [2,3],bF [1,1,1,1,1,1,1,1,1,1,1,1,1]],tm:=Gs 111 [(8,.ptr 1 0),(10,.Gl 4 1 (fun _=>BJ B.lv B.N B.T B.N B.ms B.k0 B.g0) 0 0),(22,.ptr 11 0)]}]
def Zr:List It:=[bF [0,1,0,1,1],dA 0,bF [1,1,1]]
def tbC:List It:=bF [0,0,1,0,1,1]::Zr
def hpC(m:Nat)(od:Nat->UR)(M:Int×List UInt8->Option Value)(c:Int):List (Nat×SB):=[(1,.box [.bool ak,.Aw,.int .i64 0] 44),(9,.own 104 2 m (zW od)),(10,.pm .bool M []),(11,.box [.bool ak,.Aw,.sym .i64 c] 44)]
def tmC(B:Ho)(i:Int):List (Nat×SV):=[(0,.Gl 4 1 (fun _=>BJ B.lv B.N B.T B.N B.ms B.k0 B.g0) 0 0),(1,.gs 9),(5,.mp 10),(6,.sym .i64 i)]
def LC(B:Ho)(m:Nat)(od:Nat->UR)(M:Int×List UInt8->Option Value)(c:Int)(i:Int):Core:={tm:=Gs 50 (tmC B i),hp:=hpC m od M c,nx:=12,lim:=L0,tc:=[]}
theorem aiW(A:Prim)(W:Wd)(B:Ho)(lv mo:Int)(o m:Nat)(og mg:Nat->List Sh)(mo':Int)(M':Int×List UInt8->Option Value)(c':Nat)(Qn:Nat->PrQ)(at':Int)(q':Nat)(WL:Nat->RZ)(m':Nat)(od':Nat->UR){ψ:D7->Prop}{c0 c1 c2 c3 c4 c5 c6 c7:Bool}(e0:A.lt lv (ah 1)=c0)(e1:A.lt (ah 3) lv=c1)(e2:A.lt mo (ah 1)=c2)(e3:A.lt (ah 65536) mo=c3)(e4:B.okb=c4)(e5:A.isS aK=c5)(e6:A.eq (ah 0) (A.max mo (ah 0))=c6)(e7:B.Ih=c7)(h1:c0=ak->c1=ak->c2=ak->c3=ak->(aow (bM [aG 2 o og,aG 8 m mg]) lv (bM [aG 2 o og,aG 8 m mg]) lv)=aC)(h2:c0=ak->c1=ak->c2=ak->c3=ak->c4=aC->(Zq 4 B.k0 B.g0)=aC)(y1:c0=aC->ψ (aO (cO [bM [eP ak,aG 0 0 fun _=>[],aW .i64 (ah 0)],aZ 2 329])))(y2:c0=ak->c1=aC->ψ (aO (cO [bM [eP ak,aG 0 0 fun _=>[],aW .i64 (ah 0)],aZ 2 329])))(y3:c0=ak->c1=ak->c2=aC->ψ (aO (cO [bM [eP ak,aG 0 0 fun _=>[],aW .i64 (ah 0)],aZ 4 329])))(y4:c0=ak->c1=ak->c2=ak->c3=aC->ψ (aO (cO [bM [eP ak,aG 0 0 fun _=>[],aW .i64 (ah 0)],aZ 4 329])))(y5:c0=ak->c1=ak->c2=ak->c3=ak->c4=aC->c5=aC->ψ (bJ 0 [kQ (iG aK) (iG aK),aJ 1 1,bC (fun (x:Nat)=>BJ B.lv B.N B.T B.N B.ms B.k0 B.g0) fun (x:Nat)=>BJ B.lv B.N B.T B.N B.ms B.k0 B.g0,aJ 0 0,aj (ah 0) (ah 0),jg (fun (x:Int×List UInt8)=>aK) M',aj (A.max mo (ah 0)) mo',aj (ah 0) at',aJ c' 0,aJ q' 0,aJ m' 0]))(y6:c0=ak->c1=ak->c2=ak->c3=ak->c4=aC->c5=ak->c6=aC->ψ (aO (cO [bM [eP ak,aG 0 0 fun _=>[],aW .i64 (ah 0)],aZ 0 329])))(y7:c0=ak->c1=ak->c2=ak->c3=ak->c4=aC->c5=ak->c6=ak->ψ (bJ 0 [kQ (iG aK) (iG aK),aJ 1 1,bC (fun (x:Nat)=>BJ B.lv B.N B.T B.N B.ms B.k0 B.g0) fun (x:Nat)=>BJ B.lv B.N B.T B.N B.ms B.k0 B.g0,aJ 0 0,aj (ah 0) (ah 0),jg (Lj (ah 0,Om B.k0 B.g0) (ay (iQ .i64 (ah 0))) fun (x:Int×List UInt8)=>aK) M',aj (A.max mo (ah 0)) mo',aj (ah 0) at',aJ 1 c',aS 1 (AQ [[aW .i64 (ah 0),dn (Om B.k0 B.g0)]]) (zW Qn),aJ 1 q',aS 1 (AQ [[aW .i64 (ah 0),aG 4 B.k0 B.g0]]) (zW WL),aJ 1 m',aS 1 (AQ [[aW .i64 (ah 0),aG 4 B.k0 B.g0]]) (zW od')]))(y8:c0=ak->c1=ak->c2=ak->c3=ak->c4=ak->c7=aC->ψ (aO (cO [bM [eP ak,aG 0 0 fun _=>[],aW .i64 (ah 0)],Sh.CG 109 (sU [aW .i64 B.pos,aZ B.e 329])])))(y9:c0=ak->c1=ak->c2=ak->c3=ak->c4=ak->c7=ak->ψ (aO (cO [bM [eP ak,aG 0 0 fun _=>[],aW .i64 (ah 0)],aZ B.e 329]))):Cb ψ (AP (C7 A W (CX (.agg [.sl 2 o og,.sl 8 m mg]) lv B) Am) Bg 300 400 39 [.code []] (zZ 111 [.v (.chan aK),.agg [.sl 2 o og,.sl 8 m mg],.i .i64 lv,.i .i64 mo] L0) [] [⟨39,tdA,LA B mo' M' c' Qn at' q' WL m' od',[]⟩]):=by
 subst e0 e1 e2 e3 e4 e5 e6 e7;exact aok (by kernel_rfl) (an y1 (fun q0=>an (y2 q0) (fun q1=>an (y3 q0 q1) (fun q2=>an (y4 q0 q1 q2) (fun q3=>an (h1 q0 q1 q2 q3) (an (fun q4=>an (h2 q0 q1 q2 q3 q4) (an (y5 q0 q1 q2 q3 q4) (fun q5=>an (y6 q0 q1 q2 q3 q4 q5) (y7 q0 q1 q2 q3 q4 q5)))) (fun q4=>an (y8 q0 q1 q2 q3 q4) (y9 q0 q1 q2 q3 q4)))))))) (by kernel_rfl)
theorem UY(A:Prim)(W:Wd)(B:Ho)(hs:Sh)(lv mo:Int)(M:Int×List UInt8->Option Value)(c:Nat)(cr:Nat->PrQ)(at_:Int)(q:Nat)(qr:Nat->RZ)(m:Nat)(od:Nat->UR)(at':Int)(q':Nat)(WL:Nat->RZ)(t:Nat)(tr:Nat->Jl)(M':Int×List UInt8->Option Value)(c' i':Int){ψ:D7->Prop}{c0 c1 c2:Bool}(e0:A.eq at_ (A.Az q)=c0)(e1:A.eq (A.add .i64 at_ (ah 1)) (A.Az q)=c1)(e2:ak=c2)(h1:c0=ak->(A.inB at_ q)=aC)(h2:c0=ak->c1=aC->c2=ak->(tuB B.lv B.N (zW B.T) B.N (zW B.ms) (qr (A.toN at_)).placed (qr (A.toN at_)).st (qr (A.toN at_)).n (qr (A.toN at_)).g)=aC)(h3:c0=ak->c1=ak->c2=ak->(tuB B.lv B.N (zW B.T) B.N (zW B.ms) (qr (A.toN at_)).placed (qr (A.toN at_)).st (qr (A.toN at_)).n (qr (A.toN at_)).g)=aC)(y1:c0=aC->ψ (bJ 1 [aJ 1 1,bC (fun (x:Nat)=>BJ B.lv B.N B.T B.N B.ms B.k0 B.g0) fun (x:Nat)=>BJ B.lv B.N B.T B.N B.ms B.k0 B.g0,aJ 0 0,aj (A.sub .i64 (A.Az m) (ah 1)) i',aj (ah 0) (ah 0),aJ m m,aS m (zW od) (zW od),jg (fun (x:Int×List UInt8)=>aK) M',aj (A.Az c) c',aJ 1 1,bC (fun (x:Nat)=>BJ B.lv B.N B.T B.N B.ms B.k0 B.g0) fun (x:Nat)=>BJ B.lv B.N B.T B.N B.ms B.k0 B.g0,aJ 0 0]))(y2:c0=ak->c1=aC->c2=aC->ψ (aO (cO [bM [eP ak,aG 0 0 fun _=>[],aW .i64 (ah 0)],aZ 5 329])))(y3:c0=ak->c1=aC->c2=ak->ψ (bJ 0 [kQ (iG aK) (iG aK),aJ 1 1,bC (fun (x:Nat)=>BJ B.lv B.N B.T B.N B.ms B.k0 B.g0) fun (x:Nat)=>BJ B.lv B.N B.T B.N B.ms B.k0 B.g0,aJ 0 0,aP (aG 4 (Ol B.lv B.N (zW B.T) (zW B.ms) (qr (A.toN at_)).placed (qr (A.toN at_)).n (qr (A.toN at_)).g) (zW (Zp B.lv B.N (zW B.T) (zW B.ms) (qr (A.toN at_)).placed (qr (A.toN at_)).n (qr (A.toN at_)).g))) (aG 4 t (zW tr)),aj (A.Az (Ol B.lv B.N (zW B.T) (zW B.ms) (qr (A.toN at_)).placed (qr (A.toN at_)).n (qr (A.toN at_)).g)) (ah t),aj (ah 0) (ah 0),aj (ah 0) (ah 0),jg M M,aj mo mo,aj (ah 0) at',aJ c c,aS c (zW cr) (zW cr),aJ q' 0,aJ m m,aS m (zW od) (zW od)]))(y4:c0=ak->c1=ak->c2=aC->ψ (aO (cO [bM [eP ak,aG 0 0 fun _=>[],aW .i64 (ah 0)],aZ 5 329])))(y5:c0=ak->c1=ak->c2=ak->ψ (bJ 0 [kQ (iG aK) (iG aK),aJ 1 1,bC (fun (x:Nat)=>BJ B.lv B.N B.T B.N B.ms B.k0 B.g0) fun (x:Nat)=>BJ B.lv B.N B.T B.N B.ms B.k0 B.g0,aJ 0 0,aP (aG 4 (Ol B.lv B.N (zW B.T) (zW B.ms) (qr (A.toN at_)).placed (qr (A.toN at_)).n (qr (A.toN at_)).g) (zW (Zp B.lv B.N (zW B.T) (zW B.ms) (qr (A.toN at_)).placed (qr (A.toN at_)).n (qr (A.toN at_)).g))) (aG 4 t (zW tr)),aj (A.Az (Ol B.lv B.N (zW B.T) (zW B.ms) (qr (A.toN at_)).placed (qr (A.toN at_)).n (qr (A.toN at_)).g)) (ah t),aj (ah 0) (ah 0),aj (ah 0) (ah 0),jg M M,aj mo mo,aj (A.add .i64 at_ (ah 1)) at',aJ c c,aS c (zW cr) (zW cr),aJ q q',aS q (A.upd (zW qr) (A.toN at_) 0 [aW .i64 (ah 0),aG 0 0 fun _=>[]]) (zW WL),aJ m m,aS m (zW od) (zW od)])):Cb ψ (AP (C7 A W (CX hs lv B) Am) Bg 300 400 39 tbA (LA B mo M c cr at_ q qr m od) [] [⟨39,tdB,LB B mo M c cr at' q' WL m od t tr 0,[]⟩,⟨71,Zr,LC B m od M' c' i',Oo B⟩]):=by
 subst e0 e1 e2;exact Gf (an y1 (fun q0=>an (h1 q0) (an (h1 q0) (an (fun q1=>an (y2 q0 q1) (fun q2=>an (h2 q0 q1 q2) (y3 q0 q1 q2))) (fun q1=>an (y4 q0 q1) (fun q2=>an (h3 q0 q1 q2) (y5 q0 q1 q2))))))) (by kernel_rfl)
theorem Qo(A:Prim)(W:Wd)(B:Ho)(hs:Sh)(lv mo:Int)(M M':Int×List UInt8->Option Value)(c c':Nat)(cr Qn:Nat->PrQ)(at_:Int)(q q':Nat)(qr WL:Nat->RZ)(m m':Nat)(od od':Nat->UR)(t:Nat)(tr:Nat->Jl)(j j':Int){ψ:D7->Prop}{c0 c1 c2:Bool}(e0:A.lt j (ah t)=c0)(e1:A.isS (M ((tr (A.toN j)).placed,Om (tr (A.toN j)).n (tr (A.toN j)).g))=c1)(e2:A.eq (A.Az c) mo=c2)(h1:c0=aC->(A.inB j t)=aC)(h2:c0=aC->(Zq 4 (tr (A.toN j)).n (tr (A.toN j)).g)=aC)(h3:c0=aC->c1=ak->c2=ak->(A.room (A.addN c 1) 24)=aC)(h4:c0=aC->c1=ak->c2=ak->(A.room (A.addN q 1) 32)=aC)(h5:c0=aC->c1=ak->c2=ak->(A.room (A.addN m 1) 32)=aC)(y1:c0=aC->c1=aC->ψ (bJ 0 [kQ (iG aK) (iG aK),aJ 1 1,bC (fun (x:Nat)=>BJ B.lv B.N B.T B.N B.ms B.k0 B.g0) fun (x:Nat)=>BJ B.lv B.N B.T B.N B.ms B.k0 B.g0,aJ 0 0,aP (aG 4 t (zW tr)) (aG 4 t (zW tr)),aj (ah t) (ah t),aj (A.add .i64 j (ah 1)) j',aj (ah 0) (ah 0),jg M M',aj mo mo,aj at_ at_,aJ c c',aS c (zW cr) (zW Qn),aJ q q',aS q (zW qr) (zW WL),aJ m m',aS m (zW od) (zW od')]))(y2:c0=aC->c1=ak->c2=aC->ψ (aO (cO [bM [eP ak,aG 0 0 fun _=>[],aW .i64 (ah 0)],aZ 0 329])))(y3:c0=aC->c1=ak->c2=ak->ψ (bJ 0 [kQ (iG aK) (iG aK),aJ 1 1,bC (fun (x:Nat)=>BJ B.lv B.N B.T B.N B.ms B.k0 B.g0) fun (x:Nat)=>BJ B.lv B.N B.T B.N B.ms B.k0 B.g0,aJ 0 0,aP (aG 4 t (zW tr)) (aG 4 t (zW tr)),aj (ah t) (ah t),aj (A.add .i64 j (ah 1)) j',aj (ah 0) (ah 0),jg (Lj ((tr (A.toN j)).placed,Om (tr (A.toN j)).n (tr (A.toN j)).g) (ay (iQ .i64 (A.Az c))) M) M',aj mo mo,aj at_ at_,aJ (A.addN c 1) c',aS (A.addN c 1) (A.snoc (zW cr) c (AQ [[aW .i64 (tr (A.toN j)).placed,dn (Om (tr (A.toN j)).n (tr (A.toN j)).g)]])) (zW Qn),aJ (A.addN q 1) q',aS (A.addN q 1) (A.snoc (zW qr) q (AQ [[aW .i64 (tr (A.toN j)).placed,aG 4 (tr (A.toN j)).n (tr (A.toN j)).g]])) (zW WL),aJ (A.addN m 1) m',aS (A.addN m 1) (A.snoc (zW od) m (AQ [[aW .i64 (tr (A.toN j)).placed,aG 4 (tr (A.toN j)).n (tr (A.toN j)).g]])) (zW od')]))(y4:c0=ak->ψ (bJ 1 [kQ (iG aK) (iG aK),aJ 1 1,bC (fun (x:Nat)=>BJ B.lv B.N B.T B.N B.ms B.k0 B.g0) fun (x:Nat)=>BJ B.lv B.N B.T B.N B.ms B.k0 B.g0,aJ 0 0,aj (ah 0) (ah 0),jg M M,aj mo mo,aj at_ at_,aJ c c,aS c (zW cr) (zW cr),aJ q q,aS q (zW qr) (zW qr),aJ m m,aS m (zW od) (zW od)])):Cb ψ (AP (C7 A W (CX hs lv B) Am) Bg 300 400 39 tbB (LB B mo M c cr at_ q qr m od t tr j) [] [⟨39,tdB,LB B mo M' c' Qn at_ q' WL m' od' t tr j',[]⟩,⟨39,tdA,LA B mo M c cr at_ q qr m od,[]⟩]):=by
 subst e0 e1 e2;exact aok (by kernel_rfl) (an (fun q0=>an (h1 q0) (an (h2 q0) (an (y1 q0) (fun q1=>an (y2 q0 q1) (fun q2=>an (h3 q0 q1 q2) (an (h3 q0 q1 q2) (an (h4 q0 q1 q2) (an (h4 q0 q1 q2) (an (h5 q0 q1 q2) (y3 q0 q1 q2)))))))))) y4) (by kernel_rfl)
end Go.Proofs
namespace Go.Pl
open Go Go.Sx Go.Proofs
structure Dx where
 tx:Int
 com:Bool
 deriving DecidableEq
instance:Inhabited Dx:=⟨⟨0,ak⟩⟩
instance:Row Dx where
 put x:=[.i .i64 x.tx,.b x.com]
 get l:=match l with
  |[.i .i64 a,.b c]=>ay ⟨a,c⟩ |_=>aK
 Dl l a h:=by
  split at h
  ·cases h;rfl
  ·cases h
 get_put a:=rfl
 Jk:=default
end Go.Pl
namespace Go.Proofs
open Go Go.Sx Go.Pl
def tdD:List It:=[bF [0,1,0,1,1,0,0,1,0,0,1,0,1,1],dA 2,bF [1,1,1,0,0,1,0,0,1,0,1,1],dA 1,bF [1,1,0,0,1,0,1,1],bF [0,1,0,1,1],dA 0,bF [1,1,1]]
def tbD:List It:=bF [0,0,1,0,1,1,0,0,1,0,0,1,0,1,1]::tdD
def LD(B:Ho)(m:Nat)(od:Nat->UR)(M:Int×List UInt8->Option Value)(c:Int)(i:Int)(p:Int)(n:Nat)(g:Nat->List Sh)(is:Bool)(t:Nat)(tr:Nat->Jl)(j:Int):Core:=
 {tm:=Gs 50 (tmC B i++[(7,.ptr 12 0),(8,.test is),(30,.sh (.sl 4 t (zW tr))),(31,.sym .i64 (t:Int)),(32,.sym .i64 j)]),hp:=hpC m od M c++[(12,.box [.sym .i64 p,.sh (.sl 4 n g)] 104)],nx:=13,lim:=L0,tc:=[]}
def TP(B:Ho):List Fr:=[{g:=39,td:=[It.reg [0,1,0,1,1,1,1,1,1,1,1,1,1,1,1,1] [2,3,4,5,6],bF [1,1,1,1,1,1,1,1,1,1,1,1,1,1]],tm:=Gs 111 [(8,.ptr 1 0),(22,.ptr 11 0)]}]
def tdE:List It:=[bF [0,1,0,1,1],dA 0,bF [1,1,1]]
def tbE:List It:=bF [0,0,1,0,1,1]::tdE
def hpE(M:Int×List UInt8->Option Value)(c:Int)(p:Int)(n:Nat)(g:Nat->List Sh)(k:Nat)(sr:Nat->Dx):List (Nat×SB):=[(1,.box [.bool ak,.Aw,.int .i64 0] 44),(10,.pm .bool M []),(11,.box [.bool ak,.Aw,.sym .i64 c] 44),(12,.box [.sym .i64 p,.sh (.sl 4 n g)] 104),(13,.own 55 2 k (zW sr))]
def tmE(B:Ho):List (Nat×SV):=[(0,.Gl 4 1 (fun _=>BJ B.lv B.N B.T B.N B.ms B.k0 B.g0) 0 0),(1,.mp 10),(5,.gs 13),(6,.ptr 12 0)]
def LE(B:Ho)(M:Int×List UInt8->Option Value)(c:Int)(p:Int)(n:Nat)(g:Nat->List Sh)(k:Nat)(sr:Nat->Dx):Core:={tm:=Gs 42 (tmE B),hp:=hpE M c p n g k sr,nx:=14,lim:=L0,tc:=[]}
def tdF:List It:=[bF [0,1,0,0,1,0,0,1,0,1,1],dA 2,dA 1,bF [1,1,0,0,1,0,1,1],bF [0,1,0,1,1],dA 0,bF [1,1,1]]
def tbF:List It:=bF [0,0,1,0,0,1,0,0,1,0,1,1]::tdF
def LF(B:Ho)(M:Int×List UInt8->Option Value)(c:Int)(p:Int)(n:Nat)(g:Nat->List Sh)(k:Nat)(sr:Nat->Dx)(t:Nat)(tr:Nat->Jl)(j:Int):Core:={tm:=Gs 42 (tmE B++[(21,.sh (.sl 4 t (zW tr))),(22,.sym .i64 (t:Int)),(23,.sym .i64 j)]),hp:=hpE M c p n g k sr,nx:=14,lim:=L0,tc:=[]}
theorem abA(A:Prim)(W:Wd)(B:Ho)(hs:Sh)(lv:Int)(M:Int×List UInt8->Option Value)(m:Nat)(od:Nat->UR)(c i:Int)(p:Int)(n:Nat)(g:Nat->List Sh)(is:Bool)(t:Nat)(tr:Nat->Jl)(sr:Nat->Dx){ψ:D7->Prop}{c0 c1 c2:Bool}(e0:A.le (ah 0) i=c0)(e1:A.isS (M (ah 0,Om B.k0 B.g0))=c1)(e2:A.G5 (M (ah 0,Om B.k0 B.g0))=c2)(h1:c0=aC->(A.inB i m)=aC)(h2:c0=aC->(A.le (ah 0) (A.Az B.N))=aC)(h3:c0=aC->(tuB B.lv B.N (zW B.T) B.N (zW B.ms) (od (A.toN i)).placed 4 (od (A.toN i)).n (od (A.toN i)).g)=aC)(h4:c0=ak->(Zq 4 B.k0 B.g0)=aC)(y1:c0=aC->ψ (bJ 0 [aJ 1 1,bC (fun (x:Nat)=>BJ B.lv B.N B.T B.N B.ms B.k0 B.g0) fun (x:Nat)=>BJ B.lv B.N B.T B.N B.ms B.k0 B.g0,aJ 0 0,aj i i,oZ (A.eq (od (A.toN i)).placed (A.sub .i64 (A.bin ig aT (ah 1) (A.Az B.N)) (ah 1))) is,aP (aG 4 (Ol B.lv B.N (zW B.T) (zW B.ms) (od (A.toN i)).placed (od (A.toN i)).n (od (A.toN i)).g) (zW (Zp B.lv B.N (zW B.T) (zW B.ms) (od (A.toN i)).placed (od (A.toN i)).n (od (A.toN i)).g))) (aG 4 t (zW tr)),aj (A.Az (Ol B.lv B.N (zW B.T) (zW B.ms) (od (A.toN i)).placed (od (A.toN i)).n (od (A.toN i)).g)) (ah t),aj (ah 0) (ah 0),aj (ah 0) (ah 0),aJ m m,aS m (zW od) (zW od),jg M M,aj c c,aj (od (A.toN i)).placed p,aP (aG 4 (od (A.toN i)).n (od (A.toN i)).g) (aG 4 n g),aJ 1 1,bC (fun (x:Nat)=>BJ B.lv B.N B.T B.N B.ms B.k0 B.g0) fun (x:Nat)=>BJ B.lv B.N B.T B.N B.ms B.k0 B.g0,aJ 0 0]))(y2:c0=ak->c1=aC->c2=aC->ψ (bJ 1 [aJ 1 1,bC (fun (x:Nat)=>BJ B.lv B.N B.T B.N B.ms B.k0 B.g0) fun (x:Nat)=>BJ B.lv B.N B.T B.N B.ms B.k0 B.g0,aJ 0 0,aj (ah 0) (ah 0),jg M M,aj c c,aj (ah 0) (ah 0),aP (aG 4 B.k0 B.g0) (aG 4 B.k0 B.g0),aJ 0 0]))(y3:c0=ak->c1=aC->c2=ak->ψ (aO (cO [bM [eP ak,aG 0 0 fun _=>[],aW .i64 c],jB bI])))(y4:c0=ak->c1=ak->ψ (aO (cO [bM [eP ak,aG 0 0 fun _=>[],aW .i64 c],jB bI]))):Cb ψ (AP (C7 A W (CX hs lv B) Am) Bg 300 400 71 tbC (LC B m od M c i) (Oo B) [⟨71,tdD,LD B m od M c i p n g is t tr 0,Oo B⟩,⟨72,tdE,LE B M c 0 B.k0 B.g0 0 sr,TP B⟩]):=by
 subst e0 e1 e2;exact Gf (an (fun q0=>an (h1 q0) (an (h2 q0) (an (h3 q0) (y1 q0)))) (fun q0=>an (h4 q0) (an (fun q1=>an (y2 q0 q1) (y3 q0 q1)) (y4 q0)))) (by kernel_rfl)
theorem abB(A:Prim)(W:Wd)(B:Ho)(hs:Sh)(lv:Int)(M M':Int×List UInt8->Option Value)(m:Nat)(od:Nat->UR)(c i:Int)(p:Int)(n:Nat)(g:Nat->List Sh)(is is':Bool)(t:Nat)(tr:Nat->Jl)(j j' i':Int){ψ:D7->Prop}{c0 c1 c2:Bool}(e0:A.lt j (ah t)=c0)(e1:is=c1)(e2:A.isS (M ((tr (A.toN j)).placed,Om (tr (A.toN j)).n (tr (A.toN j)).g))=c2)(h1:c0=aC->(A.inB j t)=aC)(h2:c0=aC->c1=ak->(Zq 4 (tr (A.toN j)).n (tr (A.toN j)).g)=aC)(h3:c0=ak->(Zq 4 n g)=aC)(y1:c0=aC->c1=aC->ψ (bJ 0 [aJ 1 1,bC (fun (x:Nat)=>BJ B.lv B.N B.T B.N B.ms B.k0 B.g0) fun (x:Nat)=>BJ B.lv B.N B.T B.N B.ms B.k0 B.g0,aJ 0 0,aj i i,oZ aC is',aP (aG 4 t (zW tr)) (aG 4 t (zW tr)),aj (ah t) (ah t),aj (A.add .i64 j (ah 1)) j',aj (ah 0) (ah 0),aJ m m,aS m (zW od) (zW od),jg M M,aj c c,aj p p,aP (aG 4 n g) (aG 4 n g),aJ 1 1,bC (fun (x:Nat)=>BJ B.lv B.N B.T B.N B.ms B.k0 B.g0) fun (x:Nat)=>BJ B.lv B.N B.T B.N B.ms B.k0 B.g0,aJ 0 0]))(y2:c0=aC->c1=ak->c2=aC->ψ (bJ 0 [aJ 1 1,bC (fun (x:Nat)=>BJ B.lv B.N B.T B.N B.ms B.k0 B.g0) fun (x:Nat)=>BJ B.lv B.N B.T B.N B.ms B.k0 B.g0,aJ 0 0,aj i i,oZ (A.G5 (M ((tr (A.toN j)).placed,Om (tr (A.toN j)).n (tr (A.toN j)).g))) is',aP (aG 4 t (zW tr)) (aG 4 t (zW tr)),aj (ah t) (ah t),aj (A.add .i64 j (ah 1)) j',aj (ah 0) (ah 0),aJ m m,aS m (zW od) (zW od),jg M M,aj c c,aj p p,aP (aG 4 n g) (aG 4 n g),aJ 1 1,bC (fun (x:Nat)=>BJ B.lv B.N B.T B.N B.ms B.k0 B.g0) fun (x:Nat)=>BJ B.lv B.N B.T B.N B.ms B.k0 B.g0,aJ 0 0]))(y3:c0=aC->c1=ak->c2=ak->ψ (bJ 0 [aJ 1 1,bC (fun (x:Nat)=>BJ B.lv B.N B.T B.N B.ms B.k0 B.g0) fun (x:Nat)=>BJ B.lv B.N B.T B.N B.ms B.k0 B.g0,aJ 0 0,aj i i,oZ ak is',aP (aG 4 t (zW tr)) (aG 4 t (zW tr)),aj (ah t) (ah t),aj (A.add .i64 j (ah 1)) j',aj (ah 0) (ah 0),aJ m m,aS m (zW od) (zW od),jg M M,aj c c,aj p p,aP (aG 4 n g) (aG 4 n g),aJ 1 1,bC (fun (x:Nat)=>BJ B.lv B.N B.T B.N B.ms B.k0 B.g0) fun (x:Nat)=>BJ B.lv B.N B.T B.N B.ms B.k0 B.g0,aJ 0 0]))(y4:c0=ak->ψ (bJ 1 [aJ 1 1,bC (fun (x:Nat)=>BJ B.lv B.N B.T B.N B.ms B.k0 B.g0) fun (x:Nat)=>BJ B.lv B.N B.T B.N B.ms B.k0 B.g0,aJ 0 0,aj (A.sub .i64 i (ah 1)) i',aj (ah 0) (ah 0),aJ m m,aS m (zW od) (zW od),jg (Lj (p,Om n g) (ay (Value.bool is)) M) M',aj c c,aJ 1 1,bC (fun (x:Nat)=>BJ B.lv B.N B.T B.N B.ms B.k0 B.g0) fun (x:Nat)=>BJ B.lv B.N B.T B.N B.ms B.k0 B.g0,aJ 0 0])):Cb ψ (AP (C7 A W (CX hs lv B) Am) Bg 300 400 71 tbD (LD B m od M c i p n g is t tr j) (Oo B) [⟨71,tdD,LD B m od M c i p n g is' t tr j',Oo B⟩,⟨71,Zr,LC B m od M' c i',Oo B⟩]):=by
 subst e0 e1 e2;exact Gf (an (fun q0=>an (h1 q0) (an (y1 q0) (fun q1=>an (h2 q0 q1) (an (y2 q0 q1) (y3 q0 q1))))) (fun q0=>an (h3 q0) (y4 q0))) (by kernel_rfl)
theorem abC(A:Prim)(W:Wd)(B:Ho)(hs:Sh)(lv:Int)(M:Int×List UInt8->Option Value)(c:Int)(p:Int)(n:Nat)(g:Nat->List Sh)(k:Nat)(sr:Nat->Dx)(t:Nat)(tr:Nat->Jl){ψ:D7->Prop}{c0:Bool}(e0:A.nt (A.eq p (A.sub .i64 (A.bin ig aT (ah 1) (A.Az B.N)) (ah 1)))=c0)(h1:(A.le (ah 0) (A.Az B.N))=aC)(h2:c0=aC->(tuB B.lv B.N (zW B.T) B.N (zW B.ms) p 4 n g)=aC)(y1:c0=aC->ψ (bJ 0 [aJ 1 1,bC (fun (x:Nat)=>BJ B.lv B.N B.T B.N B.ms B.k0 B.g0) fun (x:Nat)=>BJ B.lv B.N B.T B.N B.ms B.k0 B.g0,aJ 0 0,aP (aG 4 (Ol B.lv B.N (zW B.T) (zW B.ms) p n g) (zW (Zp B.lv B.N (zW B.T) (zW B.ms) p n g))) (aG 4 t (zW tr)),aj (A.Az (Ol B.lv B.N (zW B.T) (zW B.ms) p n g)) (ah t),aj (ah 0) (ah 0),aj (ah 0) (ah 0),jg M M,aj c c,aj p p,aP (aG 4 n g) (aG 4 n g),aJ k k,aS k (zW sr) (zW sr)]))(y2:c0=ak->ψ (aO (cO [bM [eP aC,Sh.os 55 2 k (zW sr),aW .i64 c],jB bI]))):Cb ψ (AP (C7 A W (CX hs lv B) Am) Bg 300 400 72 tbE (LE B M c p n g k sr) (TP B) [⟨72,tdF,LF B M c p n g k sr t tr 0,TP B⟩]):=by
 subst e0;exact Gf (an h1 (an (fun q0=>an (h2 q0) (y1 q0)) y2)) (by kernel_rfl)
theorem abD(A:Prim)(W:Wd)(B:Ho)(hs:Sh)(lv:Int)(M:Int×List UInt8->Option Value)(c:Int)(p p':Int)(n n':Nat)(g g':Nat->List Sh)(k k':Nat)(sr sr':Nat->Dx)(t:Nat)(tr:Nat->Jl)(j j':Int){ψ:D7->Prop}{c0 c1 c2:Bool}(e0:A.lt j (ah t)=c0)(e1:A.isS (M ((tr (A.toN j)).placed,Om (tr (A.toN j)).n (tr (A.toN j)).g))=c1)(e2:A.G5 (M ((tr (A.toN j)).placed,Om (tr (A.toN j)).n (tr (A.toN j)).g))=c2)(h1:c0=aC->(A.inB j t)=aC)(h2:c0=aC->(Zq 4 (tr (A.toN j)).n (tr (A.toN j)).g)=aC)(h3:c0=aC->c1=aC->c2=aC->(A.room (A.addN k 1) 16)=aC)(y1:c0=aC->c1=aC->c2=aC->ψ (bJ 1 [aJ 1 1,bC (fun (x:Nat)=>BJ B.lv B.N B.T B.N B.ms B.k0 B.g0) fun (x:Nat)=>BJ B.lv B.N B.T B.N B.ms B.k0 B.g0,aJ 0 0,aj (ah 0) (ah 0),jg M M,aj c c,aj (tr (A.toN j)).placed p',aP (aG 4 (tr (A.toN j)).n (tr (A.toN j)).g) (aG 4 n' g'),aJ (A.addN k 1) k',aS (A.addN k 1) (A.snoc (zW sr) k (AQ [[aW .i64 (tr (A.toN j)).tx,eP (tr (A.toN j)).com]])) (zW sr')]))(y2:c0=aC->c1=aC->c2=ak->ψ (bJ 0 [aJ 1 1,bC (fun (x:Nat)=>BJ B.lv B.N B.T B.N B.ms B.k0 B.g0) fun (x:Nat)=>BJ B.lv B.N B.T B.N B.ms B.k0 B.g0,aJ 0 0,aP (aG 4 t (zW tr)) (aG 4 t (zW tr)),aj (ah t) (ah t),aj (A.add .i64 j (ah 1)) j',aj (ah 0) (ah 0),jg M M,aj c c,aj p p,aP (aG 4 n g) (aG 4 n g),aJ k k,aS k (zW sr) (zW sr)]))(y3:c0=aC->c1=ak->ψ (bJ 0 [aJ 1 1,bC (fun (x:Nat)=>BJ B.lv B.N B.T B.N B.ms B.k0 B.g0) fun (x:Nat)=>BJ B.lv B.N B.T B.N B.ms B.k0 B.g0,aJ 0 0,aP (aG 4 t (zW tr)) (aG 4 t (zW tr)),aj (ah t) (ah t),aj (A.add .i64 j (ah 1)) j',aj (ah 0) (ah 0),jg M M,aj c c,aj p p,aP (aG 4 n g) (aG 4 n g),aJ k k,aS k (zW sr) (zW sr)]))(y4:c0=ak->ψ (bJ 1 [aJ 1 1,bC (fun (x:Nat)=>BJ B.lv B.N B.T B.N B.ms B.k0 B.g0) fun (x:Nat)=>BJ B.lv B.N B.T B.N B.ms B.k0 B.g0,aJ 0 0,aj (ah 0) (ah 0),jg M M,aj c c,aj p p',aP (aG 4 n g) (aG 4 n' g'),aJ k k',aS k (zW sr) (zW sr')])):Cb ψ (AP (C7 A W (CX hs lv B) Am) Bg 300 400 72 tbF (LF B M c p n g k sr t tr j) (TP B) [⟨72,tdF,LF B M c p n g k sr t tr j',TP B⟩,⟨72,tdE,LE B M c p' n' g' k' sr',TP B⟩]):=by
 subst e0 e1 e2;exact Gf (an (fun q0=>an (h1 q0) (an (h2 q0) (an (fun q1=>an (fun q2=>an (h3 q0 q1 q2) (y1 q0 q1 q2)) (y2 q0 q1)) (y3 q0)))) y4) (by kernel_rfl)
end Go.Proofs
namespace Go.Pl
open Go Go.Sx Go.Proofs Go.Gm Go.Bf
abbrev SG:=Nat->List Sh
noncomputable def Gb(B:Ho):Game SG:=TN B.lv B.N B.T B.ms B.k0
noncomputable def CP(k0:Nat)(nd:Nd SG):Int×List UInt8:=((nd.placed:Nat),Om k0 nd.st)
def I4(k0:Nat)(nd:Nd SG):UR:=⟨(nd.placed:Nat),k0,nd.st⟩
def D6(t:Int×Bool):Dx:=⟨t.1,t.2⟩
structure La(B:Ho)(Q:Nd SG->Prop):Prop where
 start:Q ⟨0,B.g0⟩
 step:∀nd,Q nd->∀t∈next (Gb B) nd,Q t
 tu:∀nd,Q nd->TuP B.lv B.N B.T B.N B.ms (nd.placed:Nat) B.k0 nd.st
 ke:∀nd,Q nd->Zq 4 B.k0 nd.st=aC
section
variable{B:Ho}{Q:Nd SG->Prop}{nd:Nd SG}
theorem WM(hg:La B Q)(h:Q nd){st:Nat}(hst:(fB st 4||fB B.k0 0)=aC):tuB B.lv B.N (zW B.T) B.N (zW B.ms) (nd.placed:Nat) st B.k0 nd.st=aC:=by
 unfold tuB;rw[D5,D5,hst,GY,GY];exact @decide_eq_true _ (bD _) (hg.tu nd h)
theorem KD:Ol B.lv B.N (zW B.T) (zW B.ms) (nd.placed:Nat) B.k0 nd.st=(turns (Gb B) nd).length:=by
 unfold Ol tuL;rw[GY,GY,dY];rfl
theorem WO:Zp B.lv B.N (zW B.T) (zW B.ms) (nd.placed:Nat) B.k0 nd.st=nth ((turns (Gb B) nd).map (Gu B.k0)):=by
 unfold Zp tuL;rw[GY,GY];rfl
theorem O1{α β:Type}[Row β](f:α->β)(l:List α){j:Nat}{a:α}(h:l[j]?=ay a):nth (l.map f) j=f a:=by
 unfold nth;rw[aY,List.getElem?_map,h];rfl
theorem O4(hN:B.N<=62)(nd:Nd SG):(turns (Gb B) nd).length<=124:=by
 have key:∀(l:List Nat),(l.flatMap (GX (Gb B) nd)).length<=2*l.length:=by
  intro l;induction l with
  |nil=>simp |cons a l ih=>
   rw[oz,bf,List.length_cons];have:(GX (Gb B) nd a).length<=2:=by
    unfold GX;split
    ·rw[bf]
     refine Nat.le_trans (Nat.add_le_add (?_:_<=1) (?_:_<=1)) (by decide)
     ·split<;>simp
     ·split<;>simp
    ·simp
   omega
 have:=key (aX B.N);rw[nO] at this;have e:(turns (Gb B) nd).length=(((aX B.N).flatMap (GX (Gb B) nd))).length:=rfl;omega
end
end Go.Pl
namespace Go.Proofs
open Go Go.Sx Go.Pl Go.Gm Go.Bf
theorem avX:Aq aB (AY W7) 92 D92:=fun H w AX args φ hon hg hr h=>by
 unfold D92 at h;split at h
 ·rename_i st n g
  obtain ⟨h1,h2⟩:=h;unfold Zq at h1;rw[aH,aH] at h1;match args,hr with
  |[v],⟨rv,_⟩=>
   refine O32 H w [.agg [.sl 4 n g]] [v] φ hon hg ⟨Qm rv ⟨fun _ r=>ag8 h1.1 r,trivial⟩,trivial⟩ ?_;exact ⟨h1.2.1,h1.2.2,h2⟩
 ·exact h.elim
section
variable{B:Ho}{hs:Sh}{lv:Int}
theorem Fg(EZ:Aq aB (AY W7) 40 (WJ hs lv B))(stop:Nat->List Nat->Bool):Bz aB (C7 zV W7 (CX hs lv B) stop):=lQ (fun g F h=>by
 unfold CX at h;split at h
 ·cases h;exact EZ
 ·cases h;exact avN
 ·cases h;exact avO
 ·cases h;exact avX
 ·cases h) fun g h=>by
 unfold CX at h;split at h;all_goals first|(cases h;done) |kernel_rfl
end
section
variable{H0:Mem}{w0:World}{φ:Sh->Prop}{B:Ho}{Q:Nd SG->Prop}{hs:Sh}{lv:Int}{M:Int×List UInt8->Option Value}{c:Int}
theorem Yc{o:Option Value}(h:zV.G5 o=aC):zV.isS o=aC:=by
 cases o with
 |none=>exact absurd h (by decide) |some v=>rfl
theorem aox(EZ:Aq aB (AY W7) 40 (WJ hs lv B))(hg:La B Q)(nd:Nd SG)(hq:Q nd)(acc:List Dx)(hk:acc.length<=1000):
  ∀r j,j+r=(turns (Gb B) nd).length->
  (∀t,((turns (Gb B) nd).drop j).find? (fun t=>zV.G5 (M (CP B.k0 t.2)))=ay t->Bc aB (C7 zV W7 (CX hs lv B) Am) (K0 H0 w0) 72 tdE (LE B M c (t.2.placed:Nat) B.k0 t.2.st (acc++[D6 t.1]).length (nth (acc++[D6 t.1]))) (TP B) emp (up φ))->
  (∃t∈(turns (Gb B) nd).drop j,zV.G5 (M (CP B.k0 t.2))=aC)->
  Bc aB (C7 zV W7 (CX hs lv B) Am) (K0 H0 w0) 72 tdF (LF B M c (nd.placed:Nat) B.k0 nd.st acc.length (nth acc) (turns (Gb B) nd).length (nth ((turns (Gb B) nd).map (Gu B.k0))) (j:Nat)) (TP B) emp (up φ)
 |0,j,hj,hnx,⟨t,ht,_⟩=>by
  rw[jL (by omega)] at ht;cases ht
 |r+1,j,hj,hnx,hex=>by
  have hjl:j<(turns (Gb B) nd).length:=by omega
  have hN:(turns (Gb B) nd).length<=124:=O4 (hg.tu nd hq).le nd;obtain ⟨t,ht⟩:∃t,(turns (Gb B) nd)[j]?=ay t:=⟨_,aV hjl⟩;have hqt:Q t.2:=hg.step nd hq _ (dJ.2 ⟨t,bT ht,rfl⟩);have hd:(turns (Gb B) nd).drop j=t::(turns (Gb B) nd).drop (j+1):=by
   rw[iM hjl];congr 1;rw[aV hjl] at ht;exact dD ht
  have htr:nth ((turns (Gb B) nd).map (Gu B.k0)) (zV.toN (j:Int))=Gu B.k0 t:=O1 _ _ ht;obtain ⟨tr,etr⟩:∃tr,nth ((turns (Gb B) nd).map (Gu B.k0))=tr:=⟨_,rfl⟩;rw[etr] at htr ⊢;refine Gq (fn:=Tryz.f72) (tb:=tbF) (by kernel_rfl) (by kernel_rfl) ?_;have w1:zV.add .i64 (j:Int) (ah 1)=((j+1:Nat):Int):=add1 (by omega);have no {P:Prop} (h:zV.lt (j:Int) (ah (turns (Gb B) nd).length)=ak):P:=by simp[Aa] at h;omega
  have inb:zV.inB (j:Int) (turns (Gb B) nd).length=aC:=by simp[Bj];omega
  have hke:Zq 4 (tr (zV.toN (j:Int))).n (tr (zV.toN (j:Int))).g=aC:=by rw[htr];exact hg.ke _ hqt
  have hM:M ((tr (zV.toN (j:Int))).placed,Om (tr (zV.toN (j:Int))).n (tr (zV.toN (j:Int))).g)=M (CP B.k0 t.2):=by rw[htr];rfl
  have rm:zV.room (zV.addN acc.length 1) 16=aC:=by rw[Et,decide_eq_true_eq,Di];unfold maxLen;omega
  cases hb:zV.G5 (M (CP B.k0 t.2)) with
  |true=>
   have nx:=hnx t (by rw[hd];exact List.find?_cons_of_pos (p:=fun t:(Int×Bool)×Nd SG=>zV.G5 (M (CP B.k0 t.2))) hb);refine ED (cZ _ _) (Fg EZ _) (hold:=Bg) (m:=300) (n:=400) (ts:=[⟨72,tdF,LF B M c (nd.placed:Nat) B.k0 nd.st acc.length (nth acc) (turns (Gb B) nd).length tr 0,TP B⟩,⟨72,tdE,LE B M c (t.2.placed:Nat) B.k0 t.2.st (acc++[D6 t.1]).length (nth (acc++[D6 t.1])),TP B⟩]) ?_;refine abD zV W7 B hs lv M c _ _ B.k0 B.k0 nd.st t.2.st _ _ (nth acc) _ _ tr _ 0 (c1:=aC) (c2:=aC) rfl (by rw[hM];exact Yc hb) (by rw[hM];exact hb) (fun _=>inb) (fun _=>hke) (fun _ _ _=>rm) (fun _ _ _=>?_) (fun _ _ q=>by cases q) (fun _ q=>by cases q) (fun q=>no q);exact ⟨⟨rfl,rfl,rfl,rfl,rfl,rfl,congrArg Jl.placed htr,congrArg (fun x:Jl=>aG 4 x.n x.g) htr,by rw[bf];rfl,fun i hi=>Il acc (D6 t.1) _ (by rw[htr];rfl) i hi,trivial⟩,_,rfl,nx⟩
  |false=>
   have nx:=aox EZ hg nd hq acc hk r (j+1) (by omega) (fun t' h=>hnx t' (by
    rw[hd];exact (List.find?_cons_of_neg (p:=fun t:(Int×Bool)×Nd SG=>zV.G5 (M (CP B.k0 t.2))) (by rw[hb];simp)).trans h)) (by
    obtain ⟨x,hx,hx2⟩:=hex;rw[hd] at hx;rcases List.mem_cons.1 hx with rfl|hx
    ·rw[hb] at hx2;cases hx2
    ·exact ⟨x,hx,hx2⟩)
   rw[etr] at nx;refine ED (cZ _ _) (Fg EZ _) (hold:=Bg) (m:=300) (n:=400) (ts:=[⟨72,tdF,LF B M c (nd.placed:Nat) B.k0 nd.st acc.length (nth acc) (turns (Gb B) nd).length tr ((j+1:Nat):Int),TP B⟩,⟨72,tdE,LE B M c 0 0 noT 0 (nth []),TP B⟩]) ?_;refine abD zV W7 B hs lv M c _ _ B.k0 0 nd.st noT _ _ (nth acc) _ _ tr _ ((j+1:Nat):Int) (c2:=ak) rfl rfl (by rw[hM];exact hb) (fun _=>inb) (fun _=>hke) (fun _ _ _=>rm) (fun _ _ q=>by cases q) (fun _ _ _=>?_) (fun _ _=>?_) (fun q=>no q)
   ·exact ⟨⟨rfl,rfl,rfl,rfl,rfl,w1,rfl,rfl,rfl,rfl,rfl,rfl,fun _ _=>rfl,trivial⟩,_,rfl,nx⟩
   ·exact ⟨⟨rfl,rfl,rfl,rfl,rfl,w1,rfl,rfl,rfl,rfl,rfl,rfl,fun _ _=>rfl,trivial⟩,_,rfl,nx⟩
def aiZ(c:Int)(l:List (Int×Bool)):Sh:=.Aj [.agg [.b aC,.sl 2 (l.map D6).length (zW (nth (l.map D6))),.i .i64 c],.v .nilIface]
def noSh(c:Int):Sh:=.Aj [.agg [.b ak,.sl 2 0 (zW (nth ([]:List Dx))),.i .i64 c],.v .nilIface]
theorem aha(hN:B.N<=62)(nd:Nd SG):zV.eq ((nd.placed:Nat):Int) (zV.sub .i64 (zV.bin .shl .i64 (ah 1) (zV.Az B.N)) (ah 1))=full (Gb B) nd:=by
 have e:zV.sub .i64 (zV.bin .shl .i64 (ah 1) (zV.Az B.N)) (ah 1)=((2^B.N - 1:Nat):Int):=aor hN;rw[e,Ap];unfold full;rw[Bool.eq_iff_iff,beq_iff_eq];show _↔decide (nd.placed=2^(Gb B).n - 1)=aC;rw[decide_eq_true_eq];exact ⟨fun e=>kT e,fun e=>congrArg ah e⟩
theorem aoy(nd:Nd SG):rk (Gb B) nd<=B.N:=by
 unfold rk;have:=List.countP_le_length (p:=fun i=>nd.placed.testBit i) (l:=aX (Gb B).n);rw[nO] at this;exact this
theorem aoz(EZ:Aq aB (AY W7) 40 (WJ hs lv B))(hg:La B Q){ld:Nd SG->Bool}(hM:∀nd,zV.G5 (M (CP B.k0 nd))=ld nd)
  (hl:∀nd,Q nd->ld nd=aC->full (Gb B) nd=ak->∃t∈turns (Gb B) nd,ld t.2=aC) :
  ∀f (nd:Nd SG) (acc:List (Int×Bool)),Q nd->ld nd=aC->B.N<rk (Gb B) nd+f->acc.length+f<=1000->φ (aiZ c (acc++least (Gb B) ld f nd))->
  Bc aB (C7 zV W7 (CX hs lv B) Am) (K0 H0 w0) 72 tdE (LE B M c (nd.placed:Nat) B.k0 nd.st (acc.map D6).length (nth (acc.map D6))) (TP B) emp (up φ)
 |0,nd,acc,hq,hld,hf,hk,hφ=>by
  have:=aoy (B:=B) nd;omega
 |f+1,nd,acc,hq,hld,hf,hk,hφ=>by
  refine Gq (fn:=Tryz.f72) (tb:=tbE) (by kernel_rfl) (by kernel_rfl) ?_;have hN:=(hg.tu nd hq).le;have hfu:=aha hN nd;have h0:zV.le (ah 0) (zV.Az B.N)=aC:=by simp[Dw,Ar]
  refine ED (cZ _ _) (Fg EZ _) (hold:=Bg) (m:=300) (n:=400) (ts:=[⟨72,tdF,LF B M c (nd.placed:Nat) B.k0 nd.st (acc.map D6).length (nth (acc.map D6)) (turns (Gb B) nd).length (nth ((turns (Gb B) nd).map (Gu B.k0))) ((0:Nat):Int),TP B⟩]) ?_;cases hfl:full (Gb B) nd with
  |true=>
   have e:least (Gb B) ld (f+1) nd=[]:=by rw[least,if_pos hfl]
   rw[e,eY] at hφ;refine abC zV W7 B hs lv M c _ B.k0 nd.st _ (nth (acc.map D6)) _ _ (c0:=ak) (by rw[hfu,hfl];rfl) h0 (fun q=>by cases q) (fun q=>by cases q) (fun _=>?_);exact BH (s':=aiZ c acc) ⟨⟨.inl rfl,.inr ⟨rfl,rfl,fun _ _=>rfl⟩,rfl,trivial⟩,rfl,trivial⟩ hφ
  |false=>
   obtain ⟨t,ht,hlt⟩:=hl nd hq hld hfl;have nx:=aox (φ:=φ) (c:=c) EZ hg nd hq (acc.map D6) (by rw[dY];omega) (turns (Gb B) nd).length 0 (by omega) (M:=M) (fun x hx=>by
    rw[jc] at hx;have hx1:=List.mem_of_find?_eq_some hx;have hx2:ld x.2=aC:=by rw[<-hM];exact List.find?_some (p:=fun t:(Int×Bool)×Nd SG=>zV.G5 (M (CP B.k0 t.2))) hx
    have hn:x.2∈next (Gb B) nd:=dJ.2 ⟨x,hx1,rfl⟩;have hr:=abv _ hn;have hx':(turns (Gb B) nd).find? (fun t=>ld t.2)=ay x:=by
     rw[<-hx];congr 1;funext t;exact (hM t.2).symm
    have e:least (Gb B) ld (f+1) nd=x.1::least (Gb B) ld f x.2:=by rw[least,if_neg (by rw[hfl];simp),hx']
    rw[e] at hφ;have:=aoz EZ hg hM hl f x.2 (acc++[x.1]) (hg.step nd hq _ hn) hx2 (by omega) (by simp;omega) (by rw[dS];exact hφ);rw[iL] at this;exact this) ⟨t,by rw[jc];exact ht,by rw[hM];exact hlt⟩
   refine abC zV W7 B hs lv M c _ B.k0 nd.st _ (nth (acc.map D6)) _ _ (c0:=aC) (by rw[hfu,hfl];rfl) h0 (fun _=>WM hg hq rfl) (fun _=>?_) (fun q=>by cases q);exact ⟨⟨rfl,rfl,rfl,by rw[KD,WO];rfl,by rw[KD];rfl,rfl,rfl,rfl,rfl,rfl,rfl,rfl,fun _ _=>rfl,trivial⟩,_,rfl,nx⟩
theorem aoA(EZ:Aq aB (AY W7) 40 (WJ hs lv B))(hg:La B Q)(nd:Nd SG)(hq:Q nd){m:Nat}{od:Nat->UR}{i:Int}:
  ∀r j (is:Bool),j+r=(turns (Gb B) nd).length->
  Bc aB (C7 zV W7 (CX hs lv B) Am) (K0 H0 w0) 71 Zr (LC B m od (Lj (CP B.k0 nd) (ay (.bool (is||((turns (Gb B) nd).drop j).any fun t=>zV.G5 (M (CP B.k0 t.2))))) M) c (zV.sub .i64 i (ah 1))) (Oo B) emp (up φ)->
  Bc aB (C7 zV W7 (CX hs lv B) Am) (K0 H0 w0) 71 tdD (LD B m od M c i (nd.placed:Nat) B.k0 nd.st is (turns (Gb B) nd).length (nth ((turns (Gb B) nd).map (Gu B.k0))) (j:Nat)) (Oo B) emp (up φ)
 |0,j,is,hj,nx=>by
  rw[jL (by omega),yC,kE] at nx;refine Gq (fn:=rO) (tb:=tbD) (by kernel_rfl) (by kernel_rfl) ?_;have lt {P:Prop} (h:zV.lt (j:Int) (ah (turns (Gb B) nd).length)=aC):P:=by simp[Aa] at h;omega
  refine ED (cZ _ _) (Fg EZ _) (hold:=Bg) (m:=300) (n:=400) (ts:=[⟨71,tdD,LD B m od M c i (nd.placed:Nat) B.k0 nd.st is (turns (Gb B) nd).length (nth ((turns (Gb B) nd).map (Gu B.k0))) 0,Oo B⟩,⟨71,Zr,LC B m od (Lj (CP B.k0 nd) (ay (.bool is)) M) c (zV.sub .i64 i (ah 1)),Oo B⟩]) ?_;exact abB zV W7 B hs lv M _ m od c i _ B.k0 nd.st is is _ _ j 0 _ rfl rfl rfl (fun q=>lt q) (fun q=>lt q) (fun _=>hg.ke nd hq) (fun q=>lt q) (fun q=>lt q) (fun q=>lt q)
   (fun _=>⟨⟨rfl,rfl,rfl,rfl,rfl,rfl,fun _ _=>rfl,rfl,rfl,rfl,rfl,rfl,trivial⟩,_,rfl,nx⟩)
 |r+1,j,is,hj,nx=>by
  have hjl:j<(turns (Gb B) nd).length:=by omega
  have hN:(turns (Gb B) nd).length<=124:=O4 (hg.tu nd hq).le nd;obtain ⟨t,ht⟩:∃t,(turns (Gb B) nd)[j]?=ay t:=⟨_,aV hjl⟩;have hqt:Q t.2:=hg.step nd hq _ (dJ.2 ⟨t,bT ht,rfl⟩);have hd:(turns (Gb B) nd).drop j=t::(turns (Gb B) nd).drop (j+1):=by
   rw[iM hjl];congr 1;rw[aV hjl] at ht;exact dD ht
  rw[hd,xg,<-Bool.or_assoc] at nx;have nx:=aoA EZ hg nd hq r (j+1) (is||zV.G5 (M (CP B.k0 t.2))) (by omega) nx;have htr:nth ((turns (Gb B) nd).map (Gu B.k0)) (zV.toN (j:Int))=Gu B.k0 t:=O1 _ _ ht;obtain ⟨tr,etr⟩:∃tr,nth ((turns (Gb B) nd).map (Gu B.k0))=tr:=⟨_,rfl⟩;rw[etr] at htr nx ⊢;refine Gq (fn:=rO) (tb:=tbD) (by kernel_rfl) (by kernel_rfl) ?_;have w1:zV.add .i64 (j:Int) (ah 1)=((j+1:Nat):Int):=add1 (by omega);have no {P:Prop} (h:zV.lt (j:Int) (ah (turns (Gb B) nd).length)=ak):P:=by simp[Aa] at h;omega
  have inb:zV.inB (j:Int) (turns (Gb B) nd).length=aC:=by simp[Bj];omega
  have hke:Zq 4 (tr (zV.toN (j:Int))).n (tr (zV.toN (j:Int))).g=aC:=by rw[htr];exact hg.ke _ hqt
  have hM:M ((tr (zV.toN (j:Int))).placed,Om (tr (zV.toN (j:Int))).n (tr (zV.toN (j:Int))).g)=M (CP B.k0 t.2):=by rw[htr];rfl
  refine ED (cZ _ _) (Fg EZ _) (hold:=Bg) (m:=300) (n:=400) (ts:=[⟨71,tdD,LD B m od M c i (nd.placed:Nat) B.k0 nd.st (is||zV.G5 (M (CP B.k0 t.2))) (turns (Gb B) nd).length tr ((j+1:Nat):Int),Oo B⟩,⟨71,Zr,LC B m od M c 0,Oo B⟩]) ?_;have fin (b:Bool) (hb:b=(is||zV.G5 (M (CP B.k0 t.2)))):Jw aB (C7 zV W7 (CX hs lv B) Am) (K0 H0 w0) [⟨71,tdD,LD B m od M c i (nd.placed:Nat) B.k0 nd.st (is||zV.G5 (M (CP B.k0 t.2))) (turns (Gb B) nd).length tr ((j+1:Nat):Int),Oo B⟩,⟨71,Zr,LC B m od M c 0,Oo B⟩] emp (up φ) (bJ 0 [aJ 1 1,bC (fun _=>BJ B.lv B.N B.T B.N B.ms B.k0 B.g0) fun _=>BJ B.lv B.N B.T B.N B.ms B.k0 B.g0,aJ 0 0,aj i i,oZ b (is||zV.G5 (M (CP B.k0 t.2))),aP (aG 4 (turns (Gb B) nd).length (zW tr)) (aG 4 (turns (Gb B) nd).length (zW tr)),aj (ah (turns (Gb B) nd).length) (ah (turns (Gb B) nd).length),aj (zV.add .i64 j (ah 1)) ((j+1:Nat):Int),aj (ah 0) (ah 0),aJ m m,aS m (zW od) (zW od),jg M M,aj c c,aj (nd.placed:Nat) (nd.placed:Nat),aP (aG 4 B.k0 nd.st) (aG 4 B.k0 nd.st),aJ 1 1,bC (fun _=>BJ B.lv B.N B.T B.N B.ms B.k0 B.g0) fun _=>BJ B.lv B.N B.T B.N B.ms B.k0 B.g0,aJ 0 0]):=
   ⟨⟨rfl,rfl,rfl,rfl,hb,rfl,rfl,w1,rfl,rfl,fun _ _=>rfl,rfl,rfl,rfl,rfl,rfl,rfl,rfl,trivial⟩,_,rfl,nx⟩
  refine abB zV W7 B hs lv M _ m od c i _ B.k0 nd.st is _ _ tr j ((j+1:Nat):Int) _ rfl rfl rfl (fun _=>inb) (fun _ _=>hke) (fun q=>no q) (fun _ q=>?_) (fun _ q q2=>?_) (fun _ q q2=>?_) (fun q=>no q)
  ·exact fin aC (by rw[q];rfl)
  ·exact fin _ (by rw[q,hM];rfl)
  ·refine fin ak ?_
   rw[hM] at q2;rw[q];cases hb:zV.G5 (M (CP B.k0 t.2)) with
   |false=>rfl |true=>rw[Yc hb] at q2;cases q2
end
end Go.Proofs
namespace Go.Pl
open Go Go.Sx Go.Proofs Go.Gm Go.Bf
def ndQ(k0:Nat)(nd:Nd SG):RZ:=⟨(nd.placed:Nat),4,k0,nd.st⟩
noncomputable def Oq(k0:Nat)(nd:Nd SG):PrQ:=⟨(nd.placed:Nat),Om k0 nd.st⟩
structure QOK(k0:Nat)(o:List (Nd SG))(i at_ q:Nat)(qr:Nat->RZ):Prop where
 le:i<=o.length
 len:q=at_+(o.length - i)
 row:∀j nd,o[i+j]?=ay nd->qr (at_+j)=ndQ k0 nd
end Go.Pl
namespace Go.Proofs
open Go Go.Sx Go.Pl Go.Gm Go.Bf
section
variable{H0:Mem}{w0:World}{φ:Sh->Prop}{B:Ho}{Q:Nd SG->Prop}{hs:Sh}{lv:Int}{c:Int}
theorem avY{r:Nat}(h:r<=100000):zV.sub .i64 (((r+1:Nat):Int) - 1) (ah 1)=(r:Int) - 1:=by
 have e:zV.sub .i64 (((r+1:Nat):Int) - 1) (ah 1)=aT.wrap (((r+1:Nat):Int) - 1 - 1):=rfl;rw[e,BL (by omega) (by omega)];omega
theorem aoB(EZ:Aq aB (AY W7) 40 (WJ hs lv B))(hg:La B Q)(o:List (Nd SG))(ho:∀x∈o,Q x)(hlen:o.length<=100000)
  (hl:∀nd,Q nd->UU (Gb B) (CP B.k0) o nd=aC->full (Gb B) nd=ak->∃t∈turns (Gb B) nd,UU (Gb B) (CP B.k0) o t.2=aC)
  (hy:RY (Gb B) (CP B.k0) B.g0 o=aC->φ (aiZ c (JD (Gb B) (CP B.k0) B.g0 o))) (hn:RY (Gb B) (CP B.k0) B.g0 o=ak->φ (noSh c)) :
  ∀r (M:Int×List UInt8->Option Value),r<=o.length->(∀k,zV.G5 (M k)=H6 (CP B.k0) (next (Gb B)) (full (Gb B)) (o.drop r) k)->
  Bc aB (C7 zV W7 (CX hs lv B) Am) (K0 H0 w0) 71 Zr (LC B o.length (nth (o.map (I4 B.k0))) M c ((r:Nat) - 1:Int)) (Oo B) emp (up φ)
 |0,M,hr,hM=>by
  refine Gq (fn:=rO) (tb:=tbC) (by kernel_rfl) (by kernel_rfl) ?_;rw[jc] at hM;have ge {P:Prop} (h:zV.le (ah 0) (((0:Nat):Int) - 1)=aC):P:=by simp[Dw] at h
  have hN:=(hg.tu _ hg.start).le;have hK:M (ah 0,Om B.k0 B.g0)=M (CP B.k0 ⟨0,B.g0⟩):=rfl;refine ED (cZ _ _) (Fg EZ _) (hold:=Bg) (m:=300) (n:=400) (ts:=[⟨71,tdD,LD B o.length (nth (o.map (I4 B.k0))) M c (((0:Nat):Int) - 1) 0 0 noT ak 0 (nth []) 0,Oo B⟩,⟨72,tdE,LE B M c 0 B.k0 B.g0 0 (nth []),TP B⟩]) ?_;refine abA zV W7 B hs lv M _ _ c _ 0 0 noT ak 0 (nth []) (nth []) rfl rfl rfl (fun q=>ge q) (fun q=>ge q) (fun q=>ge q) (fun _=>hg.ke _ hg.start) (fun q=>ge q) (fun _ _ q=>?_) (fun _ _ q=>?_) (fun _ q=>?_)
  ·have hld:RY (Gb B) (CP B.k0) B.g0 o=aC:=by
    rw[hK,hM] at q;exact q
   have hφ:=hy hld;have e:JD (Gb B) (CP B.k0) B.g0 o=least (Gb B) (UU (Gb B) (CP B.k0) o) ((Gb B).n+1) (je B.g0):=if_pos hld;rw[e] at hφ;have nx:=aoz (H0:=H0) (w0:=w0) (φ:=φ) (c:=c) (M:=M) EZ hg (ld:=UU (Gb B) (CP B.k0) o) (fun nd=>hM _) hl ((Gb B).n+1) (je B.g0) [] hg.start hld (by have:(Gb B).n=B.N:=rfl;omega) (by have:(Gb B).n=B.N:=rfl;simp;omega) (by rw[jG];exact hφ);exact ⟨⟨rfl,rfl,rfl,rfl,rfl,rfl,rfl,rfl,rfl,trivial⟩,_,rfl,nx⟩
  ·refine BH (s':=noSh c) ⟨⟨.inl rfl,.inl ⟨rfl,rfl⟩,rfl,trivial⟩,rfl,trivial⟩ (hn ?_)
   rw[hK,hM] at q;exact q
  ·refine BH (s':=noSh c) ⟨⟨.inl rfl,.inl ⟨rfl,rfl⟩,rfl,trivial⟩,rfl,trivial⟩ (hn ?_)
   have q2:zV.G5 (M (CP B.k0 ⟨0,B.g0⟩))=ak:=by
    cases hb:zV.G5 (M (CP B.k0 ⟨0,B.g0⟩)) with
    |false=>rfl |true=>rw[hK,Yc hb] at q;cases q
   rw[hM] at q2;exact q2
 |r+1,M,hr,hM=>by
  obtain ⟨nd,hnd⟩:∃nd,o[r]?=ay nd:=⟨_,aV (by omega)⟩;have hq:Q nd:=ho nd (bT hnd);have hN:=(hg.tu nd hq).le;have hd:o.drop r=nd::o.drop (r+1):=by
   rw[iM (by omega)];congr 1;rw[aV (by omega)] at hnd;exact dD hnd
  have hi:zV.toN (((r+1:Nat):Int) - 1)=r:=by rw[CJ];omega
  have hod:nth (o.map (I4 B.k0)) (zV.toN (((r+1:Nat):Int) - 1))=I4 B.k0 nd:=by rw[hi];exact O1 _ _ hnd
  have nx:=aoB EZ hg o ho hlen hl hy hn r (Lj (CP B.k0 nd) (ay (.bool (full (Gb B) nd||((turns (Gb B) nd).drop 0).any fun t=>zV.G5 (M (CP B.k0 t.2))))) M) (by omega) (fun k=>by
   have e:(next (Gb B) nd).any (fun t=>H6 (CP B.k0) (next (Gb B)) (full (Gb B)) (o.drop (r+1)) (CP B.k0 t))=((turns (Gb B) nd).drop 0).any fun t=>zV.G5 (M (CP B.k0 t.2)):=by
    unfold next;rw[List.any_map,jc];congr 1;funext t;exact (hM _).symm
   rw[hd,H6,e];unfold Lj;by_cases h:k=CP B.k0 nd
   ·rw[if_pos h,if_pos h.symm];rfl
   ·rw[if_neg h,if_neg (fun e=>h e.symm)]
    exact hM k)
  refine Gq (fn:=rO) (tb:=tbC) (by kernel_rfl) (by kernel_rfl) ?_;obtain ⟨od,avZ⟩:∃od,nth (o.map (I4 B.k0))=od:=⟨_,rfl⟩;rw[avZ] at hod nx ⊢;have lt {P:Prop} (h:zV.le (ah 0) (((r+1:Nat):Int) - 1)=ak):P:=by rw[Dw,decide_eq_false_iff_not] at h;exact (h (by show (0:Int)<=_;omega)).elim
  have hD:=aoA (H0:=H0) (w0:=w0) (φ:=φ) (c:=c) (M:=M) (m:=o.length) (od:=od) (i:=((r+1:Nat):Int) - 1) EZ hg nd hq (turns (Gb B) nd).length 0 (full (Gb B) nd) (by omega) (by rw[avY (by omega)];exact nx);refine ED (cZ _ _) (Fg EZ _) (hold:=Bg) (m:=300) (n:=400) (ts:=[⟨71,tdD,LD B o.length od M c (((r+1:Nat):Int) - 1) (nd.placed:Nat) B.k0 nd.st (full (Gb B) nd) (turns (Gb B) nd).length (nth ((turns (Gb B) nd).map (Gu B.k0))) ((0:Nat):Int),Oo B⟩,⟨72,tdE,LE B M c 0 B.k0 B.g0 0 (nth []),TP B⟩]) ?_;refine abA zV W7 B hs lv M _ od c _ _ _ _ _ _ _ (nth []) rfl rfl rfl (fun _=>by rw[Bj,decide_eq_true_eq];omega) (fun _=>by simp[Dw,Ar]) (fun _=>by rw[hod];exact WM hg hq rfl) (fun q=>lt q) (fun _=>?_) (fun q=>lt q) (fun q=>lt q) (fun q=>lt q);exact ⟨⟨rfl,rfl,rfl,rfl,by rw[hod];exact aha hN nd,by rw[hod];show aG 4 (Ol B.lv B.N (zW B.T) (zW B.ms) (nd.placed:Nat) B.k0 nd.st) (zW (Zp B.lv B.N (zW B.T) (zW B.ms) (nd.placed:Nat) B.k0 nd.st))=_;rw[KD,WO],by rw[hod];show ((Ol B.lv B.N (zW B.T) (zW B.ms) (nd.placed:Nat) B.k0 nd.st:Nat):Int)=_;rw[KD];rfl,rfl,rfl,rfl,fun _ _=>rfl,rfl,rfl,by rw[hod];rfl,by rw[hod];rfl,rfl,rfl,rfl,trivial⟩,_,rfl,hD⟩
def aeY:Sh:=.Aj [.agg [.b ak,.sl 2 0 (fun _=>[]),.i .i64 0],.er 0 329]
theorem getM{o:List (Nd SG)}{k:Int×List UInt8}{k0:Nat}{v:Value}{nd:Nd SG}{M:Int×List UInt8->Option Value}(hM:∀k,zV.isS (M k)=JB (CP k0) o k):
  ∀k,zV.isS (Lj (CP k0 nd) (ay v) M k)=JB (CP k0) (o++[nd]) k:=fun k=>by
 unfold Lj;by_cases h:k=CP k0 nd
 ·rw[if_pos h]
  have:JB (CP k0) (o++[nd]) k=aC:=JC.2 ⟨nd,by simp,h.symm⟩;rw[this];rfl
 ·rw[if_neg h,hM k]
  unfold JB;rw[List.any_append];have:[nd].any (fun n=>decide (CP k0 n=k))=ak:=by
   simp only[xg,yC,kE];exact decide_eq_false fun e=>h e.symm
  rw[this,kE]
theorem aoC{k0:Nat}{o:List (Nd SG)}{i at_ q:Nat}{qr:Nat->RZ}{nd:Nd SG}(h:QOK k0 o i at_ q qr):QOK k0 (o++[nd]) i at_ (q+1) (fun j=>if j<q then qr j else ndQ k0 nd):=by
 obtain ⟨h1,h2,h3⟩:=h;refine ⟨by rw[bf];omega,by rw[bf];simp;omega,fun j x hx=>?_⟩;by_cases hj:i+j<o.length
 ·rw[dI hj] at hx
  show (if at_+j<q then qr (at_+j) else ndQ k0 nd)=ndQ k0 x;rw[if_pos (by omega)];exact h3 j x hx
 ·rw[List.getElem?_append_right (by omega)] at hx
  have e:i+j - o.length=0:=by
   have:=(aU.1 hx).1;simp at this;omega
  rw[e] at hx;cases hx;show (if at_+j<q then qr (at_+j) else ndQ k0 nd)=ndQ k0 nd;rw[if_neg (by omega)]
theorem aoD(EZ:Aq aB (AY W7) 40 (WJ hs lv B))(hg:La B Q)(nd:Nd SG)(hq:Q nd){m:Nat}(hm:m<=65536){i:Nat}
  {P:List (Nd SG)->Prop} (hA:∀(o':List (Nd SG)) (M:Int×List UInt8->Option Value) (at_ q:Nat) (qr:Nat->RZ),P o'->QOK B.k0 o' i at_ q qr->q<=100000+o'.length->o'.length<=m->(∀k,zV.isS (M k)=JB (CP B.k0) o' k)->
   Bc aB (C7 zV W7 (CX hs lv B) Am) (K0 H0 w0) 39 tdA (LA B (m:Nat) M o'.length (nth (o'.map (Oq B.k0))) (at_:Nat) q qr o'.length (nth (o'.map (I4 B.k0)))) [] emp (up φ)) :
  ∀r j (o:List (Nd SG)) (M:Int×List UInt8->Option Value) (at_ q:Nat) (qr:Nat->RZ),j+r=(turns (Gb B) nd).length->QOK B.k0 o i at_ q qr->q<=100000+o.length->o.length<=m->(∀k,zV.isS (M k)=JB (CP B.k0) o k)->
   (∀o',Fb (CP B.k0) m o (((turns (Gb B) nd).drop j).map (·.2))=ay o'->P o')->(Fb (CP B.k0) m o (((turns (Gb B) nd).drop j).map (·.2))=aK->φ aeY)->
   Bc aB (C7 zV W7 (CX hs lv B) Am) (K0 H0 w0) 39 tdB (LB B (m:Nat) M o.length (nth (o.map (Oq B.k0))) (at_:Nat) q qr o.length (nth (o.map (I4 B.k0))) (turns (Gb B) nd).length (nth ((turns (Gb B) nd).map (Gu B.k0))) (j:Nat)) [] emp (up φ)
 |0,j,o,M,at_,q,qr,hj,hQ,hq2,hlo,hM,hP,_=>by
  have hP:=hP o (by rw[jL (by omega)];rfl);have nx:=hA o M at_ q qr hP hQ hq2 hlo hM;refine Gq (fn:=uw) (tb:=tbB) (by kernel_rfl) (by kernel_rfl) ?_;have lt {P:Prop} (h:zV.lt (j:Int) (ah (turns (Gb B) nd).length)=aC):P:=by simp[Aa] at h;omega
  refine ED (cZ _ _) (Fg EZ _) (hold:=Bg) (m:=300) (n:=400) (ts:=[⟨39,tdB,LB B (m:Nat) M 0 (nth []) (at_:Nat) 0 (fun _=>default) 0 (nth []) (turns (Gb B) nd).length (nth ((turns (Gb B) nd).map (Gu B.k0))) 0,[]⟩,⟨39,tdA,LA B (m:Nat) M o.length (nth (o.map (Oq B.k0))) (at_:Nat) q qr o.length (nth (o.map (I4 B.k0))),[]⟩]) ?_;exact Qo zV W7 B hs lv _ M M _ 0 _ (nth []) _ q 0 qr _ _ 0 _ (nth []) _ _ j 0 rfl rfl rfl (fun q=>lt q) (fun q=>lt q) (fun q=>lt q) (fun q=>lt q) (fun q=>lt q) (fun q=>lt q) (fun q=>lt q) (fun q=>lt q)
   (fun _=>⟨⟨rfl,rfl,rfl,rfl,rfl,rfl,rfl,rfl,rfl,fun _ _=>rfl,rfl,fun _ _=>rfl,rfl,fun _ _=>rfl,trivial⟩,_,rfl,nx⟩)
 |r+1,j,o,M,at_,q,qr,hj,hQ,hq2,hlo,hM,hP,aku=>by
  have hjl:j<(turns (Gb B) nd).length:=by omega
  have hN:(turns (Gb B) nd).length<=124:=O4 (hg.tu nd hq).le nd;obtain ⟨t,ht⟩:∃t,(turns (Gb B) nd)[j]?=ay t:=⟨_,aV hjl⟩;have hqt:Q t.2:=hg.step nd hq _ (dJ.2 ⟨t,bT ht,rfl⟩);have hd:(turns (Gb B) nd).drop j=t::(turns (Gb B) nd).drop (j+1):=by
   rw[iM hjl];congr 1;rw[aV hjl] at ht;exact dD ht
  rw[hd,jk] at hP aku;have ih:=fun o' M' q' WL (h1:Hl (CP B.k0) m o t.2=ay o')=>aoD EZ hg nd hq hm hA r (j+1) o' M' at_ q' WL (by omega);refine Gq (fn:=uw) (tb:=tbB) (by kernel_rfl) (by kernel_rfl) ?_;have htr:nth ((turns (Gb B) nd).map (Gu B.k0)) (zV.toN (j:Int))=Gu B.k0 t:=O1 _ _ ht;obtain ⟨tr,etr⟩:∃tr,nth ((turns (Gb B) nd).map (Gu B.k0))=tr:=⟨_,rfl⟩;rw[etr] at htr ih ⊢;have w1:zV.add .i64 (j:Int) (ah 1)=((j+1:Nat):Int):=add1 (by omega);have no {P:Prop} (h:zV.lt (j:Int) (ah (turns (Gb B) nd).length)=ak):P:=by simp[Aa] at h;omega
  have inb:zV.inB (j:Int) (turns (Gb B) nd).length=aC:=by simp[Bj];omega
  have hke:Zq 4 (tr (zV.toN (j:Int))).n (tr (zV.toN (j:Int))).g=aC:=by rw[htr];exact hg.ke _ hqt
  have hMt:M ((tr (zV.toN (j:Int))).placed,Om (tr (zV.toN (j:Int))).n (tr (zV.toN (j:Int))).g)=M (CP B.k0 t.2):=by rw[htr];rfl
  have rmo:zV.room (zV.addN o.length 1) 32=aC:=by rw[Et,decide_eq_true_eq,Di];unfold maxLen;omega
  have rmc:zV.room (zV.addN o.length 1) 24=aC:=by rw[Et,decide_eq_true_eq,Di];unfold maxLen;omega
  have rmq:zV.room (zV.addN q 1) 32=aC:=by rw[Et,decide_eq_true_eq,Di];unfold maxLen;omega
  cases hb:JB (CP B.k0) o (CP B.k0 t.2) with
  |true=>
   have hpb:Hl (CP B.k0) m o t.2=ay o:=if_pos hb;have nx:=ih o M q qr hpb hQ hq2 hlo hM (fun o' h=>hP o' (by rw[Fb,hpb];exact h)) (fun h=>aku (by rw[Fb,hpb];exact h));refine ED (cZ _ _) (Fg EZ _) (hold:=Bg) (m:=300) (n:=400) (ts:=[⟨39,tdB,LB B (m:Nat) M o.length (nth (o.map (Oq B.k0))) (at_:Nat) q qr o.length (nth (o.map (I4 B.k0))) (turns (Gb B) nd).length tr ((j+1:Nat):Int),[]⟩,⟨39,tdA,LA B (m:Nat) M o.length (nth (o.map (Oq B.k0))) (at_:Nat) q qr o.length (nth (o.map (I4 B.k0))),[]⟩]) ?_;exact Qo zV W7 B hs lv _ M M _ _ _ (nth (o.map (Oq B.k0))) _ q q qr qr _ _ _ (nth (o.map (I4 B.k0))) _ tr j ((j+1:Nat):Int) (c1:=aC) rfl (by rw[hMt,hM];exact hb) rfl (fun _=>inb) (fun _=>hke) (fun _ q=>by cases q) (fun _ q=>by cases q) (fun _ q=>by cases q)
    (fun _ _=>⟨⟨rfl,rfl,rfl,rfl,rfl,rfl,w1,rfl,rfl,rfl,rfl,rfl,fun _ _=>rfl,rfl,fun _ _=>rfl,rfl,fun _ _=>rfl,trivial⟩,_,rfl,nx⟩) (fun _ q=>by cases q) (fun _ q=>by cases q) (fun q=>no q)
  |false=>
   have hc:zV.eq (zV.Az o.length) ((m:Nat):Int)=decide (o.length=m):=by
    rw[Ap,Ar];by_cases h:o.length=m
    ·rw[decide_eq_true h,h];simp
    ·rw[decide_eq_false h,beq_eq_false_iff_ne]
     exact fun e=>h (kT e)
   by_cases hml:o.length=m
   ·refine ED (cZ _ _) (Fg EZ _) (hold:=Bg) (m:=300) (n:=400) (ts:=[⟨39,tdB,LB B (m:Nat) M o.length (nth (o.map (Oq B.k0))) (at_:Nat) q qr o.length (nth (o.map (I4 B.k0))) (turns (Gb B) nd).length tr ((j+1:Nat):Int),[]⟩,⟨39,tdA,LA B (m:Nat) M o.length (nth (o.map (Oq B.k0))) (at_:Nat) q qr o.length (nth (o.map (I4 B.k0))),[]⟩]) ?_
    exact Qo zV W7 B hs lv _ M M _ _ _ (nth (o.map (Oq B.k0))) _ q q qr qr _ _ _ (nth (o.map (I4 B.k0))) _ tr j ((j+1:Nat):Int) (c1:=ak) (c2:=aC) rfl (by rw[hMt,hM];exact hb) (by rw[hc];exact decide_eq_true hml) (fun _=>inb) (fun _=>hke) (fun _ _ q=>by cases q) (fun _ _ q=>by cases q) (fun _ _ q=>by cases q)
     (fun _ q=>by cases q) (fun _ _ _=>BH (s':=aeY) ⟨⟨.inl rfl,.inl ⟨rfl,rfl⟩,rfl,trivial⟩,rfl,trivial⟩ (aku (by rw[Fb];unfold Hl;rw[if_neg (by rw[hb];simp),if_pos hml]))) (fun _ _ q=>by cases q) (fun q=>no q)
   ·have hpb:Hl (CP B.k0) m o t.2=ay (o++[t.2]):=by
     unfold Hl;rw[if_neg (by rw[hb];simp),if_neg hml]
    have nx:=ih (o++[t.2]) (Lj (CP B.k0 t.2) (ay (.int .i64 (zV.Az o.length))) M) (q+1) (fun j=>if j<q then qr j else ndQ B.k0 t.2) hpb (aoC hQ) (by rw[bf];simp;omega) (by rw[bf];simp;omega) (getM (k:=CP B.k0 t.2) hM) (fun o' h=>hP o' (by rw[Fb,hpb];exact h)) (fun h=>aku (by rw[Fb,hpb];exact h));refine ED (cZ _ _) (Fg EZ _) (hold:=Bg) (m:=300) (n:=400) (ts:=[⟨39,tdB,LB B (m:Nat) (Lj (CP B.k0 t.2) (ay (.int .i64 (zV.Az o.length))) M) (o++[t.2]).length (nth ((o++[t.2]).map (Oq B.k0))) (at_:Nat) (q+1) (fun j=>if j<q then qr j else ndQ B.k0 t.2) (o++[t.2]).length (nth ((o++[t.2]).map (I4 B.k0))) (turns (Gb B) nd).length tr ((j+1:Nat):Int),[]⟩,⟨39,tdA,LA B (m:Nat) M o.length (nth (o.map (Oq B.k0))) (at_:Nat) q qr o.length (nth (o.map (I4 B.k0))),[]⟩]) ?_;refine Qo zV W7 B hs lv _ M _ _ _ _ _ _ q _ qr _ _ _ (nth (o.map (I4 B.k0))) _ _ tr j ((j+1:Nat):Int) (c1:=ak) (c2:=ak) rfl (by rw[hMt,hM];exact hb) (by rw[hc];exact decide_eq_false hml) (fun _=>inb) (fun _=>hke) (fun _ _ _=>rmc) (fun _ _ _=>rmq) (fun _ _ _=>rmo)
     (fun _ q=>by cases q) (fun _ _ q=>by cases q) (fun _ _ _=>?_) (fun q=>no q)
    have ar6:(o++[t.2]).length=zV.addN o.length 1:=by rw[bf];rfl
    refine ⟨⟨rfl,rfl,rfl,rfl,rfl,rfl,w1,rfl,?_,rfl,rfl,ar6.symm,fun i hi=>?_,rfl,fun i hi=>?_,ar6.symm,fun i hi=>?_,trivial⟩,_,rfl,nx⟩
    ·show Lj ((tr (zV.toN (j:Int))).placed,Om (tr (zV.toN (j:Int))).n (tr (zV.toN (j:Int))).g) _ M=_
     rw[htr];rfl
    ·have:=Il (o.map (Oq B.k0)) (Oq B.k0 t.2) [aW .i64 (tr (zV.toN (j:Int))).placed,dn (Om (tr (zV.toN (j:Int))).n (tr (zV.toN (j:Int))).g)] (by rw[htr];rfl) i (by rw[dY];exact hi)
     rw[dY] at this;rw[iL];exact this
    ·rw[Ed]
     show _=Row.put (if i<q then qr i else ndQ B.k0 t.2);split
     ·rfl
     ·have:i - q=0:=by have:i<q+1:=hi;omega
      rw[this,htr];rfl
    ·have:=Il (o.map (I4 B.k0)) (I4 B.k0 t.2) [aW .i64 (tr (zV.toN (j:Int))).placed,aG 4 (tr (zV.toN (j:Int))).n (tr (zV.toN (j:Int))).g] (by rw[htr];rfl) i (by rw[dY];exact hi)
     rw[dY] at this;rw[iL];exact this
theorem loopA(EZ:Aq aB (AY W7) 40 (WJ hs lv B))(hg:La B Q){m:Nat}(hm:m<=65536)
  (hC:∀o:List (Nd SG),EH (Gb B) (CP B.k0) B.g0 m=ay o->Bc aB (C7 zV W7 (CX hs lv B) Am) (K0 H0 w0) 71 Zr (LC B o.length (nth (o.map (I4 B.k0))) (fun _=>aK) (o.length:Nat) (zV.sub .i64 (zV.Az o.length) (ah 1))) (Oo B) emp (up φ)) :
  ∀f i (o:List (Nd SG)) (M:Int×List UInt8->Option Value) (at_ q:Nat) (qr:Nat->RZ),m<i+f->(∀x∈o,Q x)->QOK B.k0 o i at_ q qr->q<=100000+o.length->o.length<=m->(∀k,zV.isS (M k)=JB (CP B.k0) o k)->
   (∀r,LM (CP B.k0) (next (Gb B)) m f o i=ay r->EH (Gb B) (CP B.k0) B.g0 m=ay r)->(LM (CP B.k0) (next (Gb B)) m f o i=aK->φ aeY)->
   Bc aB (C7 zV W7 (CX hs lv B) Am) (K0 H0 w0) 39 tdA (LA B (m:Nat) M o.length (nth (o.map (Oq B.k0))) (at_:Nat) q qr o.length (nth (o.map (I4 B.k0)))) [] emp (up φ)
 |f,i,o,M,at_,q,qr,hf,ho,hQ,hq2,hlo,hM,hr,hr0=>by
  refine Gq (fn:=uw) (tb:=tbA) (by kernel_rfl) (by kernel_rfl) ?_;have hil:=hQ.le;have hql:=hQ.len;by_cases hi:i=o.length
  ·
   have hb:LM (CP B.k0) (next (Gb B)) m f o i=ay o:=by
    cases f with
    |zero=>rfl |succ f=>
     rw[LM,List.getElem?_eq_none (by omega)]
   have hp:=hr o hb;have nx:=hC o hp;have hat:zV.eq (at_:Int) (zV.Az q)=aC:=by
    have:at_=q:=by omega
    rw[this,Ap,Ar];simp
   refine ED (cZ _ _) (Fg EZ _) (hold:=Bg) (m:=300) (n:=400) (ts:=[⟨39,tdB,LB B (m:Nat) M o.length (nth (o.map (Oq B.k0))) 0 0 (fun _=>default) o.length (nth (o.map (I4 B.k0))) 0 (nth []) 0,[]⟩,⟨71,Zr,LC B o.length (nth (o.map (I4 B.k0))) (fun _=>aK) (o.length:Nat) (zV.sub .i64 (zV.Az o.length) (ah 1)),Oo B⟩]) ?_;exact UY zV W7 B hs lv _ M _ (nth (o.map (Oq B.k0))) _ q qr _ (nth (o.map (I4 B.k0))) 0 0 (fun _=>default) 0 (nth []) _ _ _ (c0:=aC) hat rfl rfl (fun q=>by cases q) (fun q=>by cases q) (fun q=>by cases q)
    (fun _=>⟨⟨rfl,rfl,rfl,rfl,rfl,rfl,fun _ _=>rfl,rfl,rfl,rfl,rfl,rfl,trivial⟩,_,rfl,nx⟩) (fun q=>by cases q) (fun q=>by cases q) (fun q=>by cases q) (fun q=>by cases q)
  ·obtain ⟨nd,hnd⟩:∃nd,o[i]?=ay nd:=⟨_,aV (by omega)⟩
   have hq:Q nd:=ho nd (bT hnd);have hrow:=hQ.row 0 nd hnd;rw[jv] at hrow;have hqr:qr (zV.toN (at_:Int))=ndQ B.k0 nd:=hrow;cases f with
   |zero=>omega |succ f=>
    rw[LM,hnd] at hr hr0;have hN:=(hg.tu nd hq).le;have inb:zV.inB (at_:Int) q=aC:=by rw[Bj,decide_eq_true_eq];omega
    have ne:zV.eq (at_:Int) (zV.Az q)=ak:=by
     rw[Ap,Ar,beq_eq_false_iff_ne];intro e;have:=kT e;omega
    have w1:zV.add .i64 (at_:Int) (ah 1)=((at_+1:Nat):Int):=by
     show aT.wrap ((at_:Int)+1)=_;rw[BL (by omega) (by omega)];rfl
    have htu:tuB B.lv B.N (zW B.T) B.N (zW B.ms) (qr (zV.toN (at_:Int))).placed (qr (zV.toN (at_:Int))).st (qr (zV.toN (at_:Int))).n (qr (zV.toN (at_:Int))).g=aC:=by
     rw[hqr];exact WM hg hq rfl
    have e1:aG 4 (Ol B.lv B.N (zW B.T) (zW B.ms) (qr (zV.toN (at_:Int))).placed (qr (zV.toN (at_:Int))).n (qr (zV.toN (at_:Int))).g) (zW (Zp B.lv B.N (zW B.T) (zW B.ms) (qr (zV.toN (at_:Int))).placed (qr (zV.toN (at_:Int))).n (qr (zV.toN (at_:Int))).g))=aG 4 (turns (Gb B) nd).length (zW (nth ((turns (Gb B) nd).map (Gu B.k0)))):=by
     rw[hqr];show aG 4 (Ol B.lv B.N (zW B.T) (zW B.ms) (nd.placed:Nat) B.k0 nd.st) (zW (Zp B.lv B.N (zW B.T) (zW B.ms) (nd.placed:Nat) B.k0 nd.st))=_;rw[KD,WO]
    have e2:zV.Az (Ol B.lv B.N (zW B.T) (zW B.ms) (qr (zV.toN (at_:Int))).placed (qr (zV.toN (at_:Int))).n (qr (zV.toN (at_:Int))).g)=ah (turns (Gb B) nd).length:=by
     rw[hqr];show zV.Az (Ol B.lv B.N (zW B.T) (zW B.ms) (nd.placed:Nat) B.k0 nd.st)=_;rw[KD];rfl
    have hLB:=fun (at' q':Nat) (WL:Nat->RZ) (h:QOK B.k0 o (i+1) at' q' WL) (h2:q'<=100000+o.length)=>
     aoD (H0:=H0) (w0:=w0) (φ:=φ) EZ hg nd hq hm (i:=i+1) (P:=fun o'=>(∀x∈o',Q x)/\(∀r,LM (CP B.k0) (next (Gb B)) m f o' (i+1)=ay r->EH (Gb B) (CP B.k0) B.g0 m=ay r)/\(LM (CP B.k0) (next (Gb B)) m f o' (i+1)=aK->φ aeY))
      (fun o' M' av2 q'' av3 hP hQ' hq' av4 hM'=>loopA EZ hg hm hC f (i+1) o' M' av2 q'' av3 (by omega) hP.1 hQ' hq' av4 hM' hP.2.1 hP.2.2)
      (turns (Gb B) nd).length 0 o M at' q' WL (by omega) h h2 hlo hM (fun o' h=>by
       rw[jc] at h;have h:Fb (CP B.k0) m o (next (Gb B) nd)=ay o':=h;refine ⟨Tq h ho (hg.step nd hq),fun r hb=>hr r ?_,fun hb=>hr0 ?_⟩
       ·simp only[h]
        exact hb
       ·simp only[h]
        exact hb) (fun h=>hr0 (by
       rw[jc] at h;have h:Fb (CP B.k0) m o (next (Gb B) nd)=aK:=h;simp only[h]))
    by_cases hlast:at_+1=q
    ·have hc1:zV.eq (zV.add .i64 (at_:Int) (ah 1)) (zV.Az q)=aC:=by rw[w1,hlast,Ap,Ar];simp
     have nx:=hLB 0 0 (fun _=>default) ⟨by omega,by omega,fun j x hx=>by have:=(aU.1 hx).1;omega⟩ (by omega);refine ED (cZ _ _) (Fg EZ _) (hold:=Bg) (m:=300) (n:=400) (ts:=[⟨39,tdB,LB B (m:Nat) M o.length (nth (o.map (Oq B.k0))) ((0:Nat):Int) 0 (fun _=>default) o.length (nth (o.map (I4 B.k0))) (turns (Gb B) nd).length (nth ((turns (Gb B) nd).map (Gu B.k0))) ((0:Nat):Int),[]⟩,⟨71,Zr,LC B o.length (nth (o.map (I4 B.k0))) (fun _=>aK) (o.length:Nat) 0,Oo B⟩]) ?_;exact UY zV W7 B hs lv _ M _ (nth (o.map (Oq B.k0))) _ q qr _ (nth (o.map (I4 B.k0))) _ 0 (fun _=>default) _ _ _ _ _ (c0:=ak) (c1:=aC) ne hc1 rfl (fun _=>inb) (fun _ _ _=>htu) (fun _ q=>by cases q)
      (fun q=>by cases q) (fun _ _ q=>by cases q) (fun _ _ _=>⟨⟨rfl,rfl,rfl,rfl,e1,e2,rfl,rfl,rfl,rfl,rfl,rfl,fun _ _=>rfl,rfl,rfl,fun _ _=>rfl,trivial⟩,_,rfl,nx⟩) (fun _ q=>by cases q) (fun _ q=>by cases q)
    ·have hc1:zV.eq (zV.add .i64 (at_:Int) (ah 1)) (zV.Az q)=ak:=by
      rw[w1,Ap,Ar,beq_eq_false_iff_ne];intro e;exact hlast (kT e)
     have nx:=hLB (at_+1) q (fun j=>if j=at_ then ⟨0,0,0,fun _=>[]⟩ else qr j) ⟨by omega,by omega,fun j x hx=>by
      show (if at_+1+j=at_ then _ else qr (at_+1+j))=_;rw[if_neg (by omega)];have:=hQ.row (j+1) x (by rw[show i+(j+1)=i+1+j by omega];exact hx);rw[show at_+1+j=at_+(j+1) by omega];exact this⟩ hq2
     refine ED (cZ _ _) (Fg EZ _) (hold:=Bg) (m:=300) (n:=400) (ts:=[⟨39,tdB,LB B (m:Nat) M o.length (nth (o.map (Oq B.k0))) ((at_+1:Nat):Int) q (fun j=>if j=at_ then ⟨0,0,0,fun _=>[]⟩ else qr j) o.length (nth (o.map (I4 B.k0))) (turns (Gb B) nd).length (nth ((turns (Gb B) nd).map (Gu B.k0))) ((0:Nat):Int),[]⟩,⟨71,Zr,LC B o.length (nth (o.map (I4 B.k0))) (fun _=>aK) (o.length:Nat) 0,Oo B⟩]) ?_;refine UY zV W7 B hs lv _ M _ (nth (o.map (Oq B.k0))) _ q qr _ (nth (o.map (I4 B.k0))) _ q _ _ _ _ _ _ (c0:=ak) (c1:=ak) ne hc1 rfl (fun _=>inb) (fun _ q=>by cases q) (fun _ _ _=>htu)
      (fun q=>by cases q) (fun _ q=>by cases q) (fun _ q=>by cases q) (fun _ _ q=>by cases q) (fun _ _ _=>⟨⟨rfl,rfl,rfl,rfl,e1,e2,rfl,rfl,rfl,rfl,w1,rfl,fun _ _=>rfl,rfl,fun j hj=>?_,rfl,fun _ _=>rfl,trivial⟩,_,rfl,nx⟩)
     show (if j=at_ then (zW qr j).take 0++[aW .i64 (ah 0),aG 0 0 fun _=>[]]++(zW qr j).drop (0+2) else zW qr j)=Row.put (if j=at_ then (⟨0,0,0,fun _=>[]⟩:RZ) else qr j);split
     ·rfl
     ·rfl
end
end Go.Proofs
namespace Go.Pl
open Go Go.Sx Go.Proofs
structure UZ where
 okb:Bool
 Ih:Bool
 pos:Int
 e:Nat
 n:Nat
 T:Nat->D8
noncomputable def ar7(s h:Sh):Bool:=@decide (s=h) (bD _)
def WQ(st lv:Int):Bool:=if lv=1\/lv=2 then st==3||st==2 else lv==3
def reB(en bg:Int):Bool:=decide (0<=en)&&decide (en<bg)
def Hq(lv:Int)(n:Nat)(T:Nat->D8):List D8:=((aX n).map T).filter fun t=>WQ t.st lv
def O5(lv bg:Int):Nat->List D8->Nat->Nat
 |_,[],m=>m |i,a::l,m=>O5 lv bg (i+1) l (if lv≠1/\reB a.en bg=aC then m|||1<<<i else m)
def mkI(lv:Int)(l:List D8)(k:Nat):Int:=(O5 lv (nth l k).bg 0 l 0:Nat)
noncomputable def mkP(lv:Int)(n:Nat)(T:Nat->List Sh):Bool:=okB D8 n T&&(decide (1<=lv)&&(decide (lv<=3)&&decide (n<=62)))
def mkN(lv:Int)(n:Nat)(T:Nat->List Sh):Nat:=(Hq lv n (zY T)).length
def mkR(lv:Int)(n:Nat)(T:Nat->List Sh):Nat->Int:=mkI lv (Hq lv n (zY T))
def nwB(n:Nat)(g:Nat->List Sh):Bool:=okB Oj n g&&(Qd n (zY g)&&(!RI n&&Nh n (zY g)))
def Hr(g:Nat->List Sh):Nat->List Sh:=BX (newT (zY g))
end Go.Pl
namespace Go.Proofs
open Go Go.Sx Go.Pl
noncomputable def D20(hs:Sh)(B:UZ):List Sh->Tree Sh
 |[s]=>.need (ar7 s hs) (.node B.okb (.leaf (.Aj [.sl 7 B.n (zW B.T),.v .nilIface]))
   (.node B.Ih (.leaf (.Aj [.sl 0 0 (fun _=>[]),.CG 109 (.pt [.i .i64 B.pos,.er B.e 329])])) (.leaf (.Aj [.sl 0 0 (fun _=>[]),.er B.e 329]))))
 |_=>.fail
noncomputable def D73:List Sh->Tree Sh
 |[.agg l,t]=>match Row.get (α:=D8) l,AZ t with
  |some x,ay lv=>.leaf (.b (WQ x.st lv)) |_,_=>.fail
 |_=>.fail
noncomputable def D94:List Sh->Tree Sh
 |[.agg l,.agg r]=>match Row.get (α:=D8) l,Row.get (α:=D8) r with
  |some x,ay y=>.leaf (.b (reB x.en y.bg)) |_,_=>.fail
 |_=>.fail
noncomputable def D74:List Sh->Tree Sh
 |[s,t]=>match DJ 7 s,AZ t with
  |some (n,T),ay lv=>.need (mkP lv n T) (.leaf (.Aj [.sl 1 (mkN lv n T) (zW (mkR lv n T)),.v .nilIface])) |_,_=>.fail
 |_=>.fail
noncomputable def D75:List Sh->Tree Sh
 |[s]=>match DJ 2 s with
  |some (n,g)=>.need (nwB n g) (.leaf (.Aj [.agg [.sl 4 n (Hr g)],.v .nilIface])) |none=>.fail
 |_=>.fail
noncomputable def Qp(hs:Sh)(B:UZ):Nat->Option (List Sh->Tree Sh)
 |20=>ay (D20 hs B) |73=>ay D73 |74=>ay D74 |75=>ay D75 |_=>aK
noncomputable def Io:Nat->Option (List Sh->Tree Sh)
 |73=>ay D73 |94=>ay D94 |_=>aK
def Y4:List It:=[bF [0,1,0,1,1,1,1,1],dA 0,bF [1,1,1,1,1,1]]
def aoE:List It:=bF [0,0,1,0,1,1,1,1,1]::Y4
def Y5(o m:Nat)(og mg:Nat->List Sh)(lv:Int)(n:Nat)(T:Nat->D8)(c:Nat)(cr:Nat->D8)(i:Int):Core:=
 {tm:=Gs 71 [(1,.sym .i64 lv),(2,.ptr 0 0),(6,.sh (.sl 7 n (zW T))),(8,.ptr 1 0),(26,.sh (.sl 7 n (zW T))),(27,.sym .i64 (n:Int)),(28,.sym .i64 i)],hp:=[(0,.box [.sh (.sl 2 o og),.sh (.sl 8 m mg)] 25),(1,.box [.sym .i64 lv,.gs 2,.Aw,.Aw] 102),(2,.own 115 7 c (zW cr))],nx:=3,lim:=L0,tc:=[]}
def Y6:List It:=[bF [0,1,0,1,1,1],dA 0,bF [1,1,1,1]]
def aoF:List It:=bF [0,0,1,0,1,1,1]::Y6
def Y7(lv:Int)(n:Nat)(T:Nat->D8)(c:Nat)(cr:Nat->D8)(i:Int):Core:=
 {tm:=Gs 74 [(1,.sym .i64 lv),(6,.gs 0),(21,.sh (.sl 7 n (zW T))),(22,.sym .i64 (n:Int)),(23,.sym .i64 i)],hp:=[(0,.own 115 7 c (zW cr))],nx:=1,lim:=L0,tc:=[]}
def Lc:List It:=[bF [0,1,0,1,1,1,1,1,1],dA 2,bF [1,1,1,1,1,1,1]]
def ai2:List It:=bF [0,0,1,0,1,1,1,1,1,1]::Lc
def QF(lv:Int)(c:Nat)(cr:Nat->D8)(n:Nat)(o:Nat->Int)(k:Int):Core:=
 {tm:=Gs 74 [(1,.sym .i64 lv),(6,.gs 0),(9,.gs 1),(42,.gs 0),(43,.sym .i64 (c:Int)),(44,.sym .i64 k)],hp:=[(0,.own 115 7 c (zW cr)),(1,.own 3 1 n (zW o))],nx:=2,lim:=L0,tc:=[]}
def Ot:List It:=[bF [0,1,1,0,0,1,1,0,0,1,0,1,1,1,1,1,1],dA 4,dA 3,bF [1,1,1,0,0,1,0,1,1,1,1,1,1],bF [0,1,0,1,1,1,1,1,1],dA 2,bF [1,1,1,1,1,1,1]]
def ai3:List It:=bF [0,0,1,1,0,0,1,1,0,0,1,0,1,1,1,1,1,1]::Ot
def Ua(lv:Int)(c:Nat)(cr:Nat->D8)(n:Nat)(o:Nat->Int)(k:Int)(b:D8)(i:Int):Core:=
 {tm:=Gs 74 [(1,.sym .i64 lv),(6,.gs 0),(9,.gs 1),(10,.sym .i64 k),(11,.ptr 2 0),(42,.gs 0),(43,.sym .i64 (c:Int)),(44,.sym .i64 k),(49,.gs 0),(50,.sym .i64 (c:Int)),(51,.sym .i64 i)],hp:=[(0,.own 115 7 c (zW cr)),(1,.own 3 1 n (zW o)),(2,.box [.sym .i64 b.id,.sym .i64 b.th,.sym .i64 b.st,.sym .i64 b.bg,.sym .i64 b.en,.sym .i64 b.tr,.sh (.sl 8 b.k b.g)] 115)],nx:=3,lim:=L0,tc:=[]}
theorem ai4(A:Prim)(W:Wd)(B:UZ)(lv:Int)(o m:Nat)(og mg:Nat->List Sh)(cr:Nat->D8)(i':Int){ψ:D7->Prop}{c0 c1 c2:Bool}(e0:B.okb=c0)(e1:A.lt (ah 12) (A.Az B.n)=c1)(e2:B.Ih=c2)(h1:(ar7 (bM [aG 2 o og,aG 8 m mg]) (bM [aG 2 o og,aG 8 m mg]))=aC)(y1:c0=aC->c1=aC->ψ (aO (cO [jB (gB aK),aZ 1 329])))(y2:c0=aC->c1=ak->ψ (bJ 0 [aj lv lv,aP (aG 7 B.n (zW B.T)) (aG 7 B.n (zW B.T)),aP (aG 7 B.n (zW B.T)) (aG 7 B.n (zW B.T)),aj (A.Az B.n) (ah B.n),aj (ah 0) i',aP (aG 2 o og) (aG 2 o og),aP (aG 8 m mg) (aG 8 m mg),aj lv lv,aJ 0 0]))(y3:c0=ak->c2=aC->ψ (aO (cO [jB (gB aK),Sh.CG 109 (sU [aW .i64 B.pos,aZ B.e 329])])))(y4:c0=ak->c2=ak->ψ (aO (cO [jB (gB aK),aZ B.e 329]))):Cb ψ (AP (C7 A W (Qp (.agg [.sl 2 o og,.sl 8 m mg]) B) Am) Bg 300 400 40 [.code []] (zZ 71 [.agg [.sl 2 o og,.sl 8 m mg],.i .i64 lv] L0) [] [⟨40,Y4,Y5 o m og mg lv B.n B.T 0 cr i',[]⟩]):=by
 subst e0 e1 e2;exact Gf (an h1 (an (fun q0=>an (y1 q0) (y2 q0)) (fun q0=>an (y3 q0) (y4 q0)))) (by kernel_rfl)
theorem U0(A:Prim)(W:Wd)(hs:Sh)(B:UZ)(lv:Int)(o m:Nat)(og mg:Nat->List Sh)(n:Nat)(T:Nat->D8)(c c':Nat)(cr Qn:Nat->D8)(i i':Int){ψ:D7->Prop}{c0 c1:Bool}(e0:A.lt i (ah n)=c0)(e1:WQ (T (A.toN i)).st lv=c1)(h1:c0=aC->(A.inB i n)=aC)(h2:c0=aC->c1=aC->(A.room (A.addN c 1) 72)=aC)(h3:c0=ak->(mkP lv n (zW T))=aC)(h4:c0=ak->(nwB o og)=aC)(y1:c0=aC->c1=aC->ψ (bJ 0 [aj lv lv,aP (aG 7 n (zW T)) (aG 7 n (zW T)),aP (aG 7 n (zW T)) (aG 7 n (zW T)),aj (ah n) (ah n),aj (A.add .i64 i (ah 1)) i',aP (aG 2 o og) (aG 2 o og),aP (aG 8 m mg) (aG 8 m mg),aj lv lv,aJ (A.addN c 1) c',aS (A.addN c 1) (A.snoc (zW cr) c (AQ [[aW .i64 (T (A.toN i)).id,aW .i64 (T (A.toN i)).th,aW .i64 (T (A.toN i)).st,aW .i64 (T (A.toN i)).bg,aW .i64 (T (A.toN i)).en,aW .i64 (T (A.toN i)).tr,aG 8 (T (A.toN i)).k (T (A.toN i)).g]])) (zW Qn)]))(y2:c0=aC->c1=ak->ψ (bJ 0 [aj lv lv,aP (aG 7 n (zW T)) (aG 7 n (zW T)),aP (aG 7 n (zW T)) (aG 7 n (zW T)),aj (ah n) (ah n),aj (A.add .i64 i (ah 1)) i',aP (aG 2 o og) (aG 2 o og),aP (aG 8 m mg) (aG 8 m mg),aj lv lv,aJ c c',aS c (zW cr) (zW Qn)]))(y3:c0=ak->ψ (aO (cO [sU [aW .i64 lv,aG 7 c (zW cr),aG 1 (mkN lv n (zW T)) (zW (mkR lv n (zW T))),aG 4 o (Hr og)],jB bI]))):Cb ψ (AP (C7 A W (Qp hs B) Am) Bg 300 400 40 aoE (Y5 o m og mg lv n T c cr i) [] [⟨40,Y4,Y5 o m og mg lv n T c' Qn i',[]⟩]):=by
 subst e0 e1;exact aok (by kernel_rfl) (an (fun q0=>an (h1 q0) (an (fun q1=>an (h2 q0 q1) (an (h2 q0 q1) (y1 q0 q1))) (y2 q0))) (fun q0=>an (h3 q0) (an (h4 q0) (y3 q0)))) (by kernel_rfl)
theorem ai5(A:Prim)(W:Wd)(lv:Int)(n:Nat)(T:Nat->D8)(Qn:Nat->D8)(i':Int){ψ:D7->Prop}{c0 c1:Bool}(e0:A.lt lv (ah 1)=c0)(e1:A.lt (ah 3) lv=c1)(y1:c0=aC->ψ (aO (cO [aG 0 0 fun _=>[],aZ 2 329])))(y2:c0=ak->c1=aC->ψ (aO (cO [aG 0 0 fun _=>[],aZ 2 329])))(y3:c0=ak->c1=ak->ψ (bJ 0 [aj lv lv,aP (aG 7 n (zW T)) (aG 7 n (zW T)),aj (A.Az n) (ah n),aj (ah 0) i',aJ 0 0])):Cb ψ (AP (C7 A W Io Am) Bg 300 400 74 [.code []] (zZ 74 [.sl 7 n (zW T),.i .i64 lv] L0) [] [⟨74,Y6,Y7 lv n T 0 Qn i',[]⟩]):=by
 subst e0 e1;exact Gf (an y1 (fun q0=>an (y2 q0) (y3 q0))) (by kernel_rfl)
theorem U1(A:Prim)(W:Wd)(lv:Int)(n:Nat)(T:Nat->D8)(c c':Nat)(cr Qn:Nat->D8)(i i':Int)(m':Nat)(o':Nat->Int){ψ:D7->Prop}{c0 c1 c2:Bool}(e0:A.lt i (ah n)=c0)(e1:WQ (T (A.toN i)).st lv=c1)(e2:A.lt (ah 62) (A.Az c)=c2)(h1:c0=aC->(A.inB i n)=aC)(h2:c0=aC->c1=aC->(A.room (A.addN c 1) 72)=aC)(h3:c0=ak->c2=ak->(A.le (ah 0) (A.Az c))=aC)(h4:c0=ak->c2=ak->(A.room (A.toN (A.Az c)) 8)=aC)(y1:c0=aC->c1=aC->ψ (bJ 0 [aj lv lv,aP (aG 7 n (zW T)) (aG 7 n (zW T)),aj (ah n) (ah n),aj (A.add .i64 i (ah 1)) i',aJ (A.addN c 1) c',aS (A.addN c 1) (A.snoc (zW cr) c (AQ [[aW .i64 (T (A.toN i)).id,aW .i64 (T (A.toN i)).th,aW .i64 (T (A.toN i)).st,aW .i64 (T (A.toN i)).bg,aW .i64 (T (A.toN i)).en,aW .i64 (T (A.toN i)).tr,aG 8 (T (A.toN i)).k (T (A.toN i)).g]])) (zW Qn)]))(y2:c0=aC->c1=ak->ψ (bJ 0 [aj lv lv,aP (aG 7 n (zW T)) (aG 7 n (zW T)),aj (ah n) (ah n),aj (A.add .i64 i (ah 1)) i',aJ c c',aS c (zW cr) (zW Qn)]))(y3:c0=ak->c2=aC->ψ (aO (cO [aG 0 0 fun _=>[],aZ 1 329])))(y4:c0=ak->c2=ak->ψ (bJ 1 [aj lv lv,aj (A.Az c) (ah c),aj (ah 0) (ah 0),aJ c c,aS c (zW cr) (zW cr),aJ (A.toN (A.Az c)) m',aS (A.toN (A.Az c)) (fun (x:Nat)=>[aW .i64 (ah 0)]) (zW o')])):Cb ψ (AP (C7 A W Io Am) Bg 300 400 74 aoF (Y7 lv n T c cr i) [] [⟨74,Y6,Y7 lv n T c' Qn i',[]⟩,⟨74,Lc,QF lv c cr m' o' 0,[]⟩]):=by
 subst e0 e1 e2;exact Gf (an (fun q0=>an (h1 q0) (an (fun q1=>an (h2 q0 q1) (y1 q0 q1)) (y2 q0))) (fun q0=>an (y3 q0) (fun q1=>an (h3 q0 q1) (an (h4 q0 q1) (y4 q0 q1))))) (by kernel_rfl)
theorem abG(A:Prim)(W:Wd)(lv:Int)(c:Nat)(cr:Nat->D8)(n:Nat)(o:Nat->Int)(k:Int)(b:D8){ψ:D7->Prop}{c0:Bool}(e0:A.lt k (ah c)=c0)(h1:c0=aC->(A.inB k c)=aC)(y1:c0=aC->ψ (bJ 0 [aj lv lv,aj k k,aj (ah c) (ah c),aj k k,aj (A.Az c) (ah c),aj (ah 0) (ah 0),aJ c c,aS c (zW cr) (zW cr),aJ n n,aS n (zW o) (zW o),aj (cr (A.toN k)).id b.id,aj (cr (A.toN k)).th b.th,aj (cr (A.toN k)).st b.st,aj (cr (A.toN k)).bg b.bg,aj (cr (A.toN k)).en b.en,aj (cr (A.toN k)).tr b.tr,aP (aG 8 (cr (A.toN k)).k (cr (A.toN k)).g) (aG 8 b.k b.g)]))(y2:c0=ak->ψ (aO (cO [Sh.os 3 1 n (zW o),jB bI]))):Cb ψ (AP (C7 A W Io Am) Bg 300 400 74 ai2 (QF lv c cr n o k) [] [⟨74,Ot,Ua lv c cr n o k b 0,[]⟩]):=by
 subst e0;exact Gf (an (fun q0=>an (h1 q0) (y1 q0)) y2) (by kernel_rfl)
theorem U2(A:Prim)(W:Wd)(lv:Int)(c:Nat)(cr:Nat->D8)(n:Nat)(o o':Nat->Int)(k k':Int)(b:D8)(i i':Int){ψ:D7->Prop}{c0 c1 c2:Bool}(e0:A.lt i (ah c)=c0)(e1:A.nt (A.eq lv (ah 1))=c1)(e2:reB (cr (A.toN i)).en b.bg=c2)(h1:c0=aC->(A.inB i c)=aC)(h2:c0=aC->c1=aC->c2=aC->(A.inB k n)=aC)(h3:c0=aC->c1=aC->c2=aC->(A.le (ah 0) i)=aC)(y1:c0=aC->c1=aC->c2=aC->ψ (bJ 0 [aj lv lv,aj k k,aj (ah c) (ah c),aj k k,aj (ah c) (ah c),aj (A.add .i64 i (ah 1)) i',aJ c c,aS c (zW cr) (zW cr),aJ n n,aS n (A.upd (zW o) (A.toN k) 0 [aW .i64 (A.bin BinOp.or aT (o (A.toN k)) (A.bin ig aT (ah 1) i))]) (zW o'),aj b.id b.id,aj b.th b.th,aj b.st b.st,aj b.bg b.bg,aj b.en b.en,aj b.tr b.tr,aP (aG 8 b.k b.g) (aG 8 b.k b.g)]))(y2:c0=aC->c1=aC->c2=ak->ψ (bJ 0 [aj lv lv,aj k k,aj (ah c) (ah c),aj k k,aj (ah c) (ah c),aj (A.add .i64 i (ah 1)) i',aJ c c,aS c (zW cr) (zW cr),aJ n n,aS n (zW o) (zW o'),aj b.id b.id,aj b.th b.th,aj b.st b.st,aj b.bg b.bg,aj b.en b.en,aj b.tr b.tr,aP (aG 8 b.k b.g) (aG 8 b.k b.g)]))(y3:c0=aC->c1=ak->ψ (bJ 0 [aj lv lv,aj k k,aj (ah c) (ah c),aj k k,aj (ah c) (ah c),aj (A.add .i64 i (ah 1)) i',aJ c c,aS c (zW cr) (zW cr),aJ n n,aS n (zW o) (zW o'),aj b.id b.id,aj b.th b.th,aj b.st b.st,aj b.bg b.bg,aj b.en b.en,aj b.tr b.tr,aP (aG 8 b.k b.g) (aG 8 b.k b.g)]))(y4:c0=ak->ψ (bJ 1 [aj lv lv,aj (ah c) (ah c),aj (A.add .i64 k (ah 1)) k',aJ c c,aS c (zW cr) (zW cr),aJ n n,aS n (zW o) (zW o)])):Cb ψ (AP (C7 A W Io Am) Bg 300 400 74 ai3 (Ua lv c cr n o k b i) [] [⟨74,Ot,Ua lv c cr n o' k b i',[]⟩,⟨74,Lc,QF lv c cr n o k',[]⟩]):=by
 subst e0 e1 e2;exact Gf (an (fun q0=>an (h1 q0) (an (fun q1=>an (fun q2=>an (h2 q0 q1 q2) (an (h3 q0 q1 q2) (an (h2 q0 q1 q2) (y1 q0 q1 q2)))) (y2 q0 q1)) (y3 q0))) y4) (by kernel_rfl)
theorem ai6(A:Prim)(W:Wd)(t:D8)(lv:Int){ψ:D7->Prop}{c0 c1 c2:Bool}(e0:A.eq lv (ah 1)=c0)(e1:A.eq t.st (ah 3)=c1)(e2:A.eq lv (ah 2)=c2)(y1:c0=aC->c1=aC->ψ (aO (eP aC)))(y2:c0=aC->c1=ak->ψ (aO (eP (A.eq t.st (ah 2)))))(y3:c0=ak->c2=aC->c1=aC->ψ (aO (eP aC)))(y4:c0=ak->c2=aC->c1=ak->ψ (aO (eP (A.eq t.st (ah 2)))))(y5:c0=ak->c2=ak->ψ (aO (eP (A.eq lv (ah 3))))):Cb ψ (AP (C7 A W noSpec Am) Bg 300 400 73 [.code []] (zZ 19 [.agg [.i .i64 t.id,.i .i64 t.th,.i .i64 t.st,.i .i64 t.bg,.i .i64 t.en,.i .i64 t.tr,.sl 8 t.k t.g],.i .i64 lv] L0) [] []):=by
 subst e0 e1 e2;exact Gf (an (fun q0=>an (y1 q0) (y2 q0)) (fun q0=>an (fun q1=>an (y3 q0 q1) (y4 q0 q1)) (y5 q0))) (by kernel_rfl)
theorem ai7(A:Prim)(W:Wd)(t u:D8){ψ:D7->Prop}{c0:Bool}(e0:A.le (ah 0) t.en=c0)(y1:c0=aC->ψ (aO (eP (A.lt t.en u.bg))))(y2:c0=ak->ψ (aO (eP ak))):Cb ψ (AP (C7 A W noSpec Am) Bg 300 400 94 [.code []] (zZ 15 [.agg [.i .i64 t.id,.i .i64 t.th,.i .i64 t.st,.i .i64 t.bg,.i .i64 t.en,.i .i64 t.tr,.sl 8 t.k t.g],.agg [.i .i64 u.id,.i .i64 u.th,.i .i64 u.st,.i .i64 u.bg,.i .i64 u.en,.i .i64 u.tr,.sl 8 u.k u.g]] L0) [] []):=by
 subst e0;exact Gf (an y1 y2) (by kernel_rfl)
end Go.Proofs
namespace Go.Pl
open Go Go.Sx Go.Proofs
def ctF(lv:Int)(T:Nat->D8)(i r:Nat):List D8:=((aX r).map fun j=>T (i+j)).filter fun t=>WQ t.st lv
theorem adE(lv:Int)(T:Nat->D8)(i r:Nat):ctF lv T i (r+1)=(if WQ (T i).st lv=aC then [T i] else [])++ctF lv T (i+1) r:=by
 unfold ctF;rw[qN,jk,pJ,List.filter_cons];have:((fun j=>T (i+j)) ∘ Nat.succ)=fun j=>T (i+1+j):=by
  funext j;show T (i+(j+1))=T (i+1+j);congr 1;omega
 rw[this,jv];by_cases h:WQ (T i).st lv=aC
 ·rw[if_pos h,if_pos h];rfl
 ·rw[if_neg h,if_neg h];rfl
theorem ahc(lv:Int)(T:Nat->D8)(n:Nat):ctF lv T 0 n=Hq lv n T:=by
 unfold ctF Hq;simp
theorem akv(lv:Int)(n:Nat)(T:Nat->D8):(Hq lv n T).length<=n:=by
 unfold Hq;have:=List.length_filter_le (fun t:D8=>WQ t.st lv) ((aX n).map T);rw[dY,nO] at this;exact this
theorem ahd{lv bg:Int}:∀(l:List D8) (i m N:Nat),m<2^N->i+l.length<=N->O5 lv bg i l m<2^N
 |[],i,m,N,h,_=>h |a::l,i,m,N,h,hl=>by
  rw[O5];refine ahd l (i+1) _ N ?_ (by simp at hl;omega);split
  ·refine oW h ?_
   rw[lZ,iF];exact jw (by decide) (by simp at hl;omega)
  ·exact h
end Go.Pl
namespace Go.Proofs
open Go Go.Sx Go.Pl
section
variable{H0:Mem}{w0:World}{φ:Sh->Prop}
theorem Qq(FC:Aq aB (AY W7) 73 D73)(FZ:Aq aB (AY W7) 94 D94)(stop:Nat->List Nat->Bool):Bz aB (C7 zV W7 Io stop):=lQ (fun g F h=>by
 unfold Io at h;split at h
 ·cases h;exact FC
 ·cases h;exact FZ
 ·cases h) fun g h=>by
 unfold Io at h;split at h;all_goals first|(cases h;done) |kernel_rfl
theorem aoG{o:Nat->Int}{k:Nat}{v:Int}:∀j,zV.upd (zW o) k 0 [aW .i64 v] j=zW (fun j=>if j=k then v else o j) j:=fun j=>by
 show (if j=k then (zW o j).take 0++[aW .i64 v]++(zW o j).drop (0+1) else zW o j)=Row.put (if j=k then v else o j);split
 ·rfl
 ·rfl
variable{lv:Int}{l:List D8}
theorem ahe(FC:Aq aB (AY W7) 73 D73)(FZ:Aq aB (AY W7) 94 D94)(hl:l.length<=62){k:Nat}(hk:k<l.length){b:D8}:
  ∀r i (o:Nat->Int) (m:Nat),i+r=l.length->o k=(m:Nat)->m<2^62->
  (Bc aB (C7 zV W7 Io Am) (K0 H0 w0) 74 Lc (QF lv l.length (nth l) l.length (fun j=>if j=k then (O5 lv b.bg i (l.drop i) m:Nat) else o j) ((k+1:Nat):Int)) [] emp (up φ))->
  Bc aB (C7 zV W7 Io Am) (K0 H0 w0) 74 Ot (Ua lv l.length (nth l) l.length o (k:Nat) b (i:Nat)) [] emp (up φ)
 |0,i,o,m,hi,ho,hm,nx=>by
  refine Gq (fn:=lF) (tb:=ai3) (by kernel_rfl) (by kernel_rfl) ?_;have lt {P:Prop} (h:zV.lt (i:Int) (ah l.length)=aC):P:=by simp[Aa] at h;omega
  have w1:zV.add .i64 (k:Int) (ah 1)=((k+1:Nat):Int):=add1 (by omega);have e:(fun j=>if j=k then ((O5 lv b.bg i (l.drop i) m:Nat):Int) else o j)=o:=by
   funext j;rw[jL (by omega),O5];split
   ·rename_i h;rw[h,ho]
   ·rfl
  rw[e] at nx;refine ED (cZ _ _) (Qq FC FZ _) (hold:=Bg) (m:=300) (n:=400) (ts:=[⟨74,Ot,Ua lv l.length (nth l) l.length o (k:Nat) b 0,[]⟩,⟨74,Lc,QF lv l.length (nth l) l.length o ((k+1:Nat):Int),[]⟩]) ?_;exact U2 zV W7 lv _ (nth l) _ o o k _ b i 0 rfl rfl rfl (fun q=>lt q) (fun q=>lt q) (fun q=>lt q) (fun q=>lt q) (fun q=>lt q) (fun q=>lt q)
   (fun _=>⟨⟨rfl,rfl,w1,rfl,fun _ _=>rfl,rfl,fun _ _=>rfl,trivial⟩,_,rfl,nx⟩)
 |r+1,i,o,m,hi,ho,hm,nx=>by
  obtain ⟨a,ha⟩:∃a,l[i]?=ay a:=⟨_,aV (by omega)⟩;have hd:l.drop i=a::l.drop (i+1):=by
   rw[iM (by omega)];congr 1;rw[aV (by omega)] at ha;exact dD ha
  have hna:nth l (zV.toN (i:Int))=a:=by
   show nth l i=a;unfold nth;rw[aY,ha];rfl
  rw[hd,O5] at nx;refine Gq (fn:=lF) (tb:=ai3) (by kernel_rfl) (by kernel_rfl) ?_;have w1:zV.add .i64 (i:Int) (ah 1)=((i+1:Nat):Int):=add1 (by omega);have no {P:Prop} (h:zV.lt (i:Int) (ah l.length)=ak):P:=by simp[Aa] at h;omega
  have inb:zV.inB (i:Int) l.length=aC:=by rw[Bj,decide_eq_true_eq];omega
  have ar8:zV.inB (k:Int) l.length=aC:=by rw[Bj,decide_eq_true_eq];omega
  have le0:zV.le (ah 0) (i:Int)=aC:=by simp[Dw]
  have hc1:zV.nt (zV.eq lv (ah 1))=decide (lv≠1):=by
   rw[BP,Ap];by_cases h:lv=1
   ·subst h;rfl
   ·rw[decide_eq_true h]
    have:(lv==ah 1)=ak:=beq_eq_false_iff_ne.2 h;rw[this];rfl
  have step (m':Nat) (hm':m'<2^62) (o':Nat->Int) (h1:o'=fun j=>if j=k then (m':Int) else o j)
    (h2:(if lv≠1/\reB a.en b.bg=aC then m|||1<<<i else m)=m'):=ahe FC FZ hl hk r (i+1) o' m' (by omega) (by rw[h1];simp) hm' (b:=b) (by
     rw[h2] at nx;have e:(fun j=>if j=k then ((O5 lv b.bg (i+1) (l.drop (i+1)) m':Nat):Int) else o' j)=fun j=>if j=k then ((O5 lv b.bg (i+1) (l.drop (i+1)) m':Nat):Int) else o j:=by
      funext j;rw[h1];split
      ·rfl
      ·rename_i hj;simp[hj]
     rw[e];exact nx)
  have same:(fun j=>if j=k then ((m:Nat):Int) else o j)=o:=by
   funext j;split
   ·rename_i h;rw[h,ho]
   ·rfl
  by_cases hc:lv≠1/\reB a.en b.bg=aC
  ·have st:=step (m|||1<<<i) (oW hm (by rw[lZ,iF];exact jw (by decide) (by omega))) _ rfl (if_pos hc)
   refine ED (cZ _ _) (Qq FC FZ _) (hold:=Bg) (m:=300) (n:=400) (ts:=[⟨74,Ot,Ua lv l.length (nth l) l.length (fun j=>if j=k then ((m|||1<<<i:Nat):Int) else o j) (k:Nat) b ((i+1:Nat):Int),[]⟩,⟨74,Lc,QF lv l.length (nth l) l.length o 0,[]⟩]) ?_;refine U2 zV W7 lv _ (nth l) _ o _ k _ b i _ (c1:=aC) (c2:=aC) rfl (by rw[hc1];exact decide_eq_true hc.1) (by rw[hna];exact hc.2) (fun _=>inb) (fun _ _ _=>ar8) (fun _ _ _=>le0)
    (fun _ _ _=>⟨⟨rfl,rfl,rfl,rfl,rfl,w1,rfl,fun _ _=>rfl,rfl,fun j hj=>?_,rfl,rfl,rfl,rfl,rfl,rfl,rfl,trivial⟩,_,rfl,st⟩) (fun _ _ q=>by cases q) (fun _ q=>by cases q) (fun q=>no q)
   have e:zV.bin .or .i64 (o (zV.toN (k:Int))) (zV.bin .shl .i64 (ah 1) (i:Int))=((m|||1<<<i:Nat):Int):=by
    show zV.bin .or .i64 (o k) _=_;rw[ho];exact or_eq (by omega) (by omega)
   rw[e];exact aoG j
  ·have st:=step m hm o same.symm (if_neg hc)
   refine ED (cZ _ _) (Qq FC FZ _) (hold:=Bg) (m:=300) (n:=400) (ts:=[⟨74,Ot,Ua lv l.length (nth l) l.length o (k:Nat) b ((i+1:Nat):Int),[]⟩,⟨74,Lc,QF lv l.length (nth l) l.length o 0,[]⟩]) ?_;have fin:=(⟨⟨rfl,rfl,rfl,rfl,rfl,w1,rfl,fun _ _=>rfl,rfl,fun _ _=>rfl,rfl,rfl,rfl,rfl,rfl,rfl,rfl,trivial⟩,_,rfl,st⟩:Jw aB (C7 zV W7 Io Am) (K0 H0 w0) [⟨74,Ot,Ua lv l.length (nth l) l.length o (k:Nat) b ((i+1:Nat):Int),[]⟩,⟨74,Lc,QF lv l.length (nth l) l.length o 0,[]⟩] emp (up φ) (bJ 0 [aj lv lv,aj k k,aj (ah l.length) (ah l.length),aj k k,aj (ah l.length) (ah l.length),aj (zV.add .i64 i (ah 1)) ((i+1:Nat):Int),aJ l.length l.length,aS l.length (zW (nth l)) (zW (nth l)),aJ l.length l.length,aS l.length (zW o) (zW o),aj b.id b.id,aj b.th b.th,aj b.st b.st,aj b.bg b.bg,aj b.en b.en,aj b.tr b.tr,aP (aG 8 b.k b.g) (aG 8 b.k b.g)]));exact U2 zV W7 lv _ (nth l) _ o _ k _ b i _ rfl rfl rfl (fun _=>inb) (fun _ _ _=>ar8) (fun _ _ _=>le0)
    (fun _ q1 q2=>(hc ⟨of_decide_eq_true (hc1.symm.trans q1),by rw[hna] at q2;exact q2⟩).elim) (fun _ _ _=>fin) (fun _ _=>fin) (fun q=>no q)
theorem ahf(FC:Aq aB (AY W7) 73 D73)(FZ:Aq aB (AY W7) 94 D94)(hl:l.length<=62)(hφ:φ (.Aj [.sl 1 l.length (zW (mkI lv l)),.v .nilIface])):
  ∀r k (o:Nat->Int),k+r=l.length->(∀j,j<k->o j=mkI lv l j)->(∀j,k<=j->o j=0)->
  Bc aB (C7 zV W7 Io Am) (K0 H0 w0) 74 Lc (QF lv l.length (nth l) l.length o (k:Nat)) [] emp (up φ)
 |0,k,o,hk,ho,ho2=>by
  refine Gq (fn:=lF) (tb:=ai2) (by kernel_rfl) (by kernel_rfl) ?_;have lt {P:Prop} (h:zV.lt (k:Int) (ah l.length)=aC):P:=by simp[Aa] at h;omega
  refine ED (cZ _ _) (Qq FC FZ _) (hold:=Bg) (m:=300) (n:=400) (ts:=[⟨74,Ot,Ua lv l.length (nth l) l.length o (k:Nat) default 0,[]⟩]) ?_;refine abG zV W7 lv _ (nth l) _ o k default rfl (fun q=>lt q) (fun q=>lt q) (fun _=>?_);refine BH (s':=.Aj [.sl 1 l.length (zW (mkI lv l)),.v .nilIface]) ⟨.inr ⟨rfl,rfl,fun j hj=>?_⟩,rfl,trivial⟩ hφ;show Row.put (o j)=Row.put (mkI lv l j);rw[ho j (by omega)]
 |r+1,k,o,hk,ho,ho2=>by
  refine Gq (fn:=lF) (tb:=ai2) (by kernel_rfl) (by kernel_rfl) ?_;have no {P:Prop} (h:zV.lt (k:Int) (ah l.length)=ak):P:=by simp[Aa] at h;omega
  have inb:zV.inB (k:Int) l.length=aC:=by rw[Bj,decide_eq_true_eq];omega
  have st:=ahe (H0:=H0) (w0:=w0) (φ:=φ) (lv:=lv) FC FZ hl (k:=k) (by omega) (b:=nth l k) l.length 0 o 0 (by omega) (ho2 k (dh _)) (by decide)
   (ahf FC FZ hl hφ r (k+1) _ (by omega) (fun j hj=>by
    show (if j=k then ((O5 lv (nth l k).bg 0 (l.drop 0) 0:Nat):Int) else o j)=_;split
    ·rename_i h;subst h;rfl
    ·exact ho j (by omega)) (fun j hj=>by
    show (if j=k then ((O5 lv (nth l k).bg 0 (l.drop 0) 0:Nat):Int) else o j)=_;rw[if_neg (by omega)];exact ho2 j (by omega)))
  refine ED (cZ _ _) (Qq FC FZ _) (hold:=Bg) (m:=300) (n:=400) (ts:=[⟨74,Ot,Ua lv l.length (nth l) l.length o (k:Nat) (nth l k) ((0:Nat):Int),[]⟩]) ?_;exact abG zV W7 lv _ (nth l) _ o k (nth l k) rfl (fun _=>inb) (fun _=>⟨⟨rfl,rfl,rfl,rfl,rfl,rfl,rfl,fun _ _=>rfl,rfl,fun _ _=>rfl,rfl,rfl,rfl,rfl,rfl,rfl,rfl,trivial⟩,_,rfl,st⟩) (fun q=>no q)
theorem abH{n:Nat}{T:Nat->D8}(FC:Aq aB (AY W7) 73 D73)(FZ:Aq aB (AY W7) 94 D94)(hn:n<=62)(hφ:φ (.Aj [.sl 1 (Hq lv n T).length (zW (mkI lv (Hq lv n T))),.v .nilIface])):
  ∀r i (acc:List D8),i+r=n->acc.length<=i->acc++ctF lv T i r=Hq lv n T->
  Bc aB (C7 zV W7 Io Am) (K0 H0 w0) 74 Y6 (Y7 lv n T acc.length (nth acc) (i:Nat)) [] emp (up φ)
 |0,i,acc,hi,hl,he=>by
  have he:acc=Hq lv n T:=by
   rw[<-he];show acc=acc++[];rw[eY]
  refine Gq (fn:=lF) (tb:=aoF) (by kernel_rfl) (by kernel_rfl) ?_;have lt {P:Prop} (h:zV.lt (i:Int) (ah n)=aC):P:=by simp[Aa] at h;omega
  have c2 {P:Prop} (h:zV.lt (ah 62) (zV.Az acc.length)=aC):P:=by simp[Aa,Ar] at h;omega
  have st:=ahf (H0:=H0) (w0:=w0) (φ:=φ) (lv:=lv) (l:=acc) FC FZ (by omega) (by rw[he];exact hφ) acc.length 0 (fun _=>0) (by omega) (fun j hj=>by omega) (fun j _=>rfl);refine ED (cZ _ _) (Qq FC FZ _) (hold:=Bg) (m:=300) (n:=400) (ts:=[⟨74,Y6,Y7 lv n T acc.length (nth acc) 0,[]⟩,⟨74,Lc,QF lv acc.length (nth acc) acc.length (fun _=>0) ((0:Nat):Int),[]⟩]) ?_;refine U1 zV W7 lv n T _ _ (nth acc) _ i 0 acc.length (fun _=>0) rfl rfl rfl (fun q=>lt q) (fun q=>lt q) (fun _ _=>by simp[Dw,Ar]) (fun _ _=>?_) (fun q=>lt q) (fun q=>lt q) (fun _ q=>c2 q)
   (fun _ _=>⟨⟨rfl,rfl,rfl,rfl,fun _ _=>rfl,rfl,fun _ _=>rfl,trivial⟩,_,rfl,st⟩)
  rw[Et,decide_eq_true_eq,Ar,CJ,fJ];unfold maxLen;omega
 |r+1,i,acc,hi,hl,he=>by
  refine Gq (fn:=lF) (tb:=aoF) (by kernel_rfl) (by kernel_rfl) ?_;have w1:zV.add .i64 (i:Int) (ah 1)=((i+1:Nat):Int):=add1 (by omega);have no {P:Prop} (h:zV.lt (i:Int) (ah n)=ak):P:=by simp[Aa] at h;omega
  have inb:zV.inB (i:Int) n=aC:=by rw[Bj,decide_eq_true_eq];omega
  have rm:zV.room (zV.addN acc.length 1) 72=aC:=by rw[Et,decide_eq_true_eq,Di];unfold maxLen;omega
  rw[adE] at he;cases hc:WQ (T i).st lv with
  |true=>
   rw[if_pos hc,<-dS] at he;have nx:=abH FC FZ hn hφ r (i+1) (acc++[T i]) (by omega) (by rw[bf];simp;omega) he;refine ED (cZ _ _) (Qq FC FZ _) (hold:=Bg) (m:=300) (n:=400) (ts:=[⟨74,Y6,Y7 lv n T (acc++[T i]).length (nth (acc++[T i])) ((i+1:Nat):Int),[]⟩,⟨74,Lc,QF lv acc.length (nth acc) 0 (fun _=>0) 0,[]⟩]) ?_;exact U1 zV W7 lv n T _ _ (nth acc) _ i _ 0 (fun _=>0) (c1:=aC) rfl hc rfl (fun _=>inb) (fun _ _=>rm) (fun q=>no q) (fun q=>no q)
    (fun _ _=>⟨⟨rfl,rfl,rfl,w1,by rw[bf];rfl,fun j hj=>Il acc (T i) _ rfl j hj,trivial⟩,_,rfl,nx⟩) (fun _ q=>by cases q) (fun q=>no q) (fun q=>no q)
  |false=>
   rw[if_neg (by rw[hc];simp),jG] at he;have nx:=abH FC FZ hn hφ r (i+1) acc (by omega) (by omega) he;refine ED (cZ _ _) (Qq FC FZ _) (hold:=Bg) (m:=300) (n:=400) (ts:=[⟨74,Y6,Y7 lv n T acc.length (nth acc) ((i+1:Nat):Int),[]⟩,⟨74,Lc,QF lv acc.length (nth acc) 0 (fun _=>0) 0,[]⟩]) ?_;exact U1 zV W7 lv n T _ _ (nth acc) _ i _ 0 (fun _=>0) (c1:=ak) rfl hc rfl (fun _=>inb) (fun _ q=>by cases q) (fun q=>no q) (fun q=>no q)
    (fun _ q=>by cases q) (fun _ _=>⟨⟨rfl,rfl,rfl,w1,rfl,fun _ _=>rfl,trivial⟩,_,rfl,nx⟩) (fun q=>no q) (fun q=>no q)
end
theorem FC:Aq aB (AY W7) 73 D73:=by
 refine FM (C:=C7 zV W7 noSpec Am) (cZ _ _) (fn:=Tryz.f73) (by kernel_rfl) (by kernel_rfl) fun H w AX args φ hrep h=>?_
 have hn:Tryz.f73.ntmps=19:=by kernel_rfl
 unfold D73 at h;split at h
 ·rename_i l t
  split at h
  ·rename_i x lv e1 e2
   have hφ:φ (.b (WQ x.st lv)):=h;match args,hrep with
   |[v,u],⟨rv,ru,_⟩=>
    have hl:l=Row.put x:=(Row.Dl _ _ e1).symm;subst hl;refine ⟨[.agg (Row.put x),.i .i64 lv],⟨rv,Ei e2 ru,trivial⟩,L0,?_⟩;refine ED (cZ _ _) (MZ _) (hold:=Bg) (m:=300) (n:=400) (ts:=[]) ?_;rw[hn];have fin (b:Bool) (hb:b=WQ x.st lv):up φ (.b b):=BH (s':=.b (WQ x.st lv)) (.inl (by rw[hb])) hφ;have e3:zV.eq x.st (ah 3)=(x.st==3):=rfl;have e2':zV.eq x.st (ah 2)=(x.st==2):=rfl;refine ai6 zV W7 x lv rfl rfl rfl (fun q0 q1=>fin _ ?_) (fun q0 q1=>fin _ ?_) (fun q0 q2 q1=>fin _ ?_) (fun q0 q2 q1=>fin _ ?_) (fun q0 q2=>fin _ ?_);all_goals unfold WQ
    ·rw[if_pos (.inl (by simpa[Ap] using q0)),<-e3,q1];rfl
    ·rw[if_pos (.inl (by simpa[Ap] using q0)),<-e3,q1,e2'];rfl
    ·rw[if_pos (.inr (by simpa[Ap] using q2)),<-e3,q1];rfl
    ·rw[if_pos (.inr (by simpa[Ap] using q2)),<-e3,q1,e2'];rfl
    ·rw[if_neg (by
      rintro (h|h)
      ·rw[h] at q0;cases q0
      ·rw[h] at q2;cases q2)]
     rfl
  ·exact h.elim
 ·exact h.elim
theorem FZ:Aq aB (AY W7) 94 D94:=by
 refine FM (C:=C7 zV W7 noSpec Am) (cZ _ _) (fn:=Tryz.f94) (by kernel_rfl) (by kernel_rfl) fun H w AX args φ hrep h=>?_
 have hn:Tryz.f94.ntmps=15:=by kernel_rfl
 unfold D94 at h;split at h
 ·rename_i l r
  split at h
  ·rename_i x y e1 e2
   have hφ:φ (.b (reB x.en y.bg)):=h;have hl:l=Row.put x:=(Row.Dl _ _ e1).symm;have hr:r=Row.put y:=(Row.Dl _ _ e2).symm;subst hl hr;refine ⟨[.agg (Row.put x),.agg (Row.put y)],hrep,L0,?_⟩;refine ED (cZ _ _) (MZ _) (hold:=Bg) (m:=300) (n:=400) (ts:=[]) ?_;rw[hn];have fin (b:Bool) (hb:b=reB x.en y.bg):up φ (.b b):=BH (s':=.b (reB x.en y.bg)) (.inl (by rw[hb])) hφ;refine ai7 zV W7 x y rfl (fun q=>fin _ ?_) (fun q=>fin _ ?_)
   ·have q:decide (0<=x.en)=aC:=q
    unfold reB;rw[q];rfl
   ·have q:decide (0<=x.en)=ak:=q
    unfold reB;rw[q];rfl
  ·exact h.elim
 ·exact h.elim
theorem atw:Aq aB (AY W7) 74 D74:=by
 refine FM (C:=C7 zV W7 Io Am) (cZ _ _) (fn:=lF) (by kernel_rfl) (by kernel_rfl) fun H w AX args φ hrep h=>?_
 have hn:lF.ntmps=74:=by kernel_rfl
 unfold D74 at h;split at h
 ·rename_i s t
  split at h
  ·rename_i n T lv e1 e2
   obtain ⟨h1,hφ⟩:=h;unfold mkP at h1;rw[aH,aH,aH] at h1;obtain ⟨a1,a2,a3,a4⟩:=h1;have a2:=of_decide_eq_true a2;have a3:=of_decide_eq_true a3;have a4:=of_decide_eq_true a4;match args,hrep with
   |[v,u],⟨rv,ru,_⟩=>
    refine ⟨[.sl 7 n (zW (zY (α:=D8) T)),.i .i64 lv],⟨DV (BD e1 rv) a1,Ei e2 ru,trivial⟩,L0,?_⟩;have st:=abH (H0:=H) (w0:=w) (φ:=φ) (lv:=lv) (n:=n) (T:=zY T) FC FZ a4 hφ n 0 [] (by omega) (by simp) (by rw[jG,ahc]);refine ED (cZ _ _) (Qq FC FZ _) (hold:=Bg) (m:=300) (n:=400) (ts:=[⟨74,Y6,Y7 lv n (zY T) 0 (nth []) ((0:Nat):Int),[]⟩]) ?_;rw[hn];have c0 {P:Prop} (h:zV.lt lv (ah 1)=aC):P:=by simp[Aa] at h;omega
    have c1 {P:Prop} (h:zV.lt (ah 3) lv=aC):P:=by simp[Aa] at h;omega
    exact ai5 zV W7 lv n (zY T) (nth []) _ rfl rfl (fun q=>c0 q) (fun _ q=>c1 q) (fun _ _=>⟨⟨rfl,rfl,rfl,rfl,rfl,trivial⟩,_,rfl,st⟩)
  ·exact h.elim
 ·exact h.elim
theorem av5:Aq aB (AY W7) 75 D75:=O25.mono fun H AX args φ hr h=>by
 unfold D75 at h;split at h
 ·split at h
  ·rename_i n g e0
   obtain ⟨h1,h2⟩:=h;unfold nwB at h1;rw[aH,aH,aH,Bool.not_eq_true'] at h1;obtain ⟨a1,a2,a3,a4⟩:=h1;unfold F25;simp only[e0];exact ⟨a1,a2,fun q=>(by rw[q] at a3;cases a3),fun _=>⟨fun _=>h2,fun q=>(by rw[q] at a4;cases a4)⟩⟩
  ·exact h.elim
 ·exact h.elim
theorem aeZ{hs:Sh}{B:UZ}(Yd:Aq aB (AY W7) 20 (D20 hs B))(stop:Nat->List Nat->Bool):Bz aB (C7 zV W7 (Qp hs B) stop):=lQ (fun g F h=>by
 unfold Qp at h;split at h
 ·cases h;exact Yd
 ·cases h;exact FC
 ·cases h;exact atw
 ·cases h;exact av5
 ·cases h) fun g h=>by
 unfold Qp at h;split at h;all_goals first|(cases h;done) |kernel_rfl
section
variable{H0:Mem}{w0:World}{φ:Sh->Prop}{hs:Sh}{B:UZ}{lv:Int}{o m:Nat}{og mg:Nat->List Sh}
theorem ae0(Yd:Aq aB (AY W7) 20 (D20 hs B)){n:Nat}{T:Nat->D8}(h1:1<=lv)(h3:lv<=3)(hn:n<=12)(hw:nwB o og=aC)
  (hφ:φ (.Aj [.pt (BJ lv (Hq lv n T).length (nth (Hq lv n T)) (Hq lv n T).length (mkI lv (Hq lv n T)) o (Hr og)),.v .nilIface])) :
  ∀r i (acc:List D8),i+r=n->acc.length<=i->acc++ctF lv T i r=Hq lv n T->
  Bc aB (C7 zV W7 (Qp hs B) Am) (K0 H0 w0) 40 Y4 (Y5 o m og mg lv n T acc.length (nth acc) (i:Nat)) [] emp (up φ)
 |0,i,acc,hi,hl,he=>by
  have he:acc=Hq lv n T:=by
   rw[<-he];show acc=acc++[];rw[eY]
  refine Gq (fn:=yV) (tb:=aoE) (by kernel_rfl) (by kernel_rfl) ?_;have lt {P:Prop} (h:zV.lt (i:Int) (ah n)=aC):P:=by simp[Aa] at h;omega
  refine ED (cZ _ _) (aeZ Yd _) (hold:=Bg) (m:=300) (n:=400) (ts:=[⟨40,Y4,Y5 o m og mg lv n T 0 (nth []) 0,[]⟩]) ?_;refine U0 zV W7 hs B lv o m og mg n T _ 0 (nth acc) (nth []) i 0 rfl rfl (fun q=>lt q) (fun q=>lt q) (fun _=>?_) (fun _=>hw) (fun q=>lt q) (fun q=>lt q) (fun _=>?_)
  ·unfold mkP
   rw[D5,decide_eq_true h1,decide_eq_true h3,decide_eq_true (by omega:n<=62)];rfl
  ·have e1:mkN lv n (zW T)=(Hq lv n T).length:=by unfold mkN;rw[GY]
   have e2:mkR lv n (zW T)=mkI lv (Hq lv n T):=by unfold mkR;rw[GY]
   rw[e1,e2,he];exact BH (s':=.Aj [.pt (BJ lv (Hq lv n T).length (nth (Hq lv n T)) (Hq lv n T).length (mkI lv (Hq lv n T)) o (Hr og)),.v .nilIface]) ⟨rfl,rfl,trivial⟩ hφ
 |r+1,i,acc,hi,hl,he=>by
  refine Gq (fn:=yV) (tb:=aoE) (by kernel_rfl) (by kernel_rfl) ?_;have w1:zV.add .i64 (i:Int) (ah 1)=((i+1:Nat):Int):=add1 (by omega);have no {P:Prop} (h:zV.lt (i:Int) (ah n)=ak):P:=by simp[Aa] at h;omega
  have inb:zV.inB (i:Int) n=aC:=by rw[Bj,decide_eq_true_eq];omega
  have rm:zV.room (zV.addN acc.length 1) 72=aC:=by rw[Et,decide_eq_true_eq,Di];unfold maxLen;omega
  rw[adE] at he;cases hc:WQ (T i).st lv with
  |true=>
   rw[if_pos hc,<-dS] at he;have nx:=ae0 Yd h1 h3 hn hw hφ r (i+1) (acc++[T i]) (by omega) (by rw[bf];simp;omega) he;refine ED (cZ _ _) (aeZ Yd _) (hold:=Bg) (m:=300) (n:=400) (ts:=[⟨40,Y4,Y5 o m og mg lv n T (acc++[T i]).length (nth (acc++[T i])) ((i+1:Nat):Int),[]⟩]) ?_;exact U0 zV W7 hs B lv o m og mg n T _ _ (nth acc) _ i _ (c1:=aC) rfl hc (fun _=>inb) (fun _ _=>rm) (fun q=>no q) (fun q=>no q)
    (fun _ _=>⟨⟨rfl,rfl,rfl,rfl,w1,rfl,rfl,rfl,by rw[bf];rfl,fun j hj=>Il acc (T i) _ rfl j hj,trivial⟩,_,rfl,nx⟩) (fun _ q=>by cases q) (fun q=>no q)
  |false=>
   rw[if_neg (by rw[hc];simp),jG] at he;have nx:=ae0 Yd h1 h3 hn hw hφ r (i+1) acc (by omega) (by omega) he;refine ED (cZ _ _) (aeZ Yd _) (hold:=Bg) (m:=300) (n:=400) (ts:=[⟨40,Y4,Y5 o m og mg lv n T acc.length (nth acc) ((i+1:Nat):Int),[]⟩]) ?_;exact U0 zV W7 hs B lv o m og mg n T _ _ (nth acc) _ i _ (c1:=ak) rfl hc (fun _=>inb) (fun _ q=>by cases q) (fun q=>no q) (fun q=>no q)
    (fun _ q=>by cases q) (fun _ _=>⟨⟨rfl,rfl,rfl,rfl,w1,rfl,rfl,rfl,rfl,fun _ _=>rfl,trivial⟩,_,rfl,nx⟩) (fun q=>no q)
end
end Go.Proofs
namespace Go.Ad
open Go Go.Sx
abbrev Wd:=Go.Proofs.Wd
abbrev Wx:=Go.Proofs.Wx
abbrev Fv:=Go.Proofs.AY
abbrev W5:=qX
abbrev noSpec:=Go.Proofs.noSpec
noncomputable def C5(A:Prim)(W:Wd)(spec:Nat->Option (List Sh->Tree Sh))(stop:Nat->List Nat->Bool):Ctx:=
 {A,tys:=mM,fns:=oG,spec,eqs:=[140,71],Vg:=[329],LU:=stop,gls:=Fv W,live:=yD,ZV:=[157],ad2:=Go.Proofs.anE}
theorem av6:V8 aB mM [140,71]=aC:=by kernel_rfl
theorem av7:af9 aB [329]=aC:=by kernel_rfl
theorem C5.ok(spec:Nat->Option (List Sh->Tree Sh))(stop:Nat->List Nat->Bool):A8 aB (C5 zV W5 spec stop):=
 ⟨aaE yE,PX jf,rfl,sS,fun t i h hi xs ys w h1 h2 x y=>XE (P5 av6 t i h hi) xs ys w h1 h2 x y,V7 av7,zU⟩
theorem C5.UK{spec:Nat->Option (List Sh->Tree Sh)}{stop:Nat->List Nat->Bool}(hs:∀g F,spec g=ay F->Aq aB (Fv W5) g F)(he:∀g,(spec g).isSome=aC->(oG.get g).isSome=aC):Bz aB (C5 zV W5 spec stop):=
 ⟨hs,fun g h=>by
  rcases h with h|h
  ·exact GI jf jH g (he g h)
  ·exact GI jf jH g h,fun _ _ _ h=>(by cases h),fun _ _ _ h=>(by cases h)⟩
theorem MZ(stop:Nat->List Nat->Bool):Bz aB (C5 zV W5 noSpec stop):=C5.UK (fun _ _ h=>by cases h) (fun _ h=>by cases h)
def Ak:Nat->List Nat->Bool:=fun _ _=>ak
end Go.Ad
namespace Go.BF
open Go Go.Sx
structure Oj where
 kind:Int
 init:Int
 deriving DecidableEq,Inhabited
structure Ev where
 kind:Int
 tx:Int
 thread:Int
 obj:Int
 op:Int
 key:Int
 val:Int
 ret:Int
 deriving DecidableEq,Inhabited
def obR(o:Oj):List Sh:=[.i .i64 o.kind,.i .i64 o.init]
def EI(e:Ev):List Sh:=[.i .i64 e.kind,.i .i64 e.tx,.i .i64 e.thread,.i .i64 e.obj,.i .i64 e.op,.i .i64 e.key,.i .i64 e.val,.i .i64 e.ret]
def inR(n:Int):List Sh:=[.i .i64 n]
class Row(α:Type)where
 put:α->List Sh
 get:List Sh->Option α
 Dl:∀l a,get l=ay a->put a=l
 get_put:∀a,get (put a)=ay a
 Jk:α
instance:Row Oj where
 put:=obR
 get l:=match l with
  |[.i .i64 a,.i .i64 b]=>ay ⟨a,b⟩ |_=>aK
 Dl l a h:=by
  split at h
  ·cases h;rfl
  ·cases h
 get_put a:=rfl
 Jk:=⟨0,0⟩
instance:Row Ev where
 put:=EI
 get l:=match l with
  |[.i .i64 a,.i .i64 b,.i .i64 c,.i .i64 d,.i .i64 e,.i .i64 f,.i .i64 g,.i .i64 h]=>ay ⟨a,b,c,d,e,f,g,h⟩ |_=>aK
 Dl l a h:=by
  split at h
  ·cases h;rfl
  ·cases h
 get_put a:=rfl
 Jk:=⟨0,0,0,0,0,0,0,0⟩
instance:Row Int where
 put:=inR
 get l:=match l with
  |[.i .i64 a]=>ay a |_=>aK
 Dl l a h:=by
  split at h
  ·cases h;rfl
  ·cases h
 get_put a:=rfl
 Jk:=0
def okB(α:Type)[Row α](n:Nat)(g:Nat->List Sh):Bool:=
 match n with
 |0=>aC |n+1=>okB α n g&&(Row.get (α:=α) (g n)).isSome
def zY{α:Type}[Row α](g:Nat->List Sh)(i:Nat):α:=(Row.get (g i)).getD Row.Jk
def lst(α:Type)[Row α](n:Nat)(g:Nat->List Sh):List α:=(aX n).map (zY g)
def nth{α:Type}[Row α](l:List α)(i:Nat):α:=l.getD i Row.Jk
def zW{α:Type}[Row α](o:Nat->α):Nat->List Sh:=fun j=>Row.put (o j)
section
variable{α:Type}[Row α]
theorem IU{n:Nat}{g:Nat->List Sh}(h:okB α n g=aC):∀i,i<n->g i=Row.put (zY (α:=α) g i):=by
 induction n with
 |zero=>intro i hi;omega |succ n ih=>
  simp only[okB,aH] at h;intro i hi;by_cases e:i=n
  ·subst e
   obtain ⟨a,ha⟩:=Option.isSome_iff_exists.1 h.2;simp only[zY,ha,nX];exact (Row.Dl _ _ ha).symm
  ·exact ih h.1 i (by omega)
theorem D5(o:Nat->α):∀n,okB α n (zW o)=aC
 |0=>rfl |n+1=>by simp[okB,D5 o n,zW,Row.get_put]
theorem ZL{g:Nat->List Sh}{o:Nat->α}:∀{n:Nat},(∀i,i<n->g i=Row.put (o i))->okB α n g=aC
 |0,_=>rfl |n+1,h=>by simp[okB,ZL (n:=n) fun i hi=>h i (by omega),h n (by omega),Row.get_put]
theorem Nb(o:Nat->α)(i:Nat):zY (zW o) i=o i:=by simp[zY,zW,Row.get_put]
@[simp] theorem E5 (n:Nat) (g:Nat->List Sh):(lst α n g).length=n:=by simp[lst]
theorem RF{n:Nat}{g:Nat->List Sh}{i:Nat}(h:i<n):nth (lst α n g) i=zY g i:=by simp[nth,lst,h]
end
theorem Ep{H:Mem}{st n:Nat}{g g':Nat->List Sh}{v:Value}(h:Rep H (.sl st n g) v)(hg:∀j,j<n->g j=g' j):Rep H (.sl st n g') v:=by
 cases h with
 |sl0 _ _ A cap hc=>exact .sl0 _ _ _ _ hc |sl _ _ _ b off cap c h1 h2 h3 h4 h5 h6=>exact .sl _ _ _ b off cap c h1 h2 (fun i hi=>by rw[<-hg i hi];exact h3 i hi) h4 h5 fun i j s hi e=>h6 i j s hi (by rw[hg i hi];exact e)
theorem DV{α:Type}[Row α]{H:Mem}{st n:Nat}{g:Nat->List Sh}{v:Value}(h:Rep H (.sl st n g) v)(hg:okB α n g=aC):Rep H (.sl st n (zW (zY (α:=α) g))) v:=
 Ep h fun j hj=>IU hg j hj
def len{α:Type}(l:List α):Nat:=l.length
def fO(g:Nat->List Sh):Nat->List Sh:=zW (zY (α:=Oj) g)
def fE(g:Nat->List Sh):Nat->List Sh:=zW (zY (α:=Ev) g)
open Go Go.Sx
theorem Aa(a b:Int):zV.lt a b=decide (a<b):=rfl
theorem Dw(a b:Int):zV.le a b=decide (a<=b):=rfl
theorem Ap(a b:Int):zV.eq a b=(a==b):=rfl
theorem Bj(a:Int)(n:Nat):zV.inB a n=decide (0<=a/\a<n):=rfl
theorem J5(a:Int)(n:Nat):zV.upTo a n=decide (0<=a/\a<=n):=rfl
theorem Et(n b:Nat):zV.room n b=decide (n*b<=140737488355328/\n<=maxLen):=rfl
theorem CJ(a:Int):zV.toN a=a.toNat:=rfl
theorem Ar(n:Nat):zV.Az n=(n:Int):=rfl
theorem Di(n m:Nat):zV.addN n m=n+m:=rfl
theorem XO(n m:Nat):zV.ZU n m=decide (n<=m):=rfl
theorem BP(b:Bool):zV.nt b=!b:=rfl
theorem DW(a b c:Bool):zV.ite a b c=bif a then b else c:=rfl
theorem XQ(a b:List UInt8):zV.seq a b=(a==b):=rfl
theorem Df(a b:Int):zV.add .i64 a b=aT.wrap (a+b):=rfl
theorem L9(a b:Int):zV.sub .i64 a b=aT.wrap (a - b):=rfl
theorem Mc(a b:Int):zV.max a b=if b>a then b else a:=rfl
theorem adF(a b:Int):zV.min a b=if b<a then b else a:=rfl
theorem Ed(g:Nat->List Sh)(n:Nat)(h:Nat->List Sh)(i:Nat):zV.snoc g n h i=if i<n then g i else h (i - n):=rfl
theorem BL{a:Int}(h1:-9223372036854775808<=a)(h2:a<=9223372036854775807):aT.wrap a=a:=by
 rw[IntKind.wrap_i64];omega
theorem GU:ah 1=1:=rfl
theorem maxLen_eq:maxLen=9223372036854775807:=rfl
theorem adG{α:Type}[Row α]{k:Nat}{o:Nat->α}{l:List (List Sh)}(h:AQ l 0=Row.put (o k)):∀i,i<k+1->zV.snoc (zW o) k (AQ l) i=zW o i:=fun i hi=>by
 rw[Ed];split
 ·rfl
 ·have:i=k:=by omega
  subst this;rw[qw,h];rfl
def Bo(n b:Nat):Bool:=zV.room n b
end Go.BF
