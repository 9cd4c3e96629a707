/- Own work. -/
import Derived.Test.YthehnhaoiijkhaaGreatDoorZ10
import Derived.Conc.LoneSelect
import Derived.KernelRfl
open Int (ofNat)
open Bool renaming true->aC,false->ak,not_not->yx,and_eq_true->aI,or_false->kF
open Classical renaming propDecidable->bM
open Go.BinOp renaming shl->iq
open Go.Conc renaming base->zQ
open Go.Frame renaming enter->gJ
open Go.Gm renaming start->iK
open Go.IntKind renaming i64->aN
open Go.Proofs renaming W7->qZ,akg->zT
open Go.Proofs.C7 renaming WI->lS,ok->dw
open Go.Proofs.Tryz renaming prog->aB,f41->rO,f69->rP,func69->yT,f71->rQ,f39->uw,f74->lH,f40->yU,tys->mP,fns->oJ,live->yB,tysB_->yC,fnsAre_->jg,mixed_->sS,entersB_->jI
open Go.Sx renaming Sh->zS
open Go.Sx.Bj renaming nat->aJ,Lp->bC,sh->aQ,int->aj,get->aT,val->kR,mg->jh,bool->pz
open Go.Sx.D8 renaming at_->bJ,ret->aP
open Go.Sx.It renaming code->bD,inBlock->dD
open Go.Sx.Sh renaming sl->aG,agg->bH,Ak->cZ,b->eF,i->aW,er->aZ,str->dA,pt->sU,v->jC
open Go.Value renaming chan->iG,int->iR,nilIface->bI,pointer->gG
open Int renaming ofNat->ah,toNat_natCast->fK
open Int.ofNat renaming inj->kU
open List renaming range->aX,range_succ_eq_map->qP,map_cons->jm,flatMap_cons->oG,map_append->iO,map_map->l9,getD_eq_getElem?_getD->aY,getElem?_append_left->dJ,append_nil->fA,append_assoc->dU,length_append->bf,length_map->dW,length_range->lG,drop_eq_nil_of_le->jM,getElem?_eq_getElem->aV,mem_map->dK,mem_of_getElem?->bT,drop_eq_getElem_cons->iP,drop_zero->jd,any_nil->yA,any_cons->wY,nil_append->jH,getElem?_eq_some_iff->aU
open Nat renaming sub_self->qA,beq->fC,eq_of_beq_eq_true->fH,le_refl->dn,add_zero->jw,or_lt_two_pow->pq,shiftLeft_eq->l7,one_mul->iF,pow_lt_pow_right->jy
open Option renaming some->ay,none->aK,getD_some->nY
open Option.some renaming inj->dh
namespace Go.Pl
open Go Go.Sx Go.Proofs Go.Gm
def xF{α:Type}(c1 c2 c3 c4 c5 c6 c7:Bool)(A B:α):List α:=
 bif c1||c2 then [] else (bif (c4||c7)&&c3 then [A] else [])++(bif c5&&(c6||c3) then [B] else [])
noncomputable def tuG(lv:Int)(N:Nat)(T:Nat->Ef)(mk:Nat->Int)(p:Int)(n:Nat)(g:Nat->List Sh):Nat->Nat->List Jo
 |_,0=>[] |i,r+1=>(G5 (TY lv N T mk n) ⟨p.toNat,g⟩ i).map (Gx n)++tuG lv N T mk p n g (i+1) r
theorem abE(lv:Int)(N:Nat)(T:Nat->Ef)(mk:Nat->Int)(p:Int)(n:Nat)(g:Nat->List Sh):∀r i,tuG lv N T mk p n g i r=(((aX r).map fun j=>i+j).flatMap (G5 (TY lv N T mk n) ⟨p.toNat,g⟩)).map (Gx n)
 |0,i=>rfl |r+1,i=>by
  rw[tuG,abE lv N T mk p n g r (i+1),qP,jm,oG,iO,l9];congr 3;refine List.map_congr_left fun j _=>?_
  show i+1+j=i+(j+1);omega
theorem aow(lv:Int)(N:Nat)(T:Nat->Ef)(mk:Nat->Int)(p:Int)(n:Nat)(g:Nat->List Sh):tuG lv N T mk p n g 0 N=tuL lv N T mk p n g:=by
 rw[abE];unfold tuL turns;have:(aX N).map (fun j=>0+j)=aX N:=by simp
 rw[this];rfl
theorem arn{lv:Int}{N:Nat}{T:Nat->Ef}{mk:Nat->Int}{p n:Nat}{g:Nat->List Sh}{i:Nat}(hp:p<2^62)(hi:i<N)(hN:N<=62)(hm:0<=mk i)(hm2:(mk i).toNat<2^N){c1 c2 c3 c4 c5 c6 c7:Bool}
  (e1:zW.eq (zW.bin .and .i64 (zW.bin .shr .i64 (p:Int) (i:Int)) (ah 1)) (ah 1)=c1)
  (e2:zW.nt (zW.eq (zW.bin .andNot .i64 (mk i) (p:Int)) (ah 0))=c2)
  (e3:plO n g (T i).k (T i).g=c3) (e4:zW.eq (T i).st (ah 3)=c4) (e5:zW.nt (zW.eq (T i).st (ah 3))=c5) (e6:zW.nt (zW.eq lv (ah 3))=c6) (e7:zW.eq (T i).st (ah 2)=c7) :
  (G5 (TY lv N T mk n) ⟨p,g⟩ i).map (Gx n)=xF c1 c2 c3 c4 c5 c6 c7 ⟨(T i).id,aC,zW.bin .or .i64 (p:Int) (zW.bin .shl .i64 (ah 1) (i:Int)),n,TV n g (T i).k (T i).g⟩ ⟨(T i).id,ak,zW.bin .or .i64 (p:Int) (zW.bin .shl .i64 (ah 1) (i:Int)),n,g⟩/\may (TY lv N T mk n) p i=(!c1 && !c2):=by
 have hp2:p<2^63:=by omega
 have hmay:may (TY lv N T mk n) p i=(!c1 && !c2):=by
  rw[<-e1,ark hp2 (by omega),<-e2];have:mk i=((mk i).toNat:Int):=(Int.toNat_of_nonneg hm).symm;rw[this,alH hm2 hN hp2,yx];rfl
 refine ⟨?_,hmay⟩;have ho:=or_eq (p:=p) (i:=i) hp2 (by omega);unfold G5;show List.map (Gx n) (if may (TY lv N T mk n) p i=aC then _ else _)=_;rw[hmay];have hc:(TY lv N T mk n).com i=(c4||c7):=by rw[<-e4,<-e7];rfl
 have ha:(TY lv N T mk n).abo i=c5:=by rw[<-e5];rfl
 have hl:(TY lv N T mk n).all=!c6:=by rw[<-e6];show (lv==3)=!(!(lv==3));rw[yx]
 have hr:(TY lv N T mk n).run g i=if c3=aC then ay (TV n g (T i).k (T i).g) else aK:=by rw[<-e3];rfl
 rw[hc,ha,hl];simp only[hr,ho];unfold xF;clear hc ha hl hr hmay e1 e2 e3 e4 e5 e6 e7;cases c1<;>cases c2<;>cases c3<;>cases c4<;>cases c5<;>cases c6<;>cases c7<;>simp[Gx,TY]
end Go.Pl
namespace Go.Proofs
open Go Go.Sx Go.Pl Go.Gm
theorem aiX(stop:Nat->List Nat->Bool)(O:Ar aB (AZ W7) 76 D76):BA aB (C7 zW W7 NW stop):=lS (fun g F h=>by
 unfold NW at h;split at h
 ·cases h;exact O
 ·cases h) fun g h=>by
 unfold NW at h;split at h;all_goals first|(cases h;done) |kernel_rfl
theorem aox:Ar aB (AZ W7) 76 D76:=O76.mono fun H A8 args φ hr h=>by
 unfold D76 at h;split at h
 ·split at h
  ·rename_i e0 e1
   obtain ⟨h1,h2,h3⟩:=h;unfold plN at h1;rw[aI,aI] at h1;unfold F76;simp only[e0,e1];exact ⟨h1.1,h1.2.1,h1.2.2,h2,h3⟩
  ·exact h.elim
 ·exact h.elim
section
variable{H0:Mem}{w0:World}{φ:Sh->Prop}{lv:Int}{N:Nat}{T:Nat->Ef}{mk:Nat->Int}{k0:Nat}{g0:Nat->List Sh}{p:Nat}{n:Nat}{g:Nat->List Sh}
theorem aoy{α:Type}[Row α](l r:List α)(j:Nat)(h:j<l.length):nth (l++r) j=nth l j:=by
 unfold nth;rw[aY,aY,dJ h]
theorem Ip{α:Type}[Row α](l:List α)(a:α)(s:List Sh)(hs:s=Row.put a):∀j,j<l.length+1->zW.snoc (zX (nth l)) l.length (AU [s]) j=zX (nth (l++[a])) j:=fun j hj=>by
 rw[Ed];split
 ·rename_i q
  show Row.put (nth l j)=Row.put (nth (l++[a]) j);rw[aoy _ _ _ q]
 ·have:j=l.length:=by omega
  subst this;rw[qA];show s=Row.put (nth (l++[a]) l.length);unfold nth;rw[hs];simp
theorem ahd{g g':Nat->List Sh}{n:Nat}(h:∀j,j<n->g j=g' j)(r:Nat->List Sh):zW.snoc g n r=zW.snoc g' n r:=by
 funext j;rw[Ed,Ed];split
 ·exact h j (by assumption)
 ·rfl
theorem akz(Q:TuP lv N T N mk (p:Int) n g):∀r i (acc:List Jo),i+r=N->acc.length<=2*i->φ (.sl 4 (acc++tuG lv N T mk p n g i r).length (zX (nth (acc++tuG lv N T mk p n g i r))))->
  Bd aB (C7 zW W7 NW Ap) (K0 H0 w0) 41 WT (Y7 lv N T N mk k0 g0 p n g acc.length (nth acc) (i:Nat)) [] emp (up φ)
 |0,i,acc,hi,hl,hφ=>by
  refine Gu (fn:=rO) (tb:=akw) (by kernel_rfl) (by kernel_rfl) ?_;refine EJ (dw _ _) (aiX _ aox) (hold:=Bh) (m:=300) (n:=400) (ts:=[⟨41,WT,Y7 lv N T N mk k0 g0 p n g 0 (nth []) 0,[]⟩]) ?_;have lt {P:Prop} (h:zW.lt (i:Int) (ah N)=aC):P:=by simp[Ad] at h;omega
  have e:acc++tuG lv N T mk p n g i 0=acc:=by rw[tuG,fA]
  rw[e] at hφ;refine abD zW W7 lv N T N mk k0 g0 p n g acc.length 0 (nth acc) (nth []) i 0 rfl rfl rfl rfl rfl rfl rfl rfl ?_ ?_ ?_ ?_ ?_ ?_ ?_ ?_ ?_ ?_ ?_ ?_ ?_ ?_ ?_ ?_ ?_ ?_ ?_ ?_ ?_ ?_ ?_ ?_ ?_ ?_ ?_ ?_ ?_ ?_ ?_ ?_ ?_ ?_ ?_ ?_;all_goals first|(intro q;exact lt q) |skip
  exact fun _=>BH (s':=.sl 4 acc.length (zX (nth acc))) aok hφ
 |r+1,i,acc,hi,hl,hφ=>by
  refine Gu (fn:=rO) (tb:=akw) (by kernel_rfl) (by kernel_rfl) ?_;have hlN:=Q.le;have w1:zW.add .i64 (i:Int) (ah 1)=((i+1:Nat):Int):=add1 (by omega);have no {P:Prop} (h:zW.lt (i:Int) (ah N)=ak):P:=by simp[Ad] at h;omega
  have inb:zW.inB (i:Int) N=aC:=by simp[Bl];omega
  have rm1:zW.room (zW.addN acc.length 1) 48=aC:=by rw[Ew,decide_eq_true_eq,Dl];unfold maxLen;omega
  have rm2:zW.room (zW.addN (zW.addN acc.length 1) 1) 48=aC:=by rw[Ew,decide_eq_true_eq,Dl,Dl];unfold maxLen;omega
  have le0:zW.le (ah 0) (i:Int)=aC:=by simp[Df]
  have hp:p<2^62:=by have:=Q.lt;omega
  obtain ⟨c1,e1⟩:∃c,zW.eq (zW.bin .and .i64 (zW.bin .shr .i64 (p:Int) (i:Int)) (ah 1)) (ah 1)=c:=⟨_,rfl⟩;obtain ⟨c2,e2⟩:∃c,zW.nt (zW.eq (zW.bin .andNot .i64 (mk (zW.toN i)) (p:Int)) (ah 0))=c:=⟨_,rfl⟩;obtain ⟨c3,e3⟩:∃c,plO n g (T (zW.toN i)).k (T (zW.toN i)).g=c:=⟨_,rfl⟩;obtain ⟨c4,e4⟩:∃c,zW.eq (T (zW.toN i)).st (ah 3)=c:=⟨_,rfl⟩;obtain ⟨c5,e5⟩:∃c,zW.nt (zW.eq (T (zW.toN i)).st (ah 3))=c:=⟨_,rfl⟩;obtain ⟨c6,e6⟩:∃c,zW.nt (zW.eq lv (ah 3))=c:=⟨_,rfl⟩;obtain ⟨c7,e7⟩:∃c,zW.eq (T (zW.toN i)).st (ah 2)=c:=⟨_,rfl⟩;obtain ⟨hx,hmay⟩:=arn (lv:=lv) (T:=T) (n:=n) (g:=g) hp (by omega:i<N) Q.le (Q.mpos i (by omega)) (Q.mlt i (by omega)) e1 e2 e3 e4 e5 e6 e7;have hfit:=Q.fit i (by omega);rw[fK,hmay] at hfit;rw[tuG,fK,<-dU] at hφ;have nx:=fun (h:(acc++(G5 (TY lv N T mk n) ⟨p,g⟩ i).map (Gx n)).length<=2*(i+1))=>akz Q r (i+1) (acc++(G5 (TY lv N T mk n) ⟨p,g⟩ i).map (Gx n)) (by omega) h hφ;rw[hx] at nx;generalize hacc:acc++xF _ _ _ _ _ _ _ _ _=acc' at nx;refine EJ (dw _ _) (aiX _ aox) (hold:=Bh) (m:=300) (n:=400) (ts:=[⟨41,WT,Y7 lv N T N mk k0 g0 p n g acc'.length (nth acc') ((i+1:Nat):Int),[]⟩]) ?_;have lf:∀(mm:Nat) (gg:Nat->List Sh),mm=acc'.length->(∀j,j<mm->gg j=zX (nth acc') j)->acc'.length<=2*(i+1)->Jz aB (C7 zW W7 NW Ap) (K0 H0 w0) [⟨41,WT,Y7 lv N T N mk k0 g0 p n g acc'.length (nth acc') ((i+1:Nat):Int),[]⟩] emp (up φ)
    (bJ 0 [aJ 1 1,bC (fun _=>BK lv N T N mk k0 g0) fun _=>BK lv N T N mk k0 g0,aJ 0 0,aQ (aG 7 N (zX T)) (aG 7 N (zX T)),aj (ah N) (ah N),aj (zW.add .i64 i (ah 1)) ((i+1:Nat):Int),aj p p,aQ (aG 4 n g) (aG 4 n g),aJ mm acc'.length,aT mm gg (zX (nth acc'))]):=
   fun mm gg e1 e2 e3=>⟨⟨rfl,rfl,rfl,rfl,rfl,w1,rfl,rfl,e1,e2,trivial⟩,_,rfl,nx e3⟩
  have l0 (h:acc'=acc):=lf acc.length (zX (nth acc)) (by rw[h]) (fun j _=>by rw[h]) (by rw[h];omega);have l1 (a:Jo) (h:acc'=acc++[a]):=lf (zW.addN acc.length 1) (zW.snoc (zX (nth acc)) acc.length (AU [Row.put a])) (by rw[h,bf];rfl) (fun j hj=>by rw[h];exact Ip acc a _ rfl j hj) (by rw[h,bf];show acc.length+1<=_;omega);have l2 (a b:Jo) (h:acc'=acc++[a,b]):=lf (zW.addN (zW.addN acc.length 1) 1) (zW.snoc (zW.snoc (zX (nth acc)) acc.length (AU [Row.put a])) (zW.addN acc.length 1) (AU [Row.put b])) (by rw[h,bf];rfl) (fun j hj=>by
   have e:=Ip (acc++[a]) b _ rfl j (by rw[bf];exact hj);rw[dU,bf] at e;rw[h];have e2:=ahd (n:=acc.length+1) (fun j hj=>Ip acc a _ rfl j hj) (AU [Row.put b]);exact (congrFun e2 j).trans e) (by rw[h,bf];show acc.length+2<=_;omega)
  clear lf nx;refine abD zW W7 lv N T N mk k0 g0 p n g acc.length acc'.length (nth acc) (nth acc') i ((i+1:Nat):Int) rfl e1 e2 e3 e4 e5 e6 e7
   (fun _=>inb)
   (fun _=>le0)
   (fun _ _=>inb)
   (fun _ q1 q2=>hfit (by rw[q1,q2];rfl))
   (fun _ _ _ _ _=>rm1)
   (fun _ _ _ _ _ _ _=>rm2)
   (fun _ _ _ _ _ _ _=>rm2)
   (fun _ _ _ _ _ _=>rm1)
   (fun _ _ _ _ _ _ _ _=>rm2)
   (fun _ _ _ _ _ _ _ _=>rm2)
   (fun _ _ _ _ _ _ _ _=>rm1)
   (fun _ _ _ _ _ _ _ _=>rm1)
   (fun _ _ _ _ _ _ _=>rm1)
   (fun _ _ _ _ _ _ _ _=>rm1)
   (fun _ _ _ _ _ _ _ _=>rm1)
   (fun _ q1=>l0 (by rw[<-hacc,q1];exact fA _))
   (fun _ q1 q2=>l0 (by rw[<-hacc,q1,q2];exact fA _))
   (fun _ q1 q2 q3 q4 q5 q6=>l2 _ _ (by rw[<-hacc,q1,q2,q3,q4,q5,q6];rfl))
   (fun _ q1 q2 q3 q4 q5 q6=>l2 _ _ (by rw[<-hacc,q1,q2,q3,q4,q5,q6];rfl))
   (fun _ q1 q2 q3 q4 q5=>l1 _ (by rw[<-hacc,q1,q2,q3,q4,q5];rfl))
   (fun _ q1 q2 q3 q4 q5 q6 q7=>l2 _ _ (by rw[<-hacc,q1,q2,q3,q4,q5,q6,q7];rfl))
   (fun _ q1 q2 q3 q4 q5 q6 q7=>l2 _ _ (by rw[<-hacc,q1,q2,q3,q4,q5,q6,q7];rfl))
   (fun _ q1 q2 q3 q4 q5 q6=>l1 _ (by rw[<-hacc,q1,q2,q3,q4,q5,q6];rfl))
   (fun _ q1 q2 q3 q4 q5 q6 q7=>l1 _ (by rw[<-hacc,q1,q2,q3,q4,q5,q6,q7];rfl))
   (fun _ q1 q2 q3 q4 q5 q6 q7=>l1 _ (by rw[<-hacc,q1,q2,q3,q4,q5,q6,q7];rfl))
   (fun _ q1 q2 q3 q4 q5 q6=>l0 (by rw[<-hacc,q1,q2,q3,q4,q5,q6];exact fA _))
   (fun _ q1 q2 q3 q4 q5 q6=>l1 _ (by rw[<-hacc,q1,q2,q3,q4,q5,q6];rfl))
   (fun _ q1 q2 q3 q4 q5 q6=>l0 (by rw[<-hacc,q1,q2,q3,q4,q5,q6];exact fA _))
   (fun _ q1 q2 q3 q4 q5=>l0 (by rw[<-hacc,q1,q2,q3,q4,q5];exact fA _))
   (fun _ q1 q2 q3 q4 q5 q6 q7=>l1 _ (by rw[<-hacc,q1,q2,q3,q4,q5,q6,q7];rfl))
   (fun _ q1 q2 q3 q4 q5 q6 q7=>l0 (by rw[<-hacc,q1,q2,q3,q4,q5,q6,q7];exact fA _))
   (fun _ q1 q2 q3 q4 q5 q6=>l0 (by rw[<-hacc,q1,q2,q3,q4,q5,q6];exact fA _))
   (fun _ q1 q2 q3 q4 q5 q6 q7=>l1 _ (by rw[<-hacc,q1,q2,q3,q4,q5,q6,q7];rfl))
   (fun _ q1 q2 q3 q4 q5 q6 q7=>l0 (by rw[<-hacc,q1,q2,q3,q4,q5,q6,q7];exact fA _))
   (fun _ q1 q2 q3 q4 q5 q6=>l0 (by rw[<-hacc,q1,q2,q3,q4,q5,q6];exact fA _))
   (fun q=>no q)
end
def ZU(H:Mem):List Sh->List Sh->Prop
 |[],[]=>True |s::l,s'::l'=>(∀u,Rep H s u->Rep H s' u)/\ZU H l l' |_,_=>False
theorem ae3{H:Mem}:∀{l l':List Sh},ZU H l l'->l'.length=l.length/\∀(j:Nat) (s':Sh),l'[j]?=ay s'->∃s:Sh,l[j]?=ay s/\∀u,Rep H s u->Rep H s' u
 |[],[],_=>⟨rfl,fun j s' h=>by cases h⟩ |_::_,_::_,⟨h,t⟩=>by
  obtain ⟨e,q⟩:=ae3 t;refine ⟨by simp[e],fun j s' h'=>?_⟩;match j,h' with
  |0,h'=>cases h';exact ⟨_,rfl,h⟩ |j+1,h'=>exact q j s' h'
 |[],_::_,h=>h.elim |_::_,[],h=>h.elim
theorem ahe{H:Mem}{l l':List Sh}{v:Value}(hr:Rep H (.pt l) v)(h:ZU H l l'):Rep H (.pt l') v:=by
 obtain ⟨e,q⟩:=ae3 h;cases hr with
 |pt _ b off c h1 h2 h3=>
  exact .pt _ b off c (fun j hj=>h1 j (by omega)) (fun j hj=>h2 j (by omega)) fun j s' hs=>by
   obtain ⟨s,hs',hu⟩:=q j s' hs;exact hu _ (h3 j s hs')
theorem Qv{H:Mem}{l l':List Sh}{v:Value}(hr:Rep H (.agg l) v)(h:ZU H l l'):Rep H (.agg l') v:=by
 obtain ⟨e,q⟩:=ae3 h;cases hr with
 |agg _ vs h1 h3=>
  exact .agg _ vs (by omega) fun j s' u hs hv=>by
   obtain ⟨s,hs',hu⟩:=q j s' hs;exact hu _ (h3 j s u hs' hv)
theorem ahf{H:Mem}{st n:Nat}{g:Nat->List Sh}{u:Value}(h:(fC st 4||fC n 0)=aC)(hr:Rep H (.sl st n g) u):Rep H (.sl 4 n g) u:=by
 rw[Bool.or_eq_true] at h;rcases h with h|h
 ·obtain rfl:=fH h
  exact hr
 ·obtain rfl:=fH h
  exact Qi hr (.inl ⟨rfl,rfl⟩)
theorem avP:Ar aB (AZ W7) 41 D41:=by
 refine FN (C:=C7 zW W7 NW Ap) (dw _ _) (fn:=rO) (by kernel_rfl) (by kernel_rfl) fun H w A8 args φ hrep h=>?_
 have hn:rO.ntmps=104:=by kernel_rfl
 unfold D41 at h;split at h
 ·rename_i lv s1 s2 s3 t st n g
  split at h
  ·rename_i N T' N' mk' q0 p e1 e2 e4 e3
   obtain ⟨h1,hφ⟩:=h;unfold tuB at h1;rw[aI,aI,aI] at h1;obtain ⟨a1,a2,a3,a4⟩:=h1;have Q:TuP lv N (zZ T') N' (zZ mk') p n g:=@of_decide_eq_true _ (bM _) a4;obtain rfl:=Q.eq;obtain ⟨q,rfl⟩:=Int.eq_ofNat_of_zero_le Q.pos;match args,hrep with
   |[v,u],⟨rv,ru,_⟩=>
    obtain ⟨k0,g0⟩:=q0;refine ⟨[.pt (BK lv N (zZ T') N (zZ mk') k0 g0),.agg [.i .i64 (q:Int),.sl 4 n g]],⟨ahe rv ⟨fun _ r=>r,fun _ r=>Ei (BD e1 r) a1,fun _ r=>Ei (BD e2 r) a2,fun _ r=>BD e4 r,trivial⟩,Qv ru ⟨fun _ r=>Ej e3 r,fun _ r=>ahf a3 r,trivial⟩,trivial⟩,L0,?_⟩;have hφ:φ (.sl 4 (tuL lv N (zZ T') (zZ mk') (q:Int) n g).length (zX (nth (tuL lv N (zZ T') (zZ mk') (q:Int) n g)))):=hφ;rw[<-aow] at hφ;refine EJ (dw _ _) (aiX _ aox) (hold:=Bh) (m:=300) (n:=400) (ts:=[⟨41,WT,Y7 lv N (zZ T') N (zZ mk') k0 g0 q n g 0 (nth []) ((0:Nat):Int),[]⟩]) ?_;rw[hn];exact aiW zW W7 lv N (zZ T') N (zZ mk') k0 g0 q n g 0 (nth []) _ ⟨⟨rfl,rfl,rfl,rfl,rfl,rfl,rfl,rfl,rfl,trivial⟩,_,rfl,akz Q N 0 [] (by omega) (by simp) hφ⟩
  ·exact h.elim
 ·exact h.elim
open Go Go.Conc Go.RowKit
set_option maxRecDepth 100000 in
theorem ahg(w:World):Calls aB 69 #[.chan aK] w fun e w'=>e=.returned (.bool ak)/\w'=w:=by
 refine calls_of_loneTo fun cs=>?_
 have e:gJ aB 69 #[.chan aK] .normal=(zQ 69).at ⟨#[.chan aK,undef,undef,undef,undef,undef,undef],[]⟩ [.code (rP.body.getD .skip)]:=by
  simp[gJ,Frame.at,yT,zQ,rP]
 rw[e];refine LoneTo.goes (n:=14) ?_;simp only[rP,nY];s_c stepG_seq
 s_reg
 s_op
 s_c stepG_region_end
 s_c stepG_seq
 s_reg
 s_op
 s_c stepG_region_end
 s_c stepG_seq
 s_reg
 s_stop
 refine LoneTo.step (step_lone_select_recv_nil (z:=.agg #[]) (stepG_comm (cases:=#[rcaseNil (.agg #[])]) (blocking:=ak) (shape:=.select) (w':=w) rfl rfl (by decide) (by simp[go_sem,execOp,rcaseNil,Act.eval]))) ?_;rw[Frame.finish_at];walk_nrm
 refine LoneTo.goes (n:=10) ?_;s_op
 s_op
 s_c stepG_region_end
 s_c stepG_block
 s_cond ak
 s_c stepG_seq
 s_reg
 s_op
 s_c stepG_region_end
 s_c stepG_ret'
 s_stop
 exact LoneTo.done ⟨.returned (.bool ak),_,rfl,⟨rfl,rfl⟩,rfl,rfl,rfl,rfl,_,yT,by simp[results,rP,Frame.at]⟩
def aoz:List zS->Go.Sx.Tree zS
 |[.v (.chan aK)]=>.leaf (.b ak) |_=>.fail
theorem avQ:Go.Sx.Ar aB (AZ W7) 69 aoz:=by
 intro H w A8 args φ hon hg hr h;unfold aoz at h;split at h
 ·match args,hr with
  |[v],⟨rv,_⟩=>
   cases rv;refine Calls.mono (ahg w) fun e w' ⟨he,hw⟩=>?_;subst hw;exact ⟨_,_,H,he,h,fun _ _ h=>h,hon,rfl,rfl,rfl,dn _,fun _ _=>rfl,fun b h=>.inl h,fun b0=>⟨fun _=>aK,fun i h=>absurd rfl h,fun i b h=>(by cases h),rfl,Go.Sx.OX⟩⟩
 ·exact h.elim
end Go.Proofs
namespace Go.Pl
open Go Go.Sx Go.Proofs
structure Ht where
 okb:Bool
 JG:Bool
 pos:Int
 e:Nat
 lv:Int
 N:Nat
 T:Nat->Ef
 ms:Nat->Int
 k0:Nat
 g0:Nat->List Sh
noncomputable def aoA(s:Sh)(l:Int)(h:Sh)(lv:Int):Bool:=@decide (s=h/\l=lv) (bM _)
noncomputable def Zz(st n:Nat)(g:Nat->List Sh):Bool:=(fC st 4||fC n 0)&&(stB n g&&keysB n (Ee n g))
noncomputable def Oy(n:Nat)(g:Nat->List Sh):List UInt8:=adE ((aX n).map (Ee n g))
structure Sz where
 placed:Int
 st:Nat
 n:Nat
 g:Nat->List Sh
instance:Inhabited Sz:=⟨⟨0,0,0,fun _=>[]⟩⟩
instance:Row Sz where
 put x:=[.i .i64 x.placed,.sl x.st x.n x.g]
 get l:=match l with
  |[.i .i64 a,.sl s n g]=>ay ⟨a,s,n,g⟩ |_=>aK
 Dp l a h:=by
  split at h
  ·cases h;rfl
  ·cases h
 get_put a:=rfl
 Jm:=default
structure PrQ where
 placed:Int
 key:List UInt8
instance:Inhabited PrQ:=⟨⟨0,[]⟩⟩
instance:Row PrQ where
 put x:=[.i .i64 x.placed,.str x.key]
 get l:=match l with
  |[.i .i64 a,.str k]=>ay ⟨a,k⟩ |_=>aK
 Dp l a h:=by
  split at h
  ·cases h;rfl
  ·cases h
 get_put a:=rfl
 Jm:=default
end Go.Pl
namespace Go.Proofs
open Go Go.Sx Go.Pl
noncomputable def WU(h0:Sh)(lv:Int)(B:Ht):List Sh->Tree Sh
 |[s,t]=>match AY t with
  |some l=>.need (aoA s l h0 lv) (.node B.okb (.leaf (.Ak [.pt (BK B.lv B.N B.T B.N B.ms B.k0 B.g0),.v .nilIface]))
   (.node B.JG (.leaf (.Ak [.v (.pointer aK),.CS 109 (.pt [.i .i64 B.pos,.er B.e 329])])) (.leaf (.Ak [.v (.pointer aK),.er B.e 329]))))
  |none=>.fail
 |_=>.fail
noncomputable def D92:List Sh->Tree Sh
 |[.agg [.sl st n g]]=>.need (Zz st n g) (.leaf (.str (Oy n g))) |_=>.fail
noncomputable def Dc(h0:Sh)(lv:Int)(B:Ht):Nat->Option (List Sh->Tree Sh)
 |40=>ay (WU h0 lv B) |41=>ay D41 |69=>ay aoz |92=>ay D92 |_=>aK
def tdA:List It:=[bD [0,0,1,1,1,1,1,1,1,1,1,1],dD 0,bD [1,1,1,1,1,1,1,1,1,1,1]]
def tbA:List It:=bD [0,0,0,1,1,1,1,1,1,1,1,1,1]::tdA
def hpA(B:Ht)(mo:Int)(M:Int×List UInt8->Option Value)(c:Nat)(cr:Nat->PrQ)(at_:Int)(q:Nat)(qr:Nat->Sz)(m:Nat)(od:Nat->U5):List (Nat×SB):=
 [(1,.box [.bool ak,.Aw,.int .i64 0] 44),(2,.pm .int M []),(3,.box [.sym .i64 mo,.mp 2,.gs 7] 204),(4,.box [.ptr 3 0] 154),(5,.box [.gs 8,.sym .i64 at_] 160),(6,.box [.gs 9] 158),(7,.own 157 2 c (zX cr)),(8,.own 104 2 q (zX qr)),(9,.own 104 2 m (zX od))]
def tmA(B:Ht):List (Nat×SV):=[(0,.val (.chan aK)),(8,.ptr 1 0),(10,.Gq 4 1 (fun _=>BK B.lv B.N B.T B.N B.ms B.k0 B.g0) 0 0),(12,.ptr 4 0),(13,.ptr 5 0),(14,.ptr 6 0),(15,.fn 64 [.ptr 4 0,.ptr 5 0,.ptr 6 0])]
def LA(B:Ht)(mo:Int)(M:Int×List UInt8->Option Value)(c:Nat)(cr:Nat->PrQ)(at_:Int)(q:Nat)(qr:Nat->Sz)(m:Nat)(od:Nat->U5):Core:=
 {tm:=Gv 111 (tmA B),hp:=hpA B mo M c cr at_ q qr m od,nx:=10,lim:=L0,tc:=[]}
def tdB:List It:=[bD [0,1,1,1,1,0,0,0,0,1,1,1,1,1,1,1,1,1,1],dD 2,dD 1,bD [0,0,1,1,1,1,1,1,1,1,1,1],dD 0,bD [1,1,1,1,1,1,1,1,1,1,1]]
def tbB:List It:=bD [0,0,1,1,1,1,0,0,0,0,1,1,1,1,1,1,1,1,1,1]::tdB
def LB(B:Ht)(mo:Int)(M:Int×List UInt8->Option Value)(c:Nat)(cr:Nat->PrQ)(at_:Int)(q:Nat)(qr:Nat->Sz)(m:Nat)(od:Nat->U5)(t:Nat)(tr:Nat->Jo)(j:Int):Core:=
 {tm:=Gv 111 (tmA B++[(76,.sh (.sl 4 t (zX tr))),(77,.sym .i64 (t:Int)),(78,.sym .i64 j)]),hp:=hpA B mo M c cr at_ q qr m od,nx:=10,lim:=L0,tc:=[]}
def Oz(B:Ht):List Fr:=[{g:=39,td:=[It.reg [0,1,1,1,1,1,1,1,1,1,1,1,1] [2,3],bD [1,1,1,1,1,1,1,1,1,1,1,1,1]],tm:=Gv 111 [(8,.ptr 1 0),(10,.Gq 4 1 (fun _=>BK B.lv B.N B.T B.N B.ms B.k0 B.g0) 0 0),(22,.ptr 11 0)]}]
def ZA:List It:=[bD [0,1,0,1,1],dD 0,bD [1,1,1]]
def tbC:List It:=bD [0,0,1,0,1,1]::ZA
def hpC(m:Nat)(od:Nat->U5)(M:Int×List UInt8->Option Value)(c:Int):List (Nat×SB):=[(1,.box [.bool ak,.Aw,.int .i64 0] 44),(9,.own 104 2 m (zX od)),(10,.pm .bool M []),(11,.box [.bool ak,.Aw,.sym .i64 c] 44)]
def tmC(B:Ht)(i:Int):List (Nat×SV):=[(0,.Gq 4 1 (fun _=>BK B.lv B.N B.T B.N B.ms B.k0 B.g0) 0 0),(1,.gs 9),(5,.mp 10),(6,.sym .i64 i)]
def LC(B:Ht)(m:Nat)(od:Nat->U5)(M:Int×List UInt8->Option Value)(c:Int)(i:Int):Core:={tm:=Gv 50 (tmC B i),hp:=hpC m od M c,nx:=12,lim:=L0,tc:=[]}
theorem aiZ(A:Prim)(W:Wd)(B:Ht)(lv mo:Int)(o m:Nat)(og mg:Nat->List Sh)(mo':Int)(M':Int×List UInt8->Option Value)(c':Nat)(Qw:Nat->PrQ)(at':Int)(q':Nat)(WV:Nat->Sz)(m':Nat)(od':Nat->U5){ψ:D8->Prop}{c0 c1 c2 c3 c4 c5 c6 c7:Bool}(e0:A.lt lv (ah 1)=c0)(e1:A.lt (ah 3) lv=c1)(e2:A.lt mo (ah 1)=c2)(e3:A.lt (ah 65536) mo=c3)(e4:B.okb=c4)(e5:A.isS aK=c5)(e6:A.eq (ah 0) (A.max mo (ah 0))=c6)(e7:B.JG=c7)(h1:c0=ak->c1=ak->c2=ak->c3=ak->(aoA (bH [aG 2 o og,aG 8 m mg]) lv (bH [aG 2 o og,aG 8 m mg]) lv)=aC)(h2:c0=ak->c1=ak->c2=ak->c3=ak->c4=aC->(Zz 4 B.k0 B.g0)=aC)(y1:c0=aC->ψ (aP (cZ [bH [eF ak,aG 0 0 fun _=>[],aW .i64 (ah 0)],aZ 2 329])))(y2:c0=ak->c1=aC->ψ (aP (cZ [bH [eF ak,aG 0 0 fun _=>[],aW .i64 (ah 0)],aZ 2 329])))(y3:c0=ak->c1=ak->c2=aC->ψ (aP (cZ [bH [eF ak,aG 0 0 fun _=>[],aW .i64 (ah 0)],aZ 4 329])))(y4:c0=ak->c1=ak->c2=ak->c3=aC->ψ (aP (cZ [bH [eF ak,aG 0 0 fun _=>[],aW .i64 (ah 0)],aZ 4 329])))(y5:c0=ak->c1=ak->c2=ak->c3=ak->c4=aC->c5=aC->ψ (bJ 0 [kR (iG aK) (iG aK),aJ 1 1,bC (fun (x:Nat)=>BK B.lv B.N B.T B.N B.ms B.k0 B.g0) fun (x:Nat)=>BK B.lv B.N B.T B.N B.ms B.k0 B.g0,aJ 0 0,aj (ah 0) (ah 0),jh (fun (x:Int×List UInt8)=>aK) M',aj (A.max mo (ah 0)) mo',aj (ah 0) at',aJ c' 0,aJ q' 0,aJ m' 0]))(y6:c0=ak->c1=ak->c2=ak->c3=ak->c4=aC->c5=ak->c6=aC->ψ (aP (cZ [bH [eF ak,aG 0 0 fun _=>[],aW .i64 (ah 0)],aZ 0 329])))(y7:c0=ak->c1=ak->c2=ak->c3=ak->c4=aC->c5=ak->c6=ak->ψ (bJ 0 [kR (iG aK) (iG aK),aJ 1 1,bC (fun (x:Nat)=>BK B.lv B.N B.T B.N B.ms B.k0 B.g0) fun (x:Nat)=>BK B.lv B.N B.T B.N B.ms B.k0 B.g0,aJ 0 0,aj (ah 0) (ah 0),jh (Ls (ah 0,Oy B.k0 B.g0) (ay (iR .i64 (ah 0))) fun (x:Int×List UInt8)=>aK) M',aj (A.max mo (ah 0)) mo',aj (ah 0) at',aJ 1 c',aT 1 (AU [[aW .i64 (ah 0),dA (Oy B.k0 B.g0)]]) (zX Qw),aJ 1 q',aT 1 (AU [[aW .i64 (ah 0),aG 4 B.k0 B.g0]]) (zX WV),aJ 1 m',aT 1 (AU [[aW .i64 (ah 0),aG 4 B.k0 B.g0]]) (zX od')]))(y8:c0=ak->c1=ak->c2=ak->c3=ak->c4=ak->c7=aC->ψ (aP (cZ [bH [eF ak,aG 0 0 fun _=>[],aW .i64 (ah 0)],Sh.CS 109 (sU [aW .i64 B.pos,aZ B.e 329])])))(y9:c0=ak->c1=ak->c2=ak->c3=ak->c4=ak->c7=ak->ψ (aP (cZ [bH [eF ak,aG 0 0 fun _=>[],aW .i64 (ah 0)],aZ B.e 329]))):Cc ψ (AQ (C7 A W (Dc (.agg [.sl 2 o og,.sl 8 m mg]) lv B) Ap) Bh 300 400 39 [.code []] (Aa 111 [.v (.chan aK),.agg [.sl 2 o og,.sl 8 m mg],.i .i64 lv,.i .i64 mo] L0) [] [⟨39,tdA,LA B mo' M' c' Qw at' q' WV m' od',[]⟩]):=by
 subst e0 e1 e2 e3 e4 e5 e6 e7;exact aol (by kernel_rfl) (an y1 (fun q0=>an (y2 q0) (fun q1=>an (y3 q0 q1) (fun q2=>an (y4 q0 q1 q2) (fun q3=>an (h1 q0 q1 q2 q3) (an (fun q4=>an (h2 q0 q1 q2 q3 q4) (an (y5 q0 q1 q2 q3 q4) (fun q5=>an (y6 q0 q1 q2 q3 q4 q5) (y7 q0 q1 q2 q3 q4 q5)))) (fun q4=>an (y8 q0 q1 q2 q3 q4) (y9 q0 q1 q2 q3 q4)))))))) (by kernel_rfl)
theorem U6(A:Prim)(W:Wd)(B:Ht)(hs:Sh)(lv mo:Int)(M:Int×List UInt8->Option Value)(c:Nat)(cr:Nat->PrQ)(at_:Int)(q:Nat)(qr:Nat->Sz)(m:Nat)(od:Nat->U5)(at':Int)(q':Nat)(WV:Nat->Sz)(t:Nat)(tr:Nat->Jo)(M':Int×List UInt8->Option Value)(c' i':Int){ψ:D8->Prop}{c0 c1 c2:Bool}(e0:A.eq at_ (A.AO q)=c0)(e1:A.eq (A.add .i64 at_ (ah 1)) (A.AO q)=c1)(e2:ak=c2)(h1:c0=ak->(A.inB at_ q)=aC)(h2:c0=ak->c1=aC->c2=ak->(tuB B.lv B.N (zX B.T) B.N (zX B.ms) (qr (A.toN at_)).placed (qr (A.toN at_)).st (qr (A.toN at_)).n (qr (A.toN at_)).g)=aC)(h3:c0=ak->c1=ak->c2=ak->(tuB B.lv B.N (zX B.T) B.N (zX B.ms) (qr (A.toN at_)).placed (qr (A.toN at_)).st (qr (A.toN at_)).n (qr (A.toN at_)).g)=aC)(y1:c0=aC->ψ (bJ 1 [aJ 1 1,bC (fun (x:Nat)=>BK B.lv B.N B.T B.N B.ms B.k0 B.g0) fun (x:Nat)=>BK B.lv B.N B.T B.N B.ms B.k0 B.g0,aJ 0 0,aj (A.sub .i64 (A.AO m) (ah 1)) i',aj (ah 0) (ah 0),aJ m m,aT m (zX od) (zX od),jh (fun (x:Int×List UInt8)=>aK) M',aj (A.AO c) c',aJ 1 1,bC (fun (x:Nat)=>BK B.lv B.N B.T B.N B.ms B.k0 B.g0) fun (x:Nat)=>BK B.lv B.N B.T B.N B.ms B.k0 B.g0,aJ 0 0]))(y2:c0=ak->c1=aC->c2=aC->ψ (aP (cZ [bH [eF ak,aG 0 0 fun _=>[],aW .i64 (ah 0)],aZ 5 329])))(y3:c0=ak->c1=aC->c2=ak->ψ (bJ 0 [kR (iG aK) (iG aK),aJ 1 1,bC (fun (x:Nat)=>BK B.lv B.N B.T B.N B.ms B.k0 B.g0) fun (x:Nat)=>BK B.lv B.N B.T B.N B.ms B.k0 B.g0,aJ 0 0,aQ (aG 4 (Ox B.lv B.N (zX B.T) (zX B.ms) (qr (A.toN at_)).placed (qr (A.toN at_)).n (qr (A.toN at_)).g) (zX (Zy B.lv B.N (zX B.T) (zX B.ms) (qr (A.toN at_)).placed (qr (A.toN at_)).n (qr (A.toN at_)).g))) (aG 4 t (zX tr)),aj (A.AO (Ox B.lv B.N (zX B.T) (zX B.ms) (qr (A.toN at_)).placed (qr (A.toN at_)).n (qr (A.toN at_)).g)) (ah t),aj (ah 0) (ah 0),aj (ah 0) (ah 0),jh M M,aj mo mo,aj (ah 0) at',aJ c c,aT c (zX cr) (zX cr),aJ q' 0,aJ m m,aT m (zX od) (zX od)]))(y4:c0=ak->c1=ak->c2=aC->ψ (aP (cZ [bH [eF ak,aG 0 0 fun _=>[],aW .i64 (ah 0)],aZ 5 329])))(y5:c0=ak->c1=ak->c2=ak->ψ (bJ 0 [kR (iG aK) (iG aK),aJ 1 1,bC (fun (x:Nat)=>BK B.lv B.N B.T B.N B.ms B.k0 B.g0) fun (x:Nat)=>BK B.lv B.N B.T B.N B.ms B.k0 B.g0,aJ 0 0,aQ (aG 4 (Ox B.lv B.N (zX B.T) (zX B.ms) (qr (A.toN at_)).placed (qr (A.toN at_)).n (qr (A.toN at_)).g) (zX (Zy B.lv B.N (zX B.T) (zX B.ms) (qr (A.toN at_)).placed (qr (A.toN at_)).n (qr (A.toN at_)).g))) (aG 4 t (zX tr)),aj (A.AO (Ox B.lv B.N (zX B.T) (zX B.ms) (qr (A.toN at_)).placed (qr (A.toN at_)).n (qr (A.toN at_)).g)) (ah t),aj (ah 0) (ah 0),aj (ah 0) (ah 0),jh M M,aj mo mo,aj (A.add .i64 at_ (ah 1)) at',aJ c c,aT c (zX cr) (zX cr),aJ q q',aT q (A.upd (zX qr) (A.toN at_) 0 [aW .i64 (ah 0),aG 0 0 fun _=>[]]) (zX WV),aJ m m,aT m (zX od) (zX od)])):Cc ψ (AQ (C7 A W (Dc hs lv B) Ap) Bh 300 400 39 tbA (LA B mo M c cr at_ q qr m od) [] [⟨39,tdB,LB B mo M c cr at' q' WV m od t tr 0,[]⟩,⟨71,ZA,LC B m od M' c' i',Oz B⟩]):=by
 subst e0 e1 e2;exact Gh (an y1 (fun q0=>an (h1 q0) (an (h1 q0) (an (fun q1=>an (y2 q0 q1) (fun q2=>an (h2 q0 q1 q2) (y3 q0 q1 q2))) (fun q1=>an (y4 q0 q1) (fun q2=>an (h3 q0 q1 q2) (y5 q0 q1 q2))))))) (by kernel_rfl)
theorem Qx(A:Prim)(W:Wd)(B:Ht)(hs:Sh)(lv mo:Int)(M M':Int×List UInt8->Option Value)(c c':Nat)(cr Qw:Nat->PrQ)(at_:Int)(q q':Nat)(qr WV:Nat->Sz)(m m':Nat)(od od':Nat->U5)(t:Nat)(tr:Nat->Jo)(j j':Int){ψ:D8->Prop}{c0 c1 c2:Bool}(e0:A.lt j (ah t)=c0)(e1:A.isS (M ((tr (A.toN j)).placed,Oy (tr (A.toN j)).n (tr (A.toN j)).g))=c1)(e2:A.eq (A.AO c) mo=c2)(h1:c0=aC->(A.inB j t)=aC)(h2:c0=aC->(Zz 4 (tr (A.toN j)).n (tr (A.toN j)).g)=aC)(h3:c0=aC->c1=ak->c2=ak->(A.room (A.addN c 1) 24)=aC)(h4:c0=aC->c1=ak->c2=ak->(A.room (A.addN q 1) 32)=aC)(h5:c0=aC->c1=ak->c2=ak->(A.room (A.addN m 1) 32)=aC)(y1:c0=aC->c1=aC->ψ (bJ 0 [kR (iG aK) (iG aK),aJ 1 1,bC (fun (x:Nat)=>BK B.lv B.N B.T B.N B.ms B.k0 B.g0) fun (x:Nat)=>BK B.lv B.N B.T B.N B.ms B.k0 B.g0,aJ 0 0,aQ (aG 4 t (zX tr)) (aG 4 t (zX tr)),aj (ah t) (ah t),aj (A.add .i64 j (ah 1)) j',aj (ah 0) (ah 0),jh M M',aj mo mo,aj at_ at_,aJ c c',aT c (zX cr) (zX Qw),aJ q q',aT q (zX qr) (zX WV),aJ m m',aT m (zX od) (zX od')]))(y2:c0=aC->c1=ak->c2=aC->ψ (aP (cZ [bH [eF ak,aG 0 0 fun _=>[],aW .i64 (ah 0)],aZ 0 329])))(y3:c0=aC->c1=ak->c2=ak->ψ (bJ 0 [kR (iG aK) (iG aK),aJ 1 1,bC (fun (x:Nat)=>BK B.lv B.N B.T B.N B.ms B.k0 B.g0) fun (x:Nat)=>BK B.lv B.N B.T B.N B.ms B.k0 B.g0,aJ 0 0,aQ (aG 4 t (zX tr)) (aG 4 t (zX tr)),aj (ah t) (ah t),aj (A.add .i64 j (ah 1)) j',aj (ah 0) (ah 0),jh (Ls ((tr (A.toN j)).placed,Oy (tr (A.toN j)).n (tr (A.toN j)).g) (ay (iR .i64 (A.AO c))) M) M',aj mo mo,aj at_ at_,aJ (A.addN c 1) c',aT (A.addN c 1) (A.snoc (zX cr) c (AU [[aW .i64 (tr (A.toN j)).placed,dA (Oy (tr (A.toN j)).n (tr (A.toN j)).g)]])) (zX Qw),aJ (A.addN q 1) q',aT (A.addN q 1) (A.snoc (zX qr) q (AU [[aW .i64 (tr (A.toN j)).placed,aG 4 (tr (A.toN j)).n (tr (A.toN j)).g]])) (zX WV),aJ (A.addN m 1) m',aT (A.addN m 1) (A.snoc (zX od) m (AU [[aW .i64 (tr (A.toN j)).placed,aG 4 (tr (A.toN j)).n (tr (A.toN j)).g]])) (zX od')]))(y4:c0=ak->ψ (bJ 1 [kR (iG aK) (iG aK),aJ 1 1,bC (fun (x:Nat)=>BK B.lv B.N B.T B.N B.ms B.k0 B.g0) fun (x:Nat)=>BK B.lv B.N B.T B.N B.ms B.k0 B.g0,aJ 0 0,aj (ah 0) (ah 0),jh M M,aj mo mo,aj at_ at_,aJ c c,aT c (zX cr) (zX cr),aJ q q,aT q (zX qr) (zX qr),aJ m m,aT m (zX od) (zX od)])):Cc ψ (AQ (C7 A W (Dc hs lv B) Ap) Bh 300 400 39 tbB (LB B mo M c cr at_ q qr m od t tr j) [] [⟨39,tdB,LB B mo M' c' Qw at_ q' WV m' od' t tr j',[]⟩,⟨39,tdA,LA B mo M c cr at_ q qr m od,[]⟩]):=by
 subst e0 e1 e2;exact aol (by kernel_rfl) (an (fun q0=>an (h1 q0) (an (h2 q0) (an (y1 q0) (fun q1=>an (y2 q0 q1) (fun q2=>an (h3 q0 q1 q2) (an (h3 q0 q1 q2) (an (h4 q0 q1 q2) (an (h4 q0 q1 q2) (an (h5 q0 q1 q2) (y3 q0 q1 q2)))))))))) y4) (by kernel_rfl)
end Go.Proofs
namespace Go.Pl
open Go Go.Sx Go.Proofs
structure DL where
 tx:Int
 com:Bool
 deriving DecidableEq
instance:Inhabited DL:=⟨⟨0,ak⟩⟩
instance:Row DL where
 put x:=[.i .i64 x.tx,.b x.com]
 get l:=match l with
  |[.i .i64 a,.b c]=>ay ⟨a,c⟩ |_=>aK
 Dp l a h:=by
  split at h
  ·cases h;rfl
  ·cases h
 get_put a:=rfl
 Jm:=default
end Go.Pl
namespace Go.Proofs
open Go Go.Sx Go.Pl
def tdD:List It:=[bD [0,1,0,1,1,0,0,1,0,0,1,0,1,1],dD 2,bD [1,1,1,0,0,1,0,0,1,0,1,1],dD 1,bD [1,1,0,0,1,0,1,1],bD [0,1,0,1,1],dD 0,bD [1,1,1]]
def tbD:List It:=bD [0,0,1,0,1,1,0,0,1,0,0,1,0,1,1]::tdD
def LD(B:Ht)(m:Nat)(od:Nat->U5)(M:Int×List UInt8->Option Value)(c:Int)(i:Int)(p:Int)(n:Nat)(g:Nat->List Sh)(is:Bool)(t:Nat)(tr:Nat->Jo)(j:Int):Core:=
 {tm:=Gv 50 (tmC B i++[(7,.ptr 12 0),(8,.test is),(30,.sh (.sl 4 t (zX tr))),(31,.sym .i64 (t:Int)),(32,.sym .i64 j)]),hp:=hpC m od M c++[(12,.box [.sym .i64 p,.sh (.sl 4 n g)] 104)],nx:=13,lim:=L0,tc:=[]}
def Ua(B:Ht):List Fr:=[{g:=39,td:=[It.reg [0,1,0,1,1,1,1,1,1,1,1,1,1,1,1,1] [2,3,4,5,6],bD [1,1,1,1,1,1,1,1,1,1,1,1,1,1]],tm:=Gv 111 [(8,.ptr 1 0),(22,.ptr 11 0)]}]
def tdE:List It:=[bD [0,1,0,1,1],dD 0,bD [1,1,1]]
def tbE:List It:=bD [0,0,1,0,1,1]::tdE
def hpE(M:Int×List UInt8->Option Value)(c:Int)(p:Int)(n:Nat)(g:Nat->List Sh)(k:Nat)(sr:Nat->DL):List (Nat×SB):=[(1,.box [.bool ak,.Aw,.int .i64 0] 44),(10,.pm .bool M []),(11,.box [.bool ak,.Aw,.sym .i64 c] 44),(12,.box [.sym .i64 p,.sh (.sl 4 n g)] 104),(13,.own 55 2 k (zX sr))]
def tmE(B:Ht):List (Nat×SV):=[(0,.Gq 4 1 (fun _=>BK B.lv B.N B.T B.N B.ms B.k0 B.g0) 0 0),(1,.mp 10),(5,.gs 13),(6,.ptr 12 0)]
def LE(B:Ht)(M:Int×List UInt8->Option Value)(c:Int)(p:Int)(n:Nat)(g:Nat->List Sh)(k:Nat)(sr:Nat->DL):Core:={tm:=Gv 42 (tmE B),hp:=hpE M c p n g k sr,nx:=14,lim:=L0,tc:=[]}
def tdF:List It:=[bD [0,1,0,0,1,0,0,1,0,1,1],dD 2,dD 1,bD [1,1,0,0,1,0,1,1],bD [0,1,0,1,1],dD 0,bD [1,1,1]]
def tbF:List It:=bD [0,0,1,0,0,1,0,0,1,0,1,1]::tdF
def LF(B:Ht)(M:Int×List UInt8->Option Value)(c:Int)(p:Int)(n:Nat)(g:Nat->List Sh)(k:Nat)(sr:Nat->DL)(t:Nat)(tr:Nat->Jo)(j:Int):Core:={tm:=Gv 42 (tmE B++[(21,.sh (.sl 4 t (zX tr))),(22,.sym .i64 (t:Int)),(23,.sym .i64 j)]),hp:=hpE M c p n g k sr,nx:=14,lim:=L0,tc:=[]}
theorem abH(A:Prim)(W:Wd)(B:Ht)(hs:Sh)(lv:Int)(M:Int×List UInt8->Option Value)(m:Nat)(od:Nat->U5)(c i:Int)(p:Int)(n:Nat)(g:Nat->List Sh)(is:Bool)(t:Nat)(tr:Nat->Jo)(sr:Nat->DL){ψ:D8->Prop}{c0 c1 c2:Bool}(e0:A.le (ah 0) i=c0)(e1:A.isS (M (ah 0,Oy B.k0 B.g0))=c1)(e2:A.G9 (M (ah 0,Oy B.k0 B.g0))=c2)(h1:c0=aC->(A.inB i m)=aC)(h2:c0=aC->(A.le (ah 0) (A.AO B.N))=aC)(h3:c0=aC->(tuB B.lv B.N (zX B.T) B.N (zX B.ms) (od (A.toN i)).placed 4 (od (A.toN i)).n (od (A.toN i)).g)=aC)(h4:c0=ak->(Zz 4 B.k0 B.g0)=aC)(y1:c0=aC->ψ (bJ 0 [aJ 1 1,bC (fun (x:Nat)=>BK B.lv B.N B.T B.N B.ms B.k0 B.g0) fun (x:Nat)=>BK B.lv B.N B.T B.N B.ms B.k0 B.g0,aJ 0 0,aj i i,pz (A.eq (od (A.toN i)).placed (A.sub .i64 (A.bin iq aN (ah 1) (A.AO B.N)) (ah 1))) is,aQ (aG 4 (Ox B.lv B.N (zX B.T) (zX B.ms) (od (A.toN i)).placed (od (A.toN i)).n (od (A.toN i)).g) (zX (Zy B.lv B.N (zX B.T) (zX B.ms) (od (A.toN i)).placed (od (A.toN i)).n (od (A.toN i)).g))) (aG 4 t (zX tr)),aj (A.AO (Ox B.lv B.N (zX B.T) (zX B.ms) (od (A.toN i)).placed (od (A.toN i)).n (od (A.toN i)).g)) (ah t),aj (ah 0) (ah 0),aj (ah 0) (ah 0),aJ m m,aT m (zX od) (zX od),jh M M,aj c c,aj (od (A.toN i)).placed p,aQ (aG 4 (od (A.toN i)).n (od (A.toN i)).g) (aG 4 n g),aJ 1 1,bC (fun (x:Nat)=>BK B.lv B.N B.T B.N B.ms B.k0 B.g0) fun (x:Nat)=>BK B.lv B.N B.T B.N B.ms B.k0 B.g0,aJ 0 0]))(y2:c0=ak->c1=aC->c2=aC->ψ (bJ 1 [aJ 1 1,bC (fun (x:Nat)=>BK B.lv B.N B.T B.N B.ms B.k0 B.g0) fun (x:Nat)=>BK B.lv B.N B.T B.N B.ms B.k0 B.g0,aJ 0 0,aj (ah 0) (ah 0),jh M M,aj c c,aj (ah 0) (ah 0),aQ (aG 4 B.k0 B.g0) (aG 4 B.k0 B.g0),aJ 0 0]))(y3:c0=ak->c1=aC->c2=ak->ψ (aP (cZ [bH [eF ak,aG 0 0 fun _=>[],aW .i64 c],jC bI])))(y4:c0=ak->c1=ak->ψ (aP (cZ [bH [eF ak,aG 0 0 fun _=>[],aW .i64 c],jC bI]))):Cc ψ (AQ (C7 A W (Dc hs lv B) Ap) Bh 300 400 71 tbC (LC B m od M c i) (Oz B) [⟨71,tdD,LD B m od M c i p n g is t tr 0,Oz B⟩,⟨72,tdE,LE B M c 0 B.k0 B.g0 0 sr,Ua B⟩]):=by
 subst e0 e1 e2;exact Gh (an (fun q0=>an (h1 q0) (an (h2 q0) (an (h3 q0) (y1 q0)))) (fun q0=>an (h4 q0) (an (fun q1=>an (y2 q0 q1) (y3 q0 q1)) (y4 q0)))) (by kernel_rfl)
theorem abI(A:Prim)(W:Wd)(B:Ht)(hs:Sh)(lv:Int)(M M':Int×List UInt8->Option Value)(m:Nat)(od:Nat->U5)(c i:Int)(p:Int)(n:Nat)(g:Nat->List Sh)(is is':Bool)(t:Nat)(tr:Nat->Jo)(j j' i':Int){ψ:D8->Prop}{c0 c1 c2:Bool}(e0:A.lt j (ah t)=c0)(e1:is=c1)(e2:A.isS (M ((tr (A.toN j)).placed,Oy (tr (A.toN j)).n (tr (A.toN j)).g))=c2)(h1:c0=aC->(A.inB j t)=aC)(h2:c0=aC->c1=ak->(Zz 4 (tr (A.toN j)).n (tr (A.toN j)).g)=aC)(h3:c0=ak->(Zz 4 n g)=aC)(y1:c0=aC->c1=aC->ψ (bJ 0 [aJ 1 1,bC (fun (x:Nat)=>BK B.lv B.N B.T B.N B.ms B.k0 B.g0) fun (x:Nat)=>BK B.lv B.N B.T B.N B.ms B.k0 B.g0,aJ 0 0,aj i i,pz aC is',aQ (aG 4 t (zX tr)) (aG 4 t (zX tr)),aj (ah t) (ah t),aj (A.add .i64 j (ah 1)) j',aj (ah 0) (ah 0),aJ m m,aT m (zX od) (zX od),jh M M,aj c c,aj p p,aQ (aG 4 n g) (aG 4 n g),aJ 1 1,bC (fun (x:Nat)=>BK B.lv B.N B.T B.N B.ms B.k0 B.g0) fun (x:Nat)=>BK B.lv B.N B.T B.N B.ms B.k0 B.g0,aJ 0 0]))(y2:c0=aC->c1=ak->c2=aC->ψ (bJ 0 [aJ 1 1,bC (fun (x:Nat)=>BK B.lv B.N B.T B.N B.ms B.k0 B.g0) fun (x:Nat)=>BK B.lv B.N B.T B.N B.ms B.k0 B.g0,aJ 0 0,aj i i,pz (A.G9 (M ((tr (A.toN j)).placed,Oy (tr (A.toN j)).n (tr (A.toN j)).g))) is',aQ (aG 4 t (zX tr)) (aG 4 t (zX tr)),aj (ah t) (ah t),aj (A.add .i64 j (ah 1)) j',aj (ah 0) (ah 0),aJ m m,aT m (zX od) (zX od),jh M M,aj c c,aj p p,aQ (aG 4 n g) (aG 4 n g),aJ 1 1,bC (fun (x:Nat)=>BK B.lv B.N B.T B.N B.ms B.k0 B.g0) fun (x:Nat)=>BK B.lv B.N B.T B.N B.ms B.k0 B.g0,aJ 0 0]))(y3:c0=aC->c1=ak->c2=ak->ψ (bJ 0 [aJ 1 1,bC (fun (x:Nat)=>BK B.lv B.N B.T B.N B.ms B.k0 B.g0) fun (x:Nat)=>BK B.lv B.N B.T B.N B.ms B.k0 B.g0,aJ 0 0,aj i i,pz ak is',aQ (aG 4 t (zX tr)) (aG 4 t (zX tr)),aj (ah t) (ah t),aj (A.add .i64 j (ah 1)) j',aj (ah 0) (ah 0),aJ m m,aT m (zX od) (zX od),jh M M,aj c c,aj p p,aQ (aG 4 n g) (aG 4 n g),aJ 1 1,bC (fun (x:Nat)=>BK B.lv B.N B.T B.N B.ms B.k0 B.g0) fun (x:Nat)=>BK B.lv B.N B.T B.N B.ms B.k0 B.g0,aJ 0 0]))(y4:c0=ak->ψ (bJ 1 [aJ 1 1,bC (fun (x:Nat)=>BK B.lv B.N B.T B.N B.ms B.k0 B.g0) fun (x:Nat)=>BK B.lv B.N B.T B.N B.ms B.k0 B.g0,aJ 0 0,aj (A.sub .i64 i (ah 1)) i',aj (ah 0) (ah 0),aJ m m,aT m (zX od) (zX od),jh (Ls (p,Oy n g) (ay (Value.bool is)) M) M',aj c c,aJ 1 1,bC (fun (x:Nat)=>BK B.lv B.N B.T B.N B.ms B.k0 B.g0) fun (x:Nat)=>BK B.lv B.N B.T B.N B.ms B.k0 B.g0,aJ 0 0])):Cc ψ (AQ (C7 A W (Dc hs lv B) Ap) Bh 300 400 71 tbD (LD B m od M c i p n g is t tr j) (Oz B) [⟨71,tdD,LD B m od M c i p n g is' t tr j',Oz B⟩,⟨71,ZA,LC B m od M' c i',Oz B⟩]):=by
 subst e0 e1 e2;exact Gh (an (fun q0=>an (h1 q0) (an (y1 q0) (fun q1=>an (h2 q0 q1) (an (y2 q0 q1) (y3 q0 q1))))) (fun q0=>an (h3 q0) (y4 q0))) (by kernel_rfl)
theorem abJ(A:Prim)(W:Wd)(B:Ht)(hs:Sh)(lv:Int)(M:Int×List UInt8->Option Value)(c:Int)(p:Int)(n:Nat)(g:Nat->List Sh)(k:Nat)(sr:Nat->DL)(t:Nat)(tr:Nat->Jo){ψ:D8->Prop}{c0:Bool}(e0:A.nt (A.eq p (A.sub .i64 (A.bin iq aN (ah 1) (A.AO B.N)) (ah 1)))=c0)(h1:(A.le (ah 0) (A.AO B.N))=aC)(h2:c0=aC->(tuB B.lv B.N (zX B.T) B.N (zX B.ms) p 4 n g)=aC)(y1:c0=aC->ψ (bJ 0 [aJ 1 1,bC (fun (x:Nat)=>BK B.lv B.N B.T B.N B.ms B.k0 B.g0) fun (x:Nat)=>BK B.lv B.N B.T B.N B.ms B.k0 B.g0,aJ 0 0,aQ (aG 4 (Ox B.lv B.N (zX B.T) (zX B.ms) p n g) (zX (Zy B.lv B.N (zX B.T) (zX B.ms) p n g))) (aG 4 t (zX tr)),aj (A.AO (Ox B.lv B.N (zX B.T) (zX B.ms) p n g)) (ah t),aj (ah 0) (ah 0),aj (ah 0) (ah 0),jh M M,aj c c,aj p p,aQ (aG 4 n g) (aG 4 n g),aJ k k,aT k (zX sr) (zX sr)]))(y2:c0=ak->ψ (aP (cZ [bH [eF aC,Sh.os 55 2 k (zX sr),aW .i64 c],jC bI]))):Cc ψ (AQ (C7 A W (Dc hs lv B) Ap) Bh 300 400 72 tbE (LE B M c p n g k sr) (Ua B) [⟨72,tdF,LF B M c p n g k sr t tr 0,Ua B⟩]):=by
 subst e0;exact Gh (an h1 (an (fun q0=>an (h2 q0) (y1 q0)) y2)) (by kernel_rfl)
theorem abK(A:Prim)(W:Wd)(B:Ht)(hs:Sh)(lv:Int)(M:Int×List UInt8->Option Value)(c:Int)(p p':Int)(n n':Nat)(g g':Nat->List Sh)(k k':Nat)(sr sr':Nat->DL)(t:Nat)(tr:Nat->Jo)(j j':Int){ψ:D8->Prop}{c0 c1 c2:Bool}(e0:A.lt j (ah t)=c0)(e1:A.isS (M ((tr (A.toN j)).placed,Oy (tr (A.toN j)).n (tr (A.toN j)).g))=c1)(e2:A.G9 (M ((tr (A.toN j)).placed,Oy (tr (A.toN j)).n (tr (A.toN j)).g))=c2)(h1:c0=aC->(A.inB j t)=aC)(h2:c0=aC->(Zz 4 (tr (A.toN j)).n (tr (A.toN j)).g)=aC)(h3:c0=aC->c1=aC->c2=aC->(A.room (A.addN k 1) 16)=aC)(y1:c0=aC->c1=aC->c2=aC->ψ (bJ 1 [aJ 1 1,bC (fun (x:Nat)=>BK B.lv B.N B.T B.N B.ms B.k0 B.g0) fun (x:Nat)=>BK B.lv B.N B.T B.N B.ms B.k0 B.g0,aJ 0 0,aj (ah 0) (ah 0),jh M M,aj c c,aj (tr (A.toN j)).placed p',aQ (aG 4 (tr (A.toN j)).n (tr (A.toN j)).g) (aG 4 n' g'),aJ (A.addN k 1) k',aT (A.addN k 1) (A.snoc (zX sr) k (AU [[aW .i64 (tr (A.toN j)).tx,eF (tr (A.toN j)).com]])) (zX sr')]))(y2:c0=aC->c1=aC->c2=ak->ψ (bJ 0 [aJ 1 1,bC (fun (x:Nat)=>BK B.lv B.N B.T B.N B.ms B.k0 B.g0) fun (x:Nat)=>BK B.lv B.N B.T B.N B.ms B.k0 B.g0,aJ 0 0,aQ (aG 4 t (zX tr)) (aG 4 t (zX tr)),aj (ah t) (ah t),aj (A.add .i64 j (ah 1)) j',aj (ah 0) (ah 0),jh M M,aj c c,aj p p,aQ (aG 4 n g) (aG 4 n g),aJ k k,aT k (zX sr) (zX sr)]))(y3:c0=aC->c1=ak->ψ (bJ 0 [aJ 1 1,bC (fun (x:Nat)=>BK B.lv B.N B.T B.N B.ms B.k0 B.g0) fun (x:Nat)=>BK B.lv B.N B.T B.N B.ms B.k0 B.g0,aJ 0 0,aQ (aG 4 t (zX tr)) (aG 4 t (zX tr)),aj (ah t) (ah t),aj (A.add .i64 j (ah 1)) j',aj (ah 0) (ah 0),jh M M,aj c c,aj p p,aQ (aG 4 n g) (aG 4 n g),aJ k k,aT k (zX sr) (zX sr)]))(y4:c0=ak->ψ (bJ 1 [aJ 1 1,bC (fun (x:Nat)=>BK B.lv B.N B.T B.N B.ms B.k0 B.g0) fun (x:Nat)=>BK B.lv B.N B.T B.N B.ms B.k0 B.g0,aJ 0 0,aj (ah 0) (ah 0),jh M M,aj c c,aj p p',aQ (aG 4 n g) (aG 4 n' g'),aJ k k',aT k (zX sr) (zX sr')])):Cc ψ (AQ (C7 A W (Dc hs lv B) Ap) Bh 300 400 72 tbF (LF B M c p n g k sr t tr j) (Ua B) [⟨72,tdF,LF B M c p n g k sr t tr j',Ua B⟩,⟨72,tdE,LE B M c p' n' g' k' sr',Ua B⟩]):=by
 subst e0 e1 e2;exact Gh (an (fun q0=>an (h1 q0) (an (h2 q0) (an (fun q1=>an (fun q2=>an (h3 q0 q1 q2) (y1 q0 q1 q2)) (y2 q0 q1)) (y3 q0)))) y4) (by kernel_rfl)
end Go.Proofs
namespace Go.Pl
open Go Go.Sx Go.Proofs Go.Gm Go.Bf
abbrev SG:=Nat->List Sh
noncomputable def Gb(B:Ht):Game SG:=TY B.lv B.N B.T B.ms B.k0
noncomputable def CP(k0:Nat)(nd:Nd SG):Int×List UInt8:=((nd.placed:Nat),Oy k0 nd.st)
def I7(k0:Nat)(nd:Nd SG):U5:=⟨(nd.placed:Nat),k0,nd.st⟩
def D7(t:Int×Bool):DL:=⟨t.1,t.2⟩
structure Le(B:Ht)(Q:Nd SG->Prop):Prop where
 start:Q ⟨0,B.g0⟩
 step:∀nd,Q nd->∀t∈next (Gb B) nd,Q t
 tu:∀nd,Q nd->TuP B.lv B.N B.T B.N B.ms (nd.placed:Nat) B.k0 nd.st
 ke:∀nd,Q nd->Zz 4 B.k0 nd.st=aC
section
variable{B:Ht}{Q:Nd SG->Prop}{nd:Nd SG}
theorem WW(hg:Le B Q)(h:Q nd){st:Nat}(hst:(fC st 4||fC B.k0 0)=aC):tuB B.lv B.N (zX B.T) B.N (zX B.ms) (nd.placed:Nat) st B.k0 nd.st=aC:=by
 unfold tuB;rw[Dy,Dy,hst,G6,G6];exact @decide_eq_true _ (bM _) (hg.tu nd h)
theorem KG:Ox B.lv B.N (zX B.T) (zX B.ms) (nd.placed:Nat) B.k0 nd.st=(turns (Gb B) nd).length:=by
 unfold Ox tuL;rw[G6,G6,dW];rfl
theorem WX:Zy B.lv B.N (zX B.T) (zX B.ms) (nd.placed:Nat) B.k0 nd.st=nth ((turns (Gb B) nd).map (Gx B.k0)):=by
 unfold Zy tuL;rw[G6,G6];rfl
theorem Pg{α β:Type}[Row β](f:α->β)(l:List α){j:Nat}{a:α}(h:l[j]?=ay a):nth (l.map f) j=f a:=by
 unfold nth;rw[aY,List.getElem?_map,h];rfl
theorem Ph(hN:B.N<=62)(nd:Nd SG):(turns (Gb B) nd).length<=124:=by
 have key:∀(l:List Nat),(l.flatMap (G5 (Gb B) nd)).length<=2*l.length:=by
  intro l;induction l with
  |nil=>simp |cons a l ih=>
   rw[oG,bf,List.length_cons];have:(G5 (Gb B) nd a).length<=2:=by
    unfold G5;split
    ·rw[bf]
     refine Nat.le_trans (Nat.add_le_add (?_:_<=1) (?_:_<=1)) (by decide)
     ·split<;>simp
     ·split<;>simp
    ·simp
   omega
 have:=key (aX B.N);rw[lG] at this;have e:(turns (Gb B) nd).length=(((aX B.N).flatMap (G5 (Gb B) nd))).length:=rfl;omega
end
end Go.Pl
namespace Go.Proofs
open Go Go.Sx Go.Pl Go.Gm Go.Bf
theorem avZ:Ar aB (AZ W7) 92 D92:=fun H w A8 args φ hon hg hr h=>by
 unfold D92 at h;split at h
 ·rename_i st n g
  obtain ⟨h1,h2⟩:=h;unfold Zz at h1;rw[aI,aI] at h1;match args,hr with
  |[v],⟨rv,_⟩=>
   refine O32 H w [.agg [.sl 4 n g]] [v] φ hon hg ⟨Qv rv ⟨fun _ r=>ahf h1.1 r,trivial⟩,trivial⟩ ?_;exact ⟨h1.2.1,h1.2.2,h2⟩
 ·exact h.elim
section
variable{B:Ht}{hs:Sh}{lv:Int}
theorem FC(Fa:Ar aB (AZ W7) 40 (WU hs lv B))(stop:Nat->List Nat->Bool):BA aB (C7 zW W7 (Dc hs lv B) stop):=lS (fun g F h=>by
 unfold Dc at h;split at h
 ·cases h;exact Fa
 ·cases h;exact avP
 ·cases h;exact avQ
 ·cases h;exact avZ
 ·cases h) fun g h=>by
 unfold Dc at h;split at h;all_goals first|(cases h;done) |kernel_rfl
end
section
variable{H0:Mem}{w0:World}{φ:Sh->Prop}{B:Ht}{Q:Nd SG->Prop}{hs:Sh}{lv:Int}{M:Int×List UInt8->Option Value}{c:Int}
theorem Yk{o:Option Value}(h:zW.G9 o=aC):zW.isS o=aC:=by
 cases o with
 |none=>exact absurd h (by decide) |some v=>rfl
theorem aoB(Fa:Ar aB (AZ W7) 40 (WU hs lv B))(hg:Le B Q)(nd:Nd SG)(hq:Q nd)(acc:List DL)(hk:acc.length<=1000):
  ∀r j,j+r=(turns (Gb B) nd).length->
  (∀t,((turns (Gb B) nd).drop j).find? (fun t=>zW.G9 (M (CP B.k0 t.2)))=ay t->Bd aB (C7 zW W7 (Dc hs lv B) Ap) (K0 H0 w0) 72 tdE (LE B M c (t.2.placed:Nat) B.k0 t.2.st (acc++[D7 t.1]).length (nth (acc++[D7 t.1]))) (Ua B) emp (up φ))->
  (∃t∈(turns (Gb B) nd).drop j,zW.G9 (M (CP B.k0 t.2))=aC)->
  Bd aB (C7 zW W7 (Dc hs lv B) Ap) (K0 H0 w0) 72 tdF (LF B M c (nd.placed:Nat) B.k0 nd.st acc.length (nth acc) (turns (Gb B) nd).length (nth ((turns (Gb B) nd).map (Gx B.k0))) (j:Nat)) (Ua B) emp (up φ)
 |0,j,hj,hnx,⟨t,ht,_⟩=>by
  rw[jM (by omega)] at ht;cases ht
 |r+1,j,hj,hnx,hex=>by
  have hjl:j<(turns (Gb B) nd).length:=by omega
  have hN:(turns (Gb B) nd).length<=124:=Ph (hg.tu nd hq).le nd;obtain ⟨t,ht⟩:∃t,(turns (Gb B) nd)[j]?=ay t:=⟨_,aV hjl⟩;have hqt:Q t.2:=hg.step nd hq _ (dK.2 ⟨t,bT ht,rfl⟩);have hd:(turns (Gb B) nd).drop j=t::(turns (Gb B) nd).drop (j+1):=by
   rw[iP hjl];congr 1;rw[aV hjl] at ht;exact dh ht
  have htr:nth ((turns (Gb B) nd).map (Gx B.k0)) (zW.toN (j:Int))=Gx B.k0 t:=Pg _ _ ht;obtain ⟨tr,etr⟩:∃tr,nth ((turns (Gb B) nd).map (Gx B.k0))=tr:=⟨_,rfl⟩;rw[etr] at htr ⊢;refine Gu (fn:=Tryz.f72) (tb:=tbF) (by kernel_rfl) (by kernel_rfl) ?_;have w1:zW.add .i64 (j:Int) (ah 1)=((j+1:Nat):Int):=add1 (by omega);have no {P:Prop} (h:zW.lt (j:Int) (ah (turns (Gb B) nd).length)=ak):P:=by simp[Ad] at h;omega
  have inb:zW.inB (j:Int) (turns (Gb B) nd).length=aC:=by simp[Bl];omega
  have hke:Zz 4 (tr (zW.toN (j:Int))).n (tr (zW.toN (j:Int))).g=aC:=by rw[htr];exact hg.ke _ hqt
  have hM:M ((tr (zW.toN (j:Int))).placed,Oy (tr (zW.toN (j:Int))).n (tr (zW.toN (j:Int))).g)=M (CP B.k0 t.2):=by rw[htr];rfl
  have rm:zW.room (zW.addN acc.length 1) 16=aC:=by rw[Ew,decide_eq_true_eq,Dl];unfold maxLen;omega
  cases hb:zW.G9 (M (CP B.k0 t.2)) with
  |true=>
   have nx:=hnx t (by rw[hd];exact List.find?_cons_of_pos (p:=fun t:(Int×Bool)×Nd SG=>zW.G9 (M (CP B.k0 t.2))) hb);refine EJ (dw _ _) (FC Fa _) (hold:=Bh) (m:=300) (n:=400) (ts:=[⟨72,tdF,LF B M c (nd.placed:Nat) B.k0 nd.st acc.length (nth acc) (turns (Gb B) nd).length tr 0,Ua B⟩,⟨72,tdE,LE B M c (t.2.placed:Nat) B.k0 t.2.st (acc++[D7 t.1]).length (nth (acc++[D7 t.1])),Ua B⟩]) ?_;refine abK zW W7 B hs lv M c _ _ B.k0 B.k0 nd.st t.2.st _ _ (nth acc) _ _ tr _ 0 (c1:=aC) (c2:=aC) rfl (by rw[hM];exact Yk hb) (by rw[hM];exact hb) (fun _=>inb) (fun _=>hke) (fun _ _ _=>rm) (fun _ _ _=>?_) (fun _ _ q=>by cases q) (fun _ q=>by cases q) (fun q=>no q);exact ⟨⟨rfl,rfl,rfl,rfl,rfl,rfl,congrArg Jo.placed htr,congrArg (fun x:Jo=>aG 4 x.n x.g) htr,by rw[bf];rfl,fun i hi=>Ip acc (D7 t.1) _ (by rw[htr];rfl) i hi,trivial⟩,_,rfl,nx⟩
  |false=>
   have nx:=aoB Fa hg nd hq acc hk r (j+1) (by omega) (fun t' h=>hnx t' (by
    rw[hd];exact (List.find?_cons_of_neg (p:=fun t:(Int×Bool)×Nd SG=>zW.G9 (M (CP B.k0 t.2))) (by rw[hb];simp)).trans h)) (by
    obtain ⟨x,hx,hx2⟩:=hex;rw[hd] at hx;rcases List.mem_cons.1 hx with rfl|hx
    ·rw[hb] at hx2;cases hx2
    ·exact ⟨x,hx,hx2⟩)
   rw[etr] at nx;refine EJ (dw _ _) (FC Fa _) (hold:=Bh) (m:=300) (n:=400) (ts:=[⟨72,tdF,LF B M c (nd.placed:Nat) B.k0 nd.st acc.length (nth acc) (turns (Gb B) nd).length tr ((j+1:Nat):Int),Ua B⟩,⟨72,tdE,LE B M c 0 0 noT 0 (nth []),Ua B⟩]) ?_;refine abK zW W7 B hs lv M c _ _ B.k0 0 nd.st noT _ _ (nth acc) _ _ tr _ ((j+1:Nat):Int) (c2:=ak) rfl rfl (by rw[hM];exact hb) (fun _=>inb) (fun _=>hke) (fun _ _ _=>rm) (fun _ _ q=>by cases q) (fun _ _ _=>?_) (fun _ _=>?_) (fun q=>no q)
   ·exact ⟨⟨rfl,rfl,rfl,rfl,rfl,w1,rfl,rfl,rfl,rfl,rfl,rfl,fun _ _=>rfl,trivial⟩,_,rfl,nx⟩
   ·exact ⟨⟨rfl,rfl,rfl,rfl,rfl,w1,rfl,rfl,rfl,rfl,rfl,rfl,fun _ _=>rfl,trivial⟩,_,rfl,nx⟩
def ai2(c:Int)(l:List (Int×Bool)):Sh:=.Ak [.agg [.b aC,.sl 2 (l.map D7).length (zX (nth (l.map D7))),.i .i64 c],.v .nilIface]
def noSh(c:Int):Sh:=.Ak [.agg [.b ak,.sl 2 0 (zX (nth ([]:List DL))),.i .i64 c],.v .nilIface]
theorem ahh(hN:B.N<=62)(nd:Nd SG):zW.eq ((nd.placed:Nat):Int) (zW.sub .i64 (zW.bin .shl .i64 (ah 1) (zW.AO B.N)) (ah 1))=full (Gb B) nd:=by
 have e:zW.sub .i64 (zW.bin .shl .i64 (ah 1) (zW.AO B.N)) (ah 1)=((2^B.N - 1:Nat):Int):=aov hN;rw[e,Aq];unfold full;rw[Bool.eq_iff_iff,beq_iff_eq];show _↔decide (nd.placed=2^(Gb B).n - 1)=aC;rw[decide_eq_true_eq];exact ⟨fun e=>kU e,fun e=>congrArg ah e⟩
theorem aoC(nd:Nd SG):rk (Gb B) nd<=B.N:=by
 unfold rk;have:=List.countP_le_length (p:=fun i=>nd.placed.testBit i) (l:=aX (Gb B).n);rw[lG] at this;exact this
theorem aoD(Fa:Ar aB (AZ W7) 40 (WU hs lv B))(hg:Le B Q){ld:Nd SG->Bool}(hM:∀nd,zW.G9 (M (CP B.k0 nd))=ld nd)
  (hl:∀nd,Q nd->ld nd=aC->full (Gb B) nd=ak->∃t∈turns (Gb B) nd,ld t.2=aC) :
  ∀f (nd:Nd SG) (acc:List (Int×Bool)),Q nd->ld nd=aC->B.N<rk (Gb B) nd+f->acc.length+f<=1000->φ (ai2 c (acc++least (Gb B) ld f nd))->
  Bd aB (C7 zW W7 (Dc hs lv B) Ap) (K0 H0 w0) 72 tdE (LE B M c (nd.placed:Nat) B.k0 nd.st (acc.map D7).length (nth (acc.map D7))) (Ua B) emp (up φ)
 |0,nd,acc,hq,hld,hf,hk,hφ=>by
  have:=aoC (B:=B) nd;omega
 |f+1,nd,acc,hq,hld,hf,hk,hφ=>by
  refine Gu (fn:=Tryz.f72) (tb:=tbE) (by kernel_rfl) (by kernel_rfl) ?_;have hN:=(hg.tu nd hq).le;have hfu:=ahh hN nd;have h0:zW.le (ah 0) (zW.AO B.N)=aC:=by simp[Df,Az]
  refine EJ (dw _ _) (FC Fa _) (hold:=Bh) (m:=300) (n:=400) (ts:=[⟨72,tdF,LF B M c (nd.placed:Nat) B.k0 nd.st (acc.map D7).length (nth (acc.map D7)) (turns (Gb B) nd).length (nth ((turns (Gb B) nd).map (Gx B.k0))) ((0:Nat):Int),Ua B⟩]) ?_;cases hfl:full (Gb B) nd with
  |true=>
   have e:least (Gb B) ld (f+1) nd=[]:=by rw[least,if_pos hfl]
   rw[e,fA] at hφ;refine abJ zW W7 B hs lv M c _ B.k0 nd.st _ (nth (acc.map D7)) _ _ (c0:=ak) (by rw[hfu,hfl];rfl) h0 (fun q=>by cases q) (fun q=>by cases q) (fun _=>?_);exact BH (s':=ai2 c acc) ⟨⟨.inl rfl,.inr ⟨rfl,rfl,fun _ _=>rfl⟩,rfl,trivial⟩,rfl,trivial⟩ hφ
  |false=>
   obtain ⟨t,ht,hlt⟩:=hl nd hq hld hfl;have nx:=aoB (φ:=φ) (c:=c) Fa hg nd hq (acc.map D7) (by rw[dW];omega) (turns (Gb B) nd).length 0 (by omega) (M:=M) (fun x hx=>by
    rw[jd] at hx;have hx1:=List.mem_of_find?_eq_some hx;have hx2:ld x.2=aC:=by rw[<-hM];exact List.find?_some (p:=fun t:(Int×Bool)×Nd SG=>zW.G9 (M (CP B.k0 t.2))) hx
    have hn:x.2∈next (Gb B) nd:=dK.2 ⟨x,hx1,rfl⟩;have hr:=abB _ hn;have hx':(turns (Gb B) nd).find? (fun t=>ld t.2)=ay x:=by
     rw[<-hx];congr 1;funext t;exact (hM t.2).symm
    have e:least (Gb B) ld (f+1) nd=x.1::least (Gb B) ld f x.2:=by rw[least,if_neg (by rw[hfl];simp),hx']
    rw[e] at hφ;have:=aoD Fa hg hM hl f x.2 (acc++[x.1]) (hg.step nd hq _ hn) hx2 (by omega) (by simp;omega) (by rw[dU];exact hφ);rw[iO] at this;exact this) ⟨t,by rw[jd];exact ht,by rw[hM];exact hlt⟩
   refine abJ zW W7 B hs lv M c _ B.k0 nd.st _ (nth (acc.map D7)) _ _ (c0:=aC) (by rw[hfu,hfl];rfl) h0 (fun _=>WW hg hq rfl) (fun _=>?_) (fun q=>by cases q);exact ⟨⟨rfl,rfl,rfl,by rw[KG,WX];rfl,by rw[KG];rfl,rfl,rfl,rfl,rfl,rfl,rfl,rfl,fun _ _=>rfl,trivial⟩,_,rfl,nx⟩
theorem aoE(Fa:Ar aB (AZ W7) 40 (WU hs lv B))(hg:Le B Q)(nd:Nd SG)(hq:Q nd){m:Nat}{od:Nat->U5}{i:Int}:
  ∀r j (is:Bool),j+r=(turns (Gb B) nd).length->
  Bd aB (C7 zW W7 (Dc hs lv B) Ap) (K0 H0 w0) 71 ZA (LC B m od (Ls (CP B.k0 nd) (ay (.bool (is||((turns (Gb B) nd).drop j).any fun t=>zW.G9 (M (CP B.k0 t.2))))) M) c (zW.sub .i64 i (ah 1))) (Oz B) emp (up φ)->
  Bd aB (C7 zW W7 (Dc hs lv B) Ap) (K0 H0 w0) 71 tdD (LD B m od M c i (nd.placed:Nat) B.k0 nd.st is (turns (Gb B) nd).length (nth ((turns (Gb B) nd).map (Gx B.k0))) (j:Nat)) (Oz B) emp (up φ)
 |0,j,is,hj,nx=>by
  rw[jM (by omega),yA,kF] at nx;refine Gu (fn:=rQ) (tb:=tbD) (by kernel_rfl) (by kernel_rfl) ?_;have lt {P:Prop} (h:zW.lt (j:Int) (ah (turns (Gb B) nd).length)=aC):P:=by simp[Ad] at h;omega
  refine EJ (dw _ _) (FC Fa _) (hold:=Bh) (m:=300) (n:=400) (ts:=[⟨71,tdD,LD B m od M c i (nd.placed:Nat) B.k0 nd.st is (turns (Gb B) nd).length (nth ((turns (Gb B) nd).map (Gx B.k0))) 0,Oz B⟩,⟨71,ZA,LC B m od (Ls (CP B.k0 nd) (ay (.bool is)) M) c (zW.sub .i64 i (ah 1)),Oz B⟩]) ?_;exact abI zW W7 B hs lv M _ m od c i _ B.k0 nd.st is is _ _ j 0 _ rfl rfl rfl (fun q=>lt q) (fun q=>lt q) (fun _=>hg.ke nd hq) (fun q=>lt q) (fun q=>lt q) (fun q=>lt q)
   (fun _=>⟨⟨rfl,rfl,rfl,rfl,rfl,rfl,fun _ _=>rfl,rfl,rfl,rfl,rfl,rfl,trivial⟩,_,rfl,nx⟩)
 |r+1,j,is,hj,nx=>by
  have hjl:j<(turns (Gb B) nd).length:=by omega
  have hN:(turns (Gb B) nd).length<=124:=Ph (hg.tu nd hq).le nd;obtain ⟨t,ht⟩:∃t,(turns (Gb B) nd)[j]?=ay t:=⟨_,aV hjl⟩;have hqt:Q t.2:=hg.step nd hq _ (dK.2 ⟨t,bT ht,rfl⟩);have hd:(turns (Gb B) nd).drop j=t::(turns (Gb B) nd).drop (j+1):=by
   rw[iP hjl];congr 1;rw[aV hjl] at ht;exact dh ht
  rw[hd,wY,<-Bool.or_assoc] at nx;have nx:=aoE Fa hg nd hq r (j+1) (is||zW.G9 (M (CP B.k0 t.2))) (by omega) nx;have htr:nth ((turns (Gb B) nd).map (Gx B.k0)) (zW.toN (j:Int))=Gx B.k0 t:=Pg _ _ ht;obtain ⟨tr,etr⟩:∃tr,nth ((turns (Gb B) nd).map (Gx B.k0))=tr:=⟨_,rfl⟩;rw[etr] at htr nx ⊢;refine Gu (fn:=rQ) (tb:=tbD) (by kernel_rfl) (by kernel_rfl) ?_;have w1:zW.add .i64 (j:Int) (ah 1)=((j+1:Nat):Int):=add1 (by omega);have no {P:Prop} (h:zW.lt (j:Int) (ah (turns (Gb B) nd).length)=ak):P:=by simp[Ad] at h;omega
  have inb:zW.inB (j:Int) (turns (Gb B) nd).length=aC:=by simp[Bl];omega
  have hke:Zz 4 (tr (zW.toN (j:Int))).n (tr (zW.toN (j:Int))).g=aC:=by rw[htr];exact hg.ke _ hqt
  have hM:M ((tr (zW.toN (j:Int))).placed,Oy (tr (zW.toN (j:Int))).n (tr (zW.toN (j:Int))).g)=M (CP B.k0 t.2):=by rw[htr];rfl
  refine EJ (dw _ _) (FC Fa _) (hold:=Bh) (m:=300) (n:=400) (ts:=[⟨71,tdD,LD B m od M c i (nd.placed:Nat) B.k0 nd.st (is||zW.G9 (M (CP B.k0 t.2))) (turns (Gb B) nd).length tr ((j+1:Nat):Int),Oz B⟩,⟨71,ZA,LC B m od M c 0,Oz B⟩]) ?_;have fin (b:Bool) (hb:b=(is||zW.G9 (M (CP B.k0 t.2)))):Jz aB (C7 zW W7 (Dc hs lv B) Ap) (K0 H0 w0) [⟨71,tdD,LD B m od M c i (nd.placed:Nat) B.k0 nd.st (is||zW.G9 (M (CP B.k0 t.2))) (turns (Gb B) nd).length tr ((j+1:Nat):Int),Oz B⟩,⟨71,ZA,LC B m od M c 0,Oz B⟩] emp (up φ) (bJ 0 [aJ 1 1,bC (fun _=>BK B.lv B.N B.T B.N B.ms B.k0 B.g0) fun _=>BK B.lv B.N B.T B.N B.ms B.k0 B.g0,aJ 0 0,aj i i,pz b (is||zW.G9 (M (CP B.k0 t.2))),aQ (aG 4 (turns (Gb B) nd).length (zX tr)) (aG 4 (turns (Gb B) nd).length (zX tr)),aj (ah (turns (Gb B) nd).length) (ah (turns (Gb B) nd).length),aj (zW.add .i64 j (ah 1)) ((j+1:Nat):Int),aj (ah 0) (ah 0),aJ m m,aT m (zX od) (zX od),jh M M,aj c c,aj (nd.placed:Nat) (nd.placed:Nat),aQ (aG 4 B.k0 nd.st) (aG 4 B.k0 nd.st),aJ 1 1,bC (fun _=>BK B.lv B.N B.T B.N B.ms B.k0 B.g0) fun _=>BK B.lv B.N B.T B.N B.ms B.k0 B.g0,aJ 0 0]):=
   ⟨⟨rfl,rfl,rfl,rfl,hb,rfl,rfl,w1,rfl,rfl,fun _ _=>rfl,rfl,rfl,rfl,rfl,rfl,rfl,rfl,trivial⟩,_,rfl,nx⟩
  refine abI zW W7 B hs lv M _ m od c i _ B.k0 nd.st is _ _ tr j ((j+1:Nat):Int) _ rfl rfl rfl (fun _=>inb) (fun _ _=>hke) (fun q=>no q) (fun _ q=>?_) (fun _ q q2=>?_) (fun _ q q2=>?_) (fun q=>no q)
  ·exact fin aC (by rw[q];rfl)
  ·exact fin _ (by rw[q,hM];rfl)
  ·refine fin ak ?_
   rw[hM] at q2;rw[q];cases hb:zW.G9 (M (CP B.k0 t.2)) with
   |false=>rfl |true=>rw[Yk hb] at q2;cases q2
end
end Go.Proofs
namespace Go.Pl
open Go Go.Sx Go.Proofs Go.Gm Go.Bf
def ndQ(k0:Nat)(nd:Nd SG):Sz:=⟨(nd.placed:Nat),4,k0,nd.st⟩
noncomputable def OA(k0:Nat)(nd:Nd SG):PrQ:=⟨(nd.placed:Nat),Oy k0 nd.st⟩
structure QOK(k0:Nat)(o:List (Nd SG))(i at_ q:Nat)(qr:Nat->Sz):Prop where
 le:i<=o.length
 len:q=at_+(o.length - i)
 row:∀j nd,o[i+j]?=ay nd->qr (at_+j)=ndQ k0 nd
end Go.Pl
namespace Go.Proofs
open Go Go.Sx Go.Pl Go.Gm Go.Bf
section
variable{H0:Mem}{w0:World}{φ:Sh->Prop}{B:Ht}{Q:Nd SG->Prop}{hs:Sh}{lv:Int}{c:Int}
theorem av1{r:Nat}(h:r<=100000):zW.sub .i64 (((r+1:Nat):Int) - 1) (ah 1)=(r:Int) - 1:=by
 have e:zW.sub .i64 (((r+1:Nat):Int) - 1) (ah 1)=aN.wrap (((r+1:Nat):Int) - 1 - 1):=rfl;rw[e,BL (by omega) (by omega)];omega
theorem aoF(Fa:Ar aB (AZ W7) 40 (WU hs lv B))(hg:Le B Q)(o:List (Nd SG))(ho:∀x∈o,Q x)(hlen:o.length<=100000)
  (hl:∀nd,Q nd->TW (Gb B) (CP B.k0) o nd=aC->full (Gb B) nd=ak->∃t∈turns (Gb B) nd,TW (Gb B) (CP B.k0) o t.2=aC)
  (hy:Sv (Gb B) (CP B.k0) B.g0 o=aC->φ (ai2 c (IW (Gb B) (CP B.k0) B.g0 o))) (hn:Sv (Gb B) (CP B.k0) B.g0 o=ak->φ (noSh c)) :
  ∀r (M:Int×List UInt8->Option Value),r<=o.length->(∀k,zW.G9 (M k)=H8 (CP B.k0) (next (Gb B)) (full (Gb B)) (o.drop r) k)->
  Bd aB (C7 zW W7 (Dc hs lv B) Ap) (K0 H0 w0) 71 ZA (LC B o.length (nth (o.map (I7 B.k0))) M c ((r:Nat) - 1:Int)) (Oz B) emp (up φ)
 |0,M,hr,hM=>by
  refine Gu (fn:=rQ) (tb:=tbC) (by kernel_rfl) (by kernel_rfl) ?_;rw[jd] at hM;have ge {P:Prop} (h:zW.le (ah 0) (((0:Nat):Int) - 1)=aC):P:=by simp[Df] at h
  have hN:=(hg.tu _ hg.start).le;have hK:M (ah 0,Oy B.k0 B.g0)=M (CP B.k0 ⟨0,B.g0⟩):=rfl;refine EJ (dw _ _) (FC Fa _) (hold:=Bh) (m:=300) (n:=400) (ts:=[⟨71,tdD,LD B o.length (nth (o.map (I7 B.k0))) M c (((0:Nat):Int) - 1) 0 0 noT ak 0 (nth []) 0,Oz B⟩,⟨72,tdE,LE B M c 0 B.k0 B.g0 0 (nth []),Ua B⟩]) ?_;refine abH zW W7 B hs lv M _ _ c _ 0 0 noT ak 0 (nth []) (nth []) rfl rfl rfl (fun q=>ge q) (fun q=>ge q) (fun q=>ge q) (fun _=>hg.ke _ hg.start) (fun q=>ge q) (fun _ _ q=>?_) (fun _ _ q=>?_) (fun _ q=>?_)
  ·have hld:Sv (Gb B) (CP B.k0) B.g0 o=aC:=by
    rw[hK,hM] at q;exact q
   have hφ:=hy hld;have e:IW (Gb B) (CP B.k0) B.g0 o=least (Gb B) (TW (Gb B) (CP B.k0) o) ((Gb B).n+1) (iK B.g0):=if_pos hld;rw[e] at hφ;have nx:=aoD (H0:=H0) (w0:=w0) (φ:=φ) (c:=c) (M:=M) Fa hg (ld:=TW (Gb B) (CP B.k0) o) (fun nd=>hM _) hl ((Gb B).n+1) (iK B.g0) [] hg.start hld (by have:(Gb B).n=B.N:=rfl;omega) (by have:(Gb B).n=B.N:=rfl;simp;omega) (by rw[jH];exact hφ);exact ⟨⟨rfl,rfl,rfl,rfl,rfl,rfl,rfl,rfl,rfl,trivial⟩,_,rfl,nx⟩
  ·refine BH (s':=noSh c) ⟨⟨.inl rfl,.inl ⟨rfl,rfl⟩,rfl,trivial⟩,rfl,trivial⟩ (hn ?_)
   rw[hK,hM] at q;exact q
  ·refine BH (s':=noSh c) ⟨⟨.inl rfl,.inl ⟨rfl,rfl⟩,rfl,trivial⟩,rfl,trivial⟩ (hn ?_)
   have q2:zW.G9 (M (CP B.k0 ⟨0,B.g0⟩))=ak:=by
    cases hb:zW.G9 (M (CP B.k0 ⟨0,B.g0⟩)) with
    |false=>rfl |true=>rw[hK,Yk hb] at q;cases q
   rw[hM] at q2;exact q2
 |r+1,M,hr,hM=>by
  obtain ⟨nd,hnd⟩:∃nd,o[r]?=ay nd:=⟨_,aV (by omega)⟩;have hq:Q nd:=ho nd (bT hnd);have hN:=(hg.tu nd hq).le;have hd:o.drop r=nd::o.drop (r+1):=by
   rw[iP (by omega)];congr 1;rw[aV (by omega)] at hnd;exact dh hnd
  have hi:zW.toN (((r+1:Nat):Int) - 1)=r:=by rw[CJ];omega
  have hod:nth (o.map (I7 B.k0)) (zW.toN (((r+1:Nat):Int) - 1))=I7 B.k0 nd:=by rw[hi];exact Pg _ _ hnd
  have nx:=aoF Fa hg o ho hlen hl hy hn r (Ls (CP B.k0 nd) (ay (.bool (full (Gb B) nd||((turns (Gb B) nd).drop 0).any fun t=>zW.G9 (M (CP B.k0 t.2))))) M) (by omega) (fun k=>by
   have e:(next (Gb B) nd).any (fun t=>H8 (CP B.k0) (next (Gb B)) (full (Gb B)) (o.drop (r+1)) (CP B.k0 t))=((turns (Gb B) nd).drop 0).any fun t=>zW.G9 (M (CP B.k0 t.2)):=by
    unfold next;rw[List.any_map,jd];congr 1;funext t;exact (hM _).symm
   rw[hd,H8,e];unfold Ls;by_cases h:k=CP B.k0 nd
   ·rw[if_pos h,if_pos h.symm];rfl
   ·rw[if_neg h,if_neg (fun e=>h e.symm)]
    exact hM k)
  refine Gu (fn:=rQ) (tb:=tbC) (by kernel_rfl) (by kernel_rfl) ?_;obtain ⟨od,av2⟩:∃od,nth (o.map (I7 B.k0))=od:=⟨_,rfl⟩;rw[av2] at hod nx ⊢;have lt {P:Prop} (h:zW.le (ah 0) (((r+1:Nat):Int) - 1)=ak):P:=by rw[Df,decide_eq_false_iff_not] at h;exact (h (by show (0:Int)<=_;omega)).elim
  have hD:=aoE (H0:=H0) (w0:=w0) (φ:=φ) (c:=c) (M:=M) (m:=o.length) (od:=od) (i:=((r+1:Nat):Int) - 1) Fa hg nd hq (turns (Gb B) nd).length 0 (full (Gb B) nd) (by omega) (by rw[av1 (by omega)];exact nx);refine EJ (dw _ _) (FC Fa _) (hold:=Bh) (m:=300) (n:=400) (ts:=[⟨71,tdD,LD B o.length od M c (((r+1:Nat):Int) - 1) (nd.placed:Nat) B.k0 nd.st (full (Gb B) nd) (turns (Gb B) nd).length (nth ((turns (Gb B) nd).map (Gx B.k0))) ((0:Nat):Int),Oz B⟩,⟨72,tdE,LE B M c 0 B.k0 B.g0 0 (nth []),Ua B⟩]) ?_;refine abH zW W7 B hs lv M _ od c _ _ _ _ _ _ _ (nth []) rfl rfl rfl (fun _=>by rw[Bl,decide_eq_true_eq];omega) (fun _=>by simp[Df,Az]) (fun _=>by rw[hod];exact WW hg hq rfl) (fun q=>lt q) (fun _=>?_) (fun q=>lt q) (fun q=>lt q) (fun q=>lt q);exact ⟨⟨rfl,rfl,rfl,rfl,by rw[hod];exact ahh hN nd,by rw[hod];show aG 4 (Ox B.lv B.N (zX B.T) (zX B.ms) (nd.placed:Nat) B.k0 nd.st) (zX (Zy B.lv B.N (zX B.T) (zX B.ms) (nd.placed:Nat) B.k0 nd.st))=_;rw[KG,WX],by rw[hod];show ((Ox B.lv B.N (zX B.T) (zX B.ms) (nd.placed:Nat) B.k0 nd.st:Nat):Int)=_;rw[KG];rfl,rfl,rfl,rfl,fun _ _=>rfl,rfl,rfl,by rw[hod];rfl,by rw[hod];rfl,rfl,rfl,rfl,trivial⟩,_,rfl,hD⟩
def ae7:Sh:=.Ak [.agg [.b ak,.sl 2 0 (fun _=>[]),.i .i64 0],.er 0 329]
theorem getM{o:List (Nd SG)}{k:Int×List UInt8}{k0:Nat}{v:Value}{nd:Nd SG}{M:Int×List UInt8->Option Value}(hM:∀k,zW.isS (M k)=JE (CP k0) o k):
  ∀k,zW.isS (Ls (CP k0 nd) (ay v) M k)=JE (CP k0) (o++[nd]) k:=fun k=>by
 unfold Ls;by_cases h:k=CP k0 nd
 ·rw[if_pos h]
  have:JE (CP k0) (o++[nd]) k=aC:=JF.2 ⟨nd,by simp,h.symm⟩;rw[this];rfl
 ·rw[if_neg h,hM k]
  unfold JE;rw[List.any_append];have:[nd].any (fun n=>decide (CP k0 n=k))=ak:=by
   simp only[wY,yA,kF];exact decide_eq_false fun e=>h e.symm
  rw[this,kF]
theorem aoG{k0:Nat}{o:List (Nd SG)}{i at_ q:Nat}{qr:Nat->Sz}{nd:Nd SG}(h:QOK k0 o i at_ q qr):QOK k0 (o++[nd]) i at_ (q+1) (fun j=>if j<q then qr j else ndQ k0 nd):=by
 obtain ⟨h1,h2,h3⟩:=h;refine ⟨by rw[bf];omega,by rw[bf];simp;omega,fun j x hx=>?_⟩;by_cases hj:i+j<o.length
 ·rw[dJ hj] at hx
  show (if at_+j<q then qr (at_+j) else ndQ k0 nd)=ndQ k0 x;rw[if_pos (by omega)];exact h3 j x hx
 ·rw[List.getElem?_append_right (by omega)] at hx
  have e:i+j - o.length=0:=by
   have:=(aU.1 hx).1;simp at this;omega
  rw[e] at hx;cases hx;show (if at_+j<q then qr (at_+j) else ndQ k0 nd)=ndQ k0 nd;rw[if_neg (by omega)]
theorem aoH(Fa:Ar aB (AZ W7) 40 (WU hs lv B))(hg:Le B Q)(nd:Nd SG)(hq:Q nd){m:Nat}(hm:m<=65536){i:Nat}
  {P:List (Nd SG)->Prop} (hA:∀(o':List (Nd SG)) (M:Int×List UInt8->Option Value) (at_ q:Nat) (qr:Nat->Sz),P o'->QOK B.k0 o' i at_ q qr->q<=100000+o'.length->o'.length<=m->(∀k,zW.isS (M k)=JE (CP B.k0) o' k)->
   Bd aB (C7 zW W7 (Dc hs lv B) Ap) (K0 H0 w0) 39 tdA (LA B (m:Nat) M o'.length (nth (o'.map (OA B.k0))) (at_:Nat) q qr o'.length (nth (o'.map (I7 B.k0)))) [] emp (up φ)) :
  ∀r j (o:List (Nd SG)) (M:Int×List UInt8->Option Value) (at_ q:Nat) (qr:Nat->Sz),j+r=(turns (Gb B) nd).length->QOK B.k0 o i at_ q qr->q<=100000+o.length->o.length<=m->(∀k,zW.isS (M k)=JE (CP B.k0) o k)->
   (∀o',Ez (CP B.k0) m o (((turns (Gb B) nd).drop j).map (·.2))=ay o'->P o')->(Ez (CP B.k0) m o (((turns (Gb B) nd).drop j).map (·.2))=aK->φ ae7)->
   Bd aB (C7 zW W7 (Dc hs lv B) Ap) (K0 H0 w0) 39 tdB (LB B (m:Nat) M o.length (nth (o.map (OA B.k0))) (at_:Nat) q qr o.length (nth (o.map (I7 B.k0))) (turns (Gb B) nd).length (nth ((turns (Gb B) nd).map (Gx B.k0))) (j:Nat)) [] emp (up φ)
 |0,j,o,M,at_,q,qr,hj,hQ,hq2,hlo,hM,hP,_=>by
  have hP:=hP o (by rw[jM (by omega)];rfl);have nx:=hA o M at_ q qr hP hQ hq2 hlo hM;refine Gu (fn:=uw) (tb:=tbB) (by kernel_rfl) (by kernel_rfl) ?_;have lt {P:Prop} (h:zW.lt (j:Int) (ah (turns (Gb B) nd).length)=aC):P:=by simp[Ad] at h;omega
  refine EJ (dw _ _) (FC Fa _) (hold:=Bh) (m:=300) (n:=400) (ts:=[⟨39,tdB,LB B (m:Nat) M 0 (nth []) (at_:Nat) 0 (fun _=>default) 0 (nth []) (turns (Gb B) nd).length (nth ((turns (Gb B) nd).map (Gx B.k0))) 0,[]⟩,⟨39,tdA,LA B (m:Nat) M o.length (nth (o.map (OA B.k0))) (at_:Nat) q qr o.length (nth (o.map (I7 B.k0))),[]⟩]) ?_;exact Qx zW W7 B hs lv _ M M _ 0 _ (nth []) _ q 0 qr _ _ 0 _ (nth []) _ _ j 0 rfl rfl rfl (fun q=>lt q) (fun q=>lt q) (fun q=>lt q) (fun q=>lt q) (fun q=>lt q) (fun q=>lt q) (fun q=>lt q) (fun q=>lt q)
   (fun _=>⟨⟨rfl,rfl,rfl,rfl,rfl,rfl,rfl,rfl,rfl,fun _ _=>rfl,rfl,fun _ _=>rfl,rfl,fun _ _=>rfl,trivial⟩,_,rfl,nx⟩)
 |r+1,j,o,M,at_,q,qr,hj,hQ,hq2,hlo,hM,hP,akA=>by
  have hjl:j<(turns (Gb B) nd).length:=by omega
  have hN:(turns (Gb B) nd).length<=124:=Ph (hg.tu nd hq).le nd;obtain ⟨t,ht⟩:∃t,(turns (Gb B) nd)[j]?=ay t:=⟨_,aV hjl⟩;have hqt:Q t.2:=hg.step nd hq _ (dK.2 ⟨t,bT ht,rfl⟩);have hd:(turns (Gb B) nd).drop j=t::(turns (Gb B) nd).drop (j+1):=by
   rw[iP hjl];congr 1;rw[aV hjl] at ht;exact dh ht
  rw[hd,jm] at hP akA;have ih:=fun o' M' q' WV (h1:FQ (CP B.k0) m o t.2=ay o')=>aoH Fa hg nd hq hm hA r (j+1) o' M' at_ q' WV (by omega);refine Gu (fn:=uw) (tb:=tbB) (by kernel_rfl) (by kernel_rfl) ?_;have htr:nth ((turns (Gb B) nd).map (Gx B.k0)) (zW.toN (j:Int))=Gx B.k0 t:=Pg _ _ ht;obtain ⟨tr,etr⟩:∃tr,nth ((turns (Gb B) nd).map (Gx B.k0))=tr:=⟨_,rfl⟩;rw[etr] at htr ih ⊢;have w1:zW.add .i64 (j:Int) (ah 1)=((j+1:Nat):Int):=add1 (by omega);have no {P:Prop} (h:zW.lt (j:Int) (ah (turns (Gb B) nd).length)=ak):P:=by simp[Ad] at h;omega
  have inb:zW.inB (j:Int) (turns (Gb B) nd).length=aC:=by simp[Bl];omega
  have hke:Zz 4 (tr (zW.toN (j:Int))).n (tr (zW.toN (j:Int))).g=aC:=by rw[htr];exact hg.ke _ hqt
  have hMt:M ((tr (zW.toN (j:Int))).placed,Oy (tr (zW.toN (j:Int))).n (tr (zW.toN (j:Int))).g)=M (CP B.k0 t.2):=by rw[htr];rfl
  have rmo:zW.room (zW.addN o.length 1) 32=aC:=by rw[Ew,decide_eq_true_eq,Dl];unfold maxLen;omega
  have rmc:zW.room (zW.addN o.length 1) 24=aC:=by rw[Ew,decide_eq_true_eq,Dl];unfold maxLen;omega
  have rmq:zW.room (zW.addN q 1) 32=aC:=by rw[Ew,decide_eq_true_eq,Dl];unfold maxLen;omega
  cases hb:JE (CP B.k0) o (CP B.k0 t.2) with
  |true=>
   have hpb:FQ (CP B.k0) m o t.2=ay o:=if_pos hb;have nx:=ih o M q qr hpb hQ hq2 hlo hM (fun o' h=>hP o' (by rw[Ez,hpb];exact h)) (fun h=>akA (by rw[Ez,hpb];exact h));refine EJ (dw _ _) (FC Fa _) (hold:=Bh) (m:=300) (n:=400) (ts:=[⟨39,tdB,LB B (m:Nat) M o.length (nth (o.map (OA B.k0))) (at_:Nat) q qr o.length (nth (o.map (I7 B.k0))) (turns (Gb B) nd).length tr ((j+1:Nat):Int),[]⟩,⟨39,tdA,LA B (m:Nat) M o.length (nth (o.map (OA B.k0))) (at_:Nat) q qr o.length (nth (o.map (I7 B.k0))),[]⟩]) ?_;exact Qx zW W7 B hs lv _ M M _ _ _ (nth (o.map (OA B.k0))) _ q q qr qr _ _ _ (nth (o.map (I7 B.k0))) _ tr j ((j+1:Nat):Int) (c1:=aC) rfl (by rw[hMt,hM];exact hb) rfl (fun _=>inb) (fun _=>hke) (fun _ q=>by cases q) (fun _ q=>by cases q) (fun _ q=>by cases q)
    (fun _ _=>⟨⟨rfl,rfl,rfl,rfl,rfl,rfl,w1,rfl,rfl,rfl,rfl,rfl,fun _ _=>rfl,rfl,fun _ _=>rfl,rfl,fun _ _=>rfl,trivial⟩,_,rfl,nx⟩) (fun _ q=>by cases q) (fun _ q=>by cases q) (fun q=>no q)
  |false=>
   have hc:zW.eq (zW.AO o.length) ((m:Nat):Int)=decide (o.length=m):=by
    rw[Aq,Az];by_cases h:o.length=m
    ·rw[decide_eq_true h,h];simp
    ·rw[decide_eq_false h,beq_eq_false_iff_ne]
     exact fun e=>h (kU e)
   by_cases hml:o.length=m
   ·refine EJ (dw _ _) (FC Fa _) (hold:=Bh) (m:=300) (n:=400) (ts:=[⟨39,tdB,LB B (m:Nat) M o.length (nth (o.map (OA B.k0))) (at_:Nat) q qr o.length (nth (o.map (I7 B.k0))) (turns (Gb B) nd).length tr ((j+1:Nat):Int),[]⟩,⟨39,tdA,LA B (m:Nat) M o.length (nth (o.map (OA B.k0))) (at_:Nat) q qr o.length (nth (o.map (I7 B.k0))),[]⟩]) ?_
    exact Qx zW W7 B hs lv _ M M _ _ _ (nth (o.map (OA B.k0))) _ q q qr qr _ _ _ (nth (o.map (I7 B.k0))) _ tr j ((j+1:Nat):Int) (c1:=ak) (c2:=aC) rfl (by rw[hMt,hM];exact hb) (by rw[hc];exact decide_eq_true hml) (fun _=>inb) (fun _=>hke) (fun _ _ q=>by cases q) (fun _ _ q=>by cases q) (fun _ _ q=>by cases q)
     (fun _ q=>by cases q) (fun _ _ _=>BH (s':=ae7) ⟨⟨.inl rfl,.inl ⟨rfl,rfl⟩,rfl,trivial⟩,rfl,trivial⟩ (akA (by rw[Ez];unfold FQ;rw[if_neg (by rw[hb];simp),if_pos hml]))) (fun _ _ q=>by cases q) (fun q=>no q)
   ·have hpb:FQ (CP B.k0) m o t.2=ay (o++[t.2]):=by
     unfold FQ;rw[if_neg (by rw[hb];simp),if_neg hml]
    have nx:=ih (o++[t.2]) (Ls (CP B.k0 t.2) (ay (.int .i64 (zW.AO o.length))) M) (q+1) (fun j=>if j<q then qr j else ndQ B.k0 t.2) hpb (aoG hQ) (by rw[bf];simp;omega) (by rw[bf];simp;omega) (getM (k:=CP B.k0 t.2) hM) (fun o' h=>hP o' (by rw[Ez,hpb];exact h)) (fun h=>akA (by rw[Ez,hpb];exact h));refine EJ (dw _ _) (FC Fa _) (hold:=Bh) (m:=300) (n:=400) (ts:=[⟨39,tdB,LB B (m:Nat) (Ls (CP B.k0 t.2) (ay (.int .i64 (zW.AO o.length))) M) (o++[t.2]).length (nth ((o++[t.2]).map (OA B.k0))) (at_:Nat) (q+1) (fun j=>if j<q then qr j else ndQ B.k0 t.2) (o++[t.2]).length (nth ((o++[t.2]).map (I7 B.k0))) (turns (Gb B) nd).length tr ((j+1:Nat):Int),[]⟩,⟨39,tdA,LA B (m:Nat) M o.length (nth (o.map (OA B.k0))) (at_:Nat) q qr o.length (nth (o.map (I7 B.k0))),[]⟩]) ?_;refine Qx zW W7 B hs lv _ M _ _ _ _ _ _ q _ qr _ _ _ (nth (o.map (I7 B.k0))) _ _ tr j ((j+1:Nat):Int) (c1:=ak) (c2:=ak) rfl (by rw[hMt,hM];exact hb) (by rw[hc];exact decide_eq_false hml) (fun _=>inb) (fun _=>hke) (fun _ _ _=>rmc) (fun _ _ _=>rmq) (fun _ _ _=>rmo)
     (fun _ q=>by cases q) (fun _ _ q=>by cases q) (fun _ _ _=>?_) (fun q=>no q)
    have ase:(o++[t.2]).length=zW.addN o.length 1:=by rw[bf];rfl
    refine ⟨⟨rfl,rfl,rfl,rfl,rfl,rfl,w1,rfl,?_,rfl,rfl,ase.symm,fun i hi=>?_,rfl,fun i hi=>?_,ase.symm,fun i hi=>?_,trivial⟩,_,rfl,nx⟩
    ·show Ls ((tr (zW.toN (j:Int))).placed,Oy (tr (zW.toN (j:Int))).n (tr (zW.toN (j:Int))).g) _ M=_
     rw[htr];rfl
    ·have:=Ip (o.map (OA B.k0)) (OA B.k0 t.2) [aW .i64 (tr (zW.toN (j:Int))).placed,dA (Oy (tr (zW.toN (j:Int))).n (tr (zW.toN (j:Int))).g)] (by rw[htr];rfl) i (by rw[dW];exact hi)
     rw[dW] at this;rw[iO];exact this
    ·rw[Ed]
     show _=Row.put (if i<q then qr i else ndQ B.k0 t.2);split
     ·rfl
     ·have:i - q=0:=by have:i<q+1:=hi;omega
      rw[this,htr];rfl
    ·have:=Ip (o.map (I7 B.k0)) (I7 B.k0 t.2) [aW .i64 (tr (zW.toN (j:Int))).placed,aG 4 (tr (zW.toN (j:Int))).n (tr (zW.toN (j:Int))).g] (by rw[htr];rfl) i (by rw[dW];exact hi)
     rw[dW] at this;rw[iO];exact this
theorem loopA(Fa:Ar aB (AZ W7) 40 (WU hs lv B))(hg:Le B Q){m:Nat}(hm:m<=65536)
  (hC:∀o:List (Nd SG),DK (Gb B) (CP B.k0) B.g0 m=ay o->Bd aB (C7 zW W7 (Dc hs lv B) Ap) (K0 H0 w0) 71 ZA (LC B o.length (nth (o.map (I7 B.k0))) (fun _=>aK) (o.length:Nat) (zW.sub .i64 (zW.AO o.length) (ah 1))) (Oz B) emp (up φ)) :
  ∀f i (o:List (Nd SG)) (M:Int×List UInt8->Option Value) (at_ q:Nat) (qr:Nat->Sz),m<i+f->(∀x∈o,Q x)->QOK B.k0 o i at_ q qr->q<=100000+o.length->o.length<=m->(∀k,zW.isS (M k)=JE (CP B.k0) o k)->
   (∀r,Gj (CP B.k0) (next (Gb B)) m f o i=ay r->DK (Gb B) (CP B.k0) B.g0 m=ay r)->(Gj (CP B.k0) (next (Gb B)) m f o i=aK->φ ae7)->
   Bd aB (C7 zW W7 (Dc hs lv B) Ap) (K0 H0 w0) 39 tdA (LA B (m:Nat) M o.length (nth (o.map (OA B.k0))) (at_:Nat) q qr o.length (nth (o.map (I7 B.k0)))) [] emp (up φ)
 |f,i,o,M,at_,q,qr,hf,ho,hQ,hq2,hlo,hM,hr,hr0=>by
  refine Gu (fn:=uw) (tb:=tbA) (by kernel_rfl) (by kernel_rfl) ?_;have hil:=hQ.le;have hql:=hQ.len;by_cases hi:i=o.length
  ·
   have hb:Gj (CP B.k0) (next (Gb B)) m f o i=ay o:=by
    cases f with
    |zero=>rfl |succ f=>
     rw[Gj,List.getElem?_eq_none (by omega)]
   have hp:=hr o hb;have nx:=hC o hp;have hat:zW.eq (at_:Int) (zW.AO q)=aC:=by
    have:at_=q:=by omega
    rw[this,Aq,Az];simp
   refine EJ (dw _ _) (FC Fa _) (hold:=Bh) (m:=300) (n:=400) (ts:=[⟨39,tdB,LB B (m:Nat) M o.length (nth (o.map (OA B.k0))) 0 0 (fun _=>default) o.length (nth (o.map (I7 B.k0))) 0 (nth []) 0,[]⟩,⟨71,ZA,LC B o.length (nth (o.map (I7 B.k0))) (fun _=>aK) (o.length:Nat) (zW.sub .i64 (zW.AO o.length) (ah 1)),Oz B⟩]) ?_;exact U6 zW W7 B hs lv _ M _ (nth (o.map (OA B.k0))) _ q qr _ (nth (o.map (I7 B.k0))) 0 0 (fun _=>default) 0 (nth []) _ _ _ (c0:=aC) hat rfl rfl (fun q=>by cases q) (fun q=>by cases q) (fun q=>by cases q)
    (fun _=>⟨⟨rfl,rfl,rfl,rfl,rfl,rfl,fun _ _=>rfl,rfl,rfl,rfl,rfl,rfl,trivial⟩,_,rfl,nx⟩) (fun q=>by cases q) (fun q=>by cases q) (fun q=>by cases q) (fun q=>by cases q)
  ·obtain ⟨nd,hnd⟩:∃nd,o[i]?=ay nd:=⟨_,aV (by omega)⟩
   have hq:Q nd:=ho nd (bT hnd);have hrow:=hQ.row 0 nd hnd;rw[jw] at hrow;have hqr:qr (zW.toN (at_:Int))=ndQ B.k0 nd:=hrow;cases f with
   |zero=>omega |succ f=>
    rw[Gj,hnd] at hr hr0;have hN:=(hg.tu nd hq).le;have inb:zW.inB (at_:Int) q=aC:=by rw[Bl,decide_eq_true_eq];omega
    have ne:zW.eq (at_:Int) (zW.AO q)=ak:=by
     rw[Aq,Az,beq_eq_false_iff_ne];intro e;have:=kU e;omega
    have w1:zW.add .i64 (at_:Int) (ah 1)=((at_+1:Nat):Int):=by
     show aN.wrap ((at_:Int)+1)=_;rw[BL (by omega) (by omega)];rfl
    have htu:tuB B.lv B.N (zX B.T) B.N (zX B.ms) (qr (zW.toN (at_:Int))).placed (qr (zW.toN (at_:Int))).st (qr (zW.toN (at_:Int))).n (qr (zW.toN (at_:Int))).g=aC:=by
     rw[hqr];exact WW hg hq rfl
    have e1:aG 4 (Ox B.lv B.N (zX B.T) (zX B.ms) (qr (zW.toN (at_:Int))).placed (qr (zW.toN (at_:Int))).n (qr (zW.toN (at_:Int))).g) (zX (Zy B.lv B.N (zX B.T) (zX B.ms) (qr (zW.toN (at_:Int))).placed (qr (zW.toN (at_:Int))).n (qr (zW.toN (at_:Int))).g))=aG 4 (turns (Gb B) nd).length (zX (nth ((turns (Gb B) nd).map (Gx B.k0)))):=by
     rw[hqr];show aG 4 (Ox B.lv B.N (zX B.T) (zX B.ms) (nd.placed:Nat) B.k0 nd.st) (zX (Zy B.lv B.N (zX B.T) (zX B.ms) (nd.placed:Nat) B.k0 nd.st))=_;rw[KG,WX]
    have e2:zW.AO (Ox B.lv B.N (zX B.T) (zX B.ms) (qr (zW.toN (at_:Int))).placed (qr (zW.toN (at_:Int))).n (qr (zW.toN (at_:Int))).g)=ah (turns (Gb B) nd).length:=by
     rw[hqr];show zW.AO (Ox B.lv B.N (zX B.T) (zX B.ms) (nd.placed:Nat) B.k0 nd.st)=_;rw[KG];rfl
    have hLB:=fun (at' q':Nat) (WV:Nat->Sz) (h:QOK B.k0 o (i+1) at' q' WV) (h2:q'<=100000+o.length)=>
     aoH (H0:=H0) (w0:=w0) (φ:=φ) Fa hg nd hq hm (i:=i+1) (P:=fun o'=>(∀x∈o',Q x)/\(∀r,Gj (CP B.k0) (next (Gb B)) m f o' (i+1)=ay r->DK (Gb B) (CP B.k0) B.g0 m=ay r)/\(Gj (CP B.k0) (next (Gb B)) m f o' (i+1)=aK->φ ae7))
      (fun o' M' av4 q'' av5 hP hQ' hq' av6 hM'=>loopA Fa hg hm hC f (i+1) o' M' av4 q'' av5 (by omega) hP.1 hQ' hq' av6 hM' hP.2.1 hP.2.2)
      (turns (Gb B) nd).length 0 o M at' q' WV (by omega) h h2 hlo hM (fun o' h=>by
       rw[jd] at h;have h:Ez (CP B.k0) m o (next (Gb B) nd)=ay o':=h;refine ⟨TG h ho (hg.step nd hq),fun r hb=>hr r ?_,fun hb=>hr0 ?_⟩
       ·simp only[h]
        exact hb
       ·simp only[h]
        exact hb) (fun h=>hr0 (by
       rw[jd] at h;have h:Ez (CP B.k0) m o (next (Gb B) nd)=aK:=h;simp only[h]))
    by_cases hlast:at_+1=q
    ·have hc1:zW.eq (zW.add .i64 (at_:Int) (ah 1)) (zW.AO q)=aC:=by rw[w1,hlast,Aq,Az];simp
     have nx:=hLB 0 0 (fun _=>default) ⟨by omega,by omega,fun j x hx=>by have:=(aU.1 hx).1;omega⟩ (by omega);refine EJ (dw _ _) (FC Fa _) (hold:=Bh) (m:=300) (n:=400) (ts:=[⟨39,tdB,LB B (m:Nat) M o.length (nth (o.map (OA B.k0))) ((0:Nat):Int) 0 (fun _=>default) o.length (nth (o.map (I7 B.k0))) (turns (Gb B) nd).length (nth ((turns (Gb B) nd).map (Gx B.k0))) ((0:Nat):Int),[]⟩,⟨71,ZA,LC B o.length (nth (o.map (I7 B.k0))) (fun _=>aK) (o.length:Nat) 0,Oz B⟩]) ?_;exact U6 zW W7 B hs lv _ M _ (nth (o.map (OA B.k0))) _ q qr _ (nth (o.map (I7 B.k0))) _ 0 (fun _=>default) _ _ _ _ _ (c0:=ak) (c1:=aC) ne hc1 rfl (fun _=>inb) (fun _ _ _=>htu) (fun _ q=>by cases q)
      (fun q=>by cases q) (fun _ _ q=>by cases q) (fun _ _ _=>⟨⟨rfl,rfl,rfl,rfl,e1,e2,rfl,rfl,rfl,rfl,rfl,rfl,fun _ _=>rfl,rfl,rfl,fun _ _=>rfl,trivial⟩,_,rfl,nx⟩) (fun _ q=>by cases q) (fun _ q=>by cases q)
    ·have hc1:zW.eq (zW.add .i64 (at_:Int) (ah 1)) (zW.AO q)=ak:=by
      rw[w1,Aq,Az,beq_eq_false_iff_ne];intro e;exact hlast (kU e)
     have nx:=hLB (at_+1) q (fun j=>if j=at_ then ⟨0,0,0,fun _=>[]⟩ else qr j) ⟨by omega,by omega,fun j x hx=>by
      show (if at_+1+j=at_ then _ else qr (at_+1+j))=_;rw[if_neg (by omega)];have:=hQ.row (j+1) x (by rw[show i+(j+1)=i+1+j by omega];exact hx);rw[show at_+1+j=at_+(j+1) by omega];exact this⟩ hq2
     refine EJ (dw _ _) (FC Fa _) (hold:=Bh) (m:=300) (n:=400) (ts:=[⟨39,tdB,LB B (m:Nat) M o.length (nth (o.map (OA B.k0))) ((at_+1:Nat):Int) q (fun j=>if j=at_ then ⟨0,0,0,fun _=>[]⟩ else qr j) o.length (nth (o.map (I7 B.k0))) (turns (Gb B) nd).length (nth ((turns (Gb B) nd).map (Gx B.k0))) ((0:Nat):Int),[]⟩,⟨71,ZA,LC B o.length (nth (o.map (I7 B.k0))) (fun _=>aK) (o.length:Nat) 0,Oz B⟩]) ?_;refine U6 zW W7 B hs lv _ M _ (nth (o.map (OA B.k0))) _ q qr _ (nth (o.map (I7 B.k0))) _ q _ _ _ _ _ _ (c0:=ak) (c1:=ak) ne hc1 rfl (fun _=>inb) (fun _ q=>by cases q) (fun _ _ _=>htu)
      (fun q=>by cases q) (fun _ q=>by cases q) (fun _ q=>by cases q) (fun _ _ q=>by cases q) (fun _ _ _=>⟨⟨rfl,rfl,rfl,rfl,e1,e2,rfl,rfl,rfl,rfl,w1,rfl,fun _ _=>rfl,rfl,fun j hj=>?_,rfl,fun _ _=>rfl,trivial⟩,_,rfl,nx⟩)
     show (if j=at_ then (zX qr j).take 0++[aW .i64 (ah 0),aG 0 0 fun _=>[]]++(zX qr j).drop (0+2) else zX qr j)=Row.put (if j=at_ then (⟨0,0,0,fun _=>[]⟩:Sz) else qr j);split
     ·rfl
     ·rfl
end
end Go.Proofs
namespace Go.Pl
open Go Go.Sx Go.Proofs
structure WY where
 okb:Bool
 JG:Bool
 pos:Int
 e:Nat
 n:Nat
 T:Nat->Ef
noncomputable def asf(s h:Sh):Bool:=@decide (s=h) (bM _)
def WZ(st lv:Int):Bool:=if lv=1\/lv=2 then st==3||st==2 else lv==3
def reB(en bg:Int):Bool:=decide (0<=en)&&decide (en<bg)
def G7(lv:Int)(n:Nat)(T:Nat->Ef):List Ef:=((aX n).map T).filter fun t=>WZ t.st lv
def Pj(lv bg:Int):Nat->List Ef->Nat->Nat
 |_,[],m=>m |i,a::l,m=>Pj lv bg (i+1) l (if lv≠1/\reB a.en bg=aC then m|||1<<<i else m)
def mkI(lv:Int)(l:List Ef)(k:Nat):Int:=(Pj lv (nth l k).bg 0 l 0:Nat)
noncomputable def mkP(lv:Int)(n:Nat)(T:Nat->List Sh):Bool:=okB Ef n T&&(decide (1<=lv)&&(decide (lv<=3)&&decide (n<=62)))
def mkN(lv:Int)(n:Nat)(T:Nat->List Sh):Nat:=(G7 lv n (zZ T)).length
def mkR(lv:Int)(n:Nat)(T:Nat->List Sh):Nat->Int:=mkI lv (G7 lv n (zZ T))
def nwB(n:Nat)(g:Nat->List Sh):Bool:=okB Oj n g&&(Qm n (zZ g)&&(!RU n&&Ns n (zZ g)))
def Hu(g:Nat->List Sh):Nat->List Sh:=BZ (newT (zZ g))
end Go.Pl
namespace Go.Proofs
open Go Go.Sx Go.Pl
noncomputable def D20(hs:Sh)(B:WY):List Sh->Tree Sh
 |[s]=>.need (asf s hs) (.node B.okb (.leaf (.Ak [.sl 7 B.n (zX B.T),.v .nilIface]))
   (.node B.JG (.leaf (.Ak [.sl 0 0 (fun _=>[]),.CS 109 (.pt [.i .i64 B.pos,.er B.e 329])])) (.leaf (.Ak [.sl 0 0 (fun _=>[]),.er B.e 329]))))
 |_=>.fail
noncomputable def D73:List Sh->Tree Sh
 |[.agg l,t]=>match Row.get (α:=Ef) l,AY t with
  |some x,ay lv=>.leaf (.b (WZ x.st lv)) |_,_=>.fail
 |_=>.fail
noncomputable def D94:List Sh->Tree Sh
 |[.agg l,.agg r]=>match Row.get (α:=Ef) l,Row.get (α:=Ef) r with
  |some x,ay y=>.leaf (.b (reB x.en y.bg)) |_,_=>.fail
 |_=>.fail
noncomputable def D74:List Sh->Tree Sh
 |[s,t]=>match DV 7 s,AY t with
  |some (n,T),ay lv=>.need (mkP lv n T) (.leaf (.Ak [.sl 1 (mkN lv n T) (zX (mkR lv n T)),.v .nilIface])) |_,_=>.fail
 |_=>.fail
noncomputable def D75:List Sh->Tree Sh
 |[s]=>match DV 2 s with
  |some (n,g)=>.need (nwB n g) (.leaf (.Ak [.agg [.sl 4 n (Hu g)],.v .nilIface])) |none=>.fail
 |_=>.fail
noncomputable def Qy(hs:Sh)(B:WY):Nat->Option (List Sh->Tree Sh)
 |20=>ay (D20 hs B) |73=>ay D73 |74=>ay D74 |75=>ay D75 |_=>aK
noncomputable def Iq:Nat->Option (List Sh->Tree Sh)
 |73=>ay D73 |94=>ay D94 |_=>aK
def Zb:List It:=[bD [0,1,0,1,1,1,1,1],dD 0,bD [1,1,1,1,1,1]]
def aoI:List It:=bD [0,0,1,0,1,1,1,1,1]::Zb
def Zc(o m:Nat)(og mg:Nat->List Sh)(lv:Int)(n:Nat)(T:Nat->Ef)(c:Nat)(cr:Nat->Ef)(i:Int):Core:=
 {tm:=Gv 71 [(1,.sym .i64 lv),(2,.ptr 0 0),(6,.sh (.sl 7 n (zX T))),(8,.ptr 1 0),(26,.sh (.sl 7 n (zX T))),(27,.sym .i64 (n:Int)),(28,.sym .i64 i)],hp:=[(0,.box [.sh (.sl 2 o og),.sh (.sl 8 m mg)] 25),(1,.box [.sym .i64 lv,.gs 2,.Aw,.Aw] 102),(2,.own 115 7 c (zX cr))],nx:=3,lim:=L0,tc:=[]}
def Zd:List It:=[bD [0,1,0,1,1,1],dD 0,bD [1,1,1,1]]
def aoJ:List It:=bD [0,0,1,0,1,1,1]::Zd
def Ze(lv:Int)(n:Nat)(T:Nat->Ef)(c:Nat)(cr:Nat->Ef)(i:Int):Core:=
 {tm:=Gv 74 [(1,.sym .i64 lv),(6,.gs 0),(21,.sh (.sl 7 n (zX T))),(22,.sym .i64 (n:Int)),(23,.sym .i64 i)],hp:=[(0,.own 115 7 c (zX cr))],nx:=1,lim:=L0,tc:=[]}
def Lh:List It:=[bD [0,1,0,1,1,1,1,1,1],dD 2,bD [1,1,1,1,1,1,1]]
def ai5:List It:=bD [0,0,1,0,1,1,1,1,1,1]::Lh
def QM(lv:Int)(c:Nat)(cr:Nat->Ef)(n:Nat)(o:Nat->Int)(k:Int):Core:=
 {tm:=Gv 74 [(1,.sym .i64 lv),(6,.gs 0),(9,.gs 1),(42,.gs 0),(43,.sym .i64 (c:Int)),(44,.sym .i64 k)],hp:=[(0,.own 115 7 c (zX cr)),(1,.own 3 1 n (zX o))],nx:=2,lim:=L0,tc:=[]}
def OB:List It:=[bD [0,1,1,0,0,1,1,0,0,1,0,1,1,1,1,1,1],dD 4,dD 3,bD [1,1,1,0,0,1,0,1,1,1,1,1,1],bD [0,1,0,1,1,1,1,1,1],dD 2,bD [1,1,1,1,1,1,1]]
def ai6:List It:=bD [0,0,1,1,0,0,1,1,0,0,1,0,1,1,1,1,1,1]::OB
def Ul(lv:Int)(c:Nat)(cr:Nat->Ef)(n:Nat)(o:Nat->Int)(k:Int)(b:Ef)(i:Int):Core:=
 {tm:=Gv 74 [(1,.sym .i64 lv),(6,.gs 0),(9,.gs 1),(10,.sym .i64 k),(11,.ptr 2 0),(42,.gs 0),(43,.sym .i64 (c:Int)),(44,.sym .i64 k),(49,.gs 0),(50,.sym .i64 (c:Int)),(51,.sym .i64 i)],hp:=[(0,.own 115 7 c (zX cr)),(1,.own 3 1 n (zX o)),(2,.box [.sym .i64 b.id,.sym .i64 b.th,.sym .i64 b.st,.sym .i64 b.bg,.sym .i64 b.en,.sym .i64 b.tr,.sh (.sl 8 b.k b.g)] 115)],nx:=3,lim:=L0,tc:=[]}
theorem ai7(A:Prim)(W:Wd)(B:WY)(lv:Int)(o m:Nat)(og mg:Nat->List Sh)(cr:Nat->Ef)(i':Int){ψ:D8->Prop}{c0 c1 c2:Bool}(e0:B.okb=c0)(e1:A.lt (ah 12) (A.AO B.n)=c1)(e2:B.JG=c2)(h1:(asf (bH [aG 2 o og,aG 8 m mg]) (bH [aG 2 o og,aG 8 m mg]))=aC)(y1:c0=aC->c1=aC->ψ (aP (cZ [jC (gG aK),aZ 1 329])))(y2:c0=aC->c1=ak->ψ (bJ 0 [aj lv lv,aQ (aG 7 B.n (zX B.T)) (aG 7 B.n (zX B.T)),aQ (aG 7 B.n (zX B.T)) (aG 7 B.n (zX B.T)),aj (A.AO B.n) (ah B.n),aj (ah 0) i',aQ (aG 2 o og) (aG 2 o og),aQ (aG 8 m mg) (aG 8 m mg),aj lv lv,aJ 0 0]))(y3:c0=ak->c2=aC->ψ (aP (cZ [jC (gG aK),Sh.CS 109 (sU [aW .i64 B.pos,aZ B.e 329])])))(y4:c0=ak->c2=ak->ψ (aP (cZ [jC (gG aK),aZ B.e 329]))):Cc ψ (AQ (C7 A W (Qy (.agg [.sl 2 o og,.sl 8 m mg]) B) Ap) Bh 300 400 40 [.code []] (Aa 71 [.agg [.sl 2 o og,.sl 8 m mg],.i .i64 lv] L0) [] [⟨40,Zb,Zc o m og mg lv B.n B.T 0 cr i',[]⟩]):=by
 subst e0 e1 e2;exact Gh (an h1 (an (fun q0=>an (y1 q0) (y2 q0)) (fun q0=>an (y3 q0) (y4 q0)))) (by kernel_rfl)
theorem U7(A:Prim)(W:Wd)(hs:Sh)(B:WY)(lv:Int)(o m:Nat)(og mg:Nat->List Sh)(n:Nat)(T:Nat->Ef)(c c':Nat)(cr Qw:Nat->Ef)(i i':Int){ψ:D8->Prop}{c0 c1:Bool}(e0:A.lt i (ah n)=c0)(e1:WZ (T (A.toN i)).st lv=c1)(h1:c0=aC->(A.inB i n)=aC)(h2:c0=aC->c1=aC->(A.room (A.addN c 1) 72)=aC)(h3:c0=ak->(mkP lv n (zX T))=aC)(h4:c0=ak->(nwB o og)=aC)(y1:c0=aC->c1=aC->ψ (bJ 0 [aj lv lv,aQ (aG 7 n (zX T)) (aG 7 n (zX T)),aQ (aG 7 n (zX T)) (aG 7 n (zX T)),aj (ah n) (ah n),aj (A.add .i64 i (ah 1)) i',aQ (aG 2 o og) (aG 2 o og),aQ (aG 8 m mg) (aG 8 m mg),aj lv lv,aJ (A.addN c 1) c',aT (A.addN c 1) (A.snoc (zX cr) c (AU [[aW .i64 (T (A.toN i)).id,aW .i64 (T (A.toN i)).th,aW .i64 (T (A.toN i)).st,aW .i64 (T (A.toN i)).bg,aW .i64 (T (A.toN i)).en,aW .i64 (T (A.toN i)).tr,aG 8 (T (A.toN i)).k (T (A.toN i)).g]])) (zX Qw)]))(y2:c0=aC->c1=ak->ψ (bJ 0 [aj lv lv,aQ (aG 7 n (zX T)) (aG 7 n (zX T)),aQ (aG 7 n (zX T)) (aG 7 n (zX T)),aj (ah n) (ah n),aj (A.add .i64 i (ah 1)) i',aQ (aG 2 o og) (aG 2 o og),aQ (aG 8 m mg) (aG 8 m mg),aj lv lv,aJ c c',aT c (zX cr) (zX Qw)]))(y3:c0=ak->ψ (aP (cZ [sU [aW .i64 lv,aG 7 c (zX cr),aG 1 (mkN lv n (zX T)) (zX (mkR lv n (zX T))),aG 4 o (Hu og)],jC bI]))):Cc ψ (AQ (C7 A W (Qy hs B) Ap) Bh 300 400 40 aoI (Zc o m og mg lv n T c cr i) [] [⟨40,Zb,Zc o m og mg lv n T c' Qw i',[]⟩]):=by
 subst e0 e1;exact aol (by kernel_rfl) (an (fun q0=>an (h1 q0) (an (fun q1=>an (h2 q0 q1) (an (h2 q0 q1) (y1 q0 q1))) (y2 q0))) (fun q0=>an (h3 q0) (an (h4 q0) (y3 q0)))) (by kernel_rfl)
theorem ai8(A:Prim)(W:Wd)(lv:Int)(n:Nat)(T:Nat->Ef)(Qw:Nat->Ef)(i':Int){ψ:D8->Prop}{c0 c1:Bool}(e0:A.lt lv (ah 1)=c0)(e1:A.lt (ah 3) lv=c1)(y1:c0=aC->ψ (aP (cZ [aG 0 0 fun _=>[],aZ 2 329])))(y2:c0=ak->c1=aC->ψ (aP (cZ [aG 0 0 fun _=>[],aZ 2 329])))(y3:c0=ak->c1=ak->ψ (bJ 0 [aj lv lv,aQ (aG 7 n (zX T)) (aG 7 n (zX T)),aj (A.AO n) (ah n),aj (ah 0) i',aJ 0 0])):Cc ψ (AQ (C7 A W Iq Ap) Bh 300 400 74 [.code []] (Aa 74 [.sl 7 n (zX T),.i .i64 lv] L0) [] [⟨74,Zd,Ze lv n T 0 Qw i',[]⟩]):=by
 subst e0 e1;exact Gh (an y1 (fun q0=>an (y2 q0) (y3 q0))) (by kernel_rfl)
theorem U8(A:Prim)(W:Wd)(lv:Int)(n:Nat)(T:Nat->Ef)(c c':Nat)(cr Qw:Nat->Ef)(i i':Int)(m':Nat)(o':Nat->Int){ψ:D8->Prop}{c0 c1 c2:Bool}(e0:A.lt i (ah n)=c0)(e1:WZ (T (A.toN i)).st lv=c1)(e2:A.lt (ah 62) (A.AO c)=c2)(h1:c0=aC->(A.inB i n)=aC)(h2:c0=aC->c1=aC->(A.room (A.addN c 1) 72)=aC)(h3:c0=ak->c2=ak->(A.le (ah 0) (A.AO c))=aC)(h4:c0=ak->c2=ak->(A.room (A.toN (A.AO c)) 8)=aC)(y1:c0=aC->c1=aC->ψ (bJ 0 [aj lv lv,aQ (aG 7 n (zX T)) (aG 7 n (zX T)),aj (ah n) (ah n),aj (A.add .i64 i (ah 1)) i',aJ (A.addN c 1) c',aT (A.addN c 1) (A.snoc (zX cr) c (AU [[aW .i64 (T (A.toN i)).id,aW .i64 (T (A.toN i)).th,aW .i64 (T (A.toN i)).st,aW .i64 (T (A.toN i)).bg,aW .i64 (T (A.toN i)).en,aW .i64 (T (A.toN i)).tr,aG 8 (T (A.toN i)).k (T (A.toN i)).g]])) (zX Qw)]))(y2:c0=aC->c1=ak->ψ (bJ 0 [aj lv lv,aQ (aG 7 n (zX T)) (aG 7 n (zX T)),aj (ah n) (ah n),aj (A.add .i64 i (ah 1)) i',aJ c c',aT c (zX cr) (zX Qw)]))(y3:c0=ak->c2=aC->ψ (aP (cZ [aG 0 0 fun _=>[],aZ 1 329])))(y4:c0=ak->c2=ak->ψ (bJ 1 [aj lv lv,aj (A.AO c) (ah c),aj (ah 0) (ah 0),aJ c c,aT c (zX cr) (zX cr),aJ (A.toN (A.AO c)) m',aT (A.toN (A.AO c)) (fun (x:Nat)=>[aW .i64 (ah 0)]) (zX o')])):Cc ψ (AQ (C7 A W Iq Ap) Bh 300 400 74 aoJ (Ze lv n T c cr i) [] [⟨74,Zd,Ze lv n T c' Qw i',[]⟩,⟨74,Lh,QM lv c cr m' o' 0,[]⟩]):=by
 subst e0 e1 e2;exact Gh (an (fun q0=>an (h1 q0) (an (fun q1=>an (h2 q0 q1) (y1 q0 q1)) (y2 q0))) (fun q0=>an (y3 q0) (fun q1=>an (h3 q0 q1) (an (h4 q0 q1) (y4 q0 q1))))) (by kernel_rfl)
theorem abM(A:Prim)(W:Wd)(lv:Int)(c:Nat)(cr:Nat->Ef)(n:Nat)(o:Nat->Int)(k:Int)(b:Ef){ψ:D8->Prop}{c0:Bool}(e0:A.lt k (ah c)=c0)(h1:c0=aC->(A.inB k c)=aC)(y1:c0=aC->ψ (bJ 0 [aj lv lv,aj k k,aj (ah c) (ah c),aj k k,aj (A.AO c) (ah c),aj (ah 0) (ah 0),aJ c c,aT c (zX cr) (zX cr),aJ n n,aT n (zX o) (zX o),aj (cr (A.toN k)).id b.id,aj (cr (A.toN k)).th b.th,aj (cr (A.toN k)).st b.st,aj (cr (A.toN k)).bg b.bg,aj (cr (A.toN k)).en b.en,aj (cr (A.toN k)).tr b.tr,aQ (aG 8 (cr (A.toN k)).k (cr (A.toN k)).g) (aG 8 b.k b.g)]))(y2:c0=ak->ψ (aP (cZ [Sh.os 3 1 n (zX o),jC bI]))):Cc ψ (AQ (C7 A W Iq Ap) Bh 300 400 74 ai5 (QM lv c cr n o k) [] [⟨74,OB,Ul lv c cr n o k b 0,[]⟩]):=by
 subst e0;exact Gh (an (fun q0=>an (h1 q0) (y1 q0)) y2) (by kernel_rfl)
theorem U9(A:Prim)(W:Wd)(lv:Int)(c:Nat)(cr:Nat->Ef)(n:Nat)(o o':Nat->Int)(k k':Int)(b:Ef)(i i':Int){ψ:D8->Prop}{c0 c1 c2:Bool}(e0:A.lt i (ah c)=c0)(e1:A.nt (A.eq lv (ah 1))=c1)(e2:reB (cr (A.toN i)).en b.bg=c2)(h1:c0=aC->(A.inB i c)=aC)(h2:c0=aC->c1=aC->c2=aC->(A.inB k n)=aC)(h3:c0=aC->c1=aC->c2=aC->(A.le (ah 0) i)=aC)(y1:c0=aC->c1=aC->c2=aC->ψ (bJ 0 [aj lv lv,aj k k,aj (ah c) (ah c),aj k k,aj (ah c) (ah c),aj (A.add .i64 i (ah 1)) i',aJ c c,aT c (zX cr) (zX cr),aJ n n,aT n (A.upd (zX o) (A.toN k) 0 [aW .i64 (A.bin BinOp.or aN (o (A.toN k)) (A.bin iq aN (ah 1) i))]) (zX o'),aj b.id b.id,aj b.th b.th,aj b.st b.st,aj b.bg b.bg,aj b.en b.en,aj b.tr b.tr,aQ (aG 8 b.k b.g) (aG 8 b.k b.g)]))(y2:c0=aC->c1=aC->c2=ak->ψ (bJ 0 [aj lv lv,aj k k,aj (ah c) (ah c),aj k k,aj (ah c) (ah c),aj (A.add .i64 i (ah 1)) i',aJ c c,aT c (zX cr) (zX cr),aJ n n,aT n (zX o) (zX o'),aj b.id b.id,aj b.th b.th,aj b.st b.st,aj b.bg b.bg,aj b.en b.en,aj b.tr b.tr,aQ (aG 8 b.k b.g) (aG 8 b.k b.g)]))(y3:c0=aC->c1=ak->ψ (bJ 0 [aj lv lv,aj k k,aj (ah c) (ah c),aj k k,aj (ah c) (ah c),aj (A.add .i64 i (ah 1)) i',aJ c c,aT c (zX cr) (zX cr),aJ n n,aT n (zX o) (zX o'),aj b.id b.id,aj b.th b.th,aj b.st b.st,aj b.bg b.bg,aj b.en b.en,aj b.tr b.tr,aQ (aG 8 b.k b.g) (aG 8 b.k b.g)]))(y4:c0=ak->ψ (bJ 1 [aj lv lv,aj (ah c) (ah c),aj (A.add .i64 k (ah 1)) k',aJ c c,aT c (zX cr) (zX cr),aJ n n,aT n (zX o) (zX o)])):Cc ψ (AQ (C7 A W Iq Ap) Bh 300 400 74 ai6 (Ul lv c cr n o k b i) [] [⟨74,OB,Ul lv c cr n o' k b i',[]⟩,⟨74,Lh,QM lv c cr n o k',[]⟩]):=by
 subst e0 e1 e2;exact Gh (an (fun q0=>an (h1 q0) (an (fun q1=>an (fun q2=>an (h2 q0 q1 q2) (an (h3 q0 q1 q2) (an (h2 q0 q1 q2) (y1 q0 q1 q2)))) (y2 q0 q1)) (y3 q0))) y4) (by kernel_rfl)
theorem ai9(A:Prim)(W:Wd)(t:Ef)(lv:Int){ψ:D8->Prop}{c0 c1 c2:Bool}(e0:A.eq lv (ah 1)=c0)(e1:A.eq t.st (ah 3)=c1)(e2:A.eq lv (ah 2)=c2)(y1:c0=aC->c1=aC->ψ (aP (eF aC)))(y2:c0=aC->c1=ak->ψ (aP (eF (A.eq t.st (ah 2)))))(y3:c0=ak->c2=aC->c1=aC->ψ (aP (eF aC)))(y4:c0=ak->c2=aC->c1=ak->ψ (aP (eF (A.eq t.st (ah 2)))))(y5:c0=ak->c2=ak->ψ (aP (eF (A.eq lv (ah 3))))):Cc ψ (AQ (C7 A W noSpec Ap) Bh 300 400 73 [.code []] (Aa 19 [.agg [.i .i64 t.id,.i .i64 t.th,.i .i64 t.st,.i .i64 t.bg,.i .i64 t.en,.i .i64 t.tr,.sl 8 t.k t.g],.i .i64 lv] L0) [] []):=by
 subst e0 e1 e2;exact Gh (an (fun q0=>an (y1 q0) (y2 q0)) (fun q0=>an (fun q1=>an (y3 q0 q1) (y4 q0 q1)) (y5 q0))) (by kernel_rfl)
theorem aja(A:Prim)(W:Wd)(t u:Ef){ψ:D8->Prop}{c0:Bool}(e0:A.le (ah 0) t.en=c0)(y1:c0=aC->ψ (aP (eF (A.lt t.en u.bg))))(y2:c0=ak->ψ (aP (eF ak))):Cc ψ (AQ (C7 A W noSpec Ap) Bh 300 400 94 [.code []] (Aa 15 [.agg [.i .i64 t.id,.i .i64 t.th,.i .i64 t.st,.i .i64 t.bg,.i .i64 t.en,.i .i64 t.tr,.sl 8 t.k t.g],.agg [.i .i64 u.id,.i .i64 u.th,.i .i64 u.st,.i .i64 u.bg,.i .i64 u.en,.i .i64 u.tr,.sl 8 u.k u.g]] L0) [] []):=by
 subst e0;exact Gh (an y1 y2) (by kernel_rfl)
end Go.Proofs
namespace Go.Pl
open Go Go.Sx Go.Proofs
def ctF(lv:Int)(T:Nat->Ef)(i r:Nat):List Ef:=((aX r).map fun j=>T (i+j)).filter fun t=>WZ t.st lv
theorem adK(lv:Int)(T:Nat->Ef)(i r:Nat):ctF lv T i (r+1)=(if WZ (T i).st lv=aC then [T i] else [])++ctF lv T (i+1) r:=by
 unfold ctF;rw[qP,jm,l9,List.filter_cons];have:((fun j=>T (i+j)) ∘ Nat.succ)=fun j=>T (i+1+j):=by
  funext j;show T (i+(j+1))=T (i+1+j);congr 1;omega
 rw[this,jw];by_cases h:WZ (T i).st lv=aC
 ·rw[if_pos h,if_pos h];rfl
 ·rw[if_neg h,if_neg h];rfl
theorem ahj(lv:Int)(T:Nat->Ef)(n:Nat):ctF lv T 0 n=G7 lv n T:=by
 unfold ctF G7;simp
theorem ae8(lv:Int)(n:Nat)(T:Nat->Ef):(G7 lv n T).length<=n:=by
 unfold G7;have:=List.length_filter_le (fun t:Ef=>WZ t.st lv) ((aX n).map T);rw[dW,lG] at this;exact this
theorem ahk{lv bg:Int}:∀(l:List Ef) (i m N:Nat),m<2^N->i+l.length<=N->Pj lv bg i l m<2^N
 |[],i,m,N,h,_=>h |a::l,i,m,N,h,hl=>by
  rw[Pj];refine ahk l (i+1) _ N ?_ (by simp at hl;omega);split
  ·refine pq h ?_
   rw[l7,iF];exact jy (by decide) (by simp at hl;omega)
  ·exact h
end Go.Pl
namespace Go.Proofs
open Go Go.Sx Go.Pl
section
variable{H0:Mem}{w0:World}{φ:Sh->Prop}
theorem Qz(FD:Ar aB (AZ W7) 73 D73)(F7:Ar aB (AZ W7) 94 D94)(stop:Nat->List Nat->Bool):BA aB (C7 zW W7 Iq stop):=lS (fun g F h=>by
 unfold Iq at h;split at h
 ·cases h;exact FD
 ·cases h;exact F7
 ·cases h) fun g h=>by
 unfold Iq at h;split at h;all_goals first|(cases h;done) |kernel_rfl
theorem aoK{o:Nat->Int}{k:Nat}{v:Int}:∀j,zW.upd (zX o) k 0 [aW .i64 v] j=zX (fun j=>if j=k then v else o j) j:=fun j=>by
 show (if j=k then (zX o j).take 0++[aW .i64 v]++(zX o j).drop (0+1) else zX o j)=Row.put (if j=k then v else o j);split
 ·rfl
 ·rfl
variable{lv:Int}{l:List Ef}
theorem ahl(FD:Ar aB (AZ W7) 73 D73)(F7:Ar aB (AZ W7) 94 D94)(hl:l.length<=62){k:Nat}(hk:k<l.length){b:Ef}:
  ∀r i (o:Nat->Int) (m:Nat),i+r=l.length->o k=(m:Nat)->m<2^62->
  (Bd aB (C7 zW W7 Iq Ap) (K0 H0 w0) 74 Lh (QM lv l.length (nth l) l.length (fun j=>if j=k then (Pj lv b.bg i (l.drop i) m:Nat) else o j) ((k+1:Nat):Int)) [] emp (up φ))->
  Bd aB (C7 zW W7 Iq Ap) (K0 H0 w0) 74 OB (Ul lv l.length (nth l) l.length o (k:Nat) b (i:Nat)) [] emp (up φ)
 |0,i,o,m,hi,ho,hm,nx=>by
  refine Gu (fn:=lH) (tb:=ai6) (by kernel_rfl) (by kernel_rfl) ?_;have lt {P:Prop} (h:zW.lt (i:Int) (ah l.length)=aC):P:=by simp[Ad] at h;omega
  have w1:zW.add .i64 (k:Int) (ah 1)=((k+1:Nat):Int):=add1 (by omega);have e:(fun j=>if j=k then ((Pj lv b.bg i (l.drop i) m:Nat):Int) else o j)=o:=by
   funext j;rw[jM (by omega),Pj];split
   ·rename_i h;rw[h,ho]
   ·rfl
  rw[e] at nx;refine EJ (dw _ _) (Qz FD F7 _) (hold:=Bh) (m:=300) (n:=400) (ts:=[⟨74,OB,Ul lv l.length (nth l) l.length o (k:Nat) b 0,[]⟩,⟨74,Lh,QM lv l.length (nth l) l.length o ((k+1:Nat):Int),[]⟩]) ?_;exact U9 zW W7 lv _ (nth l) _ o o k _ b i 0 rfl rfl rfl (fun q=>lt q) (fun q=>lt q) (fun q=>lt q) (fun q=>lt q) (fun q=>lt q) (fun q=>lt q)
   (fun _=>⟨⟨rfl,rfl,w1,rfl,fun _ _=>rfl,rfl,fun _ _=>rfl,trivial⟩,_,rfl,nx⟩)
 |r+1,i,o,m,hi,ho,hm,nx=>by
  obtain ⟨a,ha⟩:∃a,l[i]?=ay a:=⟨_,aV (by omega)⟩;have hd:l.drop i=a::l.drop (i+1):=by
   rw[iP (by omega)];congr 1;rw[aV (by omega)] at ha;exact dh ha
  have hna:nth l (zW.toN (i:Int))=a:=by
   show nth l i=a;unfold nth;rw[aY,ha];rfl
  rw[hd,Pj] at nx;refine Gu (fn:=lH) (tb:=ai6) (by kernel_rfl) (by kernel_rfl) ?_;have w1:zW.add .i64 (i:Int) (ah 1)=((i+1:Nat):Int):=add1 (by omega);have no {P:Prop} (h:zW.lt (i:Int) (ah l.length)=ak):P:=by simp[Ad] at h;omega
  have inb:zW.inB (i:Int) l.length=aC:=by rw[Bl,decide_eq_true_eq];omega
  have asg:zW.inB (k:Int) l.length=aC:=by rw[Bl,decide_eq_true_eq];omega
  have le0:zW.le (ah 0) (i:Int)=aC:=by simp[Df]
  have hc1:zW.nt (zW.eq lv (ah 1))=decide (lv≠1):=by
   rw[BQ,Aq];by_cases h:lv=1
   ·subst h;rfl
   ·rw[decide_eq_true h]
    have:(lv==ah 1)=ak:=beq_eq_false_iff_ne.2 h;rw[this];rfl
  have step (m':Nat) (hm':m'<2^62) (o':Nat->Int) (h1:o'=fun j=>if j=k then (m':Int) else o j)
    (h2:(if lv≠1/\reB a.en b.bg=aC then m|||1<<<i else m)=m'):=ahl FD F7 hl hk r (i+1) o' m' (by omega) (by rw[h1];simp) hm' (b:=b) (by
     rw[h2] at nx;have e:(fun j=>if j=k then ((Pj lv b.bg (i+1) (l.drop (i+1)) m':Nat):Int) else o' j)=fun j=>if j=k then ((Pj lv b.bg (i+1) (l.drop (i+1)) m':Nat):Int) else o j:=by
      funext j;rw[h1];split
      ·rfl
      ·rename_i hj;simp[hj]
     rw[e];exact nx)
  have same:(fun j=>if j=k then ((m:Nat):Int) else o j)=o:=by
   funext j;split
   ·rename_i h;rw[h,ho]
   ·rfl
  by_cases hc:lv≠1/\reB a.en b.bg=aC
  ·have st:=step (m|||1<<<i) (pq hm (by rw[l7,iF];exact jy (by decide) (by omega))) _ rfl (if_pos hc)
   refine EJ (dw _ _) (Qz FD F7 _) (hold:=Bh) (m:=300) (n:=400) (ts:=[⟨74,OB,Ul lv l.length (nth l) l.length (fun j=>if j=k then ((m|||1<<<i:Nat):Int) else o j) (k:Nat) b ((i+1:Nat):Int),[]⟩,⟨74,Lh,QM lv l.length (nth l) l.length o 0,[]⟩]) ?_;refine U9 zW W7 lv _ (nth l) _ o _ k _ b i _ (c1:=aC) (c2:=aC) rfl (by rw[hc1];exact decide_eq_true hc.1) (by rw[hna];exact hc.2) (fun _=>inb) (fun _ _ _=>asg) (fun _ _ _=>le0)
    (fun _ _ _=>⟨⟨rfl,rfl,rfl,rfl,rfl,w1,rfl,fun _ _=>rfl,rfl,fun j hj=>?_,rfl,rfl,rfl,rfl,rfl,rfl,rfl,trivial⟩,_,rfl,st⟩) (fun _ _ q=>by cases q) (fun _ q=>by cases q) (fun q=>no q)
   have e:zW.bin .or .i64 (o (zW.toN (k:Int))) (zW.bin .shl .i64 (ah 1) (i:Int))=((m|||1<<<i:Nat):Int):=by
    show zW.bin .or .i64 (o k) _=_;rw[ho];exact or_eq (by omega) (by omega)
   rw[e];exact aoK j
  ·have st:=step m hm o same.symm (if_neg hc)
   refine EJ (dw _ _) (Qz FD F7 _) (hold:=Bh) (m:=300) (n:=400) (ts:=[⟨74,OB,Ul lv l.length (nth l) l.length o (k:Nat) b ((i+1:Nat):Int),[]⟩,⟨74,Lh,QM lv l.length (nth l) l.length o 0,[]⟩]) ?_;have fin:=(⟨⟨rfl,rfl,rfl,rfl,rfl,w1,rfl,fun _ _=>rfl,rfl,fun _ _=>rfl,rfl,rfl,rfl,rfl,rfl,rfl,rfl,trivial⟩,_,rfl,st⟩:Jz aB (C7 zW W7 Iq Ap) (K0 H0 w0) [⟨74,OB,Ul lv l.length (nth l) l.length o (k:Nat) b ((i+1:Nat):Int),[]⟩,⟨74,Lh,QM lv l.length (nth l) l.length o 0,[]⟩] emp (up φ) (bJ 0 [aj lv lv,aj k k,aj (ah l.length) (ah l.length),aj k k,aj (ah l.length) (ah l.length),aj (zW.add .i64 i (ah 1)) ((i+1:Nat):Int),aJ l.length l.length,aT l.length (zX (nth l)) (zX (nth l)),aJ l.length l.length,aT l.length (zX o) (zX o),aj b.id b.id,aj b.th b.th,aj b.st b.st,aj b.bg b.bg,aj b.en b.en,aj b.tr b.tr,aQ (aG 8 b.k b.g) (aG 8 b.k b.g)]));exact U9 zW W7 lv _ (nth l) _ o _ k _ b i _ rfl rfl rfl (fun _=>inb) (fun _ _ _=>asg) (fun _ _ _=>le0)
    (fun _ q1 q2=>(hc ⟨of_decide_eq_true (hc1.symm.trans q1),by rw[hna] at q2;exact q2⟩).elim) (fun _ _ _=>fin) (fun _ _=>fin) (fun q=>no q)
theorem ahm(FD:Ar aB (AZ W7) 73 D73)(F7:Ar aB (AZ W7) 94 D94)(hl:l.length<=62)(hφ:φ (.Ak [.sl 1 l.length (zX (mkI lv l)),.v .nilIface])):
  ∀r k (o:Nat->Int),k+r=l.length->(∀j,j<k->o j=mkI lv l j)->(∀j,k<=j->o j=0)->
  Bd aB (C7 zW W7 Iq Ap) (K0 H0 w0) 74 Lh (QM lv l.length (nth l) l.length o (k:Nat)) [] emp (up φ)
 |0,k,o,hk,ho,ho2=>by
  refine Gu (fn:=lH) (tb:=ai5) (by kernel_rfl) (by kernel_rfl) ?_;have lt {P:Prop} (h:zW.lt (k:Int) (ah l.length)=aC):P:=by simp[Ad] at h;omega
  refine EJ (dw _ _) (Qz FD F7 _) (hold:=Bh) (m:=300) (n:=400) (ts:=[⟨74,OB,Ul lv l.length (nth l) l.length o (k:Nat) default 0,[]⟩]) ?_;refine abM zW W7 lv _ (nth l) _ o k default rfl (fun q=>lt q) (fun q=>lt q) (fun _=>?_);refine BH (s':=.Ak [.sl 1 l.length (zX (mkI lv l)),.v .nilIface]) ⟨.inr ⟨rfl,rfl,fun j hj=>?_⟩,rfl,trivial⟩ hφ;show Row.put (o j)=Row.put (mkI lv l j);rw[ho j (by omega)]
 |r+1,k,o,hk,ho,ho2=>by
  refine Gu (fn:=lH) (tb:=ai5) (by kernel_rfl) (by kernel_rfl) ?_;have no {P:Prop} (h:zW.lt (k:Int) (ah l.length)=ak):P:=by simp[Ad] at h;omega
  have inb:zW.inB (k:Int) l.length=aC:=by rw[Bl,decide_eq_true_eq];omega
  have st:=ahl (H0:=H0) (w0:=w0) (φ:=φ) (lv:=lv) FD F7 hl (k:=k) (by omega) (b:=nth l k) l.length 0 o 0 (by omega) (ho2 k (dn _)) (by decide)
   (ahm FD F7 hl hφ r (k+1) _ (by omega) (fun j hj=>by
    show (if j=k then ((Pj lv (nth l k).bg 0 (l.drop 0) 0:Nat):Int) else o j)=_;split
    ·rename_i h;subst h;rfl
    ·exact ho j (by omega)) (fun j hj=>by
    show (if j=k then ((Pj lv (nth l k).bg 0 (l.drop 0) 0:Nat):Int) else o j)=_;rw[if_neg (by omega)];exact ho2 j (by omega)))
  refine EJ (dw _ _) (Qz FD F7 _) (hold:=Bh) (m:=300) (n:=400) (ts:=[⟨74,OB,Ul lv l.length (nth l) l.length o (k:Nat) (nth l k) ((0:Nat):Int),[]⟩]) ?_;exact abM zW W7 lv _ (nth l) _ o k (nth l k) rfl (fun _=>inb) (fun _=>⟨⟨rfl,rfl,rfl,rfl,rfl,rfl,rfl,fun _ _=>rfl,rfl,fun _ _=>rfl,rfl,rfl,rfl,rfl,rfl,rfl,rfl,trivial⟩,_,rfl,st⟩) (fun q=>no q)
theorem abN{n:Nat}{T:Nat->Ef}(FD:Ar aB (AZ W7) 73 D73)(F7:Ar aB (AZ W7) 94 D94)(hn:n<=62)(hφ:φ (.Ak [.sl 1 (G7 lv n T).length (zX (mkI lv (G7 lv n T))),.v .nilIface])):
  ∀r i (acc:List Ef),i+r=n->acc.length<=i->acc++ctF lv T i r=G7 lv n T->
  Bd aB (C7 zW W7 Iq Ap) (K0 H0 w0) 74 Zd (Ze lv n T acc.length (nth acc) (i:Nat)) [] emp (up φ)
 |0,i,acc,hi,hl,he=>by
  have he:acc=G7 lv n T:=by
   rw[<-he];show acc=acc++[];rw[fA]
  refine Gu (fn:=lH) (tb:=aoJ) (by kernel_rfl) (by kernel_rfl) ?_;have lt {P:Prop} (h:zW.lt (i:Int) (ah n)=aC):P:=by simp[Ad] at h;omega
  have c2 {P:Prop} (h:zW.lt (ah 62) (zW.AO acc.length)=aC):P:=by simp[Ad,Az] at h;omega
  have st:=ahm (H0:=H0) (w0:=w0) (φ:=φ) (lv:=lv) (l:=acc) FD F7 (by omega) (by rw[he];exact hφ) acc.length 0 (fun _=>0) (by omega) (fun j hj=>by omega) (fun j _=>rfl);refine EJ (dw _ _) (Qz FD F7 _) (hold:=Bh) (m:=300) (n:=400) (ts:=[⟨74,Zd,Ze lv n T acc.length (nth acc) 0,[]⟩,⟨74,Lh,QM lv acc.length (nth acc) acc.length (fun _=>0) ((0:Nat):Int),[]⟩]) ?_;refine U8 zW W7 lv n T _ _ (nth acc) _ i 0 acc.length (fun _=>0) rfl rfl rfl (fun q=>lt q) (fun q=>lt q) (fun _ _=>by simp[Df,Az]) (fun _ _=>?_) (fun q=>lt q) (fun q=>lt q) (fun _ q=>c2 q)
   (fun _ _=>⟨⟨rfl,rfl,rfl,rfl,fun _ _=>rfl,rfl,fun _ _=>rfl,trivial⟩,_,rfl,st⟩)
  rw[Ew,decide_eq_true_eq,Az,CJ,fK];unfold maxLen;omega
 |r+1,i,acc,hi,hl,he=>by
  refine Gu (fn:=lH) (tb:=aoJ) (by kernel_rfl) (by kernel_rfl) ?_;have w1:zW.add .i64 (i:Int) (ah 1)=((i+1:Nat):Int):=add1 (by omega);have no {P:Prop} (h:zW.lt (i:Int) (ah n)=ak):P:=by simp[Ad] at h;omega
  have inb:zW.inB (i:Int) n=aC:=by rw[Bl,decide_eq_true_eq];omega
  have rm:zW.room (zW.addN acc.length 1) 72=aC:=by rw[Ew,decide_eq_true_eq,Dl];unfold maxLen;omega
  rw[adK] at he;cases hc:WZ (T i).st lv with
  |true=>
   rw[if_pos hc,<-dU] at he;have nx:=abN FD F7 hn hφ r (i+1) (acc++[T i]) (by omega) (by rw[bf];simp;omega) he;refine EJ (dw _ _) (Qz FD F7 _) (hold:=Bh) (m:=300) (n:=400) (ts:=[⟨74,Zd,Ze lv n T (acc++[T i]).length (nth (acc++[T i])) ((i+1:Nat):Int),[]⟩,⟨74,Lh,QM lv acc.length (nth acc) 0 (fun _=>0) 0,[]⟩]) ?_;exact U8 zW W7 lv n T _ _ (nth acc) _ i _ 0 (fun _=>0) (c1:=aC) rfl hc rfl (fun _=>inb) (fun _ _=>rm) (fun q=>no q) (fun q=>no q)
    (fun _ _=>⟨⟨rfl,rfl,rfl,w1,by rw[bf];rfl,fun j hj=>Ip acc (T i) _ rfl j hj,trivial⟩,_,rfl,nx⟩) (fun _ q=>by cases q) (fun q=>no q) (fun q=>no q)
  |false=>
   rw[if_neg (by rw[hc];simp),jH] at he;have nx:=abN FD F7 hn hφ r (i+1) acc (by omega) (by omega) he;refine EJ (dw _ _) (Qz FD F7 _) (hold:=Bh) (m:=300) (n:=400) (ts:=[⟨74,Zd,Ze lv n T acc.length (nth acc) ((i+1:Nat):Int),[]⟩,⟨74,Lh,QM lv acc.length (nth acc) 0 (fun _=>0) 0,[]⟩]) ?_;exact U8 zW W7 lv n T _ _ (nth acc) _ i _ 0 (fun _=>0) (c1:=ak) rfl hc rfl (fun _=>inb) (fun _ q=>by cases q) (fun q=>no q) (fun q=>no q)
    (fun _ q=>by cases q) (fun _ _=>⟨⟨rfl,rfl,rfl,w1,rfl,fun _ _=>rfl,trivial⟩,_,rfl,nx⟩) (fun q=>no q) (fun q=>no q)
end
theorem FD:Ar aB (AZ W7) 73 D73:=by
 refine FN (C:=C7 zW W7 noSpec Ap) (dw _ _) (fn:=Tryz.f73) (by kernel_rfl) (by kernel_rfl) fun H w A8 args φ hrep h=>?_
 have hn:Tryz.f73.ntmps=19:=by kernel_rfl
 unfold D73 at h;split at h
 ·rename_i l t
  split at h
  ·rename_i x lv e1 e2
   have hφ:φ (.b (WZ x.st lv)):=h;match args,hrep with
   |[v,u],⟨rv,ru,_⟩=>
    have hl:l=Row.put x:=(Row.Dp _ _ e1).symm;subst hl;refine ⟨[.agg (Row.put x),.i .i64 lv],⟨rv,Ej e2 ru,trivial⟩,L0,?_⟩;refine EJ (dw _ _) (Nl _) (hold:=Bh) (m:=300) (n:=400) (ts:=[]) ?_;rw[hn];have fin (b:Bool) (hb:b=WZ x.st lv):up φ (.b b):=BH (s':=.b (WZ x.st lv)) (.inl (by rw[hb])) hφ;have e3:zW.eq x.st (ah 3)=(x.st==3):=rfl;have e2':zW.eq x.st (ah 2)=(x.st==2):=rfl;refine ai9 zW W7 x lv rfl rfl rfl (fun q0 q1=>fin _ ?_) (fun q0 q1=>fin _ ?_) (fun q0 q2 q1=>fin _ ?_) (fun q0 q2 q1=>fin _ ?_) (fun q0 q2=>fin _ ?_);all_goals unfold WZ
    ·rw[if_pos (.inl (by simpa[Aq] using q0)),<-e3,q1];rfl
    ·rw[if_pos (.inl (by simpa[Aq] using q0)),<-e3,q1,e2'];rfl
    ·rw[if_pos (.inr (by simpa[Aq] using q2)),<-e3,q1];rfl
    ·rw[if_pos (.inr (by simpa[Aq] using q2)),<-e3,q1,e2'];rfl
    ·rw[if_neg (by
      rintro (h|h)
      ·rw[h] at q0;cases q0
      ·rw[h] at q2;cases q2)]
     rfl
  ·exact h.elim
 ·exact h.elim
theorem F7:Ar aB (AZ W7) 94 D94:=by
 refine FN (C:=C7 zW W7 noSpec Ap) (dw _ _) (fn:=Tryz.f94) (by kernel_rfl) (by kernel_rfl) fun H w A8 args φ hrep h=>?_
 have hn:Tryz.f94.ntmps=15:=by kernel_rfl
 unfold D94 at h;split at h
 ·rename_i l r
  split at h
  ·rename_i x y e1 e2
   have hφ:φ (.b (reB x.en y.bg)):=h;have hl:l=Row.put x:=(Row.Dp _ _ e1).symm;have hr:r=Row.put y:=(Row.Dp _ _ e2).symm;subst hl hr;refine ⟨[.agg (Row.put x),.agg (Row.put y)],hrep,L0,?_⟩;refine EJ (dw _ _) (Nl _) (hold:=Bh) (m:=300) (n:=400) (ts:=[]) ?_;rw[hn];have fin (b:Bool) (hb:b=reB x.en y.bg):up φ (.b b):=BH (s':=.b (reB x.en y.bg)) (.inl (by rw[hb])) hφ;refine aja zW W7 x y rfl (fun q=>fin _ ?_) (fun q=>fin _ ?_)
   ·have q:decide (0<=x.en)=aC:=q
    unfold reB;rw[q];rfl
   ·have q:decide (0<=x.en)=ak:=q
    unfold reB;rw[q];rfl
  ·exact h.elim
 ·exact h.elim
theorem atB:Ar aB (AZ W7) 74 D74:=by
 refine FN (C:=C7 zW W7 Iq Ap) (dw _ _) (fn:=lH) (by kernel_rfl) (by kernel_rfl) fun H w A8 args φ hrep h=>?_
 have hn:lH.ntmps=74:=by kernel_rfl
 unfold D74 at h;split at h
 ·rename_i s t
  split at h
  ·rename_i n T lv e1 e2
   obtain ⟨h1,hφ⟩:=h;unfold mkP at h1;rw[aI,aI,aI] at h1;obtain ⟨a1,a2,a3,a4⟩:=h1;have a2:=of_decide_eq_true a2;have a3:=of_decide_eq_true a3;have a4:=of_decide_eq_true a4;match args,hrep with
   |[v,u],⟨rv,ru,_⟩=>
    refine ⟨[.sl 7 n (zX (zZ (α:=Ef) T)),.i .i64 lv],⟨Ei (BD e1 rv) a1,Ej e2 ru,trivial⟩,L0,?_⟩;have st:=abN (H0:=H) (w0:=w) (φ:=φ) (lv:=lv) (n:=n) (T:=zZ T) FD F7 a4 hφ n 0 [] (by omega) (by simp) (by rw[jH,ahj]);refine EJ (dw _ _) (Qz FD F7 _) (hold:=Bh) (m:=300) (n:=400) (ts:=[⟨74,Zd,Ze lv n (zZ T) 0 (nth []) ((0:Nat):Int),[]⟩]) ?_;rw[hn];have c0 {P:Prop} (h:zW.lt lv (ah 1)=aC):P:=by simp[Ad] at h;omega
    have c1 {P:Prop} (h:zW.lt (ah 3) lv=aC):P:=by simp[Ad] at h;omega
    exact ai8 zW W7 lv n (zZ T) (nth []) _ rfl rfl (fun q=>c0 q) (fun _ q=>c1 q) (fun _ _=>⟨⟨rfl,rfl,rfl,rfl,rfl,trivial⟩,_,rfl,st⟩)
  ·exact h.elim
 ·exact h.elim
theorem av7:Ar aB (AZ W7) 75 D75:=O25.mono fun H A8 args φ hr h=>by
 unfold D75 at h;split at h
 ·split at h
  ·rename_i n g e0
   obtain ⟨h1,h2⟩:=h;unfold nwB at h1;rw[aI,aI,aI,Bool.not_eq_true'] at h1;obtain ⟨a1,a2,a3,a4⟩:=h1;unfold F25;simp only[e0];exact ⟨a1,a2,fun q=>(by rw[q] at a3;cases a3),fun _=>⟨fun _=>h2,fun q=>(by rw[q] at a4;cases a4)⟩⟩
  ·exact h.elim
 ·exact h.elim
theorem ae9{hs:Sh}{B:WY}(O20:Ar aB (AZ W7) 20 (D20 hs B))(stop:Nat->List Nat->Bool):BA aB (C7 zW W7 (Qy hs B) stop):=lS (fun g F h=>by
 unfold Qy at h;split at h
 ·cases h;exact O20
 ·cases h;exact FD
 ·cases h;exact atB
 ·cases h;exact av7
 ·cases h) fun g h=>by
 unfold Qy at h;split at h;all_goals first|(cases h;done) |kernel_rfl
section
variable{H0:Mem}{w0:World}{φ:Sh->Prop}{hs:Sh}{B:WY}{lv:Int}{o m:Nat}{og mg:Nat->List Sh}
theorem afa(O20:Ar aB (AZ W7) 20 (D20 hs B)){n:Nat}{T:Nat->Ef}(h1:1<=lv)(h3:lv<=3)(hn:n<=12)(hw:nwB o og=aC)
  (hφ:φ (.Ak [.pt (BK lv (G7 lv n T).length (nth (G7 lv n T)) (G7 lv n T).length (mkI lv (G7 lv n T)) o (Hu og)),.v .nilIface])) :
  ∀r i (acc:List Ef),i+r=n->acc.length<=i->acc++ctF lv T i r=G7 lv n T->
  Bd aB (C7 zW W7 (Qy hs B) Ap) (K0 H0 w0) 40 Zb (Zc o m og mg lv n T acc.length (nth acc) (i:Nat)) [] emp (up φ)
 |0,i,acc,hi,hl,he=>by
  have he:acc=G7 lv n T:=by
   rw[<-he];show acc=acc++[];rw[fA]
  refine Gu (fn:=yU) (tb:=aoI) (by kernel_rfl) (by kernel_rfl) ?_;have lt {P:Prop} (h:zW.lt (i:Int) (ah n)=aC):P:=by simp[Ad] at h;omega
  refine EJ (dw _ _) (ae9 O20 _) (hold:=Bh) (m:=300) (n:=400) (ts:=[⟨40,Zb,Zc o m og mg lv n T 0 (nth []) 0,[]⟩]) ?_;refine U7 zW W7 hs B lv o m og mg n T _ 0 (nth acc) (nth []) i 0 rfl rfl (fun q=>lt q) (fun q=>lt q) (fun _=>?_) (fun _=>hw) (fun q=>lt q) (fun q=>lt q) (fun _=>?_)
  ·unfold mkP
   rw[Dy,decide_eq_true h1,decide_eq_true h3,decide_eq_true (by omega:n<=62)];rfl
  ·have e1:mkN lv n (zX T)=(G7 lv n T).length:=by unfold mkN;rw[G6]
   have e2:mkR lv n (zX T)=mkI lv (G7 lv n T):=by unfold mkR;rw[G6]
   rw[e1,e2,he];exact BH (s':=.Ak [.pt (BK lv (G7 lv n T).length (nth (G7 lv n T)) (G7 lv n T).length (mkI lv (G7 lv n T)) o (Hu og)),.v .nilIface]) ⟨rfl,rfl,trivial⟩ hφ
 |r+1,i,acc,hi,hl,he=>by
  refine Gu (fn:=yU) (tb:=aoI) (by kernel_rfl) (by kernel_rfl) ?_;have w1:zW.add .i64 (i:Int) (ah 1)=((i+1:Nat):Int):=add1 (by omega);have no {P:Prop} (h:zW.lt (i:Int) (ah n)=ak):P:=by simp[Ad] at h;omega
  have inb:zW.inB (i:Int) n=aC:=by rw[Bl,decide_eq_true_eq];omega
  have rm:zW.room (zW.addN acc.length 1) 72=aC:=by rw[Ew,decide_eq_true_eq,Dl];unfold maxLen;omega
  rw[adK] at he;cases hc:WZ (T i).st lv with
  |true=>
   rw[if_pos hc,<-dU] at he;have nx:=afa O20 h1 h3 hn hw hφ r (i+1) (acc++[T i]) (by omega) (by rw[bf];simp;omega) he;refine EJ (dw _ _) (ae9 O20 _) (hold:=Bh) (m:=300) (n:=400) (ts:=[⟨40,Zb,Zc o m og mg lv n T (acc++[T i]).length (nth (acc++[T i])) ((i+1:Nat):Int),[]⟩]) ?_;exact U7 zW W7 hs B lv o m og mg n T _ _ (nth acc) _ i _ (c1:=aC) rfl hc (fun _=>inb) (fun _ _=>rm) (fun q=>no q) (fun q=>no q)
    (fun _ _=>⟨⟨rfl,rfl,rfl,rfl,w1,rfl,rfl,rfl,by rw[bf];rfl,fun j hj=>Ip acc (T i) _ rfl j hj,trivial⟩,_,rfl,nx⟩) (fun _ q=>by cases q) (fun q=>no q)
  |false=>
   rw[if_neg (by rw[hc];simp),jH] at he;have nx:=afa O20 h1 h3 hn hw hφ r (i+1) acc (by omega) (by omega) he;refine EJ (dw _ _) (ae9 O20 _) (hold:=Bh) (m:=300) (n:=400) (ts:=[⟨40,Zb,Zc o m og mg lv n T acc.length (nth acc) ((i+1:Nat):Int),[]⟩]) ?_;exact U7 zW W7 hs B lv o m og mg n T _ _ (nth acc) _ i _ (c1:=ak) rfl hc (fun _=>inb) (fun _ q=>by cases q) (fun q=>no q) (fun q=>no q)
    (fun _ q=>by cases q) (fun _ _=>⟨⟨rfl,rfl,rfl,rfl,w1,rfl,rfl,rfl,rfl,fun _ _=>rfl,trivial⟩,_,rfl,nx⟩) (fun q=>no q)
end
end Go.Proofs
namespace Go.Ae
open Go Go.Sx
abbrev Wd:=Go.Proofs.Wd
abbrev WH:=Go.Proofs.WH
abbrev Fv:=Go.Proofs.AZ
abbrev W5:=qZ
abbrev noSpec:=Go.Proofs.noSpec
noncomputable def C5(A:Prim)(W:Wd)(spec:Nat->Option (List Sh->Tree Sh))(stop:Nat->List Nat->Bool):Ctx:=
 {A,tys:=mP,fns:=oJ,spec,eqs:=[140,71],Vp:=[329],L6:=stop,gls:=Fv W,live:=yB,Z8:=[157],ad9:=Go.Proofs.anF}
theorem av8:Wq aB mP [140,71]=aC:=by kernel_rfl
theorem av9:agh aB [329]=aC:=by kernel_rfl
theorem C5.ok(spec:Nat->Option (List Sh->Tree Sh))(stop:Nat->List Nat->Bool):Ba aB (C5 zW W5 spec stop):=
 ⟨aaL yC,Qa jg,rfl,sS,fun t i h hi xs ys w h1 h2 x y=>XO (Qd av8 t i h hi) xs ys w h1 h2 x y,Wp av9,zT⟩
theorem C5.WI{spec:Nat->Option (List Sh->Tree Sh)}{stop:Nat->List Nat->Bool}(hs:∀g F,spec g=ay F->Ar aB (Fv W5) g F)(he:∀g,(spec g).isSome=aC->(oJ.get g).isSome=aC):BA aB (C5 zW W5 spec stop):=
 ⟨hs,fun g h=>by
  rcases h with h|h
  ·exact GN jg jI g (he g h)
  ·exact GN jg jI g h,fun _ _ _ h=>(by cases h),fun _ _ _ h=>(by cases h)⟩
theorem Nl(stop:Nat->List Nat->Bool):BA aB (C5 zW W5 noSpec stop):=C5.WI (fun _ _ h=>by cases h) (fun _ h=>by cases h)
def Am:Nat->List Nat->Bool:=fun _ _=>ak
end Go.Ae
namespace Go.BF
open Go Go.Sx
structure Oj where
 kind:Int
 init:Int
 deriving DecidableEq,Inhabited
structure Ev where
 kind:Int
 tx:Int
 thread:Int
 obj:Int
 op:Int
 key:Int
 val:Int
 ret:Int
 deriving DecidableEq,Inhabited
def obR(o:Oj):List Sh:=[.i .i64 o.kind,.i .i64 o.init]
def EK(e:Ev):List Sh:=[.i .i64 e.kind,.i .i64 e.tx,.i .i64 e.thread,.i .i64 e.obj,.i .i64 e.op,.i .i64 e.key,.i .i64 e.val,.i .i64 e.ret]
def inR(n:Int):List Sh:=[.i .i64 n]
class Row(α:Type)where
 put:α->List Sh
 get:List Sh->Option α
 Dp:∀l a,get l=ay a->put a=l
 get_put:∀a,get (put a)=ay a
 Jm:α
instance:Row Oj where
 put:=obR
 get l:=match l with
  |[.i .i64 a,.i .i64 b]=>ay ⟨a,b⟩ |_=>aK
 Dp l a h:=by
  split at h
  ·cases h;rfl
  ·cases h
 get_put a:=rfl
 Jm:=⟨0,0⟩
instance:Row Ev where
 put:=EK
 get l:=match l with
  |[.i .i64 a,.i .i64 b,.i .i64 c,.i .i64 d,.i .i64 e,.i .i64 f,.i .i64 g,.i .i64 h]=>ay ⟨a,b,c,d,e,f,g,h⟩ |_=>aK
 Dp l a h:=by
  split at h
  ·cases h;rfl
  ·cases h
 get_put a:=rfl
 Jm:=⟨0,0,0,0,0,0,0,0⟩
instance:Row Int where
 put:=inR
 get l:=match l with
  |[.i .i64 a]=>ay a |_=>aK
 Dp l a h:=by
  split at h
  ·cases h;rfl
  ·cases h
 get_put a:=rfl
 Jm:=0
def okB(α:Type)[Row α](n:Nat)(g:Nat->List Sh):Bool:=
 match n with
 |0=>aC |n+1=>okB α n g&&(Row.get (α:=α) (g n)).isSome
def zZ{α:Type}[Row α](g:Nat->List Sh)(i:Nat):α:=(Row.get (g i)).getD Row.Jm
def lst(α:Type)[Row α](n:Nat)(g:Nat->List Sh):List α:=(aX n).map (zZ g)
def nth{α:Type}[Row α](l:List α)(i:Nat):α:=l.getD i Row.Jm
def zX{α:Type}[Row α](o:Nat->α):Nat->List Sh:=fun j=>Row.put (o j)
section
variable{α:Type}[Row α]
theorem JB{n:Nat}{g:Nat->List Sh}(h:okB α n g=aC):∀i,i<n->g i=Row.put (zZ (α:=α) g i):=by
 induction n with
 |zero=>intro i hi;omega |succ n ih=>
  simp only[okB,aI] at h;intro i hi;by_cases e:i=n
  ·subst e
   obtain ⟨a,ha⟩:=Option.isSome_iff_exists.1 h.2;simp only[zZ,ha,nY];exact (Row.Dp _ _ ha).symm
  ·exact ih h.1 i (by omega)
theorem Dy(o:Nat->α):∀n,okB α n (zX o)=aC
 |0=>rfl |n+1=>by simp[okB,Dy o n,zX,Row.get_put]
theorem ZT{g:Nat->List Sh}{o:Nat->α}:∀{n:Nat},(∀i,i<n->g i=Row.put (o i))->okB α n g=aC
 |0,_=>rfl |n+1,h=>by simp[okB,ZT (n:=n) fun i hi=>h i (by omega),h n (by omega),Row.get_put]
theorem Nq(o:Nat->α)(i:Nat):zZ (zX o) i=o i:=by simp[zZ,zX,Row.get_put]
@[simp] theorem E8 (n:Nat) (g:Nat->List Sh):(lst α n g).length=n:=by simp[lst]
theorem RP{n:Nat}{g:Nat->List Sh}{i:Nat}(h:i<n):nth (lst α n g) i=zZ g i:=by simp[nth,lst,h]
end
theorem Es{H:Mem}{st n:Nat}{g g':Nat->List Sh}{v:Value}(h:Rep H (.sl st n g) v)(hg:∀j,j<n->g j=g' j):Rep H (.sl st n g') v:=by
 cases h with
 |sl0 _ _ A cap hc=>exact .sl0 _ _ _ _ hc |sl _ _ _ b off cap c h1 h2 h3 h4 h5 h6=>exact .sl _ _ _ b off cap c h1 h2 (fun i hi=>by rw[<-hg i hi];exact h3 i hi) h4 h5 fun i j s hi e=>h6 i j s hi (by rw[hg i hi];exact e)
theorem Ei{α:Type}[Row α]{H:Mem}{st n:Nat}{g:Nat->List Sh}{v:Value}(h:Rep H (.sl st n g) v)(hg:okB α n g=aC):Rep H (.sl st n (zX (zZ (α:=α) g))) v:=
 Es h fun j hj=>JB hg j hj
def len{α:Type}(l:List α):Nat:=l.length
def fO(g:Nat->List Sh):Nat->List Sh:=zX (zZ (α:=Oj) g)
def fE(g:Nat->List Sh):Nat->List Sh:=zX (zZ (α:=Ev) g)
open Go Go.Sx
theorem Ad(a b:Int):zW.lt a b=decide (a<b):=rfl
theorem Df(a b:Int):zW.le a b=decide (a<=b):=rfl
theorem Aq(a b:Int):zW.eq a b=(a==b):=rfl
theorem Bl(a:Int)(n:Nat):zW.inB a n=decide (0<=a/\a<n):=rfl
theorem J8(a:Int)(n:Nat):zW.upTo a n=decide (0<=a/\a<=n):=rfl
theorem Ew(n b:Nat):zW.room n b=decide (n*b<=140737488355328/\n<=maxLen):=rfl
theorem CJ(a:Int):zW.toN a=a.toNat:=rfl
theorem Az(n:Nat):zW.AO n=(n:Int):=rfl
theorem Dl(n m:Nat):zW.addN n m=n+m:=rfl
theorem XZ(n m:Nat):zW.Z7 n m=decide (n<=m):=rfl
theorem BQ(b:Bool):zW.nt b=!b:=rfl
theorem DY(a b c:Bool):zW.ite a b c=bif a then b else c:=rfl
theorem X0(a b:List UInt8):zW.seq a b=(a==b):=rfl
theorem Dj(a b:Int):zW.add .i64 a b=aN.wrap (a+b):=rfl
theorem MC(a b:Int):zW.sub .i64 a b=aN.wrap (a - b):=rfl
theorem MF(a b:Int):zW.max a b=if b>a then b else a:=rfl
theorem adL(a b:Int):zW.min a b=if b<a then b else a:=rfl
theorem Ed(g:Nat->List Sh)(n:Nat)(h:Nat->List Sh)(i:Nat):zW.snoc g n h i=if i<n then g i else h (i - n):=rfl
theorem BL{a:Int}(h1:-9223372036854775808<=a)(h2:a<=9223372036854775807):aN.wrap a=a:=by
 rw[IntKind.wrap_i64];omega
theorem GY:ah 1=1:=rfl
theorem maxLen_eq:maxLen=9223372036854775807:=rfl
theorem adM{α:Type}[Row α]{k:Nat}{o:Nat->α}{l:List (List Sh)}(h:AU l 0=Row.put (o k)):∀i,i<k+1->zW.snoc (zX o) k (AU l) i=zX o i:=fun i hi=>by
 rw[Ed];split
 ·rfl
 ·have:i=k:=by omega
  subst this;rw[qA,h];rfl
def Bo(n b:Nat):Bool:=zW.room n b
end Go.BF
