/- Own work. -/
import Derived.Test.YtldllpmodnbbiaaGreatDoorP12
open Int (ofNat)
open Bool renaming true->ay,false->aA,and_eq_true->aB,not_eq_true'->jy
open Classical renaming propDecidable->aI
open Go.Gm renaming start->dM
open Go.BI renaming Ap->aO,okB->gG,Oj->dU,Ev->fA,Am->aS,I5->gW,Xa->xM,IX->o9,TM->pq,WY->pW,inW->yU,idx->nN,takeB->iE,Ol->jl,H9->lV,PW->xO,Lj->wY,fieldsB->vN
open Go.BI.Au renaming nil->iw
open Go.BI.Au.OK renaming nil->lC
open Go.BI.Row renaming put->iP
open Go.Proofs renaming room_le->kY
open Go.Proofs.C7 renaming OG->ig
open Go.Proofs.Tryz renaming prog->ak,f79->kK,f101->Aj,f56->qO,f41->um,f9->uy,f38->wZ,f15->qP,f53->qQ,f25->qR,f35->xg
open Go.Sx.BL renaming int->aC,nat->aZ,get->bY,sh->aW
open Go.Sx.C9 renaming at_->bU,ret->aN
open Go.Sx.It renaming code->aK,inBlock->aX
open Go.Sx.Sh renaming i->aQ,sl->aG,agg->bG,Az->bF,b->iL
open Int renaming ofNat->ah,natCast_nonneg->uq
open Int.ofNat renaming inj->jf
open List renaming range->aU,range_succ_eq_map->pV,map_cons->iQ,map_map->mD,filter_cons->vM,length_map->dH,getElem?_eq_getElem->aV,getD_eq_getElem?_getD->bI,append_assoc->iI,length_append->cO,nil_append->ji,length_cons->jk,mem_map->eP,mem_flatMap->jE,mem_range->eF,mem_append->bQ,all_eq_true->dh,map_congr_left->iJ,length->uw,find?_cons->oP,mem_cons_self->dn,mem_cons_of_mem->bV,flatMap_def->vO,map->kT,getElem?_map->iU,any_eq_true->vP,mem_singleton->sO,range'->jG
open Nat renaming or_lt_two_pow->nX,shiftLeft_eq->kZ,one_mul->oJ,pow_lt_pow_right->iD,le_refl->bM,le_trans->fE,pos_of_ne_zero->uo,zero_le->fH,beq->dK,le_succ_of_le->nV
open Option renaming some->aj,none->aF
open Option.some renaming inj->bP
noncomputable section
namespace Go.Pl
open Go Go.Sx Go.Proofs
def ctF(lv:Int)(T:Nat->CJ)(i r:Nat):List CJ:=((aU r).map fun j=>T (i+j)).filter fun t=>Qh t.st lv
theorem aaV(lv:Int)(T:Nat->CJ)(i r:Nat):ctF lv T i (r+1)=(if Qh (T i).st lv=ay then [T i] else [])++ctF lv T (i+1) r:=by
 unfold ctF;rw[pV,iQ,mD,vM];have:((fun j=>T (i+j)) ∘ Nat.succ)=fun j=>T (i+1+j):=by
  grind
 grind
theorem Zy(lv:Int)(T:Nat->CJ)(n:Nat):ctF lv T 0 n=Ic lv n T:=by
 unfold ctF Ic;simp
theorem apX(lv:Int)(n:Nat)(T:Nat->CJ):(Ic lv n T).length<=n:=by
 grind [Ic,List.length_filter_le,Qh,aU,dH,List.length_range]
theorem ae9{lv bg:Int}:∀(l:List CJ) (i m N:Nat),m<2^N->i+l.length<=N->QF lv bg i l m<2^N
 |[],i,m,N,h,_=>h |a::l,i,m,N,h,hl=>by
  rw[QF];refine ae9 l (i+1) _ N ?_ (by grind);split
  ·refine nX h ?_
   rw[kZ,oJ];exact iD (by decide) (by grind)
  ·exact h
end Go.Pl
namespace Go.Proofs
open Go Go.Sx Go.Pl
section
variable{H0:Mem}{w0:World}{φ:Sh->Prop}
theorem P8(He:AO ak (AZ W7) 78 D73)(Ie:AO ak (AZ W7) 101 D94)(stop:Nat->List Nat->Bool):BJ ak (C7 Ak W7 Gn stop):=ig (fun g F h=>by
 unfold Gn at h;grind) fun g h=>by
 unfold Gn at h;split at h;all_goals first|(cases h;done) |kernel_rfl
theorem avL{o:Nat->Int}{k:Nat}{v:Int}:∀j,Ak.upd (Am o) k 0 [aQ .i64 v] j=Am (fun j=>if j=k then v else o j) j:=fun j=>by
 show (if j=k then (Am o j).take 0++[aQ .i64 v]++(Am o j).drop (0+1) else Am o j)=Row.put (if j=k then v else o j);split
 ·rfl
 ·rfl
variable{lv:Int}{l:List CJ}
theorem al8(He:AO ak (AZ W7) 78 D73)(Ie:AO ak (AZ W7) 101 D94)(hl:l.length<=62){k:Nat}(hk:k<l.length){b:CJ}:
  ∀r i (o:Nat->Int) (m:Nat),i+r=l.length->o k=(m:Nat)->m<2^62->
  (AB ak (C7 Ak W7 Gn Aw) (K0 H0 w0) 79 Om (Uy lv l.length (nth l) l.length (fun j=>if j=k then (QF lv b.bg i (l.drop i) m:Nat) else o j) ((k+1:Nat):Int)) [] emp (up φ))->
  AB ak (C7 Ak W7 Gn Aw) (K0 H0 w0) 79 Rj (Xf lv l.length (nth l) l.length o (k:Nat) b (i:Nat)) [] emp (up φ)
 |0,i,o,m,hi,ho,hm,nx=>by
  refine D6 kK aol ?_;have lt {P:Prop} (h:Ak.lt (i:Int) (ah l.length)=ay):P:=by simp_all [Ar]
  have w1:Ak.add .i64 (k:Int) (ah 1)=((k+1:Nat):Int):=add1 (by omega);have e:(fun j=>if j=k then ((QF lv b.bg i (l.drop i) m:Nat):Int) else o j)=o:=by
   grind [List.drop_eq_nil_of_le,QF]
  rw[e] at nx;refine BZ (P8 He Ie _) 300 400 [⟨79,Rj,Xf lv l.length (nth l) l.length o (k:Nat) b 0,[]⟩,⟨79,Om,Uy lv l.length (nth l) l.length o ((k+1:Nat):Int),[]⟩] ?_;exact X0 Ak W7 lv _ (nth l) _ o o k _ b i 0 rfl rfl rfl (fun q=>lt q) (fun q=>lt q) (fun q=>lt q) (fun q=>lt q) (fun q=>lt q) (fun q=>lt q)
   (fun _=>⟨⟨rfl,rfl,w1,rfl,fun _ _=>rfl,rfl,fun _ _=>rfl,ϖ⟩,_,rfl,nx⟩)
 |r+1,i,o,m,hi,ho,hm,nx=>by
  obtain ⟨a,ha⟩:∃a,l[i]?=aj a:=⟨_,aV (by omega)⟩;have hd:l.drop i=a::l.drop (i+1):=by
   grind [List.drop_eq_getElem_cons,aV,bP]
  have hna:nth l (Ak.toN (i:Int))=a:=by
   show nth l i=a;simp_all [nth,bI]
  rw[hd,QF] at nx;refine D6 kK aol ?_;have w1:Ak.add .i64 (i:Int) (ah 1)=((i+1:Nat):Int):=add1 (by omega);have no {P:Prop} (h:Ak.lt (i:Int) (ah l.length)=aA):P:=by simp_all [Ar]
  have inb:Ak.inB (i:Int) l.length=ay:=by grind [AX]
  have azu:Ak.inB (k:Int) l.length=ay:=by simp_all [AX]
  have le0:Ak.le (ah 0) (i:Int)=ay:=by rfl
  have hc1:Ak.nt (Ak.eq lv (ah 1))=decide (lv≠1):=by
   grind [BG,AQ,ϱ,beq_eq_false_iff_ne]
  have step (m':Nat) (hm':m'<2^62) (o':Nat->Int) (h1:o'=fun j=>if j=k then (m':Int) else o j)
    (h2:(if lv≠1/\P7 a.en b.bg=ay then m|||1<<<i else m)=m'):=al8 He Ie hl hk r (i+1) o' m' (by omega) (by rw[h1];simp) hm' (b:=b) (by
     simp_all)
  have same:(fun j=>if j=k then ((m:Nat):Int) else o j)=o:=by
   grind
  by_cases hc:lv≠1/\P7 a.en b.bg=ay
  ·have st:=step (m|||1<<<i) (nX hm (by rw[kZ,oJ];exact iD (by decide) (by omega))) _ rfl (if_pos hc)
   refine BZ (P8 He Ie _) 300 400 [⟨79,Rj,Xf lv l.length (nth l) l.length (fun j=>if j=k then ((m|||1<<<i:Nat):Int) else o j) (k:Nat) b ((i+1:Nat):Int),[]⟩,⟨79,Om,Uy lv l.length (nth l) l.length o 0,[]⟩] ?_;refine X0 Ak W7 lv _ (nth l) _ o _ k _ b i _ (c1:=ay) (c2:=ay) rfl (by simp_all) (by simp_all) (fun _=>inb) (fun _ _ _=>azu) (fun _ _ _=>le0)
    (fun _ _ _=>⟨⟨rfl,rfl,rfl,rfl,rfl,w1,rfl,fun _ _=>rfl,rfl,fun j hj=>?_,rfl,rfl,rfl,rfl,rfl,rfl,rfl,ϖ⟩,_,rfl,st⟩) (fun _ _ q=>by cases q) (fun _ q=>by cases q) (fun q=>no q)
   have e:Ak.bin .or .i64 (o (Ak.toN (k:Int))) (Ak.bin .shl .i64 (ah 1) (i:Int))=((m|||1<<<i:Nat):Int):=by
    show Ak.bin .or .i64 (o k) _=_;grind [or_eq]
   rw[e];exact avL j
  ·have st:=step m hm o same.symm (if_neg hc)
   refine BZ (P8 He Ie _) 300 400 [⟨79,Rj,Xf lv l.length (nth l) l.length o (k:Nat) b ((i+1:Nat):Int),[]⟩,⟨79,Om,Uy lv l.length (nth l) l.length o 0,[]⟩] ?_;have fin:=(⟨⟨rfl,rfl,rfl,rfl,rfl,w1,rfl,fun _ _=>rfl,rfl,fun _ _=>rfl,rfl,rfl,rfl,rfl,rfl,rfl,rfl,ϖ⟩,_,rfl,st⟩:IV ak (C7 Ak W7 Gn Aw) (K0 H0 w0) [⟨79,Rj,Xf lv l.length (nth l) l.length o (k:Nat) b ((i+1:Nat):Int),[]⟩,⟨79,Om,Uy lv l.length (nth l) l.length o 0,[]⟩] emp (up φ) (bU 0 [aC lv lv,aC k k,aC (ah l.length) (ah l.length),aC k k,aC (ah l.length) (ah l.length),aC (Ak.add .i64 i (ah 1)) ((i+1:Nat):Int),aZ l.length l.length,bY l.length (Am (nth l)) (Am (nth l)),aZ l.length l.length,bY l.length (Am o) (Am o),aC b.id b.id,aC b.th b.th,aC b.st b.st,aC b.bg b.bg,aC b.en b.en,aC b.tr b.tr,aW (aG 8 b.k b.g) (aG 8 b.k b.g)]));exact X0 Ak W7 lv _ (nth l) _ o _ k _ b i _ rfl rfl rfl (fun _=>inb) (fun _ _ _=>azu) (fun _ _ _=>le0)
    (fun _ q1 q2=>(hc ⟨ϑ (hc1.symm.trans q1),by simp_all⟩).elim) (fun _ _ _=>fin) (fun _ _=>fin) (fun q=>no q)
theorem al9(He:AO ak (AZ W7) 78 D73)(Ie:AO ak (AZ W7) 101 D94)(hl:l.length<=62)(hφ:φ (.Az [.sl 1 l.length (Am (Jf lv l)),.v .nilIface])):
  ∀r k (o:Nat->Int),k+r=l.length->(∀j,j<k->o j=Jf lv l j)->(∀j,k<=j->o j=0)->
  AB ak (C7 Ak W7 Gn Aw) (K0 H0 w0) 79 Om (Uy lv l.length (nth l) l.length o (k:Nat)) [] emp (up φ)
 |0,k,o,hk,ho,ho2=>by
  refine D6 kK aok ?_;have lt {P:Prop} (h:Ak.lt (k:Int) (ah l.length)=ay):P:=by simp_all [Ar]
  refine BZ (P8 He Ie _) 300 400 [⟨79,Rj,Xf lv l.length (nth l) l.length o (k:Nat) default 0,[]⟩] ?_;refine ae8 Ak W7 lv _ (nth l) _ o k default rfl (fun q=>lt q) (fun q=>lt q) (fun _=>?_);refine AY (s':=.Az [.sl 1 l.length (Am (Jf lv l)),.v .nilIface]) ⟨.inr ⟨rfl,rfl,fun j hj=>?_⟩,rfl,ϖ⟩ hφ;show Row.put (o j)=Row.put (Jf lv l j);simp_all
 |r+1,k,o,hk,ho,ho2=>by
  refine D6 kK aok ?_;have no {P:Prop} (h:Ak.lt (k:Int) (ah l.length)=aA):P:=by grind [Ar]
  have inb:Ak.inB (k:Int) l.length=ay:=by grind [AX]
  have st:=al8 (H0:=H0) (w0:=w0) (φ:=φ) (lv:=lv) He Ie hl (k:=k) (by omega) (b:=nth l k) l.length 0 o 0 (by omega) (ho2 k (bM _)) (by decide)
   (al9 He Ie hl hφ r (k+1) _ (by omega) (fun j hj=>by
    show (if j=k then ((QF lv (nth l k).bg 0 (l.drop 0) 0:Nat):Int) else o j)=_;split
    ·rename_i h;subst h;rfl
    grind) (fun j hj=>by
    grind))
  refine BZ (P8 He Ie _) 300 400 [⟨79,Rj,Xf lv l.length (nth l) l.length o (k:Nat) (nth l k) ((0:Nat):Int),[]⟩] ?_;exact ae8 Ak W7 lv _ (nth l) _ o k (nth l k) rfl (fun _=>inb) (fun _=>⟨⟨rfl,rfl,rfl,rfl,rfl,rfl,rfl,fun _ _=>rfl,rfl,fun _ _=>rfl,rfl,rfl,rfl,rfl,rfl,rfl,rfl,ϖ⟩,_,rfl,st⟩) (fun q=>no q)
theorem afa{n:Nat}{T:Nat->CJ}(He:AO ak (AZ W7) 78 D73)(Ie:AO ak (AZ W7) 101 D94)(hn:n<=62)(hφ:φ (.Az [.sl 1 (Ic lv n T).length (Am (Jf lv (Ic lv n T))),.v .nilIface])):
  ∀r i (acc:List CJ),i+r=n->acc.length<=i->acc++ctF lv T i r=Ic lv n T->
  AB ak (C7 Ak W7 Gn Aw) (K0 H0 w0) 79 abV (abW lv n T acc.length (nth acc) (i:Nat)) [] emp (up φ)
 |0,i,acc,hi,hl,he=>by
  have he:acc=Ic lv n T:=by
   rw[<-he];show acc=acc++[];simp
  refine D6 kK avK ?_;have lt {P:Prop} (h:Ak.lt (i:Int) (ah n)=ay):P:=by simp_all [Ar]
  have c2 {P:Prop} (h:Ak.lt (ah 62) (Ak.AV acc.length)=ay):P:=by grind [Ar,AL]
  have st:=al9 (H0:=H0) (w0:=w0) (φ:=φ) (lv:=lv) (l:=acc) He Ie (by omega) (by simp_all) acc.length 0 (fun _=>0) (by omega) (fun j hj=>by omega) (fun j _=>rfl);refine BZ (P8 He Ie _) 300 400 [⟨79,abV,abW lv n T acc.length (nth acc) 0,[]⟩,⟨79,Om,Uy lv acc.length (nth acc) acc.length (fun _=>0) ((0:Nat):Int),[]⟩] ?_;refine XZ Ak W7 lv n T _ _ (nth acc) _ i 0 acc.length (fun _=>0) rfl rfl rfl (fun q=>lt q) (fun q=>lt q) (fun _ _=>by rfl) (fun _ _=>?_) (fun q=>lt q) (fun q=>lt q) (fun _ q=>c2 q)
   (fun _ _=>⟨⟨rfl,rfl,rfl,rfl,fun _ _=>rfl,rfl,fun _ _=>rfl,ϖ⟩,_,rfl,st⟩)
  rw[Em,ϟ,AL,Cm,Int.toNat_natCast];unfold maxLen;omega
 |r+1,i,acc,hi,hl,he=>by
  refine D6 kK avK ?_;have w1:Ak.add .i64 (i:Int) (ah 1)=((i+1:Nat):Int):=add1 (by omega);have no {P:Prop} (h:Ak.lt (i:Int) (ah n)=aA):P:=by grind [Ar]
  have inb:Ak.inB (i:Int) n=ay:=by grind [AX]
  have rm:Ak.room (Ak.addN acc.length 1) 72=ay:=by rw[Em,ϟ,Dl];unfold maxLen;omega
  rw[aaV] at he;cases hc:Qh (T i).st lv with
  |true=>
   rw[if_pos hc,<-iI] at he;have nx:=afa He Ie hn hφ r (i+1) (acc++[T i]) (by omega) (by simp_all) he;refine BZ (P8 He Ie _) 300 400 [⟨79,abV,abW lv n T (acc++[T i]).length (nth (acc++[T i])) ((i+1:Nat):Int),[]⟩,⟨79,Om,Uy lv acc.length (nth acc) 0 (fun _=>0) 0,[]⟩] ?_;exact XZ Ak W7 lv n T _ _ (nth acc) _ i _ 0 (fun _=>0) (c1:=ay) rfl hc rfl (fun _=>inb) (fun _ _=>rm) (fun q=>no q) (fun q=>no q)
    (fun _ _=>⟨⟨rfl,rfl,rfl,w1,by rw[cO];rfl,fun j hj=>Ib acc (T i) _ rfl j hj,ϖ⟩,_,rfl,nx⟩) (fun _ q=>by cases q) (fun q=>no q) (fun q=>no q)
  |false=>
   rw[if_neg (by rw[hc];simp),ji] at he;have nx:=afa He Ie hn hφ r (i+1) acc (by omega) (by omega) he;refine BZ (P8 He Ie _) 300 400 [⟨79,abV,abW lv n T acc.length (nth acc) ((i+1:Nat):Int),[]⟩,⟨79,Om,Uy lv acc.length (nth acc) 0 (fun _=>0) 0,[]⟩] ?_;exact XZ Ak W7 lv n T _ _ (nth acc) _ i _ 0 (fun _=>0) (c1:=aA) rfl hc rfl (fun _=>inb) (fun _ q=>by cases q) (fun q=>no q) (fun q=>no q)
    (fun _ q=>by cases q) (fun _ _=>⟨⟨rfl,rfl,rfl,w1,rfl,fun _ _=>rfl,ϖ⟩,_,rfl,nx⟩) (fun q=>no q) (fun q=>no q)
end
theorem He:AO ak (AZ W7) 78 D73:=by
 refine CG (C7 Ak W7 noSpec Aw) Tryz.f78 fun H w Bl args φ hrep h=>?_
 have hn:Tryz.f78.ntmps=19:=by kernel_rfl
 unfold D73 at h;split at h
 ·rename_i l t
  split at h
  ·rename_i x lv e1 e2
   have hφ:φ (.b (Qh x.st lv)):=h;match args,hrep with
   |[v,u],⟨rv,ru,_⟩=>
    have hl:l=Row.put x:=(Row.DL _ _ e1).symm;subst hl;refine ⟨[.agg (Row.put x),.i .i64 lv],⟨rv,Dz e2 ru,ϖ⟩,L0,?_⟩;refine BZ (Ej _) 300 400 [] ?_;rw[hn];have fin (b:Bool) (hb:b=Qh x.st lv):up φ (.b b):=AY (s':=.b (Qh x.st lv)) (.inl (by rw[hb])) hφ;have e3:Ak.eq x.st (ah 3)=(x.st==3):=rfl;have e2':Ak.eq x.st (ah 2)=(x.st==2):=rfl;refine aoo Ak W7 x lv rfl rfl rfl (fun q0 q1=>fin _ ?_) (fun q0 q1=>fin _ ?_) (fun q0 q2 q1=>fin _ ?_) (fun q0 q2 q1=>fin _ ?_) (fun q0 q2=>fin _ ?_);all_goals unfold Qh
    ·simp_all [AQ]
    ·simp_all [AQ]
    ·simp_all [AQ]
    ·simp_all [AQ]
    ·rw[if_neg (by
      rintro (h|h)
      ·rw[h] at q0;cases q0
      ·rw[h] at q2;cases q2)]
     rfl
  ·exact h.elim
 ·exact h.elim
theorem Ie:AO ak (AZ W7) 101 D94:=by
 refine CG (C7 Ak W7 noSpec Aw) Aj fun H w Bl args φ hrep h=>?_
 have hn:Aj.ntmps=15:=by kernel_rfl
 unfold D94 at h;split at h
 ·rename_i l r
  split at h
  ·rename_i x y e1 e2
   have hφ:φ (.b (P7 x.en y.bg)):=h;have hl:l=Row.put x:=(Row.DL _ _ e1).symm;have hr:r=Row.put y:=(Row.DL _ _ e2).symm;subst hl hr;refine ⟨[.agg (Row.put x),.agg (Row.put y)],hrep,L0,?_⟩;refine BZ (Ej _) 300 400 [] ?_;rw[hn];have fin (b:Bool) (hb:b=P7 x.en y.bg):up φ (.b b):=AY (s':=.b (P7 x.en y.bg)) (.inl (by rw[hb])) hφ;refine aop Ak W7 x y rfl (fun q=>fin _ ?_) (fun q=>fin _ ?_)
   ·have q:decide (0<=x.en)=ay:=q
    unfold P7;rw[q];rfl
   ·have q:decide (0<=x.en)=aA:=q
    unfold P7;rw[q];rfl
  ·exact h.elim
 ·exact h.elim
theorem aBq:AO ak (AZ W7) 79 D74:=by
 refine CG (C7 Ak W7 Gn Aw) kK fun H w Bl args φ hrep h=>?_
 have hn:kK.ntmps=74:=by kernel_rfl
 unfold D74 at h;split at h
 ·rename_i s t
  split at h
  ·rename_i n T lv e1 e2
   obtain ⟨h1,hφ⟩:=h;unfold mkP at h1;rw[aB,aB,aB] at h1;obtain ⟨a1,a2,a3,a4⟩:=h1;have a2:=ϑ a2;have a3:=ϑ a3;have a4:=ϑ a4;match args,hrep with
   |[v,u],⟨rv,ru,_⟩=>
    refine ⟨[.sl 7 n (Am (Ap (α:=CJ) T)),.i .i64 lv],⟨CY (Bz e1 rv) a1,Dz e2 ru,ϖ⟩,L0,?_⟩;have st:=afa (H0:=H) (w0:=w) (φ:=φ) (lv:=lv) (n:=n) (T:=Ap T) He Ie a4 hφ n 0 [] (by omega) (by simp) (by simp_all [Zy]);refine BZ (P8 He Ie _) 300 400 [⟨79,abV,abW lv n (Ap T) 0 (nth []) ((0:Nat):Int),[]⟩] ?_;rw[hn];have c0 {P:Prop} (h:Ak.lt lv (ah 1)=ay):P:=by grind [Ar]
    have c1 {P:Prop} (h:Ak.lt (ah 3) lv=ay):P:=by grind [Ar]
    exact aon Ak W7 lv n (Ap T) (nth []) _ rfl rfl (fun q=>c0 q) (fun _ q=>c1 q) (fun _ _=>⟨⟨rfl,rfl,rfl,rfl,rfl,ϖ⟩,_,rfl,st⟩)
  ·exact h.elim
 ·exact h.elim
theorem aDP:AO ak (AZ W7) 80 D75:=O25.mono fun H Bl args φ hr h=>by
 unfold D75 at h;split at h
 ·split at h
  ·rename_i n g e0
   obtain ⟨h1,h2⟩:=h;unfold nwB at h1;rw[aB,aB,aB,jy] at h1;obtain ⟨a1,a2,a3,a4⟩:=h1;unfold F25;simp only[e0];exact ⟨a1,a2,fun q=>(by simp_all),fun _=>⟨fun _=>h2,fun q=>(by simp_all)⟩⟩
  ·exact h.elim
 ·exact h.elim
theorem ai6{hs:Sh}{B:Qg}(X3:AO ak (AZ W7) 40 (D20 hs B))(stop:Nat->List Nat->Bool):BJ ak (C7 Ak W7 (Ue hs B) stop):=ig (fun g F h=>by
 unfold Ue at h;grind [He,aBq,aDP]) fun g h=>by
 unfold Ue at h;split at h;all_goals first|(cases h;done) |kernel_rfl
section
variable{H0:Mem}{w0:World}{φ:Sh->Prop}{hs:Sh}{B:Qg}{lv:Int}{o m:Nat}{og mg:ϝ}
theorem ai7(X3:AO ak (AZ W7) 40 (D20 hs B)){n:Nat}{T:Nat->CJ}(h1:1<=lv)(h3:lv<=3)(hn:n<=12)(hw:nwB o og=ay)
  (hφ:φ (.Az [.pt (JM lv (Ic lv n T).length (nth (Ic lv n T)) (Ic lv n T).length (Jf lv (Ic lv n T)) o (I4 og)),.v .nilIface])) :
  ∀r i (acc:List CJ),i+r=n->acc.length<=i->acc++ctF lv T i r=Ic lv n T->
  AB ak (C7 Ak W7 (Ue hs B) Aw) (K0 H0 w0) 56 abT (abU o m og mg lv n T acc.length (nth acc) (i:Nat)) [] emp (up φ)
 |0,i,acc,hi,hl,he=>by
  have he:acc=Ic lv n T:=by
   rw[<-he];show acc=acc++[];simp
  refine D6 qO avJ ?_;have lt {P:Prop} (h:Ak.lt (i:Int) (ah n)=ay):P:=by simp_all [Ar]
  refine BZ (ai6 X3 _) 300 400 [⟨56,abT,abU o m og mg lv n T 0 (nth []) 0,[]⟩] ?_;refine XY Ak W7 hs B lv o m og mg n T _ 0 (nth acc) (nth []) i 0 rfl rfl (fun q=>lt q) (fun q=>lt q) (fun _=>?_) (fun _=>hw) (fun q=>lt q) (fun q=>lt q) (fun _=>?_)
  ·grind [mkP,Cb,ϱ]
  ·have e1:mkN lv n (Am T)=(Ic lv n T).length:=by rfl
   have e2:mkR lv n (Am T)=Jf lv (Ic lv n T):=by rfl
   rw[e1,e2,he];exact AY (s':=.Az [.pt (JM lv (Ic lv n T).length (nth (Ic lv n T)) (Ic lv n T).length (Jf lv (Ic lv n T)) o (I4 og)),.v .nilIface]) ⟨rfl,rfl,ϖ⟩ hφ
 |r+1,i,acc,hi,hl,he=>by
  refine D6 qO avJ ?_;have w1:Ak.add .i64 (i:Int) (ah 1)=((i+1:Nat):Int):=add1 (by omega);have no {P:Prop} (h:Ak.lt (i:Int) (ah n)=aA):P:=by grind [Ar]
  have inb:Ak.inB (i:Int) n=ay:=by grind [AX]
  have rm:Ak.room (Ak.addN acc.length 1) 72=ay:=by rw[Em,ϟ,Dl];unfold maxLen;omega
  rw[aaV] at he;cases hc:Qh (T i).st lv with
  |true=>
   rw[if_pos hc,<-iI] at he;have nx:=ai7 X3 h1 h3 hn hw hφ r (i+1) (acc++[T i]) (by omega) (by simp_all) he;refine BZ (ai6 X3 _) 300 400 [⟨56,abT,abU o m og mg lv n T (acc++[T i]).length (nth (acc++[T i])) ((i+1:Nat):Int),[]⟩] ?_;exact XY Ak W7 hs B lv o m og mg n T _ _ (nth acc) _ i _ (c1:=ay) rfl hc (fun _=>inb) (fun _ _=>rm) (fun q=>no q) (fun q=>no q)
    (fun _ _=>⟨⟨rfl,rfl,rfl,rfl,w1,rfl,rfl,rfl,by rw[cO];rfl,fun j hj=>Ib acc (T i) _ rfl j hj,ϖ⟩,_,rfl,nx⟩) (fun _ q=>by cases q) (fun q=>no q)
  |false=>
   rw[if_neg (by rw[hc];simp),ji] at he;have nx:=ai7 X3 h1 h3 hn hw hφ r (i+1) acc (by omega) (by omega) he;refine BZ (ai6 X3 _) 300 400 [⟨56,abT,abU o m og mg lv n T acc.length (nth acc) ((i+1:Nat):Int),[]⟩] ?_;exact XY Ak W7 hs B lv o m og mg n T _ _ (nth acc) _ i _ (c1:=aA) rfl hc (fun _=>inb) (fun _ q=>by cases q) (fun q=>no q) (fun q=>no q)
    (fun _ q=>by cases q) (fun _ _=>⟨⟨rfl,rfl,rfl,rfl,w1,rfl,rfl,rfl,rfl,fun _ _=>rfl,ϖ⟩,_,rfl,nx⟩) (fun q=>no q)
end
end Go.Proofs
namespace Go.BX
open Go Go.Sx Go.BI
def F34:ϵ
 |[.agg [.sl 2 n g,.sl 8 m h]]=>.need (okB Oj n g) (.need (okB Ev m h) (.need (PX m h) (.node (FN n m) (.leaf (.er 5 322)) (.node (EY n m g h)
   (.node (takeB m (Ap h)) (.leaf (.v .nilIface)) (.leaf (.DK 184 (.pt [.i .i64 (VJ m (Ap h)),.er (VK m (Ap h)) 322]))))
   (.leaf (.DK 184 (.pt [.i .i64 (Lr n m g h),.er (PY n m g h) 322])))))))
 |_=>.fail
end Go.BX
namespace Go.Pl
open Go Go.Sx Go.Proofs Go.Gm Go.Bf
open Go.BI (Au Fq dfn BO takeB H9 VJ VK FN EY Lr PY PX)
open Go.BX (TS)
def Bj(n:Nat)(g:ϝ)(m:Nat)(h:ϝ):Qg where
 okb:=!FN n m&&(EY n m g h&&takeB m (aO h))
 Zt:=!FN n m
 pos:=if EY n m g h=ay then VJ m (aO h) else Lr n m g h
 e:=if FN n m=ay then 5 else if EY n m g h=ay then VK m (aO h) else PY n m g h
 n:=(H9 m (aO h)).rs.length
 T:=Ap (TS Fq dfn (BO (H9 m (aO h))))
structure IC(n:Nat)(g:ϝ)(m:Nat)(h:ϝ):Prop where
 o:gG dU n g=ay
 p:gG fA m h=ay
 r:PX m h=ay
 k:TD n (Ap g)=ay
def hsS(n:Nat)(g:ϝ)(m:Nat)(h:ϝ):Sh:=.agg [.sl 2 n g,.sl 8 m h]
def CO(lv:Int)(o:Nat)(og:ϝ)(B:Qg):Nh where
 okb:=B.okb&&decide (B.n<=12)
 Zt:=!B.okb&&B.Zt
 pos:=B.pos
 e:=if B.okb=ay then 2 else B.e
 lv:=lv
 N:=(Ic lv B.n B.T).length
 T:=nth (Ic lv B.n B.T)
 ms:=Jf lv (Ic lv B.n B.T)
 k0:=o
 g0:=I4 og
theorem ai8(rs:Nat->Go.BI.Rc):∀n,okB CJ n (TS Fq dfn rs)=ay
 |0=>rfl |n+1=>by
  show (okB CJ n (TS Fq dfn rs)&&_)=ay;rw[ai8 rs n];rfl
end Go.Pl
namespace Go.Proofs
open Go Go.Sx Go.Pl Go.Gm Go.Bf
open Go.BI (Au Fq dfn BO takeB H9 VJ VK FN EY Lr PY PX)
open Go.BX (TS)
theorem X3{n:Nat}{g:ϝ}{m:Nat}{h:ϝ}(P:IC n g m h):AO ak (AZ W7) 40 (D20 (hsS n g m h) (Bj n g m h)):=by
 refine Y5 Go.BX.O32 fun Bl φ hφ=>?_
 unfold D20 at hφ;split at hφ
 ·rename_i s
  obtain ⟨h1,h2,h3⟩:=hφ;have hs:s=hsS n g m h:=@ϑ _ (aI _) h1;subst hs;have sl:∀{k:Nat} {f f':ϝ},(∀j,j<k->f j=f' j)->Wk (.sl 7 k f) (.sl 7 k f'):=fun hf=>.inr ⟨rfl,rfl,hf⟩;have n0:Wk (.sl 0 0 fun _=>[]) (.sl 0 0 fun _=>[]):=.inl ⟨rfl,rfl⟩;cases hb:FN n m with
  |true=>
   have e1:(Bj n g m h).okb=aA:=by grind [Bj]
   have e2:(Bj n g m h).Zt=aA:=by grind [Bj]
   have e3:(Bj n g m h).e=5:=by grind [Bj]
   have q:=(h3 e1).2 e2;rw[e3] at q;exact ⟨_,q,P.o,P.p,P.r,fun _=>⟨n0,rfl,ϖ⟩,fun x=>by simp_all⟩
  |false=>
   have e2:(Bj n g m h).Zt=ay:=by grind [Bj]
   cases hg:EY n m g h with
   |true=>
    cases ht:takeB m (aO h) with
    |true=>
     have e1:(Bj n g m h).okb=ay:=by simp_all [Bj]
     exact ⟨_,h2 e1,P.o,P.p,P.r,fun x=>(by simp_all),fun _=>⟨fun _=>⟨fun _=>⟨.inr ⟨rfl,rfl,fun j hj=>I5 (ai8 _ _) j hj⟩,rfl,ϖ⟩,fun x=>(by simp_all)⟩,fun x=>(by simp_all)⟩⟩
    |false=>
     have e1:(Bj n g m h).okb=aA:=by simp_all [Bj]
     have e3:(Bj n g m h).e=VK m (aO h):=by simp_all [Bj]
     have e4:(Bj n g m h).pos=VJ m (aO h):=by grind [Bj]
     have q:=(h3 e1).1 e2;rw[e3,e4] at q;exact ⟨_,q,P.o,P.p,P.r,fun x=>(by simp_all),fun _=>⟨fun _=>⟨fun x=>(by simp_all),fun _=>⟨n0,rfl,ϖ⟩⟩,fun x=>(by simp_all)⟩⟩
   |false=>
    have e1:(Bj n g m h).okb=aA:=by simp_all [Bj]
    have e3:(Bj n g m h).e=PY n m g h:=by simp_all [Bj]
    have e4:(Bj n g m h).pos=Lr n m g h:=by grind [Bj]
    have q:=(h3 e1).1 e2;rw[e3,e4] at q;exact ⟨_,q,P.o,P.p,P.r,fun x=>(by simp_all),fun _=>⟨fun x=>(by simp_all),fun _=>⟨n0,rfl,ϖ⟩⟩⟩
 ·exact hφ.elim
theorem JQ{n:Nat}{g:ϝ}{m:Nat}{h:ϝ}{B:Qg}{lv:Int}(O:AO ak (AZ W7) 40 (D20 (hsS n g m h) B))(h1:1<=lv)(h3:lv<=3)(hw:B.okb=ay->nwB n g=ay):
  AO ak (AZ W7) 56 (D40 (hsS n g m h) lv (CO lv n g B)):=by
 refine CG (C7 Ak W7 (Ue (hsS n g m h) B) Aw) qO fun H w Bl args φ hrep hφ=>?_
 have hn:qO.ntmps=71:=by kernel_rfl
 unfold D40 at hφ;split at hφ
 ·rename_i s t
  split at hφ
  ·rename_i l e1
   obtain ⟨q1,q2,q3⟩:=hφ;obtain ⟨rfl,rfl⟩:s=hsS n g m h/\l=lv:=@ϑ _ (aI _) q1;match args,hrep with
   |[v,u],⟨rv,ru,_⟩=>
    refine ⟨[hsS n g m h,.i .i64 l],⟨rv,Dz e1 ru,ϖ⟩,L0,?_⟩;refine BZ (ai6 O _) 300 400 [⟨56,abT,abU n m g h l B.n B.T 0 (nth []) ((0:Nat):Int),[]⟩] ?_;rw[hn];refine aom Ak W7 B l n m g h (nth []) ((0:Nat):Int) rfl rfl rfl (@ϱ _ (aI _) rfl) (fun c0 c1=>?_) (fun c0 c1=>?_) (fun c0 c2=>?_) (fun c0 c2=>?_)
    ·have hbig:¬B.n<=12:=by grind [Ar,AL]
     have e:(CO l n g B).okb=aA:=by simp_all [CO]
     have e2:(CO l n g B).Zt=aA:=by grind [CO]
     have e3:(CO l n g B).e=2:=by grind [CO]
     have q:=(q3 e).2 e2;rw[e3] at q;exact AY (s':=.Az [.v (.pointer aF),.er 2 322]) ⟨rfl,rfl,ϖ⟩ q
    ·have hsm:B.n<=12:=by grind [Ar,AL]
     have e:(CO l n g B).okb=ay:=by simp_all [CO]
     have q:=q2 e;exact ⟨⟨rfl,rfl,rfl,rfl,rfl,rfl,rfl,rfl,rfl,ϖ⟩,_,rfl,ai7 O h1 h3 hsm (hw c0) q B.n 0 [] (by omega) (by simp) (by simp_all [Zy])⟩
    ·have e:(CO l n g B).okb=aA:=by grind [CO]
     have e2:(CO l n g B).Zt=ay:=by simp_all [CO]
     have e3:(CO l n g B).e=B.e:=by grind [CO]
     have q:=(q3 e).1 e2;rw[e3] at q;exact AY (s':=.Az [.v (.pointer aF),.DK 184 (.pt [.i .i64 B.pos,.er B.e 322])]) ⟨rfl,rfl,ϖ⟩ q
    ·have e:(CO l n g B).okb=aA:=by grind [CO]
     have e2:(CO l n g B).Zt=aA:=by simp_all [CO]
     have e3:(CO l n g B).e=B.e:=by grind [CO]
     have q:=(q3 e).2 e2;rw[e3] at q;exact AY (s':=.Az [.v (.pointer aF),.er B.e 322]) ⟨rfl,rfl,ϖ⟩ q
  ·exact hφ.elim
 ·exact hφ.elim
end Go.Proofs
namespace Go.Pl
open Go Go.Sx Go.Proofs Go.Gm Go.Bf
structure Oo(n:Nat)(g0:SG)(m:Nat)(g:SG)(d:Nat->A8):Prop where
 row:∀j,j<n->g j=DU (d j)
 inv:∀j,j<n->Gt m (d j)
 kind:∀j,j<n->∀s,g0 j=DU s->(d j).kind=s.kind
 out:∀j,n<=j->g j=g0 j
section
variable{n m:Nat}{g0 g:SG}{d:Nat->A8}
theorem Gt.up{m m':Nat}{s:A8}(h:Gt m s)(hm:m<=m'):Gt m' s:={h with ql:=fE h.ql hm,pl:=fE h.pl hm}
theorem Oo.up{m':Nat}(h:Oo n g0 m g d)(hm:m<=m'):Oo n g0 m' g d:={h with inv:=fun j hj=>(h.inv j hj).up hm}
theorem Oo.eqF(h:Oo n g0 m g d):∀j,j<n->Ec n g j=d j:=apl h.row
theorem Oo.isB(h:Oo n g0 m g d):stB n g=ay:=apk h.row
theorem ama{i op k v:Int}(h:OH n d i op k v=ay):Gw n i=ay/\Fv (d i.toNat).kind (d i.toNat).num op k v=0:=by
 simp_all [OH,aB,arg_eq]
theorem afb{d d':Nat->A8}(h:∀j,j<n->d j=d' j)(i op k v:Int):OH n d i op k v=OH n d' i op k v:=by
 unfold OH;grind [Gw]
theorem amb{d d':Nat->A8}(h:∀j,j<n->d j=d' j)(i op:Int):ael n d i op=ael n d' i op:=by
 unfold ael;grind [Gw]
theorem Oo.next(h:Oo n g0 m g d){i op k v:Int}(hok:Za n g i op k v=ay):
  ∃d',Oo n g0 (m+1) (aem n g i op k v) d':=by
 unfold Za at hok;rw[afb h.eqF] at hok;obtain ⟨hi,ha⟩:=ama hok;have hi':0<=i/\i<n:=ϑ hi;have hst:Ec n g i.toNat=d i.toNat:=h.eqF _ (by omega);refine ⟨fun j=>if j=i.toNat then (Ey (d i.toNat) op k v).1 else d j,fun j hj=>?_,fun j hj=>?_,fun j hj s hs=>?_,fun j hj=>?_⟩
 ·show (if Gw n i=ay/\j=i.toNat then DU (Ey (Ec n g i.toNat) op k v).1 else g j)=DU (if j=i.toNat then (Ey (d i.toNat) op k v).1 else d j)
  by_cases e:j=i.toNat
  ·simp_all
  ·rw[if_neg (fun q=>e q.2),if_neg e,h.row j hj]
 ·show Gt (m+1) (if j=i.toNat then (Ey (d i.toNat) op k v).1 else d j)
  split
  ·exact (aho (h.inv i.toNat (by omega)) ha).2
  ·exact (h.inv j hj).up (by omega)
 ·grind [Ey,kind]
 ·show (if Gw n i=ay/\j=i.toNat then _ else g j)=g0 j
  rw[if_neg (fun q=>by omega)];exact h.out j hj
theorem Oo.fits(h:Oo n g0 m g d)(hm:m<=50000)(hn:n<=1000)(i op:Int):ahb n g i op=ay:=by
 unfold Go.Pl.ahb;rw[h.isB,amb h.eqF,arB hm h.inv,kY (by omega) (by omega)];rfl
theorem Oo.avM(hn:n<=1000):∀(l:List Dd) {m:Nat} {g:SG} {d:Nat->A8},Oo n g0 m g d->m+l.length<=50000->WZ n g l
 |[],_,_,_,_,_=>trivial |a::l,m,g,d,h,hm=>by
  unfold Go.Pl.WZ;rw[jk] at hm;split
  ·exact Oo.avM hn l h (by omega)
  ·refine ⟨h.fits (by omega) hn _ _,fun q=>?_⟩
   obtain ⟨d',h'⟩:=h.next q;exact Oo.avM hn l h' (by omega)
theorem Oo.play:∀(l:List Dd) {m i:Nat} {g g':SG} {d:Nat->A8},Oo n g0 m g d->IY n g i l=.inr g'->∃d',Oo n g0 (m+l.length) g' d'
 |[],m,i,g,g',d,h,hp=>by
  have hp:(Sum.inr g:(Nat×Nat) ⊕ SG)=.inr g':=hp;grind
 |a::l,m,i,g,g',d,h,hp=>by
  unfold IY at hp;rw[jk];split at hp
  ·obtain ⟨d',h'⟩:=Oo.play l h hp
   exact ⟨d',h'.up (by omega)⟩
  ·split at hp
   ·rename_i hok
    split at hp
    ·obtain ⟨d1,h1⟩:=h.next hok
     obtain ⟨d',h'⟩:=Oo.play l h1 hp;grind
    ·cases hp
   ·cases hp
end
section
variable{lv:Int}{n:Nat}{og:ϝ}{B:Qg}
structure TbP(n:Nat)(og:ϝ)(B:Qg):Prop where
 few:B.n<=12
 ok:∀i,i<B.n->okB Dd (B.T i).k (B.T i).g=ay/\(B.T i).k<=400
 o:n<=8
 b:∀j,j<n->En (Ap (α:=Oj) og j).kind (Ap (α:=Oj) og j).init=aA
def QnP(lv:Int)(n:Nat)(og:ϝ)(B:Qg)(nd:Nd SG):Prop:=nd.placed<2^(Gb (CO lv n og B)).n/\∃d,Oo n (I4 og) (400*rk (Gb (CO lv n og B)) nd) nd.st d
theorem avN{t:CJ}{n:Nat}{T:Nat->CJ}(h:t∈Ic lv n T):∃i,i<n/\t=T i:=by
 grind [Ic]
theorem avO(P:TbP n og B){i:Nat}(h:i<(CO lv n og B).N):okB Dd ((CO lv n og B).T i).k ((CO lv n og B).T i).g=ay/\((CO lv n og B).T i).k<=400:=by
 have h:i<(Ic lv B.n B.T).length:=h;have hm:nth (Ic lv B.n B.T) i∈Ic lv B.n B.T:=by
  simp_all [nth,bI,List.getElem_mem]
 obtain ⟨j,hj,e⟩:=avN hm;show okB Dd (nth (Ic lv B.n B.T) i).k (nth (Ic lv B.n B.T) i).g=ay/\(nth (Ic lv B.n B.T) i).k<=400;rw[e];exact P.ok j hj
theorem avP(P:TbP n og B)(nd:Nd SG):rk (Gb (CO lv n og B)) nd<=12:=by
 have h1:=avD (B:=CO lv n og B) nd;have h2:(CO lv n og B).N=(Ic lv B.n B.T).length:=rfl;have h3:=apX lv B.n B.T;have:=P.few;omega
theorem aaW(P:TbP n og B):Rh (CO lv n og B) (QnP lv n og B):=by
 have hN:(CO lv n og B).N<=12:=by
  have h2:(CO lv n og B).N=(Ic lv B.n B.T).length:=rfl;have h3:=apX lv B.n B.T;have:=P.few;omega
 refine ⟨⟨uo (by simp),newT (Ap og),fun j hj=>rfl,fun j hj=>?_,fun j hj s hs=>?_,fun j _=>rfl⟩,fun nd hq t ht=>?_,fun nd hq=>?_,fun nd hq=>?_⟩
 ·exact (alH (P.b j hj)).1.up (fH _)
 ·have hs:DU (newT (Ap og) j)=DU s:=hs
  rw[RQ hs]
 ·obtain ⟨hlt,d,hd⟩:=hq
  have hlt':=lt_next hlt t ht;have hr:=Sm (g:=Gb (CO lv n og B)) t ht;refine ⟨hlt',?_⟩;rw[hr];unfold next turns at ht;obtain ⟨x,hx,rfl⟩:=eP.1 ht;obtain ⟨i,hi,hx⟩:=jE.1 hx;have hi:i<(CO lv n og B).N:=eF.1 hi;obtain ⟨t1,t2⟩:=avO P hi;unfold Ia at hx;split at hx
  ·rcases bQ.1 hx with hx|hx
   ·split at hx
    ·rename_i s e1 e2
     obtain rfl:x=_:=by simpa using hx
     have e2:(if plO n nd.st ((CO lv n og B).T i).k ((CO lv n og B).T i).g=ay then aj (plS n nd.st ((CO lv n og B).T i).k ((CO lv n og B).T i).g) else aF)=aj s:=e2;split at e2
     ·rename_i hok
      cases e2;unfold plO aeo at hok;cases hp:IY n nd.st 0 (lst Dd ((CO lv n og B).T i).k ((CO lv n og B).T i).g) with
      |inl q=>simp_all |inr g'=>
       obtain ⟨d',h'⟩:=Oo.play _ hd hp;have e:plS n nd.st ((CO lv n og B).T i).k ((CO lv n og B).T i).g=g':=by unfold plS aep;rw[hp]
       refine ⟨d',?_⟩;show Oo n (I4 og) _ (plS n nd.st ((CO lv n og B).T i).k ((CO lv n og B).T i).g) d';rw[e];exact h'.up (by rw[FH];omega)
     ·cases e2
    ·cases hx
   ·split at hx
    ·obtain rfl:x=_:=by simpa using hx
     exact ⟨d,hd.up (by omega)⟩
    ·cases hx
  ·cases hx
 ·obtain ⟨hlt,d,hd⟩:=hq
  have h12:=avP (lv:=lv) P nd;refine ⟨by omega,rfl,uq _,?_,fun i _=>uq _,fun i hi=>?_,fun i hi _=>?_⟩
  ·have h1:nd.placed<2^62:=Nat.lt_of_lt_of_le hlt (Nat.pow_le_pow_right (by decide) (by show (CO lv n og B).N<=62;omega))
   omega
  ·show (QF lv (nth (Ic lv B.n B.T) i).bg 0 (Ic lv B.n B.T) 0:Nat)<2^(Ic lv B.n B.T).length
   simp_all [ae9,uo]
  ·obtain ⟨t1,t2⟩:=avO P hi
   unfold plN;rw[t1,ϱ (by omega:((CO lv n og B).T i).k<=100000)];have o8:=P.o;exact @ϱ _ (aI _) (Oo.avM (n:=n) (by omega) _ hd (by rw[FH];omega))
 ·obtain ⟨hlt,d,hd⟩:=hq
  have h12:=avP (lv:=lv) P nd;have o8:=P.o;have e1:stB n nd.st=ay:=hd.isB;have e2:keysB n (Ec n nd.st)=ay:=by
   unfold keysB;rw[aB,dh];refine ⟨ϱ (by omega),fun j hj=>?_⟩;rw[hd.eqF j (eF.1 hj)];exact avj (by omega) (hd.inv j (eF.1 hj))
  show ((dK 4 4||dK n 0)&&(stB n nd.st&&keysB n (Ec n nd.st)))=ay;simp_all
theorem abX{n:Nat}{d e:Nat->A8}(h:∀j,j<n->d j=e j):Xd n d=Xd n e:=by
 grind [Xd,iJ]
theorem ahB:∀x y,QnP lv n og B x->QnP lv n og B y->DV n x=DV n y->x=y:=fun x y ⟨_,d,hd⟩ ⟨_,e,he⟩ h=>by
 unfold DV at h;rw[Prod.mk.injEq] at h;obtain ⟨h1,h2⟩:=h;have h1:=jf h1;have h2:Xd n (Ec n x.st)=Xd n (Ec n y.st):=h2;rw[abX hd.eqF,abX he.eqF] at h2;have hk:∀j,j<n->(d j).kind=(e j).kind:=fun j hj=>by
  rw[hd.kind j hj (newT (Ap og) j) rfl,he.kind j hj (newT (Ap og) j) rfl]
 have h3:=alK hd.inv he.inv hk h2;obtain ⟨p,s⟩:=x;obtain ⟨p',s'⟩:=y;obtain rfl:p=p':=h1;have:s=s':=by
  funext j;by_cases hj:j<n
  ·have a:=hd.row j hj
   have b:=he.row j hj;simp_all
  ·have a:=hd.out j (by omega)
   have b:=he.out j (by omega);simp_all
 rw[this]
end
open Go Go.Sx Go.Proofs
open Go.BI (Au Fq dfn BO takeB H9 VJ VK takeN Ol FN EY Lr PY PX aeR aeS Du TR)
open Go.BX (TS)
theorem amc{p:Nat->fA}:∀r k (σ σ':Au),takeN p σ k r=.inl σ'->σ.OK->σ.many=k->(∀j,k<=j->j<k+r->Du (p j)=ay)->σ'.OK/\σ'.many=k+r
 |0,k,σ,σ',h,ho,hm,hv=>by
  have h:(Sum.inl σ:Au ⊕ (Nat×Nat))=.inl σ':=h;simp_all
 |r+1,k,σ,σ',h,ho,hm,hv=>by
  unfold takeN at h;cases hf:(σ.feed (p k)).1 with
  |some e=>simp_all |none=>
   rw[hf] at h;have:=amc r (k+1) _ σ' h (ho.feed (hv k (by omega) (by omega))) (by rw[TR hf];omega) (fun j h1 h2=>hv j (by omega) (by omega));grind
theorem avQ(l:List Go.BI.De):∀k,okB Dd k (aS (Go.BI.nth l))=ay
 |0=>rfl |k+1=>by
  show (okB Dd k _&&_)=ay;rw[avQ l k];rfl
theorem aaX{g:ϝ}{j:Nat}(h:g j=iP (aO (α:=dU) g j)):g j=Row.put (Ap (α:=Oj) g j)/\(Ap (α:=Oj) g j).kind=(aO (α:=dU) g j).kind/\(Ap (α:=Oj) g j).init=(aO (α:=dU) g j).init:=by
 have e:Ap (α:=Oj) g j=⟨(aO (α:=dU) g j).kind,(aO (α:=dU) g j).init⟩:=by
  have:Ap (α:=Oj) g j=(Row.get (α:=Oj) (iP (aO (α:=dU) g j))).getD Row.J4:=by
   simp_all [Ap]
  rw[this];rfl
 rw[e];exact ⟨h,rfl,rfl⟩
theorem amd{n m:Nat}{g h:ϝ}(P:IC n g m h)(hok:(Bj n g m h).okb=ay):aeR n m (aO g) (aO h)/\takeB m (aO h)=ay:=by
 have hok:(!FN n m&&(EY n m g h&&takeB m (aO h)))=ay:=hok;rw[aB,aB,jy] at hok;exact ⟨aeS hok.1 hok.2.1 fun k hk=>dh.1 P.r k (eF.2 hk),hok.2.2⟩
theorem acL{n m:Nat}{g h:ϝ}(P:IC n g m h)(hok:(Bj n g m h).okb=ay):n<=8/\∀j,j<n->g j=Row.put (Ap (α:=Oj) g j)/\En (Ap (α:=Oj) g j).kind (Ap (α:=Oj) g j).init=aA:=by
 have hok:(!FN n m&&(EY n m g h&&takeB m (aO h)))=ay:=hok;rw[aB,aB,jy] at hok;have hb:¬(8<n\/400<m):=by
  simp_all [Go.BI.FN]
 refine ⟨by omega,fun j hj=>?_⟩;obtain ⟨e1,e2,e3⟩:=aaX (gW P.o j hj);refine ⟨e1,?_⟩;have afd:DN (Ap (α:=Oj) g j).kind=ay:=G6 P.k j hj;rw[e2] at afd;rw[e2,e3];have hg:=hok.2.1;unfold Go.BI.EY xM at hg;cases hs:o9 (fun k=>pq (aO (α:=dU) g k)) 0 n with
 |some x=>simp_all |none=>
  have hn:=Go.BI.TY hs j (fH _) (by omega);unfold pq at hn;cases ho:pW (aO (α:=dU) g j).kind (aO (α:=dU) g j).init with
  |false=>simp_all |true=>
   unfold pW yU at ho;unfold En;generalize (aO (α:=dU) g j).kind=a at ho afd ⊢;have hr:=ϑ afd;have hidx:nN a=(if (0:Int)>a then 0 else a) - 1:=by
    grind [nN,CU]
   rw[hidx] at ho;grind
theorem aaY{n m:Nat}{g h:ϝ}(P:IC n g m h)(hok:(Bj n g m h).okb=ay)(hf:(Bj n g m h).n<=12):TbP n g (Bj n g m h):=by
 obtain ⟨o1,o2⟩:=acL P hok;refine ⟨hf,fun i hi=>?_,o1,fun j hj=>(o2 j hj).2⟩;obtain ⟨G,ht⟩:=amd P hok;have hi:i<(H9 m (aO (α:=fA) h)).rs.length:=hi;show okB Dd (Fq (BO (H9 m (aO (α:=fA) h)) i)) (dfn (BO (H9 m (aO (α:=fA) h)) i))=ay/\Fq (BO (H9 m (aO (α:=fA) h)) i)<=400;refine ⟨avQ _ _,?_⟩;unfold iE jl at ht;unfold lV jl at hi ⊢;cases hs:takeN (aO (α:=fA) h) iw 0 m with
 |inr q=>simp_all |inl σ=>
  rw[hs] at hi;obtain ⟨q1,q2⟩:=amc m 0 iw σ hs lC rfl (fun j _ hj=>G.valid j (by omega));have:=q1.dl i _ (Go.BI.TT hi);have:=G.small.2;show (BO σ i).AA.length<=400;omega
theorem aBr{n m:Nat}{g h:ϝ}(P:IC n g m h)(hok:(Bj n g m h).okb=ay):nwB n g=ay:=by
 obtain ⟨o1,o2⟩:=acL P hok;unfold nwB Vm;rw[Qr (o:=Ap g) fun j hj=>(o2 j hj).1,P.k,akY fun j hj=>(o2 j hj).2,decide_eq_false (by omega:¬8<n)];rfl
open Go.BI (Ev QZ De Rc Au BO Du aeR takeN Ol takeB H9 FN EY PX Fq dfn)
theorem avR(c:Int):xO c=Fp c:=by unfold xO Fp;grind
def rE(p:Nat->Ev):Nat->Nat->Au->List Int->Int×Nat
 |_,0,_,_=>(0,0) |i,r+1,σ,cs=>if G9 σ cs (p i)=0 then rE p (i+1) r (σ.feed (p i)).2 (Zo cs (p i)) else (G9 σ cs (p i),i)
def wE(n:Nat)(o:Nat->Oj)(m:Nat)(p:Nat->Ev):Int×Nat:=if (Lp n o m p).1=0 then rE p 0 m iw [] else Lp n o m p
theorem aaZ{f:Nat->Int}:∀r k,(Jt f k r).1=0↔∀j,k<=j->j<k+r->f j=0
 |0,k=>by grind [Jt] |r+1,k=>by
  unfold Jt;split
  ·rename_i h0
   rw[aaZ r (k+1)];grind
  grind
theorem Zz{n:Nat}{o:Nat->Oj}{m:Nat}{p:Nat->Ev}:(Lp n o m p).1=0↔(n<=8/\m<=400)/\(∀j,j<n->MV (o j)=0)/\∀j,j<m->Qe n o (p j)=0:=by
 have a1:=aaZ (f:=fun i=>MV (o i)) n 0;have a2:=aaZ (f:=fun i=>Qe n o (p i)) m 0;grind [Lp]
theorem afe{n:Nat}{o:Nat->Oj}{e:Ev}:Qe n o e=0↔wY e=ay/\vN e=ay/\(e.kind=2->e.obj<n/\Fp e.op=(o e.obj.toNat).kind):=by
 grind [Qe,XP,wY,vN,Fp]
theorem ai9{fg:ϝ}{p:Nat->Ev}:∀r i σ cs,(∀j,i<=j->j<i+r->Du (p j)=ay)->σ.OK->Zn σ cs->
  match takeN p σ i r with
  | .inl σ'=>rT fg p i r σ cs=.Az [.os 87 7 σ'.rs.length (EZ (BO σ')),.agg [.i .i64 0,.sl 1 0 fg]]/\rE p i r σ cs=(0,0) | .inr _=>∃k,(rE p i r σ cs).1≠0/\(rE p i r σ cs).1≠105/\rT fg p i r σ cs=Et (rE p i r σ cs).2 (rE p i r σ cs).1/\k=(rE p i r σ cs).2
 |0,i,σ,cs,hv,hO,hI=>⟨rfl,rfl⟩ |r+1,i,σ,cs,hv,hO,hI=>by
  have hval:=hv i (by omega) (by omega);have hkd:=Go.BI.QA hval;have hc:=aeV hI hO hkd;unfold takeN rT rE;cases hf:(σ.feed (p i)).1 with
  |none=>
   rw[if_pos (hc.2 hf),if_pos (hc.2 hf)];exact ai9 r (i+1) _ _ (fun j h1 h2=>hv j (by omega) (by omega)) (hO.feed hval) (ahu hI hO hkd hf)
  |some x=>
   grind [G9]
section
variable{n m:Nat}{g h:ϝ}
theorem aBs(P:IC n g m h)(hok:(Bj n g m h).okb=ay):(Lp n (Ap g) m (aO h)).1=0/\takeB m (aO h)=ay/\∀j,j<m->Du (aO (α:=Ev) h j)=ay:=by
 obtain ⟨G,ht⟩:=amd P hok;obtain ⟨o1,o2⟩:=acL P hok;refine ⟨Zz.2 ⟨⟨o1,G.small.2⟩,fun j hj=>by simp_all [MV],fun j hj=>afe.2 ?_⟩,ht,G.valid⟩;have hv:=G.valid j hj;unfold Du at hv;simp only[aB] at hv;refine ⟨hv.1.1,hv.1.2,fun hk=>?_⟩;obtain ⟨q1,q2,q3⟩:=G.obj j hj hk;obtain ⟨_,e2,_⟩:=aaX (gW P.o (aO (α:=Ev) h j).obj.toNat (by omega));simp_all [avR]
theorem avS(P:IC n g m h)(h0:(Lp n (Ap g) m (aO h)).1=0):FN n m=aA/\EY n m g h=ay/\∀j,j<m->Du (aO (α:=Ev) h j)=ay:=by
 obtain ⟨h1,h2,h3⟩:=Zz.1 h0;refine ⟨by simp_all [FN,decide_eq_false],?_,fun j hj=>?_⟩
 ·unfold EY xM
  have no:∀(f:Nat->Option Nat) r k,(∀j,k<=j->j<k+r->f j=aF)->o9 f k r=aF:=fun f r=>by
   induction r with
   |zero=>intro k _;rfl |succ r ih=>
    grind [o9]
  rw[no _ n 0 fun j _ hj=>?_]
  ·rw[no _ m 0 fun j _ hj=>?_];rfl
   have hj:j<m:=by omega
   obtain ⟨a1,a2,a3⟩:=afe.1 (h3 j hj);unfold Go.BI.Lm;rw[a1,a2];by_cases hk:(aO (α:=Ev) h j).kind=2
   ·obtain ⟨b1,b2⟩:=a3 hk
    have hb0:=Go.BI.Qx a2 hk;obtain ⟨_,e2,_⟩:=aaX (gW P.o (aO (α:=Ev) h j).obj.toNat (by omega));grind [aO,decide_eq_false,avR]
   grind
  ·have hj:j<n:=by omega
   obtain ⟨e1,e2,e3⟩:=aaX (gW P.o j hj);have afd:DN (Ap (α:=Oj) g j).kind=ay:=G6 P.k j hj;have hb:En (Ap (α:=Oj) g j).kind (Ap (α:=Oj) g j).init=aA:=by
    grind [MV,En,Ap]
   rw[e2] at afd;rw[e2,e3] at hb;unfold pq pW yU;unfold En at hb;generalize (aO (α:=dU) g j).kind=a at hb afd ⊢;have hr:=ϑ afd;have hidx:nN a=(if (0:Int)>a then 0 else a) - 1:=by
    grind [nN,CU]
   grind
 ·obtain ⟨a1,a2,_⟩:=afe.1 (h3 j hj)
  have a3:DN (aO (α:=Ev) h j).ret=ay:=dh.1 P.r j (eF.2 hj);unfold Du;rw[a1,a2];exact a3
end
open Go Go.Sx Go.Proofs
open Go.BI (Ev QZ De Rc Au BO Du takeN Ol takeB H9 FN EY Fq dfn)
open Go.BX (TS)
def D32(hs:Sh)(B:Qg)(w:Int×Nat):ϵ
 |[s]=>.need (NS s hs) (.node B.okb (.leaf (.Az [.sl 7 B.n (Am B.T),.agg [.i .i64 0,.sl 1 0 FB]])) (.leaf (.Az [.sl 0 0 noT,Og w]))) |_=>.fail
theorem aoq{n m:Nat}{g h:ϝ}(P:IC n g m h)(hok:(Bj n g m h).okb=aA):(wE n (Ap g) m (aO h)).1≠0:=by
 unfold wE;split
 ·rename_i h0
  obtain ⟨b1,b2,b3⟩:=avS P h0;have ht:takeB m (aO h)=aA:=by
   have:(!FN n m&&(EY n m g h&&takeB m (aO h)))=aA:=hok;simp_all
  have:=ai9 (fg:=FB) (p:=aO (α:=Ev) h) m 0 iw [] (fun j _ hj=>b3 j (by omega)) lC aeW;grind [iE,jl,takeN,aO,iw]
 ·assumption
end Go.Pl
namespace Go.Proofs
open Go Go.Sx Go.Pl
open Go.BI (Ev QZ De Rc Au BO Du takeN Ol takeB H9 FN EY Fq dfn)
open Go.BX (TS)
theorem aDR{n m:Nat}{g h:ϝ}(P:IC n g m h):AO ak (AZ W7) 34 (D32 (hsS n g m h) (Bj n g m h) (wE n (Ap g) m (aO h))):=by
 refine CG (ED Ak W7 FI Aw) Tryz.f34 fun H w Bl args φ hrep hφ=>?_
 have hn:Tryz.f34.ntmps=38:=by kernel_rfl
 unfold D32 at hφ;split at hφ
 ·rename_i s
  obtain ⟨q1,q2,q3⟩:=hφ;have hs:s=hsS n g m h:=@ϑ _ (aI _) q1;subst hs;match args,hrep with
  |[v],⟨hv,_⟩=>
   have ho:okB Oj n g=ay:=Qr (o:=Ap g) fun j hj=>(aaX (gW P.o j hj)).1;refine ⟨[.agg [.sl 2 n (Am (Ap (α:=Oj) g)),.sl 8 m (aS (aO (α:=Ev) h))]],⟨OX hv (fun u hu=>CY hu ho) (fun u hu=>Go.BI.CY hu P.p),ϖ⟩,L0,?_⟩;have hbad:=fun e=>aoq P e
   have htb:=fun e=>aBs P e
   have hvt:=fun e=>avS P e
   have aGv:(Bj n g m h).okb=(!FN n m&&(EY n m g h&&takeB m (aO h))):=rfl;have eN:(Bj n g m h).n=(H9 m (aO h)).rs.length:=rfl;have eT:(Bj n g m h).T=Ap (TS Fq dfn (BO (H9 m (aO h)))):=rfl;rw[eN,eT] at q2;generalize hoe:Ap (α:=Oj) g=o at *;generalize hpe:aO (α:=Ev) h=p at *;have eV:Lp n (Ap (Am o)) m (aO (aS p))=Lp n o m p:=by
    rfl
   refine BZ (TU _) 300 800 [⟨34,F8,Gs n o m (aS p) 0 (fun _=>[]) 0 (fun _=>[]) (Lp n (Ap (Am o)) m (aO (aS p))).1 (if (Lp n (Ap (Am o)) m (aO (aS p))).1=0\/(Lp n (Ap (Am o)) m (aO (aS p))).1=105 then 0 else 1) (fun _=>[.i .i64 ((Lp n (Ap (Am o)) m (aO (aS p))).2:Int)]) 0 0,[]⟩] ?_;rw[hn];refine D9 (an (Cb o n) (an (Go.BI.Cb p m) (nd (Ak.nt (Ak.eq (Lp n (Ap (Am o)) m (aO (aS p))).1 0)) (fun a=>(?_:up φ (.Az [.sl 0 0 fun _=>[],Og (Lp n (Ap (Am o)) m (aO (aS p)))])))
    (fun a=>(?_:AB ak (ED Ak W7 FI Aw) (K0 H w) 34 F8 (Gs n o m (aS p) 0 (fun _=>[]) 0 (fun _=>[]) (Lp n (Ap (Am o)) m (aO (aS p))).1 (if (Lp n (Ap (Am o)) m (aO (aS p))).1=0\/(Lp n (Ap (Am o)) m (aO (aS p))).1=105 then 0 else 1) (fun _=>[.i .i64 ((Lp n (Ap (Am o)) m (aO (aS p))).2:Int)]) 0 0) [] emp (up φ))))))
   ·rw[eV] at a ⊢
    have hne:(Lp n o m p).1≠0:=by grind [BG,AQ]
    have hno:(Bj n g m h).okb=aA:=by
     simp_all
    have:=q3 hno;unfold wE at this;rw[if_neg hne] at this;exact AY (s':=.Az [.sl 0 0 noT,Og (Lp n o m p)]) ⟨.inl ⟨rfl,rfl⟩,⟨rfl,.inr ⟨rfl,rfl,fun _ _=>rfl⟩,ϖ⟩,ϖ⟩ this
   ·rw[eV] at a ⊢
    have h0:(Lp n o m p).1=0:=by grind [BG,AQ]
    obtain ⟨b1,b2,b3⟩:=hvt h0;obtain ⟨v1,_,v3⟩:=Zz.1 h0;rw[if_pos (Or.inl h0),h0];refine QD (σ:=iw) (cs:=[]) rfl (fun j hj=>by omega) rfl (fun j hj=>by omega) rfl rfl (Zm v1.2 v3 b3 m 0 iw [] (by omega) lC rfl aeW ?_);have hr:=ai9 (fg:=fun _=>[.i .i64 ((Lp n o m p).2:Int)]) (p:=p) m 0 iw [] (fun j _ hj=>b3 j (by omega)) lC aeW;cases hs:takeN p iw 0 m with
    |inl σ=>
     rw[hs] at hr;have hS:H9 m p=σ:=by unfold lV jl;rw[hs]
     have hB:takeB m p=ay:=by unfold iE jl;rw[hs]
     have hok:(Bj n g m h).okb=ay:=by simp_all
     have q2:=q2 hok;rw[hS] at q2;rw[hr.1];exact AY (s':=.Az [.sl 7 σ.rs.length (Am (Ap (TS Fq dfn (BO σ)))),.agg [.i .i64 0,.sl 1 0 FB]]) ⟨.inr ⟨rfl,rfl,fun j hj=>I5 (ai8 _ _) j hj⟩,⟨rfl,.inl ⟨rfl,rfl⟩,ϖ⟩,ϖ⟩ q2
    |inr x=>
     rw[hs] at hr;obtain ⟨k,r1,r2,r3,_⟩:=hr;have hB:takeB m p=aA:=by unfold iE jl;rw[hs]
     have hno:(Bj n g m h).okb=aA:=by simp_all
     have:=q3 hno;unfold wE at this;rw[if_pos h0] at this;rw[r3];unfold Og at this;rw[if_neg (by simp[r1,r2])] at this;exact AY (s':=.Az [.sl 0 0 noT,.agg [.i .i64 (rE p 0 m iw []).1,.sl 1 1 fun _=>[.i .i64 ((rE p 0 m iw []).2:Int)]]]) ⟨.inl ⟨rfl,rfl⟩,⟨rfl,.inr ⟨rfl,rfl,fun i hi=>by
      obtain rfl:i=0:=by omega
      rfl⟩,ϖ⟩,ϖ⟩ this
 ·exact hφ.elim
end Go.Proofs
namespace Go.Pl
open Go Go.Sx Go.Proofs Go.Gm Go.Bf
def Jg(s:Sh)(lv:Int):Nh:=match s with
 | .agg [.sl 2 n g,.sl 8 m h]=>CO lv n g (Bj n g m h) |_=>⟨aA,aA,0,0,0,0,fun _=>default,fun _=>0,0,fun _=>[]⟩
def hsB(s:Sh)(lv:Int):Bool:=@decide (∃n g m h,s=hsS n g m h/\IC n g m h/\1<=lv/\lv<=3) (aI _)
def Uf(mo:Int):Bool:=decide (1<=mo)&&decide (mo<=65536)
def rsP(s:Sh)(lv mo:Int):Option (List (Nd SG)):=ER (Gb (Jg s lv)) (DV (Jg s lv).k0) (Jg s lv).g0 mo.toNat
def rsL(s:Sh)(lv mo:Int):List (Nd SG):=(rsP s lv mo).getD []
def VO(s:Sh)(lv mo:Int):Bool:=Uf mo&&((Jg s lv).okb&&(rsP s lv mo).isSome)
def Ii(s:Sh)(lv mo:Int):Bool:=QE (Gb (Jg s lv)) (DV (Jg s lv).k0) (Jg s lv).g0 (rsL s lv mo)
def rtL(s:Sh)(lv mo:Int):List FT:=(IB (Gb (Jg s lv)) (DV (Jg s lv).k0) (Jg s lv).g0 (rsL s lv mo)).map Gj
def LQ(s:Sh)(lv mo:Int):Nat:=(rtL s lv mo).length
def NT(s:Sh)(lv mo:Int):Nat->FT:=nth (rtL s lv mo)
def JF(s:Sh)(lv mo:Int):Int:=((rsL s lv mo).length:Nat)
def raB(s:Sh)(lv mo:Int):Bool:=Uf mo&&(!(Jg s lv).okb&&(Jg s lv).Zt)
def rpI(s:Sh)(lv _mo:Int):Int:=(Jg s lv).pos
def reN(s:Sh)(lv mo:Int):Nat:=if Uf mo=ay then (if (Jg s lv).okb=ay then 0 else (Jg s lv).e) else 1
end Go.Pl
namespace Go.Proofs
open Go Go.Sx Go.Pl Go.Gm Go.Bf
def D15:ϵ
 |[s,t,u]=>match Bd t,Bd u with
  |some lv,aj mo=>.need (hsB s lv) (.node (VO s lv mo) (.leaf (.Az [.agg [.b (Ii s lv mo),.sl 2 (LQ s lv mo) (Am (NT s lv mo)),.i .i64 (JF s lv mo)],.v .nilIface]))
   (.node (raB s lv mo) (.leaf (.Az [.agg [.b aA,.sl 2 0 (fun _=>[]),.i .i64 0],.DK 184 (.pt [.i .i64 (rpI s lv mo),.er (reN s lv mo) 322])]))
    (.leaf (.Az [.agg [.b aA,.sl 2 0 (fun _=>[]),.i .i64 0],.er (reN s lv mo) 322]))))
  |_,_=>.fail
 |_=>.fail
def D39:ϵ
 |[.v (.chan aF),s,t,u]=>D15 [s,t,u] |_=>.fail
theorem Sv{P:Program}{C:Ctx}(hC:BP P C){g:Nat}{fn:Func}(hfn:C.fns.get g=aj fn)(hb:fn.body.isSome=ay){H:Mem}{w:World}{FD:List Sh}{args:List Value}{φ:Sh->Prop}{L:Nat}(hon:H.on w)(hg:DI C.gls H)(hr:EN H FD args)
  (hgo:AB P C (K0 H w) g [.code []] (BH fn.ntmps FD L) [] emp (up φ)):Calls P g args.toArray w fun e w'=>∃v s H',e=.returned v/\φ s/\Dx H w s v H' w':=by
 refine (Y0 hC hfn hb hon hg hr hgo).mono fun e w' ⟨v,s,H',he,⟨s',hw,hs⟩,r⟩=>?_;obtain ⟨H2,r2⟩:=r.wk hw;grind
theorem avT{c:Int}{e e':Sh}(he:Wk e e'):Wk (.Az [.agg [.b aA,.sl 0 0 fun _=>[],.i .i64 c],e]) (.Az [.agg [.b aA,.sl 2 0 (fun _=>[]),.i .i64 c],e']):=
 ⟨⟨.inl rfl,.inl ⟨rfl,rfl⟩,rfl,ϖ⟩,he,ϖ⟩
theorem O39:AO ak (AZ W7) 41 D39:=by
 intro H w Bl args φ hon hg hr hφ;unfold D39 at hφ;split at hφ
 ·rename_i s t u
  unfold D15 at hφ;dsimp only at hφ;split at hφ
  ·rename_i lv mo e1 e2
   obtain ⟨q1,q2,q3⟩:=hφ;obtain ⟨n,g,m,h,rfl,P,l1,l3⟩:=@ϑ _ (aI _) q1;have O:=JQ (X3 P) l1 l3 (aBr P);have hBe:Jg (hsS n g m h) lv=CO lv n g (Bj n g m h):=rfl;obtain ⟨B,hB⟩:∃B,CO lv n g (Bj n g m h)=B:=⟨_,rfl⟩;have avU:AO ak (AZ W7) 56 (D40 (hsS n g m h) lv B):=by simp_all
   match args,hr with
   |[a0,a1,a2,a3],⟨r0,r1,r2,r3,_⟩=>
   refine Sv (C:=C7 Ak W7 (Gl (hsS n g m h) lv B) Aw) (C7.ok _ _) (fn:=um) (FD:=[.v (.chan aF),hsS n g m h,.i .i64 lv,.i .i64 mo]) (L:=L0) (by kernel_rfl) (by kernel_rfl) hon hg ⟨r0,r1,Dz e1 r2,Dz e2 r3,ϖ⟩ ?_;have hn:um.ntmps=111:=by kernel_rfl
   have hbg:Jg (hsS n g m h) lv=B:=hBe.trans hB;have c0 {P:Prop} (q:Ak.lt lv (ah 1)=ay):P:=by grind [Ar]
   have c1 {P:Prop} (q:Ak.lt (ah 3) lv=ay):P:=by grind [Ar]
   have bad {k:Nat} (hk:VO (hsS n g m h) lv mo=aA) (ha:raB (hsS n g m h) lv mo=aA) (he:reN (hsS n g m h) lv mo=k):up φ (.Az [.agg [.b aA,.sl 0 0 fun _=>[],.i .i64 (ah 0)],.er k 322]):=by
    have q:=(q3 hk).2 ha;rw[he] at q;exact AY (avT rfl) q
   have badM (hm:Uf mo=aA):up φ (.Az [.agg [.b aA,.sl 0 0 fun _=>[],.i .i64 (ah 0)],.er 1 322]):=
    bad (by simp_all [VO]) (by simp_all [raB]) (by simp_all [reN])
   have moT (h1:Ak.lt mo (ah 1)=aA) (h2:Ak.lt (ah 65536) mo=aA):1<=mo/\mo<=65536:=by
    simp_all [Ar]
   have azv (q:1<=mo/\mo<=65536):Uf mo=ay:=by simp_all [Uf,ϱ]
   have ND (h4:B.okb=ay):Rh B (QnP lv n g (Bj n g m h))/\∀x y,QnP lv n g (Bj n g m h) x->QnP lv n g (Bj n g m h) y->DV B.k0 x=DV B.k0 y->x=y:=by
    rw[<-hB] at h4 ⊢;have h4:((Bj n g m h).okb&&decide ((Bj n g m h).n<=12))=ay:=h4;rw[aB,ϟ] at h4;have T:=aaY P h4.1 h4.2;exact ⟨aaW T,ahB⟩
   refine BZ (JO avU _) 300 400 [⟨41,tdA,LA B (mo.toNat:Nat) (Pv (DV B.k0 ⟨0,B.g0⟩) (aj (.int .i64 (ah 0))) fun _=>aF) [(⟨0,B.g0⟩:Nd SG)].length (nth ([(⟨0,B.g0⟩:Nd SG)].map (Ri B.k0))) (0:Nat) 1 (fun _=>ndQ B.k0 ⟨0,B.g0⟩) [(⟨0,B.g0⟩:Nd SG)].length (nth ([(⟨0,B.g0⟩:Nd SG)].map (KC B.k0))),[]⟩] ?_;rw[hn];refine aof Ak W7 B lv mo n m g h _ _ _ _ _ _ _ _ _ rfl rfl rfl rfl rfl rfl rfl rfl (fun _ _ _ _=>@ϱ _ (aI _) ⟨rfl,rfl⟩) (fun _ _ _ _ h4=>(ND h4).1.ke _ (ND h4).1.start)
    (fun q=>c0 q) (fun _ q=>c1 q) (fun _ _ q=>badM ?_) (fun _ _ _ q=>badM ?_) (fun _ _ _ _ _ q=>by cases q) (fun _ _ h2 h3 _ _ q=>?_) (fun _ _ h2 h3 h4 _ _=>?_) (fun _ _ h2 h3 h4 h7=>?_) (fun _ _ h2 h3 h4 h7=>?_)
   ·simp_all [Ar,Uf,decide_eq_false]
   ·simp_all [Ar,Uf,decide_eq_false,Bool.and_false]
   ·grind [AQ,JC]
   ·have hm:=moT h2 h3
    obtain ⟨hg1,hg2⟩:=ND h4;have hmo:((mo.toNat:Nat):Int)=mo:=Int.toNat_of_nonneg (by omega);have hmax:Ak.max mo (ah 0)=((mo.toNat:Nat):Int):=by
     grind [JC]
    refine ⟨⟨rfl,rfl,rfl,rfl,rfl,rfl,hmax,rfl,rfl,fun j hj=>?_,rfl,fun j hj=>?_,rfl,fun j hj=>?_,ϖ⟩,_,rfl,?_⟩
    ·obtain rfl:j=0:=by omega
     rfl
    ·obtain rfl:j=0:=by omega
     rfl
    ·obtain rfl:j=0:=by omega
     rfl
    have hm1:1<=mo.toNat:=by omega
    refine loopA avU hg1 (m:=mo.toNat) (by omega) (fun o hp=>?_) (mo.toNat+1) 0 [⟨0,B.g0⟩] _ 0 1 _ (by omega) (fun x hx=>?_) ⟨by simp,by simp,fun j x hx=>?_⟩ (by omega) (by simp;omega) (fun k=>?_) (fun r hr=>hr) (fun hr=>?_)
    ·
     have hst:dM B.g0∈o:=aaR hp;have hnx:=ahz (Q:=QnP lv n g (Bj n g m h)) hm1 hp hg1.step hg2 hg1.start;have hg':Rh B (fun nd=>QnP lv n g (Bj n g m h) nd/\nd∈o):=⟨⟨hg1.start,hst⟩,fun nd hq t ht=>⟨hg1.step nd hq.1 t ht,hnx nd hq.2 t ht⟩,fun nd hq=>hg1.tu nd hq.1,fun nd hq=>hg1.ke nd hq.1⟩;have hld:=apT (Q:=QnP lv n g (Bj n g m h)) hm1 hp hg1.step hg2 hg1.start;have hlen:=(P6 hm1 hp).2;have hall:∀x∈o,QnP lv n g (Bj n g m h) x:=NQ hg1.step hp (fun x hx=>by
      obtain rfl:x=⟨0,B.g0⟩:=by grind [dM]
      exact hg1.start)
     have hP:rsP (hsS n g m h) lv mo=aj o:=by grind [rsP]
     have hL:rsL (hsS n g m h) lv mo=o:=by grind [rsL]
     have hk:VO (hsS n g m h) lv mo=ay:=by grind [VO]
     have hφ:φ (.Az [.agg [.b (Ii (hsS n g m h) lv mo),.sl 2 (LQ (hsS n g m h) lv mo) (Am (NT (hsS n g m h) lv mo)),.i .i64 (JF (hsS n g m h) lv mo)],.v .nilIface]):=q2 hk;have ey:Ii (hsS n g m h) lv mo=QE (Gb B) (DV B.k0) B.g0 o:=by grind [Ii]
     have et:rtL (hsS n g m h) lv mo=(IB (Gb B) (DV B.k0) B.g0 o).map Gj:=by grind [rtL]
     have ec:JF (hsS n g m h) lv mo=((o.length:Nat):Int):=by grind [JF]
     unfold LQ NT at hφ;rw[ey,et,ec] at hφ;have es:Ak.sub .i64 (Ak.AV o.length) (ah 1)=((o.length:Nat):Int) - 1:=by
      show IntKind.i64.wrap (((o.length:Nat):Int) - 1)=_;grind [CU]
     rw[es];refine avG avU hg' o (fun x hx=>⟨hall x hx,hx⟩) (by omega) (fun nd hq hl hf=>?_) (fun hy=>?_) (fun hy=>?_) o.length (fun _=>aF) (bM _) (fun k=>?_)
     ·obtain ⟨t,ht,hte⟩:=ae1 ((hld nd hq.2).1 hl) hf
      exact ⟨t,ht,(hld t.2 (hnx nd hq.2 _ (eP.2 ⟨t,ht,rfl⟩))).2 hte⟩
     ·rw[hy] at hφ
      exact hφ
     ·have e0:IB (Gb B) (DV B.k0) B.g0 o=[]:=if_neg (by rw[hy];simp)
      rw[hy,e0] at hφ;exact hφ
     ·rw[List.drop_length];rfl
    ·obtain rfl:x=⟨0,B.g0⟩:=by grind
     exact hg1.start
    ·grind
    ·have:=getM (k:=DV B.k0 ⟨0,B.g0⟩) (o:=[]) (k0:=B.k0) (v:=.int .i64 (ah 0)) (nd:=⟨0,B.g0⟩) (M:=fun _=>aF) (fun _=>rfl) k
     exact this
    ·have hP:rsP (hsS n g m h) lv mo=aF:=by unfold rsP;rw[hbg];exact hr
     have hk:VO (hsS n g m h) lv mo=aA:=by grind [VO]
     have ha:raB (hsS n g m h) lv mo=aA:=by grind [raB]
     have he:reN (hsS n g m h) lv mo=0:=by grind [reN]
     have q:=(q3 hk).2 ha;rw[he] at q;exact q
   ·have hm:=moT h2 h3
    have hk:VO (hsS n g m h) lv mo=aA:=by simp_all [VO]
    have ha:raB (hsS n g m h) lv mo=ay:=by simp_all [raB]
    have he:reN (hsS n g m h) lv mo=B.e:=by unfold reN;rw[azv hm,hbg,if_pos rfl,if_neg (by rw[h4];simp)]
    have hp:rpI (hsS n g m h) lv mo=B.pos:=by grind [rpI]
    have q:=(q3 hk).1 ha;rw[he,hp] at q;exact AY (avT rfl) q
   ·have hm:=moT h2 h3
    refine bad ?_ ?_ ?_
    ·simp_all [VO]
    ·simp_all [raB]
    ·unfold reN;rw[azv hm,hbg,if_pos rfl,if_neg (by rw[h4];simp)]
  ·exact hφ.elim
 ·exact hφ.elim
end Go.Proofs
namespace Go.Pl
open Go Go.Sx Go.Proofs Go.Gm
def ssB(n:Nat)(g:ϝ)(m:Nat)(h:ϝ):Bool:=decide (lst FT n g=lst FT m h)
def s1B(a b:FT):Bool:=decide (a=b)
def hpB(s:Sh):Bool:=@decide (∃n g m h,s=hsS n g m h/\IC n g m h) (aI _)
end Go.Pl
namespace Go.Proofs
open Go Go.Sx Go.Pl
def ZA:ϕ
 |41=>aj D39 |_=>aF
def D18:ϵ
 |[.agg a,.agg b]=>match Row.get (α:=FT) a,Row.get (α:=FT) b with
  |some x,aj y=>.leaf (.b (s1B x y)) |_,_=>.fail
 |_=>.fail
def Ug:ϕ
 |27=>aj D18 |_=>aF
def ZB:List It:=[aK [0,1,0,1,1],aX 0,aK [1,1,1]]
def afh(n:Nat)(g:Nat->FT)(m:Nat)(h:Nat->FT)(i:Int):Core:={tm:=DF 29 [(0,.sh (.sl 2 n (Am g))),(1,.sh (.sl 2 m (Am h))),(5,.sym .i64 i)],hp:=[],nx:=0,lim:=L0,tc:=[]}
theorem aor(A:Prim)(W:Wd)(_s:Sh)(n m:Nat)(g h:ϝ)(lv mo:Int){ψ:C9->Prop}{c0 c1:Bool}(e0:VO (bG [aG 2 n g,aG 8 m h]) lv mo=c0)(e1:raB (bG [aG 2 n g,aG 8 m h]) lv mo=c1)(h1:(hsB (bG [aG 2 n g,aG 8 m h]) lv)=ay)(y1:c0=ay->ψ (aN (bF [bG [iL (Ii (bG [aG 2 n g,aG 8 m h]) lv mo),aG 2 (LQ (bG [aG 2 n g,aG 8 m h]) lv mo) (Am (NT (bG [aG 2 n g,aG 8 m h]) lv mo)),aQ .i64 (JF (bG [aG 2 n g,aG 8 m h]) lv mo)],Sh.v Value.nilIface])))(y2:c0=aA->c1=ay->ψ (aN (bF [bG [iL aA,aG 2 0 fun _=>[],aQ .i64 (ah 0)],Sh.DK 184 (Sh.pt [aQ .i64 (rpI (bG [aG 2 n g,aG 8 m h]) lv mo),Sh.er (reN (bG [aG 2 n g,aG 8 m h]) lv mo) 322])])))(y3:c0=aA->c1=aA->ψ (aN (bF [bG [iL aA,aG 2 0 fun _=>[],aQ .i64 (ah 0)],Sh.er (reN (bG [aG 2 n g,aG 8 m h]) lv mo) 322]))):CB ψ (BD (C7 A W ZA Aw) Dy 300 400 31 [.code []] (BH 14 [.agg [.sl 2 n g,.sl 8 m h],.i .i64 lv,.i .i64 mo] L0) [] []):=by
 subst e0 e1;exact JH (an h1 (an y1 (fun q0=>an (y2 q0) (y3 q0))))
theorem aos(A:Prim)(W:Wd)(a b:FT){ψ:C9->Prop}{c0:Bool}(e0:A.eq a.tx b.tx=c0)(y1:c0=ay->ψ (aN (iL (A.beq a.com b.com))))(y2:c0=aA->ψ (aN (iL aA))):CB ψ (BD (C7 A W noSpec Aw) Dy 300 400 27 [.code []] (BH 17 [.agg [.i .i64 a.tx,.b a.com],.agg [.i .i64 b.tx,.b b.com]] L0) [] []):=by
 subst e0;exact JH (an y1 y2)
theorem aot(A:Prim)(W:Wd)(n m:Nat)(g h:Nat->FT)(i':Int){ψ:C9->Prop}{c0:Bool}(e0:A.nt (A.eq (A.AV n) (A.AV m))=c0)(y1:c0=ay->ψ (aN (iL aA)))(y2:c0=aA->ψ (bU 0 [aW (aG 2 n (Am g)) (aG 2 n (Am g)),aW (aG 2 m (Am h)) (aG 2 m (Am h)),aC (ah 0) i'])):CB ψ (BD (C7 A W Ug Aw) Dy 300 400 9 [.code []] (BH 29 [.sl 2 n (Am g),.sl 2 m (Am h)] L0) [] [⟨9,ZB,afh n g m h i',[]⟩]):=by
 subst e0;exact JH (an y1 y2)
theorem afi(A:Prim)(W:Wd)(n m:Nat)(g h:Nat->FT)(i i':Int){ψ:C9->Prop}{c0 c1:Bool}(e0:A.lt i (A.AV n)=c0)(e1:A.nt (s1B {tx:=(g (A.toN i)).tx,com:=(g (A.toN i)).com} {tx:=(h (A.toN i)).tx,com:=(h (A.toN i)).com})=c1)(h1:c0=ay->(A.inB i n)=ay)(h2:c0=ay->(A.inB i m)=ay)(y1:c0=ay->c1=ay->ψ (aN (iL aA)))(y2:c0=ay->c1=aA->ψ (bU 0 [aW (aG 2 n (Am g)) (aG 2 n (Am g)),aW (aG 2 m (Am h)) (aG 2 m (Am h)),aC (A.add .i64 i (ah 1)) i']))(y3:c0=aA->ψ (aN (iL ay))):CB ψ (BD (C7 A W Ug Aw) Dy 300 400 9 (aK [0,0,1,0,1,1]::ZB) (afh n g m h i) [] [⟨9,ZB,afh n g m h i',[]⟩]):=by
 subst e0 e1;exact JH (an (fun q0=>an (h1 q0) (an (h2 q0) (an (y1 q0) (y2 q0)))) y3)
end Go.Proofs
namespace Go.Pl
open Go Go.Sx Go.Proofs Go.Gm
def gaB(s:Sh)(lv mo:Int):Bool:=hsB s lv&&(Uf mo&&(Jg s lv).okb)
def KQ(s:Sh)(lv mo:Int):Bool:=(rsP s lv mo).isSome
end Go.Pl
namespace Go.Proofs
open Go Go.Sx Go.Pl
def apY:ϵ
 |[s,t,u]=>match Bd t,Bd u with
  |some lv,aj mo=>.need (gaB s lv mo) (.node (KQ s lv mo) (.leaf (.Az [.agg [.b (Ii s lv mo),.sl 2 (LQ s lv mo) (Am (NT s lv mo)),.i .i64 (JF s lv mo)],.v .nilIface]))
    (.leaf (.Az [.agg [.b aA,.sl 2 0 (fun _=>[]),.i .i64 0],.er 0 322])))
  |_,_=>.fail
 |_=>.fail
theorem aBx(stop:Nat->List Nat->Bool):BJ ak (C7 Ak W7 ZA stop):=ig (fun g F h=>by
 grind [ZA,O39]) fun g h=>by
 unfold ZA at h;split at h;all_goals first|(cases h;done) |kernel_rfl
theorem ajc{φ:Sh->Prop}{y:Bool}{k:Nat}{f:ϝ}{c:Int}{e:Sh}(he:Wk e e)(h:φ (.Az [.agg [.b y,.sl 2 k f,.i .i64 c],e])):up φ (.Az [.agg [.b y,.sl 2 k f,.i .i64 c],e]):=
 AY (s':=.Az [.agg [.b y,.sl 2 k f,.i .i64 c],e]) ⟨⟨.inl rfl,.inr ⟨rfl,rfl,fun _ _=>rfl⟩,rfl,ϖ⟩,he,ϖ⟩ h
theorem O15:AO ak (AZ W7) 31 D15:=by
 refine CG (C7 Ak W7 ZA Aw) Tryz.f31 fun H w Bl args φ hrep h=>?_
 have hn:Tryz.f31.ntmps=14:=by kernel_rfl
 unfold D15 at h;split at h
 ·rename_i s t u
  split at h
  ·rename_i lv mo e1 e2
   obtain ⟨q1,q2,q3⟩:=h;obtain ⟨n,g,m,h',rfl,P,l1,l3⟩:=@ϑ _ (aI _) q1;match args,hrep with
   |[v,u1,u2],⟨rv,ru,ru2,_⟩=>
    refine ⟨[hsS n g m h',.i .i64 lv,.i .i64 mo],⟨rv,Dz e1 ru,Dz e2 ru2,ϖ⟩,L0,?_⟩;refine BZ (aBx _) 300 400 [] ?_;rw[hn];exact aor Ak W7 (hsS n g m h') n m g h' lv mo rfl rfl q1 (fun c0=>ajc rfl (q2 c0)) (fun c0 c1=>ajc rfl ((q3 c0).1 c1)) (fun c0 c1=>ajc rfl ((q3 c0).2 c1))
  ·exact h.elim
 ·exact h.elim
theorem azw:AO ak (AZ W7) 31 apY:=O15.mono fun H Bl args φ hr h=>by
 unfold apY at h;split at h
 ·split at h
  ·rename_i s t u x y lv mo e1 e2
   obtain ⟨q1,q2,q3⟩:=h;unfold gaB at q1;rw[aB,aB] at q1;obtain ⟨a1,a2,a3⟩:=q1;unfold D15;simp only[e1,e2];refine ⟨a1,fun c=>q2 ?_,fun c=>⟨fun c2=>?_,fun _=>?_⟩⟩
   ·unfold VO at c
    rw[a2,a3] at c;exact c
   ·simp_all [raB]
   ·have e:reN s lv mo=0:=by simp_all [reN]
    rw[e];refine q3 ?_;unfold VO at c;rw[a2,a3] at c;exact c
  ·exact h.elim
 ·exact h.elim
theorem aBy:AO ak (AZ W7) 27 D18:=by
 refine CG (C7 Ak W7 noSpec Aw) Tryz.f27 fun H w Bl args φ hrep h=>?_
 have hn:Tryz.f27.ntmps=17:=by kernel_rfl
 unfold D18 at h;split at h
 ·rename_i l r
  split at h
  ·rename_i x y e1 e2
   have hφ:φ (.b (s1B x y)):=h;have hl:l=Row.put x:=(Row.DL _ _ e1).symm;have hr:r=Row.put y:=(Row.DL _ _ e2).symm;subst hl hr;refine ⟨[.agg (Row.put x),.agg (Row.put y)],hrep,L0,?_⟩;refine BZ (Ej _) 300 400 [] ?_;rw[hn];have fin (b:Bool) (hb:b=s1B x y):up φ (.b b):=AY (s':=.b (s1B x y)) (.inl (by rw[hb])) hφ;obtain ⟨a,b⟩:=x;obtain ⟨c,d⟩:=y;refine aos Ak W7 ⟨a,b⟩ ⟨c,d⟩ rfl (fun q=>fin _ ?_) (fun q=>fin _ ?_)
   ·grind [AQ,s1B,aq5]
   simp_all [AQ,s1B,decide_eq_false]
  ·exact h.elim
 ·exact h.elim
theorem aou(stop:Nat->List Nat->Bool):BJ ak (C7 Ak W7 Ug stop):=ig (fun g F h=>by
 grind [Ug,aBy]) fun g h=>by
 unfold Ug at h;split at h;all_goals first|(cases h;done) |kernel_rfl
end Go.Proofs
namespace Go.Pl
open Go Go.Sx
theorem avW{n m:Nat}{g h:Nat->FT}:lst FT n (Am g)=lst FT m (Am h)↔n=m/\∀j,j<n->g j=h j:=by
 rw[ad1,ad1];constructor
 ·intro e
  have hl:=congrArg uw e;simp at hl;simp_all
 simp_all
def amf(n:Nat)(g:ϝ)(m:Nat)(h:ϝ):Bool:=okB FT n g&&(okB FT m h&&decide (n<=100000))
end Go.Pl
namespace Go.Proofs
open Go Go.Sx Go.Pl
def D19:ϵ
 |[s,t]=>match Dj 2 s,Dj 2 t with
  |some (n,g),aj (m,h)=>.need (amf n g m h) (.leaf (.b (ssB n g m h))) |_,_=>.fail
 |_=>.fail
section
variable{H0:Mem}{w0:World}{φ:Sh->Prop}{n:Nat}{g h:Nat->FT}
theorem apZ(hn:n<=100000)(hφ:φ (.b (decide (∀j,j<n->g j=h j)))):∀r i,i+r=n->(∀j,j<i->g j=h j)->
  AB ak (C7 Ak W7 Ug Aw) (K0 H0 w0) 9 ZB (afh n g n h (i:Nat)) [] emp (up φ)
 |0,i,hi,he=>by
  refine D6 uy (aK [0,0,1,0,1,1]::ZB) ?_;have lt {P:Prop} (h:Ak.lt (i:Int) (Ak.AV n)=ay):P:=by simp_all [Ar,AL]
  refine BZ (aou _) 300 400 [⟨9,ZB,afh n g n h 0,[]⟩] ?_;refine afi Ak W7 n n g h i 0 rfl rfl (fun q=>lt q) (fun q=>lt q) (fun q=>lt q) (fun q=>lt q) (fun _=>?_);rw[ϱ (fun j hj=>he j (by omega))] at hφ;exact AY (s':=.b ay) (.inl rfl) hφ
 |r+1,i,hi,he=>by
  refine D6 uy (aK [0,0,1,0,1,1]::ZB) ?_;have no {P:Prop} (h:Ak.lt (i:Int) (Ak.AV n)=aA):P:=by grind [Ar,AL]
  have inb:Ak.inB (i:Int) n=ay:=by grind [AX]
  have w1:Ak.add .i64 (i:Int) (ah 1)=((i+1:Nat):Int):=add1 (by omega);refine BZ (aou _) 300 400 [⟨9,ZB,afh n g n h ((i+1:Nat):Int),[]⟩] ?_;refine afi Ak W7 n n g h i _ rfl rfl (fun _=>inb) (fun _=>inb) (fun _ q=>?_) (fun _ q=>?_) (fun q=>no q)
  ·have q:(!s1B (g i) (h i))=ay:=q
   have hne:g i≠h i:=by
    simp_all [s1B]
   rw[decide_eq_false (fun f=>hne (f i (by omega)))] at hφ;exact AY (s':=.b aA) (.inl rfl) hφ
  ·have q:(!s1B (g i) (h i))=aA:=q
   have he2:g i=h i:=by
    simp_all [s1B]
   exact ⟨⟨rfl,rfl,w1,ϖ⟩,_,rfl,apZ hn hφ r (i+1) (by omega) fun j hj=>by
    grind⟩
end
theorem aBA:AO ak (AZ W7) 9 D19:=by
 refine CG (C7 Ak W7 Ug Aw) uy fun H w Bl args φ hrep h=>?_
 have hn:uy.ntmps=29:=by kernel_rfl
 unfold D19 at h;split at h
 ·rename_i s t
  split at h
  ·rename_i n g m h' e1 e2
   obtain ⟨q1,hφ⟩:=h;unfold amf at q1;rw[aB,aB,ϟ] at q1;obtain ⟨a1,a2,a3⟩:=q1;match args,hrep with
   |[v,u],⟨rv,ru,_⟩=>
    refine ⟨[.sl 2 n (Am (Ap (α:=FT) g)),.sl 2 m (Am (Ap (α:=FT) h'))],⟨CY (Bz e1 rv) a1,CY (Bz e2 ru) a2,ϖ⟩,L0,?_⟩;have hφ:φ (.b (ssB n g m h')):=hφ;have es:ssB n g m h'=decide (n=m/\∀j,j<n->Ap (α:=FT) g j=Ap (α:=FT) h' j):=by
     unfold ssB;rw[ad3 (I5 a1),ad3 (I5 a2)];have:(lst FT n (Am (Ap g))=lst FT m (Am (Ap h')))↔(n=m/\∀j,j<n->Ap (α:=FT) g j=Ap (α:=FT) h' j):=avW;by_cases hh:(n=m/\∀j,j<n->Ap (α:=FT) g j=Ap (α:=FT) h' j)
     ·rw[ϱ hh];exact ϱ (this.2 hh)
     ·rw[decide_eq_false hh];exact decide_eq_false (fun e=>hh (this.1 e))
    rw[es] at hφ;refine BZ (aou _) 300 400 [⟨9,ZB,afh n (Ap g) m (Ap h') ((0:Nat):Int),[]⟩] ?_;rw[hn];refine aot Ak W7 n m (Ap g) (Ap h') ((0:Nat):Int) rfl (fun q=>?_) (fun q=>?_)
    ·have hne:n≠m:=fun e=>by
      simp_all [BG,AQ,AL]
     rw[decide_eq_false (fun f=>hne f.1)] at hφ;exact AY (s':=.b aA) (.inl rfl) hφ
    ·have he:n=m:=by
      grind [BG,AQ,AL,jf]
     subst he;have ed:decide (n=n/\∀j,j<n->Ap (α:=FT) g j=Ap (α:=FT) h' j)=decide (∀j,j<n->Ap (α:=FT) g j=Ap (α:=FT) h' j):=by
      simp
     rw[ed] at hφ;exact ⟨⟨rfl,rfl,rfl,ϖ⟩,_,rfl,apZ a3 hφ n 0 (by omega) (fun j hj=>by omega)⟩
  ·exact h.elim
 ·exact h.elim
end Go.Proofs
namespace Go.Gm
open Go.Bf
theorem ahC{α β:Type}{p:β->Bool}{q:α->Bool}{F:α->β}:∀{l:List α},(∀x∈l,p (F x)=q x)->(l.map F).find? p=(l.find? q).map F
 |[],_=>rfl |a::l,h=>by
  rw[iQ,oP,oP,h a dn];cases q a with
  |true=>rfl |false=>exact ahC fun x hx=>h x (bV _ hx)
section
variable{S S' κ κ':Type}[DecidableEq κ][DecidableEq κ']{g:Game S}{g':Game S'}{key:Nd S->κ}{key':Nd S'->κ'}{f:S'->S}{Q:Nd S'->Prop}
def Eh(f:S'->S)(nd:Nd S'):Nd S:=⟨nd.placed,f nd.st⟩
structure QG(g:Game S)(g':Game S')(f:S'->S)(Q:Nd S'->Prop):Prop where
 n:g.n=g'.n
 id:∀i,i<g'.n->g.id i=g'.id i
 com:∀i,i<g'.n->g.com i=g'.com i
 abo:∀i,i<g'.n->g.abo i=g'.abo i
 mask:∀i,i<g'.n->g.mask i=g'.mask i
 all:g.all=g'.all
 run:∀nd,Q nd->∀i,i<g'.n->may g' nd.placed i=ay->g.run (f nd.st) i=(g'.run nd.st i).map f
 step:∀nd,Q nd->∀t∈next g' nd,Q t
theorem avX(h:QG g g' f Q)(p i:Nat)(hi:i<g'.n):may g p i=may g' p i:=by
 unfold may;rw[h.n,h.mask i hi]
theorem aov(h:QG g g' f Q){nd:Nd S'}(hq:Q nd){i:Nat}(hi:i<g'.n):Ia g (Eh f nd) i=(Ia g' nd i).map fun t=>(t.1,Eh f t.2):=by
 unfold Ia;have e:may g (Eh f nd).placed i=may g' nd.placed i:=avX h _ _ hi;rw[e];cases hm:may g' nd.placed i with
 |false=>rfl |true=>
  have hr:=h.run nd hq i hi hm;have hr:g.run (Eh f nd).st i=(g'.run nd.st i).map f:=hr;rw[if_pos rfl,if_pos rfl,hr,h.com i hi,h.abo i hi,h.all,h.id i hi,List.map_append];have hs:((g'.run nd.st i).map f).isSome=(g'.run nd.st i).isSome:=by simp
  rw[hs];congr 1
  ·cases g'.com i<;>cases g'.run nd.st i<;>rfl
  ·split<;>rfl
theorem afj(h:QG g g' f Q){nd:Nd S'}(hq:Q nd):turns g (Eh f nd)=(turns g' nd).map fun t=>(t.1,Eh f t.2):=by
 unfold turns;rw[h.n,List.map_flatMap,vO,vO];grind [iJ,aov]
theorem ahD(h:QG g g' f Q){nd:Nd S'}(hq:Q nd):next g (Eh f nd)=(next g' nd).map (Eh f):=by
 unfold next;rw[afj h hq,mD,mD];rfl
theorem ahE(h:QG g g' f Q)(nd:Nd S'):full g (Eh f nd)=full g' nd:=by unfold full;rw[h.n];rfl
variable(hk:∀x y,Q x->Q y->(key (Eh f x)=key (Eh f y)↔key' x=key' y))
include hk
theorem avY{o:List (Nd S')}(ho:∀x∈o,Q x){n:Nd S'}(hn:Q n):Jw key (o.map (Eh f)) (key (Eh f n))=Jw key' o (key' n):=by
 grind [NP]
theorem avZ{m:Nat}{o:List (Nd S')}(ho:∀x∈o,Q x){n:Nd S'}(hn:Q n):GV key m (o.map (Eh f)) (Eh f n)=(GV key' m o n).map (kT (Eh f)):=by
 unfold GV;rw[avY hk ho hn,dH];grind
theorem ahF{m:Nat}:∀{l o:List (Nd S')},(∀x∈o,Q x)->(∀x∈l,Q x)->EJ key m (o.map (Eh f)) (l.map (Eh f))=(EJ key' m o l).map (kT (Eh f))
 |[],o,_,_=>rfl |n::l,o,ho,hl=>by
  rw[iQ,EJ,EJ,avZ hk ho (hl n dn)];cases hp:GV key' m o n with
  |none=>rfl |some o1=>exact ahF (ahw hp ho (hl n dn)) fun x hx=>hl x (bV _ hx)
theorem amg(h:QG g g' f Q){m:Nat}:∀{fu i:Nat} {o:List (Nd S')},(∀x∈o,Q x)->Na key (next g) m fu (o.map (Eh f)) i=(Na key' (next g') m fu o i).map (kT (Eh f))
 |0,_,_,_=>rfl |fu+1,i,o,ho=>by
  rw[Na,Na,iU];cases hi:o[i]? with
  |none=>rfl |some n=>
   have hn:=ho n (List.mem_of_getElem? hi);simp only[Option.map_some];rw[ahD h hn,ahF hk ho (h.step n hn)];cases hp:EJ key' m o (next g' n) with
   |none=>rfl |some o1=>exact amg h (O4 hp ho (h.step n hn))
theorem Uh(h:QG g g' f Q):∀{r:List (Nd S')},(∀x∈r,Q x)->∀n,Q n->Jb key (next g) (full g) (r.map (Eh f)) (key (Eh f n))=Jb key' (next g') (full g') r (key' n)
 |[],_,_,_=>rfl |a::r,hr,n,hn=>by
  have ha:=hr a dn;have hr':=fun x hx=>hr x (bV a hx);rw[iQ,Jb,Jb];by_cases e:key' a=key' n
  ·rw[if_pos e,if_pos ((hk a n ha hn).2 e),ahE h,ahD h ha,List.any_map]
   congr 1;rw[Bool.eq_iff_iff,vP,vP];constructor
   ·intro ⟨t,ht,q⟩
    exact ⟨t,ht,by rw[<-Uh h hr' t (h.step a ha t ht)];exact q⟩
   ·intro ⟨t,ht,q⟩
    exact ⟨t,ht,(Uh h hr' t (h.step a ha t ht)).trans q⟩
  ·rw[if_neg e,if_neg (fun q=>e ((hk a n ha hn).1 q))]
   exact Uh h hr' n hn
theorem afk(h:QG g g' f Q){s:S'}(hs:Q (start s))(m:Nat):ER g key (f s) m=(ER g' key' s m).map (kT (Eh f)):=by
 unfold ER;have:=amg hk h (m:=m) (fu:=m+1) (i:=0) (o:=[start s]) (fun x hx=>by
  simp_all)
 exact this
theorem ap0(h:QG g g' f Q){r:List (Nd S')}(hr:∀x∈r,Q x){n:Nd S'}(hn:Q n):Uc g key (r.map (Eh f)) (Eh f n)=Uc g' key' r n:=Uh hk h hr n hn
theorem afl(h:QG g g' f Q){r:List (Nd S')}(hr:∀x∈r,Q x){s:S'}(hs:Q (start s)):QE g key (f s) (r.map (Eh f))=QE g' key' s r:=ap0 hk h hr hs
theorem afm(h:QG g g' f Q){r:List (Nd S')}(hr:∀x∈r,Q x):∀fu (n:Nd S'),Q n->least g (Uc g key (r.map (Eh f))) fu (Eh f n)=least g' (Uc g' key' r) fu n
 |0,_,_=>rfl |fu+1,n,hn=>by
  rw[least,least,ahE h,afj h hn];rw[ahC (p:=fun t=>Uc g key (r.map (Eh f)) t.2) (q:=fun t=>Uc g' key' r t.2) (F:=fun t=>(t.1,Eh f t.2)) fun t ht=>ap0 hk h hr (h.step n hn _ (eP.2 ⟨t,ht,rfl⟩))];cases hf:(turns g' n).find? fun t=>Uc g' key' r t.2 with
  |none=>rfl |some t=>
   have ht:=h.step n hn t.2 (eP.2 ⟨t,List.mem_of_find?_eq_some hf,rfl⟩);show (if full g' n=ay then [] else t.1::least g (Uc g key (r.map (Eh f))) fu (Eh f t.2))=_;rw[afm h hr fu t.2 ht]
theorem afn(h:QG g g' f Q){r:List (Nd S')}(hr:∀x∈r,Q x){s:S'}(hs:Q (start s)):IB g key (f s) (r.map (Eh f))=IB g' key' s r:=by
 unfold IB;rw[afl hk h hr hs,h.n];split
 ·exact afm hk h hr _ _ hs
 ·rfl
omit hk in
end
end Go.Gm
namespace Go.Pl
open Go Go.Sx Go.Proofs Go.Gm Go.Bf
def Dk(l:List A8)(j:Nat):A8:=l.getD j PN
def Hf(n:Nat):List A8->List Dd->Option (List A8)
 |l,[]=>aj l |l,d::r=>if d.ret=0 then Hf n l r else if OH n (Dk l) d.obj d.op d.key d.val=ay then
   (if (Ey (Dk l d.obj.toNat) d.op d.key d.val).2.1=d.ret/\(Ey (Dk l d.obj.toNat) d.op d.key d.val).2.2=d.got then Hf n (l.set d.obj.toNat (Ey (Dk l d.obj.toNat) d.op d.key d.val).1) r else aF) else aF
def Ig(n:Nat)(g0:SG)(l:List A8):SG:=fun j=>if j<n then DU (Dk l j) else g0 j
def VP(B:Nh):Game (List A8) where
 n:=B.N
 id i:=(B.T i).id
 com i:=(B.T i).st==3||(B.T i).st==2
 abo i:=!((B.T i).st==3)
 mask i:=(B.ms i).toNat
 run l i:=Hf B.k0 l (lst Dd (B.T i).k (B.T i).g)
 all:=B.lv==3
def E8(nd:Nd (List A8)):Nat×List A8:=(nd.placed,nd.st)
section
variable{n:Nat}{g0:SG}
theorem afo(l:List A8):∀j,j<n->Ig n g0 l j=DU (Dk l j):=fun _ hj=>if_pos hj
theorem av1(l:List A8):∀j,j<n->Ec n (Ig n g0 l) j=Dk l j:=apl (afo l)
theorem aa1(l:List A8)(k:Nat)(s:A8)(hk:k<l.length)(j:Nat):Dk (l.set k s) j=if j=k then s else Dk l j:=by
 grind [Dk]
theorem ajd(n:Nat)(g0:SG):∀(dd:List Dd) (l:List A8) (i:Nat),l.length=n->
  match Hf n l dd with
  |some l'=>IY n (Ig n g0 l) i dd=.inr (Ig n g0 l')/\l'.length=n |none=>∃q,IY n (Ig n g0 l) i dd=.inl q
 |[],l,i,hl=>⟨rfl,hl⟩ |d::dd,l,i,hl=>by
  unfold Hf IY;by_cases h0:d.ret=0
  ·rw[if_pos h0,if_pos h0]
   exact ajd n g0 dd l (i+1) hl
  ·rw[if_neg h0,if_neg h0]
   have hok:Za n (Ig n g0 l) d.obj d.op d.key d.val=OH n (Dk l) d.obj d.op d.key d.val:=afb (av1 l) _ _ _ _;rw[hok];by_cases h1:OH n (Dk l) d.obj d.op d.key d.val=ay
   ·rw[if_pos h1,if_pos h1]
    obtain ⟨hi,_⟩:=ama h1;have hi':0<=d.obj/\d.obj<n:=ϑ hi;have hs:Ec n (Ig n g0 l) d.obj.toNat=Dk l d.obj.toNat:=av1 l _ (by omega);have hr:alo n (Ig n g0 l) d.obj d.op d.key d.val=(Ey (Dk l d.obj.toNat) d.op d.key d.val).2.1:=by grind [alo]
    have hgt:alp n (Ig n g0 l) d.obj d.op d.key d.val=(Ey (Dk l d.obj.toNat) d.op d.key d.val).2.2:=by grind [alp]
    have hn:aem n (Ig n g0 l) d.obj d.op d.key d.val=Ig n g0 (l.set d.obj.toNat (Ey (Dk l d.obj.toNat) d.op d.key d.val).1):=by
     funext j;show (if Gw n d.obj=ay/\j=d.obj.toNat then DU (Ey (Ec n (Ig n g0 l) d.obj.toNat) d.op d.key d.val).1 else Ig n g0 l j)=if j<n then DU (Dk (l.set d.obj.toNat _) j) else g0 j;rw[hs,aa1 _ _ _ (by omega)];by_cases e:j=d.obj.toNat
     ·simp_all
     ·rw[if_neg (fun q=>e q.2),if_neg e];rfl
    rw[hr,hgt,hn];by_cases h2:(Ey (Dk l d.obj.toNat) d.op d.key d.val).2.1=d.ret/\(Ey (Dk l d.obj.toNat) d.op d.key d.val).2.2=d.got
    ·rw[if_pos h2,if_pos h2]
     exact ajd n g0 dd _ (i+1) (by simp_all)
    ·rw[if_neg h2,if_neg h2]
     exact ⟨_,rfl⟩
   simp_all
end
section
variable{lv:Int}{n:Nat}{og:ϝ}{B:Qg}
def QlP(lv:Int)(n:Nat)(og:ϝ)(B:Qg)(nd:Nd (List A8)):Prop:=nd.st.length=n/\QnP lv n og B (Eh (Ig n (I4 og)) nd)
theorem aow(nd:Nd (List A8))(hl:nd.st.length=n)(i:Nat):
  (Gb (CO lv n og B)).run (Ig n (I4 og) nd.st) i=((VP (CO lv n og B)).run nd.st i).map (Ig n (I4 og))/\∀l',(VP (CO lv n og B)).run nd.st i=aj l'->l'.length=n:=by
 have h:=ajd n (I4 og) (lst Dd ((CO lv n og B).T i).k ((CO lv n og B).T i).g) nd.st 0 hl;show (if plO n (Ig n (I4 og) nd.st) ((CO lv n og B).T i).k ((CO lv n og B).T i).g=ay then aj (plS n (Ig n (I4 og) nd.st) ((CO lv n og B).T i).k ((CO lv n og B).T i).g) else aF)=(Hf n nd.st (lst Dd ((CO lv n og B).T i).k ((CO lv n og B).T i).g)).map (Ig n (I4 og))/\∀l',Hf n nd.st (lst Dd ((CO lv n og B).T i).k ((CO lv n og B).T i).g)=aj l'->l'.length=n;unfold plO plS aeo aep;grind
theorem OL(P:TbP n og B):QG (Gb (CO lv n og B)) (VP (CO lv n og B)) (Ig n (I4 og)) (QlP lv n og B) where
 n:=rfl
 id _ _:=rfl
 com _ _:=rfl
 abo _ _:=rfl
 mask _ _:=rfl
 all:=rfl
 run nd hq i _ _:=(aow nd hq.1 i).1
 step nd hq t ht:=by
  have hG:=aaW (lv:=lv) P;have hlen:t.st.length=n:=by
   unfold next turns at ht;obtain ⟨x,hx,rfl⟩:=eP.1 ht;obtain ⟨i,hi,hx⟩:=jE.1 hx;unfold Ia at hx;split at hx
   ·rcases bQ.1 hx with hx|hx
    ·split at hx
     ·rename_i s e1 e2
      obtain rfl:x=_:=by simpa using hx
      exact (aow (lv:=lv) (og:=og) (B:=B) nd hq.1 i).2 s e2
     ·cases hx
    ·split at hx
     ·obtain rfl:x=_:=by simpa using hx
      exact hq.1
     ·cases hx
   ·cases hx
  refine ⟨hlen,hG.step _ hq.2 _ ?_⟩;have key:QG (Gb (CO lv n og B)) (VP (CO lv n og B)) (Ig n (I4 og)) (fun x=>x=nd/\x.st.length=n)\/True:=.inr trivial;unfold next turns at ht ⊢;obtain ⟨x,hx,rfl⟩:=eP.1 ht;obtain ⟨i,hi,hx⟩:=jE.1 hx;refine eP.2 ⟨(x.1,Eh (Ig n (I4 og)) x.2),jE.2 ⟨i,hi,?_⟩,rfl⟩;have hr:=(aow (lv:=lv) (og:=og) (B:=B) nd hq.1 i).1;unfold Ia at hx ⊢;have em:may (Gb (CO lv n og B)) (Eh (Ig n (I4 og)) nd).placed i=may (VP (CO lv n og B)) nd.placed i:=rfl;rw[em];have hr':(Gb (CO lv n og B)).run (Eh (Ig n (I4 og)) nd).st i=((VP (CO lv n og B)).run nd.st i).map (Ig n (I4 og)):=hr;rw[hr'];split at hx
  ·rename_i hm
   rw[if_pos hm];rcases bQ.1 hx with hx|hx
   ·refine List.mem_append_left _ ?_
    split at hx
    ·rename_i s e1 e2
     obtain rfl:x=_:=by simpa using hx
     rw[e2];have e1':(Gb (CO lv n og B)).com i=ay:=e1;rw[e1'];exact sO.2 rfl
    ·cases hx
   ·refine List.mem_append_right _ ?_
    split at hx
    ·rename_i hc
     obtain rfl:x=_:=by simpa using hx
     have hc':(Gb (CO lv n og B)).abo i=ay/\((Gb (CO lv n og B)).all=ay->(((VP (CO lv n og B)).run nd.st i).map (Ig n (I4 og))).isSome=ay):=⟨hc.1,fun q=>by
      have:=hc.2 q;simp_all⟩
     rw[if_pos hc'];exact sO.2 rfl
    ·cases hx
  ·cases hx
theorem ahG{l l':List A8}(h1:l.length=n)(h2:l'.length=n)(h:∀j,j<n->Dk l j=Dk l' j):l=l':=by
 grind [List.ext_getElem,Dk,aV]
theorem aa2:∀x y,QlP lv n og B x->QlP lv n og B y->(DV n (Eh (Ig n (I4 og)) x)=DV n (Eh (Ig n (I4 og)) y)↔E8 x=E8 y):=fun x y hx hy=>by
 constructor
 ·intro h
  have e:=ahB _ _ hx.2 hy.2 h;obtain ⟨p,l⟩:=x;obtain ⟨p',l'⟩:=y;have e1:p=p':=congrArg Nd.placed e;have e2:Ig n (I4 og) l=Ig n (I4 og) l':=congrArg Nd.st e;have e3:l=l':=ahG hx.1 hy.1 fun j hj=>by
   have:=congrFun e2 j;grind [afo,RQ]
  rw[e1,e3]
 ·intro h
  obtain ⟨p,l⟩:=x;obtain ⟨p',l'⟩:=y;have h:(p,l)=(p',l'):=h;grind
def newL(n:Nat)(og:ϝ):List A8:=(aU n).map fun j=>newT (Ap og) j
theorem afp:Ig n (I4 og) (newL n og)=I4 og:=by
 funext j;unfold Ig;split
 ·rename_i hj
  unfold Dk newL;rw[bI,iU,List.getElem?_range hj];rfl
 ·rfl
theorem Jy(P:TbP n og B):QlP lv n og B (dM (newL n og)):=⟨by show (newL n og).length=n;unfold newL;simp,by
 have h:=(aaW (lv:=lv) P).start;have e:Eh (Ig n (I4 og)) (dM (newL n og))=⟨0,(CO lv n og B).g0⟩:=by
  show (⟨0,Ig n (I4 og) (newL n og)⟩:Nd SG)=⟨0,I4 og⟩;rw[afp]
 grind⟩
end
end Go.Pl
namespace Go.Rg
open Go Go.Sx Go.Pl Go.Proofs
theorem afq{m:Nat}{s:A8}{op k v:Int}(h:Gt m s)(ha:Fv s.kind s.num op k v=0):opR (toR s) op k v=(Ey s op k v).2.1/\opV (toR s) op k v=(Ey s op k v).2.2:=by
 obtain ⟨⟨k0,hk⟩,_⟩:=aiR ha;have hop:=ahn ha;obtain ⟨kind,num,q,ps⟩:=s;rcases hop with rfl|rfl|rfl|rfl|rfl|rfl|rfl|rfl|rfl
 ·exact ⟨rfl,rfl⟩
 ·exact ⟨rfl,rfl⟩
 ·exact ⟨rfl,rfl⟩
 ·exact ⟨rfl,rfl⟩
 ·exact ⟨rfl,rfl⟩
 ·have hk:(3:Int)=kind:=hk
  subst hk;have hp:ps=[]:=h.p0 (show (3:Int)≠4 by decide);simp_all [opR,opV,TV,Ey,toR]
 ·exact ⟨rfl,rfl⟩
 ·have hk:(4:Int)=kind:=hk
  subst hk;have hq:q=[]:=h.q0 (show (4:Int)≠3 by decide);subst hq;have hs:=F7 h.wf;have e1:=WA (k:=k) hs;have e2:nth ([]++ps.map (·.val)) (Bo (ps.map (·.key)) k)=if EI ps k=ay then (nth ps (CZ ps k)).val else nth ([]++ps.map (·.val)) (Bo (ps.map (·.key)) k):=by
   simp_all [ji,OZ,aeH,Zg]
  have e3 (c d:Int):(if EI ps k=ay then nth ([]++ps.map (·.val)) (Bo (ps.map (·.key)) k) else d)=if EI ps k=ay then (nth ps (CZ ps k)).val else d:=by
   simp_all
  constructor
  ·show (if hasK (ps.map (·.key)) k=ay then (3:Int) else 2)=L8 ps k
   rw[e1];rfl
  ·show (if hasK (ps.map (·.key)) k=ay then nth ([]++ps.map (·.val)) (Bo (ps.map (·.key)) k) else 0)=Lc ps k
   rw[e1,e3 0 0];rfl
 ·have hk:(4:Int)=kind:=hk
  subst hk;have hq:q=[]:=h.q0 (show (4:Int)≠3 by decide);subst hq;have hs:=F7 h.wf;have e1:=WA (k:=k) hs;have e2:nth ([]++ps.map (·.val)) (Bo (ps.map (·.key)) k)=if EI ps k=ay then (nth ps (CZ ps k)).val else nth ([]++ps.map (·.val)) (Bo (ps.map (·.key)) k):=by
   simp_all [ji,OZ,aeH,Zg]
  have e3 (c d:Int):(if EI ps k=ay then nth ([]++ps.map (·.val)) (Bo (ps.map (·.key)) k) else d)=if EI ps k=ay then (nth ps (CZ ps k)).val else d:=by
   simp_all
  constructor
  ·show (if hasK (ps.map (·.key)) k=ay then (3:Int) else 2)=L8 ps k
   rw[e1];rfl
  ·show (if hasK (ps.map (·.key)) k=ay then nth ([]++ps.map (·.val)) (Bo (ps.map (·.key)) k) else 0)=Lc ps k
   rw[e1,e3 0 0];rfl
def dR(l:List A8):Nat->Rf:=fun j=>toR (Dk l j)
def Oq(n:Nat):List A8->List Dd->Nat->Int×Nat
 |_,[],_=>(0,0) |l,d::r,i=>if d.ret=0 then Oq n l r (i+1) else if OH n (Dk l) d.obj d.op d.key d.val=ay then
   (if (Ey (Dk l d.obj.toNat) d.op d.key d.val).2.1=d.ret/\(Ey (Dk l d.obj.toNat) d.op d.key d.val).2.2=d.got then Oq n (l.set d.obj.toNat (Ey (Dk l d.obj.toNat) d.op d.key d.val).1) r (i+1) else (112,i)) else (aeG n (dR l) d.obj d.op d.key d.val,i)
def ddL(dd:Nat->Dd):Nat->Nat->List Dd
 |_,0=>[] |i,r+1=>dd i::ddL dd (i+1) r
theorem ami(dd:Nat->Dd):∀r i,ddL dd i r=(aU r).map fun j=>dd (i+j)
 |0,_=>rfl |r+1,i=>by
  rw[ddL,ami dd r (i+1),pV,iQ,mD];simp only[Nat.add_zero];congr 1;grind [iJ]
def ruS(n:Nat)(l:List A8)(rest:List Dd)(i:Nat):Sh:=match Hf n l rest with
 |some l'=>.Az [.sl 4 n (DJ (dR l')),.agg [.i .i64 0,.sl 1 0 FB]] |none=>.Az [.sl 0 0 noT,Og (Oq n l rest i)]
theorem acM{n:Nat}{l:List A8}{i op k v:Int}(h:OH n (Dk l) i op k v=ay):(0<=i/\i<n)/\Gw n i=ay/\Fv (Dk l i.toNat).kind (Dk l i.toNat).num op k v=0:=by
 have hM:okM n (fun j=>toR (Dk l j)) i op k v=ay:=by rw[aeK];exact h
 have hM:(Gw n i&&isC (toR (Dk l i.toNat)).kind (toR (Dk l i.toNat)).num op k v 0)=ay:=hM;rw[aB] at hM;exact ⟨ϑ hM.1,hM.1,ϑ hM.2⟩
theorem ayx{n m:Nat}{l:List A8}{i op k v:Int}(hl:l.length=n)(hI:∀j,j<n->Gt m (Dk l j))(h:OH n (Dk l) i op k v=ay):
  (∀j,j<n->L6 n (DJ (dR l)) i (Q5 (Q7 (dR l i.toNat) op k v)) j=DJ (dR (l.set i.toNat (Ey (Dk l i.toNat) op k v).1)) j)/\∀j,j<n->Gt (m+1) (Dk (l.set i.toNat (Ey (Dk l i.toNat) op k v).1) j):=by
 obtain ⟨hi',hi,hc⟩:=acM h;obtain ⟨q1,q2⟩:=aho (hI i.toNat (by omega)) hc;refine ⟨fun j hj=>?_,fun j hj=>?_⟩
 ·unfold L6
  show _=Q5 (toR (Dk (l.set i.toNat (Ey (Dk l i.toNat) op k v).1) j));rw[aa1 _ _ _ (by omega)];by_cases e:j=i.toNat
  ·rw[if_pos ⟨hi,e⟩,if_pos e]
   show Q5 (Q7 (toR (Dk l i.toNat)) op k v)=_;rw[q1]
  ·rw[if_neg (fun q=>e q.2),if_neg e];rfl
 ·rw[aa1 _ _ _ (by omega)]
  by_cases e:j=i.toNat
  ·simp_all
  ·rw[if_neg e]
   have:=hI j hj;exact {this with ql:=nV this.ql,pl:=nV this.pl}
theorem Ea{A:Prim}{W:Wd}{s s':ϕ}{stop stop':Nat->List Nat->Bool}{K:Kx}{g:Nat}{td:List It}{c:Core}{R:Hp->Prop}{φ:Sh->Prop}
  (h:AB ak (C7 A W s stop) K g td c [] R φ):AB ak (C7 A W s' stop') K g td c [] R φ:=fun H E w a items ms cs fn hf st hi hs hx=>
 h H E w a items ms cs fn hf ⟨st.den,st.hp,st.CP,st.free,st.gl,st.defers⟩ hi (by cases ms with
  |nil=>trivial |cons _ _=>exact hs.elim) hx
def ZC:List It:=[aK [0,1,0,1],aX 0,aK [1,1]]
def afr(n:Nat)(g:ϝ)(k:Nat)(dd:Nat->Dd)(i:Int):Core:={tm:=DF 63 [(0,.sh (.sl 4 n g)),(1,.sh (.sl 8 k (Am dd))),(5,.ptr 0 0),(6,.sym .i64 i)],hp:=[(0,.box [.int .i64 0,.Bg] 37)],nx:=1,lim:=L0,tc:=[]}
def Uz(d:Nat->Rf):ϕ
 |50=>aj (F89 d) |51=>aj (apK d) |_=>aF
def ayy(g:Nat):Bool:=dK g 50
def av2:List It:=[It.reg [0,1,1,0,0,1,0,0,1,0,1] [9,10,11,12,13,14,15,16,17,18],aK [1,1,1,0,0,1,0,0,1,0,1],aX 1,aK [1,1,0,0,1,0,1]]++ZC
def ddV(d:Dd):List SV:=[.sym .i64 d.obj,.sym .i64 d.op,.sym .i64 d.key,.sym .i64 d.val,.sym .i64 d.ret,.sym .i64 d.got,.sym .i64 d.at_,.sym .i64 d.back]
def azx(n:Nat)(g:ϝ)(k:Nat)(dd:Nat->Dd)(i:Int)(e:Dd):Core:={tm:=DF 63 [(1,.sh (.sl 8 k (Am dd))),(5,.ptr 0 0),(6,.sym .i64 i),(7,.ptr 1 0),(26,.sh (.sl 4 n g)),(28,.sym .i64 e.obj),(30,.sym .i64 e.op),(32,.sym .i64 e.key),(34,.sym .i64 e.val)],hp:=[(0,.box [.int .i64 0,.Bg] 37),(1,.box (ddV e) 128)],nx:=2,lim:=L0,tc:=[]}
def aDT:List It:=aK [0,0,1,0,1]::ZC
theorem aox(d:Nat->Rf)(stop:Nat->List Nat->Bool):BJ ak (C7 Ak W7 (Uz d) stop):=ig (fun g F h=>by
 unfold Uz at h;grind [O89,azq]) fun g h=>by
 unfold Uz at h;split at h;all_goals first|(cases h;done) |kernel_rfl
section
variable{H0:Mem}{w0:World}{φ:Sh->Prop}{n k:Nat}{dd:Nat->Dd}{d0:Nat->Rf}
def aa3(i:Nat)(c:Int):Sh:=.Az [.sl 0 0 fun _=>[],.agg [.i .i64 c,.os 3 1 1 (Bh [[.i .i64 (i:Int)]])]]
theorem ZE{c:Int}{i:Nat}(h0:c≠0)(h1:c≠105)(h:φ (.Az [.sl 0 0 noT,Og (c,i)])):up φ (aa3 i c):=by
 unfold Og at h;rw[if_neg (by simp[h0,h1])] at h;exact AY (s':=.Az [.sl 0 0 noT,.agg [.i .i64 c,.sl 1 1 fun _=>[.i .i64 (i:Int)]]]) ⟨.inl ⟨rfl,rfl⟩,⟨rfl,.inr ⟨rfl,rfl,fun a ha=>by
  obtain rfl:a=0:=by omega
  rfl⟩,ϖ⟩,ϖ⟩ h
theorem aje(hr:Cc n 64=ay)(hk:k<=1000):∀r i l m g,i+r=k->l.length=n->(∀j,j<n->Gt m (Dk l j))->m+r<=50000->(∀j,j<n->g j=DJ (dR l) j)->φ (ruS n l (ddL dd i r) i)->
  AB ak (C7 Ak W7 (Uz d0) Aw) (K0 H0 w0) 38 ZC (afr n g k dd (i:Nat)) [] emp (up φ)
 |r,i,l,m,g,hir,hl,hI,hm,hg,hφ=>by
  refine Ea (s:=Uz (dR l)) (stop:=Aw) ?_;refine D6 wZ aDT ?_;have e1:Ak.add .i64 (i:Int) 1=((i+1:Nat):Int):=add1 (by omega);have ha:P5 (dR l) n g=ay:=Zj hg;have inb (h:Ak.lt (i:Int) (Ak.AV k)=ay):i<k:=by grind [Ar,AL]
  refine TL ayy (aox _ _) 300 800 [⟨38,ZC,afr n g k dd (Ak.add .i64 (i:Int) 1),[]⟩,⟨38,av2,azx n g k dd (i:Int) (dd i),[]⟩] ?_;refine D9 (nd (Ak.lt (i:Int) (Ak.AV k)) (fun h=>an (by simp[AX,inb h]:Ak.inB (i:Int) k=ay) (nd (Ak.eq (dd i).ret 0)
   (fun z=>(?_:AB ak (C7 Ak W7 (Uz (dR l)) Aw) (K0 H0 w0) 38 ZC (afr n g k dd (Ak.add .i64 (i:Int) 1)) [] emp (up φ)))
   (fun z=>(?_:AB ak (C7 Ak W7 (Uz (dR l)) Aw) (K0 H0 w0) 38 av2 (azx n g k dd (i:Int) (dd i)) [] emp (up φ)))))
   (fun h=>an ha (an hr (?_:up φ (.Az [.os 122 4 n (DJ (dR l)),.agg [.i .i64 0,.sl 0 0 fun _=>[]]])))))
  ·have h:=inb h
   match r,hir,hm,hφ with
   |0,hir,_,_=>omega |r+1,hir,hm,hφ=>
    rw[show Ak.add .i64 (i:Int) 1=((i+1:Nat):Int) from e1];refine Ea (s:=Uz d0) (stop:=Aw) (aje hr hk r (i+1) l m g (by omega) hl hI (by omega) hg ?_);have z:(dd i).ret=0:=by grind [AQ]
    simp_all [ddL,ruS,Hf,Oq]
  ·have h:=inb h
   match r,hir,hm,hφ with
   |0,hir,_,_=>omega |r+1,hir,hm,hφ=>
    have z:¬(dd i).ret=0:=by grind [AQ]
    unfold ddL ruS Hf Oq at hφ;rw[if_neg z,if_neg z] at hφ;refine BZ (aox _ _) 300 800 [⟨38,ZC,afr n (L6 n (DJ (dR l)) (dd i).obj (Q5 (Q7 (dR l (dd i).obj.toNat) (dd i).op (dd i).key (dd i).val))) k dd (Ak.add .i64 (i:Int) 1),[]⟩] ?_;have hwf (hin:Gw n (dd i).obj=ay):wfU (dR l (dd i).obj.toNat)=ay:=by
     have:=arC (n:=n) (i:=(dd i).obj) (by omega:m<=50000) hI;unfold avg at this;rw[hin] at this;assumption
    have hok:OH n (Dk l) (dd i).obj (dd i).op (dd i).key (dd i).val=(Gw n (dd i).obj&&isC (dR l (dd i).obj.toNat).kind (dR l (dd i).obj.toNat).num (dd i).op (dd i).key (dd i).val 0):=aeK.symm;have hcode (hin:Gw n (dd i).obj=ay):aeG n (dR l) (dd i).obj (dd i).op (dd i).key (dd i).val=Fv (dR l (dd i).obj.toNat).kind (dR l (dd i).obj.toNat).num (dd i).op (dd i).key (dd i).val:=if_pos hin;have hno (h:OH n (Dk l) (dd i).obj (dd i).op (dd i).key (dd i).val=aA):φ (.Az [.sl 0 0 noT,Og (aeG n (dR l) (dd i).obj (dd i).op (dd i).key (dd i).val,i)]):=by
     grind
    refine D9 (an ha (an hr (nd (Gw n (dd i).obj) (fun hin=>an (hwf hin) (nd (isC (dR l (dd i).obj.toNat).kind (dR l (dd i).obj.toNat).num (dd i).op (dd i).key (dd i).val 0)
     (fun hc=>nd (Ak.nt (Ak.eq (opR (dR l (dd i).obj.toNat) (dd i).op (dd i).key (dd i).val) (dd i).ret)) (fun a=>(?_:up φ (aa3 i 112))) (fun a=>nd (Ak.nt (Ak.eq (opV (dR l (dd i).obj.toNat) (dd i).op (dd i).key (dd i).val) (dd i).got)) (fun b=>(?_:up φ (aa3 i 112)))
      (fun b=>(?_:AB ak (C7 Ak W7 (Uz (dR l)) Aw) (K0 H0 w0) 38 ZC (afr n (L6 n (DJ (dR l)) (dd i).obj (Q5 (Q7 (dR l (dd i).obj.toNat) (dd i).op (dd i).key (dd i).val))) k dd (Ak.add .i64 (i:Int) 1)) [] emp (up φ)))))
     (fun hc=>nd (isC (dR l (dd i).obj.toNat).kind (dR l (dd i).obj.toNat).num (dd i).op (dd i).key (dd i).val 110) (fun a=>(?_:up φ (aa3 i 110))) (fun a=>(?_:up φ (aa3 i 111))))))
     (fun hin=>(?_:up φ (aa3 i 109))))))
    ·have hT:OH n (Dk l) (dd i).obj (dd i).op (dd i).key (dd i).val=ay:=by simp_all
     obtain ⟨hi',_,hc0⟩:=acM hT;have hrr:=afq (hI _ (by omega:(dd i).obj.toNat<n)) hc0;have a:¬(Ey (Dk l (dd i).obj.toNat) (dd i).op (dd i).key (dd i).val).2.1=(dd i).ret:=by
      simp_all [BG,AQ,dR]
     simp_all [ZE]
    ·have hT:OH n (Dk l) (dd i).obj (dd i).op (dd i).key (dd i).val=ay:=by simp_all
     obtain ⟨hi',_,hc0⟩:=acM hT;have hrr:=afq (hI _ (by omega:(dd i).obj.toNat<n)) hc0;have b:¬(Ey (Dk l (dd i).obj.toNat) (dd i).op (dd i).key (dd i).val).2.2=(dd i).got:=by
      simp_all [BG,AQ,dR]
     simp_all [ZE]
    ·have hT:OH n (Dk l) (dd i).obj (dd i).op (dd i).key (dd i).val=ay:=by simp_all
     obtain ⟨hi',_,hc0⟩:=acM hT;have hrr:=afq (hI _ (by omega:(dd i).obj.toNat<n)) hc0;have a:(Ey (Dk l (dd i).obj.toNat) (dd i).op (dd i).key (dd i).val).2.1=(dd i).ret:=by
      simp_all [BG,AQ,dR]
     have b:(Ey (Dk l (dd i).obj.toNat) (dd i).op (dd i).key (dd i).val).2.2=(dd i).got:=by
      simp_all [BG,AQ,dR]
     rw[if_pos hT,if_pos hT,if_pos ⟨a,b⟩,if_pos ⟨a,b⟩] at hφ;obtain ⟨u1,u2⟩:=ayx hl hI hT;rw[show Ak.add .i64 (i:Int) 1=((i+1:Nat):Int) from e1];exact Ea (s:=Uz d0) (stop:=Aw) (aje hr hk r (i+1) _ (m+1) _ (by omega) (by grind) u2 (by omega) u1 hφ)
    ·have hF:OH n (Dk l) (dd i).obj (dd i).op (dd i).key (dd i).val=aA:=by simp_all
     have a:Fv (dR l (dd i).obj.toNat).kind (dR l (dd i).obj.toNat).num (dd i).op (dd i).key (dd i).val=110:=ϑ a;simp_all [ZE]
    ·have hF:OH n (Dk l) (dd i).obj (dd i).op (dd i).key (dd i).val=aA:=by simp_all
     have a:Fv (dR l (dd i).obj.toNat).kind (dR l (dd i).obj.toNat).num (dd i).op (dd i).key (dd i).val≠110:=of_decide_eq_false a;have hc:Fv (dR l (dd i).obj.toNat).kind (dR l (dd i).obj.toNat).num (dd i).op (dd i).key (dd i).val≠0:=of_decide_eq_false hc;grind [Fv,dR,ZE]
    simp_all [OH,Dk,aeG,dR,ZE]
  ·have h:k=i:=by grind [Ar,AL]
   match r,hir,hφ with
   |0,hir,hφ=>exact AY (s':=.Az [.sl 4 n (DJ (dR l)),.agg [.i .i64 0,.sl 1 0 FB]]) ⟨.inr ⟨rfl,rfl,fun _ _=>rfl⟩,⟨rfl,.inl ⟨rfl,rfl⟩,ϖ⟩,ϖ⟩ hφ |r+1,hir,_=>omega
end
structure SrP(n:Nat)(g:ϝ)(m:Nat)(l:List A8):Prop where
 len:l.length=n
 row:∀j,j<n->g j=DJ (dR l) j
 inv:∀j,j<n->Gt m (Dk l j)
def srB(l:List A8)(n:Nat)(g:ϝ):Bool:=@decide (SrP n g 49000 l/\n<=8) (aI _)
def plL(n:Nat)(l:List A8)(dd:List Dd):List A8:=(Hf n l dd).getD []
def Zp(n:Nat)(l:List A8)(dd:List Dd):Bool:=(Hf n l dd).isSome
def F62(l:List A8):ϵ
 |[s,t]=>match Dj 4 s,Dj 8 t with
  |some (n,g),aj (k,gd)=>.need (srB l n g) (.need (okB Dd k gd) (.need (decide (k<=1000)) (.node (Zp n l (lst Dd k gd)) (.leaf (.Az [.sl 4 n (DJ (dR (plL n l (lst Dd k gd)))),.agg [.i .i64 0,.sl 1 0 FB]])) (.leaf (.Az [.sl 0 0 noT,Og (Oq n l (lst Dd k gd) 0)]))))) |_,_=>.fail
 |_=>.fail
theorem O62(l:List A8):AO ak (AZ W7) 38 (F62 l):=by
 refine CG (C7 Ak W7 (Uz (dR l)) Aw) wZ fun H w Bl args φ hrep hφ=>?_
 have hn:wZ.ntmps=63:=by kernel_rfl
 unfold F62 at hφ;split at hφ
 ·split at hφ
  ·rename_i s t n g k gd h1 h2
   obtain ⟨q1,q2,q3,hT,hF⟩:=hφ;obtain ⟨⟨l1,l2,l3⟩,n8⟩:=@ϑ _ (aI _) q1;have q3:=ϑ q3;match args,hrep with
   |[a,b],⟨ra,rb,_⟩=>
    refine ⟨[.sl 4 n g,.sl 8 k (Am (Ap (α:=Dd) gd))],⟨Bz h1 ra,CY (Bz h2 rb) q2,ϖ⟩,L0,?_⟩;rw[hn];have hll:lst Dd k gd=ddL (Ap gd) 0 k:=by grind [ami,lst]
    rw[hll] at hT hF;refine BZ (aox _ _) 300 800 [⟨38,ZC,afr n g k (Ap gd) 0,[]⟩] ?_;refine D9 (aje (room_le (by omega) (by omega)) q3 k 0 l 49000 g (by omega) l1 l3 (by omega) l2 ?_:AB ak (C7 Ak W7 (Uz (dR l)) Aw) (K0 H w) 38 ZC (afr n g k (Ap gd) 0) [] emp (up φ));unfold ruS;unfold Zp plL at hT;unfold Zp at hF;cases hp:Hf n l (ddL (Ap gd) 0 k) with
    |some l'=>rw[hp] at hT;exact hT rfl |none=>rw[hp] at hF;exact hF rfl
  ·exact hφ.elim
 ·exact hφ.elim
open Go Go.Sx Go.Pl Go.Proofs
def av4:ϵ
 |[s,t]=>match Dj 1 s,Dj 1 t with
  |some (n,g),aj (m,h)=>.need (okB Int n g&&(okB Int m h&&decide (n<=100000))) (.leaf (.b (decide (lst Int n g=lst Int m h)))) |_,_=>.fail
 |_=>.fail
def JG:List It:=[aK [0,1,0,1,1],aX 0,aK [1,1,1]]
def LPI(n:Nat)(g:Nat->Int)(m:Nat)(h:Nat->Int)(i:Int):Core:={tm:=DF 29 [(0,.sh (.sl 1 n (Am g))),(1,.sh (.sl 1 m (Am h))),(5,.sym .i64 i)],hp:=[],nx:=0,lim:=L0,tc:=[]}
section
variable{H0:Mem}{w0:World}{φ:Sh->Prop}{n:Nat}{g h:Nat->Int}
theorem av5(hn:n<=100000)(hφ:φ (.b (decide (∀j,j<n->g j=h j)))):∀r i,i+r=n->(∀j,j<i->g j=h j)->
  AB ak (C7 Ak W7 noSpec Aw) (K0 H0 w0) 15 JG (LPI n g n h (i:Nat)) [] emp (up φ)
 |0,i,hi,he=>by
  refine D6 qP (aK [0,0,1,0,1,1]::JG) ?_;refine BZ (Ej _) 300 400 [] ?_;rw[ϱ (fun j hj=>he j (by omega))] at hφ;exact I9 (l:=[aA]) (cs:=[Ak.lt (i:Int) n]) (by simp[Ar];omega) (s:=.b ay) (AY (s':=.b ay) (.inl rfl) hφ)
 |r+1,i,hi,he=>by
  refine D6 qP (aK [0,0,1,0,1,1]::JG) ?_;have nx (e:g i=h i):=av5 hn hφ r (i+1) (by omega) fun j hj=>by
   grind
  rw[<-add1 (by omega)] at nx;have k1 (b:Bool) (hb:(!decide (g i=h i))=b):[Ak.lt (i:Int) n,Ak.inB (i:Int) n,Ak.inB (i:Int) n,Ak.nt (Ak.eq (g (Ak.toN i)) (h (Ak.toN i)))]=[ay,ay,ay,b]:=by
   rw[show Ak.lt (i:Int) n=ay by simp[Ar];omega,show Ak.inB (i:Int) n=ay by simp[AX];omega,<-hb];rfl
  refine BZ (Ej _) 300 400 [⟨15,JG,LPI n g n h (Ak.add .i64 (i:Int) 1),[]⟩] ?_;by_cases e:g i=h i
  ·exact DC (k1 aA (by simp[e])) 0 ⟨_,rfl,nx e⟩
  ·rw[decide_eq_false (fun f=>e (f i (by omega)))] at hφ
   exact I9 (k1 ay (by simp[e])) (s:=.b aA) (AY (s':=.b aA) (.inl rfl) hφ)
end
theorem aDV:AO ak (AZ W7) 15 av4:=by
 refine CG (C7 Ak W7 noSpec Aw) qP fun H w Bl args φ hrep h=>?_
 have hn:qP.ntmps=29:=by kernel_rfl
 unfold av4 at h;split at h
 ·split at h
  ·rename_i n g m h' e1 e2
   obtain ⟨q1,hφ⟩:=h;rw[aB,aB,ϟ] at q1;obtain ⟨a1,a2,a3⟩:=q1;match args,hrep with
   |[v,u],⟨rv,ru,_⟩=>
    refine ⟨[.sl 1 n (Am (Ap (α:=Int) g)),.sl 1 m (Am (Ap (α:=Int) h'))],⟨CY (Bz e1 rv) a1,CY (Bz e2 ru) a2,ϖ⟩,L0,?_⟩;have hφ:φ (.b (decide (lst Int n g=lst Int m h'))):=hφ;rw[hn];by_cases e:n=m
    ·subst e
     have ed:decide (lst Int n g=lst Int n h')=decide (∀j,j<n->Ap (α:=Int) g j=Ap (α:=Int) h' j):=by
      simp[lst]
     rw[ed] at hφ;refine BZ (Ej _) 300 400 [⟨15,JG,LPI n (Ap g) n (Ap h') ((0:Nat):Int),[]⟩] ?_;exact DC (l:=[aA]) (cs:=[Ak.nt (Ak.eq (Ak.AV n) (Ak.AV n))]) (by simp[BG,AQ]) 0 ⟨_,rfl,av5 a3 hφ n 0 (by omega) (fun j hj=>by omega)⟩
    ·have hl:lst Int n g≠lst Int m h':=fun f=>e (by have:=congrArg uw f;grind [lst])
     rw[decide_eq_false hl] at hφ;refine BZ (Ej _) 300 400 [] ?_;exact I9 (l:=[ay]) (cs:=[Ak.nt (Ak.eq (Ak.AV n) (Ak.AV m))]) (by simp[BG,AQ,AL];omega) (s:=.b aA) (AY (s':=.b aA) (.inl rfl) hφ)
  ·exact h.elim
 ·exact h.elim
open Go Go.Sx Go.Pl Go.Proofs
def XV(r s:Rf):Bool:=@decide (r=s) (aI _)
theorem aoy{r s:Rf}:XV r s=ay↔r=s:=by unfold XV;simp
def F74(r s:Rf):ϵ
 |[.agg [.i .i64 x,.i .i64 y,s2,s3],.agg [.i .i64 x',.i .i64 y',t2,t3]]=>.need (isR r x y s2 s3&&isR s x' y' t2 t3&&decide (r.keys.length<=100000/\r.vals.length<=100000)) (.leaf (.b (XV r s))) |_=>.fail
def Gn:ϕ
 |15=>aj av4 |_=>aF
theorem P8(stop:Nat->List Nat->Bool):BJ ak (C7 Ak W7 Gn stop):=ig (fun g F h=>by
 grind [Gn,aDV]) fun g h=>by
 unfold Gn at h;split at h;all_goals first|(cases h;done) |kernel_rfl
theorem ap1{r:Rf}{x y:Int}{s2 s3:Sh}(h:isR r x y s2 s3=ay):[.i .i64 x,.i .i64 y,s2,s3]=Q5 r:=@ϑ _ (aI _) h
theorem O74(r s:Rf):AO ak (AZ W7) 74 (F74 r s):=by
 refine CG (C7 Ak W7 Gn Aw) Tryz.f74 fun H w Bl args φ hrep h=>?_
 have hn:Tryz.f74.ntmps=35:=by kernel_rfl
 unfold F74 at h;split at h
 ·obtain ⟨q1,hφ⟩:=h
  rw[aB,aB,ϟ] at q1;obtain ⟨⟨a1,a2⟩,a3,a4⟩:=q1;have hφ:φ (.b (XV r s)):=hφ;rw[ap1 a1,ap1 a2] at hrep;refine ⟨[.agg (Q5 r),.agg (Q5 s)],hrep,L0,?_⟩;rw[hn];refine BZ (P8 _) 300 400 [] ?_;obtain ⟨k,n,ks,vs⟩:=r;obtain ⟨k',n',ks',vs'⟩:=s;have go (l l':List Int):decide (lst Int l.length (Am (nth l))=lst Int l'.length (Am (nth l')))=decide (l=l'):=by rw[Hy,Hy]
  have ok (l:List Int) (h:l.length<=100000) (l':List Int):(okB Int l.length (Am (nth l))&&(okB Int l'.length (Am (nth l'))&&decide (l.length<=100000)))=ay:=by simp_all [Cb,ϱ]
  have k1 (l l':List Bool) (h:l=l'):[okB Int ks.length (Am (nth ks))&&(okB Int ks'.length (Am (nth ks'))&&decide (ks.length<=100000)),okB Int vs.length (Am (nth vs))&&(okB Int vs'.length (Am (nth vs'))&&decide (vs.length<=100000)),Ak.eq k k']++l=ay::ay::decide (k=k')::l':=by
   rw[ok ks a3,ok vs a4,h];rfl
  have no (h:¬((⟨k,n,ks,vs⟩:Rf)=⟨k',n',ks',vs'⟩)):up φ (.b aA):=by
   rw[show XV _ _=aA from @decide_eq_false _ (aI _) h] at hφ;exact AY (s':=.b aA) (.inl rfl) hφ
  by_cases e1:k=k'
  ·rw[ϱ e1] at k1
   by_cases e2:n=n'
   ·by_cases e3:ks=ks'
    ·refine I9 (k1 [Ak.eq n n',decide (lst Int ks.length (Am (nth ks))=lst Int ks'.length (Am (nth ks')))] [ay,ay] (by rw[go,ϱ e3,show Ak.eq n n'=ay from ϱ e2])) (s:=.b (decide (lst Int vs.length (Am (nth vs))=lst Int vs'.length (Am (nth vs'))))) ?_
     rw[go];by_cases e4:vs=vs'
     ·rw[ϱ e4]
      rw[show XV _ _=ay from aoy.2 (by simp_all)] at hφ;exact AY (s':=.b ay) (.inl rfl) hφ
     ·rw[decide_eq_false e4];exact no (by simp[e4])
    ·exact I9 (k1 [Ak.eq n n',decide (lst Int ks.length (Am (nth ks))=lst Int ks'.length (Am (nth ks')))] [ay,aA] (by rw[go,decide_eq_false e3,show Ak.eq n n'=ay from ϱ e2])) (s:=.b aA) (no (by simp[e3]))
   ·exact I9 (k1 [Ak.eq n n'] [aA] (by rw[show Ak.eq n n'=aA from decide_eq_false e2])) (s:=.b aA) (no (by simp[e2]))
  ·rw[decide_eq_false e1] at k1
   exact I9 (k1 [] [] rfl) (s:=.b aA) (no (by simp[e1]))
 ·exact h.elim
def dfL(n:Nat)(d e:Nat->Rf):List Int:=((aU n).filter fun j=>!XV (d j) (e j)).map ah
def amj(n:Nat)(d:Nat->Rf):Bool:=@decide (∀j,j<n->(d j).keys.length<=100000/\(d j).vals.length<=100000) (aI _)
def F53(d e:Nat->Rf):ϵ
 |[.sl 4 n g,.sl 4 m h]=>.need (P5 d n g&&(P5 e m h&&(amj n d&&decide (n=m/\n<=1000)))) (.leaf (.sl 1 (dfL n d e).length (Am (nth (dfL n d e))))) |_=>.fail
def Kt(r s:Rf):ϕ
 |74=>aj (F74 r s) |_=>aF
theorem VD(r s:Rf)(stop:Nat->List Nat->Bool):BJ ak (C7 Ak W7 (Kt r s) stop):=ig (fun g F h=>by
 grind [Kt,O74]) fun g h=>by
 unfold Kt at h;split at h;all_goals first|(cases h;done) |kernel_rfl
def ap2(n:Nat)(d e:Nat->Rf)(i:Int)(acc:List Int):Core:={tm:=DF 46 [(0,.sh (.sl 4 n (DJ d))),(1,.sh (.sl 4 n (DJ e))),(5,.gs 0),(6,.sym .i64 i)],hp:=[(0,.own 3 1 acc.length (Am (nth acc)))],nx:=1,lim:=L0,tc:=[]}
theorem ayz(r:Rf):isR r r.kind r.num (.sl 1 (len r.keys) (Am (nth r.keys))) (.sl 1 (len r.vals) (Am (nth r.vals)))=ay:=@ϱ _ (aI _) rfl
section
variable{H0:Mem}{w0:World}{φ:Sh->Prop}{n:Nat}{d e:Nat->Rf}
theorem ajf(hn:n<=1000)(hd:∀j,j<n->(d j).keys.length<=100000/\(d j).vals.length<=100000):∀r i (acc:List Int) (a b:Rf),i+r=n->acc.length<=i->φ (.sl 1 (acc++((jG i r).filter fun j=>!XV (d j) (e j)).map ah).length (Am (nth (acc++((jG i r).filter fun j=>!XV (d j) (e j)).map ah))))->
  AB ak (C7 Ak W7 (Kt a b) Aw) (K0 H0 w0) 53 JG (ap2 n d e (i:Nat) acc) [] emp (up φ)
 |0,i,acc,a,b,hi,hl,hφ=>by
  refine D6 qQ (aK [0,0,1,0,1,1]::JG) ?_;refine BZ (VD _ _ _) 300 400 [] ?_;simp only[List.range'_zero,List.filter_nil,List.map_nil,List.append_nil] at hφ;exact I9 (l:=[aA,aA]) (cs:=[Ak.lt (i:Int) n,Ak.lt (i:Int) n]) (by simp[Ar];omega) (s:=.os 3 1 acc.length (Am (nth acc))) (AY (s':=.sl 1 acc.length (Am (nth acc))) QY hφ)
 |r+1,i,acc,a,b,hi,hl,hφ=>by
  refine D6 qQ (aK [0,0,1,0,1,1]::JG) ?_;refine Ea (s:=Kt (d i) (e i)) (stop:=Aw) ?_;rw[List.range'_succ,vM] at hφ;have lt:Ak.lt (i:Int) n=ay:=by simp[Ar];omega
  have le:Ak.le (n:Int) i=aA:=by simp[CS];omega
  have inb:Ak.inB (i:Int) n=ay:=by simp[AX];omega
  have rd (r:Rf):isR r r.kind r.num (.sl 1 (len r.keys) (Am (nth r.keys))) (.sl 1 (len r.vals) (Am (nth r.vals)))=ay:=ayz r;have k1 (b:Bool) (hb:XV (d i) (e i)=b) (l l':List Bool) (h:l=l'):[Ak.lt (i:Int) n,Ak.le (n:Int) i,Ak.le (n:Int) i,Ak.inB (i:Int) n,Ak.inB (i:Int) n,isR (d i) (d i).kind (d i).num (.sl 1 (len (d i).keys) (Am (nth (d i).keys))) (.sl 1 (len (d i).vals) (Am (nth (d i).vals)))&&isR (e i) (e i).kind (e i).num (.sl 1 (len (e i).keys) (Am (nth (e i).keys))) (.sl 1 (len (e i).vals) (Am (nth (e i).vals)))&&decide ((d i).keys.length<=100000/\(d i).vals.length<=100000),Ak.nt (XV (d i) (e i))]++l=ay::aA::aA::ay::ay::ay::(!b)::l':=by
   grind [ϱ,BG]
  have w1:=add1 (j:=i) (by omega);cases hb:XV (d i) (e i) with
  |true=>
   rw[hb] at hφ;have nx:=ajf hn hd r (i+1) acc a b (by omega) (by omega) hφ;rw[<-w1] at nx;refine BZ (VD _ _ _) 300 400 [⟨53,JG,ap2 n d e (Ak.add .i64 (i:Int) (ah 1)) acc,[]⟩] ?_;exact DC (k1 ay hb [] [] rfl) 0 ⟨_,rfl,Ea nx⟩
  |false=>
   rw[hb] at hφ;simp only[Bool.not_false,if_true,iQ] at hφ;have nx:=ajf hn hd r (i+1) (acc++[ah i]) a b (by omega) (by simp;omega) (by simp_all);rw[<-w1] at nx;refine BZ (VD _ _ _) 300 400 [⟨53,JG,ap2 n d e (Ak.add .i64 (i:Int) (ah 1)) (acc++[ah i]),[]⟩] ?_;exact DC (k1 aA hb [Ak.room (Ak.addN acc.length 1) 8] [ay] (by rw[Em,ϱ (by rw[Dl];unfold maxLen;omega)])) 0 ⟨_,rfl,Ea nx⟩ [3,4]
    [aZ (Ak.addN acc.length 1) (acc++[ah i]).length,bY (Ak.addN acc.length 1) (Ak.snoc (Am (nth acc)) acc.length (Bh [[.i .i64 (i:Int)]])) (Am (nth (acc++[ah i])))] ⟨(by rw[cO];rfl),Ib acc (ah i) _ rfl,ϖ⟩
end
theorem O53(d e:Nat->Rf):AO ak (AZ W7) 53 (F53 d e):=by
 refine CG (C7 Ak W7 (Kt (d 0) (e 0)) Aw) qQ fun H w Bl args φ hrep h=>?_
 have hn:qQ.ntmps=46:=by kernel_rfl
 unfold F53 at h;split at h
 ·rename_i n g m h'
  obtain ⟨q1,hφ⟩:=h;rw[aB,aB,aB,ϟ] at q1;obtain ⟨a1,a2,a3,rfl,a5⟩:=q1;match args,hrep with
  |[v,u],⟨rv,ru,_⟩=>
   refine ⟨[.sl 4 n (DJ d),.sl 4 n (DJ e)],⟨Gg rv (.inr ⟨rfl,rfl,Zi a1⟩),Gg ru (.inr ⟨rfl,rfl,Zi a2⟩),ϖ⟩,L0,?_⟩;rw[hn];refine BZ (VD _ _ _) 300 400 [⟨53,JG,ap2 n d e ((0:Nat):Int) [],[]⟩] ?_;exact DC (l:=[]) (cs:=[]) rfl 0 ⟨_,rfl,ajf a5 (@ϑ _ (aI _) a3) n 0 [] _ _ (by omega) (by simp) (by rw[ji,<-List.range_eq_range'];exact hφ)⟩
 ·exact h.elim
def F39(d e:Nat->Rf):ϵ
 |[.sl 4 n g,.sl 4 m h]=>.need (P5 d n g&&(P5 e m h&&(amj n d&&decide (n=m/\n<=1000)))) (.leaf (.b (decide ((dfL n d e).length=0)))) |_=>.fail
def ZF(d e:Nat->Rf):ϕ
 |53=>aj (F53 d e) |_=>aF
theorem ayA(d e:Nat->Rf)(stop:Nat->List Nat->Bool):BJ ak (C7 Ak W7 (ZF d e) stop):=ig (fun g F h=>by
 grind [ZF,O53]) fun g h=>by
 unfold ZF at h;split at h;all_goals first|(cases h;done) |kernel_rfl
theorem aDW(k:Nat):Ak.eq (Ak.AV k) 0=decide (k=0):=by
 cases k with
 |zero=>rfl |succ k=>rfl
theorem aDX(d e:Nat->Rf):AO ak (AZ W7) 39 (F39 d e):=by
 refine CG (C7 Ak W7 (ZF d e) Aw) Tryz.f39 fun H w Bl args φ hrep h=>?_
 have hn:Tryz.f39.ntmps=10:=by kernel_rfl
 unfold F39 at h;split at h
 ·rename_i n g m h'
  obtain ⟨q1,hφ⟩:=h;refine ⟨_,hrep,L0,?_⟩;rw[hn];refine BZ (ayA _ _ _) 300 400 [] ?_;exact I9 (l:=[ay]) (cs:=[P5 d n g&&(P5 e m h'&&(amj n d&&decide (n=m/\n<=1000)))]) (by rw[q1]) (s:=.b (Ak.eq (Ak.AV (dfL n d e).length) 0)) (AY (s':=.b (decide ((dfL n d e).length=0))) (.inl (congrArg iL (aDW _).symm)) hφ)
 ·exact h.elim
open Go Go.Sx Go.Pl Go.Proofs
def UJ(p:Nat->Bool):Nat->Nat->Int
 |0,_=>-1 |r+1,i=>if p i=ay then (i:Int) else UJ p r (i+1)
def Sz(R:Nat->J8)(D:Nat->Nat->Rf)(n:Nat)(e:Nat->Rf)(S:Int)(j:Nat):Bool:=Ak.eq (R j).placed S&&decide ((dfL n (D j) e).length=0)
def fdB(k:Nat)(R:Nat->J8)(D:Nat->Nat->Rf)(n:Nat)(g:ϝ)(e:Nat->Rf):Bool:=
 @decide (k<=100000/\n<=1000/\(∀i,i<n->g i=DJ e i)/\∀j,j<k->(R j).n=n/\(∀i,i<n->(R j).g i=DJ (D j) i/\(D j i).keys.length<=100000/\(D j i).vals.length<=100000)) (aI _)
def F25(D:Nat->Nat->Rf)(e:Nat->Rf):ϵ
 |[s,.agg [.i .i64 S,.sl 4 n g]]=>match Dj 2 s with
  |some (k,G)=>.need (okB J8 k G&&fdB k (Ap G) D n g e) (.leaf (.i .i64 (UJ (Sz (Ap G) D n e S) k 0))) |none=>.fail
 |_=>.fail
def Jc(d e:Nat->Rf):ϕ
 |39=>aj (F39 d e) |_=>aF
theorem VQ(d e:Nat->Rf)(stop:Nat->List Nat->Bool):BJ ak (C7 Ak W7 (Jc d e) stop):=ig (fun g F h=>by
 grind [Jc,aDX]) fun g h=>by
 unfold Jc at h;split at h;all_goals first|(cases h;done) |kernel_rfl
def PS:List It:=[aK [0,1,0,1],aX 0,aK [1,1]]
def ap3(k:Nat)(R:Nat->J8)(S:Int)(n:Nat)(g:ϝ)(i:Int):Core:={tm:=DF 31 [(0,.sh (.sl 2 k (Am R))),(3,.ptr 0 0),(5,.sym .i64 i)],hp:=[(0,.box [.sym .i64 S,.sh (.sl 4 n g)] 80)],nx:=1,lim:=L0,tc:=[]}
section
variable{H0:Mem}{w0:World}{φ:Sh->Prop}{k n:Nat}{R:Nat->J8}{D:Nat->Nat->Rf}{e:Nat->Rf}{g:ϝ}{S:Int}
theorem Y4(hk:k<=100000)(hn:n<=1000)(hg:∀i,i<n->g i=DJ e i)(hR:∀j,j<k->(R j).n=n/\(∀i,i<n->(R j).g i=DJ (D j) i/\(D j i).keys.length<=100000/\(D j i).vals.length<=100000)):
  ∀r i (d0 e0:Nat->Rf),i+r=k->φ (.i .i64 (UJ (Sz R D n e S) r i))->AB ak (C7 Ak W7 (Jc d0 e0) Aw) (K0 H0 w0) 25 PS (ap3 k R S n g (i:Nat)) [] emp (up φ)
 |0,i,d0,e0,hi,hφ=>by
  refine D6 qR (aK [0,0,1,0,1]::PS) ?_;refine BZ (VQ _ _ _) 300 400 [] ?_;exact I9 (l:=[aA]) (cs:=[Ak.lt (i:Int) k]) (by simp[Ar];omega) (s:=.i .i64 (-1)) (AY (s':=.i .i64 (-1)) rfl hφ)
 |r+1,i,d0,e0,hi,hφ=>by
  refine D6 qR (aK [0,0,1,0,1]::PS) ?_;refine Ea (s:=Jc (D i) e) (stop:=Aw) ?_;have nx (h:Sz R D n e S i=aA):=Y4 hk hn hg hR r (i+1) d0 e0 (by omega) (by
   simp_all [UJ])
  rw[<-add1 (by omega)] at nx;obtain ⟨h1,h2⟩:=hR i (by omega);have k1 (b:Bool) (hb:Ak.eq (R (Ak.toN (i:Int))).placed S=b) (l l':List Bool) (h:l=l'):[Ak.lt (i:Int) k,Ak.inB (i:Int) k,Ak.eq (R (Ak.toN (i:Int))).placed S]++l=ay::ay::b::l':=by
   grind [Ar,AX]
  have k2 (b:Bool) (hb:decide ((dfL (R (Ak.toN (i:Int))).n (D i) e).length=0)=b):[Ak.inB (i:Int) k,P5 (D i) (R (Ak.toN (i:Int))).n (R (Ak.toN (i:Int))).g&&(P5 e n g&&(amj (R (Ak.toN (i:Int))).n (D i)&&decide ((R (Ak.toN (i:Int))).n=n/\(R (Ak.toN (i:Int))).n<=1000))),decide ((dfL (R (Ak.toN (i:Int))).n (D i) e).length=0)]=[ay,ay,b]:=by
   have h1':(R (Ak.toN (i:Int))).n=n:=h1;rw[hb,h1',show Ak.inB (i:Int) k=ay by simp_all,Zj hg,show P5 (D i) n (R (Ak.toN (i:Int))).g=ay from Zj fun j hj=>(h2 j hj).1,ϱ ⟨rfl,hn⟩,show amj n (D i)=ay from @ϱ _ (aI _) fun j hj=>(h2 j hj).2];rfl
  cases hs:Ak.eq (R i).placed S with
  |false=>
   refine BZ (VQ _ _ _) 300 400 [⟨25,PS,ap3 k R S n g (Ak.add .i64 (i:Int) (ah 1)),[]⟩] ?_;exact DC (k1 aA hs [] [] rfl) 0 ⟨_,rfl,Ea (nx (by simp_all [Sz]))⟩
  |true=>
   cases hd:decide ((dfL n (D i) e).length=0) with
   |false=>
    refine BZ (VQ _ _ _) 300 400 [⟨25,PS,ap3 k R S n g (Ak.add .i64 (i:Int) (ah 1)),[]⟩] ?_;exact DC (k1 ay hs _ _ (k2 aA (by simp_all))) 0 ⟨_,rfl,Ea (nx (by simp_all [Sz]))⟩
   |true=>
    refine BZ (VQ _ _ _) 300 400 [] ?_;unfold UJ at hφ;rw[show Sz R D n e S i=ay by simp_all [Sz],if_pos rfl] at hφ;exact I9 (k1 ay hs _ _ (k2 ay (by simp_all))) (s:=.i .i64 (i:Int)) (AY (s':=.i .i64 (i:Int)) rfl hφ)
end
theorem azy(D:Nat->Nat->Rf)(e:Nat->Rf):AO ak (AZ W7) 25 (F25 D e):=by
 refine CG (C7 Ak W7 (Jc (D 0) e) Aw) qR fun H w Bl args φ hrep h=>?_
 have hn:qR.ntmps=31:=by kernel_rfl
 unfold F25 at h;split at h
 ·rename_i s S n g
  split at h
  ·rename_i k G e1
   obtain ⟨q1,hφ⟩:=h;rw[aB] at q1;obtain ⟨a1,a2⟩:=q1;obtain ⟨b1,b2,b3,b4⟩:=@ϑ _ (aI _) a2;match args,hrep with
   |[v,u],⟨rv,ru,_⟩=>
    refine ⟨[.sl 2 k (Am (Ap (α:=J8) G)),.agg [.i .i64 S,.sl 4 n g]],⟨CY (Bz e1 rv) a1,ru,ϖ⟩,L0,?_⟩;rw[hn];refine BZ (VQ _ _ _) 300 400 [⟨25,PS,ap3 k (Ap G) S n g ((0:Nat):Int),[]⟩] ?_;exact DC (l:=[]) (cs:=[]) rfl 0 ⟨_,rfl,Y4 b1 b2 b3 b4 k 0 _ _ (by omega) hφ⟩
  ·exact h.elim
 ·exact h.elim
open Go Go.Sx Go.Pl Go.Proofs
open Go.BI (Ev)
def av7:ϵ
 |[.agg [s,t]]=>match Bd s,Bd t with
  |some k,aj i=>.need (decide (MV ⟨k,i⟩=0)) (.leaf (.v (.int .i64 0))) |_,_=>.fail
 |_=>.fail
def av8:ϵ
 |[.agg [s,t]]=>match Dj 2 s,Dj 8 t with
  |some (n,g),aj (m,h)=>.need (okB Oj n g) (.need (gG Ev m h) (.need (decide ((Lp n (Ap g) m (aO h)).1=0)) (.leaf (.agg [.v (.int .i64 0),.sl 1 0 FB])))) |_,_=>.fail
 |_=>.fail
def afs:ϕ
 |68=>aj av7 |44=>aj av8 |_=>aF
def ahH:List It:=[aK [0,1,0,1,1,1,1],aX 0,aK [1,1,1,1,1]]
def amk(n:Nat)(o:Nat->Oj)(k:Nat)(g:ϝ)(i:Int):Core:={tm:=DF 36 [(0,.sh (.sl 2 n (Am o))),(3,.ptr 0 0),(4,.ptr 1 0),(5,.gs 2),(6,.sym .i64 i)],hp:=[(0,.box [.int .i64 0,.Bg] 37),(1,.box [.int .i64 0,.sh (.sl 1 0 FB)] 37),(2,.own 122 4 k g)],nx:=3,lim:=L0,tc:=[]}
def aDY:List It:=aK [0,0,1,0,1,1,1,1]::ahH
theorem aDZ:AO ak (AZ W7) 68 av7:=aaL O83 fun Bl φ h=>by
 unfold av7 at h;split at h
 ·split at h
  ·rename_i e1 e2
   obtain ⟨hc,hφ⟩:=h;refine ⟨.i64,0,hφ,?_⟩;unfold F83;simp only[e1,e2];show aQ .i64 _=_;simp_all
  ·exact h.elim
 ·exact h.elim
theorem ar4{H H':Mem}{w w':World}{v:Value}{c:Int}{s:Sh}(r:Dx H w (.agg [.i .i64 c,s]) v H' w'):Dx H w (.agg [.v (.int .i64 c),s]) v H' w':=
 ⟨r.Ji,r.on,r.os,r.tape,r.output,r.size,r.old,r.fresh,fun b0=>by
  obtain ⟨E1,a1,a2,⟨⟨vs⟩,e,hd⟩,a4⟩:=r.res b0;refine ⟨E1,a1,a2,⟨⟨vs⟩,e,?_⟩,a4⟩;match vs,hd with
  |[a,b],⟨h1,h2,_⟩=>exact ⟨h1,h2,ϖ⟩⟩
theorem aD0:AO ak (AZ W7) 44 av8:=by
 intro H w Bl args φ hon hgl hr hφ;have key:∃g,φ (.agg [.v (.int .i64 0),.sl 1 0 FB])/\(F57 Bl).All fun s=>s=.agg [.i .i64 0,.sl 1 0 g]:=by
  unfold av8 at hφ;split at hφ
  ·split at hφ
   ·rename_i n g m h e1 e2
    obtain ⟨h1,h2,h3,h4⟩:=hφ;have h3:=ϑ h3;refine ⟨fun _=>[.i .i64 (((Lp n (Ap g) m (aO h)).2:Nat):Int)],h4,?_⟩;unfold F57;simp only[e1,e2];refine ⟨h1,h2,?_⟩;show Og _=_;simp_all [Og]
   ·exact hφ.elim
  ·exact hφ.elim
 obtain ⟨g,h1,h2⟩:=key;refine (O57 H w Bl args _ hon hgl hr h2).mono fun e w' ⟨v,s,H',he,hs,r⟩=>?_;subst hs;obtain ⟨H2,r2⟩:=r.wk (s':=.agg [.i .i64 0,.sl 1 0 FB]) ⟨rfl,.inl ⟨rfl,rfl⟩,ϖ⟩;exact ⟨v,_,H2,he,h1,ar4 r2⟩
theorem av9(stop:Nat->List Nat->Bool):BJ ak (C7 Ak W7 afs stop):=ig (fun g F h=>by
 unfold afs at h;grind [aDZ,aD0]) fun g h=>by
 unfold afs at h;split at h;all_goals first|(cases h;done) |kernel_rfl
def okO(n:Nat)(o:Nat->Oj):Bool:=decide (n<=8)&&(aU n).all fun j=>!En (o j).kind (o j).init
def F34:ϵ
 |[s]=>match Dj 2 s with
  |some (n,g)=>.need (okB Oj n g) (.need (okO n (Ap g)) (.leaf (.Az [.sl 4 n (DJ (Ja (Ap g))),.agg [.i .i64 0,.sl 1 0 FB]]))) |none=>.fail
 |_=>.fail
section
variable{H0:Mem}{w0:World}{φ:Sh->Prop}{n:Nat}{o:Nat->Oj}
theorem ap4(hn:n<=8)(hb:∀j,j<n->MV (o j)=0)(hφ:φ (.Az [.sl 4 n (DJ (Ja o)),.agg [.i .i64 0,.sl 1 0 FB]])):∀r i,i+r=n->
  AB ak (C7 Ak W7 afs Aw) (K0 H0 w0) 35 ahH (amk n o i (DJ (Ja o)) (i:Nat)) [] emp (up φ)
 |r,i,hir=>by
  refine D6 xg aDY ?_;have e1:Ak.add .i64 (i:Int) 1=((i+1:Nat):Int):=add1 (by omega);have inb (h:Ak.lt (i:Int) (Ak.AV n)=ay):i<n:=by grind [Ar,AL]
  refine BZ (av9 _) 300 800 [⟨35,ahH,amk n o (i+1) (Ak.snoc (DJ (Ja o)) i (Bh [[.i .i64 (o i).kind,.i .i64 (o i).init,.sl 0 0 fun _=>[],.sl 0 0 fun _=>[]]])) (Ak.add .i64 (i:Int) 1),[]⟩] ?_;refine D9 (nd (Ak.lt (i:Int) (Ak.AV n)) (fun h=>an (by simp[AX,inb h]:Ak.inB (i:Int) n=ay) (an (ϱ (hb i (inb h)):decide (MV ⟨(o i).kind,(o i).init⟩=0)=ay) (an (room_le (by omega) (by omega):Ak.room (i+1) 64=ay)
   (?_:AB ak (C7 Ak W7 afs Aw) (K0 H0 w0) 35 ahH (amk n o (i+1) (Ak.snoc (DJ (Ja o)) i (Bh [[.i .i64 (o i).kind,.i .i64 (o i).init,.sl 0 0 fun _=>[],.sl 0 0 fun _=>[]]])) (Ak.add .i64 (i:Int) 1)) [] emp (up φ)))))
   (fun h=>(?_:up φ (.Az [.os 122 4 i (DJ (Ja o)),.agg [.i .i64 0,.sl 1 0 FB]]))))
  ·have h:=inb h
   match r,hir with
   |0,hir=>omega |r+1,hir=>
    rw[show Ak.add .i64 (i:Int) 1=((i+1:Nat):Int) from e1];refine Ir (id:=2) rfl (fun j hj=>?_) (ap4 hn hb hφ r (i+1) (by omega));rw[Dn];split
    ·simp_all
    ·obtain rfl:j=i:=by omega
     rw[Nat.sub_self];have nil (H:Mem) (u:Value) (h:Rep H (.sl 0 0 fun _=>[]) u):Rep H (.sl 1 (len ([]:List Int)) (Am (nth ([]:List Int)))) u:=by
      cases h with
      |sl0 _ _ A cap hc=>exact .sl0 _ _ _ _ hc |sl _ _ _ b off cap c h1 h2 h3 h4 h5 h6=>exact .sl0 _ _ _ _ h2
     refine ⟨rfl,fun a s' h=>?_⟩;match a,h with
     |0,h|1,h=>exact ⟨s',h,fun _ _ q=>q⟩ |2,h|3,h=>
      obtain rfl:=bP h;exact ⟨_,rfl,nil⟩
     |a+4,h=>simp[DJ,Q5] at h
  ·have:i=n:=by grind [Ar,AL]
   subst this;exact AY (s':=.Az [.sl 4 i (DJ (Ja o)),.agg [.i .i64 0,.sl 1 0 FB]]) ⟨.inr ⟨rfl,rfl,fun _ _=>rfl⟩,⟨rfl,.inl ⟨rfl,rfl⟩,ϖ⟩,ϖ⟩ hφ
end
theorem aD1:AO ak (AZ W7) 35 F34:=by
 refine CG (C7 Ak W7 afs Aw) xg fun H w Bl args φ hrep hφ=>?_
 have hn:xg.ntmps=36:=by kernel_rfl
 unfold F34 at hφ;split at hφ
 ·split at hφ
  ·rename_i s n g h1
   obtain ⟨q1,q2,hφ⟩:=hφ;have q2:(_&&_)=ay:=q2;rw[aB] at q2;have n8:=ϑ q2.1;match args,hrep with
   |[a],⟨ra,_⟩=>
    refine ⟨[.sl 2 n (Am (Ap (α:=Oj) g))],⟨CY (Bz h1 ra) q1,ϖ⟩,L0,?_⟩;rw[hn];have hφ:φ (.Az [.sl 4 n (DJ (Ja (Ap g))),.agg [.i .i64 0,.sl 1 0 FB]]):=hφ;generalize Ap (α:=Oj) g=o at *;have hb:∀j,j<n->MV (o j)=0:=fun j hj=>by
     grind [G6,MV,En]
    have hv:(Lp n (Ap (Am o)) 0 (aO fun _=>[])).1=0:=by
     simp_all [H6,Zz]
    refine BZ (av9 _) 300 800 [⟨35,ahH,amk n o 0 (fun _=>[]) 0,[]⟩] ?_;refine D9 (an (Cb o n) (an (rfl:ay=ay) (an (ϱ hv) (?_:AB ak (C7 Ak W7 afs Aw) (K0 H w) 35 ahH (amk n o 0 (fun _=>[]) 0) [] emp (up φ)))));exact Ir (id:=2) rfl (fun j hj=>by omega) (ap4 n8 hb hφ n 0 (by omega))
  ·exact hφ.elim
 ·exact hφ.elim
end Go.Rg
