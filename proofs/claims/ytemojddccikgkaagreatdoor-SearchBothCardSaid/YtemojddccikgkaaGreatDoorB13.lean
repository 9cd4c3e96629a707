/- Own work. -/
import Derived.Test.YtemojddccikgkaaGreatDoorB12
open Int (ofNat)
open Bool renaming true->ah,and_eq_true->ak,false->ag,not_eq_true'->d5
open Classical renaming propDecidable->ay
open Go.Gm renaming start->bT
open Go.IntKind renaming i64->az
open Go.oz renaming mP->aB,okB->d8,Oj->cv,Ev->cH,mO->aE,zh->dn,Rj->kV,Ar->gU,MG->gV,Ol->gZ,inW->lR,idx->gi,takeB->fl,FV->dq,yO->kB,Cj->kW,BG->kC,fieldsB->jR
open Go.oz.Au renaming nil->c8
open Go.oz.Au.OK renaming nil->eQ
open Go.oz.Row renaming put->dm
open Go.Proofs renaming room_le->eK
open Go.Proofs.C7 renaming Hq->cO
open Go.Proofs.Tryz renaming prog->ai,f41->ix,f20->gB,f45->eg,f23->iy,f12->iz
open Go.Sx.oM renaming nat->am,Gf->aF,int->ac,bool->gt,sh->aw,get->ax
open Go.Sx.pI renaming at_->aH,ret->ar
open Go.Sx.It renaming code->aA,inBlock->aM
open Go.Sx.Sh renaming sl->aj,i->av,agg->aN,mX->aL,v->fQ,er->aX,qK->fj,pt->gz,b->co
open Go.Value renaming pointer->bP,nilIface->bd
open Int renaming ofNat->ab,natCast_nonneg->js
open Int.ofNat renaming inj->cZ
open List renaming length_map->ck,getD_eq_getElem?_getD->aO,length_append->aY,length_cons->cJ,range->aD,length_range->fG,getElem?_eq_getElem->aC,mem_map->bK,mem_of_getElem?->aT,drop_eq_getElem_cons->b9,drop_zero->eP,drop_eq_nil_of_le->eB,map_cons->dF,append_assoc->cA,nil_append->dM,mem_range->bI,all_eq_true->bh
open Nat renaming beq->bJ,le_trans->bL,or_lt_two_pow->gq,shiftLeft_eq->eM,one_mul->gF,pow_lt_pow_right->cF,le_refl->aV,pos_of_ne_zero->jr,zero_le->cM
open Option renaming some->ae,none->ao
open Option.some renaming inj->aS
namespace Go.Pl
open Go Go.Sx Go.Proofs Go.Gm Go.Bf
abbrev SG:=Nat->List Sh
noncomputable def Gb(B:yU):Game SG:=N8 B.lv B.N B.T B.ms B.k0
noncomputable def qP(k0:Nat)(nd:Nd SG):Int×List UInt8:=((nd.placed:Nat),Hz k0 nd.st)
def Az(k0:Nat)(nd:Nd SG):Py:=⟨(nd.placed:Nat),k0,nd.st⟩
def sZ(t:Int×Bool):sO:=⟨t.1,t.2⟩
structure Ei(B:yU)(Q:Nd SG->Prop):Prop where
 start:Q ⟨0,B.g0⟩
 step:∀nd,Q nd->∀t∈next (Gb B) nd,Q t
 tu:∀nd,Q nd->TuP B.lv B.N B.T B.N B.ms (nd.placed:Nat) B.k0 nd.st
 ke:∀nd,Q nd->VJ 4 B.k0 nd.st=ah
section
variable{B:yU}{Q:Nd SG->Prop}{nd:Nd SG}
theorem RJ(hg:Ei B Q)(h:Q nd){st:Nat}(hst:(bJ st 4||bJ B.k0 0)=ah):YV B.lv B.N (mO B.T) B.N (mO B.ms) (nd.placed:Nat) st B.k0 nd.st=ah:=by
 unfold YV;rw[o9,o9,hst,JQ,JQ];exact @decide_eq_true _ (ay _) (hg.tu nd h)
theorem DC:Hy B.lv B.N (mO B.T) (mO B.ms) (nd.placed:Nat) B.k0 nd.st=(turns (Gb B) nd).length:=by
 unfold Hy tuL;rw[JQ,JQ,ck];rfl
theorem RN:YW B.lv B.N (mO B.T) (mO B.ms) (nd.placed:Nat) B.k0 nd.st=nth ((turns (Gb B) nd).map (yx B.k0)):=by
 rfl
theorem IV{α β:Type}[Row β](f:α->β)(l:List α){j:Nat}{a:α}(h:l[j]?=ae a):nth (l.map f) j=f a:=by
 simp_all [nth,aO,List.getElem?_map]
theorem IW(hN:B.N<=62)(nd:Nd SG):(turns (Gb B) nd).length<=124:=by
 have key:∀(l:List Nat),(l.flatMap (xK (Gb B) nd)).length<=2*l.length:=by
  intro l;induction l with
  |nil=>simp |cons a l ih=>
   rw[List.flatMap_cons,aY,cJ];grind [xK,Gb,aY,bL,Nat.add_le_add]
 have:=key (aD B.N);rw[fG] at this;have e:(turns (Gb B) nd).length=(((aD B.N).flatMap (xK (Gb B) nd))).length:=rfl;omega
end
end Go.Pl
namespace Go.Proofs
open Go Go.Sx Go.Pl Go.Gm Go.Bf
theorem awc:nD ai (nJ W7) 57 D92:=fun H w nY args φ hon hg hr h=>by
 unfold D92 at h;split at h
 ·rename_i st n g
  obtain ⟨h1,h2⟩:=h;unfold VJ at h1;rw[ak,ak] at h1;match args,hr with
  |[v],⟨rv,_⟩=>
   refine O32 H w [.agg [.sl 4 n g]] [v] φ hon hg ⟨JV rv ⟨fun _ r=>afD h1.1 r,trivial⟩,trivial⟩ ?_;exact ⟨h1.2.1,h1.2.2,h2⟩
 ·exact h.elim
section
variable{B:yU}{hs:Sh}{lv:Int}
theorem wP(wF:nD ai (nJ W7) 23 (RH hs lv B))(stop:Nat->List Nat->Bool):oD ai (C7 mM W7 (qY hs lv B) stop):=cO (fun g F h=>by
 unfold qY at h;grind [avZ,av1,awc]) fun g h=>by
 unfold qY at h;split at h;all_goals first|(cases h;done) |kernel_rfl
end
section
variable{H0:Mem}{w0:World}{φ:Sh->Prop}{B:yU}{Q:Nd SG->Prop}{hs:Sh}{lv:Int}{M:Int×List UInt8->Option Value}{c:Int}
theorem Ui{o:Option Value}(h:mM.AA o=ah):mM.isS o=ah:=by
 cases o with
 |none=>assumption |some v=>rfl
theorem aoy(wF:nD ai (nJ W7) 23 (RH hs lv B))(hg:Ei B Q)(nd:Nd SG)(hq:Q nd)(acc:List sO)(hk:acc.length<=1000):
  ∀r j,j+r=(turns (Gb B) nd).length->
  (∀t,((turns (Gb B) nd).drop j).find? (fun t=>mM.AA (M (qP B.k0 t.2)))=ae t->mY ai (C7 mM W7 (qY hs lv B) mZ) (K0 H0 w0) 42 tdE (LE B M c (t.2.placed:Nat) B.k0 t.2.st (acc++[sZ t.1]).length (nth (acc++[sZ t.1]))) (N9 B) emp (up φ))->
  (∃t∈(turns (Gb B) nd).drop j,mM.AA (M (qP B.k0 t.2))=ah)->
  mY ai (C7 mM W7 (qY hs lv B) mZ) (K0 H0 w0) 42 tdF (LF B M c (nd.placed:Nat) B.k0 nd.st acc.length (nth acc) (turns (Gb B) nd).length (nth ((turns (Gb B) nd).map (yx B.k0))) (j:Nat)) (N9 B) emp (up φ)
 |0,j,hj,hnx,⟨t,ht,_⟩=>by
  simp_all
 |r+1,j,hj,hnx,hex=>by
  have hjl:j<(turns (Gb B) nd).length:=by omega
  have hN:(turns (Gb B) nd).length<=124:=IW (hg.tu nd hq).le nd;obtain ⟨t,ht⟩:∃t,(turns (Gb B) nd)[j]?=ae t:=⟨_,aC hjl⟩;have hqt:Q t.2:=hg.step nd hq _ (bK.2 ⟨t,aT ht,rfl⟩);have hd:(turns (Gb B) nd).drop j=t::(turns (Gb B) nd).drop (j+1):=by
   grind [b9,aC,aS]
  have htr:nth ((turns (Gb B) nd).map (yx B.k0)) (mM.toN (j:Int))=yx B.k0 t:=IV _ _ ht;obtain ⟨tr,Z8⟩:∃tr,nth ((turns (Gb B) nd).map (yx B.k0))=tr:=⟨_,rfl⟩;rw[Z8] at htr ⊢;refine uT Tryz.f42 tbF ?_;have w1:mM.add .i64 (j:Int) (ab 1)=((j+1:Nat):Int):=add1 (by omega);have no {P:Prop} (h:mM.lt (j:Int) (ab (turns (Gb B) nd).length)=ag):P:=by simp_all [mW]
  have inb:mM.inB (j:Int) (turns (Gb B) nd).length=ah:=by simp[nN];omega
  have hke:VJ 4 (tr (mM.toN (j:Int))).n (tr (mM.toN (j:Int))).g=ah:=by rw[htr];exact hg.ke _ hqt
  have hM:M ((tr (mM.toN (j:Int))).placed,Hz (tr (mM.toN (j:Int))).n (tr (mM.toN (j:Int))).g)=M (qP B.k0 t.2):=by rw[htr];rfl
  have rm:mM.room (mM.addN acc.length 1) 16=ah:=by rw[uK,decide_eq_true_eq,uo];unfold maxLen;omega
  cases hb:mM.AA (M (qP B.k0 t.2)) with
  |true=>
   have nx:=hnx t (by simp_all);refine qg (wP wF _) 300 400 [⟨42,tdF,LF B M c (nd.placed:Nat) B.k0 nd.st acc.length (nth acc) (turns (Gb B) nd).length tr 0,N9 B⟩,⟨42,tdE,LE B M c (t.2.placed:Nat) B.k0 t.2.st (acc++[sZ t.1]).length (nth (acc++[sZ t.1])),N9 B⟩] ?_;refine Y4 mM W7 B hs lv M c _ _ B.k0 B.k0 nd.st t.2.st _ _ (nth acc) _ _ tr _ 0 (c1:=ah) (c2:=ah) rfl (by grind [Ui]) (by simp_all) (fun _=>inb) (fun _=>hke) (fun _ _ _=>rm) (fun _ _ _=>?_) (fun _ _ q=>by cases q) (fun _ q=>by cases q) (fun q=>no q);exact ⟨⟨rfl,rfl,rfl,rfl,rfl,rfl,congrArg Bc.placed htr,congrArg (fun x:Bc=>aj 4 x.n x.g) htr,by rw[aY];rfl,fun i hi=>zL acc (sZ t.1) _ (by rw[htr];rfl) i hi,trivial⟩,_,rfl,nx⟩
  |false=>
   have nx:=aoy wF hg nd hq acc hk r (j+1) (by omega) (fun t' h=>hnx t' (by
    simp_all)) (by
    simp_all)
   rw[Z8] at nx;refine qg (wP wF _) 300 400 [⟨42,tdF,LF B M c (nd.placed:Nat) B.k0 nd.st acc.length (nth acc) (turns (Gb B) nd).length tr ((j+1:Nat):Int),N9 B⟩,⟨42,tdE,LE B M c 0 0 noT 0 (nth []),N9 B⟩] ?_;refine Y4 mM W7 B hs lv M c _ _ B.k0 0 nd.st noT _ _ (nth acc) _ _ tr _ ((j+1:Nat):Int) (c2:=ag) rfl rfl (by simp_all) (fun _=>inb) (fun _=>hke) (fun _ _ _=>rm) (fun _ _ q=>by cases q) (fun _ _ _=>?_) (fun _ _=>?_) (fun q=>no q)
   ·exact ⟨⟨rfl,rfl,rfl,rfl,rfl,w1,rfl,rfl,rfl,rfl,rfl,rfl,fun _ _=>rfl,trivial⟩,_,rfl,nx⟩
   ·exact ⟨⟨rfl,rfl,rfl,rfl,rfl,w1,rfl,rfl,rfl,rfl,rfl,rfl,fun _ _=>rfl,trivial⟩,_,rfl,nx⟩
def ahE(c:Int)(l:List (Int×Bool)):Sh:=.mX [.agg [.b ah,.sl 2 (l.map sZ).length (mO (nth (l.map sZ))),.i .i64 c],.v .nilIface]
def noSh(c:Int):Sh:=.mX [.agg [.b ag,.sl 2 0 (mO (nth ([]:List sO))),.i .i64 c],.v .nilIface]
theorem afF(hN:B.N<=62)(nd:Nd SG):mM.eq ((nd.placed:Nat):Int) (mM.sub .i64 (mM.bin .shl .i64 (ab 1) (mM.nK B.N)) (ab 1))=full (Gb B) nd:=by
 have e:mM.sub .i64 (mM.bin .shl .i64 (ab 1) (mM.nK B.N)) (ab 1)=((2^B.N - 1:Nat):Int):=afA hN;rw[e,nG];unfold full;rw[Bool.eq_iff_iff,beq_iff_eq];show _↔decide (nd.placed=2^(Gb B).n - 1)=ah;rw[decide_eq_true_eq];exact ⟨fun e=>cZ e,fun e=>congrArg ab e⟩
theorem aoz(nd:Nd SG):rk (Gb B) nd<=B.N:=by
 unfold rk;have:=List.countP_le_length (p:=fun i=>nd.placed.testBit i) (l:=aD (Gb B).n);rw[fG] at this;exact this
theorem aoA(wF:nD ai (nJ W7) 23 (RH hs lv B))(hg:Ei B Q){ld:Nd SG->Bool}(hM:∀nd,mM.AA (M (qP B.k0 nd))=ld nd)
  (hl:∀nd,Q nd->ld nd=ah->full (Gb B) nd=ag->∃t∈turns (Gb B) nd,ld t.2=ah) :
  ∀f (nd:Nd SG) (acc:List (Int×Bool)),Q nd->ld nd=ah->B.N<rk (Gb B) nd+f->acc.length+f<=1000->φ (ahE c (acc++least (Gb B) ld f nd))->
  mY ai (C7 mM W7 (qY hs lv B) mZ) (K0 H0 w0) 42 tdE (LE B M c (nd.placed:Nat) B.k0 nd.st (acc.map sZ).length (nth (acc.map sZ))) (N9 B) emp (up φ)
 |0,nd,acc,hq,hld,hf,hk,hφ=>by
  grind [aoz]
 |f+1,nd,acc,hq,hld,hf,hk,hφ=>by
  refine uT Tryz.f42 tbE ?_;have hN:=(hg.tu nd hq).le;have hfu:=afF hN nd;have h0:mM.le (ab 0) (mM.nK B.N)=ah:=by rfl
  refine qg (wP wF _) 300 400 [⟨42,tdF,LF B M c (nd.placed:Nat) B.k0 nd.st (acc.map sZ).length (nth (acc.map sZ)) (turns (Gb B) nd).length (nth ((turns (Gb B) nd).map (yx B.k0))) ((0:Nat):Int),N9 B⟩] ?_;cases hfl:full (Gb B) nd with
  |true=>
   have e:least (Gb B) ld (f+1) nd=[]:=by grind [least]
   rw[e,List.append_nil] at hφ;refine Y3 mM W7 B hs lv M c _ B.k0 nd.st _ (nth (acc.map sZ)) _ _ (c0:=ag) (by rw[hfu,hfl];rfl) h0 (fun q=>by cases q) (fun q=>by cases q) (fun _=>?_);exact nP (s':=ahE c acc) ⟨⟨.inl rfl,.inr ⟨rfl,rfl,fun _ _=>rfl⟩,rfl,trivial⟩,rfl,trivial⟩ hφ
  |false=>
   obtain ⟨t,ht,hlt⟩:=hl nd hq hld hfl;have nx:=aoy (φ:=φ) (c:=c) wF hg nd hq (acc.map sZ) (by grind) (turns (Gb B) nd).length 0 (by omega) (M:=M) (fun x hx=>by
    rw[eP] at hx;have hx1:=List.mem_of_find?_eq_some hx;have hx2:ld x.2=ah:=by grind
    have hn:x.2∈next (Gb B) nd:=bK.2 ⟨x,hx1,rfl⟩;have hr:=YT _ hn;have hx':(turns (Gb B) nd).find? (fun t=>ld t.2)=ae x:=by
     simp_all
    have e:least (Gb B) ld (f+1) nd=x.1::least (Gb B) ld f x.2:=by simp_all [least]
    rw[e] at hφ;have:=aoA wF hg hM hl f x.2 (acc++[x.1]) (hg.step nd hq _ hn) hx2 (by omega) (by simp;omega) (by simp_all);rw[List.map_append] at this;exact this) ⟨t,by assumption,by simp_all⟩
   refine Y3 mM W7 B hs lv M c _ B.k0 nd.st _ (nth (acc.map sZ)) _ _ (c0:=ah) (by rw[hfu,hfl];rfl) h0 (fun _=>RJ hg hq rfl) (fun _=>?_) (fun q=>by cases q);exact ⟨⟨rfl,rfl,rfl,by rw[DC,RN];rfl,by rw[DC];rfl,rfl,rfl,rfl,rfl,rfl,rfl,rfl,fun _ _=>rfl,trivial⟩,_,rfl,nx⟩
theorem aoB(wF:nD ai (nJ W7) 23 (RH hs lv B))(hg:Ei B Q)(nd:Nd SG)(hq:Q nd){m:Nat}{od:Nat->Py}{i:Int}:
  ∀r j (is:Bool),j+r=(turns (Gb B) nd).length->
  mY ai (C7 mM W7 (qY hs lv B) mZ) (K0 H0 w0) 41 VK (LC B m od (Ep (qP B.k0 nd) (ae (.bool (is||((turns (Gb B) nd).drop j).any fun t=>mM.AA (M (qP B.k0 t.2))))) M) c (mM.sub .i64 i (ab 1))) (HY B) emp (up φ)->
  mY ai (C7 mM W7 (qY hs lv B) mZ) (K0 H0 w0) 41 tdD (LD B m od M c i (nd.placed:Nat) B.k0 nd.st is (turns (Gb B) nd).length (nth ((turns (Gb B) nd).map (yx B.k0))) (j:Nat)) (HY B) emp (up φ)
 |0,j,is,hj,nx=>by
  rw[eB (by omega),List.any_nil,Bool.or_false] at nx;refine uT ix tbD ?_;have lt {P:Prop} (h:mM.lt (j:Int) (ab (turns (Gb B) nd).length)=ah):P:=by simp_all [mW]
  refine qg (wP wF _) 300 400 [⟨41,tdD,LD B m od M c i (nd.placed:Nat) B.k0 nd.st is (turns (Gb B) nd).length (nth ((turns (Gb B) nd).map (yx B.k0))) 0,HY B⟩,⟨41,VK,LC B m od (Ep (qP B.k0 nd) (ae (.bool is)) M) c (mM.sub .i64 i (ab 1)),HY B⟩] ?_;exact Y2 mM W7 B hs lv M _ m od c i _ B.k0 nd.st is is _ _ j 0 _ rfl rfl rfl (fun q=>lt q) (fun q=>lt q) (fun _=>hg.ke nd hq) (fun q=>lt q) (fun q=>lt q) (fun q=>lt q)
   (fun _=>⟨⟨rfl,rfl,rfl,rfl,rfl,rfl,fun _ _=>rfl,rfl,rfl,rfl,rfl,rfl,trivial⟩,_,rfl,nx⟩)
 |r+1,j,is,hj,nx=>by
  have hjl:j<(turns (Gb B) nd).length:=by omega
  have hN:(turns (Gb B) nd).length<=124:=IW (hg.tu nd hq).le nd;obtain ⟨t,ht⟩:∃t,(turns (Gb B) nd)[j]?=ae t:=⟨_,aC hjl⟩;have hqt:Q t.2:=hg.step nd hq _ (bK.2 ⟨t,aT ht,rfl⟩);have hd:(turns (Gb B) nd).drop j=t::(turns (Gb B) nd).drop (j+1):=by
   grind [b9,aC,aS]
  rw[hd,List.any_cons,<-Bool.or_assoc] at nx;have nx:=aoB wF hg nd hq r (j+1) (is||mM.AA (M (qP B.k0 t.2))) (by omega) nx;have htr:nth ((turns (Gb B) nd).map (yx B.k0)) (mM.toN (j:Int))=yx B.k0 t:=IV _ _ ht;obtain ⟨tr,Z8⟩:∃tr,nth ((turns (Gb B) nd).map (yx B.k0))=tr:=⟨_,rfl⟩;rw[Z8] at htr nx ⊢;refine uT ix tbD ?_;have w1:mM.add .i64 (j:Int) (ab 1)=((j+1:Nat):Int):=add1 (by omega);have no {P:Prop} (h:mM.lt (j:Int) (ab (turns (Gb B) nd).length)=ag):P:=by simp_all [mW]
  have inb:mM.inB (j:Int) (turns (Gb B) nd).length=ah:=by simp[nN];omega
  have hke:VJ 4 (tr (mM.toN (j:Int))).n (tr (mM.toN (j:Int))).g=ah:=by rw[htr];exact hg.ke _ hqt
  have hM:M ((tr (mM.toN (j:Int))).placed,Hz (tr (mM.toN (j:Int))).n (tr (mM.toN (j:Int))).g)=M (qP B.k0 t.2):=by rw[htr];rfl
  refine qg (wP wF _) 300 400 [⟨41,tdD,LD B m od M c i (nd.placed:Nat) B.k0 nd.st (is||mM.AA (M (qP B.k0 t.2))) (turns (Gb B) nd).length tr ((j+1:Nat):Int),HY B⟩,⟨41,VK,LC B m od M c 0,HY B⟩] ?_;have fin (b:Bool) (hb:b=(is||mM.AA (M (qP B.k0 t.2)))):yc ai (C7 mM W7 (qY hs lv B) mZ) (K0 H0 w0) [⟨41,tdD,LD B m od M c i (nd.placed:Nat) B.k0 nd.st (is||mM.AA (M (qP B.k0 t.2))) (turns (Gb B) nd).length tr ((j+1:Nat):Int),HY B⟩,⟨41,VK,LC B m od M c 0,HY B⟩] emp (up φ) (aH 0 [am 1 1,aF (fun _=>pz B.lv B.N B.T B.N B.ms B.k0 B.g0) fun _=>pz B.lv B.N B.T B.N B.ms B.k0 B.g0,am 0 0,ac i i,gt b (is||mM.AA (M (qP B.k0 t.2))),aw (aj 4 (turns (Gb B) nd).length (mO tr)) (aj 4 (turns (Gb B) nd).length (mO tr)),ac (ab (turns (Gb B) nd).length) (ab (turns (Gb B) nd).length),ac (mM.add .i64 j (ab 1)) ((j+1:Nat):Int),ac (ab 0) (ab 0),am m m,ax m (mO od) (mO od),oM.mg M M,ac c c,ac (nd.placed:Nat) (nd.placed:Nat),aw (aj 4 B.k0 nd.st) (aj 4 B.k0 nd.st),am 1 1,aF (fun _=>pz B.lv B.N B.T B.N B.ms B.k0 B.g0) fun _=>pz B.lv B.N B.T B.N B.ms B.k0 B.g0,am 0 0]):=
   ⟨⟨rfl,rfl,rfl,rfl,hb,rfl,rfl,w1,rfl,rfl,fun _ _=>rfl,rfl,rfl,rfl,rfl,rfl,rfl,rfl,trivial⟩,_,rfl,nx⟩
  refine Y2 mM W7 B hs lv M _ m od c i _ B.k0 nd.st is _ _ tr j ((j+1:Nat):Int) _ rfl rfl rfl (fun _=>inb) (fun _ _=>hke) (fun q=>no q) (fun _ q=>?_) (fun _ q q2=>?_) (fun _ q q2=>?_) (fun q=>no q)
  ·simp_all
  ·simp_all
  grind [qP,Ui]
end
end Go.Proofs
namespace Go.Pl
open Go Go.Sx Go.Proofs Go.Gm Go.Bf
def ndQ(k0:Nat)(nd:Nd SG):MS:=⟨(nd.placed:Nat),4,k0,nd.st⟩
noncomputable def H6(k0:Nat)(nd:Nd SG):PrQ:=⟨(nd.placed:Nat),Hz k0 nd.st⟩
structure QOK(k0:Nat)(o:List (Nd SG))(i at_ q:Nat)(qr:Nat->MS):Prop where
 le:i<=o.length
 len:q=at_+(o.length - i)
 row:∀j nd,o[i+j]?=ae nd->qr (at_+j)=ndQ k0 nd
end Go.Pl
namespace Go.Proofs
open Go Go.Sx Go.Pl Go.Gm Go.Bf
section
variable{H0:Mem}{w0:World}{φ:Sh->Prop}{B:yU}{Q:Nd SG->Prop}{hs:Sh}{lv:Int}{c:Int}
theorem awd{r:Nat}(h:r<=100000):mM.sub .i64 (((r+1:Nat):Int) - 1) (ab 1)=(r:Int) - 1:=by
 have e:mM.sub .i64 (((r+1:Nat):Int) - 1) (ab 1)=az.wrap (((r+1:Nat):Int) - 1 - 1):=rfl;grind [pF]
theorem aoC(wF:nD ai (nJ W7) 23 (RH hs lv B))(hg:Ei B Q)(o:List (Nd SG))(ho:∀x∈o,Q x)(hlen:o.length<=100000)
  (hl:∀nd,Q nd->PG (Gb B) (qP B.k0) o nd=ah->full (Gb B) nd=ag->∃t∈turns (Gb B) nd,PG (Gb B) (qP B.k0) o t.2=ah)
  (hy:Kr (Gb B) (qP B.k0) B.g0 o=ah->φ (ahE c (BO (Gb B) (qP B.k0) B.g0 o))) (hn:Kr (Gb B) (qP B.k0) B.g0 o=ag->φ (noSh c)) :
  ∀r (M:Int×List UInt8->Option Value),r<=o.length->(∀k,mM.AA (M k)=zk (qP B.k0) (next (Gb B)) (full (Gb B)) (o.drop r) k)->
  mY ai (C7 mM W7 (qY hs lv B) mZ) (K0 H0 w0) 41 VK (LC B o.length (nth (o.map (Az B.k0))) M c ((r:Nat) - 1:Int)) (HY B) emp (up φ)
 |0,M,hr,hM=>by
  refine uT ix tbC ?_;rw[eP] at hM;have ge {P:Prop} (h:mM.le (ab 0) (((0:Nat):Int) - 1)=ah):P:=by simp[tN] at h
  have hN:=(hg.tu _ hg.start).le;have hK:M (ab 0,Hz B.k0 B.g0)=M (qP B.k0 ⟨0,B.g0⟩):=rfl;refine qg (wP wF _) 300 400 [⟨41,tdD,LD B o.length (nth (o.map (Az B.k0))) M c (((0:Nat):Int) - 1) 0 0 noT ag 0 (nth []) 0,HY B⟩,⟨42,tdE,LE B M c 0 B.k0 B.g0 0 (nth []),N9 B⟩] ?_;refine Y1 mM W7 B hs lv M _ _ c _ 0 0 noT ag 0 (nth []) (nth []) rfl rfl rfl (fun q=>ge q) (fun q=>ge q) (fun q=>ge q) (fun _=>hg.ke _ hg.start) (fun q=>ge q) (fun _ _ q=>?_) (fun _ _ q=>?_) (fun _ q=>?_)
  ·have hld:Kr (Gb B) (qP B.k0) B.g0 o=ah:=by
    rw[hK,hM] at q;exact q
   have hφ:=hy hld;have e:BO (Gb B) (qP B.k0) B.g0 o=least (Gb B) (PG (Gb B) (qP B.k0) o) ((Gb B).n+1) (bT B.g0):=if_pos hld;rw[e] at hφ;have nx:=aoA (H0:=H0) (w0:=w0) (φ:=φ) (c:=c) (M:=M) wF hg (ld:=PG (Gb B) (qP B.k0) o) (fun nd=>hM _) hl ((Gb B).n+1) (bT B.g0) [] hg.start hld (by have:(Gb B).n=B.N:=rfl;omega) (by have:(Gb B).n=B.N:=rfl;simp;omega) (by assumption);exact ⟨⟨rfl,rfl,rfl,rfl,rfl,rfl,rfl,rfl,rfl,trivial⟩,_,rfl,nx⟩
  ·refine nP (s':=noSh c) ⟨⟨.inl rfl,.inl ⟨rfl,rfl⟩,rfl,trivial⟩,rfl,trivial⟩ (hn ?_)
   rw[hK,hM] at q;exact q
  ·refine nP (s':=noSh c) ⟨⟨.inl rfl,.inl ⟨rfl,rfl⟩,rfl,trivial⟩,rfl,trivial⟩ (hn ?_)
   have q2:mM.AA (M (qP B.k0 ⟨0,B.g0⟩))=ag:=by
    grind [qP,Ui]
   rw[hM] at q2;exact q2
 |r+1,M,hr,hM=>by
  obtain ⟨nd,hnd⟩:∃nd,o[r]?=ae nd:=⟨_,aC (by omega)⟩;have hq:Q nd:=ho nd (aT hnd);have hN:=(hg.tu nd hq).le;have hd:o.drop r=nd::o.drop (r+1):=by
   grind [b9,aC,aS]
  have hi:mM.toN (((r+1:Nat):Int) - 1)=r:=by rw[oZ];omega
  have hod:nth (o.map (Az B.k0)) (mM.toN (((r+1:Nat):Int) - 1))=Az B.k0 nd:=by simp_all [IV]
  have nx:=aoC wF hg o ho hlen hl hy hn r (Ep (qP B.k0 nd) (ae (.bool (full (Gb B) nd||((turns (Gb B) nd).drop 0).any fun t=>mM.AA (M (qP B.k0 t.2))))) M) (by omega) (fun k=>by
   have e:(next (Gb B) nd).any (fun t=>zk (qP B.k0) (next (Gb B)) (full (Gb B)) (o.drop (r+1)) (qP B.k0 t))=((turns (Gb B) nd).drop 0).any fun t=>mM.AA (M (qP B.k0 t.2)):=by
    grind [next,List.any_map]
   rw[hd,zk,e];unfold Ep;by_cases h:k=qP B.k0 nd
   ·rw[if_pos h,if_pos h.symm];rfl
   grind)
  refine uT ix tbC ?_;obtain ⟨od,awe⟩:∃od,nth (o.map (Az B.k0))=od:=⟨_,rfl⟩;rw[awe] at hod nx ⊢;have lt {P:Prop} (h:mM.le (ab 0) (((r+1:Nat):Int) - 1)=ag):P:=by simp_all [tN]
  have hD:=aoB (H0:=H0) (w0:=w0) (φ:=φ) (c:=c) (M:=M) (m:=o.length) (od:=od) (i:=((r+1:Nat):Int) - 1) wF hg nd hq (turns (Gb B) nd).length 0 (full (Gb B) nd) (by omega) (by grind [awd]);refine qg (wP wF _) 300 400 [⟨41,tdD,LD B o.length od M c (((r+1:Nat):Int) - 1) (nd.placed:Nat) B.k0 nd.st (full (Gb B) nd) (turns (Gb B) nd).length (nth ((turns (Gb B) nd).map (yx B.k0))) ((0:Nat):Int),HY B⟩,⟨42,tdE,LE B M c 0 B.k0 B.g0 0 (nth []),N9 B⟩] ?_;refine Y1 mM W7 B hs lv M _ od c _ _ _ _ _ _ _ (nth []) rfl rfl rfl (fun _=>by grind [nN]) (fun _=>by rfl) (fun _=>by rw[hod];exact RJ hg hq rfl) (fun q=>lt q) (fun _=>?_) (fun q=>lt q) (fun q=>lt q) (fun q=>lt q);exact ⟨⟨rfl,rfl,rfl,rfl,by rw[hod];exact afF hN nd,by rw[hod];show aj 4 (Hy B.lv B.N (mO B.T) (mO B.ms) (nd.placed:Nat) B.k0 nd.st) (mO (YW B.lv B.N (mO B.T) (mO B.ms) (nd.placed:Nat) B.k0 nd.st))=_;rw[DC,RN],by rw[hod];show ((Hy B.lv B.N (mO B.T) (mO B.ms) (nd.placed:Nat) B.k0 nd.st:Nat):Int)=_;rw[DC];rfl,rfl,rfl,rfl,fun _ _=>rfl,rfl,rfl,by rw[hod];rfl,by rw[hod];rfl,rfl,rfl,rfl,trivial⟩,_,rfl,hD⟩
def acQ:Sh:=.mX [.agg [.b ag,.sl 2 0 (fun _=>[]),.i .i64 0],.er 0 288]
theorem getM{o:List (Nd SG)}{k:Int×List UInt8}{k0:Nat}{v:Value}{nd:Nd SG}{M:Int×List UInt8->Option Value}(hM:∀k,mM.isS (M k)=BN (qP k0) o k):
  ∀k,mM.isS (Ep (qP k0 nd) (ae v) M k)=BN (qP k0) (o++[nd]) k:=fun k=>by
 unfold Ep;by_cases h:k=qP k0 nd
 ·rw[if_pos h]
  have:BN (qP k0) (o++[nd]) k=ah:=FW.2 ⟨nd,by simp,h.symm⟩;rw[this];rfl
 ·rw[if_neg h,hM k]
  unfold BN;grind
theorem aoD{k0:Nat}{o:List (Nd SG)}{i at_ q:Nat}{qr:Nat->MS}{nd:Nd SG}(h:QOK k0 o i at_ q qr):QOK k0 (o++[nd]) i at_ (q+1) (fun j=>if j<q then qr j else ndQ k0 nd):=by
 obtain ⟨h1,h2,h3⟩:=h;refine ⟨by grind,by grind,fun j x hx=>?_⟩;grind
theorem aoE(wF:nD ai (nJ W7) 23 (RH hs lv B))(hg:Ei B Q)(nd:Nd SG)(hq:Q nd){m:Nat}(hm:m<=65536){i:Nat}
  {P:List (Nd SG)->Prop} (hA:∀(o':List (Nd SG)) (M:Int×List UInt8->Option Value) (at_ q:Nat) (qr:Nat->MS),P o'->QOK B.k0 o' i at_ q qr->q<=100000+o'.length->o'.length<=m->(∀k,mM.isS (M k)=BN (qP B.k0) o' k)->
   mY ai (C7 mM W7 (qY hs lv B) mZ) (K0 H0 w0) 20 Z7 (LA B (m:Nat) M o'.length (nth (o'.map (H6 B.k0))) (at_:Nat) q qr o'.length (nth (o'.map (Az B.k0)))) [] emp (up φ)) :
  ∀r j (o:List (Nd SG)) (M:Int×List UInt8->Option Value) (at_ q:Nat) (qr:Nat->MS),j+r=(turns (Gb B) nd).length->QOK B.k0 o i at_ q qr->q<=100000+o.length->o.length<=m->(∀k,mM.isS (M k)=BN (qP B.k0) o k)->
   (∀o',wC (qP B.k0) m o (((turns (Gb B) nd).drop j).map (·.2))=ae o'->P o')->(wC (qP B.k0) m o (((turns (Gb B) nd).drop j).map (·.2))=ao->φ acQ)->
   mY ai (C7 mM W7 (qY hs lv B) mZ) (K0 H0 w0) 20 Y0 (LB B (m:Nat) M o.length (nth (o.map (H6 B.k0))) (at_:Nat) q qr o.length (nth (o.map (Az B.k0))) (turns (Gb B) nd).length (nth ((turns (Gb B) nd).map (yx B.k0))) (j:Nat)) [] emp (up φ)
 |0,j,o,M,at_,q,qr,hj,hQ,hq2,hlo,hM,hP,_=>by
  have hP:=hP o (by rw[eB (by omega)];rfl);have nx:=hA o M at_ q qr hP hQ hq2 hlo hM;refine uT gB tbB ?_;have lt {P:Prop} (h:mM.lt (j:Int) (ab (turns (Gb B) nd).length)=ah):P:=by simp_all [mW]
  refine qg (wP wF _) 300 400 [⟨20,Y0,LB B (m:Nat) M 0 (nth []) (at_:Nat) 0 (fun _=>default) 0 (nth []) (turns (Gb B) nd).length (nth ((turns (Gb B) nd).map (yx B.k0))) 0,[]⟩,⟨20,Z7,LA B (m:Nat) M o.length (nth (o.map (H6 B.k0))) (at_:Nat) q qr o.length (nth (o.map (Az B.k0))),[]⟩] ?_;exact JX mM W7 B hs lv _ M M _ 0 _ (nth []) _ q 0 qr _ _ 0 _ (nth []) _ _ j 0 rfl rfl rfl (fun q=>lt q) (fun q=>lt q) (fun q=>lt q) (fun q=>lt q) (fun q=>lt q) (fun q=>lt q) (fun q=>lt q) (fun q=>lt q)
   (fun _=>⟨⟨rfl,rfl,rfl,rfl,rfl,rfl,rfl,rfl,rfl,fun _ _=>rfl,rfl,fun _ _=>rfl,rfl,fun _ _=>rfl,trivial⟩,_,rfl,nx⟩)
 |r+1,j,o,M,at_,q,qr,hj,hQ,hq2,hlo,hM,hP,ajg=>by
  have hjl:j<(turns (Gb B) nd).length:=by omega
  have hN:(turns (Gb B) nd).length<=124:=IW (hg.tu nd hq).le nd;obtain ⟨t,ht⟩:∃t,(turns (Gb B) nd)[j]?=ae t:=⟨_,aC hjl⟩;have hqt:Q t.2:=hg.step nd hq _ (bK.2 ⟨t,aT ht,rfl⟩);have hd:(turns (Gb B) nd).drop j=t::(turns (Gb B) nd).drop (j+1):=by
   grind [b9,aC,aS]
  rw[hd,dF] at hP ajg;have ih:=fun o' M' q' RI (h1:yT (qP B.k0) m o t.2=ae o')=>aoE wF hg nd hq hm hA r (j+1) o' M' at_ q' RI (by omega);refine uT gB tbB ?_;have htr:nth ((turns (Gb B) nd).map (yx B.k0)) (mM.toN (j:Int))=yx B.k0 t:=IV _ _ ht;obtain ⟨tr,Z8⟩:∃tr,nth ((turns (Gb B) nd).map (yx B.k0))=tr:=⟨_,rfl⟩;rw[Z8] at htr ih ⊢;have w1:mM.add .i64 (j:Int) (ab 1)=((j+1:Nat):Int):=add1 (by omega);have no {P:Prop} (h:mM.lt (j:Int) (ab (turns (Gb B) nd).length)=ag):P:=by simp_all [mW]
  have inb:mM.inB (j:Int) (turns (Gb B) nd).length=ah:=by simp[nN];omega
  have hke:VJ 4 (tr (mM.toN (j:Int))).n (tr (mM.toN (j:Int))).g=ah:=by rw[htr];exact hg.ke _ hqt
  have hMt:M ((tr (mM.toN (j:Int))).placed,Hz (tr (mM.toN (j:Int))).n (tr (mM.toN (j:Int))).g)=M (qP B.k0 t.2):=by rw[htr];rfl
  have rmo:mM.room (mM.addN o.length 1) 32=ah:=by rw[uK,decide_eq_true_eq,uo];unfold maxLen;omega
  have rmc:mM.room (mM.addN o.length 1) 24=ah:=by grind [uK]
  have rmq:mM.room (mM.addN q 1) 32=ah:=by rw[uK,decide_eq_true_eq,uo];unfold maxLen;omega
  cases hb:BN (qP B.k0) o (qP B.k0 t.2) with
  |true=>
   have hpb:yT (qP B.k0) m o t.2=ae o:=if_pos hb;have nx:=ih o M q qr hpb hQ hq2 hlo hM (fun o' h=>hP o' (by simp_all [wC])) (fun h=>ajg (by simp_all [wC]));refine qg (wP wF _) 300 400 [⟨20,Y0,LB B (m:Nat) M o.length (nth (o.map (H6 B.k0))) (at_:Nat) q qr o.length (nth (o.map (Az B.k0))) (turns (Gb B) nd).length tr ((j+1:Nat):Int),[]⟩,⟨20,Z7,LA B (m:Nat) M o.length (nth (o.map (H6 B.k0))) (at_:Nat) q qr o.length (nth (o.map (Az B.k0))),[]⟩] ?_;exact JX mM W7 B hs lv _ M M _ _ _ (nth (o.map (H6 B.k0))) _ q q qr qr _ _ _ (nth (o.map (Az B.k0))) _ tr j ((j+1:Nat):Int) (c1:=ah) rfl (by grind) rfl (fun _=>inb) (fun _=>hke) (fun _ q=>by cases q) (fun _ q=>by cases q) (fun _ q=>by cases q)
    (fun _ _=>⟨⟨rfl,rfl,rfl,rfl,rfl,rfl,w1,rfl,rfl,rfl,rfl,rfl,fun _ _=>rfl,rfl,fun _ _=>rfl,rfl,fun _ _=>rfl,trivial⟩,_,rfl,nx⟩) (fun _ q=>by cases q) (fun _ q=>by cases q) (fun q=>no q)
  |false=>
   have hc:mM.eq (mM.nK o.length) ((m:Nat):Int)=decide (o.length=m):=by
    grind [nG,ny,decide_eq_true,decide_eq_false,beq_eq_false_iff_ne,cZ]
   by_cases hml:o.length=m
   ·refine qg (wP wF _) 300 400 [⟨20,Y0,LB B (m:Nat) M o.length (nth (o.map (H6 B.k0))) (at_:Nat) q qr o.length (nth (o.map (Az B.k0))) (turns (Gb B) nd).length tr ((j+1:Nat):Int),[]⟩,⟨20,Z7,LA B (m:Nat) M o.length (nth (o.map (H6 B.k0))) (at_:Nat) q qr o.length (nth (o.map (Az B.k0))),[]⟩] ?_
    exact JX mM W7 B hs lv _ M M _ _ _ (nth (o.map (H6 B.k0))) _ q q qr qr _ _ _ (nth (o.map (Az B.k0))) _ tr j ((j+1:Nat):Int) (c1:=ag) (c2:=ah) rfl (by simp_all) (by simp_all) (fun _=>inb) (fun _=>hke) (fun _ _ q=>by cases q) (fun _ _ q=>by cases q) (fun _ _ q=>by cases q)
     (fun _ q=>by cases q) (fun _ _ _=>nP (s':=acQ) ⟨⟨.inl rfl,.inl ⟨rfl,rfl⟩,rfl,trivial⟩,rfl,trivial⟩ (ajg (by simp_all [wC,yT]))) (fun _ _ q=>by cases q) (fun q=>no q)
   ·have hpb:yT (qP B.k0) m o t.2=ae (o++[t.2]):=by
     grind [yT]
    have nx:=ih (o++[t.2]) (Ep (qP B.k0 t.2) (ae (.int .i64 (mM.nK o.length))) M) (q+1) (fun j=>if j<q then qr j else ndQ B.k0 t.2) hpb (aoD hQ) (by grind) (by grind) (getM (k:=qP B.k0 t.2) hM) (fun o' h=>hP o' (by simp_all [wC])) (fun h=>ajg (by simp_all [wC]));refine qg (wP wF _) 300 400 [⟨20,Y0,LB B (m:Nat) (Ep (qP B.k0 t.2) (ae (.int .i64 (mM.nK o.length))) M) (o++[t.2]).length (nth ((o++[t.2]).map (H6 B.k0))) (at_:Nat) (q+1) (fun j=>if j<q then qr j else ndQ B.k0 t.2) (o++[t.2]).length (nth ((o++[t.2]).map (Az B.k0))) (turns (Gb B) nd).length tr ((j+1:Nat):Int),[]⟩,⟨20,Z7,LA B (m:Nat) M o.length (nth (o.map (H6 B.k0))) (at_:Nat) q qr o.length (nth (o.map (Az B.k0))),[]⟩] ?_;refine JX mM W7 B hs lv _ M _ _ _ _ _ _ q _ qr _ _ _ (nth (o.map (Az B.k0))) _ _ tr j ((j+1:Nat):Int) (c1:=ag) (c2:=ag) rfl (by grind) (by grind) (fun _=>inb) (fun _=>hke) (fun _ _ _=>rmc) (fun _ _ _=>rmq) (fun _ _ _=>rmo)
     (fun _ q=>by cases q) (fun _ _ q=>by cases q) (fun _ _ _=>?_) (fun q=>no q)
    have arQ:(o++[t.2]).length=mM.addN o.length 1:=by rw[aY];rfl
    refine ⟨⟨rfl,rfl,rfl,rfl,rfl,rfl,w1,rfl,?_,rfl,rfl,arQ.symm,fun i hi=>?_,rfl,fun i hi=>?_,arQ.symm,fun i hi=>?_,trivial⟩,_,rfl,nx⟩
    ·show Ep ((tr (mM.toN (j:Int))).placed,Hz (tr (mM.toN (j:Int))).n (tr (mM.toN (j:Int))).g) _ M=_
     rw[htr];rfl
    ·have:=zL (o.map (H6 B.k0)) (H6 B.k0 t.2) [av .i64 (tr (mM.toN (j:Int))).placed,Sh.str (Hz (tr (mM.toN (j:Int))).n (tr (mM.toN (j:Int))).g)] (by rw[htr];rfl) i (by grind)
     grind
    ·rw[rH]
     show _=Row.put (if i<q then qr i else ndQ B.k0 t.2);split
     ·rfl
     ·have:i - q=0:=by have:i<q+1:=hi;omega
      rw[this,htr];rfl
    ·have:=zL (o.map (Az B.k0)) (Az B.k0 t.2) [av .i64 (tr (mM.toN (j:Int))).placed,aj 4 (tr (mM.toN (j:Int))).n (tr (mM.toN (j:Int))).g] (by rw[htr];rfl) i (by grind)
     grind
theorem loopA(wF:nD ai (nJ W7) 23 (RH hs lv B))(hg:Ei B Q){m:Nat}(hm:m<=65536)
  (hC:∀o:List (Nd SG),uH (Gb B) (qP B.k0) B.g0 m=ae o->mY ai (C7 mM W7 (qY hs lv B) mZ) (K0 H0 w0) 41 VK (LC B o.length (nth (o.map (Az B.k0))) (fun _=>ao) (o.length:Nat) (mM.sub .i64 (mM.nK o.length) (ab 1))) (HY B) emp (up φ)) :
  ∀f i (o:List (Nd SG)) (M:Int×List UInt8->Option Value) (at_ q:Nat) (qr:Nat->MS),m<i+f->(∀x∈o,Q x)->QOK B.k0 o i at_ q qr->q<=100000+o.length->o.length<=m->(∀k,mM.isS (M k)=BN (qP B.k0) o k)->
   (∀r,EJ (qP B.k0) (next (Gb B)) m f o i=ae r->uH (Gb B) (qP B.k0) B.g0 m=ae r)->(EJ (qP B.k0) (next (Gb B)) m f o i=ao->φ acQ)->
   mY ai (C7 mM W7 (qY hs lv B) mZ) (K0 H0 w0) 20 Z7 (LA B (m:Nat) M o.length (nth (o.map (H6 B.k0))) (at_:Nat) q qr o.length (nth (o.map (Az B.k0)))) [] emp (up φ)
 |f,i,o,M,at_,q,qr,hf,ho,hQ,hq2,hlo,hM,hr,hr0=>by
  refine uT gB tbA ?_;have hil:=hQ.le;have hql:=hQ.len;by_cases hi:i=o.length
  ·
   have hb:EJ (qP B.k0) (next (Gb B)) m f o i=ae o:=by
    cases f with
    |zero=>rfl |succ f=>
     grind [EJ,List.getElem?_eq_none]
   have hp:=hr o hb;have nx:=hC o hp;have hat:mM.eq (at_:Int) (mM.nK q)=ah:=by
    simp_all [nG,ny]
   refine qg (wP wF _) 300 400 [⟨20,Y0,LB B (m:Nat) M o.length (nth (o.map (H6 B.k0))) 0 0 (fun _=>default) o.length (nth (o.map (Az B.k0))) 0 (nth []) 0,[]⟩,⟨41,VK,LC B o.length (nth (o.map (Az B.k0))) (fun _=>ao) (o.length:Nat) (mM.sub .i64 (mM.nK o.length) (ab 1)),HY B⟩] ?_;exact PL mM W7 B hs lv _ M _ (nth (o.map (H6 B.k0))) _ q qr _ (nth (o.map (Az B.k0))) 0 0 (fun _=>default) 0 (nth []) _ _ _ (c0:=ah) hat rfl rfl (fun q=>by cases q) (fun q=>by cases q) (fun q=>by cases q)
    (fun _=>⟨⟨rfl,rfl,rfl,rfl,rfl,rfl,fun _ _=>rfl,rfl,rfl,rfl,rfl,rfl,trivial⟩,_,rfl,nx⟩) (fun q=>by cases q) (fun q=>by cases q) (fun q=>by cases q) (fun q=>by cases q)
  ·obtain ⟨nd,hnd⟩:∃nd,o[i]?=ae nd:=⟨_,aC (by omega)⟩
   have hq:Q nd:=ho nd (aT hnd);have hrow:=hQ.row 0 nd hnd;rw[Nat.add_zero] at hrow;have hqr:qr (mM.toN (at_:Int))=ndQ B.k0 nd:=hrow;cases f with
   |zero=>omega |succ f=>
    rw[EJ,hnd] at hr hr0;have hN:=(hg.tu nd hq).le;have inb:mM.inB (at_:Int) q=ah:=by grind [nN]
    have ne:mM.eq (at_:Int) (mM.nK q)=ag:=by
     grind [nG,ny,beq_eq_false_iff_ne,cZ]
    have w1:mM.add .i64 (at_:Int) (ab 1)=((at_+1:Nat):Int):=by
     show az.wrap ((at_:Int)+1)=_;grind [pF]
    have htu:YV B.lv B.N (mO B.T) B.N (mO B.ms) (qr (mM.toN (at_:Int))).placed (qr (mM.toN (at_:Int))).st (qr (mM.toN (at_:Int))).n (qr (mM.toN (at_:Int))).g=ah:=by
     rw[hqr];exact RJ hg hq rfl
    have e1:aj 4 (Hy B.lv B.N (mO B.T) (mO B.ms) (qr (mM.toN (at_:Int))).placed (qr (mM.toN (at_:Int))).n (qr (mM.toN (at_:Int))).g) (mO (YW B.lv B.N (mO B.T) (mO B.ms) (qr (mM.toN (at_:Int))).placed (qr (mM.toN (at_:Int))).n (qr (mM.toN (at_:Int))).g))=aj 4 (turns (Gb B) nd).length (mO (nth ((turns (Gb B) nd).map (yx B.k0)))):=by
     rw[hqr];show aj 4 (Hy B.lv B.N (mO B.T) (mO B.ms) (nd.placed:Nat) B.k0 nd.st) (mO (YW B.lv B.N (mO B.T) (mO B.ms) (nd.placed:Nat) B.k0 nd.st))=_;rw[DC,RN]
    have e2:mM.nK (Hy B.lv B.N (mO B.T) (mO B.ms) (qr (mM.toN (at_:Int))).placed (qr (mM.toN (at_:Int))).n (qr (mM.toN (at_:Int))).g)=ab (turns (Gb B) nd).length:=by
     rw[hqr];show mM.nK (Hy B.lv B.N (mO B.T) (mO B.ms) (nd.placed:Nat) B.k0 nd.st)=_;rw[DC];rfl
    have hLB:=fun (at' q':Nat) (RI:Nat->MS) (h:QOK B.k0 o (i+1) at' q' RI) (h2:q'<=100000+o.length)=>
     aoE (H0:=H0) (w0:=w0) (φ:=φ) wF hg nd hq hm (i:=i+1) (P:=fun o'=>(∀x∈o',Q x)/\(∀r,EJ (qP B.k0) (next (Gb B)) m f o' (i+1)=ae r->uH (Gb B) (qP B.k0) B.g0 m=ae r)/\(EJ (qP B.k0) (next (Gb B)) m f o' (i+1)=ao->φ acQ))
      (fun o' M' awg q'' awh hP hQ' hq' awi hM'=>loopA wF hg hm hC f (i+1) o' M' awg q'' awh (by omega) hP.1 hQ' hq' awi hM' hP.2.1 hP.2.2)
      (turns (Gb B) nd).length 0 o M at' q' RI (by omega) h h2 hlo hM (fun o' h=>by
       rw[eP] at h;have h:wC (qP B.k0) m o (next (Gb B) nd)=ae o':=h;(refine ⟨NJ h ho (hg.step nd hq),fun r hb=>hr r ?_,fun hb=>hr0 ?_⟩)<;>simp_all) (fun h=>hr0 (by
       simp_all [eP,next,Gb]))
    by_cases hlast:at_+1=q
    ·have hc1:mM.eq (mM.add .i64 (at_:Int) (ab 1)) (mM.nK q)=ah:=by grind [nG,ny]
     have nx:=hLB 0 0 (fun _=>default) ⟨by omega,by omega,fun j x hx=>by simp_all⟩ (by omega);refine qg (wP wF _) 300 400 [⟨20,Y0,LB B (m:Nat) M o.length (nth (o.map (H6 B.k0))) ((0:Nat):Int) 0 (fun _=>default) o.length (nth (o.map (Az B.k0))) (turns (Gb B) nd).length (nth ((turns (Gb B) nd).map (yx B.k0))) ((0:Nat):Int),[]⟩,⟨41,VK,LC B o.length (nth (o.map (Az B.k0))) (fun _=>ao) (o.length:Nat) 0,HY B⟩] ?_;exact PL mM W7 B hs lv _ M _ (nth (o.map (H6 B.k0))) _ q qr _ (nth (o.map (Az B.k0))) _ 0 (fun _=>default) _ _ _ _ _ (c0:=ag) (c1:=ah) ne hc1 rfl (fun _=>inb) (fun _ _ _=>htu) (fun _ q=>by cases q)
      (fun q=>by cases q) (fun _ _ q=>by cases q) (fun _ _ _=>⟨⟨rfl,rfl,rfl,rfl,e1,e2,rfl,rfl,rfl,rfl,rfl,rfl,fun _ _=>rfl,rfl,rfl,fun _ _=>rfl,trivial⟩,_,rfl,nx⟩) (fun _ q=>by cases q) (fun _ q=>by cases q)
    ·have hc1:mM.eq (mM.add .i64 (at_:Int) (ab 1)) (mM.nK q)=ag:=by
      grind [nG,ny,beq_eq_false_iff_ne,cZ]
     have nx:=hLB (at_+1) q (fun j=>if j=at_ then ⟨0,0,0,fun _=>[]⟩ else qr j) ⟨by omega,by omega,fun j x hx=>by
      show (if at_+1+j=at_ then _ else qr (at_+1+j))=_;rw[if_neg (by omega)];have:=hQ.row (j+1) x (by grind);grind⟩ hq2
     refine qg (wP wF _) 300 400 [⟨20,Y0,LB B (m:Nat) M o.length (nth (o.map (H6 B.k0))) ((at_+1:Nat):Int) q (fun j=>if j=at_ then ⟨0,0,0,fun _=>[]⟩ else qr j) o.length (nth (o.map (Az B.k0))) (turns (Gb B) nd).length (nth ((turns (Gb B) nd).map (yx B.k0))) ((0:Nat):Int),[]⟩,⟨41,VK,LC B o.length (nth (o.map (Az B.k0))) (fun _=>ao) (o.length:Nat) 0,HY B⟩] ?_;refine PL mM W7 B hs lv _ M _ (nth (o.map (H6 B.k0))) _ q qr _ (nth (o.map (Az B.k0))) _ q _ _ _ _ _ _ (c0:=ag) (c1:=ag) ne hc1 rfl (fun _=>inb) (fun _ q=>by cases q) (fun _ _ _=>htu)
      (fun q=>by cases q) (fun _ q=>by cases q) (fun _ q=>by cases q) (fun _ _ q=>by cases q) (fun _ _ _=>⟨⟨rfl,rfl,rfl,rfl,e1,e2,rfl,rfl,rfl,rfl,w1,rfl,fun _ _=>rfl,rfl,fun j hj=>?_,rfl,fun _ _=>rfl,trivial⟩,_,rfl,nx⟩)
     show (if j=at_ then (mO qr j).take 0++[av .i64 (ab 0),aj 0 0 fun _=>[]]++(mO qr j).drop (0+2) else mO qr j)=Row.put (if j=at_ then (⟨0,0,0,fun _=>[]⟩:MS) else qr j);split
     ·rfl
     ·rfl
end
end Go.Proofs
namespace Go.Pl
open Go Go.Sx Go.Proofs
structure H7 where
 okb:Bool
 PK:Bool
 pos:Int
 e:Nat
 n:Nat
 T:Nat->pO
noncomputable def IX(s h:Sh):Bool:=@decide (s=h) (ay _)
def F9(st lv:Int):Bool:=if lv=1\/lv=2 then st==3||st==2 else lv==3
def FX(en bg:Int):Bool:=decide (0<=en)&&decide (en<bg)
def yA(lv:Int)(n:Nat)(T:Nat->pO):List pO:=((aD n).map T).filter fun t=>F9 t.st lv
def GL(lv bg:Int):Nat->List pO->Nat->Nat
 |_,[],m=>m |i,a::l,m=>GL lv bg (i+1) l (if lv≠1/\FX a.en bg=ah then m|||1<<<i else m)
def zn(lv:Int)(l:List pO)(k:Nat):Int:=(GL lv (nth l k).bg 0 l 0:Nat)
noncomputable def mkP(lv:Int)(n:Nat)(T:Nat->List Sh):Bool:=okB pO n T&&(decide (1<=lv)&&(decide (lv<=3)&&decide (n<=62)))
def mkN(lv:Int)(n:Nat)(T:Nat->List Sh):Nat:=(yA lv n (mP T)).length
def mkR(lv:Int)(n:Nat)(T:Nat->List Sh):Nat->Int:=zn lv (yA lv n (mP T))
def nwB(n:Nat)(g:Nat->List Sh):Bool:=okB Oj n g&&(JA n (mP g)&&(!LW n&&FM n (mP g)))
def wQ(g:Nat->List Sh):Nat->List Sh:=pY (newT (mP g))
end Go.Pl
namespace Go.Proofs
open Go Go.Sx Go.Pl
noncomputable def D20(hs:Sh)(B:H7):List Sh->Tree Sh
 |[s]=>.need (IX s hs) (.node B.okb (.leaf (.mX [.sl 7 B.n (mO B.T),.v .nilIface]))
   (.node B.PK (.leaf (.mX [.sl 0 0 (fun _=>[]),.qK 90 (.pt [.i .i64 B.pos,.er B.e 288])])) (.leaf (.mX [.sl 0 0 (fun _=>[]),.er B.e 288]))))
 |_=>.fail
noncomputable def Y5:List Sh->Tree Sh
 |[.agg l,t]=>match Row.get (α:=pO) l,nO t with
  |some x,ae lv=>.leaf (.b (F9 x.st lv)) |_,_=>.fail
 |_=>.fail
noncomputable def Z9:List Sh->Tree Sh
 |[.agg l,.agg r]=>match Row.get (α:=pO) l,Row.get (α:=pO) r with
  |some x,ae y=>.leaf (.b (FX x.en y.bg)) |_,_=>.fail
 |_=>.fail
noncomputable def D74:List Sh->Tree Sh
 |[s,t]=>match qp 7 s,nO t with
  |some (n,T),ae lv=>.need (mkP lv n T) (.leaf (.mX [.sl 1 (mkN lv n T) (mO (mkR lv n T)),.v .nilIface])) |_,_=>.fail
 |_=>.fail
noncomputable def D75:List Sh->Tree Sh
 |[s]=>match qp 2 s with
  |some (n,g)=>.need (nwB n g) (.leaf (.mX [.agg [.sl 4 n (wQ g)],.v .nilIface])) |none=>.fail
 |_=>.fail
noncomputable def JY(hs:Sh)(B:H7):Nat->Option (List Sh->Tree Sh)
 |43=>ae (D20 hs B) |44=>ae Y5 |45=>ae D74 |46=>ae D75 |_=>ao
noncomputable def zM:Nat->Option (List Sh->Tree Sh)
 |44=>ae Y5 |61=>ae Z9 |_=>ao
def Vq:List It:=[aA [0,1,0,1,1,1,1,1],aM 0,aA [1,1,1,1,1,1]]
def aoF:List It:=aA [0,0,1,0,1,1,1,1,1]::Vq
def Vr(o m:Nat)(og mg:Nat->List Sh)(lv:Int)(n:Nat)(T:Nat->pO)(c:Nat)(cr:Nat->pO)(i:Int):Core:=
 {tm:=sK 71 [(1,.sym .i64 lv),(2,.ptr 0 0),(6,.sh (.sl 7 n (mO T))),(8,.ptr 1 0),(26,.sh (.sl 7 n (mO T))),(27,.sym .i64 (n:Int)),(28,.sym .i64 i)],hp:=[(0,.box [.sh (.sl 2 o og),.sh (.sl 8 m mg)] 25),(1,.box [.sym .i64 lv,.gs 2,.nS,.nS] 83),(2,.own 106 7 c (mO cr))],nx:=3,lim:=L0,tc:=[]}
def Vs:List It:=[aA [0,1,0,1,1,1],aM 0,aA [1,1,1,1]]
def aoG:List It:=aA [0,0,1,0,1,1,1]::Vs
def Vt(lv:Int)(n:Nat)(T:Nat->pO)(c:Nat)(cr:Nat->pO)(i:Int):Core:=
 {tm:=sK 74 [(1,.sym .i64 lv),(6,.gs 0),(21,.sh (.sl 7 n (mO T))),(22,.sym .i64 (n:Int)),(23,.sym .i64 i)],hp:=[(0,.own 106 7 c (mO cr))],nx:=1,lim:=L0,tc:=[]}
def Ej:List It:=[aA [0,1,0,1,1,1,1,1,1],aM 2,aA [1,1,1,1,1,1,1]]
def ahH:List It:=aA [0,0,1,0,1,1,1,1,1,1]::Ej
def Kt(lv:Int)(c:Nat)(cr:Nat->pO)(n:Nat)(o:Nat->Int)(k:Int):Core:=
 {tm:=sK 74 [(1,.sym .i64 lv),(6,.gs 0),(9,.gs 1),(42,.gs 0),(43,.sym .i64 (c:Int)),(44,.sym .i64 k)],hp:=[(0,.own 106 7 c (mO cr)),(1,.own 3 1 n (mO o))],nx:=2,lim:=L0,tc:=[]}
def H8:List It:=[aA [0,1,1,0,0,1,1,0,0,1,0,1,1,1,1,1,1],aM 4,aM 3,aA [1,1,1,0,0,1,0,1,1,1,1,1,1],aA [0,1,0,1,1,1,1,1,1],aM 2,aA [1,1,1,1,1,1,1]]
def ahI:List It:=aA [0,0,1,1,0,0,1,1,0,0,1,0,1,1,1,1,1,1]::H8
def Ov(lv:Int)(c:Nat)(cr:Nat->pO)(n:Nat)(o:Nat->Int)(k:Int)(b:pO)(i:Int):Core:=
 {tm:=sK 74 [(1,.sym .i64 lv),(6,.gs 0),(9,.gs 1),(10,.sym .i64 k),(11,.ptr 2 0),(42,.gs 0),(43,.sym .i64 (c:Int)),(44,.sym .i64 k),(49,.gs 0),(50,.sym .i64 (c:Int)),(51,.sym .i64 i)],hp:=[(0,.own 106 7 c (mO cr)),(1,.own 3 1 n (mO o)),(2,.box [.sym .i64 b.id,.sym .i64 b.th,.sym .i64 b.st,.sym .i64 b.bg,.sym .i64 b.en,.sym .i64 b.tr,.sh (.sl 8 b.k b.g)] 106)],nx:=3,lim:=L0,tc:=[]}
theorem ahJ(A:Prim)(W:Wd)(B:H7)(lv:Int)(o m:Nat)(og mg:Nat->List Sh)(cr:Nat->pO)(i':Int){ψ:pI->Prop}{c0 c1 c2:Bool}(e0:B.okb=c0)(e1:A.lt (ab 12) (A.nK B.n)=c1)(e2:B.PK=c2)(h1:(IX (aN [aj 2 o og,aj 8 m mg]) (aN [aj 2 o og,aj 8 m mg]))=ah)(y1:c0=ah->c1=ah->ψ (ar (aL [fQ (bP ao),aX 5 288])))(y2:c0=ah->c1=ag->ψ (aH 0 [ac lv lv,aw (aj 7 B.n (mO B.T)) (aj 7 B.n (mO B.T)),aw (aj 7 B.n (mO B.T)) (aj 7 B.n (mO B.T)),ac (A.nK B.n) (ab B.n),ac (ab 0) i',aw (aj 2 o og) (aj 2 o og),aw (aj 8 m mg) (aj 8 m mg),ac lv lv,am 0 0]))(y3:c0=ag->c2=ah->ψ (ar (aL [fQ (bP ao),fj 90 (gz [av .i64 B.pos,aX B.e 288])])))(y4:c0=ag->c2=ag->ψ (ar (aL [fQ (bP ao),aX B.e 288]))):oP ψ (nR (C7 A W (JY (.agg [.sl 2 o og,.sl 8 m mg]) B) mZ) qm 300 400 23 [.code []] (nX 71 [.agg [.sl 2 o og,.sl 8 m mg],.i .i64 lv] L0) [] [⟨23,Vq,Vr o m og mg lv B.n B.T 0 cr i',[]⟩]):=by
 subst e0 e1 e2;exact wH (an h1 (an (fun q0=>an (y1 q0) (y2 q0)) (fun q0=>an (y3 q0) (y4 q0))))
theorem PN(A:Prim)(W:Wd)(hs:Sh)(B:H7)(lv:Int)(o m:Nat)(og mg:Nat->List Sh)(n:Nat)(T:Nat->pO)(c c':Nat)(cr JW:Nat->pO)(i i':Int){ψ:pI->Prop}{c0 c1:Bool}(e0:A.lt i (ab n)=c0)(e1:F9 (T (A.toN i)).st lv=c1)(h1:c0=ah->(A.inB i n)=ah)(h2:c0=ah->c1=ah->(A.room (A.addN c 1) 72)=ah)(h3:c0=ag->(mkP lv n (mO T))=ah)(h4:c0=ag->(nwB o og)=ah)(y1:c0=ah->c1=ah->ψ (aH 0 [ac lv lv,aw (aj 7 n (mO T)) (aj 7 n (mO T)),aw (aj 7 n (mO T)) (aj 7 n (mO T)),ac (ab n) (ab n),ac (A.add .i64 i (ab 1)) i',aw (aj 2 o og) (aj 2 o og),aw (aj 8 m mg) (aj 8 m mg),ac lv lv,am (A.addN c 1) c',ax (A.addN c 1) (A.snoc (mO cr) c (nM [[av .i64 (T (A.toN i)).id,av .i64 (T (A.toN i)).th,av .i64 (T (A.toN i)).st,av .i64 (T (A.toN i)).bg,av .i64 (T (A.toN i)).en,av .i64 (T (A.toN i)).tr,aj 8 (T (A.toN i)).k (T (A.toN i)).g]])) (mO JW)]))(y2:c0=ah->c1=ag->ψ (aH 0 [ac lv lv,aw (aj 7 n (mO T)) (aj 7 n (mO T)),aw (aj 7 n (mO T)) (aj 7 n (mO T)),ac (ab n) (ab n),ac (A.add .i64 i (ab 1)) i',aw (aj 2 o og) (aj 2 o og),aw (aj 8 m mg) (aj 8 m mg),ac lv lv,am c c',ax c (mO cr) (mO JW)]))(y3:c0=ag->ψ (ar (aL [gz [av .i64 lv,aj 7 c (mO cr),aj 1 (mkN lv n (mO T)) (mO (mkR lv n (mO T))),aj 4 o (wQ og)],fQ bd]))):oP ψ (nR (C7 A W (JY hs B) mZ) qm 300 400 23 aoF (Vr o m og mg lv n T c cr i) [] [⟨23,Vq,Vr o m og mg lv n T c' JW i',[]⟩]):=by
 subst e0 e1;exact DV (an (fun q0=>an (h1 q0) (an (fun q1=>an (h2 q0 q1) (an (h2 q0 q1) (y1 q0 q1))) (y2 q0))) (fun q0=>an (h3 q0) (an (h4 q0) (y3 q0))))
theorem ahK(A:Prim)(W:Wd)(lv:Int)(n:Nat)(T:Nat->pO)(JW:Nat->pO)(i':Int){ψ:pI->Prop}{c0 c1:Bool}(e0:A.lt lv (ab 1)=c0)(e1:A.lt (ab 3) lv=c1)(y1:c0=ah->ψ (ar (aL [aj 0 0 fun _=>[],aX 1 288])))(y2:c0=ag->c1=ah->ψ (ar (aL [aj 0 0 fun _=>[],aX 1 288])))(y3:c0=ag->c1=ag->ψ (aH 0 [ac lv lv,aw (aj 7 n (mO T)) (aj 7 n (mO T)),ac (A.nK n) (ab n),ac (ab 0) i',am 0 0])):oP ψ (nR (C7 A W zM mZ) qm 300 400 45 [.code []] (nX 74 [.sl 7 n (mO T),.i .i64 lv] L0) [] [⟨45,Vs,Vt lv n T 0 JW i',[]⟩]):=by
 subst e0 e1;exact wH (an y1 (fun q0=>an (y2 q0) (y3 q0)))
theorem PO(A:Prim)(W:Wd)(lv:Int)(n:Nat)(T:Nat->pO)(c c':Nat)(cr JW:Nat->pO)(i i':Int)(m':Nat)(o':Nat->Int){ψ:pI->Prop}{c0 c1 c2:Bool}(e0:A.lt i (ab n)=c0)(e1:F9 (T (A.toN i)).st lv=c1)(e2:A.lt (ab 62) (A.nK c)=c2)(h1:c0=ah->(A.inB i n)=ah)(h2:c0=ah->c1=ah->(A.room (A.addN c 1) 72)=ah)(h3:c0=ag->c2=ag->(A.le (ab 0) (A.nK c))=ah)(h4:c0=ag->c2=ag->(A.room (A.toN (A.nK c)) 8)=ah)(y1:c0=ah->c1=ah->ψ (aH 0 [ac lv lv,aw (aj 7 n (mO T)) (aj 7 n (mO T)),ac (ab n) (ab n),ac (A.add .i64 i (ab 1)) i',am (A.addN c 1) c',ax (A.addN c 1) (A.snoc (mO cr) c (nM [[av .i64 (T (A.toN i)).id,av .i64 (T (A.toN i)).th,av .i64 (T (A.toN i)).st,av .i64 (T (A.toN i)).bg,av .i64 (T (A.toN i)).en,av .i64 (T (A.toN i)).tr,aj 8 (T (A.toN i)).k (T (A.toN i)).g]])) (mO JW)]))(y2:c0=ah->c1=ag->ψ (aH 0 [ac lv lv,aw (aj 7 n (mO T)) (aj 7 n (mO T)),ac (ab n) (ab n),ac (A.add .i64 i (ab 1)) i',am c c',ax c (mO cr) (mO JW)]))(y3:c0=ag->c2=ah->ψ (ar (aL [aj 0 0 fun _=>[],aX 5 288])))(y4:c0=ag->c2=ag->ψ (aH 1 [ac lv lv,ac (A.nK c) (ab c),ac (ab 0) (ab 0),am c c,ax c (mO cr) (mO cr),am (A.toN (A.nK c)) m',ax (A.toN (A.nK c)) (fun (x:Nat)=>[av .i64 (ab 0)]) (mO o')])):oP ψ (nR (C7 A W zM mZ) qm 300 400 45 aoG (Vt lv n T c cr i) [] [⟨45,Vs,Vt lv n T c' JW i',[]⟩,⟨45,Ej,Kt lv c cr m' o' 0,[]⟩]):=by
 subst e0 e1 e2;exact wH (an (fun q0=>an (h1 q0) (an (fun q1=>an (h2 q0 q1) (y1 q0 q1)) (y2 q0))) (fun q0=>an (y3 q0) (fun q1=>an (h3 q0 q1) (an (h4 q0 q1) (y4 q0 q1)))))
theorem Y6(A:Prim)(W:Wd)(lv:Int)(c:Nat)(cr:Nat->pO)(n:Nat)(o:Nat->Int)(k:Int)(b:pO){ψ:pI->Prop}{c0:Bool}(e0:A.lt k (ab c)=c0)(h1:c0=ah->(A.inB k c)=ah)(y1:c0=ah->ψ (aH 0 [ac lv lv,ac k k,ac (ab c) (ab c),ac k k,ac (A.nK c) (ab c),ac (ab 0) (ab 0),am c c,ax c (mO cr) (mO cr),am n n,ax n (mO o) (mO o),ac (cr (A.toN k)).id b.id,ac (cr (A.toN k)).th b.th,ac (cr (A.toN k)).st b.st,ac (cr (A.toN k)).bg b.bg,ac (cr (A.toN k)).en b.en,ac (cr (A.toN k)).tr b.tr,aw (aj 8 (cr (A.toN k)).k (cr (A.toN k)).g) (aj 8 b.k b.g)]))(y2:c0=ag->ψ (ar (aL [Sh.os 3 1 n (mO o),fQ bd]))):oP ψ (nR (C7 A W zM mZ) qm 300 400 45 ahH (Kt lv c cr n o k) [] [⟨45,H8,Ov lv c cr n o k b 0,[]⟩]):=by
 subst e0;exact wH (an (fun q0=>an (h1 q0) (y1 q0)) y2)
theorem PS(A:Prim)(W:Wd)(lv:Int)(c:Nat)(cr:Nat->pO)(n:Nat)(o o':Nat->Int)(k k':Int)(b:pO)(i i':Int){ψ:pI->Prop}{c0 c1 c2:Bool}(e0:A.lt i (ab c)=c0)(e1:A.nt (A.eq lv (ab 1))=c1)(e2:FX (cr (A.toN i)).en b.bg=c2)(h1:c0=ah->(A.inB i c)=ah)(h2:c0=ah->c1=ah->c2=ah->(A.inB k n)=ah)(h3:c0=ah->c1=ah->c2=ah->(A.le (ab 0) i)=ah)(y1:c0=ah->c1=ah->c2=ah->ψ (aH 0 [ac lv lv,ac k k,ac (ab c) (ab c),ac k k,ac (ab c) (ab c),ac (A.add .i64 i (ab 1)) i',am c c,ax c (mO cr) (mO cr),am n n,ax n (A.upd (mO o) (A.toN k) 0 [av .i64 (A.bin BinOp.or az (o (A.toN k)) (A.bin BinOp.shl az (ab 1) i))]) (mO o'),ac b.id b.id,ac b.th b.th,ac b.st b.st,ac b.bg b.bg,ac b.en b.en,ac b.tr b.tr,aw (aj 8 b.k b.g) (aj 8 b.k b.g)]))(y2:c0=ah->c1=ah->c2=ag->ψ (aH 0 [ac lv lv,ac k k,ac (ab c) (ab c),ac k k,ac (ab c) (ab c),ac (A.add .i64 i (ab 1)) i',am c c,ax c (mO cr) (mO cr),am n n,ax n (mO o) (mO o'),ac b.id b.id,ac b.th b.th,ac b.st b.st,ac b.bg b.bg,ac b.en b.en,ac b.tr b.tr,aw (aj 8 b.k b.g) (aj 8 b.k b.g)]))(y3:c0=ah->c1=ag->ψ (aH 0 [ac lv lv,ac k k,ac (ab c) (ab c),ac k k,ac (ab c) (ab c),ac (A.add .i64 i (ab 1)) i',am c c,ax c (mO cr) (mO cr),am n n,ax n (mO o) (mO o'),ac b.id b.id,ac b.th b.th,ac b.st b.st,ac b.bg b.bg,ac b.en b.en,ac b.tr b.tr,aw (aj 8 b.k b.g) (aj 8 b.k b.g)]))(y4:c0=ag->ψ (aH 1 [ac lv lv,ac (ab c) (ab c),ac (A.add .i64 k (ab 1)) k',am c c,ax c (mO cr) (mO cr),am n n,ax n (mO o) (mO o)])):oP ψ (nR (C7 A W zM mZ) qm 300 400 45 ahI (Ov lv c cr n o k b i) [] [⟨45,H8,Ov lv c cr n o' k b i',[]⟩,⟨45,Ej,Kt lv c cr n o k',[]⟩]):=by
 subst e0 e1 e2;exact wH (an (fun q0=>an (h1 q0) (an (fun q1=>an (fun q2=>an (h2 q0 q1 q2) (an (h3 q0 q1 q2) (an (h2 q0 q1 q2) (y1 q0 q1 q2)))) (y2 q0 q1)) (y3 q0))) y4)
theorem ahL(A:Prim)(W:Wd)(t:pO)(lv:Int){ψ:pI->Prop}{c0 c1 c2:Bool}(e0:A.eq lv (ab 1)=c0)(e1:A.eq t.st (ab 3)=c1)(e2:A.eq lv (ab 2)=c2)(y1:c0=ah->c1=ah->ψ (ar (co ah)))(y2:c0=ah->c1=ag->ψ (ar (co (A.eq t.st (ab 2)))))(y3:c0=ag->c2=ah->c1=ah->ψ (ar (co ah)))(y4:c0=ag->c2=ah->c1=ag->ψ (ar (co (A.eq t.st (ab 2)))))(y5:c0=ag->c2=ag->ψ (ar (co (A.eq lv (ab 3))))):oP ψ (nR (C7 A W noSpec mZ) qm 300 400 44 [.code []] (nX 19 [.agg [.i .i64 t.id,.i .i64 t.th,.i .i64 t.st,.i .i64 t.bg,.i .i64 t.en,.i .i64 t.tr,.sl 8 t.k t.g],.i .i64 lv] L0) [] []):=by
 subst e0 e1 e2;exact wH (an (fun q0=>an (y1 q0) (y2 q0)) (fun q0=>an (fun q1=>an (y3 q0 q1) (y4 q0 q1)) (y5 q0)))
theorem ahM(A:Prim)(W:Wd)(t u:pO){ψ:pI->Prop}{c0:Bool}(e0:A.le (ab 0) t.en=c0)(y1:c0=ah->ψ (ar (co (A.lt t.en u.bg))))(y2:c0=ag->ψ (ar (co ag))):oP ψ (nR (C7 A W noSpec mZ) qm 300 400 61 [.code []] (nX 15 [.agg [.i .i64 t.id,.i .i64 t.th,.i .i64 t.st,.i .i64 t.bg,.i .i64 t.en,.i .i64 t.tr,.sl 8 t.k t.g],.agg [.i .i64 u.id,.i .i64 u.th,.i .i64 u.st,.i .i64 u.bg,.i .i64 u.en,.i .i64 u.tr,.sl 8 u.k u.g]] L0) [] []):=by
 subst e0;exact wH (an y1 y2)
end Go.Proofs
namespace Go.Pl
open Go Go.Sx Go.Proofs
def ctF(lv:Int)(T:Nat->pO)(i r:Nat):List pO:=((aD r).map fun j=>T (i+j)).filter fun t=>F9 t.st lv
theorem Uj(lv:Int)(T:Nat->pO)(i r:Nat):ctF lv T i (r+1)=(if F9 (T i).st lv=ah then [T i] else [])++ctF lv T (i+1) r:=by
 unfold ctF;rw[List.range_succ_eq_map,dF,List.map_map,List.filter_cons];have:((fun j=>T (i+j)) ∘ Nat.succ)=fun j=>T (i+1+j):=by
  grind
 grind
theorem RP(lv:Int)(T:Nat->pO)(n:Nat):ctF lv T 0 n=yA lv n T:=by
 unfold ctF yA;simp
theorem ajh(lv:Int)(n:Nat)(T:Nat->pO):(yA lv n T).length<=n:=by
 grind [yA,List.length_filter_le,F9,aD,ck,fG]
theorem Y7{lv bg:Int}:∀(l:List pO) (i m N:Nat),m<2^N->i+l.length<=N->GL lv bg i l m<2^N
 |[],i,m,N,h,_=>h |a::l,i,m,N,h,hl=>by
  rw[GL];refine Y7 l (i+1) _ N ?_ (by grind);split
  ·refine gq h ?_
   rw[eM,gF];exact cF (by decide) (by grind)
  ·exact h
end Go.Pl
namespace Go.Proofs
open Go Go.Sx Go.Pl
section
variable{H0:Mem}{w0:World}{φ:Sh->Prop}
theorem JZ(xM:nD ai (nJ W7) 44 Y5)(yB:nD ai (nJ W7) 61 Z9)(stop:Nat->List Nat->Bool):oD ai (C7 mM W7 zM stop):=cO (fun g F h=>by
 unfold zM at h;grind) fun g h=>by
 unfold zM at h;split at h;all_goals first|(cases h;done) |kernel_rfl
theorem aoH{o:Nat->Int}{k:Nat}{v:Int}:∀j,mM.upd (mO o) k 0 [av .i64 v] j=mO (fun j=>if j=k then v else o j) j:=fun j=>by
 show (if j=k then (mO o j).take 0++[av .i64 v]++(mO o j).drop (0+1) else mO o j)=Row.put (if j=k then v else o j);split
 ·rfl
 ·rfl
variable{lv:Int}{l:List pO}
theorem afH(xM:nD ai (nJ W7) 44 Y5)(yB:nD ai (nJ W7) 61 Z9)(hl:l.length<=62){k:Nat}(hk:k<l.length){b:pO}:
  ∀r i (o:Nat->Int) (m:Nat),i+r=l.length->o k=(m:Nat)->m<2^62->
  (mY ai (C7 mM W7 zM mZ) (K0 H0 w0) 45 Ej (Kt lv l.length (nth l) l.length (fun j=>if j=k then (GL lv b.bg i (l.drop i) m:Nat) else o j) ((k+1:Nat):Int)) [] emp (up φ))->
  mY ai (C7 mM W7 zM mZ) (K0 H0 w0) 45 H8 (Ov lv l.length (nth l) l.length o (k:Nat) b (i:Nat)) [] emp (up φ)
 |0,i,o,m,hi,ho,hm,nx=>by
  refine uT eg ahI ?_;have lt {P:Prop} (h:mM.lt (i:Int) (ab l.length)=ah):P:=by simp_all [mW]
  have w1:mM.add .i64 (k:Int) (ab 1)=((k+1:Nat):Int):=add1 (by omega);have e:(fun j=>if j=k then ((GL lv b.bg i (l.drop i) m:Nat):Int) else o j)=o:=by
   grind [eB,GL]
  rw[e] at nx;refine qg (JZ xM yB _) 300 400 [⟨45,H8,Ov lv l.length (nth l) l.length o (k:Nat) b 0,[]⟩,⟨45,Ej,Kt lv l.length (nth l) l.length o ((k+1:Nat):Int),[]⟩] ?_;exact PS mM W7 lv _ (nth l) _ o o k _ b i 0 rfl rfl rfl (fun q=>lt q) (fun q=>lt q) (fun q=>lt q) (fun q=>lt q) (fun q=>lt q) (fun q=>lt q)
   (fun _=>⟨⟨rfl,rfl,w1,rfl,fun _ _=>rfl,rfl,fun _ _=>rfl,trivial⟩,_,rfl,nx⟩)
 |r+1,i,o,m,hi,ho,hm,nx=>by
  obtain ⟨a,ha⟩:∃a,l[i]?=ae a:=⟨_,aC (by omega)⟩;have hd:l.drop i=a::l.drop (i+1):=by
   grind [b9,aC,aS]
  have hna:nth l (mM.toN (i:Int))=a:=by
   show nth l i=a;simp_all [nth,aO]
  rw[hd,GL] at nx;refine uT eg ahI ?_;have w1:mM.add .i64 (i:Int) (ab 1)=((i+1:Nat):Int):=add1 (by omega);have no {P:Prop} (h:mM.lt (i:Int) (ab l.length)=ag):P:=by simp_all [mW]
  have inb:mM.inB (i:Int) l.length=ah:=by grind [nN]
  have arR:mM.inB (k:Int) l.length=ah:=by simp_all [nN]
  have le0:mM.le (ab 0) (i:Int)=ah:=by rfl
  have hc1:mM.nt (mM.eq lv (ab 1))=decide (lv≠1):=by
   grind [oL,nG,decide_eq_true,beq_eq_false_iff_ne]
  have step (m':Nat) (hm':m'<2^62) (o':Nat->Int) (h1:o'=fun j=>if j=k then (m':Int) else o j)
    (h2:(if lv≠1/\FX a.en b.bg=ah then m|||1<<<i else m)=m'):=afH xM yB hl hk r (i+1) o' m' (by omega) (by rw[h1];simp) hm' (b:=b) (by
     simp_all)
  have same:(fun j=>if j=k then ((m:Nat):Int) else o j)=o:=by
   grind
  by_cases hc:lv≠1/\FX a.en b.bg=ah
  ·have st:=step (m|||1<<<i) (gq hm (by rw[eM,gF];exact cF (by decide) (by omega))) _ rfl (if_pos hc)
   refine qg (JZ xM yB _) 300 400 [⟨45,H8,Ov lv l.length (nth l) l.length (fun j=>if j=k then ((m|||1<<<i:Nat):Int) else o j) (k:Nat) b ((i+1:Nat):Int),[]⟩,⟨45,Ej,Kt lv l.length (nth l) l.length o 0,[]⟩] ?_;refine PS mM W7 lv _ (nth l) _ o _ k _ b i _ (c1:=ah) (c2:=ah) rfl (by simp_all) (by simp_all) (fun _=>inb) (fun _ _ _=>arR) (fun _ _ _=>le0)
    (fun _ _ _=>⟨⟨rfl,rfl,rfl,rfl,rfl,w1,rfl,fun _ _=>rfl,rfl,fun j hj=>?_,rfl,rfl,rfl,rfl,rfl,rfl,rfl,trivial⟩,_,rfl,st⟩) (fun _ _ q=>by cases q) (fun _ q=>by cases q) (fun q=>no q)
   have e:mM.bin .or .i64 (o (mM.toN (k:Int))) (mM.bin .shl .i64 (ab 1) (i:Int))=((m|||1<<<i:Nat):Int):=by
    show mM.bin .or .i64 (o k) _=_;grind [or_eq]
   rw[e];exact aoH j
  ·have st:=step m hm o same.symm (if_neg hc)
   refine qg (JZ xM yB _) 300 400 [⟨45,H8,Ov lv l.length (nth l) l.length o (k:Nat) b ((i+1:Nat):Int),[]⟩,⟨45,Ej,Kt lv l.length (nth l) l.length o 0,[]⟩] ?_;have fin:=(⟨⟨rfl,rfl,rfl,rfl,rfl,w1,rfl,fun _ _=>rfl,rfl,fun _ _=>rfl,rfl,rfl,rfl,rfl,rfl,rfl,rfl,trivial⟩,_,rfl,st⟩:yc ai (C7 mM W7 zM mZ) (K0 H0 w0) [⟨45,H8,Ov lv l.length (nth l) l.length o (k:Nat) b ((i+1:Nat):Int),[]⟩,⟨45,Ej,Kt lv l.length (nth l) l.length o 0,[]⟩] emp (up φ) (aH 0 [ac lv lv,ac k k,ac (ab l.length) (ab l.length),ac k k,ac (ab l.length) (ab l.length),ac (mM.add .i64 i (ab 1)) ((i+1:Nat):Int),am l.length l.length,ax l.length (mO (nth l)) (mO (nth l)),am l.length l.length,ax l.length (mO o) (mO o),ac b.id b.id,ac b.th b.th,ac b.st b.st,ac b.bg b.bg,ac b.en b.en,ac b.tr b.tr,aw (aj 8 b.k b.g) (aj 8 b.k b.g)]));exact PS mM W7 lv _ (nth l) _ o _ k _ b i _ rfl rfl rfl (fun _=>inb) (fun _ _ _=>arR) (fun _ _ _=>le0)
    (fun _ q1 q2=>(hc ⟨of_decide_eq_true (hc1.symm.trans q1),by simp_all⟩).elim) (fun _ _ _=>fin) (fun _ _=>fin) (fun q=>no q)
theorem afI(xM:nD ai (nJ W7) 44 Y5)(yB:nD ai (nJ W7) 61 Z9)(hl:l.length<=62)(hφ:φ (.mX [.sl 1 l.length (mO (zn lv l)),.v .nilIface])):
  ∀r k (o:Nat->Int),k+r=l.length->(∀j,j<k->o j=zn lv l j)->(∀j,k<=j->o j=0)->
  mY ai (C7 mM W7 zM mZ) (K0 H0 w0) 45 Ej (Kt lv l.length (nth l) l.length o (k:Nat)) [] emp (up φ)
 |0,k,o,hk,ho,ho2=>by
  refine uT eg ahH ?_;have lt {P:Prop} (h:mM.lt (k:Int) (ab l.length)=ah):P:=by simp_all [mW]
  refine qg (JZ xM yB _) 300 400 [⟨45,H8,Ov lv l.length (nth l) l.length o (k:Nat) default 0,[]⟩] ?_;refine Y6 mM W7 lv _ (nth l) _ o k default rfl (fun q=>lt q) (fun q=>lt q) (fun _=>?_);refine nP (s':=.mX [.sl 1 l.length (mO (zn lv l)),.v .nilIface]) ⟨.inr ⟨rfl,rfl,fun j hj=>?_⟩,rfl,trivial⟩ hφ;show Row.put (o j)=Row.put (zn lv l j);simp_all
 |r+1,k,o,hk,ho,ho2=>by
  refine uT eg ahH ?_;have no {P:Prop} (h:mM.lt (k:Int) (ab l.length)=ag):P:=by grind [mW]
  have inb:mM.inB (k:Int) l.length=ah:=by grind [nN]
  have st:=afH (H0:=H0) (w0:=w0) (φ:=φ) (lv:=lv) xM yB hl (k:=k) (by omega) (b:=nth l k) l.length 0 o 0 (by omega) (ho2 k (aV _)) (by decide)
   (afI xM yB hl hφ r (k+1) _ (by omega) (fun j hj=>by
    show (if j=k then ((GL lv (nth l k).bg 0 (l.drop 0) 0:Nat):Int) else o j)=_;split
    ·rename_i h;subst h;rfl
    grind) (fun j hj=>by
    grind))
  refine qg (JZ xM yB _) 300 400 [⟨45,H8,Ov lv l.length (nth l) l.length o (k:Nat) (nth l k) ((0:Nat):Int),[]⟩] ?_;exact Y6 mM W7 lv _ (nth l) _ o k (nth l k) rfl (fun _=>inb) (fun _=>⟨⟨rfl,rfl,rfl,rfl,rfl,rfl,rfl,fun _ _=>rfl,rfl,fun _ _=>rfl,rfl,rfl,rfl,rfl,rfl,rfl,rfl,trivial⟩,_,rfl,st⟩) (fun q=>no q)
theorem Y8{n:Nat}{T:Nat->pO}(xM:nD ai (nJ W7) 44 Y5)(yB:nD ai (nJ W7) 61 Z9)(hn:n<=62)(hφ:φ (.mX [.sl 1 (yA lv n T).length (mO (zn lv (yA lv n T))),.v .nilIface])):
  ∀r i (acc:List pO),i+r=n->acc.length<=i->acc++ctF lv T i r=yA lv n T->
  mY ai (C7 mM W7 zM mZ) (K0 H0 w0) 45 Vs (Vt lv n T acc.length (nth acc) (i:Nat)) [] emp (up φ)
 |0,i,acc,hi,hl,he=>by
  have he:acc=yA lv n T:=by
   rw[<-he];show acc=acc++[];simp
  refine uT eg aoG ?_;have lt {P:Prop} (h:mM.lt (i:Int) (ab n)=ah):P:=by simp_all [mW]
  have c2 {P:Prop} (h:mM.lt (ab 62) (mM.nK acc.length)=ah):P:=by grind [mW,ny]
  have st:=afI (H0:=H0) (w0:=w0) (φ:=φ) (lv:=lv) (l:=acc) xM yB (by omega) (by simp_all) acc.length 0 (fun _=>0) (by omega) (fun j hj=>by omega) (fun j _=>rfl);refine qg (JZ xM yB _) 300 400 [⟨45,Vs,Vt lv n T acc.length (nth acc) 0,[]⟩,⟨45,Ej,Kt lv acc.length (nth acc) acc.length (fun _=>0) ((0:Nat):Int),[]⟩] ?_;refine PO mM W7 lv n T _ _ (nth acc) _ i 0 acc.length (fun _=>0) rfl rfl rfl (fun q=>lt q) (fun q=>lt q) (fun _ _=>by rfl) (fun _ _=>?_) (fun q=>lt q) (fun q=>lt q) (fun _ q=>c2 q)
   (fun _ _=>⟨⟨rfl,rfl,rfl,rfl,fun _ _=>rfl,rfl,fun _ _=>rfl,trivial⟩,_,rfl,st⟩)
  rw[uK,decide_eq_true_eq,ny,oZ,Int.toNat_natCast];unfold maxLen;omega
 |r+1,i,acc,hi,hl,he=>by
  refine uT eg aoG ?_;have w1:mM.add .i64 (i:Int) (ab 1)=((i+1:Nat):Int):=add1 (by omega);have no {P:Prop} (h:mM.lt (i:Int) (ab n)=ag):P:=by grind [mW]
  have inb:mM.inB (i:Int) n=ah:=by grind [nN]
  have rm:mM.room (mM.addN acc.length 1) 72=ah:=by rw[uK,decide_eq_true_eq,uo];unfold maxLen;omega
  rw[Uj] at he;cases hc:F9 (T i).st lv with
  |true=>
   rw[if_pos hc,<-cA] at he;have nx:=Y8 xM yB hn hφ r (i+1) (acc++[T i]) (by omega) (by simp_all) he;refine qg (JZ xM yB _) 300 400 [⟨45,Vs,Vt lv n T (acc++[T i]).length (nth (acc++[T i])) ((i+1:Nat):Int),[]⟩,⟨45,Ej,Kt lv acc.length (nth acc) 0 (fun _=>0) 0,[]⟩] ?_;exact PO mM W7 lv n T _ _ (nth acc) _ i _ 0 (fun _=>0) (c1:=ah) rfl hc rfl (fun _=>inb) (fun _ _=>rm) (fun q=>no q) (fun q=>no q)
    (fun _ _=>⟨⟨rfl,rfl,rfl,w1,by rw[aY];rfl,fun j hj=>zL acc (T i) _ rfl j hj,trivial⟩,_,rfl,nx⟩) (fun _ q=>by cases q) (fun q=>no q) (fun q=>no q)
  |false=>
   rw[if_neg (by rw[hc];simp),dM] at he;have nx:=Y8 xM yB hn hφ r (i+1) acc (by omega) (by omega) he;refine qg (JZ xM yB _) 300 400 [⟨45,Vs,Vt lv n T acc.length (nth acc) ((i+1:Nat):Int),[]⟩,⟨45,Ej,Kt lv acc.length (nth acc) 0 (fun _=>0) 0,[]⟩] ?_;exact PO mM W7 lv n T _ _ (nth acc) _ i _ 0 (fun _=>0) (c1:=ag) rfl hc rfl (fun _=>inb) (fun _ q=>by cases q) (fun q=>no q) (fun q=>no q)
    (fun _ q=>by cases q) (fun _ _=>⟨⟨rfl,rfl,rfl,w1,rfl,fun _ _=>rfl,trivial⟩,_,rfl,nx⟩) (fun q=>no q) (fun q=>no q)
end
theorem xM:nD ai (nJ W7) 44 Y5:=by
 refine rC (C7 mM W7 noSpec mZ) Tryz.f44 fun H w nY args φ hrep h=>?_
 have hn:Tryz.f44.ntmps=19:=by kernel_rfl
 unfold Y5 at h;split at h
 ·rename_i l t
  split at h
  ·rename_i x lv e1 e2
   have hφ:φ (.b (F9 x.st lv)):=h;match args,hrep with
   |[v,u],⟨rv,ru,_⟩=>
    have hl:l=Row.put x:=(Row.qQ _ _ e1).symm;subst hl;refine ⟨[.agg (Row.put x),.i .i64 lv],⟨rv,rO e2 ru,trivial⟩,L0,?_⟩;refine qg (vk _) 300 400 [] ?_;rw[hn];have fin (b:Bool) (hb:b=F9 x.st lv):up φ (.b b):=nP (s':=.b (F9 x.st lv)) (.inl (by rw[hb])) hφ;have e3:mM.eq x.st (ab 3)=(x.st==3):=rfl;have e2':mM.eq x.st (ab 2)=(x.st==2):=rfl;refine ahL mM W7 x lv rfl rfl rfl (fun q0 q1=>fin _ ?_) (fun q0 q1=>fin _ ?_) (fun q0 q2 q1=>fin _ ?_) (fun q0 q2 q1=>fin _ ?_) (fun q0 q2=>fin _ ?_);all_goals unfold F9
    ·simp_all [nG]
    ·simp_all [nG]
    ·simp_all [nG]
    ·simp_all [nG]
    ·rw[if_neg (by
      rintro (h|h)
      ·rw[h] at q0;cases q0
      ·rw[h] at q2;cases q2)]
     rfl
  ·exact h.elim
 ·exact h.elim
theorem yB:nD ai (nJ W7) 61 Z9:=by
 refine rC (C7 mM W7 noSpec mZ) Tryz.f61 fun H w nY args φ hrep h=>?_
 have hn:Tryz.f61.ntmps=15:=by kernel_rfl
 unfold Z9 at h;split at h
 ·rename_i l r
  split at h
  ·rename_i x y e1 e2
   have hφ:φ (.b (FX x.en y.bg)):=h;have hl:l=Row.put x:=(Row.qQ _ _ e1).symm;have hr:r=Row.put y:=(Row.qQ _ _ e2).symm;subst hl hr;refine ⟨[.agg (Row.put x),.agg (Row.put y)],hrep,L0,?_⟩;refine qg (vk _) 300 400 [] ?_;rw[hn];have fin (b:Bool) (hb:b=FX x.en y.bg):up φ (.b b):=nP (s':=.b (FX x.en y.bg)) (.inl (by rw[hb])) hφ;refine ahM mM W7 x y rfl (fun q=>fin _ ?_) (fun q=>fin _ ?_)
   ·have q:decide (0<=x.en)=ah:=q
    unfold FX;rw[q];rfl
   ·have q:decide (0<=x.en)=ag:=q
    unfold FX;rw[q];rfl
  ·exact h.elim
 ·exact h.elim
theorem aua:nD ai (nJ W7) 45 D74:=by
 refine rC (C7 mM W7 zM mZ) eg fun H w nY args φ hrep h=>?_
 have hn:eg.ntmps=74:=by kernel_rfl
 unfold D74 at h;split at h
 ·rename_i s t
  split at h
  ·rename_i n T lv e1 e2
   obtain ⟨h1,hφ⟩:=h;unfold mkP at h1;rw[ak,ak,ak] at h1;obtain ⟨a1,a2,a3,a4⟩:=h1;have a2:=of_decide_eq_true a2;have a3:=of_decide_eq_true a3;have a4:=of_decide_eq_true a4;match args,hrep with
   |[v,u],⟨rv,ru,_⟩=>
    refine ⟨[.sl 7 n (mO (mP (α:=pO) T)),.i .i64 lv],⟨pX (nZ e1 rv) a1,rO e2 ru,trivial⟩,L0,?_⟩;have st:=Y8 (H0:=H) (w0:=w) (φ:=φ) (lv:=lv) (n:=n) (T:=mP T) xM yB a4 hφ n 0 [] (by omega) (by simp) (by simp_all [RP]);refine qg (JZ xM yB _) 300 400 [⟨45,Vs,Vt lv n (mP T) 0 (nth []) ((0:Nat):Int),[]⟩] ?_;rw[hn];have c0 {P:Prop} (h:mM.lt lv (ab 1)=ah):P:=by grind [mW]
    have c1 {P:Prop} (h:mM.lt (ab 3) lv=ah):P:=by grind [mW]
    exact ahK mM W7 lv n (mP T) (nth []) _ rfl rfl (fun q=>c0 q) (fun _ q=>c1 q) (fun _ _=>⟨⟨rfl,rfl,rfl,rfl,rfl,trivial⟩,_,rfl,st⟩)
  ·exact h.elim
 ·exact h.elim
theorem awj:nD ai (nJ W7) 46 D75:=O25.mono fun H nY args φ hr h=>by
 unfold D75 at h;split at h
 ·split at h
  ·rename_i n g e0
   obtain ⟨h1,h2⟩:=h;unfold nwB at h1;rw[ak,ak,ak,d5] at h1;obtain ⟨a1,a2,a3,a4⟩:=h1;unfold F25;simp only[e0];exact ⟨a1,a2,fun q=>(by simp_all),fun _=>⟨fun _=>h2,fun q=>(by simp_all)⟩⟩
  ·exact h.elim
 ·exact h.elim
theorem acR{hs:Sh}{B:H7}(O20:nD ai (nJ W7) 43 (D20 hs B))(stop:Nat->List Nat->Bool):oD ai (C7 mM W7 (JY hs B) stop):=cO (fun g F h=>by
 unfold JY at h;grind [xM,aua,awj]) fun g h=>by
 unfold JY at h;split at h;all_goals first|(cases h;done) |kernel_rfl
section
variable{H0:Mem}{w0:World}{φ:Sh->Prop}{hs:Sh}{B:H7}{lv:Int}{o m:Nat}{og mg:Nat->List Sh}
theorem acT(O20:nD ai (nJ W7) 43 (D20 hs B)){n:Nat}{T:Nat->pO}(h1:1<=lv)(h3:lv<=3)(hn:n<=12)(hw:nwB o og=ah)
  (hφ:φ (.mX [.pt (pz lv (yA lv n T).length (nth (yA lv n T)) (yA lv n T).length (zn lv (yA lv n T)) o (wQ og)),.v .nilIface])) :
  ∀r i (acc:List pO),i+r=n->acc.length<=i->acc++ctF lv T i r=yA lv n T->
  mY ai (C7 mM W7 (JY hs B) mZ) (K0 H0 w0) 23 Vq (Vr o m og mg lv n T acc.length (nth acc) (i:Nat)) [] emp (up φ)
 |0,i,acc,hi,hl,he=>by
  have he:acc=yA lv n T:=by
   rw[<-he];show acc=acc++[];simp
  refine uT iy aoF ?_;have lt {P:Prop} (h:mM.lt (i:Int) (ab n)=ah):P:=by simp_all [mW]
  refine qg (acR O20 _) 300 400 [⟨23,Vq,Vr o m og mg lv n T 0 (nth []) 0,[]⟩] ?_;refine PN mM W7 hs B lv o m og mg n T _ 0 (nth acc) (nth []) i 0 rfl rfl (fun q=>lt q) (fun q=>lt q) (fun _=>?_) (fun _=>hw) (fun q=>lt q) (fun q=>lt q) (fun _=>?_)
  ·grind [mkP,o9,decide_eq_true]
  ·have e1:mkN lv n (mO T)=(yA lv n T).length:=by rfl
   have e2:mkR lv n (mO T)=zn lv (yA lv n T):=by rfl
   rw[e1,e2,he];exact nP (s':=.mX [.pt (pz lv (yA lv n T).length (nth (yA lv n T)) (yA lv n T).length (zn lv (yA lv n T)) o (wQ og)),.v .nilIface]) ⟨rfl,rfl,trivial⟩ hφ
 |r+1,i,acc,hi,hl,he=>by
  refine uT iy aoF ?_;have w1:mM.add .i64 (i:Int) (ab 1)=((i+1:Nat):Int):=add1 (by omega);have no {P:Prop} (h:mM.lt (i:Int) (ab n)=ag):P:=by grind [mW]
  have inb:mM.inB (i:Int) n=ah:=by grind [nN]
  have rm:mM.room (mM.addN acc.length 1) 72=ah:=by rw[uK,decide_eq_true_eq,uo];unfold maxLen;omega
  rw[Uj] at he;cases hc:F9 (T i).st lv with
  |true=>
   rw[if_pos hc,<-cA] at he;have nx:=acT O20 h1 h3 hn hw hφ r (i+1) (acc++[T i]) (by omega) (by simp_all) he;refine qg (acR O20 _) 300 400 [⟨23,Vq,Vr o m og mg lv n T (acc++[T i]).length (nth (acc++[T i])) ((i+1:Nat):Int),[]⟩] ?_;exact PN mM W7 hs B lv o m og mg n T _ _ (nth acc) _ i _ (c1:=ah) rfl hc (fun _=>inb) (fun _ _=>rm) (fun q=>no q) (fun q=>no q)
    (fun _ _=>⟨⟨rfl,rfl,rfl,rfl,w1,rfl,rfl,rfl,by rw[aY];rfl,fun j hj=>zL acc (T i) _ rfl j hj,trivial⟩,_,rfl,nx⟩) (fun _ q=>by cases q) (fun q=>no q)
  |false=>
   rw[if_neg (by rw[hc];simp),dM] at he;have nx:=acT O20 h1 h3 hn hw hφ r (i+1) acc (by omega) (by omega) he;refine qg (acR O20 _) 300 400 [⟨23,Vq,Vr o m og mg lv n T acc.length (nth acc) ((i+1:Nat):Int),[]⟩] ?_;exact PN mM W7 hs B lv o m og mg n T _ _ (nth acc) _ i _ (c1:=ag) rfl hc (fun _=>inb) (fun _ q=>by cases q) (fun q=>no q) (fun q=>no q)
    (fun _ q=>by cases q) (fun _ _=>⟨⟨rfl,rfl,rfl,rfl,w1,rfl,rfl,rfl,rfl,fun _ _=>rfl,trivial⟩,_,rfl,nx⟩) (fun q=>no q)
end
end Go.Proofs
namespace Go.oH
open Go Go.Sx Go.oz
def F34:List Sh->Tree Sh
 |[.agg [.sl 2 n g,.sl 8 m h]]=>.need (okB Oj n g) (.need (okB Ev m h) (.need (FP m h) (.node (wI n m) (.leaf (.er 6 288)) (.node (uF n m g h)
   (.node (takeB m (mP h)) (.leaf (.v .nilIface)) (.leaf (.qK 90 (.pt [.i .i64 (MP m (mP h)),.er (MQ m (mP h)) 288]))))
   (.leaf (.qK 90 (.pt [.i .i64 (BK n m g h),.er (FQ n m g h) 288])))))))
 |_=>.fail
end Go.oH
namespace Go.Pl
open Go Go.Sx Go.Proofs Go.Gm Go.Bf
open Go.oz (Au uP dfn oG takeB yO MP MQ wI uF BK FQ FP)
open Go.oH (JJ)
noncomputable def oJ(n:Nat)(g:Nat->List Sh)(m:Nat)(h:Nat->List Sh):H7 where
 okb:=!wI n m&&(uF n m g h&&takeB m (aB h))
 PK:=!wI n m
 pos:=if uF n m g h=ah then MP m (aB h) else BK n m g h
 e:=if wI n m=ah then 6 else if uF n m g h=ah then MQ m (aB h) else FQ n m g h
 n:=(yO m (aB h)).rs.length
 T:=mP (JJ uP dfn (oG (yO m (aB h))))
structure H9(n:Nat)(g:Nat->List Sh)(m:Nat)(h:Nat->List Sh):Prop where
 o:d8 cv n g=ah
 p:d8 cH m h=ah
 r:FP m h=ah
 k:JA n (mP g)=ah
def hsS(n:Nat)(g:Nat->List Sh)(m:Nat)(h:Nat->List Sh):Sh:=.agg [.sl 2 n g,.sl 8 m h]
noncomputable def oW(lv:Int)(o:Nat)(og:Nat->List Sh)(B:H7):yU where
 okb:=B.okb&&decide (B.n<=12)
 PK:=!B.okb&&B.PK
 pos:=B.pos
 e:=if B.okb=ah then 5 else B.e
 lv:=lv
 N:=(yA lv B.n B.T).length
 T:=nth (yA lv B.n B.T)
 ms:=zn lv (yA lv B.n B.T)
 k0:=o
 g0:=wQ og
theorem acU(rs:Nat->Go.oz.Rc):∀n,okB pO n (JJ uP dfn rs)=ah
 |0=>rfl |n+1=>by
  show (okB pO n (JJ uP dfn rs)&&_)=ah;rw[acU rs n];rfl
end Go.Pl
namespace Go.Proofs
open Go Go.Sx Go.Pl Go.Gm Go.Bf
open Go.oz (Au uP dfn oG takeB yO MP MQ wI uF BK FQ FP)
open Go.oH (JJ)
theorem O20{n:Nat}{g:Nat->List Sh}{m:Nat}{h:Nat->List Sh}(P:H9 n g m h):nD ai (nJ W7) 43 (D20 (hsS n g m h) (oJ n g m h)):=by
 refine X7 Go.oH.O32 fun nY φ hφ=>?_
 unfold D20 at hφ;split at hφ
 ·rename_i s
  obtain ⟨h1,h2,h3⟩:=hφ;have hs:s=hsS n g m h:=@of_decide_eq_true _ (ay _) h1;subst hs;have sl:∀{k:Nat} {f f':Nat->List Sh},(∀j,j<k->f j=f' j)->Wk (.sl 7 k f) (.sl 7 k f'):=fun hf=>.inr ⟨rfl,rfl,hf⟩;have n0:Wk (.sl 0 0 fun _=>[]) (.sl 0 0 fun _=>[]):=.inl ⟨rfl,rfl⟩;cases hb:wI n m with
  |true=>
   have e1:(oJ n g m h).okb=ag:=by grind [oJ]
   have e2:(oJ n g m h).PK=ag:=by grind [oJ]
   have e3:(oJ n g m h).e=6:=by grind [oJ]
   have q:=(h3 e1).2 e2;rw[e3] at q;exact ⟨_,q,P.o,P.p,P.r,fun _=>⟨n0,rfl,trivial⟩,fun x=>by simp_all⟩
  |false=>
   have e2:(oJ n g m h).PK=ah:=by grind [oJ]
   cases hg:uF n m g h with
   |true=>
    cases ht:takeB m (aB h) with
    |true=>
     have e1:(oJ n g m h).okb=ah:=by simp_all [oJ]
     exact ⟨_,h2 e1,P.o,P.p,P.r,fun x=>(by simp_all),fun _=>⟨fun _=>⟨fun _=>⟨.inr ⟨rfl,rfl,fun j hj=>zh (acU _ _) j hj⟩,rfl,trivial⟩,fun x=>(by simp_all)⟩,fun x=>(by simp_all)⟩⟩
    |false=>
     have e1:(oJ n g m h).okb=ag:=by simp_all [oJ]
     have e3:(oJ n g m h).e=MQ m (aB h):=by simp_all [oJ]
     have e4:(oJ n g m h).pos=MP m (aB h):=by grind [oJ]
     have q:=(h3 e1).1 e2;rw[e3,e4] at q;exact ⟨_,q,P.o,P.p,P.r,fun x=>(by simp_all),fun _=>⟨fun _=>⟨fun x=>(by simp_all),fun _=>⟨n0,rfl,trivial⟩⟩,fun x=>(by simp_all)⟩⟩
   |false=>
    have e1:(oJ n g m h).okb=ag:=by simp_all [oJ]
    have e3:(oJ n g m h).e=FQ n m g h:=by simp_all [oJ]
    have e4:(oJ n g m h).pos=BK n m g h:=by grind [oJ]
    have q:=(h3 e1).1 e2;rw[e3,e4] at q;exact ⟨_,q,P.o,P.p,P.r,fun x=>(by simp_all),fun _=>⟨fun x=>(by simp_all),fun _=>⟨n0,rfl,trivial⟩⟩⟩
 ·exact hφ.elim
theorem wF{n:Nat}{g:Nat->List Sh}{m:Nat}{h:Nat->List Sh}{B:H7}{lv:Int}(O:nD ai (nJ W7) 43 (D20 (hsS n g m h) B))(h1:1<=lv)(h3:lv<=3)(hw:B.okb=ah->nwB n g=ah):
  nD ai (nJ W7) 23 (RH (hsS n g m h) lv (oW lv n g B)):=by
 refine rC (C7 mM W7 (JY (hsS n g m h) B) mZ) iy fun H w nY args φ hrep hφ=>?_
 have hn:iy.ntmps=71:=by kernel_rfl
 unfold RH at hφ;split at hφ
 ·rename_i s t
  split at hφ
  ·rename_i l e1
   obtain ⟨q1,q2,q3⟩:=hφ;obtain ⟨rfl,rfl⟩:s=hsS n g m h/\l=lv:=@of_decide_eq_true _ (ay _) q1;match args,hrep with
   |[v,u],⟨rv,ru,_⟩=>
    refine ⟨[hsS n g m h,.i .i64 l],⟨rv,rO e1 ru,trivial⟩,L0,?_⟩;refine qg (acR O _) 300 400 [⟨23,Vq,Vr n m g h l B.n B.T 0 (nth []) ((0:Nat):Int),[]⟩] ?_;rw[hn];refine ahJ mM W7 B l n m g h (nth []) ((0:Nat):Int) rfl rfl rfl (@decide_eq_true _ (ay _) rfl) (fun c0 c1=>?_) (fun c0 c1=>?_) (fun c0 c2=>?_) (fun c0 c2=>?_)
    ·have hbig:¬B.n<=12:=by grind [mW,ny]
     have e:(oW l n g B).okb=ag:=by simp_all [oW]
     have e2:(oW l n g B).PK=ag:=by grind [oW]
     have e3:(oW l n g B).e=5:=by grind [oW]
     have q:=(q3 e).2 e2;rw[e3] at q;exact nP (s':=.mX [.v (.pointer ao),.er 5 288]) ⟨rfl,rfl,trivial⟩ q
    ·have hsm:B.n<=12:=by grind [mW,ny]
     have e:(oW l n g B).okb=ah:=by simp_all [oW]
     have q:=q2 e;exact ⟨⟨rfl,rfl,rfl,rfl,rfl,rfl,rfl,rfl,rfl,trivial⟩,_,rfl,acT O h1 h3 hsm (hw c0) q B.n 0 [] (by omega) (by simp) (by simp_all [RP])⟩
    ·have e:(oW l n g B).okb=ag:=by grind [oW]
     have e2:(oW l n g B).PK=ah:=by simp_all [oW]
     have e3:(oW l n g B).e=B.e:=by grind [oW]
     have q:=(q3 e).1 e2;rw[e3] at q;exact nP (s':=.mX [.v (.pointer ao),.qK 90 (.pt [.i .i64 B.pos,.er B.e 288])]) ⟨rfl,rfl,trivial⟩ q
    ·have e:(oW l n g B).okb=ag:=by grind [oW]
     have e2:(oW l n g B).PK=ag:=by simp_all [oW]
     have e3:(oW l n g B).e=B.e:=by grind [oW]
     have q:=(q3 e).2 e2;rw[e3] at q;exact nP (s':=.mX [.v (.pointer ao),.er B.e 288]) ⟨rfl,rfl,trivial⟩ q
  ·exact hφ.elim
 ·exact hφ.elim
end Go.Proofs
namespace Go.Pl
open Go Go.Sx Go.Proofs Go.Gm Go.Bf
structure Em(n:Nat)(g0:SG)(m:Nat)(g:SG)(d:Nat->oO):Prop where
 row:∀j,j<n->g j=qO (d j)
 inv:∀j,j<n->xR m (d j)
 kind:∀j,j<n->∀s,g0 j=qO s->(d j).kind=s.kind
 out:∀j,n<=j->g j=g0 j
section
variable{n m:Nat}{g0 g:SG}{d:Nat->oO}
theorem xR.up{m m':Nat}{s:oO}(h:xR m s)(hm:m<=m'):xR m' s:={h with ql:=bL h.ql hm,pl:=bL h.pl hm}
theorem Em.up{m':Nat}(h:Em n g0 m g d)(hm:m<=m'):Em n g0 m' g d:={h with inv:=fun j hj=>(h.inv j hj).up hm}
theorem Em.eqF(h:Em n g0 m g d):∀j,j<n->tH n g j=d j:=aiG h.row
theorem Em.isB(h:Em n g0 m g d):stB n g=ah:=aiF h.row
theorem afJ{i op k v:Int}(h:EH n d i op k v=ah):wM n i=ah/\uQ (d i.toNat).kind (d i.toNat).num op k v=0:=by
 simp_all [EH,ak,arg_eq]
theorem Y9{d d':Nat->oO}(h:∀j,j<n->d j=d' j)(i op k v:Int):EH n d i op k v=EH n d' i op k v:=by
 unfold EH;grind [wM]
theorem afK{d d':Nat->oO}(h:∀j,j<n->d j=d' j)(i op:Int):Ye n d i op=Ye n d' i op:=by
 unfold Ye;grind [wM]
theorem Em.next(h:Em n g0 m g d){i op k v:Int}(hok:Ri n g i op k v=ah):
  ∃d',Em n g0 (m+1) (Yf n g i op k v) d':=by
 unfold Ri at hok;rw[Y9 h.eqF] at hok;obtain ⟨hi,ha⟩:=afJ hok;have hi':0<=i/\i<n:=of_decide_eq_true hi;have hst:tH n g i.toNat=d i.toNat:=h.eqF _ (by omega);refine ⟨fun j=>if j=i.toNat then (sG (d i.toNat) op k v).1 else d j,fun j hj=>?_,fun j hj=>?_,fun j hj s hs=>?_,fun j hj=>?_⟩
 ·show (if wM n i=ah/\j=i.toNat then qO (sG (tH n g i.toNat) op k v).1 else g j)=qO (if j=i.toNat then (sG (d i.toNat) op k v).1 else d j)
  by_cases e:j=i.toNat
  ·simp_all
  ·rw[if_neg (fun q=>e q.2),if_neg e,h.row j hj]
 ·show xR (m+1) (if j=i.toNat then (sG (d i.toNat) op k v).1 else d j)
  split
  ·exact (aa9 (h.inv i.toNat (by omega)) ha).2
  ·exact (h.inv j hj).up (by omega)
 ·grind [sG,kind]
 ·show (if wM n i=ah/\j=i.toNat then _ else g j)=g0 j
  rw[if_neg (fun q=>by omega)];exact h.out j hj
theorem Em.fits(h:Em n g0 m g d)(hm:m<=50000)(hn:n<=1000)(i op:Int):aaW n g i op=ah:=by
 unfold Go.Pl.aaW;rw[h.isB,afK h.eqF,akE hm h.inv,eK (by omega) (by omega)];rfl
theorem Em.aoI(hn:n<=1000):∀(l:List Dd) {m:Nat} {g:SG} {d:Nat->oO},Em n g0 m g d->m+l.length<=50000->Om n g l
 |[],_,_,_,_,_=>trivial |a::l,m,g,d,h,hm=>by
  unfold Go.Pl.Om;rw[cJ] at hm;split
  ·exact Em.aoI hn l h (by omega)
  ·refine ⟨h.fits (by omega) hn _ _,fun q=>?_⟩
   obtain ⟨d',h'⟩:=h.next q;exact Em.aoI hn l h' (by omega)
theorem Em.play:∀(l:List Dd) {m i:Nat} {g g':SG} {d:Nat->oO},Em n g0 m g d->zf n g i l=.inr g'->∃d',Em n g0 (m+l.length) g' d'
 |[],m,i,g,g',d,h,hp=>by
  have hp:(Sum.inr g:(Nat×Nat) ⊕ SG)=.inr g':=hp;grind
 |a::l,m,i,g,g',d,h,hp=>by
  unfold zf at hp;rw[cJ];split at hp
  ·obtain ⟨d',h'⟩:=Em.play l h hp
   exact ⟨d',h'.up (by omega)⟩
  ·split at hp
   ·rename_i hok
    split at hp
    ·obtain ⟨d1,h1⟩:=h.next hok
     obtain ⟨d',h'⟩:=Em.play l h1 hp;grind
    ·cases hp
   ·cases hp
end
section
variable{lv:Int}{n:Nat}{og:Nat->List Sh}{B:H7}
structure TbP(n:Nat)(og:Nat->List Sh)(B:H7):Prop where
 few:B.n<=12
 ok:∀i,i<B.n->okB Dd (B.T i).k (B.T i).g=ah/\(B.T i).k<=400
 o:n<=8
 b:∀j,j<n->rV (mP (α:=Oj) og j).kind (mP (α:=Oj) og j).init=ag
def Za(lv:Int)(n:Nat)(og:Nat->List Sh)(B:H7)(nd:Nd SG):Prop:=nd.placed<2^(Gb (oW lv n og B)).n/\∃d,Em n (wQ og) (400*rk (Gb (oW lv n og B)) nd) nd.st d
theorem aoJ{t:pO}{n:Nat}{T:Nat->pO}(h:t∈yA lv n T):∃i,i<n/\t=T i:=by
 grind [yA]
theorem aoK(P:TbP n og B){i:Nat}(h:i<(oW lv n og B).N):okB Dd ((oW lv n og B).T i).k ((oW lv n og B).T i).g=ah/\((oW lv n og B).T i).k<=400:=by
 have h:i<(yA lv B.n B.T).length:=h;have hm:nth (yA lv B.n B.T) i∈yA lv B.n B.T:=by
  simp_all [nth,aO,List.getElem_mem]
 obtain ⟨j,hj,e⟩:=aoJ hm;show okB Dd (nth (yA lv B.n B.T) i).k (nth (yA lv B.n B.T) i).g=ah/\(nth (yA lv B.n B.T) i).k<=400;rw[e];exact P.ok j hj
theorem aoL(P:TbP n og B)(nd:Nd SG):rk (Gb (oW lv n og B)) nd<=12:=by
 have h1:=aoz (B:=oW lv n og B) nd;have h2:(oW lv n og B).N=(yA lv B.n B.T).length:=rfl;have h3:=ajh lv B.n B.T;have:=P.few;omega
theorem IY(P:TbP n og B):Ei (oW lv n og B) (Za lv n og B):=by
 have hN:(oW lv n og B).N<=12:=by
  have h2:(oW lv n og B).N=(yA lv B.n B.T).length:=rfl;have h3:=ajh lv B.n B.T;have:=P.few;omega
 refine ⟨⟨jr (by simp),newT (mP og),fun j hj=>rfl,fun j hj=>?_,fun j hj s hs=>?_,fun j _=>rfl⟩,fun nd hq t ht=>?_,fun nd hq=>?_,fun nd hq=>?_⟩
 ·exact (afe (P.b j hj)).1.up (cM _)
 ·have hs:qO (newT (mP og) j)=qO s:=hs
  rw[Iy hs]
 ·obtain ⟨hlt,d,hd⟩:=hq
  have hlt':=lt_next hlt t ht;have hr:=YT (g:=Gb (oW lv n og B)) t ht;refine ⟨hlt',?_⟩;rw[hr];unfold next turns at ht;obtain ⟨x,hx,rfl⟩:=bK.1 ht;obtain ⟨i,hi,hx⟩:=List.mem_flatMap.1 hx;have hi:i<(oW lv n og B).N:=bI.1 hi;obtain ⟨t1,t2⟩:=aoK P hi;unfold xK at hx;split at hx
  ·rcases List.mem_append.1 hx with hx|hx
   ·split at hx
    ·rename_i s e1 e2
     obtain rfl:x=_:=by simpa using hx
     have e2:(if plO n nd.st ((oW lv n og B).T i).k ((oW lv n og B).T i).g=ah then ae (N7 n nd.st ((oW lv n og B).T i).k ((oW lv n og B).T i).g) else ao)=ae s:=e2;split at e2
     ·rename_i hok
      cases e2;unfold plO Yh at hok;cases hp:zf n nd.st 0 (lst Dd ((oW lv n og B).T i).k ((oW lv n og B).T i).g) with
      |inl q=>simp_all |inr g'=>
       obtain ⟨d',h'⟩:=Em.play _ hd hp;have e:N7 n nd.st ((oW lv n og B).T i).k ((oW lv n og B).T i).g=g':=by unfold N7 Yi;rw[hp]
       refine ⟨d',?_⟩;show Em n (wQ og) _ (N7 n nd.st ((oW lv n og B).T i).k ((oW lv n og B).T i).g) d';rw[e];exact h'.up (by rw[uV];omega)
     ·cases e2
    ·cases hx
   ·split at hx
    ·obtain rfl:x=_:=by simpa using hx
     exact ⟨d,hd.up (by omega)⟩
    ·cases hx
  ·cases hx
 ·obtain ⟨hlt,d,hd⟩:=hq
  have h12:=aoL (lv:=lv) P nd;refine ⟨by omega,rfl,js _,?_,fun i _=>js _,fun i hi=>?_,fun i hi _=>?_⟩
  ·have h1:nd.placed<2^62:=Nat.lt_of_lt_of_le hlt (Nat.pow_le_pow_right (by decide) (by show (oW lv n og B).N<=62;omega))
   omega
  ·show (GL lv (nth (yA lv B.n B.T) i).bg 0 (yA lv B.n B.T) 0:Nat)<2^(yA lv B.n B.T).length
   simp_all [Y7,jr]
  ·obtain ⟨t1,t2⟩:=aoK P hi
   unfold plN;rw[t1,decide_eq_true (by omega:((oW lv n og B).T i).k<=100000)];have o8:=P.o;exact @decide_eq_true _ (ay _) (Em.aoI (n:=n) (by omega) _ hd (by rw[uV];omega))
 ·obtain ⟨hlt,d,hd⟩:=hq
  have h12:=aoL (lv:=lv) P nd;have o8:=P.o;have e1:stB n nd.st=ah:=hd.isB;have e2:keysB n (tH n nd.st)=ah:=by
   unfold keysB;rw[ak,bh];refine ⟨decide_eq_true (by omega),fun j hj=>?_⟩;rw[hd.eqF j (bI.1 hj)];exact aoe (by omega) (hd.inv j (bI.1 hj))
  show ((bJ 4 4||bJ n 0)&&(stB n nd.st&&keysB n (tH n nd.st)))=ah;simp_all
theorem Vu{n:Nat}{d e:Nat->oO}(h:∀j,j<n->d j=e j):Ot n d=Ot n e:=by
 grind [Ot,List.map_congr_left]
theorem Uk:∀x y,Za lv n og B x->Za lv n og B y->qP n x=qP n y->x=y:=fun x y ⟨_,d,hd⟩ ⟨_,e,he⟩ h=>by
 unfold qP at h;rw[Prod.mk.injEq] at h;obtain ⟨h1,h2⟩:=h;have h1:=cZ h1;have h2:Ot n (tH n x.st)=Ot n (tH n y.st):=h2;rw[Vu hd.eqF,Vu he.eqF] at h2;have hk:∀j,j<n->(d j).kind=(e j).kind:=fun j hj=>by
  rw[hd.kind j hj (newT (mP og) j) rfl,he.kind j hj (newT (mP og) j) rfl]
 have h3:=afh hd.inv he.inv hk h2;obtain ⟨p,s⟩:=x;obtain ⟨p',s'⟩:=y;obtain rfl:p=p':=h1;have:s=s':=by
  funext j;by_cases hj:j<n
  ·have a:=hd.row j hj
   have b:=he.row j hj;simp_all
  ·have a:=hd.out j (by omega)
   have b:=he.out j (by omega);simp_all
 rw[this]
end
open Go Go.Sx Go.Proofs
open Go.oz (Au uP dfn oG takeB yO MP MQ takeN FV wI uF BK FQ FP YJ YK oQ FU)
open Go.oH (JJ)
theorem afL{p:Nat->cH}:∀r k (σ σ':Au),takeN p σ k r=.inl σ'->σ.OK->σ.many=k->(∀j,k<=j->j<k+r->oQ (p j)=ah)->σ'.OK/\σ'.many=k+r
 |0,k,σ,σ',h,ho,hm,hv=>by
  have h:(Sum.inl σ:Au ⊕ (Nat×Nat))=.inl σ':=h;simp_all
 |r+1,k,σ,σ',h,ho,hm,hv=>by
  unfold takeN at h;cases hf:(σ.feed (p k)).1 with
  |some e=>simp_all |none=>
   rw[hf] at h;have:=afL r (k+1) _ σ' h (ho.feed (hv k (by omega) (by omega))) (by rw[FU hf];omega) (fun j h1 h2=>hv j (by omega) (by omega));grind
theorem aoM(l:List Go.oz.De):∀k,okB Dd k (aE (Go.oz.nth l))=ah
 |0=>rfl |k+1=>by
  show (okB Dd k _&&_)=ah;rw[aoM l k];rfl
theorem Ul{g:Nat->List Sh}{j:Nat}(h:g j=dm (aB (α:=cv) g j)):g j=Row.put (mP (α:=Oj) g j)/\(mP (α:=Oj) g j).kind=(aB (α:=cv) g j).kind/\(mP (α:=Oj) g j).init=(aB (α:=cv) g j).init:=by
 have e:mP (α:=Oj) g j=⟨(aB (α:=cv) g j).kind,(aB (α:=cv) g j).init⟩:=by
  have:mP (α:=Oj) g j=(Row.get (α:=Oj) (dm (aB (α:=cv) g j))).getD Row.Ad:=by
   simp_all [mP]
  rw[this];rfl
 rw[e];exact ⟨h,rfl,rfl⟩
theorem afM{n m:Nat}{g h:Nat->List Sh}(P:H9 n g m h)(hok:(oJ n g m h).okb=ah):YJ n m (aB g) (aB h)/\takeB m (aB h)=ah:=by
 have hok:(!wI n m&&(uF n m g h&&takeB m (aB h)))=ah:=hok;rw[ak,ak,d5] at hok;exact ⟨YK hok.1 hok.2.1 fun k hk=>bh.1 P.r k (bI.2 hk),hok.2.2⟩
theorem Wj{n m:Nat}{g h:Nat->List Sh}(P:H9 n g m h)(hok:(oJ n g m h).okb=ah):n<=8/\∀j,j<n->g j=Row.put (mP (α:=Oj) g j)/\rV (mP (α:=Oj) g j).kind (mP (α:=Oj) g j).init=ag:=by
 have hok:(!wI n m&&(uF n m g h&&takeB m (aB h)))=ah:=hok;rw[ak,ak,d5] at hok;have hb:¬(8<n\/400<m):=by
  simp_all [Go.oz.wI]
 refine ⟨by omega,fun j hj=>?_⟩;obtain ⟨e1,e2,e3⟩:=Ul (dn P.o j hj);refine ⟨e1,?_⟩;have Zb:qJ (mP (α:=Oj) g j).kind=ah:=xH P.k j hj;rw[e2] at Zb;rw[e2,e3];have hg:=hok.2.1;unfold Go.oz.uF kV at hg;cases hs:gU (fun k=>gV (aB (α:=cv) g k)) 0 n with
 |some x=>simp_all |none=>
  have hn:=Go.oz.PE hs j (cM _) (by omega);unfold gV at hn;cases ho:gZ (aB (α:=cv) g j).kind (aB (α:=cv) g j).init with
  |false=>simp_all |true=>
   unfold gZ lR at ho;unfold rV;generalize (aB (α:=cv) g j).kind=a at ho Zb ⊢;have hr:=of_decide_eq_true Zb;have hidx:gi a=(if (0:Int)>a then 0 else a) - 1:=by
    grind [gi,pF]
   rw[hidx] at ho;grind
theorem Um{n m:Nat}{g h:Nat->List Sh}(P:H9 n g m h)(hok:(oJ n g m h).okb=ah)(hf:(oJ n g m h).n<=12):TbP n g (oJ n g m h):=by
 obtain ⟨o1,o2⟩:=Wj P hok;refine ⟨hf,fun i hi=>?_,o1,fun j hj=>(o2 j hj).2⟩;obtain ⟨G,ht⟩:=afM P hok;have hi:i<(yO m (aB (α:=cH) h)).rs.length:=hi;show okB Dd (uP (oG (yO m (aB (α:=cH) h)) i)) (dfn (oG (yO m (aB (α:=cH) h)) i))=ah/\uP (oG (yO m (aB (α:=cH) h)) i)<=400;refine ⟨aoM _ _,?_⟩;unfold fl dq at ht;unfold kB dq at hi ⊢;cases hs:takeN (aB (α:=cH) h) c8 0 m with
 |inr q=>simp_all |inl σ=>
  rw[hs] at hi;obtain ⟨q1,q2⟩:=afL m 0 c8 σ hs eQ rfl (fun j _ hj=>G.valid j (by omega));have:=q1.dl i _ (Go.oz.JK hi);have:=G.small.2;show (oG σ i).mV.length<=400;omega
theorem aoN{n m:Nat}{g h:Nat->List Sh}(P:H9 n g m h)(hok:(oJ n g m h).okb=ah):nwB n g=ah:=by
 obtain ⟨o1,o2⟩:=Wj P hok;unfold nwB LW;rw[Jv (o:=mP g) fun j hj=>(o2 j hj).1,P.k,aeD fun j hj=>(o2 j hj).2,decide_eq_false (by omega:¬8<n)];rfl
open Go.oz (Ev Hr De Rc Au oG oQ YJ takeN FV takeB yO wI uF FP uP dfn)
theorem aoO(c:Int):kW c=uO c:=by unfold kW uO;grind
def rE(p:Nat->Ev):Nat->Nat->Au->List Int->Int×Nat
 |_,0,_,_=>(0,0) |i,r+1,σ,cs=>if xJ σ cs (p i)=0 then rE p (i+1) r (σ.feed (p i)).2 (RF cs (p i)) else (xJ σ cs (p i),i)
def wE(n:Nat)(o:Nat->Oj)(m:Nat)(p:Nat->Ev):Int×Nat:=if (BJ n o m p).1=0 then rE p 0 m c8 [] else BJ n o m p
theorem Un{f:Nat->Int}:∀r k,(zF f k r).1=0↔∀j,k<=j->j<k+r->f j=0
 |0,k=>by grind [zF] |r+1,k=>by
  unfold zF;split
  ·rename_i h0
   rw[Un r (k+1)];grind
  grind
theorem RQ{n:Nat}{o:Nat->Oj}{m:Nat}{p:Nat->Ev}:(BJ n o m p).1=0↔(n<=8/\m<=400)/\(∀j,j<n->Dl (o j)=0)/\∀j,j<m->F8 n o (p j)=0:=by
 have a1:=Un (f:=fun i=>Dl (o i)) n 0;have a2:=Un (f:=fun i=>F8 n o (p i)) m 0;grind [BJ]
theorem Zc{n:Nat}{o:Nat->Oj}{e:Ev}:F8 n o e=0↔kC e=ah/\jR e=ah/\(e.kind=2->e.obj<n/\uO e.op=(o e.obj.toNat).kind):=by
 grind [F8,Pv,kC,jR,uO]
theorem acW{fg:Nat->List Sh}{p:Nat->Ev}:∀r i σ cs,(∀j,i<=j->j<i+r->oQ (p j)=ah)->σ.OK->RD σ cs->
  match takeN p σ i r with
  | .inl σ'=>rT fg p i r σ cs=.mX [.os 106 7 σ'.rs.length (uw (oG σ')),.agg [.i .i64 0,.sl 1 0 fg]]/\rE p i r σ cs=(0,0) | .inr _=>∃k,(rE p i r σ cs).1≠0/\(rE p i r σ cs).1≠105/\rT fg p i r σ cs=rY (rE p i r σ cs).2 (rE p i r σ cs).1/\k=(rE p i r σ cs).2
 |0,i,σ,cs,hv,hO,hI=>⟨rfl,rfl⟩ |r+1,i,σ,cs,hv,hO,hI=>by
  have hval:=hv i (by omega) (by omega);have hkd:=Go.oz.Gy hval;have hc:=YN hI hO hkd;unfold takeN rT rE;cases hf:(σ.feed (p i)).1 with
  |none=>
   rw[if_pos (hc.2 hf),if_pos (hc.2 hf)];exact acW r (i+1) _ _ (fun j h1 h2=>hv j (by omega) (by omega)) (hO.feed hval) (abg hI hO hkd hf)
  |some x=>
   grind [xJ]
section
variable{n m:Nat}{g h:Nat->List Sh}
theorem aub(P:H9 n g m h)(hok:(oJ n g m h).okb=ah):(BJ n (mP g) m (aB h)).1=0/\takeB m (aB h)=ah/\∀j,j<m->oQ (aB (α:=Ev) h j)=ah:=by
 obtain ⟨G,ht⟩:=afM P hok;obtain ⟨o1,o2⟩:=Wj P hok;refine ⟨RQ.2 ⟨⟨o1,G.small.2⟩,fun j hj=>by simp_all [Dl],fun j hj=>Zc.2 ?_⟩,ht,G.valid⟩;have hv:=G.valid j hj;unfold oQ at hv;simp only[ak] at hv;refine ⟨hv.1.1,hv.1.2,fun hk=>?_⟩;obtain ⟨q1,q2,q3⟩:=G.obj j hj hk;obtain ⟨_,e2,_⟩:=Ul (dn P.o (aB (α:=Ev) h j).obj.toNat (by omega));simp_all [aoO]
theorem aoP(P:H9 n g m h)(h0:(BJ n (mP g) m (aB h)).1=0):wI n m=ag/\uF n m g h=ah/\∀j,j<m->oQ (aB (α:=Ev) h j)=ah:=by
 obtain ⟨h1,h2,h3⟩:=RQ.1 h0;refine ⟨by simp_all [wI,decide_eq_false],?_,fun j hj=>?_⟩
 ·unfold uF kV
  have no:∀(f:Nat->Option Nat) r k,(∀j,k<=j->j<k+r->f j=ao)->gU f k r=ao:=fun f r=>by
   induction r with
   |zero=>intro k _;rfl |succ r ih=>
    grind [gU]
  rw[no _ n 0 fun j _ hj=>?_]
  ·rw[no _ m 0 fun j _ hj=>?_];rfl
   have hj:j<m:=by omega
   obtain ⟨a1,a2,a3⟩:=Zc.1 (h3 j hj);unfold Go.oz.BI;rw[a1,a2];by_cases hk:(aB (α:=Ev) h j).kind=2
   ·obtain ⟨b1,b2⟩:=a3 hk
    have hb0:=Go.oz.Gv a2 hk;obtain ⟨_,e2,_⟩:=Ul (dn P.o (aB (α:=Ev) h j).obj.toNat (by omega));grind [aB,decide_eq_false,aoO]
   grind
  ·have hj:j<n:=by omega
   obtain ⟨e1,e2,e3⟩:=Ul (dn P.o j hj);have Zb:qJ (mP (α:=Oj) g j).kind=ah:=xH P.k j hj;have hb:rV (mP (α:=Oj) g j).kind (mP (α:=Oj) g j).init=ag:=by
    grind [Dl,rV,mP]
   rw[e2] at Zb;rw[e2,e3] at hb;unfold gV gZ lR;unfold rV at hb;generalize (aB (α:=cv) g j).kind=a at hb Zb ⊢;have hr:=of_decide_eq_true Zb;have hidx:gi a=(if (0:Int)>a then 0 else a) - 1:=by
    grind [gi,pF]
   grind
 ·obtain ⟨a1,a2,_⟩:=Zc.1 (h3 j hj)
  have a3:qJ (aB (α:=Ev) h j).ret=ah:=bh.1 P.r j (bI.2 hj);unfold oQ;rw[a1,a2];exact a3
end
open Go Go.Sx Go.Proofs
open Go.oz (Ev Hr De Rc Au oG oQ takeN FV takeB yO wI uF uP dfn)
open Go.oH (JJ)
noncomputable def D32(hs:Sh)(B:H7)(w:Int×Nat):List Sh->Tree Sh
 |[s]=>.need (IX s hs) (.node B.okb (.leaf (.mX [.sl 7 B.n (mO B.T),.agg [.i .i64 0,.sl 1 0 yL]])) (.leaf (.mX [.sl 0 0 noT,Ef w]))) |_=>.fail
theorem ahN{n m:Nat}{g h:Nat->List Sh}(P:H9 n g m h)(hok:(oJ n g m h).okb=ag):(wE n (mP g) m (aB h)).1≠0:=by
 unfold wE;split
 ·rename_i h0
  obtain ⟨b1,b2,b3⟩:=aoP P h0;have ht:takeB m (aB h)=ag:=by
   have:(!wI n m&&(uF n m g h&&takeB m (aB h)))=ag:=hok;simp_all
  have:=acW (fg:=yL) (p:=aB (α:=Ev) h) m 0 c8 [] (fun j _ hj=>b3 j (by omega)) eQ YO;grind [fl,dq,takeN,aB,c8]
 ·assumption
end Go.Pl
namespace Go.Proofs
open Go Go.Sx Go.Pl
open Go.oz (Ev Hr De Rc Au oG oQ takeN FV takeB yO wI uF uP dfn)
open Go.oH (JJ)
theorem awl{n m:Nat}{g h:Nat->List Sh}(P:H9 n g m h):nD ai (nJ W7) 13 (D32 (hsS n g m h) (oJ n g m h) (wE n (mP g) m (aB h))):=by
 refine rC (yS mM W7 uX mZ) Tryz.f13 fun H w nY args φ hrep hφ=>?_
 have hn:Tryz.f13.ntmps=38:=by kernel_rfl
 unfold D32 at hφ;split at hφ
 ·rename_i s
  obtain ⟨q1,q2,q3⟩:=hφ;have hs:s=hsS n g m h:=@of_decide_eq_true _ (ay _) q1;subst hs;match args,hrep with
  |[v],⟨hv,_⟩=>
   have ho:okB Oj n g=ah:=Jv (o:=mP g) fun j hj=>(Ul (dn P.o j hj)).1;refine ⟨[.agg [.sl 2 n (mO (mP (α:=Oj) g)),.sl 8 m (aE (aB (α:=Ev) h))]],⟨EP hv (fun u hu=>pX hu ho) (fun u hu=>Go.oz.pX hu P.p),trivial⟩,L0,?_⟩;have hbad:=fun e=>ahN P e
   have htb:=fun e=>aub P e
   have hvt:=fun e=>aoP P e
   have ayD:(oJ n g m h).okb=(!wI n m&&(uF n m g h&&takeB m (aB h))):=rfl;have eN:(oJ n g m h).n=(yO m (aB h)).rs.length:=rfl;have eT:(oJ n g m h).T=mP (JJ uP dfn (oG (yO m (aB h)))):=rfl;rw[eN,eT] at q2;generalize hoe:mP (α:=Oj) g=o at *;generalize hpe:aB (α:=Ev) h=p at *;have eV:BJ n (mP (mO o)) m (aB (aE p))=BJ n o m p:=by
    rfl
   refine qg (JL _) 300 800 [⟨13,vO,wJ n o m (aE p) 0 (fun _=>[]) 0 (fun _=>[]) (BJ n (mP (mO o)) m (aB (aE p))).1 (if (BJ n (mP (mO o)) m (aB (aE p))).1=0\/(BJ n (mP (mO o)) m (aB (aE p))).1=105 then 0 else 1) (fun _=>[.i .i64 ((BJ n (mP (mO o)) m (aB (aE p))).2:Int)]) 0 0,[]⟩] ?_;rw[hn];refine rQ (an (o9 o n) (an (Go.oz.o9 p m) (nd (mM.nt (mM.eq (BJ n (mP (mO o)) m (aB (aE p))).1 0)) (fun a=>(?_:up φ (.mX [.sl 0 0 fun _=>[],Ef (BJ n (mP (mO o)) m (aB (aE p)))])))
    (fun a=>(?_:mY ai (yS mM W7 uX mZ) (K0 H w) 13 vO (wJ n o m (aE p) 0 (fun _=>[]) 0 (fun _=>[]) (BJ n (mP (mO o)) m (aB (aE p))).1 (if (BJ n (mP (mO o)) m (aB (aE p))).1=0\/(BJ n (mP (mO o)) m (aB (aE p))).1=105 then 0 else 1) (fun _=>[.i .i64 ((BJ n (mP (mO o)) m (aB (aE p))).2:Int)]) 0 0) [] emp (up φ))))))
   ·rw[eV] at a ⊢
    have hne:(BJ n o m p).1≠0:=by grind [oL,nG]
    have hno:(oJ n g m h).okb=ag:=by
     simp_all
    have:=q3 hno;unfold wE at this;rw[if_neg hne] at this;exact nP (s':=.mX [.sl 0 0 noT,Ef (BJ n o m p)]) ⟨.inl ⟨rfl,rfl⟩,⟨rfl,.inr ⟨rfl,rfl,fun _ _=>rfl⟩,trivial⟩,trivial⟩ this
   ·rw[eV] at a ⊢
    have h0:(BJ n o m p).1=0:=by grind [oL,nG]
    obtain ⟨b1,b2,b3⟩:=hvt h0;obtain ⟨v1,_,v3⟩:=RQ.1 h0;rw[if_pos (Or.inl h0),h0];refine GI (σ:=c8) (cs:=[]) rfl (fun j hj=>by omega) rfl (fun j hj=>by omega) rfl rfl (Rz v1.2 v3 b3 m 0 c8 [] (by omega) eQ rfl YO ?_);have hr:=acW (fg:=fun _=>[.i .i64 ((BJ n o m p).2:Int)]) (p:=p) m 0 c8 [] (fun j _ hj=>b3 j (by omega)) eQ YO;cases hs:takeN p c8 0 m with
    |inl σ=>
     rw[hs] at hr;have hS:yO m p=σ:=by unfold kB dq;rw[hs]
     have hB:takeB m p=ah:=by unfold fl dq;rw[hs]
     have hok:(oJ n g m h).okb=ah:=by simp_all
     have q2:=q2 hok;rw[hS] at q2;rw[hr.1];exact nP (s':=.mX [.sl 7 σ.rs.length (mO (mP (JJ uP dfn (oG σ)))),.agg [.i .i64 0,.sl 1 0 yL]]) ⟨.inr ⟨rfl,rfl,fun j hj=>zh (acU _ _) j hj⟩,⟨rfl,.inl ⟨rfl,rfl⟩,trivial⟩,trivial⟩ q2
    |inr x=>
     rw[hs] at hr;obtain ⟨k,r1,r2,r3,_⟩:=hr;have hB:takeB m p=ag:=by unfold fl dq;rw[hs]
     have hno:(oJ n g m h).okb=ag:=by simp_all
     have:=q3 hno;unfold wE at this;rw[if_pos h0] at this;rw[r3];unfold Ef at this;rw[if_neg (by simp[r1,r2])] at this;exact nP (s':=.mX [.sl 0 0 noT,.agg [.i .i64 (rE p 0 m c8 []).1,.sl 1 1 fun _=>[.i .i64 ((rE p 0 m c8 []).2:Int)]]]) ⟨.inl ⟨rfl,rfl⟩,⟨rfl,.inr ⟨rfl,rfl,fun i hi=>by
      obtain rfl:i=0:=by omega
      rfl⟩,trivial⟩,trivial⟩ this
 ·exact hφ.elim
end Go.Proofs
namespace Go.Pl
open Go Go.Sx Go.Proofs Go.Gm Go.Bf
noncomputable def uZ(s:Sh)(lv:Int):yU:=match s with
 | .agg [.sl 2 n g,.sl 8 m h]=>oW lv n g (oJ n g m h) |_=>⟨ag,ag,0,0,0,0,fun _=>default,fun _=>0,0,fun _=>[]⟩
noncomputable def hsB(s:Sh)(lv:Int):Bool:=@decide (∃n g m h,s=hsS n g m h/\H9 n g m h/\1<=lv/\lv<=3) (ay _)
def RS(mo:Int):Bool:=decide (1<=mo)&&decide (mo<=65536)
noncomputable def rsP(s:Sh)(lv mo:Int):Option (List (Nd SG)):=uH (Gb (uZ s lv)) (qP (uZ s lv).k0) (uZ s lv).g0 mo.toNat
noncomputable def rsL(s:Sh)(lv mo:Int):List (Nd SG):=(rsP s lv mo).getD []
noncomputable def Uo(s:Sh)(lv mo:Int):Bool:=RS mo&&((uZ s lv).okb&&(rsP s lv mo).isSome)
noncomputable def PU(s:Sh)(lv mo:Int):Bool:=Kr (Gb (uZ s lv)) (qP (uZ s lv).k0) (uZ s lv).g0 (rsL s lv mo)
noncomputable def rtL(s:Sh)(lv mo:Int):List sO:=(BO (Gb (uZ s lv)) (qP (uZ s lv).k0) (uZ s lv).g0 (rsL s lv mo)).map sZ
noncomputable def rtN(s:Sh)(lv mo:Int):Nat:=(rtL s lv mo).length
noncomputable def rtR(s:Sh)(lv mo:Int):Nat->sO:=nth (rtL s lv mo)
noncomputable def rcI(s:Sh)(lv mo:Int):Int:=((rsL s lv mo).length:Nat)
noncomputable def raB(s:Sh)(lv mo:Int):Bool:=RS mo&&(!(uZ s lv).okb&&(uZ s lv).PK)
noncomputable def rpI(s:Sh)(lv mo:Int):Int:=(uZ s lv).pos
noncomputable def Ur(s:Sh)(lv mo:Int):Nat:=if RS mo=ah then (if (uZ s lv).okb=ah then 0 else (uZ s lv).e) else 3
end Go.Pl
namespace Go.Proofs
open Go Go.Sx Go.Pl Go.Gm Go.Bf
noncomputable def D15:List Sh->Tree Sh
 |[s,t,u]=>match nO t,nO u with
  |some lv,ae mo=>.need (hsB s lv) (.node (Uo s lv mo) (.leaf (.mX [.agg [.b (PU s lv mo),.sl 2 (rtN s lv mo) (mO (rtR s lv mo)),.i .i64 (rcI s lv mo)],.v .nilIface]))
   (.node (raB s lv mo) (.leaf (.mX [.agg [.b ag,.sl 2 0 (fun _=>[]),.i .i64 0],.qK 90 (.pt [.i .i64 (rpI s lv mo),.er (Ur s lv mo) 288])]))
    (.leaf (.mX [.agg [.b ag,.sl 2 0 (fun _=>[]),.i .i64 0],.er (Ur s lv mo) 288]))))
  |_,_=>.fail
 |_=>.fail
noncomputable def D39:List Sh->Tree Sh
 |[.v (.chan ao),s,t,u]=>D15 [s,t,u] |_=>.fail
theorem NK{P:Program}{C:Ctx}(hC:oC P C){g:Nat}{fn:Func}(hfn:C.fns.get g=ae fn)(hb:fn.body.isSome=ah){H:Mem}{w:World}{vg:List Sh}{args:List Value}{φ:Sh->Prop}{L:Nat}(hon:H.on w)(hg:qE C.gls H)(hr:sD H vg args)
  (hgo:mY P C (K0 H w) g [.code []] (nX fn.ntmps vg L) [] emp (up φ)):Calls P g args.toArray w fun e w'=>∃v s H',e=.returned v/\φ s/\qy H w s v H' w':=by
 refine (QX hC hfn hb hon hg hr hgo).mono fun e w' ⟨v,s,H',he,⟨s',hw,hs⟩,r⟩=>?_;obtain ⟨H2,r2⟩:=r.wk hw;grind
theorem aoR{c:Int}{e e':Sh}(he:Wk e e'):Wk (.mX [.agg [.b ag,.sl 0 0 fun _=>[],.i .i64 c],e]) (.mX [.agg [.b ag,.sl 2 0 (fun _=>[]),.i .i64 c],e']):=
 ⟨⟨.inl rfl,.inl ⟨rfl,rfl⟩,rfl,trivial⟩,he,trivial⟩
theorem O39:nD ai (nJ W7) 20 D39:=by
 intro H w nY args φ hon hg hr hφ;unfold D39 at hφ;split at hφ
 ·rename_i s t u
  unfold D15 at hφ;dsimp only at hφ;split at hφ
  ·rename_i lv mo e1 e2
   obtain ⟨q1,q2,q3⟩:=hφ;obtain ⟨n,g,m,h,rfl,P,l1,l3⟩:=@of_decide_eq_true _ (ay _) q1;have O:=wF (O20 P) l1 l3 (aoN P);have hBe:uZ (hsS n g m h) lv=oW lv n g (oJ n g m h):=rfl;obtain ⟨B,hB⟩:∃B,oW lv n g (oJ n g m h)=B:=⟨_,rfl⟩;have aoS:nD ai (nJ W7) 23 (RH (hsS n g m h) lv B):=by simp_all
   match args,hr with
   |[a0,a1,a2,a3],⟨r0,r1,r2,r3,_⟩=>
   refine NK (C:=C7 mM W7 (qY (hsS n g m h) lv B) mZ) (C7.ok _ _) (fn:=gB) (vg:=[.v (.chan ao),hsS n g m h,.i .i64 lv,.i .i64 mo]) (L:=L0) (by kernel_rfl) (by kernel_rfl) hon hg ⟨r0,r1,rO e1 r2,rO e2 r3,trivial⟩ ?_;have hn:gB.ntmps=111:=by kernel_rfl
   have hbg:uZ (hsS n g m h) lv=B:=hBe.trans hB;have c0 {P:Prop} (q:mM.lt lv (ab 1)=ah):P:=by grind [mW]
   have c1 {P:Prop} (q:mM.lt (ab 3) lv=ah):P:=by grind [mW]
   have bad {k:Nat} (hk:Uo (hsS n g m h) lv mo=ag) (ha:raB (hsS n g m h) lv mo=ag) (he:Ur (hsS n g m h) lv mo=k):up φ (.mX [.agg [.b ag,.sl 0 0 fun _=>[],.i .i64 (ab 0)],.er k 288]):=by
    have q:=(q3 hk).2 ha;rw[he] at q;exact nP (aoR rfl) q
   have badM (hm:RS mo=ag):up φ (.mX [.agg [.b ag,.sl 0 0 fun _=>[],.i .i64 (ab 0)],.er 3 288]):=
    bad (by simp_all [Uo]) (by simp_all [raB]) (by simp_all [Ur])
   have moT (h1:mM.lt mo (ab 1)=ag) (h2:mM.lt (ab 65536) mo=ag):1<=mo/\mo<=65536:=by
    simp_all [mW]
   have arS (q:1<=mo/\mo<=65536):RS mo=ah:=by simp_all [RS,decide_eq_true]
   have DU (h4:B.okb=ah):Ei B (Za lv n g (oJ n g m h))/\∀x y,Za lv n g (oJ n g m h) x->Za lv n g (oJ n g m h) y->qP B.k0 x=qP B.k0 y->x=y:=by
    rw[<-hB] at h4 ⊢;have h4:((oJ n g m h).okb&&decide ((oJ n g m h).n<=12))=ah:=h4;rw[ak,decide_eq_true_eq] at h4;have T:=Um P h4.1 h4.2;exact ⟨IY T,Uk⟩
   refine qg (wP aoS _) 300 400 [⟨20,Z7,LA B (mo.toNat:Nat) (Ep (qP B.k0 ⟨0,B.g0⟩) (ae (.int .i64 (ab 0))) fun _=>ao) [(⟨0,B.g0⟩:Nd SG)].length (nth ([(⟨0,B.g0⟩:Nd SG)].map (H6 B.k0))) (0:Nat) 1 (fun _=>ndQ B.k0 ⟨0,B.g0⟩) [(⟨0,B.g0⟩:Nd SG)].length (nth ([(⟨0,B.g0⟩:Nd SG)].map (Az B.k0))),[]⟩] ?_;rw[hn];refine ahC mM W7 B lv mo n m g h _ _ _ _ _ _ _ _ _ rfl rfl rfl rfl rfl rfl rfl rfl (fun _ _ _ _=>@decide_eq_true _ (ay _) ⟨rfl,rfl⟩) (fun _ _ _ _ h4=>(DU h4).1.ke _ (DU h4).1.start)
    (fun q=>c0 q) (fun _ q=>c1 q) (fun _ _ q=>badM ?_) (fun _ _ _ q=>badM ?_) (fun _ _ _ _ _ q=>by cases q) (fun _ _ h2 h3 _ _ q=>?_) (fun _ _ h2 h3 h4 _ _=>?_) (fun _ _ h2 h3 h4 h7=>?_) (fun _ _ h2 h3 h4 h7=>?_)
   ·simp_all [mW,RS,decide_eq_false]
   ·simp_all [mW,RS,decide_eq_false,Bool.and_false]
   ·grind [nG,Iw]
   ·have hm:=moT h2 h3
    obtain ⟨hg1,hg2⟩:=DU h4;have hmo:((mo.toNat:Nat):Int)=mo:=Int.toNat_of_nonneg (by omega);have hmax:mM.max mo (ab 0)=((mo.toNat:Nat):Int):=by
     grind [Iw]
    refine ⟨⟨rfl,rfl,rfl,rfl,rfl,rfl,hmax,rfl,rfl,fun j hj=>?_,rfl,fun j hj=>?_,rfl,fun j hj=>?_,trivial⟩,_,rfl,?_⟩
    ·obtain rfl:j=0:=by omega
     rfl
    ·obtain rfl:j=0:=by omega
     rfl
    ·obtain rfl:j=0:=by omega
     rfl
    have hm1:1<=mo.toNat:=by omega
    refine loopA aoS hg1 (m:=mo.toNat) (by omega) (fun o hp=>?_) (mo.toNat+1) 0 [⟨0,B.g0⟩] _ 0 1 _ (by omega) (fun x hx=>?_) ⟨by simp,by simp,fun j x hx=>?_⟩ (by omega) (by simp;omega) (fun k=>?_) (fun r hr=>hr) (fun hr=>?_)
    ·
     have hst:bT B.g0∈o:=abm hp;have hnx:=akU (Q:=Za lv n g (oJ n g m h)) hm1 hp hg1.step hg2 hg1.start;have hg':Ei B (fun nd=>Za lv n g (oJ n g m h) nd/\nd∈o):=⟨⟨hg1.start,hst⟩,fun nd hq t ht=>⟨hg1.step nd hq.1 t ht,hnx nd hq.2 t ht⟩,fun nd hq=>hg1.tu nd hq.1,fun nd hq=>hg1.ke nd hq.1⟩;have hld:=ajd (Q:=Za lv n g (oJ n g m h)) hm1 hp hg1.step hg2 hg1.start;have hlen:=(PI hm1 hp).2;have hall:∀x∈o,Za lv n g (oJ n g m h) x:=IQ hg1.step hp (fun x hx=>by
      obtain rfl:x=⟨0,B.g0⟩:=by grind [bT]
      exact hg1.start)
     have hP:rsP (hsS n g m h) lv mo=ae o:=by grind [rsP]
     have hL:rsL (hsS n g m h) lv mo=o:=by grind [rsL]
     have hk:Uo (hsS n g m h) lv mo=ah:=by grind [Uo]
     have hφ:φ (.mX [.agg [.b (PU (hsS n g m h) lv mo),.sl 2 (rtN (hsS n g m h) lv mo) (mO (rtR (hsS n g m h) lv mo)),.i .i64 (rcI (hsS n g m h) lv mo)],.v .nilIface]):=q2 hk;have ey:PU (hsS n g m h) lv mo=Kr (Gb B) (qP B.k0) B.g0 o:=by grind [PU]
     have et:rtL (hsS n g m h) lv mo=(BO (Gb B) (qP B.k0) B.g0 o).map sZ:=by grind [rtL]
     have ec:rcI (hsS n g m h) lv mo=((o.length:Nat):Int):=by grind [rcI]
     unfold rtN rtR at hφ;rw[ey,et,ec] at hφ;have es:mM.sub .i64 (mM.nK o.length) (ab 1)=((o.length:Nat):Int) - 1:=by
      show az.wrap (((o.length:Nat):Int) - 1)=_;grind [pF]
     rw[es];refine aoC aoS hg' o (fun x hx=>⟨hall x hx,hx⟩) (by omega) (fun nd hq hl hf=>?_) (fun hy=>?_) (fun hy=>?_) o.length (fun _=>ao) (aV _) (fun k=>?_)
     ·obtain ⟨t,ht,hte⟩:=ahx ((hld nd hq.2).1 hl) hf
      exact ⟨t,ht,(hld t.2 (hnx nd hq.2 _ (bK.2 ⟨t,ht,rfl⟩))).2 hte⟩
     ·rw[hy] at hφ
      exact hφ
     ·have e0:BO (Gb B) (qP B.k0) B.g0 o=[]:=if_neg (by rw[hy];simp)
      rw[hy,e0] at hφ;exact hφ
     ·rw[List.drop_length];rfl
    ·obtain rfl:x=⟨0,B.g0⟩:=by grind
     exact hg1.start
    ·grind
    ·have:=getM (k:=qP B.k0 ⟨0,B.g0⟩) (o:=[]) (k0:=B.k0) (v:=.int .i64 (ab 0)) (nd:=⟨0,B.g0⟩) (M:=fun _=>ao) (fun _=>rfl) k
     exact this
    ·have hP:rsP (hsS n g m h) lv mo=ao:=by unfold rsP;rw[hbg];exact hr
     have hk:Uo (hsS n g m h) lv mo=ag:=by grind [Uo]
     have ha:raB (hsS n g m h) lv mo=ag:=by grind [raB]
     have he:Ur (hsS n g m h) lv mo=0:=by grind [Ur]
     have q:=(q3 hk).2 ha;rw[he] at q;exact q
   ·have hm:=moT h2 h3
    have hk:Uo (hsS n g m h) lv mo=ag:=by simp_all [Uo]
    have ha:raB (hsS n g m h) lv mo=ah:=by simp_all [raB]
    have he:Ur (hsS n g m h) lv mo=B.e:=by unfold Ur;rw[arS hm,hbg,if_pos rfl,if_neg (by rw[h4];simp)]
    have hp:rpI (hsS n g m h) lv mo=B.pos:=by grind [rpI]
    have q:=(q3 hk).1 ha;rw[he,hp] at q;exact nP (aoR rfl) q
   ·have hm:=moT h2 h3
    refine bad ?_ ?_ ?_
    ·simp_all [Uo]
    ·simp_all [raB]
    ·unfold Ur;rw[arS hm,hbg,if_pos rfl,if_neg (by rw[h4];simp)]
  ·exact hφ.elim
 ·exact hφ.elim
end Go.Proofs
namespace Go.Pl
open Go Go.Sx Go.Proofs Go.Gm
def ssB(n:Nat)(g:Nat->List Sh)(m:Nat)(h:Nat->List Sh):Bool:=decide (lst sO n g=lst sO m h)
def Zd(a b:sO):Bool:=decide (a=b)
noncomputable def hpB(s:Sh):Bool:=@decide (∃n g m h,s=hsS n g m h/\H9 n g m h) (ay _)
noncomputable def wkO(s:Sh)(lv:Int)(k:Nat)(u:Nat->List Sh):Option (Nd SG):=walk (Gb (uZ s lv)) ⟨0,(uZ s lv).g0⟩ ((lst sO k u).map fun x=>(x.tx,x.com))
noncomputable def nxL(s:Sh)(lv:Int)(k:Nat)(u:Nat->List Sh):List sO:=match wkO s lv k u with
 |some nd=>(turns (Gb (uZ s lv)) nd).map fun t=>sZ t.1 |none=>[]
end Go.Pl
namespace Go.Proofs
open Go Go.Sx Go.Pl
noncomputable def RU:Nat->Option (List Sh->Tree Sh)
 |20=>ae D39 |_=>ao
noncomputable def D18:List Sh->Tree Sh
 |[.agg a,.agg b]=>match Row.get (α:=sO) a,Row.get (α:=sO) b with
  |some x,ae y=>.leaf (.b (Zd x y)) |_,_=>.fail
 |_=>.fail
noncomputable def J3:Nat->Option (List Sh->Tree Sh)
 |25=>ae D18 |_=>ao
def RV:List It:=[aA [0,1,0,1,1],aM 0,aA [1,1,1]]
def Ze(n:Nat)(g:Nat->sO)(m:Nat)(h:Nat->sO)(i:Int):Core:={tm:=sK 29 [(0,.sh (.sl 2 n (mO g))),(1,.sh (.sl 2 m (mO h))),(5,.sym .i64 i)],hp:=[],nx:=0,lim:=L0,tc:=[]}
theorem ahQ(A:Prim)(W:Wd)(s:Sh)(n m:Nat)(g h:Nat->List Sh)(lv mo:Int){ψ:pI->Prop}{c0 c1:Bool}(e0:Uo (aN [aj 2 n g,aj 8 m h]) lv mo=c0)(e1:raB (aN [aj 2 n g,aj 8 m h]) lv mo=c1)(h1:(hsB (aN [aj 2 n g,aj 8 m h]) lv)=ah)(y1:c0=ah->ψ (ar (aL [aN [co (PU (aN [aj 2 n g,aj 8 m h]) lv mo),aj 2 (rtN (aN [aj 2 n g,aj 8 m h]) lv mo) (mO (rtR (aN [aj 2 n g,aj 8 m h]) lv mo)),av .i64 (rcI (aN [aj 2 n g,aj 8 m h]) lv mo)],fQ bd])))(y2:c0=ag->c1=ah->ψ (ar (aL [aN [co ag,aj 2 0 fun _=>[],av .i64 (ab 0)],fj 90 (gz [av .i64 (rpI (aN [aj 2 n g,aj 8 m h]) lv mo),aX (Ur (aN [aj 2 n g,aj 8 m h]) lv mo) 288])])))(y3:c0=ag->c1=ag->ψ (ar (aL [aN [co ag,aj 2 0 fun _=>[],av .i64 (ab 0)],aX (Ur (aN [aj 2 n g,aj 8 m h]) lv mo) 288]))):oP ψ (nR (C7 A W RU mZ) qm 300 400 8 [.code []] (nX 14 [.agg [.sl 2 n g,.sl 8 m h],.i .i64 lv,.i .i64 mo] L0) [] []):=by
 subst e0 e1;exact wH (an h1 (an y1 (fun q0=>an (y2 q0) (y3 q0))))
theorem ahR(A:Prim)(W:Wd)(a b:sO){ψ:pI->Prop}{c0:Bool}(e0:A.eq a.tx b.tx=c0)(y1:c0=ah->ψ (ar (co (A.beq a.com b.com))))(y2:c0=ag->ψ (ar (co ag))):oP ψ (nR (C7 A W noSpec mZ) qm 300 400 25 [.code []] (nX 17 [.agg [.i .i64 a.tx,.b a.com],.agg [.i .i64 b.tx,.b b.com]] L0) [] []):=by
 subst e0;exact wH (an y1 y2)
theorem ahS(A:Prim)(W:Wd)(n m:Nat)(g h:Nat->sO)(i':Int){ψ:pI->Prop}{c0:Bool}(e0:A.nt (A.eq (A.nK n) (A.nK m))=c0)(y1:c0=ah->ψ (ar (co ag)))(y2:c0=ag->ψ (aH 0 [aw (aj 2 n (mO g)) (aj 2 n (mO g)),aw (aj 2 m (mO h)) (aj 2 m (mO h)),ac (ab 0) i'])):oP ψ (nR (C7 A W J3 mZ) qm 300 400 12 [.code []] (nX 29 [.sl 2 n (mO g),.sl 2 m (mO h)] L0) [] [⟨12,RV,Ze n g m h i',[]⟩]):=by
 subst e0;exact wH (an y1 y2)
theorem Zf(A:Prim)(W:Wd)(n m:Nat)(g h:Nat->sO)(i i':Int){ψ:pI->Prop}{c0 c1:Bool}(e0:A.lt i (A.nK n)=c0)(e1:A.nt (Zd {tx:=(g (A.toN i)).tx,com:=(g (A.toN i)).com} {tx:=(h (A.toN i)).tx,com:=(h (A.toN i)).com})=c1)(h1:c0=ah->(A.inB i n)=ah)(h2:c0=ah->(A.inB i m)=ah)(y1:c0=ah->c1=ah->ψ (ar (co ag)))(y2:c0=ah->c1=ag->ψ (aH 0 [aw (aj 2 n (mO g)) (aj 2 n (mO g)),aw (aj 2 m (mO h)) (aj 2 m (mO h)),ac (A.add .i64 i (ab 1)) i']))(y3:c0=ag->ψ (ar (co ah))):oP ψ (nR (C7 A W J3 mZ) qm 300 400 12 (aA [0,0,1,0,1,1]::RV) (Ze n g m h i) [] [⟨12,RV,Ze n g m h i',[]⟩]):=by
 subst e0 e1;exact wH (an (fun q0=>an (h1 q0) (an (h2 q0) (an (y1 q0) (y2 q0)))) y3)
end Go.Proofs
namespace Go.Pl
open Go Go.Sx Go.Proofs Go.Gm
noncomputable def gaB(s:Sh)(lv mo:Int):Bool:=hsB s lv&&(RS mo&&(uZ s lv).okb)
noncomputable def VL(s:Sh)(lv mo:Int):Bool:=(rsP s lv mo).isSome
end Go.Pl
namespace Go.Proofs
open Go Go.Sx Go.Pl
noncomputable def abp:List Sh->Tree Sh
 |[s,t,u]=>match nO t,nO u with
  |some lv,ae mo=>.need (gaB s lv mo) (.node (VL s lv mo) (.leaf (.mX [.agg [.b (PU s lv mo),.sl 2 (rtN s lv mo) (mO (rtR s lv mo)),.i .i64 (rcI s lv mo)],.v .nilIface]))
    (.leaf (.mX [.agg [.b ag,.sl 2 0 (fun _=>[]),.i .i64 0],.er 0 288])))
  |_,_=>.fail
 |_=>.fail
theorem aug(stop:Nat->List Nat->Bool):oD ai (C7 mM W7 RU stop):=cO (fun g F h=>by
 grind [RU,O39]) fun g h=>by
 unfold RU at h;split at h;all_goals first|(cases h;done) |kernel_rfl
theorem acZ{φ:Sh->Prop}{y:Bool}{k:Nat}{f:Nat->List Sh}{c:Int}{e:Sh}(he:Wk e e)(h:φ (.mX [.agg [.b y,.sl 2 k f,.i .i64 c],e])):up φ (.mX [.agg [.b y,.sl 2 k f,.i .i64 c],e]):=
 nP (s':=.mX [.agg [.b y,.sl 2 k f,.i .i64 c],e]) ⟨⟨.inl rfl,.inr ⟨rfl,rfl,fun _ _=>rfl⟩,rfl,trivial⟩,he,trivial⟩ h
theorem O15:nD ai (nJ W7) 8 D15:=by
 refine rC (C7 mM W7 RU mZ) Tryz.f8 fun H w nY args φ hrep h=>?_
 have hn:Tryz.f8.ntmps=14:=by kernel_rfl
 unfold D15 at h;split at h
 ·rename_i s t u
  split at h
  ·rename_i lv mo e1 e2
   obtain ⟨q1,q2,q3⟩:=h;obtain ⟨n,g,m,h',rfl,P,l1,l3⟩:=@of_decide_eq_true _ (ay _) q1;match args,hrep with
   |[v,u1,u2],⟨rv,ru,ru2,_⟩=>
    refine ⟨[hsS n g m h',.i .i64 lv,.i .i64 mo],⟨rv,rO e1 ru,rO e2 ru2,trivial⟩,L0,?_⟩;refine qg (aug _) 300 400 [] ?_;rw[hn];exact ahQ mM W7 (hsS n g m h') n m g h' lv mo rfl rfl q1 (fun c0=>acZ rfl (q2 c0)) (fun c0 c1=>acZ rfl ((q3 c0).1 c1)) (fun c0 c1=>acZ rfl ((q3 c0).2 c1))
  ·exact h.elim
 ·exact h.elim
theorem aji:nD ai (nJ W7) 8 abp:=O15.mono fun H nY args φ hr h=>by
 unfold abp at h;split at h
 ·split at h
  ·rename_i s t u x y lv mo e1 e2
   obtain ⟨q1,q2,q3⟩:=h;unfold gaB at q1;rw[ak,ak] at q1;obtain ⟨a1,a2,a3⟩:=q1;unfold D15;simp only[e1,e2];refine ⟨a1,fun c=>q2 ?_,fun c=>⟨fun c2=>?_,fun _=>?_⟩⟩
   ·unfold Uo at c
    rw[a2,a3] at c;exact c
   ·simp_all [raB]
   ·have e:Ur s lv mo=0:=by simp_all [Ur]
    rw[e];refine q3 ?_;unfold Uo at c;rw[a2,a3] at c;exact c
  ·exact h.elim
 ·exact h.elim
theorem auh:nD ai (nJ W7) 25 D18:=by
 refine rC (C7 mM W7 noSpec mZ) Tryz.f25 fun H w nY args φ hrep h=>?_
 have hn:Tryz.f25.ntmps=17:=by kernel_rfl
 unfold D18 at h;split at h
 ·rename_i l r
  split at h
  ·rename_i x y e1 e2
   have hφ:φ (.b (Zd x y)):=h;have hl:l=Row.put x:=(Row.qQ _ _ e1).symm;have hr:r=Row.put y:=(Row.qQ _ _ e2).symm;subst hl hr;refine ⟨[.agg (Row.put x),.agg (Row.put y)],hrep,L0,?_⟩;refine qg (vk _) 300 400 [] ?_;rw[hn];have fin (b:Bool) (hb:b=Zd x y):up φ (.b b):=nP (s':=.b (Zd x y)) (.inl (by rw[hb])) hφ;obtain ⟨a,b⟩:=x;obtain ⟨c,d⟩:=y;refine ahR mM W7 ⟨a,b⟩ ⟨c,d⟩ rfl (fun q=>fin _ ?_) (fun q=>fin _ ?_)
   ·grind [nG,Zd,aj8]
   simp_all [nG,Zd,decide_eq_false]
  ·exact h.elim
 ·exact h.elim
theorem ahT(stop:Nat->List Nat->Bool):oD ai (C7 mM W7 J3 stop):=cO (fun g F h=>by
 grind [J3,auh]) fun g h=>by
 unfold J3 at h;split at h;all_goals first|(cases h;done) |kernel_rfl
end Go.Proofs
namespace Go.Pl
open Go Go.Sx
theorem aoU{n m:Nat}{g h:Nat->sO}:lst sO n (mO g)=lst sO m (mO h)↔n=m/\∀j,j<n->g j=h j:=by
 rw[XM,XM];constructor
 ·intro e
  have hl:=congrArg List.length e;simp at hl;simp_all
 simp_all
def arU(n:Nat)(g:Nat->List Sh)(m:Nat)(h:Nat->List Sh):Bool:=okB sO n g&&(okB sO m h&&decide (n<=100000))
end Go.Pl
namespace Go.Proofs
open Go Go.Sx Go.Pl
noncomputable def D19:List Sh->Tree Sh
 |[s,t]=>match qp 2 s,qp 2 t with
  |some (n,g),ae (m,h)=>.need (arU n g m h) (.leaf (.b (ssB n g m h))) |_,_=>.fail
 |_=>.fail
section
variable{H0:Mem}{w0:World}{φ:Sh->Prop}{n:Nat}{g h:Nat->sO}
theorem ajj(hn:n<=100000)(hφ:φ (.b (decide (∀j,j<n->g j=h j)))):∀r i,i+r=n->(∀j,j<i->g j=h j)->
  mY ai (C7 mM W7 J3 mZ) (K0 H0 w0) 12 RV (Ze n g n h (i:Nat)) [] emp (up φ)
 |0,i,hi,he=>by
  refine uT iz (aA [0,0,1,0,1,1]::RV) ?_;have lt {P:Prop} (h:mM.lt (i:Int) (mM.nK n)=ah):P:=by simp_all [mW,ny]
  refine qg (ahT _) 300 400 [⟨12,RV,Ze n g n h 0,[]⟩] ?_;refine Zf mM W7 n n g h i 0 rfl rfl (fun q=>lt q) (fun q=>lt q) (fun q=>lt q) (fun q=>lt q) (fun _=>?_);rw[decide_eq_true (fun j hj=>he j (by omega))] at hφ;exact nP (s':=.b ah) (.inl rfl) hφ
 |r+1,i,hi,he=>by
  refine uT iz (aA [0,0,1,0,1,1]::RV) ?_;have no {P:Prop} (h:mM.lt (i:Int) (mM.nK n)=ag):P:=by grind [mW,ny]
  have inb:mM.inB (i:Int) n=ah:=by grind [nN]
  have w1:mM.add .i64 (i:Int) (ab 1)=((i+1:Nat):Int):=add1 (by omega);refine qg (ahT _) 300 400 [⟨12,RV,Ze n g n h ((i+1:Nat):Int),[]⟩] ?_;refine Zf mM W7 n n g h i _ rfl rfl (fun _=>inb) (fun _=>inb) (fun _ q=>?_) (fun _ q=>?_) (fun q=>no q)
  ·have q:(!Zd (g i) (h i))=ah:=q
   have hne:g i≠h i:=by
    simp_all [Zd]
   rw[decide_eq_false (fun f=>hne (f i (by omega)))] at hφ;exact nP (s':=.b ag) (.inl rfl) hφ
  ·have q:(!Zd (g i) (h i))=ag:=q
   have he2:g i=h i:=by
    simp_all [Zd]
   exact ⟨⟨rfl,rfl,w1,trivial⟩,_,rfl,ajj hn hφ r (i+1) (by omega) fun j hj=>by
    grind⟩
end
theorem auj:nD ai (nJ W7) 12 D19:=by
 refine rC (C7 mM W7 J3 mZ) iz fun H w nY args φ hrep h=>?_
 have hn:iz.ntmps=29:=by kernel_rfl
 unfold D19 at h;split at h
 ·rename_i s t
  split at h
  ·rename_i n g m h' e1 e2
   obtain ⟨q1,hφ⟩:=h;unfold arU at q1;rw[ak,ak,decide_eq_true_eq] at q1;obtain ⟨a1,a2,a3⟩:=q1;match args,hrep with
   |[v,u],⟨rv,ru,_⟩=>
    refine ⟨[.sl 2 n (mO (mP (α:=sO) g)),.sl 2 m (mO (mP (α:=sO) h'))],⟨pX (nZ e1 rv) a1,pX (nZ e2 ru) a2,trivial⟩,L0,?_⟩;have hφ:φ (.b (ssB n g m h')):=hφ;have es:ssB n g m h'=decide (n=m/\∀j,j<n->mP (α:=sO) g j=mP (α:=sO) h' j):=by
     unfold ssB;rw[XQ (zh a1),XQ (zh a2)];have:(lst sO n (mO (mP g))=lst sO m (mO (mP h')))↔(n=m/\∀j,j<n->mP (α:=sO) g j=mP (α:=sO) h' j):=aoU;by_cases hh:(n=m/\∀j,j<n->mP (α:=sO) g j=mP (α:=sO) h' j)
     ·rw[decide_eq_true hh];exact decide_eq_true (this.2 hh)
     ·rw[decide_eq_false hh];exact decide_eq_false (fun e=>hh (this.1 e))
    rw[es] at hφ;refine qg (ahT _) 300 400 [⟨12,RV,Ze n (mP g) m (mP h') ((0:Nat):Int),[]⟩] ?_;rw[hn];refine ahS mM W7 n m (mP g) (mP h') ((0:Nat):Int) rfl (fun q=>?_) (fun q=>?_)
    ·have hne:n≠m:=fun e=>by
      simp_all [oL,nG,ny]
     rw[decide_eq_false (fun f=>hne f.1)] at hφ;exact nP (s':=.b ag) (.inl rfl) hφ
    ·have he:n=m:=by
      grind [oL,nG,ny,cZ]
     subst he;have ed:decide (n=n/\∀j,j<n->mP (α:=sO) g j=mP (α:=sO) h' j)=decide (∀j,j<n->mP (α:=sO) g j=mP (α:=sO) h' j):=by
      simp
     rw[ed] at hφ;exact ⟨⟨rfl,rfl,rfl,trivial⟩,_,rfl,ajj a3 hφ n 0 (by omega) (fun j hj=>by omega)⟩
  ·exact h.elim
 ·exact h.elim
open Go Go.Sx Go.Pl
def Vx:List It:=[aA [0,1,0,1,1,1,1,1],aM 0,aA [1,1,1,1,1,1]]
def aoV:List It:=aA [0,0,1,0,1,1,1,1,1]::Vx
def tmN(B:yU)(k:Nat)(u:Nat->sO)(i:Int):List (Nat×SV):=[(8,.yD 4 1 (fun _=>pz B.lv B.N B.T B.N B.ms B.k0 B.g0) 0 0),(10,.ptr 0 0),(40,.sh (.sl 2 k (mO u))),(41,.sym .i64 (k:Int)),(42,.sym .i64 i)]
def LNa(B:yU)(k:Nat)(u:Nat->sO)(i:Int)(p:Int)(n:Nat)(g:Nat->List Sh):Core:={tm:=sK 85 (tmN B k u i),hp:=[(0,.box [.sym .i64 p,.sh (.sl 4 n g)] 85)],nx:=1,lim:=L0,tc:=[]}
def Vy:List It:=[aA [0,1,0,1,1,0,0,1,1,0,0,1,0,1,1,1,1,1],aM 2,aA [1,1,1,0,0,1,1,0,0,1,0,1,1,1,1,1],aM 1,aA [1,1,1,0,0,1,0,1,1,1,1,1],aA [0,1,0,1,1,1,1,1],aM 0,aA [1,1,1,1,1,1]]
def arX:List It:=aA [0,0,1,0,1,1,0,0,1,1,0,0,1,0,1,1,1,1,1]::Vy
def LNb(B:yU)(k:Nat)(u:Nat->sO)(i:Int)(p:Int)(n:Nat)(g:Nat->List Sh)(x:sO)(t:Nat)(tr:Nat->Bc)(j:Int):Core:=
 {tm:=sK 85 (tmN B k u i++[(11,.sym .i64 i),(12,.ptr 1 0),(13,.bool ag),(49,.sh (.sl 4 t (mO tr))),(50,.sym .i64 (t:Int)),(51,.sym .i64 j)]),hp:=[(0,.box [.sym .i64 p,.sh (.sl 4 n g)] 85),(1,.box [.sym .i64 x.tx,.test x.com] 58)],nx:=2,lim:=L0,tc:=[]}
def Vz:List It:=[aA [0,1,0,1,1,1,1,1,1,1],aM 4,aA [1,1,1,1,1,1,1,1]]
def aoW:List It:=aA [0,0,1,0,1,1,1,1,1,1,1]::Vz
def LNc(t:Nat)(tr:Nat->Bc)(c:Nat)(cr:Nat->sO)(j:Int):Core:=
 {tm:=sK 85 [(16,.gs 0),(72,.sh (.sl 4 t (mO tr))),(73,.sym .i64 (t:Int)),(74,.sym .i64 j)],hp:=[(0,.own 58 2 c (mO cr))],nx:=1,lim:=L0,tc:=[]}
theorem ahU(A:Prim)(W:Wd)(B:yU)(lv:Int)(o m:Nat)(og mg:Nat->List Sh)(k:Nat)(u:Nat->sO)(i':Int){ψ:pI->Prop}{c0 c1 c2 c3:Bool}(e0:A.lt lv (ab 1)=c0)(e1:A.lt (ab 3) lv=c1)(e2:B.okb=c2)(e3:B.PK=c3)(h1:c0=ag->c1=ag->(aox (aN [aj 2 o og,aj 8 m mg]) lv (aN [aj 2 o og,aj 8 m mg]) lv)=ah)(y1:c0=ah->ψ (ar (aL [aj 0 0 fun _=>[],aX 1 288])))(y2:c0=ag->c1=ah->ψ (ar (aL [aj 0 0 fun _=>[],aX 1 288])))(y3:c0=ag->c1=ag->c2=ah->ψ (aH 0 [am 1 1,aF (fun (x:Nat)=>pz B.lv B.N B.T B.N B.ms B.k0 B.g0) fun (x:Nat)=>pz B.lv B.N B.T B.N B.ms B.k0 B.g0,am 0 0,aw (aj 2 k (mO u)) (aj 2 k (mO u)),ac (A.nK k) (ab k),ac (ab 0) i',ac (ab 0) (ab 0),aw (aj 4 B.k0 B.g0) (aj 4 B.k0 B.g0)]))(y4:c0=ag->c1=ag->c2=ag->c3=ah->ψ (ar (aL [aj 0 0 fun _=>[],fj 90 (gz [av .i64 B.pos,aX B.e 288])])))(y5:c0=ag->c1=ag->c2=ag->c3=ag->ψ (ar (aL [aj 0 0 fun _=>[],aX B.e 288]))):oP ψ (nR (C7 A W (qY (.agg [.sl 2 o og,.sl 8 m mg]) lv B) mZ) qm 300 400 11 [.code []] (nX 85 [.agg [.sl 2 o og,.sl 8 m mg],.i .i64 lv,.sl 2 k (mO u)] L0) [] [⟨11,Vx,LNa B k u i' 0 B.k0 B.g0,[]⟩]):=by
 subst e0 e1 e2 e3;exact wH (an y1 (fun q0=>an (y2 q0) (fun q1=>an (h1 q0 q1) (an (y3 q0 q1) (fun q2=>an (y4 q0 q1 q2) (y5 q0 q1 q2))))))
theorem Zg(A:Prim)(W:Wd)(B:yU)(hs:Sh)(lv:Int)(k:Nat)(u:Nat->sO)(i p:Int)(n:Nat)(g:Nat->List Sh)(x:sO)(t:Nat)(tr:Nat->Bc)(cr:Nat->sO){ψ:pI->Prop}{c0:Bool}(e0:A.lt i (ab k)=c0)(h1:c0=ah->(A.inB i k)=ah)(h2:c0=ah->(YV B.lv B.N (mO B.T) B.N (mO B.ms) p 4 n g)=ah)(h3:c0=ag->(YV B.lv B.N (mO B.T) B.N (mO B.ms) p 4 n g)=ah)(y1:c0=ah->ψ (aH 0 [am 1 1,aF (fun (x:Nat)=>pz B.lv B.N B.T B.N B.ms B.k0 B.g0) fun (x:Nat)=>pz B.lv B.N B.T B.N B.ms B.k0 B.g0,am 0 0,ac i i,aw (aj 2 k (mO u)) (aj 2 k (mO u)),ac (ab k) (ab k),ac i i,aw (aj 4 (Hy B.lv B.N (mO B.T) (mO B.ms) p n g) (mO (YW B.lv B.N (mO B.T) (mO B.ms) p n g))) (aj 4 t (mO tr)),ac (A.nK (Hy B.lv B.N (mO B.T) (mO B.ms) p n g)) (ab t),ac (ab 0) (ab 0),ac p p,aw (aj 4 n g) (aj 4 n g),ac (u (A.toN i)).tx x.tx,gt (u (A.toN i)).com x.com]))(y2:c0=ag->ψ (aH 1 [aw (aj 4 (Hy B.lv B.N (mO B.T) (mO B.ms) p n g) (mO (YW B.lv B.N (mO B.T) (mO B.ms) p n g))) (aj 4 t (mO tr)),ac (A.nK (Hy B.lv B.N (mO B.T) (mO B.ms) p n g)) (ab t),ac (ab 0) (ab 0),am 0 0])):oP ψ (nR (C7 A W (qY hs lv B) mZ) qm 300 400 11 aoV (LNa B k u i p n g) [] [⟨11,Vy,LNb B k u i p n g x t tr 0,[]⟩,⟨11,Vz,LNc t tr 0 cr 0,[]⟩]):=by
 subst e0;exact wH (an (fun q0=>an (h1 q0) (an (h2 q0) (y1 q0))) (fun q0=>an (h3 q0) (y2 q0)))
theorem Zh(A:Prim)(W:Wd)(B:yU)(hs:Sh)(lv:Int)(k:Nat)(u:Nat->sO)(i p:Int)(n:Nat)(g:Nat->List Sh)(x:sO)(t:Nat)(tr:Nat->Bc)(j j' i' p':Int)(n':Nat)(g':Nat->List Sh){ψ:pI->Prop}{c0 c1:Bool}(e0:A.lt j (ab t)=c0)(e1:A.ite (A.eq (tr (A.toN j)).tx x.tx) (A.ite (A.beq (tr (A.toN j)).com x.com) ah ag) ag=c1)(h1:c0=ah->(A.inB j t)=ah)(y1:c0=ah->c1=ah->ψ (aH 1 [am 1 1,aF (fun (x:Nat)=>pz B.lv B.N B.T B.N B.ms B.k0 B.g0) fun (x:Nat)=>pz B.lv B.N B.T B.N B.ms B.k0 B.g0,am 0 0,aw (aj 2 k (mO u)) (aj 2 k (mO u)),ac (ab k) (ab k),ac (A.add .i64 i (ab 1)) i',ac (tr (A.toN j)).placed p',aw (aj 4 (tr (A.toN j)).n (tr (A.toN j)).g) (aj 4 n' g')]))(y2:c0=ah->c1=ag->ψ (aH 0 [am 1 1,aF (fun (x:Nat)=>pz B.lv B.N B.T B.N B.ms B.k0 B.g0) fun (x:Nat)=>pz B.lv B.N B.T B.N B.ms B.k0 B.g0,am 0 0,ac i i,aw (aj 2 k (mO u)) (aj 2 k (mO u)),ac (ab k) (ab k),ac i i,aw (aj 4 t (mO tr)) (aj 4 t (mO tr)),ac (ab t) (ab t),ac (A.add .i64 j (ab 1)) j',ac p p,aw (aj 4 n g) (aj 4 n g),ac x.tx x.tx,gt x.com x.com]))(y3:c0=ag->False):oP ψ (nR (C7 A W (qY hs lv B) mZ) qm 300 400 11 arX (LNb B k u i p n g x t tr j) [] [⟨11,Vy,LNb B k u i p n g x t tr j',[]⟩,⟨11,Vx,LNa B k u i' p' n' g',[]⟩]):=by
 subst e0 e1;exact wH (an (fun q0=>an (h1 q0) (an (y1 q0) (y2 q0))) y3)
theorem Zi(A:Prim)(W:Wd)(B:yU)(hs:Sh)(lv:Int)(t:Nat)(tr:Nat->Bc)(c c':Nat)(cr JW:Nat->sO)(j j':Int){ψ:pI->Prop}{c0:Bool}(e0:A.lt j (ab t)=c0)(h1:c0=ah->(A.inB j t)=ah)(h2:c0=ah->(A.room (A.addN c 1) 16)=ah)(y1:c0=ah->ψ (aH 0 [aw (aj 4 t (mO tr)) (aj 4 t (mO tr)),ac (ab t) (ab t),ac (A.add .i64 j (ab 1)) j',am (A.addN c 1) c',ax (A.addN c 1) (A.snoc (mO cr) c (nM [[av .i64 (tr (A.toN j)).tx,co (tr (A.toN j)).com]])) (mO JW)]))(y2:c0=ag->ψ (ar (aL [Sh.os 58 2 c (mO cr),fQ bd]))):oP ψ (nR (C7 A W (qY hs lv B) mZ) qm 300 400 11 aoW (LNc t tr c cr j) [] [⟨11,Vz,LNc t tr c' JW j',[]⟩]):=by
 subst e0;exact wH (an (fun q0=>an (h1 q0) (an (h2 q0) (y1 q0))) y2)
end Go.Proofs
