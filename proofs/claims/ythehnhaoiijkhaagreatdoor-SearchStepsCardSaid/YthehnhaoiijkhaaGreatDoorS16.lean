/- SearchSteps holds of the given program for every input: the steps that a search answers are, one by one, placements that Next tells; behind all of them none is left; each transaction that is counted stands there once; no conditions. -/
import Derived.Test.YthehnhaoiijkhaaGreatDoorS15
import Derived.KernelRfl
import Derived.ProofKit
import Derived.Deep.Slices
import Derived.Stop.LaidErr
import Derived.LaidMore
import Derived.OpenShut
import Derived.MakeChecks
import Derived.Test.YthehnhaoiijkhaaGreatDoorRows
import Derived.Carry
import Derived.Stop.Joined
import Derived.Test.YthehnhaoiijkhaaGreatDoorTie
import Derived.Test.YthehnhaoiijkhaaGreatDoorCards
open Int (ofNat)
open Bool renaming true->aF,and_eq_true->aJ,not_eq_true'->iw,false->aA,eq_iff_iff->wQ
open Classical renaming propDecidable->bG
open Go.Addr renaming add->nG
open Go.DataW renaming trod->zH,trod_int->qc,trod_struct->uy,trod_array->uY,TrodAll->qJ
open Go.Gm renaming start->jk
open Go.IntKind renaming i64->aW
open Go.MemPlace renaming row->qp
open Go.Cc renaming Row->zh,okB->oN,lst->pG,Oj->iQ,Ev->iY,Jj->wR
open Go.Cc.Row renaming get->xC
open Go.Proofs.C7 renaming ok->dn
open Go.Proofs.Tryz renaming prog->aB,f4->jS,underlying46->uZ,underlying329->uz,underlying343->uD,underlying9->lY,underlying300->nR,checked->rF,func4->uF,params4->zi,underlying3->mQ
open Go.Sx.BQ renaming all->dI
open Go.Value renaming int->iU,okWide->lW
open Go.World renaming var?_cell->vZ,doorLaid->wU
open Int renaming ofNat->ah,toNat->wS
open List renaming mem_range->dD,length_map->dQ,ext_getElem->vW,getElem_map->kM,getD_eq_getElem?_getD->aX,getElem?_map->eY,getElem?_eq_getElem->aS,map_cons->jr,find?_cons->wP,mem_cons_self->cO,mem_cons_of_mem->dB,flatMap_def->mD,map_map->mP,mem_map->dL,map->mY,mem_of_getElem?->bP,any_eq_true->pY,mem_flatMap->ji,mem_append->bK,mem_append_left->kR,mem_singleton->uw,mem_append_right->iy,range->aY,getElem?_range->tJ,all_eq_true->dN,take->vX,drop->vY,length->zI
open Nat renaming zero_le->gV,beq->fC,eq_of_beq_eq_true->fH,add_assoc->jX,mul_one->zM
open Option renaming some->ay,none->aN,map_eq_some_iff->bW,getD_some->oI
open Option.some renaming inj->dH
namespace Go.Pl
open Go Go.Sx Go.Proofs Go.Gm Go.Bf
theorem ais{S:Type}{g:Game S}{nd:Nd S}(hl:nd.placed<2^g.n)(hf:full g nd=aF):turns g nd=[]:=by
 unfold turns;refine List.flatMap_eq_nil_iff.2 fun i hi=>?_
 have hb:=(aeh hl).1 hf i (dD.1 hi);unfold GI;rw[if_neg];unfold may;rw[hb];simp
noncomputable def VN(s:Sh)(lv mo:Int):List (Int×Bool):=Gs (Gb (D8 s lv)) (Dl (D8 s lv).k0) (D8 s lv).g0 (rsL s lv mo)
theorem aq1{s:Sh}{lv mo:Int}{i:Nat}(hi:i<=Iz s lv mo):((lst DF i (Az (Jv s lv mo))).map fun x=>(x.tx,x.com))=(VN s lv mo).take i:=by
 have hi:i<=((VN s lv mo).map DI).length:=hi;rw[dQ] at hi;rw[PD];refine vW (by simp;omega) fun j h1 h2=>?_
 have hj:j<i:=by simpa using h1
 rw[kM,kM,List.getElem_range,List.getElem_take];have e:Jv s lv mo j=DI ((VN s lv mo)[j]'(by omega)):=by
  show nth ((VN s lv mo).map DI) j=_;unfold nth;rw[aX,eY,aS (by omega)];rfl
 rw[e];rfl
theorem avG{s:Sh}{lv mo:Int}{i:Nat}(hi:i<Iz s lv mo):∃x,(VN s lv mo)[i]?=ay x/\Jv s lv mo i=DI x:=by
 have hi:i<((VN s lv mo).map DI).length:=hi;rw[dQ] at hi;refine ⟨_,aS hi,?_⟩;show nth ((VN s lv mo).map DI) i=_;unfold nth;rw[aX,eY,aS hi];rfl
section
variable{n m:Nat}{g h:Nat->List Sh}{lv mo:Int}
structure StK(s:Sh)(lv mo:Int):Prop where
 len:Iz s lv mo<=12
 cnt:ctI s lv=((Iz s lv mo:Nat):Int)
 na:∀i,i<=Iz s lv mo->naB s lv i (Az (Jv s lv mo))=aF
 mid:∀i,i<Iz s lv mo->∃j,j<Uw s lv i (Az (Jv s lv mo))/\nxR s lv i (Az (Jv s lv mo)) j=Jv s lv mo i
 end_:Uw s lv (Iz s lv mo) (Az (Jv s lv mo))=0
 few:∀i,i<=Iz s lv mo->Uw s lv i (Az (Jv s lv mo))<=1000
theorem avH(P:YM n g m h)(hl:1<=lv/\lv<=3)(hy:gyB (hsS n g m h) lv mo=aF):StK (hsS n g m h) lv mo:=by
 unfold gyB gaB at hy;simp only[aJ] at hy;obtain ⟨⟨q1,q2,q3⟩,q4,q5⟩:=hy;have hT:((CB n g m h).okb&&decide ((CB n g m h).n<=12))=aF:=q3;rw[aJ,decide_eq_true_eq] at hT;have G:=P9 (lv:=lv) (acS P hT.1 hT.2);have hN:(Gb (D8 (hsS n g m h) lv)).n<=12:=asC q3;have hN':(D8 (hsS n g m h) lv).N<=12:=hN;have m1:1<=mo.toNat:=by
  unfold YP at q2;simp only[aJ,decide_eq_true_eq] at q2;omega
 unfold rsB at q4;obtain ⟨r,hr⟩:=Option.isSome_iff_exists.1 q4;have eL:rsL (hsS n g m h) lv mo=r:=by unfold rsL;rw[hr];rfl
 unfold VJ at q5;rw[eL] at q5;obtain ⟨nd',w1,w2,w3,w4⟩:=amm asB m1 hr G.step YO G.start q5;have eS:VN (hsS n g m h) lv mo=Gs (Gb (D8 (hsS n g m h) lv)) (Dl (D8 (hsS n g m h) lv).k0) (D8 (hsS n g m h) lv).g0 r:=by unfold VN;rw[eL]
 have w1:walk (Gb (D8 (hsS n g m h) lv)) ⟨0,(D8 (hsS n g m h) lv).g0⟩ (VN (hsS n g m h) lv mo)=ay nd':=by rw[eS];exact w1
 have w4:(VN (hsS n g m h) lv mo).length=(Gb (D8 (hsS n g m h) lv)).n:=by rw[eS];exact w4
 have eN:Iz (hsS n g m h) lv mo=(Gb (D8 (hsS n g m h) lv)).n:=by
  rw[<-w4];show ((VN (hsS n g m h) lv mo).map DI).length=_;rw[dQ]
 have wk:∀i,i<=Iz (hsS n g m h) lv mo->wkO (hsS n g m h) lv i (Az (Jv (hsS n g m h) lv mo))=walk (Gb (D8 (hsS n g m h) lv)) ⟨0,(D8 (hsS n g m h) lv).g0⟩ ((VN (hsS n g m h) lv mo).take i):=fun i hi=>by
  unfold wkO;rw[aq1 hi]
 have few:∀i,i<=Iz (hsS n g m h) lv mo->Uw (hsS n g m h) lv i (Az (Jv (hsS n g m h) lv mo))<=1000:=fun i hi=>by
  unfold Uw nxL;rw[wk i hi];obtain ⟨md,e1,_⟩:=ab6 w1 i;rw[e1];have h1:(turns (Gb (D8 (hsS n g m h) lv)) md).length<=124:=Nc (by omega) md;simp;omega
 refine ⟨by omega,?_,fun i hi=>?_,fun i hi=>?_,?_,few⟩
 ·rw[eN];rfl
 ·obtain ⟨md,e1,_⟩:=ab6 w1 i
  unfold naB;rw[q1,q3,Eh,wk i hi,e1,decide_eq_true (by omega:i<=1000)];rfl
 ·obtain ⟨md,e1,e2⟩:=ab6 w1 i
  obtain ⟨x,hx,hx2⟩:=avG hi;obtain ⟨t,ht,rfl⟩:=e2 x hx;have eX:nxL (hsS n g m h) lv i (Az (Jv (hsS n g m h) lv mo))=(turns (Gb (D8 (hsS n g m h) lv)) md).map fun t=>DI t.1:=by
   unfold nxL;rw[wk i (by omega),e1]
  obtain ⟨j,hj,e⟩:=List.getElem_of_mem ht;unfold Uw nxR;rw[eX];refine ⟨j,by simpa using hj,?_⟩;rw[hx2];unfold nth;rw[aX,eY,aS hj,e];rfl
 ·have e:(VN (hsS n g m h) lv mo).take (Iz (hsS n g m h) lv mo)=VN (hsS n g m h) lv mo:=List.take_of_length_le (by omega)
  unfold Uw nxL;rw[wk _ (Nat.le_refl _),e,w1];show ((turns (Gb (D8 (hsS n g m h) lv)) nd').map fun t=>DI t.1).length=0;rw[ais (g:=Gb (D8 (hsS n g m h) lv)) w3 w2];rfl
end
end Go.Pl
namespace Go.Proofs
open Go Go.Sx Go.Pl Go.Gm Go.Bf
theorem ait:Bh aB (BG W7) 15 ZQ:=abX O15 fun BI φ hφ=>by
 unfold ZQ at hφ;split at hφ
 ·rename_i s t u
  split at hφ
  ·rename_i lv mo e1 e2
   obtain ⟨q,hφ⟩:=hφ;unfold gyB gaB at q;simp only[aJ] at q;obtain ⟨⟨q1,q2,q3⟩,q4,q5⟩:=q;refine ⟨_,hφ,?_⟩;unfold D15;simp only[e1,e2];have hk:Qa s lv mo=aF:=by unfold Qa;rw[q2,q3];exact q4
   refine ⟨q1,fun _=>?_,fun c=>by rw[hk] at c;cases c⟩;rw[q5];exact ⟨⟨.inr rfl,ajA,rfl,trivial⟩,rfl,trivial⟩
  ·exact hφ.elim
 ·exact hφ.elim
theorem axx:Bh aB (BG W7) 15 ate:=abX O15 fun BI φ hφ=>by
 unfold ate at hφ;split at hφ
 ·rename_i s t u
  split at hφ
  ·rename_i lv mo e1 e2
   obtain ⟨q,hφ⟩:=hφ;unfold gnB gaB at q;simp only[aJ,iw] at q;obtain ⟨⟨q1,q2,q3⟩,q4,q5⟩:=q;refine ⟨_,hφ,?_⟩;unfold D15;simp only[e1,e2];have hk:Qa s lv mo=aF:=by unfold Qa;rw[q2,q3];exact q4
   have e0:Iz s lv mo=0:=by
    unfold Iz rtL Gs;unfold VJ at q5;rw[q5];rfl
   refine ⟨q1,fun _=>?_,fun c=>by rw[hk] at c;cases c⟩;rw[q5,e0];exact ⟨⟨.inr rfl,.inl ⟨rfl,rfl⟩,rfl,trivial⟩,rfl,trivial⟩
  ·exact hφ.elim
 ·exact hφ.elim
theorem aiu(Ut:Bh aB (BG W7) 11 W11){F:List Sh->Tree Sh}(hF:Bh aB (BG W7) 15 F)(stop:Nat->List Nat->Bool):Cb aB (C7 Aw W7 (L8 F) stop):=C7.Um (fun g F h=>by
 unfold L8 at h;split at h
 ·cases h;exact Ut
 ·cases h;exact hF
 ·cases h;exact atd
 ·cases h;exact O17
 ·cases h;exact aqT
 ·cases h) fun g h=>by
 unfold L8 at h;split at h;all_goals first|(cases h;done) |kernel_rfl
section
variable(Ut:Bh aB (BG W7) 11 W11){H0:Mem}{w0:World}{φ:Sh->Prop}{o m k:Nat}{og mg:Nat->List Sh}{r:Nat->DF}{c lv:Int}
include Ut
theorem alA{i:Nat}(hi:i<k)(hk:k<=12){q:Nat}(hq:q<=1000){x:Nat->DF}(hA:BK aB (C7 Aw W7 (L8 ZQ) Bc) (K0 H0 w0) 4 XE (L4a o m og mg k r c lv ((i+1:Nat):Int)) [] emp (up φ)):
  ∀u j f,j+u=q->(f=aF\/∃t,j<=t/\t<q/\x t=r i)->BK aB (C7 Aw W7 (L8 ZQ) Bc) (K0 H0 w0) 4 ZR (L4b o m og mg k r c lv (i:Nat) q x f (j:Nat)) [] emp (up φ)
 |0,j,f,hj,hf=>by
  have hf:f=aF:=hf.elim id fun ⟨t,h1,h2,_⟩=>by omega
  subst hf;refine FW (fn:=jS) (tb:=aq0) (by kernel_rfl) (by kernel_rfl) ?_;have lt {P:Prop} (h:Aw.lt (j:Int) (Aw.Bl q)=aF):P:=by simp[AO,Bg] at h;omega
  refine EP (dn _ _) (aiu Ut ait _) (hold:=BN) (m:=300) (n:=400) (ts:=[⟨4,ZR,L4b o m og mg k r c lv (i:Nat) q x aF 0,[]⟩,⟨4,XE,L4a o m og mg k r c lv ((i+1:Nat):Int),[]⟩]) ?_;refine acZ Aw W7 o m og mg k r c lv i ((i+1:Nat):Int) q x aF aF j 0 (c1:=aF) (c2:=aA) rfl rfl rfl (fun q=>lt q) (fun q=>lt q) (fun q=>lt q) (fun q=>lt q) (fun _ q=>by cases q) (fun _ _=>?_);exact ⟨⟨rfl,add1 (by omega),rfl,rfl,rfl,rfl,trivial⟩,_,rfl,hA⟩
 |u+1,j,f,hj,hf=>by
  refine FW (fn:=jS) (tb:=aq0) (by kernel_rfl) (by kernel_rfl) ?_;have no {P:Prop} (h:Aw.lt (j:Int) (Aw.Bl q)=aA):P:=by simp[AO,Bg] at h;omega
  have w1:Aw.add .i64 (j:Int) (ah 1)=((j+1:Nat):Int):=add1 (by omega);have inb:Aw.inB (j:Int) q=aF:=by simp[BO];omega
  have ald:Aw.inB (i:Int) k=aF:=by simp[BO];omega
  obtain ⟨f',hf',hx⟩:∃f',(f'=aF\/∃t,j+1<=t/\t<q/\x t=r i)/\(if f=aF then f'=aF else YR (x j) (r i)=f'):=by
   cases f with
   |true=>exact ⟨aF,.inl rfl,rfl⟩ |false=>
    refine ⟨_,?_,rfl⟩;obtain ⟨t,h1,h2,h3⟩:=hf.resolve_left (by simp);by_cases e:t=j
    ·subst e
     exact .inl (decide_eq_true h3)
    ·exact .inr ⟨t,by omega,h2,h3⟩
  have nx:=alA hi hk hq hA u (j+1) f' (by omega) hf';refine EP (dn _ _) (aiu Ut ait _) (hold:=BN) (m:=300) (n:=400) (ts:=[⟨4,ZR,L4b o m og mg k r c lv (i:Nat) q x f' ((j+1:Nat):Int),[]⟩,⟨4,XE,L4a o m og mg k r c lv 0,[]⟩]) ?_;refine acZ Aw W7 o m og mg k r c lv i 0 q x f f' j ((j+1:Nat):Int) rfl rfl rfl (fun _ _=>inb) (fun _ _=>ald) (fun _ c1=>?_) (fun _ c1=>?_) (fun q=>no q) (fun q=>no q)
  ·rw[if_pos c1] at hx
   exact ⟨⟨rfl,rfl,rfl,hx.symm,w1,rfl,rfl,rfl,rfl,trivial⟩,_,rfl,nx⟩
  ·rw[if_neg (by rw[c1];simp)] at hx
   exact ⟨⟨rfl,rfl,rfl,hx,w1,rfl,rfl,rfl,rfl,trivial⟩,_,rfl,nx⟩
theorem alB{s:Sh}{mo:Int}(hs:s=.agg [.sl 2 o og,.sl 8 m mg])(K:StK s lv mo)(tk:tkB s=aF)(hφ:up φ (.b aF)):∀u i,i+u=Iz s lv mo->
  BK aB (C7 Aw W7 (L8 ZQ) Bc) (K0 H0 w0) 4 XE (L4a o m og mg (Iz s lv mo) (Jv s lv mo) c lv (i:Nat)) [] emp (up φ)
 |0,i,hi=>by
  subst hs;have hi:i=Iz (.agg [.sl 2 o og,.sl 8 m mg]) lv mo:=hi;have hl:=K.len;refine FW (fn:=jS) (tb:=aqZ) (by kernel_rfl) (by kernel_rfl) ?_;refine EP (dn _ _) (aiu Ut ait _) (hold:=BN) (m:=300) (n:=400) (ts:=[⟨4,ZR,L4b o m og mg (Iz (.agg [.sl 2 o og,.sl 8 m mg]) lv mo) (Jv (.agg [.sl 2 o og,.sl 8 m mg]) lv mo) c lv 0 0 (fun _=>default) aA 0,[]⟩]) ?_;have e1:Aw.eq (i:Int) (Aw.Bl (Iz (.agg [.sl 2 o og,.sl 8 m mg]) lv mo))=aF:=by rw[hi,Bd,Bg];simp
  have e0:Aw.le (i:Int) (Aw.Bl (Iz (.agg [.sl 2 o og,.sl 8 m mg]) lv mo))=aF:=by rw[hi,DK,Bg];simp
  have ez:Uw (.agg [.sl 2 o og,.sl 8 m mg]) lv (Aw.toN (i:Int)) (Az (Jv (.agg [.sl 2 o og,.sl 8 m mg]) lv mo))=0:=by
   rw[show Aw.toN (i:Int)=i from rfl,hi];exact K.end_
  refine acY Aw W7 o m og mg _ _ c lv i 0 0 (fun _=>default) aA 0 (c0:=aF) (c1:=aF) (c2:=aF) e0 e1 (by rw[ez];rfl) (fun _=>?_) (fun _=>K.na i (by omega)) (fun _ _ _=>tk) (fun _ _ _=>?_) (fun _ _ q=>by cases q) (fun _ q=>by cases q) (fun q=>by cases q)
  ·rw[II,decide_eq_true_eq];omega
  ·have e:Aw.eq (ctI (.agg [.sl 2 o og,.sl 8 m mg]) lv) (i:Int)=aF:=by rw[K.cnt,hi,Bd];simp
   show up φ (.b (Aw.eq (ctI (.agg [.sl 2 o og,.sl 8 m mg]) lv) (i:Int)));rw[e];exact hφ
 |u+1,i,hi=>by
  have nx:=alB hs K tk hφ u (i+1) (by omega);subst hs;have hl:=K.len;obtain ⟨t,t1,t2⟩:=K.mid i (by omega);have inner:=alA Ut (o:=o) (m:=m) (og:=og) (mg:=mg) (c:=c) (lv:=lv) (i:=i) (by omega) hl (K.few i (by omega)) nx (Uw (.agg [.sl 2 o og,.sl 8 m mg]) lv i (Az (Jv (.agg [.sl 2 o og,.sl 8 m mg]) lv mo))) 0 aA (by omega) (.inr ⟨t,gV _,t1,t2⟩);refine FW (fn:=jS) (tb:=aqZ) (by kernel_rfl) (by kernel_rfl) ?_;refine EP (dn _ _) (aiu Ut ait _) (hold:=BN) (m:=300) (n:=400) (ts:=[⟨4,ZR,L4b o m og mg (Iz (.agg [.sl 2 o og,.sl 8 m mg]) lv mo) (Jv (.agg [.sl 2 o og,.sl 8 m mg]) lv mo) c lv (i:Nat) (Uw (.agg [.sl 2 o og,.sl 8 m mg]) lv i (Az (Jv (.agg [.sl 2 o og,.sl 8 m mg]) lv mo))) (nxR (.agg [.sl 2 o og,.sl 8 m mg]) lv i (Az (Jv (.agg [.sl 2 o og,.sl 8 m mg]) lv mo))) aA ((0:Nat):Int),[]⟩]) ?_;have e1:Aw.eq (i:Int) (Aw.Bl (Iz (.agg [.sl 2 o og,.sl 8 m mg]) lv mo))=aA:=by rw[Bd,Bg];simp;omega
  have e0:Aw.le (i:Int) (Aw.Bl (Iz (.agg [.sl 2 o og,.sl 8 m mg]) lv mo))=aF:=by rw[DK,Bg];simp;omega
  refine acY Aw W7 o m og mg _ _ c lv i (i:Nat) _ _ aA ((0:Nat):Int) (c0:=aF) (c1:=aA) e0 e1 rfl (fun _=>?_) (fun _=>K.na i (by omega)) (fun _ q=>by cases q) (fun _ q=>by cases q) (fun _ q=>by cases q) (fun _ _=>?_) (fun q=>by cases q)
  ·rw[II,decide_eq_true_eq];omega
  ·exact ⟨⟨rfl,rfl,rfl,rfl,rfl,rfl,rfl,rfl,rfl,trivial⟩,_,rfl,inner⟩
end
noncomputable def F4:List Sh->Tree Sh
 |[s,t,u]=>match BH t,BH u with
  |some _,ay _=>.need (hpB s) (.leaf (.v (.bool aF))) |_,_=>.fail
 |_=>.fail
theorem O4(Ut:Bh aB (BG W7) 11 W11):Bh aB (BG W7) 4 F4:=by
 intro H w BI args φ hon hgl hr hφ;unfold F4 at hφ;split at hφ
 ·rename_i s t u
  split at hφ
  ·rename_i l mo e1 e2
   obtain ⟨q1,hφ⟩:=hφ;have q1':=q1;obtain ⟨n,g,m,h,rfl,P⟩:=@of_decide_eq_true _ (bG _) q1;have hφ:φ (.v (.bool aF)):=hφ;have hn:jS.ntmps=107:=by kernel_rfl
   match args,hr with
   |[a0,a1,a2],⟨r0,r1,r2,_⟩=>
   have T:up φ (.b aF):=Cj (s':=.v (.bool aF)) (.inr rfl) hφ;have hl:=avF l;have go {F:List Sh->Tree Sh} (ts:List NG) (hF:Bh aB (BG W7) 15 F) (hm:CZ (Jq aB (C7 Aw W7 (L8 F) Bc) (K0 H w) ts emp (up φ)) (BA (C7 Aw W7 (L8 F) Bc) BN 300 400 4 [.code []] (AL 107 [.agg [.sl 2 n g,.sl 8 m h],.i .i64 l,.i .i64 mo] L0) [] ts)) :
     Calls aB 4 [a0,a1,a2].toArray w fun e w'=>∃v s H',e=.returned v/\φ s/\EJ H w s v H' w':=by
    refine Uf (C:=C7 Aw W7 (L8 F) Bc) (dn _ _) (fn:=jS) (Ew:=[hsS n g m h,.i .i64 l,.i .i64 mo]) (L:=L0) (by kernel_rfl) (by kernel_rfl) hon hgl ⟨r0,EH e1 r1,EH e2 r2,trivial⟩ ?_;refine EP (dn _ _) (aiu Ut hF _) (hold:=BN) (m:=300) (n:=400) (ts:=ts) ?_;rw[hn];exact hm
   cases hk:Qa (hsS n g m h) (Lu l) mo with
   |true=>
    have hk':=hk;unfold Qa at hk';simp only[aJ] at hk';obtain ⟨k1,k2,k3⟩:=hk';have ga:gaB (hsS n g m h) (Lu l) mo=aF:=afV P hl k1 k2;cases hy:VJ (hsS n g m h) (Lu l) mo with
    |true=>
     have gy:gyB (hsS n g m h) (Lu l) mo=aF:=by
      unfold gyB;rw[ga,show rsB (hsS n g m h) (Lu l) mo=aF from k3,hy];rfl
     have tk:tkB (hsS n g m h)=aF:=by
      have hT:((CB n g m h).okb&&decide ((CB n g m h).n<=12))=aF:=k2;rw[aJ] at hT;unfold tkB;rw[q1'];exact hT.1
     have K:=avH P hl gy;refine go [⟨4,XE,L4a n m g h (Iz (hsS n g m h) (Lu l) mo) (Jv (hsS n g m h) (Lu l) mo) (Uu (hsS n g m h) (Lu l) mo) (Lu l) ((0:Nat):Int),[]⟩] ait ?_;exact akk Aw W7 n m g h l mo ((0:Nat):Int) rfl rfl rfl (fun _ _ _=>gy) (fun _ _=>T) (fun _ _ _=>T) (fun _ _ _=>⟨⟨rfl,rfl,rfl,rfl,rfl,rfl,trivial⟩,_,rfl,alB Ut rfl K tk T (Iz (hsS n g m h) (Lu l) mo) 0 (Nat.zero_add _)⟩) (fun _=>T)
    |false=>
     have gn:gnB (hsS n g m h) (Lu l) mo=aF:=by
      unfold gnB;rw[ga,show rsB (hsS n g m h) (Lu l) mo=aF from k3,hy];rfl
     refine go [] axx ?_;exact FK (nd (Aw.le (Aw.Bl n) (ah 100)) (fun _=>nd (Aw.nt (Aw.le (Aw.Bl m) (ah 600))) (fun _=>T) (fun _=>nd (Aw.lt (ah 250) mo) (fun _=>T) (fun _=>an gn T))) (fun _=>T)) (by kernel_rfl)
   |false=>
    have gx:gxB (YQ (hsS n g m h) (Lu l) mo) (hsS n g m h) (Lu l) mo=aF:=by
     unfold gxB;rw[aki P hl,hk];simp
    generalize YQ (hsS n g m h) (Lu l) mo=k at gx;refine go [] (axv k) ?_;have tm:=nd (Aw.le (Aw.Bl n) (ah 100)) (fun _=>nd (Aw.nt (Aw.le (Aw.Bl m) (ah 600))) (fun _=>T) (fun _=>nd (Aw.lt (ah 250) mo) (fun _=>T) (fun _=>an gx T))) (fun _=>T);cases k with
    |true=>exact FK tm (by kernel_rfl) |false=>exact FK tm (by kernel_rfl)
  ·exact hφ.elim
 ·exact hφ.elim
end Go.Proofs
namespace Go.Gm
open Go.Bf
theorem aeC{α β:Type}{p:β->Bool}{q:α->Bool}{F:α->β}:∀{l:List α},(∀x∈l,p (F x)=q x)->(l.map F).find? p=(l.find? q).map F
 |[],_=>rfl |a::l,h=>by
  rw[jr,wP,wP,h a cO];cases q a with
  |true=>rfl |false=>exact aeC fun x hx=>h x (dB _ hx)
section
variable{S S' κ κ':Type}[DecidableEq κ][DecidableEq κ']{g:Game S}{g':Game S'}{key:Nd S->κ}{key':Nd S'->κ'}{f:S'->S}{Q:Nd S'->Prop}
def DZ(f:S'->S)(nd:Nd S'):Nd S:=⟨nd.placed,f nd.st⟩
structure Oy(g:Game S)(g':Game S')(f:S'->S)(Q:Nd S'->Prop):Prop where
 n:g.n=g'.n
 id:∀i,i<g'.n->g.id i=g'.id i
 com:∀i,i<g'.n->g.com i=g'.com i
 YD:∀i,i<g'.n->g.YD i=g'.YD i
 mask:∀i,i<g'.n->g.mask i=g'.mask i
 all:g.all=g'.all
 run:∀nd,Q nd->∀i,i<g'.n->may g' nd.placed i=aF->g.run (f nd.st) i=(g'.run nd.st i).map f
 step:∀nd,Q nd->∀t∈next g' nd,Q t
theorem aq2(h:Oy g g' f Q)(p i:Nat)(hi:i<g'.n):may g p i=may g' p i:=by
 unfold may;rw[h.n,h.mask i hi]
theorem akl(h:Oy g g' f Q){nd:Nd S'}(hq:Q nd){i:Nat}(hi:i<g'.n):GI g (DZ f nd) i=(GI g' nd i).map fun t=>(t.1,DZ f t.2):=by
 unfold GI;have e:may g (DZ f nd).placed i=may g' nd.placed i:=aq2 h _ _ hi;rw[e];cases hm:may g' nd.placed i with
 |false=>rfl |true=>
  have hr:=h.run nd hq i hi hm;have hr:g.run (DZ f nd).st i=(g'.run nd.st i).map f:=hr;rw[if_pos rfl,if_pos rfl,hr,h.com i hi,h.YD i hi,h.all,h.id i hi,List.map_append];have hs:((g'.run nd.st i).map f).isSome=(g'.run nd.st i).isSome:=by cases g'.run nd.st i<;>rfl
  rw[hs];congr 1
  ·cases g'.com i<;>cases g'.run nd.st i<;>rfl
  ·split<;>rfl
theorem VO(h:Oy g g' f Q){nd:Nd S'}(hq:Q nd):turns g (DZ f nd)=(turns g' nd).map fun t=>(t.1,DZ f t.2):=by
 unfold turns;rw[h.n,List.map_flatMap,mD,mD];congr 1;exact List.map_congr_left fun i hi=>akl h hq (dD.1 hi)
theorem aeD(h:Oy g g' f Q){nd:Nd S'}(hq:Q nd):next g (DZ f nd)=(next g' nd).map (DZ f):=by
 unfold next;rw[VO h hq,mP,mP];rfl
theorem aeE(h:Oy g g' f Q)(nd:Nd S'):full g (DZ f nd)=full g' nd:=by unfold full;rw[h.n];rfl
variable(hk:∀x y,Q x->Q y->(key (DZ f x)=key (DZ f y)↔key' x=key' y))
include hk
theorem aq3{o:List (Nd S')}(ho:∀x∈o,Q x){n:Nd S'}(hn:Q n):J5 key (o.map (DZ f)) (key (DZ f n))=J5 key' o (key' n):=by
 rw[wQ,J6,J6];constructor
 ·intro ⟨x,hx,e⟩
  obtain ⟨y,hy,rfl⟩:=dL.1 hx;exact ⟨y,hy,(hk y n (ho y hy) hn).1 e⟩
 ·intro ⟨y,hy,e⟩
  exact ⟨DZ f y,dL.2 ⟨y,hy,rfl⟩,(hk y n (ho y hy) hn).2 e⟩
theorem aq4{m:Nat}{o:List (Nd S')}(ho:∀x∈o,Q x){n:Nd S'}(hn:Q n):Ii key m (o.map (DZ f)) (DZ f n)=(Ii key' m o n).map (mY (DZ f)):=by
 unfold Ii;rw[aq3 hk ho hn,dQ];split
 ·rfl
 ·split
  ·rfl
  ·simp
theorem aeF{m:Nat}:∀{l o:List (Nd S')},(∀x∈o,Q x)->(∀x∈l,Q x)->FY key m (o.map (DZ f)) (l.map (DZ f))=(FY key' m o l).map (mY (DZ f))
 |[],o,_,_=>rfl |n::l,o,ho,hl=>by
  rw[jr,FY,FY,aq4 hk ho (hl n cO)];cases hp:Ii key' m o n with
  |none=>rfl |some o1=>exact aeF (aef hp ho (hl n cO)) fun x hx=>hl x (dB _ hx)
theorem aiv(h:Oy g g' f Q){m:Nat}:∀{fu i:Nat} {o:List (Nd S')},(∀x∈o,Q x)->MN key (next g) m fu (o.map (DZ f)) i=(MN key' (next g') m fu o i).map (mY (DZ f))
 |0,_,_,_=>rfl |fu+1,i,o,ho=>by
  rw[MN,MN,eY];cases hi:o[i]? with
  |none=>rfl |some n=>
   have hn:=ho n (bP hi);simp only[Option.map_some];rw[aeD h hn,aeF hk ho (h.step n hn)];cases hp:FY key' m o (next g' n) with
   |none=>rfl |some o1=>exact aiv h (TY hp ho (h.step n hn))
theorem Q7(h:Oy g g' f Q):∀{r:List (Nd S')},(∀x∈r,Q x)->∀n,Q n->Iw key (next g) (full g) (r.map (DZ f)) (key (DZ f n))=Iw key' (next g') (full g') r (key' n)
 |[],_,_,_=>rfl |a::r,hr,n,hn=>by
  have ha:=hr a cO;have hr':=fun x hx=>hr x (dB a hx);rw[jr,Iw,Iw];by_cases e:key' a=key' n
  ·rw[if_pos e,if_pos ((hk a n ha hn).2 e),aeE h,aeD h ha,List.any_map]
   congr 1;rw[wQ,pY,pY];constructor
   ·intro ⟨t,ht,q⟩
    exact ⟨t,ht,by rw[<-Q7 h hr' t (h.step a ha t ht)];exact q⟩
   ·intro ⟨t,ht,q⟩
    exact ⟨t,ht,(Q7 h hr' t (h.step a ha t ht)).trans q⟩
  ·rw[if_neg e,if_neg (fun q=>e ((hk a n ha hn).1 q))]
   exact Q7 h hr' n hn
theorem akm(h:Oy g g' f Q){s:S'}(hs:Q (start s))(m:Nat):EU g key (f s) m=(EU g' key' s m).map (mY (DZ f)):=by
 unfold EU;have:=aiv hk h (m:=m) (fu:=m+1) (i:=0) (o:=[start s]) (fun x hx=>by
  obtain rfl:x=start s:=by simpa using hx
  exact hs)
 exact this
theorem alC(h:Oy g g' f Q){r:List (Nd S')}(hr:∀x∈r,Q x){n:Nd S'}(hn:Q n):Ti g key (r.map (DZ f)) (DZ f n)=Ti g' key' r n:=Q7 hk h hr n hn
theorem aiw(h:Oy g g' f Q){r:List (Nd S')}(hr:∀x∈r,Q x){s:S'}(hs:Q (start s)):PO g key (f s) (r.map (DZ f))=PO g' key' s r:=alC hk h hr hs
theorem ac0(h:Oy g g' f Q){r:List (Nd S')}(hr:∀x∈r,Q x):∀fu (n:Nd S'),Q n->least g (Ti g key (r.map (DZ f))) fu (DZ f n)=least g' (Ti g' key' r) fu n
 |0,_,_=>rfl |fu+1,n,hn=>by
  rw[least,least,aeE h,VO h hn];rw[aeC (p:=fun t=>Ti g key (r.map (DZ f)) t.2) (q:=fun t=>Ti g' key' r t.2) (F:=fun t=>(t.1,DZ f t.2)) fun t ht=>alC hk h hr (h.step n hn _ (dL.2 ⟨t,ht,rfl⟩))];cases hf:(turns g' n).find? fun t=>Ti g' key' r t.2 with
  |none=>rfl |some t=>
   have ht:=h.step n hn t.2 (dL.2 ⟨t,List.mem_of_find?_eq_some hf,rfl⟩);show (if full g' n=aF then [] else t.1::least g (Ti g key (r.map (DZ f))) fu (DZ f t.2))=_;rw[ac0 h hr fu t.2 ht]
theorem akn(h:Oy g g' f Q){r:List (Nd S')}(hr:∀x∈r,Q x){s:S'}(hs:Q (start s)):Gs g key (f s) (r.map (DZ f))=Gs g' key' s r:=by
 unfold Gs;rw[aiw hk h hr hs,h.n];split
 ·exact ac0 hk h hr _ _ hs
 ·rfl
omit hk in
end
end Go.Gm
namespace Go.Pl
open Go Go.Sx Go.Proofs Go.Gm Go.Bf
def IQ(l:List Di)(j:Nat):Di:=l.getD j NQ
def TB(n:Nat):List Di->List Dd->Option (List Di)
 |l,[]=>ay l |l,d::r=>if d.ret=0 then TB n l r else if YC n (IQ l) d.obj d.op d.key d.val=aF then
   (if (EY (IQ l d.obj.toNat) d.op d.key d.val).2.1=d.ret/\(EY (IQ l d.obj.toNat) d.op d.key d.val).2.2=d.got then TB n (l.set d.obj.toNat (EY (IQ l d.obj.toNat) d.op d.key d.val).1) r else aN) else aN
def Hg(n:Nat)(g0:SG)(l:List Di):SG:=fun j=>if j<n then Dy (IQ l j) else g0 j
def KR(B:Ij):Game (List Di) where
 n:=B.N
 id i:=(B.T i).id
 com i:=(B.T i).st==3||(B.T i).st==2
 YD i:=!((B.T i).st==3)
 mask i:=(B.ms i).toNat
 run l i:=TB B.k0 l (lst Dd (B.T i).k (B.T i).g)
 all:=B.lv==3
def Qb(nd:Nd (List Di)):Nat×List Di:=(nd.placed,nd.st)
section
variable{n:Nat}{g0:SG}
theorem ac1(l:List Di):∀j,j<n->Hg n g0 l j=Dy (IQ l j):=fun _ hj=>if_pos hj
theorem aq5(l:List Di):∀j,j<n->EG n (Hg n g0 l) j=IQ l j:=akV (ac1 l)
theorem amS(l:List Di)(k:Nat)(s:Di)(hk:k<l.length)(j:Nat):IQ (l.set k s) j=if j=k then s else IQ l j:=by
 unfold IQ;rw[aX,aX,List.getElem?_set];by_cases e:k=j
 ·subst e;simp[hk]
 ·rw[if_neg e,if_neg (fun h=>e h.symm)]
theorem afW(n:Nat)(g0:SG):∀(dd:List Dd) (l:List Di) (i:Nat),l.length=n->
  match TB n l dd with
  |some l'=>Iu n (Hg n g0 l) i dd=.inr (Hg n g0 l')/\l'.length=n |none=>∃q,Iu n (Hg n g0 l) i dd=.inl q
 |[],l,i,hl=>⟨rfl,hl⟩ |d::dd,l,i,hl=>by
  unfold TB Iu;by_cases h0:d.ret=0
  ·rw[if_pos h0,if_pos h0]
   exact afW n g0 dd l (i+1) hl
  ·rw[if_neg h0,if_neg h0]
   have hok:Un n (Hg n g0 l) d.obj d.op d.key d.val=YC n (IQ l) d.obj d.op d.key d.val:=acP (aq5 l) _ _ _ _;rw[hok];by_cases h1:YC n (IQ l) d.obj d.op d.key d.val=aF
   ·rw[if_pos h1,if_pos h1]
    obtain ⟨hi,_⟩:=aia h1;have hi':0<=d.obj/\d.obj<n:=of_decide_eq_true hi;have hs:EG n (Hg n g0 l) d.obj.toNat=IQ l d.obj.toNat:=aq5 l _ (by omega);have hr:ahF n (Hg n g0 l) d.obj d.op d.key d.val=(EY (IQ l d.obj.toNat) d.op d.key d.val).2.1:=by unfold ahF;rw[hs]
    have hgt:ahG n (Hg n g0 l) d.obj d.op d.key d.val=(EY (IQ l d.obj.toNat) d.op d.key d.val).2.2:=by unfold ahG;rw[hs]
    have hn:abW n (Hg n g0 l) d.obj d.op d.key d.val=Hg n g0 (l.set d.obj.toNat (EY (IQ l d.obj.toNat) d.op d.key d.val).1):=by
     funext j;show (if J3 n d.obj=aF/\j=d.obj.toNat then Dy (EY (EG n (Hg n g0 l) d.obj.toNat) d.op d.key d.val).1 else Hg n g0 l j)=if j<n then Dy (IQ (l.set d.obj.toNat _) j) else g0 j;rw[hs,amS _ _ _ (by omega)];by_cases e:j=d.obj.toNat
     ·rw[if_pos ⟨hi,e⟩,if_pos (by omega),if_pos e]
     ·rw[if_neg (fun q=>e q.2),if_neg e];rfl
    rw[hr,hgt,hn];by_cases h2:(EY (IQ l d.obj.toNat) d.op d.key d.val).2.1=d.ret/\(EY (IQ l d.obj.toNat) d.op d.key d.val).2.2=d.got
    ·rw[if_pos h2,if_pos h2]
     exact afW n g0 dd _ (i+1) (by rw[List.length_set];exact hl)
    ·rw[if_neg h2,if_neg h2]
     exact ⟨_,rfl⟩
   ·rw[if_neg h1,if_neg h1]
    exact ⟨_,rfl⟩
end
section
variable{lv:Int}{n:Nat}{og:Nat->List Sh}{B:Tm}
def QlP(lv:Int)(n:Nat)(og:Nat->List Sh)(B:Tm)(nd:Nd (List Di)):Prop:=nd.st.length=n/\QnP lv n og B (DZ (Hg n (Ik og)) nd)
theorem ako(nd:Nd (List Di))(hl:nd.st.length=n)(i:Nat):
  (Gb (BR lv n og B)).run (Hg n (Ik og) nd.st) i=((KR (BR lv n og B)).run nd.st i).map (Hg n (Ik og))/\∀l',(KR (BR lv n og B)).run nd.st i=ay l'->l'.length=n:=by
 have h:=afW n (Ik og) (lst Dd ((BR lv n og B).T i).k ((BR lv n og B).T i).g) nd.st 0 hl;show (if plO n (Hg n (Ik og) nd.st) ((BR lv n og B).T i).k ((BR lv n og B).T i).g=aF then ay (Uo n (Hg n (Ik og) nd.st) ((BR lv n og B).T i).k ((BR lv n og B).T i).g) else aN)=(TB n nd.st (lst Dd ((BR lv n og B).T i).k ((BR lv n og B).T i).g)).map (Hg n (Ik og))/\∀l',TB n nd.st (lst Dd ((BR lv n og B).T i).k ((BR lv n og B).T i).g)=ay l'->l'.length=n;unfold plO Uo ab1 ab2;cases hp:TB n nd.st (lst Dd ((BR lv n og B).T i).k ((BR lv n og B).T i).g) with
 |some l'=>
  rw[hp] at h;rw[h.1];exact ⟨rfl,fun l2 e=>by cases e;exact h.2⟩
 |none=>
  rw[hp] at h;obtain ⟨q,hq⟩:=h;rw[hq];exact ⟨rfl,fun l2 e=>by cases e⟩
theorem XF(P:TbP n og B):Oy (Gb (BR lv n og B)) (KR (BR lv n og B)) (Hg n (Ik og)) (QlP lv n og B) where
 n:=rfl
 id _ _:=rfl
 com _ _:=rfl
 YD _ _:=rfl
 mask _ _:=rfl
 all:=rfl
 run nd hq i _ _:=(ako nd hq.1 i).1
 step nd hq t ht:=by
  have hG:=P9 (lv:=lv) P;have hlen:t.st.length=n:=by
   unfold next turns at ht;obtain ⟨x,hx,rfl⟩:=dL.1 ht;obtain ⟨i,hi,hx⟩:=ji.1 hx;unfold GI at hx;split at hx
   ·rcases bK.1 hx with hx|hx
    ·split at hx
     ·rename_i s e1 e2
      obtain rfl:x=_:=by simpa using hx
      exact (ako (lv:=lv) (og:=og) (B:=B) nd hq.1 i).2 s e2
     ·cases hx
    ·split at hx
     ·obtain rfl:x=_:=by simpa using hx
      exact hq.1
     ·cases hx
   ·cases hx
  refine ⟨hlen,hG.step _ hq.2 _ ?_⟩;have key:Oy (Gb (BR lv n og B)) (KR (BR lv n og B)) (Hg n (Ik og)) (fun x=>x=nd/\x.st.length=n)\/True:=.inr trivial;unfold next turns at ht ⊢;obtain ⟨x,hx,rfl⟩:=dL.1 ht;obtain ⟨i,hi,hx⟩:=ji.1 hx;refine dL.2 ⟨(x.1,DZ (Hg n (Ik og)) x.2),ji.2 ⟨i,hi,?_⟩,rfl⟩;have hr:=(ako (lv:=lv) (og:=og) (B:=B) nd hq.1 i).1;unfold GI at hx ⊢;have em:may (Gb (BR lv n og B)) (DZ (Hg n (Ik og)) nd).placed i=may (KR (BR lv n og B)) nd.placed i:=rfl;rw[em];have hr':(Gb (BR lv n og B)).run (DZ (Hg n (Ik og)) nd).st i=((KR (BR lv n og B)).run nd.st i).map (Hg n (Ik og)):=hr;rw[hr'];split at hx
  ·rename_i hm
   rw[if_pos hm];rcases bK.1 hx with hx|hx
   ·refine kR _ ?_
    split at hx
    ·rename_i s e1 e2
     obtain rfl:x=_:=by simpa using hx
     rw[e2];have e1':(Gb (BR lv n og B)).com i=aF:=e1;rw[e1'];exact uw.2 rfl
    ·cases hx
   ·refine iy _ ?_
    split at hx
    ·rename_i hc
     obtain rfl:x=_:=by simpa using hx
     have hc':(Gb (BR lv n og B)).YD i=aF/\((Gb (BR lv n og B)).all=aF->(((KR (BR lv n og B)).run nd.st i).map (Hg n (Ik og))).isSome=aF):=⟨hc.1,fun q=>by
      have:=hc.2 q;revert this;cases (KR (BR lv n og B)).run nd.st i<;>simp⟩
     rw[if_pos hc'];exact uw.2 rfl
    ·cases hx
  ·cases hx
theorem amT{l l':List Di}(h1:l.length=n)(h2:l'.length=n)(h:∀j,j<n->IQ l j=IQ l' j):l=l':=by
 apply vW (by omega);intro j hj hj';have:=h j (by omega);unfold IQ at this;rw[aX,aX,aS hj,aS hj'] at this;exact this
theorem akp:∀x y,QlP lv n og B x->QlP lv n og B y->(Dl n (DZ (Hg n (Ik og)) x)=Dl n (DZ (Hg n (Ik og)) y)↔Qb x=Qb y):=fun x y hx hy=>by
 constructor
 ·intro h
  have e:=YO _ _ hx.2 hy.2 h;obtain ⟨p,l⟩:=x;obtain ⟨p',l'⟩:=y;have e1:p=p':=congrArg Nd.placed e;have e2:Hg n (Ik og) l=Hg n (Ik og) l':=congrArg Nd.st e;have e3:l=l':=amT hx.1 hy.1 fun j hj=>by
   have:=congrFun e2 j;rw[ac1 l j hj,ac1 l' j hj] at this;exact TU this
  rw[e1,e3]
 ·intro h
  obtain ⟨p,l⟩:=x;obtain ⟨p',l'⟩:=y;have h:(p,l)=(p',l'):=h;cases h;rfl
def newL(n:Nat)(og:Nat->List Sh):List Di:=(aY n).map fun j=>newT (AB og) j
theorem afX:Hg n (Ik og) (newL n og)=Ik og:=by
 funext j;unfold Hg;split
 ·rename_i hj
  unfold IQ newL;rw[aX,eY,tJ hj];rfl
 ·rfl
theorem TD(P:TbP n og B):QlP lv n og B (jk (newL n og)):=⟨by show (newL n og).length=n;unfold newL;simp,by
 have h:=(P9 (lv:=lv) P).start;have e:DZ (Hg n (Ik og)) (jk (newL n og))=⟨0,(BR lv n og B).g0⟩:=by
  show (⟨0,Hg n (Ik og) (newL n og)⟩:Nd SG)=⟨0,Ik og⟩;rw[afX]
 rw[e];exact h⟩
end
open Go Go.Sx Go.Proofs Go.Gm Go.Bf
def ex(k t th o p v r:Int):List Sh:=[.i .i64 k,.i .i64 t,.i .i64 th,.i .i64 o,.i .i64 p,.i .i64 0,.i .i64 v,.i .i64 r]
def EI:Nat->List Sh:=BD [[.i .i64 1,.i .i64 0]]
def exL:List (List Sh):=[ex 1 1 0 0 0 0 0,ex 1 2 1 0 0 0 0,ex 2 1 0 0 1 0 0,ex 3 1 0 0 0 0 3,ex 2 2 0 0 1 0 0,ex 3 2 0 0 0 0 3,ex 2 1 0 0 2 1 0,ex 3 1 0 0 0 0 1,ex 2 2 0 0 2 2 0,ex 3 2 0 0 0 0 1,ex 4 1 0 0 0 0 0,ex 5 1 0 0 0 0 0,ex 4 2 0 0 0 0 0]
def IY:Nat->List Sh:=BD exL
def exK:Nat->List Sh:=Aw.snoc IY 13 (BD [ex 5 2 0 0 0 0 0])
section
variable{n m:Nat}{g h:Nat->List Sh}{lv:Int}
theorem akq(P:YM n g m h)(hb:(D8 (hsS n g m h) lv).okb=aF)(mo:Int):
  rsP (hsS n g m h) lv mo=(EU (KR (D8 (hsS n g m h) lv)) Qb (newL n g) mo.toNat).map (mY (DZ (Hg n (Ik g))))/\
  ∀r,EU (KR (D8 (hsS n g m h) lv)) Qb (newL n g) mo.toNat=ay r->VJ (hsS n g m h) lv mo=PO (KR (D8 (hsS n g m h) lv)) Qb (newL n g) r/\rtL (hsS n g m h) lv mo=(Gs (KR (D8 (hsS n g m h) lv)) Qb (newL n g) r).map DI/\Uu (hsS n g m h) lv mo=((r.length:Nat):Int):=by
 have hT:((CB n g m h).okb&&decide ((CB n g m h).n<=12))=aF:=hb;rw[aJ,decide_eq_true_eq] at hT;have T:=acS P hT.1 hT.2;have hp:=akm (key:=Dl n) (key':=Qb) (akp (lv:=lv)) (XF T) (TD T) mo.toNat;rw[afX] at hp;have e1:rsP (hsS n g m h) lv mo=(EU (KR (D8 (hsS n g m h) lv)) Qb (newL n g) mo.toNat).map (mY (DZ (Hg n (Ik g)))):=hp;refine ⟨e1,fun r hr=>?_⟩;have hr':EU (KR (BR lv n g (CB n g m h))) Qb (newL n g) mo.toNat=ay r:=hr;have hq:∀x∈r,QlP lv n g (CB n g m h) x:=PN (XF T).step hr' (fun x hx=>by
  obtain rfl:x=jk (newL n g):=by simpa using hx
  exact TD T)
 have eL:rsL (hsS n g m h) lv mo=r.map (DZ (Hg n (Ik g))):=by unfold rsL;rw[e1,hr];rfl
 have hy:=aiw (key:=Dl n) (key':=Qb) (akp (lv:=lv)) (XF T) hq (TD T);have hs:=akn (key:=Dl n) (key':=Qb) (akp (lv:=lv)) (XF T) hq (TD T);rw[afX] at hy hs;refine ⟨?_,?_,?_⟩
 ·unfold VJ;rw[eL];exact hy
 ·unfold rtL;rw[eL];exact congrArg (mY DI) hs
 ·unfold Uu;rw[eL,dQ]
end
theorem exH:YM 1 EI 13 IY:=⟨by kernel_rfl,by kernel_rfl,by kernel_rfl,by kernel_rfl⟩
theorem aq7:YM 1 EI 14 exK:=⟨by kernel_rfl,by kernel_rfl,by kernel_rfl,by kernel_rfl⟩
theorem YS:(D8 (hsS 1 EI 13 IY) 1).okb=aF:=by kernel_rfl
theorem alD:(D8 (hsS 1 EI 14 exK) 1).okb=aF:=by kernel_rfl
theorem axy:(match EU (KR (D8 (hsS 1 EI 13 IY) 1)) Qb (newL 1 EI) 100 with
  |some r=>r.length==5&&(PO (KR (D8 (hsS 1 EI 13 IY) 1)) Qb (newL 1 EI) r&&decide (Gs (KR (D8 (hsS 1 EI 13 IY) 1)) Qb (newL 1 EI) r=[(1,aF),(2,aA)])) |none=>aA)=aF:=by kernel_rfl
theorem axz:(EU (KR (D8 (hsS 1 EI 13 IY) 1)) Qb (newL 1 EI) 4).isNone=aF:=by kernel_rfl
theorem axA:(match EU (KR (D8 (hsS 1 EI 14 exK) 1)) Qb (newL 1 EI) 100 with
  |some r=>r.length==3 && !PO (KR (D8 (hsS 1 EI 14 exK) 1)) Qb (newL 1 EI) r |none=>aA)=aF:=by kernel_rfl
theorem axB:((turns (KR (D8 (hsS 1 EI 13 IY) 1)) (jk (newL 1 EI))).map (·.1))=[(1,aF),(2,aF),(2,aA)]:=by kernel_rfl
end Go.Pl
namespace Go.Sx
def Tree.way{α:Type}:Tree α->List BQ->Option (List BQ×α)
 | .leaf a,l=>ay (l,a) | .node b t f,l=>bif b then t.way l else f.way l | .need b t,l=>bif b then t.way l else aN | .must q t,l=>t.way (q++l) | .both _ _,_=>aN | .fail,_=>aN
theorem BQ.all_append:∀{l m:List BQ},dI (l++m)->dI l/\dI m
 |[],_,h=>⟨trivial,h⟩ |_::_,_,h=>let ⟨h1,h2⟩:=BQ.all_append h.2;⟨⟨h.1,h1⟩,h2⟩
theorem Tree.Oz{α:Type}{φ:α->Prop}:∀{t:Tree α} {l q:List BQ} {a:α},t.way l=ay (q,a)->dI q->φ a->t.All φ/\dI l
 | .leaf _,_,_,_,h,hq,ha=>by cases h;exact ⟨ha,hq⟩ | .node b t f,l,q,a,h,hq,ha=>by
  cases b with
  |true=>exact ⟨⟨fun _=>(Tree.Oz (t:=t) h hq ha).1,fun e=>by cases e⟩,(Tree.Oz (t:=t) h hq ha).2⟩ |false=>exact ⟨⟨fun e=>(by cases e),fun _=>(Tree.Oz (t:=f) h hq ha).1⟩,(Tree.Oz (t:=f) h hq ha).2⟩
 | .need b t,l,q,a,h,hq,ha=>by
  cases b with
  |true=>exact ⟨⟨rfl,(Tree.Oz (t:=t) h hq ha).1⟩,(Tree.Oz (t:=t) h hq ha).2⟩ |false=>cases h
 | .must e t,l,q,a,h,hq,ha=>by
  have h1:=Tree.Oz (t:=t) (φ:=φ) h hq ha;have h2:=BQ.all_append h1.2;exact ⟨⟨h2.1,h1.1⟩,h2.2⟩
 | .both _ _,_,_,_,h,_,_=>by cases h | .fail,_,_,_,h,_,_=>by cases h
end Go.Sx
namespace Go.Pl
open Go Go.Sx
def ckR(α:Type)[zh α][DecidableEq α](n:Nat)(g:Nat->List Sh)(n0:Nat)(g0:Nat->List Sh):Bool:=oN α n g&&(fC n n0&&decide (pG α n g=pG α n0 g0))
def avI:List (List Sh):=[[.i .i64 1,.b aF],[.i .i64 2,.b aA]]
def avJ:List (List Sh):=[[.i .i64 1,.b aF],[.i .i64 2,.b aF],[.i .i64 2,.b aA]]
end Go.Pl
namespace Go.Proofs
open Go Go.Sx Go.Pl
noncomputable def aq8:List Sh->Tree Sh
 |[.agg [.sl 2 n o,.sl 8 m e],t,u]=>match BH t,BH u with
  |some lv,ay mo=>bif ckR iQ n o 1 EI&&lv==1 then
    bif ckR iY m e 13 IY then bif mo==100 then .leaf (.Ba [.agg [.b aF,.sl 2 2 (BD avI),.i .i64 5],.v .nilIface])
     else bif mo==4 then .leaf (.Ba [.agg [.b aA,.sl 2 0 (fun _=>[]),.i .i64 0],.er 0 329]) else .fail
    else bif ckR iY m e 14 exK&&mo==100 then .leaf (.Ba [.agg [.b aA,.sl 2 0 (fun _=>[]),.i .i64 3],.v .nilIface]) else .fail
   else .fail
  |_,_=>.fail
 |_=>.fail
noncomputable def aq9:List Sh->Tree Sh
 |[.agg [.sl 2 n o,.sl 8 m e],t,v]=>match BH t,Ej 2 v with
  |some lv,ay (k,_)=>bif ckR iQ n o 1 EI&&(lv==1&&(ckR iY m e 13 IY&&fC k 0)) then .leaf (.Ba [.sl 2 3 (BD avJ),.v .nilIface]) else .fail |_,_=>.fail
 |_=>.fail
noncomputable def XG:Nat->Option (List Sh->Tree Sh)
 |15=>ay aq8 |16=>ay aq9 |19=>ay D19 |_=>aN
noncomputable def C11:Ctx:={C7 Aw W7 XG A8 with lits:=aF}
theorem w11:Tree.way (BA C11 BN 900 3000 11 [.code []] (AL 94 [] L0) [] []) []=ay ([],Eo.ret (Sh.b aF)):=by kernel_rfl
end Go.Proofs
namespace Go.Pl
open Go Go.Sx
theorem XH{α:Type}[zh α][DecidableEq α]{n n0:Nat}{g g0:Nat->List Sh}(h:ckR α n g n0 g0=aF)(h0:oN α n0 g0=aF):n=n0/\∀j,j<n->g j=g0 j:=by
 unfold ckR at h;rw[aJ,aJ,decide_eq_true_eq] at h;obtain ⟨h1,h2,h3⟩:=h;obtain rfl:=fH h2;refine ⟨rfl,fun j hj=>?_⟩;rw[wR h1 j hj,wR h0 j hj];have e:∀(f:Nat->List Sh),(pG α n f)[j]?=ay (Go.Cc.AB f j):=fun f=>by
  unfold pG;rw[eY,tJ hj];rfl
 have e1:=e g;rw[h3,e g0] at e1;rw[dH e1]
end Go.Pl
namespace Go.Proofs
open Go Go.Sx Go.Pl Go.Gm
theorem Ug{H:Mem}{n m n0 m0:Nat}{o e o0 e0:Nat->List Sh}{v:Value}(h1:n=n0/\∀j,j<n->o j=o0 j)(h2:m=m0/\∀j,j<m->e j=e0 j)(hr:Rep H (.agg [.sl 2 n o,.sl 8 m e]) v):Rep H (hsS n0 o0 m0 e0) v:=by
 obtain ⟨rfl,h1⟩:=h1;obtain ⟨rfl,h2⟩:=h2;exact QN hr ⟨fun _ r=>ER r h1,fun _ r=>ER r h2,trivial⟩
theorem Uh{P:Program}{gls:List (Nat×Sh)}{g:Nat}{F:List Sh->Tree Sh}(hF:Bh P gls g F){H:Mem}{w:World}{BI:List Sh}{args:List Value}{φ:Sh->Prop}(hon:H.on w)(hg:Dt gls H)(hr:D9 H BI args){s':Sh}(hφ:φ s')(h:(F BI).All fun s=>Wk s s'):
  Calls P g args.toArray w fun e w'=>∃v s H',e=.returned v/\φ s/\EJ H w s v H' w':=by
 refine (hF H w BI args _ hon hg hr h).mono fun e w' ⟨v,s,H',he,hs,r⟩=>?_;obtain ⟨H2,r2⟩:=r.wk hs;exact ⟨v,s',H2,he,hφ,r2⟩
theorem asG:rsB (hsS 1 EI 13 IY) 1 100=aF/\VJ (hsS 1 EI 13 IY) 1 100=aF/\rtL (hsS 1 EI 13 IY) 1 100=[⟨1,aF⟩,⟨2,aA⟩]/\Uu (hsS 1 EI 13 IY) 1 100=5:=by
 have h:=akq exH YS 100;have hr:=axy;split at hr
 ·rename_i r e
  obtain ⟨q1,q2,q3⟩:=h.2 r e;rw[aJ,aJ,beq_iff_eq,decide_eq_true_eq] at hr;refine ⟨?_,q1.trans hr.2.1,?_,?_⟩
  ·unfold rsB
   have e':EU (KR (D8 (hsS 1 EI 13 IY) 1)) Qb (newL 1 EI) (wS 100)=ay r:=e;rw[h.1,e'];rfl
  ·rw[q2,hr.2.2];rfl
  ·rw[q3,hr.1];rfl
 ·cases hr
theorem ara:rsB (hsS 1 EI 13 IY) 1 4=aA:=by
 have h:=akq exH YS 4;have h4:=Option.isNone_iff_eq_none.1 axz;unfold rsB;have e':EU (KR (D8 (hsS 1 EI 13 IY) 1)) Qb (newL 1 EI) (wS 4)=aN:=h4;rw[h.1,e'];rfl
theorem arb:rsB (hsS 1 EI 14 exK) 1 100=aF/\VJ (hsS 1 EI 14 exK) 1 100=aA/\Uu (hsS 1 EI 14 exK) 1 100=3/\rtL (hsS 1 EI 14 exK) 1 100=[]:=by
 have h:=akq aq7 alD 100;have hr:=axA;split at hr
 ·rename_i r e
  obtain ⟨q1,q2,q3⟩:=h.2 r e;rw[aJ,beq_iff_eq,iw] at hr;refine ⟨?_,q1.trans hr.2,?_,?_⟩
  ·unfold rsB
   have e':EU (KR (D8 (hsS 1 EI 14 exK) 1)) Qb (newL 1 EI) (wS 100)=ay r:=e;rw[h.1,e'];rfl
  ·rw[q3,hr.1];rfl
  ·rw[q2]
   unfold Gs;rw[if_neg (by rw[hr.2];simp)];rfl
 ·cases hr
theorem avK(u:Nat->List Sh):nxL (hsS 1 EI 13 IY) 1 0 u=[⟨1,aF⟩,⟨2,aF⟩,⟨2,aA⟩]/\(wkO (hsS 1 EI 13 IY) 1 0 u).isSome=aF:=by
 refine ⟨?_,rfl⟩;have hT:((CB 1 EI 13 IY).okb&&decide ((CB 1 EI 13 IY).n<=12))=aF:=YS;rw[aJ,decide_eq_true_eq] at hT;have T:=acS exH hT.1 hT.2;have ht:=VO (XF (lv:=1) T) (TD (lv:=1) T);have e:DZ (Hg 1 (Ik EI)) (jk (newL 1 EI))=⟨0,(D8 (hsS 1 EI 13 IY) 1).g0⟩:=by
  show (⟨0,Hg 1 (Ik EI) (newL 1 EI)⟩:Nd SG)=⟨0,Ik EI⟩;rw[afX]
 rw[e] at ht;show ((turns (Gb (D8 (hsS 1 EI 13 IY) 1)) ⟨0,(D8 (hsS 1 EI 13 IY) 1).g0⟩).map fun t=>DI t.1)=_;have ht':turns (Gb (D8 (hsS 1 EI 13 IY) 1)) ⟨0,(D8 (hsS 1 EI 13 IY) 1).g0⟩=(turns (KR (D8 (hsS 1 EI 13 IY) 1)) (jk (newL 1 EI))).map fun t=>(t.1,DZ (Hg 1 (Ik EI)) t.2):=ht;rw[ht',mP];have en:=axB;have e2:((turns (KR (D8 (hsS 1 EI 13 IY) 1)) (jk (newL 1 EI))).map ((fun t:(Int×Bool)×Nd SG=>DI t.1) ∘ fun t=>(t.1,DZ (Hg 1 (Ik EI)) t.2)))=((turns (KR (D8 (hsS 1 EI 13 IY) 1)) (jk (newL 1 EI))).map (·.1)).map DI:=by
  rw[mP];rfl
 rw[e2,en];rfl
theorem alE:YP 100=aF:=by kernel_rfl
theorem axC:YP 4=aF:=by kernel_rfl
theorem axD:Bh aB (BG W7) 15 aq8:=by
 intro H w BI args φ hon hgl hr hφ;unfold aq8 at hφ;split at hφ
 ·rename_i n o m e t u
  split at hφ
  ·rename_i lv mo e1 e2
   cases c1:(ckR iQ n o 1 EI&&lv==1)<;>simp only[c1,cond_true,cond_false] at hφ
   ·exact hφ.elim
   rw[aJ,beq_iff_eq] at c1;obtain ⟨c1,rfl⟩:=c1;have k1:=XH c1 exH.o;match args,hr with
   |[a0,a1,a2],⟨r0,r1,r2,_⟩=>
   have s2 {k:Nat} {f f':Nat->List Sh} (h:∀j,j<k->f j=f' j):Wk (.sl 2 k f) (.sl 2 k f'):=.inr ⟨rfl,rfl,h⟩;cases c2:ckR iY m e 13 IY<;>simp only[c2,cond_true,cond_false] at hφ
   ·cases c3:(ckR iY m e 14 exK&&mo==100)<;>simp only[c3,cond_true,cond_false] at hφ
    ·exact hφ.elim
    rw[aJ,beq_iff_eq] at c3;obtain ⟨c3,rfl⟩:=c3;have k2:=XH c3 aq7.p;refine Uh aqS hon hgl (BI:=[hsS 1 EI 14 exK,t,u]) ⟨Ug k1 k2 r0,r1,r2,trivial⟩ hφ ?_;unfold aii;simp only[e1,e2];obtain ⟨b1,b2,b3,b4⟩:=arb;refine ⟨afV aq7 (by decide) alE alD,fun _=>?_,fun c=>(by rw[b1] at c;cases c)⟩;refine ⟨⟨.inl (by rw[b2]),?_,by rw[b3];rfl,trivial⟩,rfl,trivial⟩;unfold Iz Jv;rw[b4];exact .inl ⟨rfl,rfl⟩
   ·have k2:=XH c2 exH.p
    cases c3:(mo==100)<;>simp only[c3,cond_true,cond_false] at hφ
    ·cases c4:(mo==4)<;>simp only[c4,cond_true,cond_false] at hφ
     ·exact hφ.elim
     rw[beq_iff_eq] at c4;subst c4;refine Uh aqS hon hgl (BI:=[hsS 1 EI 13 IY,t,u]) ⟨Ug k1 k2 r0,r1,r2,trivial⟩ hφ ?_;unfold aii;simp only[e1,e2];refine ⟨afV exH (by decide) axC YS,fun c=>(by rw[ara] at c;cases c),fun _=>?_⟩;exact ⟨⟨.inl rfl,.inl ⟨rfl,rfl⟩,rfl,trivial⟩,rfl,trivial⟩
    ·rw[beq_iff_eq] at c3
     subst c3;refine Uh aqS hon hgl (BI:=[hsS 1 EI 13 IY,t,u]) ⟨Ug k1 k2 r0,r1,r2,trivial⟩ hφ ?_;unfold aii;simp only[e1,e2];obtain ⟨b1,b2,b3,b4⟩:=asG;refine ⟨afV exH (by decide) alE YS,fun _=>?_,fun c=>(by rw[b1] at c;cases c)⟩;refine ⟨⟨.inl (by rw[b2]),?_,by rw[b4];rfl,trivial⟩,rfl,trivial⟩;unfold Iz Jv;rw[b3];refine .inr ⟨rfl,rfl,fun j hj=>?_⟩;have hj:j<2:=hj;match j,hj with
     |0,_=>rfl |1,_=>rfl
  ·exact hφ.elim
 ·exact hφ.elim
theorem axE:Bh aB (BG W7) 16 aq9:=by
 intro H w BI args φ hon hgl hr hφ;unfold aq9 at hφ;split at hφ
 ·rename_i n o m e t v
  split at hφ
  ·rename_i lv k u e1 e2
   cases c1:(ckR iQ n o 1 EI&&(lv==1&&(ckR iY m e 13 IY&&fC k 0)))<;>simp only[c1,cond_true,cond_false] at hφ
   ·exact hφ.elim
   rw[aJ,aJ,aJ,beq_iff_eq] at c1;obtain ⟨c1,rfl,c2,c3⟩:=c1;obtain rfl:=fH c3;have k1:=XH c1 exH.o;have k2:=XH c2 exH.p;match args,hr with
   |[a0,a1,a2],⟨r0,r1,r2,_⟩=>
   refine Uh atd hon hgl (BI:=[hsS 1 EI 13 IY,t,v]) ⟨Ug k1 k2 r0,r1,r2,trivial⟩ hφ ?_;unfold alv;simp only[e1,e2];obtain ⟨b1,b2⟩:=avK u;refine ⟨?_,?_,rfl,trivial⟩
   ·unfold naB
    rw[aki exH (by decide),YS,b2];rfl
   ·unfold Uw nxR
    rw[b1];refine .inr ⟨rfl,rfl,fun j hj=>?_⟩;have hj:j<3:=hj;match j,hj with
    |0,_=>rfl |1,_=>rfl |2,_=>rfl
  ·exact hφ.elim
 ·exact hφ.elim
theorem avL{P:Program}{C:Ctx}{K:Kx}{ts:List NG}{R:Hp->Prop}{φ:Sh->Prop}{t:Tree Eo}{q:List BQ}{s:Sh}(h:t.way []=ay (q,.ret s))(hq:dI q)(hs:φ s):CZ (Jq P C K ts R φ) t:=by
 rw[QM];exact (Tree.Oz h hq hs).1
theorem ard:BL aB C11:=by
 have h:=dn XG A8;exact ⟨h.1,h.2,h.3,h.4,h.5,h.6,h.7⟩
theorem axF:Cb aB C11:=by
 have h:=C7.Um (stop:=A8) (spec:=XG) (fun g F h=>by
  unfold XG at h;split at h
  ·cases h;exact axD
  ·cases h;exact axE
  ·cases h;exact avC
  ·cases h) fun g h=>by
  unfold XG at h;split at h;all_goals first|(cases h;done) |kernel_rfl
 exact ⟨h.1,h.2,h.3,h.4⟩
theorem Ut:Bh aB (BG W7) 11 W11:=by
 refine FX (C:=C11) ard (fn:=Tryz.f11) (by kernel_rfl) (by kernel_rfl) fun H w BI args φ hrep h=>?_
 have hn:Tryz.f11.ntmps=94:=by kernel_rfl
 unfold W11 at h;split at h
 ·refine ⟨[],hrep,L0,?_⟩
  refine EP ard axF (hold:=BN) (m:=900) (n:=3000) (ts:=[]) ?_;rw[hn];have hφ:φ (.v (.bool aF)):=h;exact avL w11 trivial (Cj (s':=.v (.bool aF)) (.inr rfl) hφ)
 ·exact h.elim
end Go.Proofs
namespace Go.Sx
open Go.RowKit Go.ChangeShapes Go.WideShapes Go.Deep
def EN(w:World):Mem:=fun b=>w.heap[b]?
theorem amU(w:World):(EN w).on w:=fun _ _ h=>h
theorem XI{w:World}{a:Addr}{v:Value}(h:w.cell? a=ay v):hcell (EN w) a.block a.off=ay v/\a.spot=aN:=by
 unfold World.cell? at h;unfold hcell EN;split at h
 ·rename_i c t f hb
  rw[hb];cases hs:a.spot with
  |none=>simp only[hs,Option.isSome_none,Bool.false_eq_true,if_false] at h;exact ⟨h,rfl⟩ |some x=>simp[hs] at h
 ·cases h
section
variable{H:Type}{enc:TypeId×Value->H}{P:Program}{w:World}{base:Nat}{spare:Nat->Bool}{held:Bool}
def arf(P:Program)(fs:Array Field)(k:Nat):Bool:=
 fs.size==k&&(aY k).all fun i=>match fs[i]? with
  |some f=>f.offset==i&&(match P.underlying f.type with|some (.int .i64)=>aF|_=>aA)&&P.cellsOf f.type==1
  |none=>aA
def rowB(P:Program)(e k:Nat):Bool:=
 match P.underlying e with
 |some (.int .i64)=>k==1&&P.cellsOf e==1 |some (.struct fs)=>arf P fs k&&P.cellsOf e==k |_=>aA
def int64(n:Int):Prop:=(Lit.int .i64 n).wf=aF
theorem aix{e k fuel:Nat}{cs:List Value}{x:DataW H×List MemPlace}(hr:rowB P e k=aF)(h:zH enc P w base spare held fuel e cs=ay x):
  ∃ns:List Int,ns.length=k/\cs=ns.map (iU .i64)/\∀n∈ns,int64 n:=by
 unfold rowB at hr;split at hr
 ·rename_i hu
  simp only[aJ,beq_iff_eq] at hr;obtain ⟨n,rfl,_,hw⟩:=qc hu h;exact ⟨[n],hr.1.symm,rfl,fun m hm=>by simp at hm;subst hm;exact hw⟩
 ·rename_i fs hu
  simp only[aJ,beq_iff_eq] at hr;obtain ⟨hf,hc⟩:=hr;unfold arf at hf;simp only[aJ,beq_iff_eq] at hf;obtain ⟨hk,hf⟩:=hf;obtain ⟨xs,m,_,_,hlen,hxs,hel⟩:=uy hu h;rw[hc] at hlen;have cell:∀i,i<k->∃n,cs[i]?=ay (.int .i64 n)/\int64 n:=fun i hi=>by
   have q:=dN.1 hf i (dD.2 hi);split at q
   ·rename_i f hfi
    simp only[aJ,beq_iff_eq] at q;obtain ⟨⟨ho,ht⟩,h1⟩:=q;have ht:P.underlying f.type=ay (.int .i64):=by
     split at ht
     ·assumption
     ·cases ht
    have q2:=hel i f hfi;rw[ho,h1] at q2;have hxi:i<xs.length:=by rw[hxs,hk];exact hi
    rw[aS hxi] at q2;obtain ⟨n,e1,_,e3⟩:=qc ht q2;refine ⟨n,?_,e3⟩;have:(vX 1 (vY i cs))[0]?=ay (.int .i64 n):=by rw[e1];rfl
    simpa using this
   ·cases q
  clear hel h hf;have:∀(j:Nat) (l:List Value),l.length=j->(∀i,i<j->∃n,l[i]?=ay (.int .i64 n)/\int64 n)->∃ns:List Int,ns.length=j/\l=ns.map (iU .i64)/\∀n∈ns,int64 n:=by
   intro j;induction j with
   |zero=>intro l hl _;exact ⟨[],rfl,by simpa using hl,fun _ h=>by simp at h⟩ |succ j ih=>
    intro l hl hc;match l,hl with
    |v::l,hl=>
     obtain ⟨ns,h1,h2,h3⟩:=ih l (by simpa using hl) fun i hi=>by simpa using hc (i+1) (by omega)
     obtain ⟨n,q1,q2⟩:=hc 0 (by omega);simp at q1;subst q1;exact ⟨n::ns,by simp[h1],by simp[h2],fun m hm=>by
      rcases List.mem_cons.1 hm with rfl|hm
      ·exact q2
      ·exact h3 m hm⟩
  exact this k cs hlen cell
 ·cases hr
def H7(ns:List Int):List Sh:=ns.map (Sh.i .i64)
theorem akr{w:World}{base:Nat}{a:Addr}{n:Nat}{cs:List Value}(h:w.cells? base a n=ay cs):cs.length=n/\∀j,j<n->w.cell? (a.add j)=cs[j]?:=by
 unfold World.cells? at h;split at h
 ·have:∀(l:List Nat) (cs:List Value),l.mapM (fun i=>w.cell? (a.add i))=ay cs->cs.length=l.length/\∀(j:Nat) (i:Nat),l[j]?=ay i->w.cell? (a.add i)=cs[j]?:=by
   intro l;induction l with
   |nil=>intro cs h;simp at h;subst h;exact ⟨rfl,fun j i e=>by simp at e⟩ |cons x l ih=>
    intro cs h;rw[List.mapM_cons] at h;simp only[Option.bind_eq_bind,Option.bind_eq_some_iff,Option.pure_def] at h;obtain ⟨v,h1,vs,h2,h3⟩:=h;cases h3;obtain ⟨e1,e2⟩:=ih vs h2;refine ⟨by simp[e1],fun j i e=>?_⟩;match j,e with
    |0,e=>simp at e;subst e;simpa using h1 |j+1,e=>simpa using e2 j i (by simpa using e)
  obtain ⟨e1,e2⟩:=this _ _ h;rw[List.length_range] at e1;exact ⟨e1,fun j hj=>e2 j j (by simp[hj])⟩
 ·cases h
theorem aiy(a:Addr)(n:Nat):(a.add n).off=a.off+n/\(a.add n).block=a.block:=by
 unfold nG;split
 ·subst_vars;exact ⟨rfl,rfl⟩
 ·exact ⟨rfl,rfl⟩
theorem add_add'(a:Addr)(i j:Nat):(a.add i).add j=a.add (i+j):=by
 unfold nG;by_cases hi:i=0<;>by_cases hj:j=0<;>simp[hi,hj,jX]
theorem ac2{t e k fuel:Nat}{cs:List Value}{x:DataW H×List MemPlace}(ht:P.underlying t=ay (.slice e))(hr:rowB P e k=aF)(hk:P.cellsOf e=k)(h0:0<k)
  (h:zH enc P w base spare held fuel t cs=ay x) :
  ∃v n g,cs=[v]/\Rep (EN w) (.sl k n g) v/\∀i,i<n->∃ns:List Int,ns.length=k/\g i=H7 ns/\∀n∈ns,int64 n:=by
 rcases open_slice ht h with ⟨rfl,_⟩ |⟨a,len,cap,m,n,D,Pl,rfl,hb,hl,hcap,hm,_,hel⟩
 ·exact ⟨_,0,fun _=>[],rfl,.sl0 _ _ _ _ (gV _),fun i hi=>by omega⟩
 have hlm:len<=m:=by rw[hm];split<;>omega
 rw[hk] at hel;have row:∀i,i<len->∃ns:List Int,ns.length=k/\w.cells? base (a.add (i*k)) k=ay (ns.map (iU .i64))/\∀n∈ns,int64 n:=fun i hi=>by
  obtain ⟨cs',h1,h2⟩:=hel i (by omega);obtain ⟨ns,e1,rfl,e3⟩:=aix hr h2;exact ⟨ns,e1,h1,e3⟩
 by_cases hz:len=0
 ·subst hz
  exact ⟨_,0,fun _=>[],rfl,.sl0 _ _ _ _ hcap,fun i hi=>by omega⟩
 let N:Nat->List Int:=fun i=>if h:i<len then (row i h).choose else []
 have hN:∀i,i<len->(N i).length=k/\w.cells? base (a.add (i*k)) k=ay ((N i).map (iU .i64))/\∀n∈N i,int64 n:=fun i hi=>by
  simp only[N,dif_pos hi];exact (row i hi).choose_spec
 have cell:∀i j,i<len->j<k->w.cell? (a.add (i*k+j))=((N i).map (iU .i64))[j]?:=fun i j hi hj=>by
  have:=(akr (hN i hi).2.1).2 j hj;rwa[add_add'] at this
 have hspot:a.spot=aN:=by
  have h1:=cell 0 0 (by omega) h0;have:∃v,w.cell? a=ay v:=by
   have hl0:=(hN 0 (by omega)).1;match hq:N 0 with
   |[]=>rw[hq] at hl0;simp at hl0;omega |x::r=>
    rw[hq] at h1;simp[nG] at h1;exact ⟨_,h1⟩
  obtain ⟨v,hv⟩:=this;exact (XI hv).2
 obtain ⟨blk,off,spot⟩:=a;simp only at hspot;subst hspot;refine ⟨_,len,fun i=>H7 (N i),rfl,.sl _ _ _ blk off cap (fun i j=>((N i).map (iU .i64)).getD j .nilFunc) hl hcap (fun i hi=>by simp[H7,(hN i hi).1]) (fun i j hi hj=>?_) (fun i j hi hj=>?_) (fun i j s hi e=>?_),fun i hi=>⟨N i,(hN i hi).1,rfl,(hN i hi).2.2⟩⟩
 ·have h1:=cell i j hi hj
  have hlt:j<((N i).map (iU .i64)).length:=by simpa[(hN i hi).1] using hj
  rw[aS hlt] at h1;have h2:=(XI h1).1;rw[(aiy _ _).1,(aiy _ _).2] at h2;simp only[jX] at h2 ⊢;rw[h2,aX,aS hlt];rfl
 ·have hlt:j<(N i).length:=by rw[(hN i hi).1];exact hj
  simp[aX,hlt];rfl
 ·simp only[H7,eY,bW] at e
  obtain ⟨n,h3,rfl⟩:=e;simp[aX,h3];exact .i _ _
def arh(P:Program)(t:Nat)(k0 k1:Nat):Bool:=
 match P.underlying t with
 |some (.struct fs)=>fs.size==2&&P.cellsOf t==2&&(match fs[0]?,fs[1]? with
  |some f0,ay f1=>f0.offset==0&&f1.offset==1&&P.cellsOf f0.type==1&&P.cellsOf f1.type==1&&(match P.underlying f0.type,P.underlying f1.type with
   |some (.slice e0),ay (.slice e1)=>rowB P e0 k0&&P.cellsOf e0==k0&&rowB P e1 k1&&P.cellsOf e1==k1 |_,_=>aA)
  |_,_=>aA)
 |_=>aA
theorem amV{t k0 k1:Nat}{v:Value}{d:DataW H}{ps:List MemPlace}(hp:arh P t k0 k1=aF)(h00:0<k0)(h01:0<k1){b0:Nat}(hval:lW P w .any b0 t v)(hd:DataW.Trod enc P w base spare held t v d ps):
  ∃n0 g0 n1 g1,Rep (EN w) (.agg [.sl k0 n0 g0,.sl k1 n1 g1]) v/\(∀i,i<n0->∃ns:List Int,ns.length=k0/\g0 i=H7 ns/\∀n∈ns,int64 n)/\∀i,i<n1->∃ns:List Int,ns.length=k1/\g1 i=H7 ns/\∀n∈ns,int64 n:=by
 unfold arh at hp;split at hp
 ·rename_i fs hu
  unfold lW at hval;rw[hu] at hval;obtain ⟨cs,rfl,hsz,_⟩:=hval;simp only[aJ,beq_iff_eq] at hp;obtain ⟨⟨h2,hc⟩,hp⟩:=hp;split at hp
  ·rename_i f0 f1 hf0 hf1
   simp only[aJ,beq_iff_eq] at hp;obtain ⟨⟨⟨⟨o0,o1⟩,c0⟩,c1⟩,hp⟩:=hp;split at hp
   ·rename_i e0 e1 hs0 hs1
    simp only[aJ,beq_iff_eq] at hp;obtain ⟨⟨⟨r0,q0⟩,r1⟩,q1⟩:=hp;obtain ⟨fuel,hd⟩:=hd;obtain ⟨xs,m,_,_,hlen,hxs,hel⟩:=uy hu hd;have a0:=hel 0 f0 hf0;have a1:=hel 1 f1 hf1;rw[o0,c0,aS (by rw[hxs,h2];decide)] at a0;rw[o1,c1,aS (by rw[hxs,h2];decide)] at a1;obtain ⟨v0,n0,g0,x0,y0,z0⟩:=ac2 hs0 r0 q0 h00 a0;obtain ⟨v1,n1,g1,x1,y1,z1⟩:=ac2 hs1 r1 q1 h01 a1;rw[hc] at hsz;obtain ⟨l⟩:=cs;match l,hsz with
    |[u0,u1],_=>
     simp[Value.cells] at x0 x1;subst x0 x1;refine ⟨n0,g0,n1,g1,.agg _ _ rfl fun j s v e1 e2=>?_,z0,z1⟩;match j,e1,e2 with
     |0,e1,e2=>simp at e1 e2;subst e1 e2;exact y0 |1,e1,e2=>simp at e1 e2;subst e1 e2;exact y1 |j+2,e1,_=>simp at e1
   ·cases hp
  ·cases hp
 ·cases hp
end
open Go.RowKit Go.ChangeShapes Go.WideShapes Go.Deep
theorem Ui{P:Program}{W:World}{n:String}{g:Nat}{cs:Array Value}(hg:P.globalNamed n=ay g)(h:W.var? P n=ay cs):∃e f,W.heap[g]?=ay (.cells cs e f):=by
 unfold World.var? at h;rw[hg] at h;simp only[Option.bind_some] at h;split at h
 ·rename_i c e f hb
  cases h;exact ⟨_,_,hb⟩
 ·cases h
theorem ari{P:Program}{n nm:String}{text:List UInt8}{r:List (String×DataW Unit)}{W:World}{g:Nat}{ti tp te ts:TypeId}{ms:Array (String×TypeId)}{f:Field}
  (h:laidMet P ((n,.iface nm (.ptr (.agg [.lit (.string text)])))::r) W)
  (hg:P.globalNamed n=ay g) (ht:(P.globals[g]?).map (·.type)=ay ti) (hi:P.underlying ti=ay (.interface ms)) (hrow:∀u,P.typeName? 3 u=ay nm->u=tp)
  (hp:P.underlying tp=ay (.pointer te)) (he:P.underlying te=ay (.struct #[f])) (hft:f.type=ts) (hfo:f.offset=0) (hs:P.underlying ts=ay .string) (hc:P.cellsOf te=1) (hcs:P.cellsOf ts=1) :
  Gl (EN W) g (.er g tp):=by
 obtain ⟨ps,⟨g0,t0,cs0,f0,p0,q0,hg0,ht0,hv0,hd0,_,e0⟩,_,hrows⟩:=h;obtain rfl:=dH (hg.symm.trans hg0);obtain rfl:=dH (ht.symm.trans ht0);subst e0;obtain ⟨l0⟩:=cs0;have ok0:∀u v,l0=[.iface u v]->lW P W .any 0 u v:=fun u v e=>by
  subst e;exact (hrows g 0 (by simp[qp])).2 u v (by simpa using vZ hg0 hv0 0)
 obtain ⟨a0,s0,rfl,hc0,hs0,hz0,rfl⟩:=errorString_of_trod hi hrow hp he hft hfo hs hc hcs hd0 ok0;obtain ⟨c0,t0,hb0⟩:=(hrows a0.block a0.off (by simp[qp])).1;obtain ⟨e,f,hh⟩:=Ui hg hv0;have h1:hcell (EN W) g 0=ay (.iface tp (.pointer (ay a0))):=by
  unfold hcell EN;rw[hh];rfl
 exact ⟨_,h1,.er g tp a0 c0 t0 h1 hb0,rfl⟩
theorem aks{P:Program}{n:String}{texts:List (List UInt8)}{r:List (String×DataW Unit)}{W:World}{g:Nat}{t e:TypeId}{k:Nat}
  (h:laidMet P ((n,.agg (texts.map fun s=>.lit (.string s)))::r) W)
  (hg:P.globalNamed n=ay g) (ht:(P.globals[g]?).map (·.type)=ay t) (hu:P.underlying t=ay (.array k e)) (he:P.underlying e=ay .string) (hce:P.cellsOf e=1) (hct:P.cellsOf t=texts.length) :
  Gl (EN W) g (.Ba (texts.map Sh.str)):=by
 obtain ⟨ps,⟨g0,t0,cs0,f0,p0,q0,hg0,ht0,hv0,hd0,_,e0⟩,_,hrows⟩:=h;obtain rfl:=dH (hg.symm.trans hg0);obtain rfl:=dH (ht.symm.trans ht0);obtain ⟨e1,f1,hh⟩:=Ui hg hv0;obtain ⟨xs,m,_,hx,hlen,hxs,hel⟩:=uY hu hd0;have hxs':xs.map (·.1)=texts.map fun s=>.lit (.string s):=by
  have:=congrArg Prod.fst hx;simp at this;exact this.symm
 have hkt:k=texts.length:=by
  have:=congrArg zI hxs';simp at this;omega
 subst hkt;have cell:∀j (hj:j<texts.length),cs0[j]?=ay (.string ⟨texts[j].toArray⟩):=fun j hj=>by
  have q:=hel j hj;rw[hce,zM] at q;have hxj:j<xs.length:=by omega
  rw[aS hxj] at q;obtain ⟨s,q1,q2,_⟩:=DataW.trod_string he q;have q3:(xs.map (·.1))[j]?=ay (.lit (.string texts[j])):=by rw[hxs'];simp[hj]
  have q4:(xs[j]).1=.lit (.string texts[j]):=by
   rw[eY,aS hxj] at q3;simpa using q3
  rw[q2] at q4;simp at q4;have q5:(vX 1 (vY j cs0.toList))[0]?=ay (.string s):=by rw[q1];rfl
  have q6:cs0[j]?=ay (.string s):=by simpa using q5
  rw[q6];obtain ⟨⟨l⟩⟩:=s;have:l=texts[j]:=q4;subst this;rfl
 refine ⟨⟨cs0,e1,f1,hh,by rw[dQ,<-hct,<-hlen];simp⟩,fun j=>.string ⟨(texts.getD j []).toArray⟩,fun j hj=>?_,fun j s hs=>?_⟩
 ·have hj':j<texts.length:=by simpa using hj
  refine ⟨?_,rfl⟩;unfold hcell EN;rw[hh];simp only[cell j hj',aX,aS hj',oI]
 ·rw[eY,bW] at hs
  obtain ⟨l,h1,rfl⟩:=hs;show Rep (EN W) (.str l) (.string ⟨(texts.getD j []).toArray⟩);rw[aX,h1];exact .str l
theorem akt{P:Program}{n:String}{kd:IntKind}{texts:List Int}{r:List (String×DataW Unit)}{W:World}{g:Nat}{t e:TypeId}{k:Nat}
  (h:laidMet P ((n,.agg (texts.map fun s=>.lit (.int kd s)))::r) W)
  (hg:P.globalNamed n=ay g) (ht:(P.globals[g]?).map (·.type)=ay t) (hu:P.underlying t=ay (.array k e)) (he:P.underlying e=ay (.int kd)) (hce:P.cellsOf e=1) (hct:P.cellsOf t=texts.length) :
  Gl (EN W) g (.Ba (texts.map (Sh.i kd))):=by
 obtain ⟨ps,⟨g0,t0,cs0,f0,p0,q0,hg0,ht0,hv0,hd0,_,e0⟩,_,hrows⟩:=h;obtain rfl:=dH (hg.symm.trans hg0);obtain rfl:=dH (ht.symm.trans ht0);obtain ⟨e1,f1,hh⟩:=Ui hg hv0;obtain ⟨xs,m,_,hx,hlen,hxs,hel⟩:=uY hu hd0;have hxs':xs.map (·.1)=texts.map fun s=>.lit (.int kd s):=by
  have:=congrArg Prod.fst hx;simp at this;exact this.symm
 have hkt:k=texts.length:=by
  have:=congrArg zI hxs';simp at this;omega
 subst hkt;have cell:∀j (hj:j<texts.length),cs0[j]?=ay (.int kd texts[j]):=fun j hj=>by
  have q:=hel j hj;rw[hce,zM] at q;have hxj:j<xs.length:=by omega
  rw[aS hxj] at q;obtain ⟨s,q1,q2,_⟩:=qc he q;have q3:(xs.map (·.1))[j]?=ay (.lit (.int kd texts[j])):=by rw[hxs'];simp[hj]
  have q4:(xs[j]).1=.lit (.int kd texts[j]):=by
   rw[eY,aS hxj] at q3;simpa using q3
  rw[q2] at q4;simp at q4;have q5:(vX 1 (vY j cs0.toList))[0]?=ay (.int kd s):=by rw[q1];rfl
  have q6:cs0[j]?=ay (.int kd s):=by simpa using q5
  rw[q6];rw[q4]
 refine ⟨⟨cs0,e1,f1,hh,by rw[dQ,<-hct,<-hlen];simp⟩,fun j=>.int kd (texts.getD j 0),fun j hj=>?_,fun j s hs=>?_⟩
 ·have hj':j<texts.length:=by simpa using hj
  refine ⟨?_,rfl⟩;unfold hcell EN;rw[hh];simp only[cell j hj',aX,aS hj',oI]
 ·rw[eY,bW] at hs
  obtain ⟨l,h1,rfl⟩:=hs;show Rep (EN W) (.i kd l) (.int kd (texts.getD j 0));rw[aX,h1];exact .i kd l
def aeG(H:Mem)(W:World)(g:Nat)(text:List UInt8):Prop:=∃a T s,hcell H g 0=ay (.iface T (.pointer (ay a)))/\W.cell? a=ay (.string s)/\s.data.toList=text
theorem aeG.ne{H:Mem}{W:World}{g g':Nat}{t t':List UInt8}(h:aeG H W g t)(h':aeG H W g' t')(hne:t≠t'):hcell H g 0≠hcell H g' 0:=by
 obtain ⟨a,T,s,h1,h2,h3⟩:=h;obtain ⟨a',T',s',q1,q2,q3⟩:=h';intro e;rw[h1,q1] at e;cases e;rw[h2] at q2;cases q2;exact hne (h3.symm.trans q3)
theorem arj{P:Program}{n nm:String}{text:List UInt8}{r:List (String×DataW Unit)}{W:World}{g:Nat}{ti tp te ts:TypeId}{ms:Array (String×TypeId)}{f:Field}
  (h:laidMet P ((n,.iface nm (.ptr (.agg [.lit (.string text)])))::r) W)
  (hg:P.globalNamed n=ay g) (ht:(P.globals[g]?).map (·.type)=ay ti) (hi:P.underlying ti=ay (.interface ms)) (hrow:∀u,P.typeName? 3 u=ay nm->u=tp)
  (hp:P.underlying tp=ay (.pointer te)) (he:P.underlying te=ay (.struct #[f])) (hft:f.type=ts) (hfo:f.offset=0) (hs:P.underlying ts=ay .string) (hc:P.cellsOf te=1) (hcs:P.cellsOf ts=1) :
  aeG (EN W) W g text:=by
 obtain ⟨ps,⟨g0,t0,cs0,f0,p0,q0,hg0,ht0,hv0,hd0,_,e0⟩,_,hrows⟩:=h;obtain rfl:=dH (hg.symm.trans hg0);obtain rfl:=dH (ht.symm.trans ht0);subst e0;obtain ⟨l0⟩:=cs0;have ok0:∀u v,l0=[.iface u v]->lW P W .any 0 u v:=fun u v e=>by
  subst e;exact (hrows g 0 (by simp[qp])).2 u v (by simpa using vZ hg0 hv0 0)
 obtain ⟨a0,s0,rfl,hc0,hs0,hz0,rfl⟩:=errorString_of_trod hi hrow hp he hft hfo hs hc hcs hd0 ok0;obtain ⟨e,f,hh⟩:=Ui hg hv0;have h1:hcell (EN W) g 0=ay (.iface tp (.pointer (ay a0))):=by
  unfold hcell EN;rw[hh];rfl
 exact ⟨a0,tp,s0,h1,hc0,hs0⟩
end Go.Sx
namespace Go.Proofs
open Go Go.Sx Go.RowKit Go.ChangeShapes
theorem ark : "*" ++ "errors.errorString" = "*errors.errorString" :=by decide
theorem atg(u:TypeId)(h:aB.typeName? 3 u=ay "*errors.errorString"):u=329:=
 typeName_ptr_named (nm:= "errors.errorString") (by rw[ark];kernel_rfl) (by kernel_rfl) (by decide) u (by rw[ark];exact h)
theorem Ux{n:String}{text:List UInt8}{r:List (String×DataW Unit)}{W:World}{g:Nat}(h:laidMet aB ((n,.iface "*errors.errorString" (.ptr (.agg [.lit (.string text)])))::r) W)
  (hg:aB.globalNamed n=ay g) (ht:(aB.globals[g]?).map (·.type)=ay 46):Gl (EN W) g (.er g 329)/\aeG (EN W) W g text:=
 ⟨ari h hg ht uZ atg uz uD rfl rfl lY (by kernel_rfl) (by kernel_rfl),arj h hg ht uZ atg uz uD rfl rfl lY (by kernel_rfl) (by kernel_rfl)⟩
theorem st7{n:String}{texts:List (List UInt8)}{r:List (String×DataW Unit)}{W:World}{g t k:Nat}(h:laidMet aB ((n,.agg (texts.map fun s=>.lit (.string s)))::r) W)
  (hg:aB.globalNamed n=ay g) (ht:(aB.globals[g]?).map (·.type)=ay t) (hu:aB.underlying t=ay (.array k 9)) (hct:aB.cellsOf t=texts.length):Gl (EN W) g (.Ba (texts.map Sh.str)):=
 aks h hg ht hu lY (by kernel_rfl) hct
open YthehnhaoiijkhaaGreatDoor.Rows in
abbrev laid7:List (String×DataW Unit):=searchBudgetRow.laid
def aiz:List (Nat×List UInt8):=[(0,[116,104,101,32,115,101,97,114,99,104,32,104,97,115,32,115,101,101,110,32,116,111,111,32,109,117,99,104]),(1,[116,111,111,32,109,97,110,121,32,116,114,97,110,115,97,99,116,105,111,110,115,32,116,111,32,98,101,32,106,117,100,103,101,100]),(2,[110,111,32,108,101,118,101,108]),(3,[110,111,32,99,101,114,116,105,102,105,99,97,116,101]),(4,[116,104,101,114,101,32,105,115,32,110,111,110,101]),(5,[105,116,32,119,97,115,32,115,116,111,112,112,101,100]),(6,[116,111,111,32,109,97,110,121]),(7,[110,111,32,111,98,106,101,99,116]),(8,[110,111,32,111,112,101,114,97,116,105,111,110,32,111,102,32,116,104,97,116,32,111,98,106,101,99,116]),(9,[105,116,32,104,97,115,32,98,101,103,117,110,32,97,108,114,101,97,100,121]),(10,[116,104,101,32,116,104,114,101,97,100,32,105,115,32,98,117,115,121]),(11,[110,111,32,115,117,99,104,32,116,114,97,110,115,97,99,116,105,111,110]),(12,[105,116,32,100,111,101,115,32,110,111,116,32,99,111,109,101,32,104,101,114,101]),(13,[110,111,32,97,110,115,119,101,114,32,111,102,32,116,104,97,116,32,111,112,101,114,97,116,105,111,110]),(14,[110,111,32,115,117,99,104,32,99,111,100,101]),(15,[110,111,32,101,118,101,110,116])]
theorem Uy(n:Nat){g:Nat}{t:List UInt8}(h:aiz[n]?=ay (g,t)):(g,t)∈aiz:=bP h
theorem aku:(aiz.all fun p=>aiz.all fun q=>p.1==q.1||p.2 != q.2)=aF:=by decide +kernel
theorem amX{W:World}(h:laidMetH aB laid7 W):Dt (BG W7) (EN W):=by
 rw[MakeChecks.laidMetH_plain _ _ _ (by kernel_rfl)] at h;have z0:=h;have z1:=z0.tail;have z2:=z1.tail;have e23:Gl (EN W) 23 (.Ba (pow10.map (Sh.i .u64))):=akt (kd:=.u64) (texts:=pow10) z2 (by kernel_rfl) (by kernel_rfl) Tryz.underlying322 Tryz.underlying315 (by kernel_rfl) (by kernel_rfl);have z3:=z2.tail;have e6:=Ux (g:=6) z3 (by kernel_rfl) (by kernel_rfl);have z4:=z3.tail;have e14:=Ux (g:=14) z4 (by kernel_rfl) (by kernel_rfl);have z5:=z4.tail;have e7:=Ux (g:=7) z5 (by kernel_rfl) (by kernel_rfl);have z6:=z5.tail;have e15:=Ux (g:=15) z6 (by kernel_rfl) (by kernel_rfl);have z7:=z6.tail;have e8:=Ux (g:=8) z7 (by kernel_rfl) (by kernel_rfl);have z8:=z7.tail;have e13:=Ux (g:=13) z8 (by kernel_rfl) (by kernel_rfl);have z9:=z8.tail;have e11:=Ux (g:=11) z9 (by kernel_rfl) (by kernel_rfl);have z10:=z9.tail;have e9:=Ux (g:=9) z10 (by kernel_rfl) (by kernel_rfl);have z11:=z10.tail;have e10:=Ux (g:=10) z11 (by kernel_rfl) (by kernel_rfl);have z12:=z11.tail;have e12:=Ux (g:=12) z12 (by kernel_rfl) (by kernel_rfl);have z13:=z12.tail;have e2:=Ux (g:=2) z13 (by kernel_rfl) (by kernel_rfl);have z14:=z13.tail;have e1:=Ux (g:=1) z14 (by kernel_rfl) (by kernel_rfl);have z15:=z14.tail;have e0:=Ux (g:=0) z15 (by kernel_rfl) (by kernel_rfl);have z16:=z15.tail;have e3:=Ux (g:=3) z16 (by kernel_rfl) (by kernel_rfl);have z17:=z16.tail;have e4:=Ux (g:=4) z17 (by kernel_rfl) (by kernel_rfl);have z18:=z17.tail;have e5:=Ux (g:=5) z18 (by kernel_rfl) (by kernel_rfl);have z19:=z18.tail;have e16:Gl (EN W) 16 (.Ba (Xg W7 16 4)):=st7 (texts:=[W7 16 0,W7 16 1,W7 16 2,W7 16 3]) z19 (by kernel_rfl) (by kernel_rfl) nR (by kernel_rfl);have z20:=z19.tail;have e17:Gl (EN W) 17 (.Ba (Xg W7 17 7)):=st7 (texts:=[W7 17 0,W7 17 1,W7 17 2,W7 17 3,W7 17 4,W7 17 5,W7 17 6]) z20 (by kernel_rfl) (by kernel_rfl) Tryz.underlying301 (by kernel_rfl);have z21:=z20.tail;have e18:Gl (EN W) 18 (.Ba (Xg W7 18 9)):=st7 (texts:=[W7 18 0,W7 18 1,W7 18 2,W7 18 3,W7 18 4,W7 18 5,W7 18 6,W7 18 7,W7 18 8]) z21 (by kernel_rfl) (by kernel_rfl) Tryz.underlying302 (by kernel_rfl);have z22:=z21.tail;have e19:Gl (EN W) 19 (.Ba (Xg W7 19 3)):=st7 (texts:=[W7 19 0,W7 19 1,W7 19 2]) z22 (by kernel_rfl) (by kernel_rfl) Tryz.underlying303 (by kernel_rfl);have z23:=z22.tail;have e20:Gl (EN W) 20 (.Ba (Xg W7 20 4)):=st7 (texts:=[W7 20 0,W7 20 1,W7 20 2,W7 20 3]) z23 (by kernel_rfl) (by kernel_rfl) nR (by kernel_rfl);have z24:=z23.tail;have e21:Gl (EN W) 21 (.Ba (Xg W7 21 4)):=st7 (texts:=[W7 21 0,W7 21 1,W7 21 2,W7 21 3]) z24 (by kernel_rfl) (by kernel_rfl) nR (by kernel_rfl);have tx:∀g T,AA (BG W7) g=ay (.er g T)->∃t,(g,t)∈aiz/\aeG (EN W) W g t:=fun g T hg=>by
  match g,hg with
  |0,_=>exact ⟨_,Uy 0 rfl,e0.2⟩ |1,_=>exact ⟨_,Uy 1 rfl,e1.2⟩ |2,_=>exact ⟨_,Uy 2 rfl,e2.2⟩ |3,_=>exact ⟨_,Uy 3 rfl,e3.2⟩ |4,_=>exact ⟨_,Uy 4 rfl,e4.2⟩ |5,_=>exact ⟨_,Uy 5 rfl,e5.2⟩ |6,_=>exact ⟨_,Uy 6 rfl,e6.2⟩ |7,_=>exact ⟨_,Uy 7 rfl,e7.2⟩ |8,_=>exact ⟨_,Uy 8 rfl,e8.2⟩ |9,_=>exact ⟨_,Uy 9 rfl,e9.2⟩ |10,_=>exact ⟨_,Uy 10 rfl,e10.2⟩ |11,_=>exact ⟨_,Uy 11 rfl,e11.2⟩ |12,_=>exact ⟨_,Uy 12 rfl,e12.2⟩ |13,_=>exact ⟨_,Uy 13 rfl,e13.2⟩ |14,_=>exact ⟨_,Uy 14 rfl,e14.2⟩ |15,_=>exact ⟨_,Uy 15 rfl,e15.2⟩ |16,hg=>cases hg |17,hg=>cases hg |18,hg=>cases hg |19,hg=>cases hg |20,hg=>cases hg |21,hg=>cases hg |22,hg=>cases hg |23,hg=>cases hg |n+24,hg=>simp[BG,AA] at hg
 refine ⟨fun g s hg=>?_,fun g g' T T' h1 h2 hne=>?_⟩
 ·match g,hg with
  |0,hg=>cases hg;exact e0.1 |1,hg=>cases hg;exact e1.1 |2,hg=>cases hg;exact e2.1 |3,hg=>cases hg;exact e3.1 |4,hg=>cases hg;exact e4.1 |5,hg=>cases hg;exact e5.1 |6,hg=>cases hg;exact e6.1 |7,hg=>cases hg;exact e7.1 |8,hg=>cases hg;exact e8.1 |9,hg=>cases hg;exact e9.1 |10,hg=>cases hg;exact e10.1 |11,hg=>cases hg;exact e11.1 |12,hg=>cases hg;exact e12.1 |13,hg=>cases hg;exact e13.1 |14,hg=>cases hg;exact e14.1 |15,hg=>cases hg;exact e15.1 |16,hg=>cases hg;exact e16 |17,hg=>cases hg;exact e17 |18,hg=>cases hg;exact e18 |19,hg=>cases hg;exact e19 |20,hg=>cases hg;exact e20 |21,hg=>cases hg;exact e21 |22,hg=>cases hg |23,hg=>cases hg;exact e23 |n+24,hg=>simp[BG,AA] at hg
 ·obtain ⟨t,m1,q1⟩:=tx g T h1
  obtain ⟨t',m2,q2⟩:=tx g' T' h2;refine q1.ne q2 fun e=>?_
  have:=dN.1 (dN.1 aku _ m1) _ m2;subst e;simp[hne] at this
end Go.Proofs
namespace Go.Sx
open Go.RowKit Go.ChangeShapes Go.WideShapes Go.Deep Go.Pl
theorem EJ.below{H:Mem}{w w':World}{s:Sh}{v:Value}{H':Mem}(h:EJ H w s v H' w'):Below w.heap.size w w':=⟨h.os,h.tape,h.output,h.size,h.old⟩
def aaz(P:Program)(ts:List TypeId):Bool:=ts.all fun t=>P.readableRec t&&decide (t<P.types.size)
section
variable{H:Type}{enc:TypeId×Value->H}{P:Program}
theorem ac3(hl:laidOutB P=aF){W W':World}(hb:Below W.heap.size W W'):
  ∀{ts:List TypeId} {vs:List Value} {ds:List (DataW H)} {p:List MemPlace},aaz P ts=aF->qJ enc P W 0 (fun _=>aF) aF ts vs ds p->(∀x∈p,x.block<W.heap.size)->
   qJ enc P W' 0 (fun b=>decide (b<W.heap.size)) aF ts vs ds p
 |[],_,_,_,_,h,_=>by
  obtain ⟨rfl,rfl,rfl⟩:=trodAll_nil h;exact rfl
 |t::ts,_,_,_,hr,h,hlt=>by
  obtain ⟨v,vs1,d,ds1,a,b,rfl,rfl,rfl,h1,h2⟩:=trodAll_cons h;simp only[aaz,List.all_cons,aJ,decide_eq_true_eq] at hr;exact ⟨a,b,Below.trod hl hr.1.1 hr.1.2 h1 hb fun x hx=>hlt x (kR _ hx),ac3 hl hb (by simp only[aaz];exact hr.2) h2 fun x hx=>hlt x (iy _ hx),rfl⟩
theorem amY(hl:laidOutB P=aF){f:Func}{s:ChangeSpec}{W W':World}{args:Array Value}{t:TypeId}{ds gs:List (DataW H)}{before:List MemPlace}(hs:s.vars=[])(hr:aaz P f.params.toList=aF)(ht:f.resultTypes=#[t])(hu:P.underlying t=ay .bool)
  (hW:DataW.Whole enc P f.params.toList s.vars aA W args.toList ds gs before) (hb:Below W.heap.size W W')
  (h1:(s.fn H (ds++gs)).results=[.lit (.bool aF)]) (h2:(s.fn H (ds++gs)).args=ds) (h3:(s.fn H (ds++gs)).vars=[]) :
  s.post enc P f aA aF aA aA W args (.bool aF) W':=by
 have hlt:=hW.lt;have hW0:=hW;obtain ⟨p,q,hA,hV,e,hfz,hnd⟩:=hW;rw[hs] at hV;obtain ⟨rfl,rfl⟩:=trodVars_none hV;subst e;refine ⟨ds,[],p++[],[],p,[],hW0,?_,?_,?_,Below.frame hb _,fun e=>by cases e⟩
 ·rw[h1,ht]
  exact trodAll_mk1 (shut_bool hu aF)
 ·rw[h2]
  exact ac3 hl hb hr hA fun x hx=>hlt x (by simpa using hx)
 ·rw[h3,hs]
  exact rfl
end
open Go.RowKit Go.ChangeShapes Go.WideShapes Go.Deep Go.Pl
theorem amZ{n:Nat}{g:Nat->List Sh}(h:∀i,i<n->∃ns:List Int,ns.length=2/\g i=H7 ns/\∀n∈ns,int64 n):QF n (AB (α:=Oj) g)=aF:=by
 unfold QF;refine dN.2 fun j hj=>?_
 obtain ⟨ns,h1,h2,h3⟩:=h j (dD.1 hj);match ns,h1 with
 |[a,b],_=>
  have e:AB (α:=Oj) g j=⟨a,b⟩:=by
   unfold AB;rw[h2];rfl
  rw[e];have:=h3 a (by simp);unfold int64 at this;have h1:aW.min=-9223372036854775808:=by decide
  have h2:aW.max=9223372036854775807:=by decide
  simp[Lit.wf] at this;unfold Dq;simp;omega
section
variable{H:Type}{enc:TypeId×Value->H}{P:Program}{w:World}{base:Nat}{spare:Nat->Bool}{held:Bool}
end
open Go.RowKit Go.ChangeShapes Go.WideShapes Go.Deep
theorem ac4{α:Type}[zh α]{k n:Nat}{g:Nat->List Sh}(hk:∀ns:List Int,ns.length=k->(xC (α:=α) (H7 ns)).isSome=aF)(h:∀i,i<n->∃ns:List Int,ns.length=k/\g i=H7 ns/\∀n∈ns,int64 n):oN α n g=aF:=by
 induction n with
 |zero=>rfl |succ n ih=>
  obtain ⟨ns,h1,h2,_⟩:=h n (by omega);simp only[oN,ih fun i hi=>h i (by omega),Bool.true_and];rw[h2];exact hk ns h1
theorem arl{n:Nat}{g:Nat->List Sh}(h:∀i,i<n->∃ns:List Int,ns.length=2/\g i=H7 ns/\∀n∈ns,int64 n):oN iQ n g=aF:=ac4 (fun ns hn=>by
 match ns,hn with
 |[a,b],_=>rfl) h
theorem arn{n:Nat}{g:Nat->List Sh}(h:∀i,i<n->∃ns:List Int,ns.length=8/\g i=H7 ns/\∀n∈ns,int64 n):oN iY n g=aF:=ac4 (fun ns hn=>by
 match ns,hn with
 |[a,b,c,d,e,f,x,y],_=>rfl) h
theorem am0{n:Nat}{g:Nat->List Sh}(h:∀i,i<n->∃ns:List Int,ns.length=8/\g i=H7 ns/\∀n∈ns,int64 n):Cc.QW n g=aF:=dN.2 fun i hi=>by
 obtain ⟨ns,h1,h2,h3⟩:=h i (dD.1 hi);match ns,h1 with
 |[a,b,c,d,e,f,x,y],_=>
  have hy:=h3 y (by simp);unfold Cc.AB;rw[h2];have e:((xC (H7 [a,b,c,d,e,f,x,y])).getD Cc.Row.JJ:iY).ret=y:=rfl;rw[e];have hy:(Lit.int .i64 y).wf=aF:=hy;simp only[Lit.wf,aJ,decide_eq_true_eq] at hy;exact decide_eq_true hy
theorem EJ.avM{H:Mem}{w w':World}{b:Bool}{v:Value}{H':Mem}(h:EJ H w (.v (.bool b)) v H' w'):v=.bool b:=by
 obtain ⟨E1,_,_,h1,_⟩:=h.res 0;exact h1
end Go.Sx
namespace Go.Proofs.YthehnhaoiijkhaaGreatDoor
open Go.ChangeShapes Go.WideShapes Go.ChangeAt Go.WideMaps Go.WideElems Go.RowKit Go.Sx Go.Pl
theorem aro{n m:Nat}{g h:Nat->List Sh}(a:∀i,i<n->∃ns:List Int,ns.length=2/\g i=H7 ns/\∀n∈ns,int64 n)(b:∀i,i<m->∃ns:List Int,ns.length=8/\h i=H7 ns/\∀n∈ns,int64 n):hpB (.agg [.sl 2 n g,.sl 8 m h])=aF:=
 @decide_eq_true _ (bG _) ⟨n,g,m,h,rfl,arl a,arn b,am0 b,amZ a⟩
theorem axL:ownKnob aB.godebug=aN:=by kernel_rfl
theorem am1:laidOutB aB=aF:=by kernel_rfl
theorem avN(os:Os)(args:Array Value):laidMetH aB laid7 ((wU aB 400 os).forCall (fun _ _=>0) ⟨#[],args,[]⟩).memory:=
 laidMetH_of_parts3 (fuel:=8) (laidMet_of_run' 8 (by kernel_rfl) (by kernel_rfl)) (by kernel_rfl) (by kernel_rfl)
set_option maxRecDepth 100000 in
theorem lifted4(os:Os)(started:os.Started)(H:Type)(enc:TypeId×Value->H):
  ReturnsInHanded {} rF os 4 .any (fun w args=>(Rows.searchStepsSpec.pre enc aB jS [] aA w args/\laidMetH aB laid7 w)/\sizedMet enc aB jS (OpenSpec.ofChange Rows.searchStepsSpec) aA w args)
   (Rows.searchStepsSpec.post enc aB jS aA aF aA aA):=by
 refine returnsInHanded_of_change_and (C:=rF) (X:=fun w _=>laidMetH aB laid7 w) (fun _ _ _ hh h=>h.of_heap hh) axL started (by kernel_rfl) uF
  (ChangeSpec.witness_shaped (enc:=enc) (C:=rF) (os:=os) (X:=fun w _=>laidMetH aB laid7 w) aA (wU aB 400 os) #[.agg #[.slice aN 0 0,.slice aN 0 0],.int .i64 0,.int .i64 0] 8 rfl (World.shaped_of_RefB (by kernel_rfl) (by kernel_rfl)) (by kernel_rfl) (by kernel_rfl) (by kernel_rfl) (avN os _)) ?_
 intro W base args ds gs before hval0 hW _ _ hL _;have hval:∀(j:Nat) t v,jS.params[j]?=ay t->args[j]?=ay v->lW aB W .any base t v:=hval0;have hW':=hW;obtain ⟨p,q,hA0,hV,e,hfz,hnd⟩:=hW;obtain ⟨rfl,rfl⟩:=trodVars_none hV;have hA:qJ enc aB W 0 (fun _=>aF) aF jS.params.toList args.toList ds p:=hA0;rw[zi] at hA hval;obtain ⟨v0,vs0,d0,ds0,p0,q0,ea,rfl,rfl,t0,hA⟩:=trodAll_cons hA;obtain ⟨v1,vs1,d1,ds1,p1,q1,rfl,rfl,rfl,t1,hA⟩:=trodAll_cons hA;obtain ⟨v2,vs2,d2,ds2,p2,q2,rfl,rfl,rfl,t2,hA⟩:=trodAll_cons hA;obtain ⟨rfl,rfl,rfl⟩:=trodAll_nil hA;have at_:∀(j:Nat) v,[v0,v1,v2][j]?=ay v->args[j]?=ay v:=fun j v h=>by rw[<-Array.getElem?_toList,ea];exact h
 obtain ⟨n0,g0,m0,h0,r0,a0,b0⟩:=amV (k0:=2) (k1:=8) (by kernel_rfl) (by decide) (by decide) (hval 0 25 v0 rfl (at_ 0 v0 rfl)) t0;obtain ⟨x1,rfl,_,_,_⟩:=open_int mQ (hval 1 3 v1 rfl (at_ 1 v1 rfl)) t1;obtain ⟨x2,rfl,_,_,_⟩:=open_int mQ (hval 2 3 v2 rfl (at_ 2 v2 rfl)) t2;have hc:=(O4 Ut) (EN W) W [.agg [.sl 2 n0 g0,.sl 8 m0 h0],.i .i64 x1,.i .i64 x2] [v0,.int .i64 x1,.int .i64 x2] (fun s=>s=.v (.bool aF)) (amU W) (amX hL)
  ⟨r0,.i _ _,.i _ _,trivial⟩ ⟨aro a0 b0,rfl⟩
 have eargs:args=[v0,.int .i64 x1,.int .i64 x2].toArray:=by rw[<-ea]
 rw[eargs];refine hc.mono fun e W' ⟨v,s,H',he,hs,hr⟩=>?_;subst he hs;obtain rfl:=hr.avM;refine ⟨_,rfl,amY am1 rfl (by kernel_rfl) (by kernel_rfl) Tryz.underlying4 (by rw[eargs] at hW';exact hW') hr.below rfl rfl rfl⟩
theorem searchSteps_holds:Rows.SearchStepsSaid:=
 OpenClaim.holds_of_wide 4 jS rfl rfl rfl rfl rfl rfl rfl ⟨rfl,rfl,rfl,rfl,rfl⟩ rfl rfl rfl rfl rfl (by kernel_rfl) uF (by kernel_rfl)
  (of_decide_eq_true (by kernel_rfl)) (by unfold Func.isWrapper;first|(rw[if_pos (by decide +kernel)];kernel_rfl) |(rw[if_neg (by decide +kernel)];exact ⟨rfl,rfl⟩))
  (fun os started H enc _=>lifted4 os started H enc)
open Go
theorem searchSteps_card:Rows.SearchStepsCardSaid:=
 Claim7.holds_tied_plain_at .later [] [.data,.data,.data,.sentinel,.sentinel,.sentinel,.sentinel,.sentinel,.sentinel,.sentinel,.sentinel,.sentinel,.sentinel,.sentinel,.sentinel,.sentinel,.sentinel,.sentinel,.sentinel,.data,.data,.data,.data,.data,.data] aF (aF, "81e67fd4d3bd142d930eaa45586bdb8ac6b198972cce1b631dceec920cefaf18") aF
  searchSteps_holds (fun _ h=>by cases h) (by kernel_rfl) (fun _ h=>by cases h) searchSteps_row_tie rfl ⟨rfl,rfl⟩ (by kernel_rfl) rfl
  (fun f fn hf hfn=>by
   obtain rfl:f=4:=dH ((show aB.funcNamed "umpire/umpirelaw12.SearchSteps" = ay 4 by kernel_rfl).symm.trans hf) |>.symm
   obtain rfl:fn=jS:=(dH (uF.symm.trans hfn)).symm;exact ⟨by kernel_rfl,fun j t ht=>by
    rw[zi] at ht;have hm:t∈[25,3,3]:=by simpa using Array.mem_of_getElem? ht
    have hall:([25,3,3].all fun u=>!Tryz.prog.wantsStandIn u)=aF:=by kernel_rfl
    exact (show aB.wantsStandIn t=aA by simpa using dN.1 hall t hm)⟩)
  (by kernel_rfl)
#print axioms searchSteps_card
end Go.Proofs.YthehnhaoiijkhaaGreatDoor
