/- The law LevelFirst of chapter 14 is proved: where a history is not opaque, the told part of it is not final-state opaque, the one of one event less is opaque, and the event between is a return, a commit or an abort. It holds for every history of at most 100 objects and 70 events and every budget of at most 150 pairs, and is true at once beyond. -/
import Derived.Test.YthehnhaoiijkhaaGreatDoorF14
import Derived.ProofKit
import Derived.Deep.Slices
import Derived.Stop.LaidErr
import Derived.LaidMore
import Derived.OpenShut
import Derived.MakeChecks
import Derived.Test.YthehnhaoiijkhaaGreatDoorRows
import Derived.Carry
import Derived.Stop.Joined
import Derived.Test.YthehnhaoiijkhaaGreatDoorTie
import Derived.Test.YthehnhaoiijkhaaGreatDoorCards
open Int (ofNat)
open Bool renaming true->aC,false->ay,and_eq_true->aG
open Classical renaming propDecidable->aX
open Go.Addr renaming add->lD
open Go.DataW renaming trod->yI,trod_int->nY,trod_struct->rX,trod_array->tC,TrodAll->oP
open Go.IntKind renaming i64->aU
open Go.MemPlace renaming row->oC
open Go.AL renaming Oj->gV,Ev->dJ,nth->xZ,zJ->bf,zH->bC,okB->ny
open Go.AL.Au renaming nil->jw
open Go.AL.Rc renaming step->gQ
open Go.AL.Row renaming get->wo
open Go.Proofs.C7 renaming ok->bY,O5->kS
open Go.Proofs.Tryz renaming prog->aA,f9->jT,underlying46->tH,underlying329->rZ,underlying343->su,underlying9->kM,underlying300->lN,checked->pR,func9->sD,params9->x9
open Go.Sx.Sh renaming i->aT
open Go.Value renaming int->iQ,okWide->kJ
open Go.World renaming var?_cell->uT,doorLaid->vN
open Int renaming ofNat->ah
open List renaming all_eq_true->dA,mem_range->dD,mem_map->fC,mem_flatMap->iL,range->aY,getD_eq_getElem?_getD->bQ,getElem?_eq_getElem->aV,getElem_map->uP,getElem_range->rW,take->uQ,drop->uS,getElem?_map->iO,length->yJ
open Nat renaming le_refl->bV,beq->dQ,eq_of_beq_eq_true->fJ,pow_lt_pow_right->iE,zero_le->fK,add_assoc->qO,mul_one->yQ
open Option renaming isSome_iff_exists->eF,some->ak,none->aK,map_eq_some_iff->bM,getD_some->rY
open Option.some renaming inj->dw
open Prod.mk renaming injEq->jk
namespace Go.Pl
open Go Go.Sx Go.Proofs Go.Gm Go.Bf
theorem acg{ok ok' yes atw:Nat->Bool}{cnt cnt':Nat->Int}:∀(r i:Nat) (p:Int),(∀k,i<=k->k<i+r->ok k=ok' k/\(ok k=aC->yes k=atw k/\cnt k=cnt' k))->KT ok yes cnt r i p=KT ok' atw cnt' r i p
 |0,i,p,h=>rfl |r+1,i,p,h=>by
  obtain ⟨h1,h2⟩:=h i (bV _) (by omega);rw[KT,KT,<-h1];cases hb:ok i with
  |false=>rfl |true=>
   obtain ⟨h3,h4⟩:=h2 hb;rw[<-h3,<-h4];cases yes i with
   |false=>rfl |true=>exact acg r (i+1) _ fun k a b=>h k (by omega) (by omega)
noncomputable def pD(n:Nat)(g h:Nat->List Sh)(lv mo:Int)(i:Nat):Option (List (Nd (List BK))):=EM (Ub (CY (hsS n g i h) lv)) Xp (newL n g) mo.toNat
noncomputable def yD(n:Nat)(g h:Nat->List Sh)(lv mo:Int)(i:Nat):Bool:=match pD n g h lv mo i with
 |some r=>Sj (Ub (CY (hsS n g i h) lv)) Xp (newL n g) r |none=>ay
noncomputable def cD(n:Nat)(g h:Nat->List Sh)(lv mo:Int)(i:Nat):Int:=match pD n g h lv mo i with
 |some r=>(r.length:Nat) |none=>0
section
variable{n m:Nat}{g h:Nat->List Sh}{lv mo:Int}
theorem ajZ(P:JZ n g m h)(hb:(CY (hsS n g m h) lv).okb=aC):GH (hsS n g m h) lv mo=(pD n g h lv mo m).isSome/\(GH (hsS n g m h) lv mo=aC->Gq (hsS n g m h) lv mo=yD n g h lv mo m/\J3 (hsS n g m h) lv mo=cD n g h lv mo m):=by
 obtain ⟨h1,h2⟩:=av3 P hb mo;have e:GH (hsS n g m h) lv mo=(pD n g h lv mo m).isSome:=by
  unfold GH pD;rw[h1];cases EM (Ub (CY (hsS n g m h) lv)) Xp (newL n g) mo.toNat<;>rfl
 refine ⟨e,fun c=>?_⟩;rw[e] at c;obtain ⟨r,hr⟩:=eF.1 c;obtain ⟨q1,q2,q3⟩:=h2 r hr;unfold yD cD;rw[hr];exact ⟨q1,q3⟩
theorem alj(P:JZ n g m h)(hok:(zX n g m h).okb=aC)(hn:(zX n g m h).n<=12):IL (hsS n g m h) mo=KT (fun i=>(pD n g h 3 mo i).isSome) (yD n g h 3 mo) (cD n g h 3 mo) (m+1) 0 0:=
 acg (ok:=fun i=>GH (Nw (hsS n g m h) i) 3 mo) (yes:=fun i=>Gq (Nw (hsS n g m h) i) 3 mo) (cnt:=fun i=>J3 (Nw (hsS n g m h) i) 3 mo) (m+1) 0 0 fun k _ hk=>by
  obtain ⟨k1,k2⟩:=TP hok (i:=k) (by omega);have hb:(CY (hsS n g k h) 3).okb=aC:=by
   show ((zX n g k h).okb&&decide ((zX n g k h).n<=12))=aC;rw[k1,decide_eq_true (by omega:(zX n g k h).n<=12)];rfl
  exact ajZ (P.pre (by omega)) hb
end
theorem SS:(zX 1 DW 13 FX).okb=aC/\(zX 1 DW 13 FX).n<=12:=by
 have h:((zX 1 DW 13 FX).okb&&decide ((zX 1 DW 13 FX).n<=12))=aC:=aq3;rw[aG,decide_eq_true_eq] at h;exact h
theorem Z4:(zX 1 DW 14 Ny).okb=aC/\(zX 1 DW 14 Ny).n<=12:=by
 have h:((zX 1 DW 14 Ny).okb&&decide ((zX 1 DW 14 Ny).n<=12))=aC:=asJ;rw[aG,decide_eq_true_eq] at h;exact h
theorem xq1:(KT (fun i=>(pD 1 DW FX 3 100 i).isSome) (yD 1 DW FX 3 100) (cD 1 DW FX 3 100) 14 0 0).1=0:=by kernel_rfl
theorem xq2:(KT (fun i=>(pD 1 DW FX 3 2 i).isSome) (yD 1 DW FX 3 2) (cD 1 DW FX 3 2) 14 0 0).1=2:=by kernel_rfl
theorem xq3:(fun x:Nat×Nat×Int=>(x.1,x.2.1)) (KT (fun i=>(pD 1 DW Ny 3 100 i).isSome) (yD 1 DW Ny 3 100) (cD 1 DW Ny 3 100) 15 0 0)=(1,14):=by kernel_rfl
theorem xr1:((pD 1 DW FX 1 100 13).isSome&&yD 1 DW FX 1 100 13&&(pD 1 DW FX 2 100 13).isSome&&yD 1 DW FX 2 100 13&&(pD 1 DW FX 3 100 13).isSome&&yD 1 DW FX 3 100 13)=aC:=by kernel_rfl
theorem xr2:((pD 1 DW FX 1 2 13).isNone&&(pD 1 DW FX 2 2 13).isNone&&(pD 1 DW FX 3 2 13).isNone)=aC:=by kernel_rfl
end Go.Pl
namespace Go.Proofs
open Go Go.Sx Go.Pl
def lvS(x:Int):List (List Sh):=[[.i .i64 x],[.i .i64 x],[.i .i64 x],[.i .i64 x]]
noncomputable def aq4:List Sh->Tree Sh
 |[.agg [.sl 2 n o,.sl 8 m e],t]=>match Ak t with
  |some mo=>bif ckR gV n o 1 DW&&ckR dJ m e 13 FX then
    bif mo==100 then .leaf (.zQ [.sl 1 4 (Af (lvS 1)),.v .nilIface]) else bif mo==2 then .leaf (.zQ [.sl 1 4 (Af (lvS 3)),.v .nilIface]) else .fail
   else .fail
  |none=>.fail
 |_=>.fail
noncomputable def aq5:List Sh->Tree Sh
 |[.agg [.sl a n o,.sl b m e],t,u]=>match Ak t,Ak u with
  |some lv,ak mo=>bif lv==4 then
    bif dQ n 0&&dQ m 0 then bif mo==1 then .leaf (.zQ [.agg [.b aC,.sl 2 0 (fun _=>[]),.sl 1 1 (oaF (hsS 0 (fun _=>[]) 0 (fun _=>[])) 1),.i .i64 0,.i .i64 (ocI (hsS 0 (fun _=>[]) 0 (fun _=>[])) 1)],.v .nilIface]) else .fail
    else bif dQ a 2&&dQ b 8&&ckR gV n o 1 DW&&ckR dJ m e 14 Ny&&mo==100 then .leaf (.zQ [.agg [.b ay,.sl 2 0 (fun _=>[]),.sl 1 0 (fun _=>[]),.i .i64 14,.i .i64 (ocI (hsS 1 DW 14 Ny) 100)],.v .nilIface]) else .fail
   else .fail
  |_,_=>.fail
 |_=>.fail
noncomputable def Xr:Nat->Option (List Sh->Tree Sh)
 |25=>ak aq4 |26=>ak aq5 |_=>aK
noncomputable def C23:Ctx:={C7 zG W7 Xr zV with lits:=aC}
theorem w23:Tree.way (AA C23 AX 900 3000 23 [.code []] (zL 100 [] L0) [] []) []=ak ([],DF.ret (Sh.b aC)):=by kernel_rfl
end Go.Proofs
namespace Go.Pl
open Go Go.Sx Go.Proofs Go.Gm Go.Bf
theorem ach{n m:Nat}{g h:Nat->List Sh}{mo:Int}(P:JZ n g m h)(hok:(zX n g m h).okb=aC)(hn:(zX n g m h).n<=12)(hm:Gz mo=aC):opB (hsS n g m h) mo=aC:=by
 have hp:hpB (hsS n g m h)=aC:=@decide_eq_true _ (aX _) ⟨n,g,m,h,rfl,P⟩;unfold opB;rw[hp,show (Vu (hsS n g m h)).okb=aC from hok,decide_eq_true (show (Vu (hsS n g m h)).n<=12 from hn),hm];rfl
theorem ax0:Gz 2=aC:=by kernel_rfl
theorem ax1:Gz 1=aC:=by kernel_rfl
theorem atx(lv:Int):(CY (hsS 1 DW 13 FX) lv).okb=aC:=aq3
theorem asL:∀k,k<4->H6 (hsS 1 DW 13 FX) ((k+1:Nat):Int) 100=1:=fun k hk=>by
 have h:=xr1;simp only[aG] at h;obtain ⟨⟨⟨⟨⟨a1,b1⟩,a2⟩,b2⟩,a3⟩,b3⟩:=h;have go (lv:Int) (h4:lv≠4) (a:(pD 1 DW FX lv 100 13).isSome=aC) (b:yD 1 DW FX lv 100 13=aC):H6 (hsS 1 DW 13 FX) lv 100=1:=by
  obtain ⟨e1,e2⟩:=ajZ (mo:=100) exH (atx lv);have r:=e1.trans a;have y:=(e2 r).1.trans b;unfold H6 KD LJ;rw[if_neg h4,if_neg h4,if_pos r,if_pos y]
 match k,hk with
 |0,_=>exact go 1 (by decide) a1 b1 |1,_=>exact go 2 (by decide) a2 b2 |2,_=>exact go 3 (by decide) a3 b3 |3,_=>
  have e:=(congrArg (fun x:Nat×Nat×Int=>x.1) (alj (mo:=100) exH SS.1 SS.2)).trans xq1;have e:(IL (hsS 1 DW 13 FX) 100).1=0:=e;show H6 (hsS 1 DW 13 FX) 4 100=1;unfold H6 KD LJ Yw oyB;rw[if_pos rfl,if_pos rfl,e];rfl
theorem asM:∀k,k<4->H6 (hsS 1 DW 13 FX) ((k+1:Nat):Int) 2=3:=fun k hk=>by
 have h:=xr2;simp only[aG] at h;obtain ⟨⟨a1,a2⟩,a3⟩:=h;have go (lv:Int) (h4:lv≠4) (a:(pD 1 DW FX lv 2 13).isNone=aC):H6 (hsS 1 DW 13 FX) lv 2=3:=by
  obtain ⟨e1,e2⟩:=ajZ (mo:=2) exH (atx lv);rw[Option.isNone_iff_eq_none.1 a] at e1;unfold H6 KD;rw[if_neg h4,e1];rfl
 match k,hk with
 |0,_=>exact go 1 (by decide) a1 |1,_=>exact go 2 (by decide) a2 |2,_=>exact go 3 (by decide) a3 |3,_=>
  have e:=(congrArg (fun x:Nat×Nat×Int=>x.1) (alj (mo:=2) exH SS.1 SS.2)).trans xq2;have e:(IL (hsS 1 DW 13 FX) 2).1=2:=e;show H6 (hsS 1 DW 13 FX) 4 2=3;unfold H6 KD Yw;rw[if_pos rfl,e];rfl
theorem aty:JZ 0 (fun _=>[]) 0 (fun _=>[]):=⟨rfl,rfl,rfl,rfl⟩
theorem alk:(zX 0 (fun _=>[]) 0 (fun _=>[])).okb=aC:=by kernel_rfl
theorem av5:(fun x:Nat×Nat×Int=>(x.1,x.2.1)) (IL (hsS 0 (fun _=>[]) 0 (fun _=>[])) 1)=(0,1):=by
 rw[alj aty alk (by decide:(0:Nat)<=12)];kernel_rfl
end Go.Pl
namespace Go.Proofs
open Go Go.Sx Go.Pl Go.Gm Go.Bf
theorem ah4{H:Mem}{a n:Nat}{g g':Nat->List Sh}{b:Nat}{v:Value}(hn:n=0)(h:Rep H (.sl a n g) v):Rep H (.sl b 0 g') v:=by
 subst hn;exact Na h (.inl ⟨rfl,rfl⟩)
theorem ax2:zZ aA (Ar W7) 25 aq4:=by
 intro H w Aq args φ hon hgl hr hφ;unfold aq4 at hφ;split at hφ
 ·rename_i n o m e t
  split at hφ
  ·rename_i mo e1
   cases c1:(ckR gV n o 1 DW&&ckR dJ m e 13 FX)<;>simp only[c1,cond_true,cond_false] at hφ
   ·exact hφ.elim
   rw[aG] at c1;have k1:=ZY c1.1 exH.o;have k2:=ZY c1.2 exH.p;match args,hr with
   |[a0,a1],⟨r0,r1,_⟩=>
   cases c2:(mo==100)<;>simp only[c2,cond_true,cond_false] at hφ
   ·cases c3:(mo==2)<;>simp only[c3,cond_true,cond_false] at hφ
    ·exact hφ.elim
    rw[beq_iff_eq] at c3;subst c3;refine TQ OLv hon hgl (Aq:=[hsS 1 DW 13 FX,t]) ⟨Yy k1 k2 r0,r1,trivial⟩ hφ ?_;unfold alf;simp only[e1];refine ⟨ach exH SS.1 SS.2 ax0,.inr ⟨rfl,rfl,fun k hk=>?_⟩,rfl,trivial⟩;show [aT .i64 (H6 (hsS 1 DW 13 FX) ((k+1:Nat):Int) 2:Nat)]=_;rw[asM k hk];match k,hk with
    |0,_=>rfl |1,_=>rfl |2,_=>rfl |3,_=>rfl
   ·rw[beq_iff_eq] at c2
    subst c2;refine TQ OLv hon hgl (Aq:=[hsS 1 DW 13 FX,t]) ⟨Yy k1 k2 r0,r1,trivial⟩ hφ ?_;unfold alf;simp only[e1];refine ⟨ach exH SS.1 SS.2 ali,.inr ⟨rfl,rfl,fun k hk=>?_⟩,rfl,trivial⟩;show [aT .i64 (H6 (hsS 1 DW 13 FX) ((k+1:Nat):Int) 100:Nat)]=_;rw[asL k hk];match k,hk with
    |0,_=>rfl |1,_=>rfl |2,_=>rfl |3,_=>rfl
  ·exact hφ.elim
 ·exact hφ.elim
theorem ax3:zZ aA (Ar W7) 26 aq5:=by
 intro H w Aq args φ hon hgl hr hφ;unfold aq5 at hφ;split at hφ
 ·rename_i a n o b m e t u
  split at hφ
  ·rename_i lv mo e1 e2
   cases c0:(lv==4)<;>simp only[c0,cond_true,cond_false] at hφ
   ·exact hφ.elim
   rw[beq_iff_eq] at c0;subst c0;match args,hr with
   |[a0,a1,a2],⟨r0,r1,r2,_⟩=>
   cases c1:(dQ n 0&&dQ m 0)<;>simp only[c1,cond_true,cond_false] at hφ
   ·cases c2:(dQ a 2&&dQ b 8&&ckR gV n o 1 DW&&ckR dJ m e 14 Ny&&mo==100)<;>simp only[c2,cond_true,cond_false] at hφ
    ·exact hφ.elim
    simp only[aG,beq_iff_eq] at c2;obtain ⟨⟨⟨⟨x1,x2⟩,x3⟩,x4⟩,rfl⟩:=c2;obtain rfl:=fJ x1;obtain rfl:=fJ x2;have k1:=ZY x3 alh.o;have k2:=ZY x4 alh.p;refine TQ O26 hon hgl (Aq:=[hsS 1 DW 14 Ny,t,u]) ⟨Yy k1 k2 r0,r1,r2,trivial⟩ hφ ?_;have q:(IL (hsS 1 DW 14 Ny) 100).1=1/\(IL (hsS 1 DW 14 Ny) 100).2.1=14:=by
     have h:=xq3;rw[<-alj (mo:=100) alh Z4.1 Z4.2,jk] at h;exact h
    have j1:KD (hsS 1 DW 14 Ny) 4 100=aC:=by unfold KD Yw;rw[if_pos rfl,q.1];rfl
    have j2:LJ (hsS 1 DW 14 Ny) 4 100=ay:=by unfold LJ oyB;rw[if_pos rfl,q.1];rfl
    have j3:jaN (hsS 1 DW 14 Ny) 4 100=0:=by unfold jaN oaN;rw[if_pos rfl,q.1];rfl
    have j4:FW (hsS 1 DW 14 Ny) 4 100=14:=by unfold FW oiI;rw[if_pos rfl,q.1,q.2];rfl
    have j5:jcI (hsS 1 DW 14 Ny) 4 100=ocI (hsS 1 DW 14 Ny) 100:=by unfold jcI;rw[if_pos rfl]
    have j6:jsN (hsS 1 DW 14 Ny) 4 100=0:=by unfold jsN;rw[if_pos rfl]
    unfold adX;simp only[e1,e2];refine ⟨by unfold juB;rw[ach alh Z4.1 Z4.2 ali];rfl,fun _=>?_,fun c=>by rw[j1] at c;cases c⟩;rw[j2,j3,j4,j5,j6];exact ⟨⟨.inl rfl,.inl ⟨rfl,rfl⟩,.inl ⟨rfl,rfl⟩,rfl,rfl,trivial⟩,rfl,trivial⟩
   ·rw[aG] at c1
    have n0:=fJ c1.1;have m0:=fJ c1.2;cases c2:(mo==1)<;>simp only[c2,cond_true,cond_false] at hφ
    ·exact hφ.elim
    rw[beq_iff_eq] at c2;subst c2;refine TQ O26 hon hgl (Aq:=[hsS 0 (fun _=>[]) 0 (fun _=>[]),t,u]) ⟨Lu r0 ⟨fun _ r=>ah4 n0 r,fun _ r=>ah4 m0 r,trivial⟩,r1,r2,trivial⟩ hφ ?_;have h:=av5;rw[jk] at h;have q:(IL (hsS 0 (fun _=>[]) 0 (fun _=>[])) 1).1=0:=h.1;have q2:(IL (hsS 0 (fun _=>[]) 0 (fun _=>[])) 1).2.1=1:=h.2;have j1:KD (hsS 0 (fun _=>[]) 0 (fun _=>[])) 4 1=aC:=by unfold KD Yw;rw[if_pos rfl,q];rfl
    have j2:LJ (hsS 0 (fun _=>[]) 0 (fun _=>[])) 4 1=aC:=by unfold LJ oyB;rw[if_pos rfl,q];rfl
    have j3:jaN (hsS 0 (fun _=>[]) 0 (fun _=>[])) 4 1=1:=by unfold jaN oaN;rw[if_pos rfl,q,if_pos rfl,q2]
    have j3f:jaF (hsS 0 (fun _=>[]) 0 (fun _=>[])) 4 1=oaF (hsS 0 (fun _=>[]) 0 (fun _=>[])) 1:=by unfold jaF;rw[if_pos rfl]
    have j4:FW (hsS 0 (fun _=>[]) 0 (fun _=>[])) 4 1=0:=by unfold FW oiI;rw[if_pos rfl,q];rfl
    have j5:jcI (hsS 0 (fun _=>[]) 0 (fun _=>[])) 4 1=ocI (hsS 0 (fun _=>[]) 0 (fun _=>[])) 1:=by unfold jcI;rw[if_pos rfl]
    have j6:jsN (hsS 0 (fun _=>[]) 0 (fun _=>[])) 4 1=0:=by unfold jsN;rw[if_pos rfl]
    unfold adX;simp only[e1,e2];refine ⟨by unfold juB;rw[ach aty alk (by decide:(0:Nat)<=12) ax1];rfl,fun _=>?_,fun c=>by rw[j1] at c;cases c⟩;rw[j2,j3,j3f,j4,j5,j6];exact ⟨⟨.inl rfl,.inl ⟨rfl,rfl⟩,U7,rfl,rfl,trivial⟩,rfl,trivial⟩
  ·exact hφ.elim
 ·exact hφ.elim
theorem aq6:Az aA C23:=by
 have h:=bY Xr zV;exact ⟨h.1,h.2,h.3,h.4,h.5,h.6,h.7⟩
theorem ax4:AU aA C23:=by
 have h:=kS (stop:=zV) (spec:=Xr) (fun g F h=>by
  unfold Xr at h;split at h
  ·cases h;exact ax2
  ·cases h;exact ax3
  ·cases h) fun g h=>by
  unfold Xr at h;split at h;all_goals first|(cases h;done) |kernel_rfl
 exact ⟨h.1,h.2,h.3,h.4⟩
theorem O23:zZ aA (Ar W7) 23 W11:=by
 refine Fa (C:=C23) aq6 (fn:=Tryz.f23) (by kernel_rfl) (by kernel_rfl) fun H w Aq args φ hrep h=>?_
 have hn:Tryz.f23.ntmps=100:=by kernel_rfl
 unfold W11 at h;split at h
 ·refine ⟨[],hrep,L0,?_⟩
  refine Ey aq6 ax4 (hold:=AX) (m:=900) (n:=3000) (ts:=[]) ?_;rw[hn];have hφ:φ (.v (.bool aC)):=h;exact av4 w23 trivial (AB (s':=.v (.bool aC)) (.inr rfl) hφ)
 ·exact h.elim
open Go Go.Sx Go.Pl
end Go.Proofs
namespace Go.Pl
open Go Go.Sx Go.Proofs Go.Gm Go.Bf
theorem aq7{ok yes:Nat->Bool}{cnt:Nat->Int}:∀(r i:Nat) (p:Int),(∀k,i<=k->k<i+r->ok k=aC/\yes k=aC)->(KT ok yes cnt r i p).1=0
 |0,i,p,_=>rfl |r+1,i,p,h=>by
  obtain ⟨h1,h2⟩:=h i (bV _) (by omega);rw[KT,h1,h2];exact aq7 r (i+1) _ fun k a b=>h k (by omega) (by omega)
section
variable{n m:Nat}{g h:Nat->List Sh}{mo:Int}
@[irreducible] def EnD (n m:Nat) (g h:Nat->List Sh) (lv:Int):Prop:=QK (next (Gb (CY (hsS n g m h) lv))) (full (Gb (CY (hsS n g m h) lv))) (Go.Gm.start (Hy g))
theorem av6(P:JZ n g m h)(hok:(zX n g m h).okb=aC)(hn:(zX n g m h).n<=12)(hm:Gz mo=aC){lv:Int}(c:GH (hsS n g m h) lv mo=aC):Gq (hsS n g m h) lv mo=aC↔EnD n m g h lv:=by
 have G:=TN (lv:=lv) (ajK P hok hn);unfold GH at c;obtain ⟨r,hr⟩:=eF.1 c;have eL:rsL (hsS n g m h) lv mo=r:=by simp_all [rsL]
 have m1:1<=mo.toNat:=by
  grind [Gz]
 unfold Gq EnD;rw[eL];exact aoT m1 hr G.step Yv G.start
theorem asN(x:Int):D7 x m<=m:=by unfold D7;omega
end
end Go.Pl
namespace Go.Proofs
open Go Go.Sx Go.Pl Go.Gm Go.Bf
section
variable{H0:Mem}{w0:World}{φ:Sh->Prop}{o m:Nat}{og mg:Nat->List Sh}{mo x:Int}
end
theorem aq8{n m:Nat}{g h:Nat->List Sh}{lv mo:Int}(P:JZ n g m h)(hl:1<=lv/\lv<=4)(hno:¬(Gz mo=aC/\(CY (hsS n g m h) 1).okb=aC)):∃k,isK k/\jeB k (hsS n g m h) lv mo=aC:=by
 have hp:hpB (hsS n g m h)=aC:=@decide_eq_true _ (aX _) ⟨n,g,m,h,rfl,P⟩;unfold jeB;rw[hp,decide_eq_true hl];cases hm:Gz mo with
 |false=>exact ⟨4,.inr (.inr (.inr rfl)),rfl⟩ |true=>
  have hb:(CY (hsS n g m h) 1).okb=ay:=by
   simp_all
  rw[hb];rcases amD hb with ha|⟨ha,he|he⟩
  ·exact ⟨0,.inl rfl,by assumption⟩
  ·exact ⟨1,.inr (.inl rfl),by simp_all⟩
  ·exact ⟨6,.inr (.inr (.inl rfl)),by simp_all⟩
end Go.Proofs
namespace Go.Gm
open Go.Bf
section
variable{S:Type}{g g':Game S}
structure Gw(g g':Game S):Prop where
 len:g'.n=g.n\/g'.n=g.n+1
 com:∀i,i<g.n->g.com i=aC->g'.com i=aC
 Oz:∀i,i<g.n->g.Oz i=aC->g'.Oz i=aC
 run:∀i,i<g.n->∀s,g'.run s i=g.run s i
 mask:∀i,i<g.n->∀j,j<g.n->(g'.mask i).testBit j=(g.mask i).testBit j
 new:g'.n=g.n+1->∀i,i<=g.n->(g'.mask i).testBit g.n=ay
 last:g'.n=g.n+1->g'.Oz g.n=aC/\∀s,(g'.run s g.n).isSome=aC
 all:g'.all=g.all
theorem amK(h:Gw g g'){p i:Nat}(hi:i<g.n)(hm:may g p i=aC):may g' p i=aC:=by
 unfold may at hm ⊢;rw[aG,dA] at hm ⊢;refine ⟨hm.1,fun j hj=>?_⟩;have hj:=dD.1 hj;by_cases c:j<g.n
 ·rw[h.mask i hi j c];exact hm.2 j (dD.2 c)
 ·rcases h.len with e|e
  ·omega
  ·obtain rfl:j=g.n:=by omega
   rw[h.new e i (by omega)];rfl
theorem aj0(h:Gw g g')(nd:Nd S):∀t∈next g nd,t∈next g' nd:=fun t ht=>by
 obtain ⟨e,he,rfl⟩:=fC.1 ht;obtain ⟨i,h',he⟩:=iL.1 he;have hi:=dD.1 h';have hi':i∈aY g'.n:=dD.2 (by rcases h.len with e|e<;>omega)
 have mem:∀u∈EK g' nd i,u.2∈next g' nd:=fun u hu=>fC.2 ⟨u,iL.2 ⟨i,hi',hu⟩,rfl⟩;unfold EK at he;split at he
 ·rename_i h1
  have h2:=amK h hi h1;rcases List.mem_append.1 he with he|he
  ·split at he
   ·rename_i s e1 e2
    obtain rfl:e=_:=by simpa using he
    refine mem ((g'.id i,aC),⟨nd.placed|||1<<<i,s⟩) ?_;unfold EK;rw[if_pos h2,h.com i hi e1,h.run i hi,e2];simp
   ·cases he
  ·split at he
   ·rename_i q
    obtain rfl:e=_:=by simpa using he
    refine mem ((g'.id i,ay),⟨nd.placed|||1<<<i,nd.st⟩) ?_;unfold EK;rw[if_pos h2,if_pos (⟨h.Oz i hi q.1,fun a=>by rw[h.run i hi];exact q.2 (by rw[<-h.all];exact a)⟩:g'.Oz i=aC/\(g'.all=aC->(g'.run nd.st i).isSome=aC))];simp
   ·cases he
 ·cases he
theorem aj1(h:Gw g g'){nd:Nd S}(he:QK (next g) (full g) nd):nd.placed<2^g.n->QK (next g') (full g') nd:=by
 induction he with
 | @here nd hf=>
  intro hp;rcases h.len with e|e
  ·exact .here (by unfold full at hf ⊢;rw[e];exact hf)
  ·have hb:=(adF hp).1 hf
   have hnot:nd.placed.testBit g.n=ay:=Nat.testBit_lt_two_pow hp;have hm:may g' nd.placed g.n=aC:=by
    unfold may;rw[aG,dA];refine ⟨by rw[hnot];rfl,fun j hj=>?_⟩;have hj:=dD.1 hj;by_cases c:j<g.n
    ·rw[hb j c];simp
    ·obtain rfl:j=g.n:=by omega
     rw[h.new e _ (bV _)];rfl
   have hl:=h.last e;have hlt:nd.placed|||1<<<g.n<2^g'.n:=by
    rw[e];refine Nat.or_lt_two_pow (Nat.lt_trans hp (iE (by decide) (by omega))) ?_;rw[Nat.one_shiftLeft];exact iE (by decide) (by omega)
   refine .step (t:=⟨nd.placed|||1<<<g.n,nd.st⟩) ?_ (.here ?_)
   ·refine fC.2 ⟨((g'.id g.n,ay),⟨nd.placed|||1<<<g.n,nd.st⟩),iL.2 ⟨g.n,dD.2 (by omega),?_⟩,rfl⟩
    unfold EK;rw[if_pos hm,if_pos (⟨hl.1,fun _=>hl.2 _⟩:g'.Oz g.n=aC/\(g'.all=aC->(g'.run nd.st g.n).isSome=aC))];simp
   ·refine (adF (nd:=⟨nd.placed|||1<<<g.n,nd.st⟩) hlt).2 fun i hi=>?_
    show (nd.placed|||1<<<g.n).testBit i=aC;rw[aeU];by_cases c:i<g.n
    ·rw[hb i c];rfl
    ·obtain rfl:i=g.n:=by omega
     simp
 |step ht _ ih=>exact fun hp=>.step (aj0 h _ _ ht) (ih (lt_next hp _ ht))
end
end Go.Gm
namespace Go.AL
open Go Go.Sx
def Um(r r':Rc):Prop:=r'.bg=r.bg/\r'.en=r.en/\(r'.st=r.st\/r'.st=2)/\(r'.zK=r.zK\/∃d:De,d.ret=0/\r'.zK=r.zK++[d])
theorem Um.refl(r:Rc):Um r r:=⟨rfl,rfl,.inl rfl,.inl rfl⟩
theorem step_up{many:Nat}{e:Ev}{r r':Rc}(k:e.kind=2\/e.kind=4\/e.kind=7)(h:gQ many e r=.inr r'):Um r r':=by
 unfold gQ at h;rcases k with k|k|k<;>rw[k] at h
 ·cases c:r.stand==1 with
  |true=>rw[c] at h;cases h;exact ⟨rfl,rfl,.inl rfl,.inr ⟨_,rfl,rfl⟩⟩ |false=>simp_all
 ·cases c:r.stand==1 with
  |true=>rw[c] at h;cases h;exact ⟨rfl,rfl,.inr rfl,.inl rfl⟩ |false=>simp_all
 ·cases c:r.stand==1 with
  |true=>rw[c] at h;cases h;exact ⟨rfl,rfl,.inl rfl,.inl rfl⟩ |false=>simp_all
theorem aq9{σ:Au}{e:Ev}(k:e.kind=1\/e.kind=2\/e.kind=4\/e.kind=7)(h:(σ.feed e).1=aK):
  (∃r:Rc,r.st=1/\r.en=-1/\r.zK=[]/\(σ.feed e).2.rs=σ.rs++[r])\/((σ.feed e).2.rs.length=σ.rs.length/\∀i,i<σ.rs.length->Um (DC σ i) (DC (σ.feed e).2 i)):=by
 unfold Au.feed at h ⊢;cases hb:σ.Jz e.tx with
 |none=>
  grind
 |some i=>
  rw[hb] at h;simp only at h ⊢;cases c:e.kind==1 with
  |true=>simp_all |false=>
   rw[c] at h;simp only[cond_false] at h ⊢;have k':e.kind=2\/e.kind=4\/e.kind=7:=k.resolve_left fun q=>by simp_all
   cases hs:gQ σ.many e (σ.rs.getD i ⟨0,0,0,0,0,0,[],0⟩) with
   |inl x=>simp_all |inr r=>
    refine .inr ⟨by simp,fun j hj=>?_⟩;have hi:i<σ.rs.length:=by
     have:=List.findIdx?_eq_some_iff_getElem.1 (show σ.rs.findIdx? (fun r=>r.id==e.tx)=ak i from hb);exact this.1
    have up:=step_up k' hs;show Um (σ.rs.getD j rc0) ((σ.rs.set i r).getD j rc0);grind [rc0,List.getElem?_set_self,aV,List.getElem?_set_ne,Um.refl]
theorem aj2{p:Nat->Ev}{k:Nat}(h:takeB (k+1) p=aC):∃σ σ':Au,FC k p=σ/\FC (k+1) p=σ'/\(σ.feed (p k)).1=aK/\(σ.feed (p k)).2=σ':=by
 have e:=take_split (p:=p) k 1 0 jw;unfold takeB KQ at h;unfold FC KQ;grind [takeN]
end Go.AL
namespace Go.Pl
open Go Go.Sx Go.Proofs Go.Gm Go.Bf
open Go.AL (Au Rc De DT dfn DC takeB FC Um)
theorem aci{n:Nat}{d:Dd}(hd:d.ret=0):∀(l:List Dd) (g:Nat->List Sh) (i:Nat),ES n g i (l++[d])=ES n g i l
 |[],g,i=>by simp[ES,hd] |a::l,g,i=>by simp only[List.cons_append,ES,aci hd l]
def ara(d:De):Dd:=⟨d.obj,d.op,d.key,d.val,d.ret,d.got,d.here,d.back⟩
theorem afs(r:Rc):lst Dd (DT r) (dfn r)=r.zK.map ara:=by
 unfold lst;refine List.ext_getElem (by simp[DT]) fun i h1 h2=>?_
 have hi:i<r.zK.length:=by grind
 rw[uP,uP,rW];show ara (xZ r.zK i)=_;simp_all [xZ,bQ]
theorem asO{n:Nat}{g:Nat->List Sh}{r r':Rc}(h:Um r r'):TU n g (DT r') (dfn r')=TU n g (DT r) (dfn r)/\Oy n g (DT r') (dfn r')=Oy n g (DT r) (dfn r):=by
 unfold TU Oy U8 Yn;rw[afs,afs];rcases h.2.2.2 with e|⟨d,hd,e⟩
 ·rw[e];exact ⟨rfl,rfl⟩
 ·rw[e,List.map_append,List.map_cons,List.map_nil,aci (d:=ara d) hd];exact ⟨rfl,rfl⟩
theorem gm3(n:Nat)(g:Nat->List Sh)(m:Nat)(h:Nat->List Sh){σ:Au}(hσ:FC m (bf h)=σ):
  (Gb (Ba 3 n g (zX n g m h))).n=σ.rs.length/\(∀i,i<σ.rs.length->(Gb (Ba 3 n g (zX n g m h))).com i=((DC σ i).st==3||(DC σ i).st==2)/\(Gb (Ba 3 n g (zX n g m h))).Oz i=!((DC σ i).st==3)/\
   (∀s,(Gb (Ba 3 n g (zX n g m h))).run s i=if TU n s (DT (DC σ i)) (dfn (DC σ i))=aC then ak (Oy n s (DT (DC σ i)) (dfn (DC σ i))) else aK)/\
   ∀j,j<σ.rs.length->((Gb (Ba 3 n g (zX n g m h))).mask i).testBit j=Vd (DC σ j).en (DC σ i).bg)/\(Gb (Ba 3 n g (zX n g m h))).all=aC:=by
 subst hσ;have hc:(Ez 3 (zX n g m h).n (zX n g m h).T).length=(FC m (bf h)).rs.length:=by rw[ct3,List.length_map,List.length_range];rfl
 have tc:∀i,i<(FC m (bf h)).rs.length->nth (Ez 3 (zX n g m h).n (zX n g m h).T) i=(zX n g m h).T i:=fun i hi=>by grind [ct3,asA,zX]
 refine ⟨hc,fun i hi=>⟨?_,?_,fun s=>?_,fun j hj=>?_⟩,rfl⟩
 ·show ((nth (Ez 3 (zX n g m h).n (zX n g m h).T) i).st==3||(nth (Ez 3 (zX n g m h).n (zX n g m h).T) i).st==2)=_
  rw[tc i hi];rfl
 ·show (!((nth (Ez 3 (zX n g m h).n (zX n g m h).T) i).st==3))=_
  rw[tc i hi];rfl
 ·show (if TU n s (nth (Ez 3 (zX n g m h).n (zX n g m h).T) i).k (nth (Ez 3 (zX n g m h).n (zX n g m h).T) i).g=aC then ak (Oy n s (nth (Ez 3 (zX n g m h).n (zX n g m h).T) i).k (nth (Ez 3 (zX n g m h).n (zX n g m h).T) i).g) else aK)=_
  rw[tc i hi];rfl
 ·show ((Zy 3 (Ez 3 (zX n g m h).n (zX n g m h).T) i).toNat).testBit j=_
  rw[amE (by decide) (by omega),tc i hi,tc j hj];rfl
theorem aj3{n k:Nat}{g h:Nat->List Sh}(ht:takeB (k+1) (bf h)=aC)(kd:(bf (α:=dJ) h k).kind=1\/(bf (α:=dJ) h k).kind=2\/(bf (α:=dJ) h k).kind=4\/(bf (α:=dJ) h k).kind=7):
  Gw (Gb (Ba 3 n g (zX n g k h))) (Gb (Ba 3 n g (zX n g (k+1) h))):=by
 obtain ⟨σ,σ',h1,h2,h3,h4⟩:=Go.AL.aj2 ht;obtain ⟨a1,a2,a3⟩:=gm3 n g k h h1;obtain ⟨b1,b2,b3⟩:=gm3 n g (k+1) h h2;have up:=Go.AL.aq9 kd h3;rw[h4] at up;have lift:∀i,i<σ.rs.length->i<σ'.rs.length/\Um (DC σ i) (DC σ' i):=fun i hi=>by
  grind [List.length_append,DC,List.getElem?_append_left,Um.refl]
 have old:σ'.rs.length=σ.rs.length+1->∃r:Rc,r.st=1/\r.en=-1/\r.zK=[]/\DC σ' σ.rs.length=r:=fun el=>by
  grind [DC]
 refine ⟨?_,fun i hi c=>?_,fun i hi c=>?_,fun i hi s=>?_,fun i hi j hj=>?_,fun e i hi=>?_,fun e=>?_,by rw[a3,b3]⟩
 ·grind
 ·rw[a1] at hi
  obtain ⟨l1,u⟩:=lift i hi;rw[(a2 i hi).1] at c;rw[(b2 i l1).1];(rcases u.2.2.1 with q|q<;>rw[q])<;>simp_all
 ·rw[a1] at hi
  obtain ⟨l1,u⟩:=lift i hi;rw[(a2 i hi).2.1] at c;rw[(b2 i l1).2.1];(rcases u.2.2.1 with q|q<;>rw[q])<;>simp_all
 ·grind [asO]
 ·rw[a1] at hi hj
  obtain ⟨l1,u⟩:=lift i hi;obtain ⟨l2,v⟩:=lift j hj;rw[(a2 i hi).2.2.2 j hj,(b2 i l1).2.2.2 j l2,u.1,v.2.1]
 ·rw[a1,b1] at e
  rw[a1] at hi ⊢;obtain ⟨r,q1,q2,q3,q4⟩:=old e;rw[(b2 i (by omega)).2.2.2 σ.rs.length (by omega),q4,q2];rfl
 ·rw[a1,b1] at e
  rw[a1];obtain ⟨r,q1,q2,q3,q4⟩:=old e;obtain ⟨_,d2,d3,_⟩:=b2 σ.rs.length (by omega);refine ⟨by simp_all,fun s=>?_⟩;rw[d3 s,q4];have:TU n s (DT r) (dfn r)=aC:=by
   unfold TU U8;rw[afs,q3];rfl
  simp_all
theorem arb{ok yes:Nat->Bool}{cnt:Nat->Int}:∀(r i:Nat) (p:Int),(KT ok yes cnt r i p).1=1->i<=(KT ok yes cnt r i p).2.1/\(KT ok yes cnt r i p).2.1<i+r/\ok (KT ok yes cnt r i p).2.1=aC/\yes (KT ok yes cnt r i p).2.1=ay/\∀k,i<=k->k<(KT ok yes cnt r i p).2.1->ok k=aC/\yes k=aC
 |0,i,p,h=>by cases h |r+1,i,p,h=>by
  rw[KT] at h ⊢;cases ho:ok i with
  |false=>rw[ho] at h;cases h |true=>
   rw[ho] at h;cases hy:yes i with
   |false=>
    refine ⟨bV _,by show i<i+(r+1);omega,ho,hy,fun k h1 h2=>?_⟩;have h2:k<i:=h2;omega
   |true=>
    rw[hy] at h;obtain ⟨a,b,c,d,e⟩:=arb r (i+1) _ h;refine ⟨by show i<=(KT ok yes cnt r (i+1) _).2.1;omega,by show (KT ok yes cnt r (i+1) _).2.1<i+(r+1);omega,c,d,fun k h1 h2=>?_⟩;by_cases q:k=i
    ·subst q;exact ⟨ho,hy⟩
    ·exact e k (by omega) h2
section
variable{n m:Nat}{g h:Nat->List Sh}{mo:Int}
theorem ard:EnD n 0 g h 3:=by
 unfold EnD;obtain ⟨a1,_,_⟩:=gm3 n g 0 h (σ:=jw) rfl;refine .here ?_;have a1:(Gb (CY (hsS n g 0 h) 3)).n=0:=a1;unfold full;rw[a1];rfl
theorem amL{k:Nat}(ht:Go.AL.takeB (k+1) (bf h)=aC)(kd:(bf (α:=dJ) h k).kind=1\/(bf (α:=dJ) h k).kind=2\/(bf (α:=dJ) h k).kind=4\/(bf (α:=dJ) h k).kind=7)
  (e:EnD n k g h 3):EnD n (k+1) g h 3:=by
 unfold EnD at *;exact aj1 (aj3 ht kd) e (start_lt _)
attribute [local irreducible] GH Gq IL J3
theorem amM(P:JZ n g m h)(hok:(zX n g m h).okb=aC)(hn:(zX n g m h).n<=12)(hm:Gz mo=aC)(e:(IL (hsS n g m h) mo).1=1):
  ∃k,(IL (hsS n g m h) mo).2.1=k+1/\k+1<=m/\GH (hsS n g (k+1) h) 3 mo=aC/\Gq (hsS n g (k+1) h) 3 mo=ay/\(IL (hsS n g k h) mo).1=0/\
   ((bf (α:=dJ) h k).kind=3\/(bf (α:=dJ) h k).kind=5\/(bf (α:=dJ) h k).kind=6):=by
 have key:∃q,(IL (hsS n g m h) mo).2.1=q/\q<m+1/\GH (hsS n g q h) 3 mo=aC/\Gq (hsS n g q h) 3 mo=ay/\∀k,k<q->GH (hsS n g k h) 3 mo=aC/\Gq (hsS n g k h) 3 mo=aC:=by
  have e:=e;unfold IL oqR at e;unfold IL oqR;have x:=arb (ok:=fun i=>GH (hsS n g i h) 3 mo) (yes:=fun i=>Gq (hsS n g i h) 3 mo) (cnt:=fun i=>J3 (hsS n g i h) 3 mo) (m+1) 0 0 e;exact ⟨_,rfl,Nat.lt_of_lt_of_eq x.2.1 (Nat.zero_add _),x.2.2.1,x.2.2.2.1,fun k hk=>x.2.2.2.2 k (fK _) hk⟩
 obtain ⟨q,hq,b,c,d,f⟩:=key;rw[hq];clear hq e;have pr (k:Nat) (hk:k<=m):GH (hsS n g k h) 3 mo=aC->(Gq (hsS n g k h) 3 mo=aC↔EnD n k g h 3):=fun r=>by
  have pre:=TP hok hk;exact av6 (P.pre hk) pre.1 (by omega) hm r
 cases q with
 |zero=>
  have:=(pr 0 (fK _) c).2 ard;rw[d] at this;cases this
 |succ k=>
  have hk:k+1<=m:=by omega
  have no:¬EnD n (k+1) g h 3:=fun x=>by
   have:=(pr (k+1) hk c).2 x;rw[d] at this;cases this
  obtain ⟨c',d'⟩:GH (hsS n g k h) 3 mo=aC/\Gq (hsS n g k h) 3 mo=aC:=f k (by omega);have yes:EnD n k g h 3:=(pr k (by omega) c').1 d';refine ⟨k,rfl,hk,c,d,by unfold IL oqR;exact aq7 (ok:=fun i=>GH (hsS n g i h) 3 mo) (yes:=fun i=>Gq (hsS n g i h) 3 mo) (cnt:=fun i=>J3 (hsS n g i h) 3 mo) (k+1) 0 0 fun i _ hi=>f i (by omega),?_⟩;have pre:=TP hok hk;obtain ⟨G,ht⟩:=ahP (P.pre hk) pre.1;have v:=G.valid k (by omega);have vk:1<=(bf (α:=dJ) h k).kind/\(bf (α:=dJ) h k).kind<=7:=by
   unfold Go.AL.Bl at v;rw[aG,aG] at v;have w:=v.1.1;unfold Go.AL.OH at w;exact (of_decide_eq_true w).1
  have out:¬((bf (α:=dJ) h k).kind=1\/(bf (α:=dJ) h k).kind=2\/(bf (α:=dJ) h k).kind=4\/(bf (α:=dJ) h k).kind=7):=fun kq=>no (amL ht kq yes);revert vk out;generalize (bf (α:=dJ) h k).kind=kd;clear no yes pr f c d c' d' pre G ht v;intro vk out;omega
end
end Go.Pl
namespace Go.Proofs
open Go Go.Sx Go.Pl
noncomputable def Z5:Nat->Option (List Sh->Tree Sh)
 |21=>ak D21 |23=>ak W11 |26=>ak adX |_=>aK
end Go.Proofs
namespace Go.Pl
open Go Go.Sx Go.Proofs Go.Gm Go.Bf
theorem arf{k m:Nat}(h:k<=m):D7 (k:Int) m=k:=by unfold D7;omega
theorem asP{H:Mem}{n m:Nat}{g h:Nat->List Sh}{v:Value}(hv:Rep H (.agg [.sl 2 n g,.sl 8 m h]) v)(hk:ny dJ m h=aC):Rep H (.agg [.sl 2 n g,.sl 8 m (bC (bf (α:=dJ) h))]) v:=by
 cases hv with
 |agg _ vs h1 h2=>
  refine .agg _ vs h1 fun j s v' e1 e2=>?_
  grind [Go.AL.Ed]
theorem JZ.fn{n m:Nat}{g h:Nat->List Sh}(P:JZ n g m h):JZ n g m (bC (bf (α:=dJ) h)):=
 ⟨P.o,Go.AL.Tz (o:=bf (α:=dJ) h) fun j _=>rfl,by
  have:=P.r;assumption,P.k⟩
end Go.Pl
namespace Go.Proofs
open Go Go.Sx Go.Pl Go.Gm Go.Bf
theorem av8(stop:Nat->List Nat->Bool):AU aA (C7 zG W7 Z5 stop):=kS (fun g F h=>by
 unfold Z5 at h;grind [O21,O23,O26]) fun g h=>by
 unfold Z5 at h;split at h;all_goals first|(cases h;done) |kernel_rfl
noncomputable def Xt(k:Nat):Nat->Option (List Sh->Tree Sh)
 |23=>ak W11 |26=>ak (aqX k) |_=>aK
theorem asQ{k:Nat}(hk:isK k)(stop:Nat->List Nat->Bool):AU aA (C7 zG W7 (Xt k) stop):=kS (fun g F h=>by
 unfold Xt at h;grind [O23,axX]) fun g h=>by
 unfold Xt at h;split at h;all_goals first|(cases h;done) |kernel_rfl
noncomputable def F9:List Sh->Tree Sh
 |[s,t]=>match Ak t with
  |some _=>.need (hpB s) (.leaf (.v (.bool aC))) |_=>.fail
 |_=>.fail
theorem O9:zZ aA (Ar W7) 9 F9:=by
 intro H w Aq args φ hon hgl hr hφ;unfold F9 at hφ;split at hφ
 ·rename_i s t
  split at hφ
  ·rename_i mo e1
   obtain ⟨q1,hφ⟩:=hφ;obtain ⟨n,g,m,h0,rfl,P0⟩:=@of_decide_eq_true _ (aX _) q1;have hφ:φ (.v (.bool aC)):=hφ;have hn:jT.ntmps=106:=by kernel_rfl
   match args,hr with
   |[a0,a1],⟨r0,r1,_⟩=>
   have r0:=asP r0 P0.p;have P:=P0.fn;generalize he:bf (α:=dJ) h0=ev at r0 P;have T:up φ (.b aC):=AB (s':=.v (.bool aC)) (.inr rfl) hφ;by_cases hy:Gz mo=aC/\(CY (hsS n g m (bC ev)) 1).okb=aC
   ·have hT:((zX n g m (bC ev)).okb&&decide ((zX n g m (bC ev)).n<=12))=aC:=hy.2
    rw[aG,decide_eq_true_eq] at hT;have fw:=afl hT.1;have ju (k:Nat) (hk:k<=m) (lv:Int) (hl:1<=lv/\lv<=4):juB (hsS n g k (bC ev)) lv mo=aC:=by
     have pre:=TP hT.1 hk;unfold juB;rw[ach (P.pre hk) pre.1 (by omega) hy.1,decide_eq_true hl];rfl
    have pf (x:Int):pfB n x m=aC:=by
     have:=asN (m:=m) x;unfold pfB;rw[aG];exact ⟨room_le (by omega) (by omega),room_le (by omega) (by omega)⟩
    have key (c:KD (hsS n g m (bC ev)) (ah 4) mo=aC) (y:LJ (hsS n g m (bC ev)) (ah 4) mo=ay):∃k,(FW (hsS n g m (bC ev)) (ah 4) mo)=((k+1:Nat):Int)/\k+1<=m/\GH (hsS n g (k+1) (bC ev)) 3 mo=aC/\Gq (hsS n g (k+1) (bC ev)) 3 mo=ay/\(IL (hsS n g k (bC ev)) mo).1=0/\((ev k).kind=3\/(ev k).kind=5\/(ev k).kind=6):=by
     unfold KD Yw at c;unfold LJ oyB at y;rw[if_pos (show ah 4=4 from rfl)] at c y;have le:=Yx (fun i=>GH (hsS n g i (bC ev)) 3 mo) (fun i=>Gq (hsS n g i (bC ev)) 3 mo) (fun i=>J3 (hsS n g i (bC ev)) 3 mo) (m+1) 0 0;have le:(IL (hsS n g m (bC ev)) mo).1<=2:=le;have e:(IL (hsS n g m (bC ev)) mo).1=1:=by
      grind
     obtain ⟨k,h1,h2,h3,h4,h5,h6⟩:=amM P hT.1 hT.2 hy.1 e;rw[Go.AL.NW] at h6;refine ⟨k,?_,h2,h3,h4,h5,h6⟩;unfold FW oiI;rw[if_pos (show ah 4=4 from rfl),if_neg (by rw[e];decide),h1]
    have yes (y:LJ (hsS n g m (bC ev)) (ah 4) mo=aC):up φ (.b (zG.eq (FW (hsS n g m (bC ev)) (ah 4) mo) (ah 0))):=by
     unfold LJ oyB at y;rw[if_pos (show ah 4=4 from rfl)] at y;unfold FW oiI;rw[if_pos (show ah 4=4 from rfl),if_pos (by simpa using y)];exact T
    refine Ja (C:=C7 zG W7 Z5 zW) (bY _ _) (fn:=jT) (C9:=[hsS n g m (bC ev),.i .i64 mo]) (L:=L0) (by kernel_rfl) (by kernel_rfl) hon hgl ⟨r0,Dn e1 r1,trivial⟩ ?_;refine Ey (bY _ _) (av8 _) (hold:=AX) (m:=300) (n:=400) (ts:=[]) ?_;rw[hn];have all (c:KD (hsS n g m (bC ev)) (ah 4) mo=aC) (y:LJ (hsS n g m (bC ev)) (ah 4) mo=ay):zG.lt (FW (hsS n g m (bC ev)) (ah 4) mo) (ah 1)=ay/\zG.lt (zG.Aa m) (FW (hsS n g m (bC ev)) (ah 4) mo)=ay/\juB (hsS n g (D7 (FW (hsS n g m (bC ev)) (ah 4) mo) m) (bC ev)) (ah 3) mo=aC/\KD (hsS n g (D7 (FW (hsS n g m (bC ev)) (ah 4) mo) m) (bC ev)) (ah 3) mo=aC/\juB (hsS n g (D7 (zG.sub .i64 (FW (hsS n g m (bC ev)) (ah 4) mo) (ah 1)) m) (bC ev)) (ah 4) mo=aC/\KD (hsS n g (D7 (zG.sub .i64 (FW (hsS n g m (bC ev)) (ah 4) mo) (ah 1)) m) (bC ev)) (ah 4) mo=aC/\zG.inB (zG.sub .i64 (FW (hsS n g m (bC ev)) (ah 4) mo) (ah 1)) m=aC/\LJ (hsS n g (D7 (FW (hsS n g m (bC ev)) (ah 4) mo) m) (bC ev)) (ah 3) mo=ay/\LJ (hsS n g (D7 (zG.sub .i64 (FW (hsS n g m (bC ev)) (ah 4) mo) (ah 1)) m) (bC ev)) (ah 4) mo=aC/\((ev (zG.toN (zG.sub .i64 (FW (hsS n g m (bC ev)) (ah 4) mo) (ah 1)))).kind=3\/(ev (zG.toN (zG.sub .i64 (FW (hsS n g m (bC ev)) (ah 4) mo) (ah 1)))).kind=5\/(ev (zG.toN (zG.sub .i64 (FW (hsS n g m (bC ev)) (ah 4) mo) (ah 1)))).kind=6):=by
     obtain ⟨k,ej,h2,h3,h4,h5,h6⟩:=key c y;have w:zG.sub .i64 ((k+1:Nat):Int) (ah 1)=(k:Nat):=by
      have e:zG.sub .i64 ((k+1:Nat):Int) (ah 1)=aU.wrap (((k+1:Nat):Int) - 1):=rfl;grind [BF]
     rw[ej,w,arf h2,arf (by omega:k<=m)];refine ⟨?_,?_,ju _ h2 _ (by decide),?_,ju _ (by omega) _ (by decide),?_,?_,?_,?_,?_⟩
     ·rfl
     ·rw[zN,decide_eq_false_iff_not,Ad];omega
     ·exact h3
     ·unfold KD Yw;rw[if_pos (show ah 4=4 from rfl),h5];rfl
     ·simp[AY];omega
     ·exact h4
     ·unfold LJ oyB;rw[if_pos (show ah 4=4 from rfl),h5];rfl
     ·exact h6
    have no {X:Prop} {b:Bool} (e:b=ay) (q:b=aC):X:=by simp_all
    have bad {a b:Bool} (e:a=b) (q:a=!b):up φ (.b ay):=by simp_all
    have kd (c:KD (hsS n g m (bC ev)) (ah 4) mo=aC) (y:LJ (hsS n g m (bC ev)) (ah 4) mo=ay) (q3:zG.eq (ev (zG.toN (zG.sub .i64 (FW (hsS n g m (bC ev)) (ah 4) mo) (ah 1)))).kind (ah 3)=ay) (q5:zG.eq (ev (zG.toN (zG.sub .i64 (FW (hsS n g m (bC ev)) (ah 4) mo) (ah 1)))).kind (ah 5)=ay):up φ (.b (zG.eq (ev (zG.toN (zG.sub .i64 (FW (hsS n g m (bC ev)) (ah 4) mo) (ah 1)))).kind (ah 6))):=by
     rcases (all c y).2.2.2.2.2.2.2.2.2 with e|e|e
     ·rw[e] at q3;cases q3
     ·rw[e] at q5;cases q5
     ·rw[e];exact T
    have tm:=nd (zG.le (zG.Aa n) (ah 100)) (fun _=>nd (zG.nt (zG.le (zG.Aa m) (ah 70))) (fun _=>T) (fun _=>nd (zG.lt (ah 150) mo) (fun _=>T) (fun _=>an (ju m (bV _) (ah 4) (by decide)) (nd (KD (hsS n g m (bC ev)) (ah 4) mo) (fun c=>nd (LJ (hsS n g m (bC ev)) (ah 4) mo) (fun y=>yes y) (fun y=>nd (zG.lt (FW (hsS n g m (bC ev)) (ah 4) mo) (ah 1)) (fun q=>bad (all c y).1 q) (fun _=>nd (zG.lt (zG.Aa m) (FW (hsS n g m (bC ev)) (ah 4) mo)) (fun q=>bad (all c y).2.1 q) (fun _=>
     an (pf (FW (hsS n g m (bC ev)) (ah 4) mo)) (an (all c y).2.2.1 (nd (KD (hsS n g (D7 (FW (hsS n g m (bC ev)) (ah 4) mo) m) (bC ev)) (ah 3) mo) (fun _=>an (pf (zG.sub .i64 (FW (hsS n g m (bC ev)) (ah 4) mo) (ah 1))) (an (all c y).2.2.2.2.1 (nd (KD (hsS n g (D7 (zG.sub .i64 (FW (hsS n g m (bC ev)) (ah 4) mo) (ah 1)) m) (bC ev)) (ah 4) mo) (fun _=>an (all c y).2.2.2.2.2.2.1 (nd (zG.nt (LJ (hsS n g (D7 (FW (hsS n g m (bC ev)) (ah 4) mo) m) (bC ev)) (ah 3) mo)) (fun _=>nd (LJ (hsS n g (D7 (zG.sub .i64 (FW (hsS n g m (bC ev)) (ah 4) mo) (ah 1)) m) (bC ev)) (ah 4) mo) (fun _=>nd (zG.eq (ev (zG.toN (zG.sub .i64 (FW (hsS n g m (bC ev)) (ah 4) mo) (ah 1)))).kind (ah 3)) (fun _=>T) (fun q3=>nd (zG.eq (ev (zG.toN (zG.sub .i64 (FW (hsS n g m (bC ev)) (ah 4) mo) (ah 1)))).kind (ah 5)) (fun _=>T) (fun q5=>kd c y q3 q5))) (fun q=>bad (all c y).2.2.2.2.2.2.2.2.1 q)) (fun q=>bad (b:=aC) (by rw[(all c y).2.2.2.2.2.2.2.1];rfl) q)))
      (fun q=>an (all c y).2.2.2.2.2.2.1 (nd (zG.nt (LJ (hsS n g (D7 (FW (hsS n g m (bC ev)) (ah 4) mo) m) (bC ev)) (ah 3) mo)) (fun _=>bad (all c y).2.2.2.2.2.1 q) (fun _=>bad (all c y).2.2.2.2.2.1 q))))))
      (fun q=>an (pf (zG.sub .i64 (FW (hsS n g m (bC ev)) (ah 4) mo) (ah 1))) (an (all c y).2.2.2.2.1 (nd (KD (hsS n g (D7 (zG.sub .i64 (FW (hsS n g m (bC ev)) (ah 4) mo) (ah 1)) m) (bC ev)) (ah 4) mo) (fun _=>an (all c y).2.2.2.2.2.2.1 (bad (all c y).2.2.2.1 q)) (fun _=>an (all c y).2.2.2.2.2.2.1 (bad (all c y).2.2.2.1 q)))))))))))
      (fun _=>T))))) (fun _=>T)
    exact EI tm (by kernel_rfl)
   ·obtain ⟨k,hk,je⟩:=aq8 (lv:=4) P (by decide) hy
    refine Ja (C:=C7 zG W7 (Xt k) zW) (bY _ _) (fn:=jT) (C9:=[hsS n g m (bC ev),.i .i64 mo]) (L:=L0) (by kernel_rfl) (by kernel_rfl) hon hgl ⟨r0,Dn e1 r1,trivial⟩ ?_;refine Ey (bY _ _) (asQ hk _) (hold:=AX) (m:=300) (n:=400) (ts:=[]) ?_;rw[hn];have tm:=nd (zG.le (zG.Aa n) (ah 100)) (fun _=>nd (zG.nt (zG.le (zG.Aa m) (ah 70))) (fun _=>T) (fun _=>nd (zG.lt (ah 150) mo) (fun _=>T) (fun _=>an je T))) (fun _=>T);rcases hk with rfl|rfl|rfl|rfl
    ·exact EI tm (by kernel_rfl)
    ·exact EI tm (by kernel_rfl)
    ·exact EI tm (by kernel_rfl)
    ·exact EI tm (by kernel_rfl)
  ·exact hφ.elim
 ·exact hφ.elim
end Go.Proofs
namespace Go.Sx
open Go.RowKit Go.ChangeShapes Go.WideShapes Go.Deep
def DX(w:World):Mem:=fun b=>w.heap[b]?
theorem amN(w:World):(DX w).on w:=fun _ _ h=>h
theorem Xu{w:World}{a:Addr}{v:Value}(h:w.cell? a=ak v):hcell (DX w) a.block a.off=ak v/\a.spot=aK:=by
 unfold World.cell? at h;unfold hcell DX;(split at h)<;>simp_all
section
variable{H:Type}{enc:TypeId×Value->H}{P:Program}{w:World}{base:Nat}{spare:Nat->Bool}{held:Bool}
def arh(P:Program)(fs:Array Field)(k:Nat):Bool:=
 fs.size==k&&(aY k).all fun i=>match fs[i]? with
  |some f=>f.offset==i&&(match P.underlying f.type with|some (.int .i64)=>aC|_=>ay)&&P.cellsOf f.type==1
  |none=>ay
def rowB(P:Program)(e k:Nat):Bool:=
 match P.underlying e with
 |some (.int .i64)=>k==1&&P.cellsOf e==1 |some (.struct fs)=>arh P fs k&&P.cellsOf e==k |_=>ay
def int64(n:Int):Prop:=(Lit.int .i64 n).wf=aC
theorem ah5{e k fuel:Nat}{cs:List Value}{x:DataW H×List MemPlace}(hr:rowB P e k=aC)(h:yI enc P w base spare held fuel e cs=ak x):
  ∃ns:List Int,ns.length=k/\cs=ns.map (iQ .i64)/\∀n∈ns,int64 n:=by
 unfold rowB at hr;split at hr
 ·rename_i hu
  simp only[aG,beq_iff_eq] at hr;obtain ⟨n,rfl,_,hw⟩:=nY hu h;exact ⟨[n],hr.1.symm,rfl,fun m hm=>by simp at hm;subst hm;exact hw⟩
 ·rename_i fs hu
  simp only[aG,beq_iff_eq] at hr;obtain ⟨hf,hc⟩:=hr;unfold arh at hf;simp only[aG,beq_iff_eq] at hf;obtain ⟨hk,hf⟩:=hf;obtain ⟨xs,m,_,_,hlen,hxs,hel⟩:=rX hu h;rw[hc] at hlen;have cell:∀i,i<k->∃n,cs[i]?=ak (.int .i64 n)/\int64 n:=fun i hi=>by
   have q:=dA.1 hf i (dD.2 hi);split at q
   ·rename_i f hfi
    simp only[aG,beq_iff_eq] at q;obtain ⟨⟨ho,ht⟩,h1⟩:=q;have ht:P.underlying f.type=ak (.int .i64):=by
     grind
    have q2:=hel i f hfi;rw[ho,h1] at q2;have hxi:i<xs.length:=by omega
    rw[aV hxi] at q2;obtain ⟨n,e1,_,e3⟩:=nY ht q2;refine ⟨n,?_,e3⟩;have:(uQ 1 (uS i cs))[0]?=ak (.int .i64 n):=by rw[e1];rfl
    grind
   ·cases q
  clear hel h hf;have:∀(j:Nat) (l:List Value),l.length=j->(∀i,i<j->∃n,l[i]?=ak (.int .i64 n)/\int64 n)->∃ns:List Int,ns.length=j/\l=ns.map (iQ .i64)/\∀n∈ns,int64 n:=by
   intro j;induction j with
   |zero=>simp |succ j ih=>
    intro l hl hc;match l,hl with
    |v::l,hl=>
     obtain ⟨ns,h1,h2,h3⟩:=ih l (by grind) fun i hi=>by grind
     obtain ⟨n,q1,q2⟩:=hc 0 (by omega);simp at q1;subst q1;exact ⟨n::ns,by simp[h1],by simp[h2],fun m hm=>by
      grind⟩
  simp_all
 ·cases hr
def Gs(ns:List Int):List Sh:=ns.map (aT .i64)
theorem aj6{w:World}{base:Nat}{a:Addr}{n:Nat}{cs:List Value}(h:w.cells? base a n=ak cs):cs.length=n/\∀j,j<n->w.cell? (a.add j)=cs[j]?:=by
 unfold World.cells? at h;split at h
 ·have:∀(l:List Nat) (cs:List Value),l.mapM (fun i=>w.cell? (a.add i))=ak cs->cs.length=l.length/\∀(j:Nat) (i:Nat),l[j]?=ak i->w.cell? (a.add i)=cs[j]?:=by
   intro l;induction l with
   |nil=>simp |cons x l ih=>
    intro cs h;rw[List.mapM_cons] at h;simp only[Option.bind_eq_bind,Option.bind_eq_some_iff,Option.pure_def] at h;grind
  obtain ⟨e1,e2⟩:=this _ _ h;grind
 ·cases h
theorem ari(a:Addr)(n:Nat):(a.add n).off=a.off+n/\(a.add n).block=a.block:=by
 grind [lD]
theorem add_add'(a:Addr)(i j:Nat):(a.add i).add j=a.add (i+j):=by
 grind [lD,qO]
theorem acj{t e k fuel:Nat}{cs:List Value}{x:DataW H×List MemPlace}(ht:P.underlying t=ak (.slice e))(hr:rowB P e k=aC)(hk:P.cellsOf e=k)(h0:0<k)
  (h:yI enc P w base spare held fuel t cs=ak x) :
  ∃v n g,cs=[v]/\Rep (DX w) (.sl k n g) v/\∀i,i<n->∃ns:List Int,ns.length=k/\g i=Gs ns/\∀n∈ns,int64 n:=by
 rcases open_slice ht h with ⟨rfl,_⟩ |⟨a,len,cap,m,n,D,Pl,rfl,hb,hl,hcap,hm,_,hel⟩
 ·exact ⟨_,0,fun _=>[],rfl,.sl0 _ _ _ _ (fK _),fun i hi=>by omega⟩
 have hlm:len<=m:=by grind
 rw[hk] at hel;have row:∀i,i<len->∃ns:List Int,ns.length=k/\w.cells? base (a.add (i*k)) k=ak (ns.map (iQ .i64))/\∀n∈ns,int64 n:=fun i hi=>by
  obtain ⟨cs',h1,h2⟩:=hel i (by omega);grind [ah5]
 by_cases hz:len=0
 ·subst hz
  exact ⟨_,0,fun _=>[],rfl,.sl0 _ _ _ _ hcap,fun i hi=>by omega⟩
 let N:Nat->List Int:=fun i=>if h:i<len then (row i h).choose else []
 have hN:∀i,i<len->(N i).length=k/\w.cells? base (a.add (i*k)) k=ak ((N i).map (iQ .i64))/\∀n∈N i,int64 n:=fun i hi=>by
  grind
 have cell:∀i j,i<len->j<k->w.cell? (a.add (i*k+j))=((N i).map (iQ .i64))[j]?:=fun i j hi hj=>by
  grind [aj6,add_add']
 have hspot:a.spot=aK:=by
  have h1:=cell 0 0 (by omega) h0;have:∃v,w.cell? a=ak v:=by
   grind [lD]
  obtain ⟨v,hv⟩:=this;exact (Xu hv).2
 obtain ⟨blk,off,spot⟩:=a;simp only at hspot;subst hspot;refine ⟨_,len,fun i=>Gs (N i),rfl,.sl _ _ _ blk off cap (fun i j=>((N i).map (iQ .i64)).getD j .nilFunc) hl hcap (fun i hi=>by simp_all [Gs]) (fun i j hi hj=>?_) (fun i j hi hj=>?_) (fun i j s hi e=>?_),fun i hi=>⟨N i,(hN i hi).1,rfl,(hN i hi).2.2⟩⟩
 ·grind [aV,Xu,ari,qO]
 ·have hlt:j<(N i).length:=by simp_all
  simp[bQ,hlt];rfl
 ·simp only[Gs,iO,bM] at e
  obtain ⟨n,h3,rfl⟩:=e;simp[bQ,h3];exact .i _ _
def arj(P:Program)(t:Nat)(k0 k1:Nat):Bool:=
 match P.underlying t with
 |some (.struct fs)=>fs.size==2&&P.cellsOf t==2&&(match fs[0]?,fs[1]? with
  |some f0,ak f1=>f0.offset==0&&f1.offset==1&&P.cellsOf f0.type==1&&P.cellsOf f1.type==1&&(match P.underlying f0.type,P.underlying f1.type with
   |some (.slice e0),ak (.slice e1)=>rowB P e0 k0&&P.cellsOf e0==k0&&rowB P e1 k1&&P.cellsOf e1==k1 |_,_=>ay)
  |_,_=>ay)
 |_=>ay
theorem amO{t k0 k1:Nat}{v:Value}{d:DataW H}{ps:List MemPlace}(hp:arj P t k0 k1=aC)(h00:0<k0)(h01:0<k1){b0:Nat}(hval:kJ P w .any b0 t v)(hd:DataW.Trod enc P w base spare held t v d ps):
  ∃n0 g0 n1 g1,Rep (DX w) (.agg [.sl k0 n0 g0,.sl k1 n1 g1]) v/\(∀i,i<n0->∃ns:List Int,ns.length=k0/\g0 i=Gs ns/\∀n∈ns,int64 n)/\∀i,i<n1->∃ns:List Int,ns.length=k1/\g1 i=Gs ns/\∀n∈ns,int64 n:=by
 unfold arj at hp;split at hp
 ·rename_i fs hu
  unfold kJ at hval;rw[hu] at hval;obtain ⟨cs,rfl,hsz,_⟩:=hval;simp only[aG,beq_iff_eq] at hp;obtain ⟨⟨h2,hc⟩,hp⟩:=hp;split at hp
  ·rename_i f0 f1 hf0 hf1
   simp only[aG,beq_iff_eq] at hp;obtain ⟨⟨⟨⟨o0,o1⟩,c0⟩,c1⟩,hp⟩:=hp;split at hp
   ·rename_i e0 e1 hs0 hs1
    simp only[aG,beq_iff_eq] at hp;obtain ⟨⟨⟨r0,q0⟩,r1⟩,q1⟩:=hp;obtain ⟨fuel,hd⟩:=hd;obtain ⟨xs,m,_,_,hlen,hxs,hel⟩:=rX hu hd;have a0:=hel 0 f0 hf0;have a1:=hel 1 f1 hf1;rw[o0,c0,aV (by omega)] at a0;rw[o1,c1,aV (by omega)] at a1;obtain ⟨v0,n0,g0,x0,y0,z0⟩:=acj hs0 r0 q0 h00 a0;obtain ⟨v1,n1,g1,x1,y1,z1⟩:=acj hs1 r1 q1 h01 a1;rw[hc] at hsz;obtain ⟨l⟩:=cs;match l,hsz with
    |[u0,u1],_=>
     simp[Value.cells] at x0 x1;subst x0 x1;refine ⟨n0,g0,n1,g1,.agg _ _ rfl fun j s v e1 e2=>?_,z0,z1⟩;grind
   ·cases hp
  ·cases hp
 ·cases hp
end
open Go.RowKit Go.ChangeShapes Go.WideShapes Go.Deep
theorem TR{P:Program}{W:World}{n:String}{g:Nat}{cs:Array Value}(hg:P.globalNamed n=ak g)(h:W.var? P n=ak cs):∃e f,W.heap[g]?=ak (.cells cs e f):=by
 grind [World.var?]
theorem ark{P:Program}{n nm:String}{text:List UInt8}{r:List (String×DataW Unit)}{W:World}{g:Nat}{ti tp te ts:TypeId}{ms:Array (String×TypeId)}{f:Field}
  (h:laidMet P ((n,.iface nm (.ptr (.agg [.lit (.string text)])))::r) W)
  (hg:P.globalNamed n=ak g) (ht:(P.globals[g]?).map (·.type)=ak ti) (hi:P.underlying ti=ak (.interface ms)) (hrow:∀u,P.typeName? 3 u=ak nm->u=tp)
  (hp:P.underlying tp=ak (.pointer te)) (he:P.underlying te=ak (.struct #[f])) (hft:f.type=ts) (hfo:f.offset=0) (hs:P.underlying ts=ak .string) (hc:P.cellsOf te=1) (hcs:P.cellsOf ts=1) :
  EX (DX W) g (.er g tp):=by
 obtain ⟨ps,⟨g0,t0,cs0,f0,p0,q0,hg0,ht0,hv0,hd0,_,e0⟩,_,hrows⟩:=h;obtain rfl:=dw (hg.symm.trans hg0);obtain rfl:=dw (ht.symm.trans ht0);subst e0;obtain ⟨l0⟩:=cs0;have ok0:∀u v,l0=[.iface u v]->kJ P W .any 0 u v:=fun u v e=>by
  subst e;exact (hrows g 0 (by simp[oC])).2 u v (by simpa using uT hg0 hv0 0)
 obtain ⟨a0,s0,rfl,hc0,hs0,hz0,rfl⟩:=errorString_of_trod hi hrow hp he hft hfo hs hc hcs hd0 ok0;obtain ⟨c0,t0,hb0⟩:=(hrows a0.block a0.off (by simp[oC])).1;obtain ⟨e,f,hh⟩:=TR hg hv0;have h1:hcell (DX W) g 0=ak (.iface tp (.pointer (ak a0))):=by
  simp_all [hcell,DX]
 exact ⟨_,h1,.er g tp a0 c0 t0 h1 hb0,rfl⟩
theorem aj7{P:Program}{n:String}{texts:List (List UInt8)}{r:List (String×DataW Unit)}{W:World}{g:Nat}{t e:TypeId}{k:Nat}
  (h:laidMet P ((n,.agg (texts.map fun s=>.lit (.string s)))::r) W)
  (hg:P.globalNamed n=ak g) (ht:(P.globals[g]?).map (·.type)=ak t) (hu:P.underlying t=ak (.array k e)) (he:P.underlying e=ak .string) (hce:P.cellsOf e=1) (hct:P.cellsOf t=texts.length) :
  EX (DX W) g (.zQ (texts.map Sh.str)):=by
 obtain ⟨ps,⟨g0,t0,cs0,f0,p0,q0,hg0,ht0,hv0,hd0,_,e0⟩,_,hrows⟩:=h;obtain rfl:=dw (hg.symm.trans hg0);obtain rfl:=dw (ht.symm.trans ht0);obtain ⟨e1,f1,hh⟩:=TR hg hv0;obtain ⟨xs,m,_,hx,hlen,hxs,hel⟩:=tC hu hd0;have hxs':xs.map (·.1)=texts.map fun s=>.lit (.string s):=by
  simp_all
 have hkt:k=texts.length:=by
  have:=congrArg yJ hxs';grind
 subst hkt;have cell:∀j (hj:j<texts.length),cs0[j]?=ak (.string ⟨texts[j].toArray⟩):=fun j hj=>by
  have q:=hel j hj;rw[hce,yQ] at q;have hxj:j<xs.length:=by omega
  rw[aV hxj] at q;obtain ⟨s,q1,q2,_⟩:=DataW.trod_string he q;have q3:(xs.map (·.1))[j]?=ak (.lit (.string texts[j])):=by simp_all
  have q4:(xs[j]).1=.lit (.string texts[j]):=by
   grind
  rw[q2] at q4;simp at q4;have q5:(uQ 1 (uS j cs0.toList))[0]?=ak (.string s):=by rw[q1];rfl
  have q6:cs0[j]?=ak (.string s):=by grind
  rw[q6];obtain ⟨⟨l⟩⟩:=s;simp_all
 refine ⟨⟨cs0,e1,f1,hh,by simp_all⟩,fun j=>.string ⟨(texts.getD j []).toArray⟩,fun j hj=>?_,fun j s hs=>?_⟩
 ·have hj':j<texts.length:=by grind
  refine ⟨?_,rfl⟩;simp_all [hcell,DX,bQ,rY]
 ·rw[iO,bM] at hs
  obtain ⟨l,h1,rfl⟩:=hs;show Rep (DX W) (.str l) (.string ⟨(texts.getD j []).toArray⟩);rw[bQ,h1];exact .str l
theorem aj8{P:Program}{n:String}{kd:IntKind}{texts:List Int}{r:List (String×DataW Unit)}{W:World}{g:Nat}{t e:TypeId}{k:Nat}
  (h:laidMet P ((n,.agg (texts.map fun s=>.lit (.int kd s)))::r) W)
  (hg:P.globalNamed n=ak g) (ht:(P.globals[g]?).map (·.type)=ak t) (hu:P.underlying t=ak (.array k e)) (he:P.underlying e=ak (.int kd)) (hce:P.cellsOf e=1) (hct:P.cellsOf t=texts.length) :
  EX (DX W) g (.zQ (texts.map (aT kd))):=by
 obtain ⟨ps,⟨g0,t0,cs0,f0,p0,q0,hg0,ht0,hv0,hd0,_,e0⟩,_,hrows⟩:=h;obtain rfl:=dw (hg.symm.trans hg0);obtain rfl:=dw (ht.symm.trans ht0);obtain ⟨e1,f1,hh⟩:=TR hg hv0;obtain ⟨xs,m,_,hx,hlen,hxs,hel⟩:=tC hu hd0;have hxs':xs.map (·.1)=texts.map fun s=>.lit (.int kd s):=by
  simp_all
 have hkt:k=texts.length:=by
  have:=congrArg yJ hxs';grind
 subst hkt;have cell:∀j (hj:j<texts.length),cs0[j]?=ak (.int kd texts[j]):=fun j hj=>by
  have q:=hel j hj;rw[hce,yQ] at q;have hxj:j<xs.length:=by omega
  rw[aV hxj] at q;obtain ⟨s,q1,q2,_⟩:=nY he q;have q3:(xs.map (·.1))[j]?=ak (.lit (.int kd texts[j])):=by simp_all
  have q4:(xs[j]).1=.lit (.int kd texts[j]):=by
   grind
  rw[q2] at q4;simp at q4;have q5:(uQ 1 (uS j cs0.toList))[0]?=ak (.int kd s):=by rw[q1];rfl
  grind
 refine ⟨⟨cs0,e1,f1,hh,by simp_all⟩,fun j=>.int kd (texts.getD j 0),fun j hj=>?_,fun j s hs=>?_⟩
 ·have hj':j<texts.length:=by grind
  refine ⟨?_,rfl⟩;simp_all [hcell,DX,bQ,rY]
 ·rw[iO,bM] at hs
  obtain ⟨l,h1,rfl⟩:=hs;show Rep (DX W) (.i kd l) (.int kd (texts.getD j 0));rw[bQ,h1];exact .i kd l
def ad4(H:Mem)(W:World)(g:Nat)(text:List UInt8):Prop:=∃a T s,hcell H g 0=ak (.iface T (.pointer (ak a)))/\W.cell? a=ak (.string s)/\s.data.toList=text
theorem ad4.ne{H:Mem}{W:World}{g g':Nat}{t t':List UInt8}(h:ad4 H W g t)(h':ad4 H W g' t')(hne:t≠t'):hcell H g 0≠hcell H g' 0:=by
 obtain ⟨a,T,s,h1,h2,h3⟩:=h;obtain ⟨a',T',s',q1,q2,q3⟩:=h';intro e;rw[h1,q1] at e;cases e;rw[h2] at q2;cases q2;exact hne (h3.symm.trans q3)
theorem arl{P:Program}{n nm:String}{text:List UInt8}{r:List (String×DataW Unit)}{W:World}{g:Nat}{ti tp te ts:TypeId}{ms:Array (String×TypeId)}{f:Field}
  (h:laidMet P ((n,.iface nm (.ptr (.agg [.lit (.string text)])))::r) W)
  (hg:P.globalNamed n=ak g) (ht:(P.globals[g]?).map (·.type)=ak ti) (hi:P.underlying ti=ak (.interface ms)) (hrow:∀u,P.typeName? 3 u=ak nm->u=tp)
  (hp:P.underlying tp=ak (.pointer te)) (he:P.underlying te=ak (.struct #[f])) (hft:f.type=ts) (hfo:f.offset=0) (hs:P.underlying ts=ak .string) (hc:P.cellsOf te=1) (hcs:P.cellsOf ts=1) :
  ad4 (DX W) W g text:=by
 obtain ⟨ps,⟨g0,t0,cs0,f0,p0,q0,hg0,ht0,hv0,hd0,_,e0⟩,_,hrows⟩:=h;obtain rfl:=dw (hg.symm.trans hg0);obtain rfl:=dw (ht.symm.trans ht0);subst e0;obtain ⟨l0⟩:=cs0;have ok0:∀u v,l0=[.iface u v]->kJ P W .any 0 u v:=fun u v e=>by
  subst e;exact (hrows g 0 (by simp[oC])).2 u v (by simpa using uT hg0 hv0 0)
 obtain ⟨a0,s0,rfl,hc0,hs0,hz0,rfl⟩:=errorString_of_trod hi hrow hp he hft hfo hs hc hcs hd0 ok0;obtain ⟨e,f,hh⟩:=TR hg hv0;have h1:hcell (DX W) g 0=ak (.iface tp (.pointer (ak a0))):=by
  unfold hcell DX;rw[hh];rfl
 exact ⟨a0,tp,s0,h1,hc0,hs0⟩
end Go.Sx
namespace Go.Proofs
open Go Go.Sx Go.RowKit Go.ChangeShapes
theorem arn : "*" ++ "errors.errorString" = "*errors.errorString" :=by decide
theorem atz(u:TypeId)(h:aA.typeName? 3 u=ak "*errors.errorString"):u=329:=
 typeName_ptr_named (nm:= "errors.errorString") (by rw[arn];kernel_rfl) (by kernel_rfl) (by decide) u (by rw[arn];exact h)
theorem Vz{n:String}{text:List UInt8}{r:List (String×DataW Unit)}{W:World}{g:Nat}(h:laidMet aA ((n,.iface "*errors.errorString" (.ptr (.agg [.lit (.string text)])))::r) W)
  (hg:aA.globalNamed n=ak g) (ht:(aA.globals[g]?).map (·.type)=ak 46):EX (DX W) g (.er g 329)/\ad4 (DX W) W g text:=
 ⟨ark h hg ht tH atz rZ su rfl rfl kM (by kernel_rfl) (by kernel_rfl),arl h hg ht tH atz rZ su rfl rfl kM (by kernel_rfl) (by kernel_rfl)⟩
theorem st7{n:String}{texts:List (List UInt8)}{r:List (String×DataW Unit)}{W:World}{g t k:Nat}(h:laidMet aA ((n,.agg (texts.map fun s=>.lit (.string s)))::r) W)
  (hg:aA.globalNamed n=ak g) (ht:(aA.globals[g]?).map (·.type)=ak t) (hu:aA.underlying t=ak (.array k 9)) (hct:aA.cellsOf t=texts.length):EX (DX W) g (.zQ (texts.map Sh.str)):=
 aj7 h hg ht hu kM (by kernel_rfl) hct
open YthehnhaoiijkhaaGreatDoor.Rows in
def ah6:List (Nat×List UInt8):=[(0,[116,104,101,32,115,101,97,114,99,104,32,104,97,115,32,115,101,101,110,32,116,111,111,32,109,117,99,104]),(1,[116,111,111,32,109,97,110,121,32,116,114,97,110,115,97,99,116,105,111,110,115,32,116,111,32,98,101,32,106,117,100,103,101,100]),(2,[110,111,32,108,101,118,101,108]),(3,[110,111,32,99,101,114,116,105,102,105,99,97,116,101]),(4,[116,104,101,114,101,32,105,115,32,110,111,110,101]),(5,[105,116,32,119,97,115,32,115,116,111,112,112,101,100]),(6,[116,111,111,32,109,97,110,121]),(7,[110,111,32,111,98,106,101,99,116]),(8,[110,111,32,111,112,101,114,97,116,105,111,110,32,111,102,32,116,104,97,116,32,111,98,106,101,99,116]),(9,[105,116,32,104,97,115,32,98,101,103,117,110,32,97,108,114,101,97,100,121]),(10,[116,104,101,32,116,104,114,101,97,100,32,105,115,32,98,117,115,121]),(11,[110,111,32,115,117,99,104,32,116,114,97,110,115,97,99,116,105,111,110]),(12,[105,116,32,100,111,101,115,32,110,111,116,32,99,111,109,101,32,104,101,114,101]),(13,[110,111,32,97,110,115,119,101,114,32,111,102,32,116,104,97,116,32,111,112,101,114,97,116,105,111,110]),(14,[110,111,32,115,117,99,104,32,99,111,100,101]),(15,[110,111,32,101,118,101,110,116])]
theorem VA(n:Nat){g:Nat}{t:List UInt8}(h:ah6[n]?=ak (g,t)):(g,t)∈ah6:=List.mem_of_getElem? h
theorem aj9:(ah6.all fun p=>ah6.all fun q=>p.1==q.1||p.2 != q.2)=aC:=by decide +kernel
open YthehnhaoiijkhaaGreatDoor.Rows in
abbrev Xv:List (String×DataW Unit):=levelOrderRow.laid
theorem ah7{W:World}(h:laidMetH aA Xv W):BU (Ar W7) (DX W):=by
 rw[MakeChecks.laidMetH_plain _ _ _ (by kernel_rfl)] at h;have z0:=h;have z1:=z0.tail;have z2:=z1.tail;have e23:EX (DX W) 23 (.zQ (pow10.map (aT .u64))):=aj8 (kd:=.u64) (texts:=pow10) z2 (by kernel_rfl) (by kernel_rfl) Tryz.underlying322 Tryz.underlying315 (by kernel_rfl) (by kernel_rfl);have z3:=z2.tail;have e6:=Vz (g:=6) z3 (by kernel_rfl) (by kernel_rfl);have z4:=z3.tail;have e14:=Vz (g:=14) z4 (by kernel_rfl) (by kernel_rfl);have z5:=z4.tail;have e7:=Vz (g:=7) z5 (by kernel_rfl) (by kernel_rfl);have z6:=z5.tail;have e15:=Vz (g:=15) z6 (by kernel_rfl) (by kernel_rfl);have z7:=z6.tail;have e8:=Vz (g:=8) z7 (by kernel_rfl) (by kernel_rfl);have z8:=z7.tail;have e13:=Vz (g:=13) z8 (by kernel_rfl) (by kernel_rfl);have z9:=z8.tail;have e11:=Vz (g:=11) z9 (by kernel_rfl) (by kernel_rfl);have z10:=z9.tail;have e9:=Vz (g:=9) z10 (by kernel_rfl) (by kernel_rfl);have z11:=z10.tail;have e10:=Vz (g:=10) z11 (by kernel_rfl) (by kernel_rfl);have z12:=z11.tail;have e12:=Vz (g:=12) z12 (by kernel_rfl) (by kernel_rfl);have z13:=z12.tail;have e2:=Vz (g:=2) z13 (by kernel_rfl) (by kernel_rfl);have z14:=z13.tail;have e1:=Vz (g:=1) z14 (by kernel_rfl) (by kernel_rfl);have z15:=z14.tail;have e0:=Vz (g:=0) z15 (by kernel_rfl) (by kernel_rfl);have z16:=z15.tail;have e4:=Vz (g:=4) z16 (by kernel_rfl) (by kernel_rfl);have z17:=z16.tail;have e5:=Vz (g:=5) z17 (by kernel_rfl) (by kernel_rfl);have z18:=z17.tail;have e16:EX (DX W) 16 (.zQ (WT W7 16 4)):=st7 (texts:=[W7 16 0,W7 16 1,W7 16 2,W7 16 3]) z18 (by kernel_rfl) (by kernel_rfl) lN (by kernel_rfl);have z19:=z18.tail;have e17:EX (DX W) 17 (.zQ (WT W7 17 7)):=st7 (texts:=[W7 17 0,W7 17 1,W7 17 2,W7 17 3,W7 17 4,W7 17 5,W7 17 6]) z19 (by kernel_rfl) (by kernel_rfl) Tryz.underlying301 (by kernel_rfl);have z20:=z19.tail;have e18:EX (DX W) 18 (.zQ (WT W7 18 9)):=st7 (texts:=[W7 18 0,W7 18 1,W7 18 2,W7 18 3,W7 18 4,W7 18 5,W7 18 6,W7 18 7,W7 18 8]) z20 (by kernel_rfl) (by kernel_rfl) Tryz.underlying302 (by kernel_rfl);have z21:=z20.tail;have e19:EX (DX W) 19 (.zQ (WT W7 19 3)):=st7 (texts:=[W7 19 0,W7 19 1,W7 19 2]) z21 (by kernel_rfl) (by kernel_rfl) Tryz.underlying303 (by kernel_rfl);have z22:=z21.tail;have e20:EX (DX W) 20 (.zQ (WT W7 20 4)):=st7 (texts:=[W7 20 0,W7 20 1,W7 20 2,W7 20 3]) z22 (by kernel_rfl) (by kernel_rfl) lN (by kernel_rfl);have z23:=z22.tail;have e21:EX (DX W) 21 (.zQ (WT W7 21 4)):=st7 (texts:=[W7 21 0,W7 21 1,W7 21 2,W7 21 3]) z23 (by kernel_rfl) (by kernel_rfl) lN (by kernel_rfl);have tx:∀g T,zI (Ar W7) g=ak (.er g T)->∃t,(g,t)∈ah6/\ad4 (DX W) W g t:=fun g T hg=>by
  match g,hg with
  |0,_=>exact ⟨_,VA 0 rfl,e0.2⟩ |1,_=>exact ⟨_,VA 1 rfl,e1.2⟩ |2,_=>exact ⟨_,VA 2 rfl,e2.2⟩ |3,hg=>cases hg |4,_=>exact ⟨_,VA 4 rfl,e4.2⟩ |5,_=>exact ⟨_,VA 5 rfl,e5.2⟩ |6,_=>exact ⟨_,VA 6 rfl,e6.2⟩ |7,_=>exact ⟨_,VA 7 rfl,e7.2⟩ |8,_=>exact ⟨_,VA 8 rfl,e8.2⟩ |9,_=>exact ⟨_,VA 9 rfl,e9.2⟩ |10,_=>exact ⟨_,VA 10 rfl,e10.2⟩ |11,_=>exact ⟨_,VA 11 rfl,e11.2⟩ |12,_=>exact ⟨_,VA 12 rfl,e12.2⟩ |13,_=>exact ⟨_,VA 13 rfl,e13.2⟩ |14,_=>exact ⟨_,VA 14 rfl,e14.2⟩ |15,_=>exact ⟨_,VA 15 rfl,e15.2⟩ |16,hg=>cases hg |17,hg=>cases hg |18,hg=>cases hg |19,hg=>cases hg |20,hg=>cases hg |21,hg=>cases hg |22,hg=>cases hg |23,hg=>cases hg |n+24,hg=>simp[Ar,zI] at hg
 refine ⟨fun g s hg=>?_,fun g g' T T' h1 h2 hne=>?_⟩
 ·match g,hg with
  |0,hg=>cases hg;exact e0.1 |1,hg=>cases hg;exact e1.1 |2,hg=>cases hg;exact e2.1 |3,hg=>cases hg |4,hg=>cases hg;exact e4.1 |5,hg=>cases hg;exact e5.1 |6,hg=>cases hg;exact e6.1 |7,hg=>cases hg;exact e7.1 |8,hg=>cases hg;exact e8.1 |9,hg=>cases hg;exact e9.1 |10,hg=>cases hg;exact e10.1 |11,hg=>cases hg;exact e11.1 |12,hg=>cases hg;exact e12.1 |13,hg=>cases hg;exact e13.1 |14,hg=>cases hg;exact e14.1 |15,hg=>cases hg;exact e15.1 |16,hg=>cases hg;exact e16 |17,hg=>cases hg;exact e17 |18,hg=>cases hg;exact e18 |19,hg=>cases hg;exact e19 |20,hg=>cases hg;exact e20 |21,hg=>cases hg;exact e21 |22,hg=>cases hg |23,hg=>cases hg;exact e23 |n+24,hg=>simp[Ar,zI] at hg
 ·obtain ⟨t,m1,q1⟩:=tx g T h1
  obtain ⟨t',m2,q2⟩:=tx g' T' h2;refine q1.ne q2 fun e=>?_
  have:=dA.1 (dA.1 aj9 _ m1) _ m2;subst e;simp[hne] at this
end Go.Proofs
namespace Go.Sx
open Go.RowKit Go.ChangeShapes Go.WideShapes Go.Deep Go.Pl
theorem CV.below{H:Mem}{w w':World}{s:Sh}{v:Value}{H':Mem}(h:CV H w s v H' w'):Below w.heap.size w w':=⟨h.os,h.tape,h.output,h.size,h.old⟩
theorem CV.bool{H:Mem}{w w':World}{b:Bool}{v:Value}{H':Mem}(h:CV H w (.b b) v H' w'):v=.bool b:=by
 obtain ⟨E1,_,_,h1,_⟩:=h.res 0;exact h1
def Z7(P:Program)(ts:List TypeId):Bool:=ts.all fun t=>P.readableRec t&&decide (t<P.types.size)
section
variable{H:Type}{enc:TypeId×Value->H}{P:Program}
theorem acn(hl:laidOutB P=aC){W W':World}(hb:Below W.heap.size W W'):
  ∀{ts:List TypeId} {vs:List Value} {ds:List (DataW H)} {p:List MemPlace},Z7 P ts=aC->oP enc P W 0 (fun _=>aC) aC ts vs ds p->(∀x∈p,x.block<W.heap.size)->
   oP enc P W' 0 (fun b=>decide (b<W.heap.size)) aC ts vs ds p
 |[],_,_,_,_,h,_=>by
  obtain ⟨rfl,rfl,rfl⟩:=trodAll_nil h;exact rfl
 |t::ts,_,_,_,hr,h,hlt=>by
  obtain ⟨v,vs1,d,ds1,a,b,rfl,rfl,rfl,h1,h2⟩:=trodAll_cons h;simp only[Z7,List.all_cons,aG,decide_eq_true_eq] at hr;exact ⟨a,b,Below.trod hl hr.1.1 hr.1.2 h1 hb fun x hx=>hlt x (List.mem_append_left _ hx),acn hl hb (by simp only[Z7];exact hr.2) h2 fun x hx=>hlt x (List.mem_append_right _ hx),rfl⟩
theorem amQ(hl:laidOutB P=aC){f:Func}{s:ChangeSpec}{W W':World}{args:Array Value}{t:TypeId}{ds gs:List (DataW H)}{before:List MemPlace}(hs:s.vars=[])(hr:Z7 P f.params.toList=aC)(ht:f.resultTypes=#[t])(hu:P.underlying t=ak .bool)
  (hW:DataW.Whole enc P f.params.toList s.vars ay W args.toList ds gs before) (hb:Below W.heap.size W W')
  (h1:(s.fn H (ds++gs)).results=[.lit (.bool aC)]) (h2:(s.fn H (ds++gs)).args=ds) (h3:(s.fn H (ds++gs)).vars=[]) :
  s.post enc P f ay aC ay ay W args (.bool aC) W':=by
 have hlt:=hW.lt;have hW0:=hW;obtain ⟨p,q,hA,hV,e,hfz,hnd⟩:=hW;rw[hs] at hV;obtain ⟨rfl,rfl⟩:=trodVars_none hV;subst e;refine ⟨ds,[],p++[],[],p,[],hW0,?_,?_,?_,Below.frame hb _,fun e=>by cases e⟩
 ·rw[h1,ht]
  exact trodAll_mk1 (shut_bool hu aC)
 ·rw[h2]
  exact acn hl hb hr hA fun x hx=>hlt x (by simpa using hx)
 ·rw[h3,hs]
  exact rfl
end
open Go.RowKit Go.ChangeShapes Go.WideShapes Go.Deep Go.Pl
theorem amR{n:Nat}{g:Nat->List Sh}(h:∀i,i<n->∃ns:List Int,ns.length=2/\g i=Gs ns/\∀n∈ns,int64 n):Qj n (zJ (α:=Oj) g)=aC:=by
 unfold Qj;refine dA.2 fun j hj=>?_
 obtain ⟨ns,h1,h2,h3⟩:=h j (dD.1 hj);match ns,h1 with
 |[a,b],_=>
  have e:zJ (α:=Oj) g j=⟨a,b⟩:=by
   unfold zJ;rw[h2];rfl
  rw[e];have:=h3 a (by simp);unfold int64 at this;have h1:aU.min=-9223372036854775808:=by decide
  have h2:aU.max=9223372036854775807:=by decide
  simp[Lit.wf] at this;unfold BR;simp;omega
section
variable{H:Type}{enc:TypeId×Value->H}{P:Program}{w:World}{base:Nat}{spare:Nat->Bool}{held:Bool}
end
open Go.RowKit Go.ChangeShapes Go.WideShapes Go.Deep
theorem aco{α:Type}[AL.Row α]{k n:Nat}{g:Nat->List Sh}(hk:∀ns:List Int,ns.length=k->(wo (α:=α) (Gs ns)).isSome=aC)(h:∀i,i<n->∃ns:List Int,ns.length=k/\g i=Gs ns/\∀n∈ns,int64 n):ny α n g=aC:=by
 induction n with
 |zero=>rfl |succ n ih=>
  obtain ⟨ns,h1,h2,_⟩:=h n (by omega);simp only[ny,ih fun i hi=>h i (by omega),Bool.true_and];rw[h2];exact hk ns h1
theorem aro{n:Nat}{g:Nat->List Sh}(h:∀i,i<n->∃ns:List Int,ns.length=2/\g i=Gs ns/\∀n∈ns,int64 n):ny gV n g=aC:=aco (fun ns hn=>by
 match ns,hn with
 |[a,b],_=>rfl) h
theorem arp{n:Nat}{g:Nat->List Sh}(h:∀i,i<n->∃ns:List Int,ns.length=8/\g i=Gs ns/\∀n∈ns,int64 n):ny dJ n g=aC:=aco (fun ns hn=>by
 match ns,hn with
 |[a,b,c,d,e,f,x,y],_=>rfl) h
theorem amS{n:Nat}{g:Nat->List Sh}(h:∀i,i<n->∃ns:List Int,ns.length=8/\g i=Gs ns/\∀n∈ns,int64 n):AL.Qv n g=aC:=dA.2 fun i hi=>by
 obtain ⟨ns,h1,h2,h3⟩:=h i (dD.1 hi);match ns,h1 with
 |[a,b,c,d,e,f,x,y],_=>
  have hy:=h3 y (by simp);unfold bf;rw[h2];have e:((wo (Gs [a,b,c,d,e,f,x,y])).getD AL.Row.Jl:dJ).ret=y:=rfl;rw[e];have hy:(Lit.int .i64 y).wf=aC:=hy;simp only[Lit.wf,aG,decide_eq_true_eq] at hy;exact decide_eq_true hy
theorem CV.av9{H:Mem}{w w':World}{b:Bool}{v:Value}{H':Mem}(h:CV H w (.v (.bool b)) v H' w'):v=.bool b:=by
 obtain ⟨E1,_,_,h1,_⟩:=h.res 0;exact h1
end Go.Sx
namespace Go.Proofs.YthehnhaoiijkhaaGreatDoor
open Go.ChangeShapes Go.WideShapes Go.ChangeAt Go.WideMaps Go.WideElems Go.RowKit Go.Sx Go.Pl
theorem arq{n m:Nat}{g h:Nat->List Sh}(a:∀i,i<n->∃ns:List Int,ns.length=2/\g i=Gs ns/\∀n∈ns,int64 n)(b:∀i,i<m->∃ns:List Int,ns.length=8/\h i=Gs ns/\∀n∈ns,int64 n):hpB (.agg [.sl 2 n g,.sl 8 m h])=aC:=
 @decide_eq_true _ (aX _) ⟨n,g,m,h,rfl,aro a,arp b,amS b,amR a⟩
theorem ayb:ownKnob aA.godebug=aK:=by kernel_rfl
theorem amT:laidOutB aA=aC:=by kernel_rfl
theorem asR(os:Os)(args:Array Value):laidMetH aA Xv ((vN aA 400 os).forCall (fun _ _=>0) ⟨#[],args,[]⟩).memory:=
 laidMetH_of_parts3 (fuel:=8) (laidMet_of_run' 8 (by kernel_rfl) (by kernel_rfl)) (by kernel_rfl) (by kernel_rfl)
set_option maxRecDepth 100000 in
theorem ars(os:Os)(started:os.Started)(H:Type)(enc:TypeId×Value->H):
  ReturnsInHanded {} pR os 9 .any (fun w args=>(Rows.levelFirstSpec.pre enc aA jT [] ay w args/\laidMetH aA Xv w)/\sizedMet enc aA jT (OpenSpec.ofChange Rows.levelFirstSpec) ay w args)
   (Rows.levelFirstSpec.post enc aA jT ay aC ay ay):=by
 refine returnsInHanded_of_change_and (C:=pR) (X:=fun w _=>laidMetH aA Xv w) (fun _ _ _ hh h=>h.of_heap hh) ayb started (by kernel_rfl) sD
  (ChangeSpec.witness_shaped (enc:=enc) (C:=pR) (os:=os) (X:=fun w _=>laidMetH aA Xv w) ay (vN aA 400 os) #[.agg #[.slice aK 0 0,.slice aK 0 0],.int .i64 0] 8 rfl (World.shaped_of_RefB (by kernel_rfl) (by kernel_rfl)) (by kernel_rfl) (by kernel_rfl) (by kernel_rfl) (asR os _)) ?_
 intro W base args ds gs before hval0 hW _ _ hL _;have hval:∀(j:Nat) t v,jT.params[j]?=ak t->args[j]?=ak v->kJ aA W .any base t v:=hval0;have hW':=hW;obtain ⟨p,q,hA0,hV,e,hfz,hnd⟩:=hW;obtain ⟨rfl,rfl⟩:=trodVars_none hV;have hA:oP enc aA W 0 (fun _=>aC) aC jT.params.toList args.toList ds p:=hA0;rw[x9] at hA hval;obtain ⟨v0,vs0,d0,ds0,p0,q0,ea,rfl,rfl,t0,hA⟩:=trodAll_cons hA;obtain ⟨v1,vs1,d1,ds1,p1,q1,rfl,rfl,rfl,t1,hA⟩:=trodAll_cons hA;obtain ⟨rfl,rfl,rfl⟩:=trodAll_nil hA;have at_:∀(j:Nat) v,[v0,v1][j]?=ak v->args[j]?=ak v:=fun j v h=>by rw[<-Array.getElem?_toList,ea];exact h
 obtain ⟨n0,g0,m0,h0,r0,a0,b0⟩:=amO (k0:=2) (k1:=8) (by kernel_rfl) (by decide) (by decide) (hval 0 25 v0 rfl (at_ 0 v0 rfl)) t0;obtain ⟨x1,rfl,_,_,_⟩:=open_int Tryz.underlying3 (hval 1 3 v1 rfl (at_ 1 v1 rfl)) t1;have hc:=O9 (DX W) W [.agg [.sl 2 n0 g0,.sl 8 m0 h0],.i .i64 x1] [v0,.int .i64 x1] (fun s=>s=.v (.bool aC)) (amN W) (ah7 hL)
  ⟨r0,.i _ _,trivial⟩ ⟨arq a0 b0,rfl⟩
 have eargs:args=[v0,.int .i64 x1].toArray:=by rw[<-ea]
 rw[eargs];refine hc.mono fun e W' ⟨v,s,H',he,hs,hr⟩=>?_;subst he hs;obtain rfl:=hr.av9;refine ⟨_,rfl,amQ amT rfl (by kernel_rfl) (by kernel_rfl) Tryz.underlying4 (by rw[eargs] at hW';exact hW') hr.below rfl rfl rfl⟩
set_option maxHeartbeats 4000000 in
theorem levelFirst_holds:Rows.LevelFirstSaid:=
 OpenClaim.holds_of_wide 9 jT rfl rfl rfl rfl rfl rfl rfl ⟨rfl,rfl,rfl,rfl,rfl⟩ rfl rfl rfl rfl rfl (by as_aux_lemma=>kernel_rfl) sD (by as_aux_lemma=>kernel_rfl)
  (of_decide_eq_true (by as_aux_lemma=>kernel_rfl)) (by unfold Func.isWrapper;first|(rw[if_pos (by decide +kernel)];kernel_rfl) |(rw[if_neg (by decide +kernel)];exact ⟨rfl,rfl⟩))
  (fun os started H enc _=>ars os started H enc)
open Go
theorem levelFirst_card:Rows.LevelFirstCardSaid:=
 Claim7.holds_tied_plain_at .later [] [.data,.data,.data,.sentinel,.sentinel,.sentinel,.sentinel,.sentinel,.sentinel,.sentinel,.sentinel,.sentinel,.sentinel,.sentinel,.sentinel,.sentinel,.sentinel,.sentinel,.data,.data,.data,.data,.data,.data] aC (aC, "81e67fd4d3bd142d930eaa45586bdb8ac6b198972cce1b631dceec920cefaf18") aC
  levelFirst_holds (fun _ h=>by cases h) (by kernel_rfl) (fun _ h=>by cases h) levelFirst_row_tie rfl ⟨rfl,rfl⟩ (by kernel_rfl) rfl
  (fun f fn hf hfn=>by
   obtain rfl:f=9:=dw ((show aA.funcNamed "umpire/umpirelaw14.LevelFirst" = ak 9 by kernel_rfl).symm.trans hf) |>.symm
   obtain rfl:fn=jT:=(dw (sD.symm.trans hfn)).symm;exact ⟨by kernel_rfl,fun j t ht=>by
    rw[x9] at ht;have hm:t∈[25,3]:=by simpa using Array.mem_of_getElem? ht
    have hall:([25,3].all fun u=>!Tryz.prog.wantsStandIn u)=aC:=by kernel_rfl
    exact (show aA.wantsStandIn t=ay by simpa using dA.1 hall t hm)⟩)
  (by kernel_rfl)
#print axioms levelFirst_card
end Go.Proofs.YthehnhaoiijkhaaGreatDoor
