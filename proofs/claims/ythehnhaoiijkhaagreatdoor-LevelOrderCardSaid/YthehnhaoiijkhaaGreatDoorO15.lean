/- The law LevelOrder of chapter 14 is proved: no weaker level is a no where a stronger one is a yes, and a prefix of an opaque history is opaque. It holds for every history of at most 100 objects and 70 events and every budget of at most 150 pairs, and is true at once beyond. -/
import Derived.Test.YthehnhaoiijkhaaGreatDoorO14
import Derived.ProofKit
import Derived.Deep.Slices
import Derived.Stop.LaidErr
import Derived.LaidMore
import Derived.OpenShut
import Derived.MakeChecks
import Derived.Test.YthehnhaoiijkhaaGreatDoorRows
import Derived.Carry
import Derived.Stop.Joined
import Derived.Test.YthehnhaoiijkhaaGreatDoorTie
import Derived.Test.YthehnhaoiijkhaaGreatDoorCards
open Int (ofNat)
open Bool renaming true->aj,false->ag,and_eq_true->al
open Classical renaming propDecidable->aB
open Go.Addr renaming add->eQ
open Go.DataW renaming trod->lP,trod_int->gt,trod_struct->iU,trod_array->jl,TrodAll->gJ
open Go.IntKind renaming i64->aA
open Go.MemPlace renaming row->gz
open Go.oD renaming Oj->cp,Ev->cW,okB->fR
open Go.oD.Row renaming get->ks
open Go.Proofs.C7 renaming ok->aS,Gh->dZ
open Go.Proofs.Tryz renaming prog->ah,f8->dp,underlying46->jm,underlying329->iW,underlying343->iX,underlying9->ei,underlying300->eZ,checked->hJ,func8->iY,params8->lz,underlying3->eG
open Go.Sx.oC renaming int->ac,sh->av,bool->dU
open Go.Sx.rQ renaming ret->ay,at_->aK
open Go.Sx.It renaming code->aH
open Go.Sx.Sh renaming b->bX,i->az,agg->aN,sl->ao
open Go.Value renaming int->cN,okWide->ee
open Go.World renaming var?_cell->jP,doorLaid->kb
open Int renaming ofNat->ab
open Int.ofNat renaming inj->dR
open List renaming all_eq_true->be,mem_range->bh,getElem?_eq_getElem->aD,take->jN,drop->jO,getD_eq_getElem?_getD->aZ,getElem?_map->cL,length->lQ
open Nat renaming le_refl->aV,beq->bA,eq_of_beq_eq_true->bW,zero_le->bZ,add_assoc->iy,mul_one->lX
open Option renaming isSome_iff_exists->bJ,some->ae,none->aq,map_eq_some_iff->aO,getD_some->iV
open Option.some renaming inj->bd
open Prod.mk renaming injEq->db
namespace Go.Pl
open Go Go.Sx Go.Proofs Go.Gm Go.Bf
theorem Xh{ok ok' yes aoO:Nat->Bool}{cnt cnt':Nat->Int}:∀(r i:Nat) (p:Int),(∀k,i<=k->k<i+r->ok k=ok' k/\(ok k=aj->yes k=aoO k/\cnt k=cnt' k))->IX ok yes cnt r i p=IX ok' aoO cnt' r i p
 |0,i,p,h=>rfl |r+1,i,p,h=>by
  obtain ⟨h1,h2⟩:=h i (aV _) (by omega);rw[IX,IX,<-h1];cases hb:ok i with
  |false=>rfl |true=>
   obtain ⟨h3,h4⟩:=h2 hb;rw[<-h3,<-h4];cases yes i with
   |false=>rfl |true=>exact Xh r (i+1) _ fun k a b=>h k (by omega) (by omega)
noncomputable def pD(n:Nat)(g h:Nat->List Sh)(lv mo:Int)(i:Nat):Option (List (Nd (List pO))):=uV (Lc (qZ (hsS n g i h) lv)) PZ (newL n g) mo.toNat
noncomputable def yD(n:Nat)(g h:Nat->List Sh)(lv mo:Int)(i:Nat):Bool:=match pD n g h lv mo i with
 |some r=>JK (Lc (qZ (hsS n g i h) lv)) PZ (newL n g) r |none=>ag
noncomputable def cD(n:Nat)(g h:Nat->List Sh)(lv mo:Int)(i:Nat):Int:=match pD n g h lv mo i with
 |some r=>(r.length:Nat) |none=>0
section
variable{n m:Nat}{g h:Nat->List Sh}{lv mo:Int}
theorem afn(P:Ak n g m h)(hb:(qZ (hsS n g m h) lv).okb=aj):Ag (hsS n g m h) lv mo=(pD n g h lv mo m).isSome/\(Ag (hsS n g m h) lv mo=aj->zK (hsS n g m h) lv mo=yD n g h lv mo m/\Es (hsS n g m h) lv mo=cD n g h lv mo m):=by
 obtain ⟨h1,h2⟩:=arf P hb mo;have e:Ag (hsS n g m h) lv mo=(pD n g h lv mo m).isSome:=by
  unfold Ag pD;rw[h1];cases uV (Lc (qZ (hsS n g m h) lv)) PZ (newL n g) mo.toNat<;>rfl
 refine ⟨e,fun c=>?_⟩;rw[e] at c;obtain ⟨r,hr⟩:=bJ.1 c;obtain ⟨q1,q2,q3⟩:=h2 r hr;unfold yD cD;rw[hr];exact ⟨q1,q3⟩
theorem agK(P:Ak n g m h)(hok:(nJ n g m h).okb=aj)(hn:(nJ n g m h).n<=12):Bl (hsS n g m h) mo=IX (fun i=>(pD n g h 3 mo i).isSome) (yD n g h 3 mo) (cD n g h 3 mo) (m+1) 0 0:=
 Xh (ok:=fun i=>Ag (Ew (hsS n g m h) i) 3 mo) (yes:=fun i=>zK (Ew (hsS n g m h) i) 3 mo) (cnt:=fun i=>Es (Ew (hsS n g m h) i) 3 mo) (m+1) 0 0 fun k _ hk=>by
  obtain ⟨k1,k2⟩:=Um hok (i:=k) (by omega);have hb:(qZ (hsS n g k h) 3).okb=aj:=by
   show ((nJ n g k h).okb&&decide ((nJ n g k h).n<=12))=aj;rw[k1,decide_eq_true (by omega:(nJ n g k h).n<=12)];rfl
  exact afn (P.pre (by omega)) hb
end
theorem J7:(nJ 1 sS 13 wJ).okb=aj/\(nJ 1 sS 13 wJ).n<=12:=by
 have h:((nJ 1 sS 13 wJ).okb&&decide ((nJ 1 sS 13 wJ).n<=12))=aj:=amA;rw[al,decide_eq_true_eq] at h;exact h
theorem Ut:(nJ 1 sS 14 Ey).okb=aj/\(nJ 1 sS 14 Ey).n<=12:=by
 have h:((nJ 1 sS 14 Ey).okb&&decide ((nJ 1 sS 14 Ey).n<=12))=aj:=an7;rw[al,decide_eq_true_eq] at h;exact h
theorem xq1:(IX (fun i=>(pD 1 sS wJ 3 100 i).isSome) (yD 1 sS wJ 3 100) (cD 1 sS wJ 3 100) 14 0 0).1=0:=by kernel_rfl
theorem xq2:(IX (fun i=>(pD 1 sS wJ 3 2 i).isSome) (yD 1 sS wJ 3 2) (cD 1 sS wJ 3 2) 14 0 0).1=2:=by kernel_rfl
theorem xq3:(fun x:Nat×Nat×Int=>(x.1,x.2.1)) (IX (fun i=>(pD 1 sS Ey 3 100 i).isSome) (yD 1 sS Ey 3 100) (cD 1 sS Ey 3 100) 15 0 0)=(1,14):=by kernel_rfl
theorem xr1:((pD 1 sS wJ 1 100 13).isSome&&yD 1 sS wJ 1 100 13&&(pD 1 sS wJ 2 100 13).isSome&&yD 1 sS wJ 2 100 13&&(pD 1 sS wJ 3 100 13).isSome&&yD 1 sS wJ 3 100 13)=aj:=by kernel_rfl
theorem xr2:((pD 1 sS wJ 1 2 13).isNone&&(pD 1 sS wJ 2 2 13).isNone&&(pD 1 sS wJ 3 2 13).isNone)=aj:=by kernel_rfl
end Go.Pl
namespace Go.Proofs
open Go Go.Sx Go.Pl
def lvS(x:Int):List (List Sh):=[[.i .i64 x],[.i .i64 x],[.i .i64 x],[.i .i64 x]]
noncomputable def amB:List Sh->Tree Sh
 |[.agg [.sl 2 n o,.sl 8 m e],t]=>match nR t with
  |some mo=>bif XR cp n o 1 sS&&XR cW m e 13 wJ then
    bif mo==100 then .leaf (.mV [.sl 1 4 (nM (lvS 1)),.v .nilIface]) else bif mo==2 then .leaf (.mV [.sl 1 4 (nM (lvS 3)),.v .nilIface]) else .fail
   else .fail
  |none=>.fail
 |_=>.fail
noncomputable def amC:List Sh->Tree Sh
 |[.agg [.sl a n o,.sl b m e],t,u]=>match nR t,nR u with
  |some lv,ae mo=>bif lv==4 then
    bif bA n 0&&bA m 0 then bif mo==1 then .leaf (.mV [.agg [.b aj,.sl 2 0 (fun _=>[]),.sl 1 1 (oaF (hsS 0 (fun _=>[]) 0 (fun _=>[])) 1),.i .i64 0,.i .i64 (ocI (hsS 0 (fun _=>[]) 0 (fun _=>[])) 1)],.v .nilIface]) else .fail
    else bif bA a 2&&bA b 8&&XR cp n o 1 sS&&XR cW m e 14 Ey&&mo==100 then .leaf (.mV [.agg [.b ag,.sl 2 0 (fun _=>[]),.sl 1 0 (fun _=>[]),.i .i64 14,.i .i64 (ocI (hsS 1 sS 14 Ey) 100)],.v .nilIface]) else .fail
   else .fail
  |_,_=>.fail
 |_=>.fail
noncomputable def P6:Nat->Option (List Sh->Tree Sh)
 |25=>ae amB |26=>ae amC |_=>aq
noncomputable def C23:Ctx:={C7 mD W7 P6 ni with lits:=aj}
theorem w23:Tree.way (nZ C23 oG 900 3000 23 [.code []] (mM 100 [] L0) [] []) []=ae ([],ay (bX aj)):=by kernel_rfl
end Go.Proofs
namespace Go.Pl
open Go Go.Sx Go.Proofs Go.Gm Go.Bf
theorem Ru{n m:Nat}{g h:Nat->List Sh}{mo:Int}(P:Ak n g m h)(hok:(nJ n g m h).okb=aj)(hn:(nJ n g m h).n<=12)(hm:wu mo=aj):TQ (hsS n g m h) mo=aj:=by
 have hp:hpB (hsS n g m h)=aj:=@decide_eq_true _ (aB _) ⟨n,g,m,h,rfl,P⟩;unfold TQ;rw[hp,show (NH (hsS n g m h)).okb=aj from hok,decide_eq_true (show (NH (hsS n g m h)).n<=12 from hn),hm];rfl
theorem ath:wu 2=aj:=by kernel_rfl
theorem ati:wu 1=aj:=by kernel_rfl
theorem aoP(lv:Int):(qZ (hsS 1 sS 13 wJ) lv).okb=aj:=amA
theorem an9:∀k,k<4->qI (hsS 1 sS 13 wJ) ((k+1:Nat):Int) 100=1:=fun k hk=>by
 have h:=xr1;simp only[al] at h;obtain ⟨⟨⟨⟨⟨a1,b1⟩,a2⟩,b2⟩,a3⟩,b3⟩:=h;have go (lv:Int) (h4:lv≠4) (a:(pD 1 sS wJ lv 100 13).isSome=aj) (b:yD 1 sS wJ lv 100 13=aj):qI (hsS 1 sS 13 wJ) lv 100=1:=by
  obtain ⟨e1,e2⟩:=afn (mo:=100) exH (aoP lv);have r:=e1.trans a;have y:=(e2 r).1.trans b;unfold qI Ir IY;rw[if_neg h4,if_neg h4,if_pos r,if_pos y]
 match k,hk with
 |0,_=>exact go 1 (by decide) a1 b1 |1,_=>exact go 2 (by decide) a2 b2 |2,_=>exact go 3 (by decide) a3 b3 |3,_=>
  have e:=(congrArg (fun x:Nat×Nat×Int=>x.1) (agK (mo:=100) exH J7.1 J7.2)).trans xq1;have e:(Bl (hsS 1 sS 13 wJ) 100).1=0:=e;show qI (hsS 1 sS 13 wJ) 4 100=1;unfold qI Ir IY TR XP;rw[if_pos rfl,if_pos rfl,e];rfl
theorem aoa:∀k,k<4->qI (hsS 1 sS 13 wJ) ((k+1:Nat):Int) 2=3:=fun k hk=>by
 have h:=xr2;simp only[al] at h;obtain ⟨⟨a1,a2⟩,a3⟩:=h;have go (lv:Int) (h4:lv≠4) (a:(pD 1 sS wJ lv 2 13).isNone=aj):qI (hsS 1 sS 13 wJ) lv 2=3:=by
  obtain ⟨e1,e2⟩:=afn (mo:=2) exH (aoP lv);rw[Option.isNone_iff_eq_none.1 a] at e1;unfold qI Ir;rw[if_neg h4,e1];rfl
 match k,hk with
 |0,_=>exact go 1 (by decide) a1 |1,_=>exact go 2 (by decide) a2 |2,_=>exact go 3 (by decide) a3 |3,_=>
  have e:=(congrArg (fun x:Nat×Nat×Int=>x.1) (agK (mo:=2) exH J7.1 J7.2)).trans xq2;have e:(Bl (hsS 1 sS 13 wJ) 2).1=2:=e;show qI (hsS 1 sS 13 wJ) 4 2=3;unfold qI Ir TR;rw[if_pos rfl,e];rfl
theorem aoQ:Ak 0 (fun _=>[]) 0 (fun _=>[]):=⟨rfl,rfl,rfl,rfl⟩
theorem agL:(nJ 0 (fun _=>[]) 0 (fun _=>[])).okb=aj:=by kernel_rfl
theorem ari:(fun x:Nat×Nat×Int=>(x.1,x.2.1)) (Bl (hsS 0 (fun _=>[]) 0 (fun _=>[])) 1)=(0,1):=by
 rw[agK aoQ agL (by decide:(0:Nat)<=12)];kernel_rfl
end Go.Pl
namespace Go.Proofs
open Go Go.Sx Go.Pl Go.Gm Go.Bf
theorem adr{H:Mem}{a n:Nat}{g g':Nat->List Sh}{b:Nat}{v:Value}(hn:n=0)(h:Rep H (.sl a n g) v):Rep H (.sl b 0 g') v:=by
 subst hn;exact Ec h (.inl ⟨rfl,rfl⟩)
theorem atj:nG ah (nY W7) 25 amB:=by
 intro H w nV args φ hon hgl hr hφ;unfold amB at hφ;split at hφ
 ·rename_i n o m e t
  split at hφ
  ·rename_i mo e1
   cases c1:(XR cp n o 1 sS&&XR cW m e 13 wJ)<;>simp only[c1,cond_true,cond_false] at hφ
   ·exact hφ.elim
   rw[al] at c1;have k1:=Us c1.1 exH.o;have k2:=Us c1.2 exH.p;match args,hr with
   |[a0,a1],⟨r0,r1,_⟩=>
   cases c2:(mo==100)<;>simp only[c2,cond_true,cond_false] at hφ
   ·cases c3:(mo==2)<;>simp only[c3,cond_true,cond_false] at hφ
    ·exact hφ.elim
    rw[beq_iff_eq] at c3;subst c3;refine KQ OLv hon hgl (nV:=[hsS 1 sS 13 wJ,t]) ⟨Rt k1 k2 r0,r1,trivial⟩ hφ ?_;unfold adl;simp only[e1];refine ⟨Ru exH J7.1 J7.2 ath,.inr ⟨rfl,rfl,fun k hk=>?_⟩,rfl,trivial⟩;show [az .i64 (qI (hsS 1 sS 13 wJ) ((k+1:Nat):Int) 2:Nat)]=_;rw[aoa k hk];match k,hk with
    |0,_=>rfl |1,_=>rfl |2,_=>rfl |3,_=>rfl
   ·rw[beq_iff_eq] at c2
    subst c2;refine KQ OLv hon hgl (nV:=[hsS 1 sS 13 wJ,t]) ⟨Rt k1 k2 r0,r1,trivial⟩ hφ ?_;unfold adl;simp only[e1];refine ⟨Ru exH J7.1 J7.2 agJ,.inr ⟨rfl,rfl,fun k hk=>?_⟩,rfl,trivial⟩;show [az .i64 (qI (hsS 1 sS 13 wJ) ((k+1:Nat):Int) 100:Nat)]=_;rw[an9 k hk];match k,hk with
    |0,_=>rfl |1,_=>rfl |2,_=>rfl |3,_=>rfl
  ·exact hφ.elim
 ·exact hφ.elim
theorem atl:nG ah (nY W7) 26 amC:=by
 intro H w nV args φ hon hgl hr hφ;unfold amC at hφ;split at hφ
 ·rename_i a n o b m e t u
  split at hφ
  ·rename_i lv mo e1 e2
   cases c0:(lv==4)<;>simp only[c0,cond_true,cond_false] at hφ
   ·exact hφ.elim
   rw[beq_iff_eq] at c0;subst c0;match args,hr with
   |[a0,a1,a2],⟨r0,r1,r2,_⟩=>
   cases c1:(bA n 0&&bA m 0)<;>simp only[c1,cond_true,cond_false] at hφ
   ·cases c2:(bA a 2&&bA b 8&&XR cp n o 1 sS&&XR cW m e 14 Ey&&mo==100)<;>simp only[c2,cond_true,cond_false] at hφ
    ·exact hφ.elim
    simp only[al,beq_iff_eq] at c2;obtain ⟨⟨⟨⟨x1,x2⟩,x3⟩,x4⟩,rfl⟩:=c2;obtain rfl:=bW x1;obtain rfl:=bW x2;have k1:=Us x3 agI.o;have k2:=Us x4 agI.p;refine KQ O26 hon hgl (nV:=[hsS 1 sS 14 Ey,t,u]) ⟨Rt k1 k2 r0,r1,r2,trivial⟩ hφ ?_;have q:(Bl (hsS 1 sS 14 Ey) 100).1=1/\(Bl (hsS 1 sS 14 Ey) 100).2.1=14:=by
     have h:=xq3;rw[<-agK (mo:=100) agI Ut.1 Ut.2,db] at h;exact h
    have j1:Ir (hsS 1 sS 14 Ey) 4 100=aj:=by unfold Ir TR;rw[if_pos rfl,q.1];rfl
    have j2:IY (hsS 1 sS 14 Ey) 4 100=ag:=by unfold IY XP;rw[if_pos rfl,q.1];rfl
    have j3:jaN (hsS 1 sS 14 Ey) 4 100=0:=by unfold jaN oaN;rw[if_pos rfl,q.1];rfl
    have j4:jpI (hsS 1 sS 14 Ey) 4 100=14:=by unfold jpI oiI;rw[if_pos rfl,q.1,q.2];rfl
    have j5:jcI (hsS 1 sS 14 Ey) 4 100=ocI (hsS 1 sS 14 Ey) 100:=by unfold jcI;rw[if_pos rfl]
    have j6:jsN (hsS 1 sS 14 Ey) 4 100=0:=by unfold jsN;rw[if_pos rfl]
    unfold YX;simp only[e1,e2];refine ⟨by unfold juB;rw[Ru agI Ut.1 Ut.2 agJ];rfl,fun _=>?_,fun c=>by rw[j1] at c;cases c⟩;rw[j2,j3,j4,j5,j6];exact ⟨⟨.inl rfl,.inl ⟨rfl,rfl⟩,.inl ⟨rfl,rfl⟩,rfl,rfl,trivial⟩,rfl,trivial⟩
   ·rw[al] at c1
    have n0:=bW c1.1;have m0:=bW c1.2;cases c2:(mo==1)<;>simp only[c2,cond_true,cond_false] at hφ
    ·exact hφ.elim
    rw[beq_iff_eq] at c2;subst c2;refine KQ O26 hon hgl (nV:=[hsS 0 (fun _=>[]) 0 (fun _=>[]),t,u]) ⟨Dk r0 ⟨fun _ r=>adr n0 r,fun _ r=>adr m0 r,trivial⟩,r1,r2,trivial⟩ hφ ?_;have h:=ari;rw[db] at h;have q:(Bl (hsS 0 (fun _=>[]) 0 (fun _=>[])) 1).1=0:=h.1;have q2:(Bl (hsS 0 (fun _=>[]) 0 (fun _=>[])) 1).2.1=1:=h.2;have j1:Ir (hsS 0 (fun _=>[]) 0 (fun _=>[])) 4 1=aj:=by unfold Ir TR;rw[if_pos rfl,q];rfl
    have j2:IY (hsS 0 (fun _=>[]) 0 (fun _=>[])) 4 1=aj:=by unfold IY XP;rw[if_pos rfl,q];rfl
    have j3:jaN (hsS 0 (fun _=>[]) 0 (fun _=>[])) 4 1=1:=by unfold jaN oaN;rw[if_pos rfl,q,if_pos rfl,q2]
    have j3f:jaF (hsS 0 (fun _=>[]) 0 (fun _=>[])) 4 1=oaF (hsS 0 (fun _=>[]) 0 (fun _=>[])) 1:=by unfold jaF;rw[if_pos rfl]
    have j4:jpI (hsS 0 (fun _=>[]) 0 (fun _=>[])) 4 1=0:=by unfold jpI oiI;rw[if_pos rfl,q];rfl
    have j5:jcI (hsS 0 (fun _=>[]) 0 (fun _=>[])) 4 1=ocI (hsS 0 (fun _=>[]) 0 (fun _=>[])) 1:=by unfold jcI;rw[if_pos rfl]
    have j6:jsN (hsS 0 (fun _=>[]) 0 (fun _=>[])) 4 1=0:=by unfold jsN;rw[if_pos rfl]
    unfold YX;simp only[e1,e2];refine ⟨by unfold juB;rw[Ru aoQ agL (by decide:(0:Nat)<=12) ati];rfl,fun _=>?_,fun c=>by rw[j1] at c;cases c⟩;rw[j2,j3,j3f,j4,j5,j6];exact ⟨⟨.inl rfl,.inl ⟨rfl,rfl⟩,Nb,rfl,rfl,trivial⟩,rfl,trivial⟩
  ·exact hφ.elim
 ·exact hφ.elim
theorem amD:oh ah C23:=by
 have h:=aS P6 ni;exact ⟨h.1,h.2,h.3,h.4,h.5,h.6,h.7⟩
theorem atm:oH ah C23:=by
 have h:=dZ (stop:=ni) (spec:=P6) (fun g F h=>by
  unfold P6 at h;split at h
  ·cases h;exact atj
  ·cases h;exact atl
  ·cases h) fun g h=>by
  unfold P6 at h;split at h;all_goals first|(cases h;done) |kernel_rfl
 exact ⟨h.1,h.2,h.3,h.4⟩
theorem O23:nG ah (nY W7) 23 W11:=by
 refine vM (C:=C23) amD (fn:=Tryz.f23) (by kernel_rfl) (by kernel_rfl) fun H w nV args φ hrep h=>?_
 have hn:Tryz.f23.ntmps=100:=by kernel_rfl
 unfold W11 at h;split at h
 ·refine ⟨[],hrep,L0,?_⟩
  refine uz amD atm (hold:=oG) (m:=900) (n:=3000) (ts:=[]) ?_;rw[hn];have hφ:φ (.v (.bool aj)):=h;exact arh w23 trivial (oq (s':=.v (.bool aj)) (.inr rfl) hφ)
 ·exact h.elim
open Go Go.Sx Go.Pl
noncomputable def Iy:Nat->Option (List Sh->Tree Sh)
 |21=>ae D21 |23=>ae W11 |25=>ae adl |26=>ae YX |_=>aq
def Xi:List It:=[aH [0,1,0,1,1,1,1,1,1],It.inBlock 0,aH [1,1,1,1,1,1,1]]
def amE:List It:=aH [0,0,1,0,1,1,1,1,1,1]::Xi
def L08(o m:Nat)(og mg:Nat->List Sh)(mo x:Int)(l:Nat->Int)(b:Bool)(i:Int):Core:=
 {tm:=vZ 95 [(1,.sym .i64 mo),(2,.sym .i64 x),(3,.ptr 0 0),(8,.sh (.sl 1 4 (fun k=>[.i .i64 (l k)]))),(10,.test b),(11,.sym .i64 i)],hp:=[(0,.box [.sh (.sl 2 o og),.sh (.sl 8 m mg)] 25)],nx:=1,lim:=L0,tc:=[]}
theorem afp(A:Prim)(W:Wd)(o m:Nat)(og mg:Nat->List Sh)(mo x i':Int){ψ:rQ->Prop}{c0 c1 c2:Bool}(e0:A.le (A.nH o) (ab 100)=c0)(e1:A.nt (A.le (A.nH m) (ab 70))=c1)(e2:A.lt (ab 150) mo=c2)(h1:c0=aj->c1=ag->c2=ag->(TQ (aN [ao 2 o og,ao 8 m mg]) mo)=aj)(y1:c0=aj->c1=aj->ψ (ay (bX aj)))(y2:c0=aj->c1=ag->c2=aj->ψ (ay (bX aj)))(y3:c0=aj->c1=ag->c2=ag->ψ (aK 0 [ac mo mo,ac x x,av (ao 1 4 (lvF (aN [ao 2 o og,ao 8 m mg]) mo)) (ao 1 4 fun (k:Nat)=>[az .i64 (ab (qI (aN [ao 2 o og,ao 8 m mg]) (ab k.succ) mo))]),dU ag ag,ac (ab 0) i',av (ao 2 o og) (ao 2 o og),av (ao 8 m mg) (ao 8 m mg)]))(y4:c0=ag->ψ (ay (bX aj))):qA ψ (nZ (C7 A W Iy ny) oG 300 400 8 [.code []] (mM 95 [.agg [.sl 2 o og,.sl 8 m mg],.i .i64 mo,.i .i64 x] L0) [] [⟨8,Xi,L08 o m og mg mo x (fun k=>(qI (.agg [.sl 2 o og,.sl 8 m mg]) ((k+1:Nat):Int) mo:Nat)) ag i',[]⟩]):=by
 subst e0 e1 e2;exact um (an (fun q0=>an (y1 q0) (fun q1=>an (y2 q0 q1) (fun q2=>an (h1 q0 q1 q2) (y3 q0 q1 q2)))) y4) (by kernel_rfl)
theorem Xj(A:Prim)(W:Wd)(o m:Nat)(og mg:Nat->List Sh)(mo x:Int)(l:Nat->Int)(b b':Bool)(i i':Int){ψ:rQ->Prop}{c0 c1 c2 c3 c4 c5 c6 c7:Bool}(e0:A.lt i (A.nH 4)=c0)(e1:A.nt (A.eq (A.nH 4) (ab 4))=c1)(e2:A.nt (A.eq (l 3) (ab 1))=c2)(e3:A.lt (l (A.toN i)) (ab 1)=c3)(e4:A.lt (ab 3) (l (A.toN i))=c4)(e5:b=c5)(e6:A.eq (l (A.toN i)) (ab 1)=c6)(e7:Ir (aN [ao 2 o og,ao 8 (uh x m) mg]) (ab 4) mo=c7)(h1:c0=aj->(A.inB i 4)=aj)(h2:c0=ag->c1=ag->(A.inB (ab 3) 4)=aj)(h3:c0=ag->c1=ag->c2=ag->(Xd o x m)=aj)(h4:c0=ag->c1=ag->c2=ag->(juB (aN [ao 2 o og,ao 8 (uh x m) mg]) (ab 4) mo)=aj)(y1:c0=aj->c3=aj->ψ (ay (bX ag)))(y2:c0=aj->c3=ag->c4=aj->ψ (ay (bX ag)))(y3:c0=aj->c3=ag->c4=ag->c5=aj->c6=aj->ψ (ay (bX ag)))(y4:c0=aj->c3=ag->c4=ag->c5=aj->c6=ag->c5=aj->ψ (aK 0 [ac mo mo,ac x x,av (ao 1 4 fun (k:Nat)=>[az .i64 (l k)]) (ao 1 4 fun (k:Nat)=>[az .i64 (l k)]),dU aj b',ac (A.add .i64 i (ab 1)) i',av (ao 2 o og) (ao 2 o og),av (ao 8 m mg) (ao 8 m mg)]))(y5:c0=aj->c3=ag->c4=ag->c5=aj->c6=ag->c5=ag->ψ (aK 0 [ac mo mo,ac x x,av (ao 1 4 fun (k:Nat)=>[az .i64 (l k)]) (ao 1 4 fun (k:Nat)=>[az .i64 (l k)]),dU (A.eq (l (A.toN i)) (ab 2)) b',ac (A.add .i64 i (ab 1)) i',av (ao 2 o og) (ao 2 o og),av (ao 8 m mg) (ao 8 m mg)]))(y6:c0=aj->c3=ag->c4=ag->c5=ag->c5=aj->ψ (aK 0 [ac mo mo,ac x x,av (ao 1 4 fun (k:Nat)=>[az .i64 (l k)]) (ao 1 4 fun (k:Nat)=>[az .i64 (l k)]),dU aj b',ac (A.add .i64 i (ab 1)) i',av (ao 2 o og) (ao 2 o og),av (ao 8 m mg) (ao 8 m mg)]))(y7:c0=aj->c3=ag->c4=ag->c5=ag->c5=ag->ψ (aK 0 [ac mo mo,ac x x,av (ao 1 4 fun (k:Nat)=>[az .i64 (l k)]) (ao 1 4 fun (k:Nat)=>[az .i64 (l k)]),dU (A.eq (l (A.toN i)) (ab 2)) b',ac (A.add .i64 i (ab 1)) i',av (ao 2 o og) (ao 2 o og),av (ao 8 m mg) (ao 8 m mg)]))(y8:c0=ag->c1=aj->ψ (ay (bX ag)))(y9:c0=ag->c1=ag->c2=aj->ψ (ay (bX aj)))(y10:c0=ag->c1=ag->c2=ag->c7=aj->ψ (ay (bX (IY (aN [ao 2 o og,ao 8 (uh x m) mg]) (ab 4) mo))))(y11:c0=ag->c1=ag->c2=ag->c7=ag->ψ (ay (bX ag))):qA ψ (nZ (C7 A W Iy ny) oG 300 400 8 amE (L08 o m og mg mo x l b i) [] [⟨8,Xi,L08 o m og mg mo x l b' i',[]⟩]):=by
 subst e0 e1 e2 e3 e4 e5 e6 e7;exact um (an (fun q0=>an (h1 q0) (an (y1 q0) (fun q1=>an (h1 q0) (an (y2 q0 q1) (fun q2=>an (fun q3=>an (h1 q0) (an (y3 q0 q1 q2 q3) (fun q4=>an (y4 q0 q1 q2 q3 q4) (fun q5=>an (h1 q0) (y5 q0 q1 q2 q3 q4 q5))))) (fun q3=>an (y6 q0 q1 q2 q3) (fun q4=>an (h1 q0) (y7 q0 q1 q2 q3 q4)))))))) (fun q0=>an (y8 q0) (fun q1=>an (h2 q0 q1) (an (y9 q0 q1) (fun q2=>an (h3 q0 q1 q2) (an (h4 q0 q1 q2) (an (y10 q0 q1 q2) (y11 q0 q1 q2)))))))) (by kernel_rfl)
end Go.Proofs
namespace Go.Pl
open Go Go.Sx Go.Proofs Go.Gm Go.Bf
theorem agM{ok yes:Nat->Bool}{cnt:Nat->Int}:∀(r i:Nat) (p:Int),(IX ok yes cnt r i p).1=0->∀k,i<=k->k<i+r->ok k=aj/\yes k=aj
 |0,i,p,_,k,h1,h2=>by omega |r+1,i,p,h,k,h1,h2=>by
  rw[IX] at h;cases ho:ok i with
  |false=>simp_all |true=>
   rw[ho] at h;cases hy:yes i with
   |false=>simp_all |true=>
    rw[hy] at h;by_cases e:k=i
    ·simp_all
    ·exact agM r (i+1) _ h k (by omega) (by omega)
theorem amF{ok yes:Nat->Bool}{cnt:Nat->Int}:∀(r i:Nat) (p:Int),(∀k,i<=k->k<i+r->ok k=aj/\yes k=aj)->(IX ok yes cnt r i p).1=0
 |0,i,p,_=>rfl |r+1,i,p,h=>by
  obtain ⟨h1,h2⟩:=h i (aV _) (by omega);rw[IX,h1,h2];exact amF r (i+1) _ fun k a b=>h k (by omega) (by omega)
section
variable{n m:Nat}{g h:Nat->List Sh}{mo:Int}
@[irreducible] def Xk (n m:Nat) (g h:Nat->List Sh) (lv:Int):Prop:=CV (next (Gb (qZ (hsS n g m h) lv))) (full (Gb (qZ (hsS n g m h) lv))) (Go.Gm.start (yA g))
theorem afq(P:Ak n g m h)(hok:(nJ n g m h).okb=aj)(hn:(nJ n g m h).n<=12)(hm:wu mo=aj){lv:Int}(c:Ag (hsS n g m h) lv mo=aj):zK (hsS n g m h) lv mo=aj↔Xk n m g h lv:=by
 have G:=KP (lv:=lv) (ae7 P hok hn);unfold Ag at c;obtain ⟨r,hr⟩:=bJ.1 c;have eL:rsL (hsS n g m h) lv mo=r:=by simp_all [rsL]
 have m1:1<=mo.toNat:=by
  grind [wu]
 unfold zK Xk;rw[eL];exact akl m1 hr G.step Ro G.start
theorem E21(e:Xk n m g h 2):Xk n m g h 1:=by
 unfold Xk at *;exact ah0 anW anV e
theorem E32(e:Xk n m g h 3):Xk n m g h 2:=by
 unfold Xk at *;exact ada anY _ e
theorem ads(e:(Bl (hsS n g m h) mo).1=0){k:Nat}(hk:k<=m):Ag (hsS n g k h) 3 mo=aj/\zK (hsS n g k h) 3 mo=aj:=agM (m+1) 0 0 e k (bZ _) (by omega)
theorem amG(e:qI (hsS n g m h) 4 mo=1):(Bl (hsS n g m h) mo).1=0:=by
 unfold qI at e;split at e
 ·split at e
  ·rename_i c2
   unfold IY at c2;rw[if_pos rfl] at c2;simpa[XP] using c2
  ·cases e
 ·cases e
theorem Rw(P:Ak n g m h)(hok:(nJ n g m h).okb=aj)(hn:(nJ n g m h).n<=12)(hm:wu mo=aj)(e:qI (hsS n g m h) 4 mo=1):Xk n m g h 3:=by
 obtain ⟨x,y⟩:=ads (amG e) (aV m);simp_all [afq]
theorem Xl(P:Ak n g m h)(hok:(nJ n g m h).okb=aj)(hn:(nJ n g m h).n<=12)(hm:wu mo=aj){lv:Int}(h4:lv≠4)(e:qI (hsS n g m h) lv mo=1):Xk n m g h lv:=by
 unfold qI at e;split at e
 ·rename_i c1
  (split at e)<;>simp_all [Ir,IY,afq]
 ·cases e
theorem aoc(P:Ak n g m h)(hok:(nJ n g m h).okb=aj)(hn:(nJ n g m h).n<=12)(hm:wu mo=aj){lv:Int}(h4:lv≠4)(e:qI (hsS n g m h) lv mo=2):¬Xk n m g h lv:=by
 unfold qI at e;split at e
 ·rename_i c1
  (split at e)<;>simp_all [Ir,IY,afq]
 ·cases e
theorem aia(P:Ak n g m h)(hok:(nJ n g m h).okb=aj)(hn:(nJ n g m h).n<=12)(hm:wu mo=aj){a b:Nat}(hab:a<b)(hb:b<4)(ha:qI (hsS n g m h) ((a+1:Nat):Int) mo=2):qI (hsS n g m h) ((b+1:Nat):Int) mo≠1:=fun q=>by
 have x:=aoc P hok hn hm (by omega) ha;match a,b,hab,hb with
 |0,1,_,_=>grind [E21,Xl] |0,2,_,_=>grind [E21,E32,Xl] |0,3,_,_=>grind [E21,E32,Rw] |1,2,_,_=>grind [E32,Xl] |1,3,_,_=>grind [E32,Rw] |2,3,_,_=>grind [Rw] |a+3,b,h1,h2=>omega
theorem Uu(x:Int):uh x m<=m:=by unfold uh;omega
theorem amH(e:(Bl (hsS n g m h) mo).1=0){k:Nat}(hk:k<=m):(Bl (hsS n g k h) mo).1=0:=
 amF (k+1) 0 0 fun i _ hi=>ads e (by omega)
end
end Go.Pl
namespace Go.Proofs
open Go Go.Sx Go.Pl Go.Gm Go.Bf
theorem afr(stop:Nat->List Nat->Bool):oH ah (C7 mD W7 Iy stop):=dZ (fun g F h=>by
 unfold Iy at h;grind [O21,O23,OLv,O26]) fun g h=>by
 unfold Iy at h;split at h;all_goals first|(cases h;done) |kernel_rfl
section
variable{H0:Mem}{w0:World}{φ:Sh->Prop}{o m:Nat}{og mg:Nat->List Sh}{mo x:Int}
theorem agN(P:Ak o og m mg)(hok:(nJ o og m mg).okb=aj)(hn:(nJ o og m mg).n<=12)(hm:wu mo=aj)(hφ:up φ (.b aj)):∀r i b,i+r=4->(b=aj->∃k,k<i/\qI (hsS o og m mg) ((k+1:Nat):Int) mo=2)->
  nX ah (C7 mD W7 Iy ny) (K0 H0 w0) 8 Xi (L08 o m og mg mo x (fun k=>(qI (hsS o og m mg) ((k+1:Nat):Int) mo:Nat)) b (i:Nat)) [] emp (up φ)
 |0,i,b,hi,hb=>by
  obtain rfl:i=4:=by omega
  have fw:=aas hok;refine wY (fn:=dp) (tb:=amE) (by kernel_rfl) (by kernel_rfl) ?_;refine uz (aS _ _) (afr _) (hold:=oG) (m:=300) (n:=400) (ts:=[⟨8,Xi,L08 o m og mg mo x (fun k=>(qI (hsS o og m mg) ((k+1:Nat):Int) mo:Nat)) b 0,[]⟩]) ?_;have c0:mD.lt ((4:Nat):Int) (mD.nH 4)=ag:=rfl;have pre:=Um hok (Uu x);have ju:juB (.agg [.sl 2 o og,.sl 8 (uh x m) mg]) (ab 4) mo=aj:=by
   unfold juB;rw[show TQ (.agg [.sl 2 o og,.sl 8 (uh x m) mg]) mo=aj from Ru (P.pre (Uu x)) pre.1 (by omega) hm];rfl
  have pf:Xd o x m=aj:=by
   have:=Uu (m:=m) x;unfold Xd;rw[al];exact ⟨room_le (by omega) (by omega),room_le (by omega) (by omega)⟩
  have yes (c:mD.nt (mD.eq ((qI (hsS o og m mg) ((3+1:Nat):Int) mo:Nat):Int) (ab 1))=ag):(Bl (hsS o og (uh x m) mg) mo).1=0:=by
   have e:qI (hsS o og m mg) 4 mo=1:=by
    grind [qI,hsS,oP,nC,dR]
   exact amH (amG e) (Uu x)
  have no {X:Prop} (q:ag=aj):X:=by cases q
  refine Xj mD W7 o m og mg mo x _ b b ((4:Nat):Int) 0 (c0:=ag) (c1:=ag) c0 rfl rfl rfl rfl rfl rfl rfl (fun q=>no q) (fun _ _=>rfl) (fun _ _ _=>pf) (fun _ _ _=>ju) (fun q=>no q) (fun q=>no q) (fun q=>no q) (fun q=>no q) (fun q=>no q) (fun q=>no q) (fun q=>no q) (fun _ q=>no q) (fun _ _ _=>hφ) (fun _ _ c _=>?_) (fun _ _ c c7=>?_)
  ·have e:=yes c
   have j:IY (.agg [.sl 2 o og,.sl 8 (uh x m) mg]) (ab 4) mo=aj:=by
    unfold IY XP;rw[if_pos (show ab 4=4 from rfl),show (Bl (.agg [.sl 2 o og,.sl 8 (uh x m) mg]) mo).1=0 from e];rfl
   show up φ (.b (IY (.agg [.sl 2 o og,.sl 8 (uh x m) mg]) (ab 4) mo));simp_all
  ·have e:=yes c
   unfold Ir TR at c7;rw[if_pos (show ab 4=4 from rfl),show (Bl (.agg [.sl 2 o og,.sl 8 (uh x m) mg]) mo).1=0 from e] at c7;cases c7
 |r+1,i,b,hi,hb=>by
  refine wY (fn:=dp) (tb:=amE) (by kernel_rfl) (by kernel_rfl) ?_;have hk:=Rq (hsS o og m mg) ((i+1:Nat):Int) mo;have nx:=fun b' hb'=>agN P hok hn hm hφ r (i+1) b' (by omega) hb';obtain ⟨b',hbb⟩:∃b',b'=(b||decide (qI (hsS o og m mg) ((i+1:Nat):Int) mo=2)):=⟨_,rfl⟩;have nx:=nx b' (fun q=>by
   grind)
  refine uz (aS _ _) (afr _) (hold:=oG) (m:=300) (n:=400) (ts:=[⟨8,Xi,L08 o m og mg mo x (fun k=>(qI (hsS o og m mg) ((k+1:Nat):Int) mo:Nat)) b' ((i+1:Nat):Int),[]⟩]) ?_;have c0:mD.lt (i:Int) (mD.nH 4)=aj:=by simp[mQ,nI];omega
  have inb:mD.inB (i:Int) 4=aj:=by simp[oJ];omega
  have w1:mD.add .i64 (i:Int) (ab 1)=((i+1:Nat):Int):=add1 (by omega);have c3:mD.lt ((qI (hsS o og m mg) ((i+1:Nat):Int) mo:Nat):Int) (ab 1)=ag:=by
   grind [mQ,decide_eq_false_iff_not,qI,hsS]
  have c4:mD.lt (ab 3) ((qI (hsS o og m mg) ((i+1:Nat):Int) mo:Nat):Int)=ag:=by
   grind [mQ,decide_eq_false_iff_not,qI,hsS]
  have no {X:Prop} (q:aj=ag):X:=by cases q
  have no' {X:Prop} (q:ag=aj):X:=by cases q
  have e2:mD.eq ((qI (hsS o og m mg) ((i+1:Nat):Int) mo:Nat):Int) (ab 2)=decide (qI (hsS o og m mg) ((i+1:Nat):Int) mo=2):=by
   grind [nC]
  have c6 (q:b=aj):mD.eq ((qI (hsS o og m mg) ((i+1:Nat):Int) mo:Nat):Int) (ab 1)=ag:=by
   grind [aia,nC,qI,hsS,beq_eq_false_iff_ne]
  refine Xj mD W7 o m og mg mo x _ b b' (i:Int) ((i+1:Nat):Int) (c0:=aj) (c3:=ag) (c4:=ag) c0 rfl rfl c3 c4 rfl rfl rfl (fun _=>inb) (fun q=>no q) (fun q=>no q) (fun q=>no q) (fun _ q=>no' q) (fun _ _ q=>no' q) (fun _ _ _ q1 q2=>no2 (c6 q1) q2) (fun _ _ _ q1 _ _=>?_) (fun _ _ _ q1 _ q2=>no2 q2 q1) (fun _ _ _ q1 q2=>no2 q1 q2) (fun _ _ _ q1 _=>?_) (fun q=>no q) (fun q=>no q) (fun q=>no q) (fun q=>no q)
  ·exact ⟨⟨rfl,rfl,rfl,(by rw[hbb,q1];rfl),w1,rfl,rfl,trivial⟩,_,rfl,nx⟩
  ·exact ⟨⟨rfl,rfl,rfl,(by rw[hbb,q1];exact e2),w1,rfl,rfl,trivial⟩,_,rfl,nx⟩
end
noncomputable def F8:List Sh->Tree Sh
 |[s,t,u]=>match nR t,nR u with
  |some _,ae _=>.need (hpB s) (.leaf (.v (.bool aj))) |_,_=>.fail
 |_=>.fail
noncomputable def P7(k:Nat):Nat->Option (List Sh->Tree Sh)
 |23=>ae W11 |25=>ae (ams k) |_=>aq
theorem aod{k:Nat}(hk:isK k)(stop:Nat->List Nat->Bool):oH ah (C7 mD W7 (P7 k) stop):=dZ (fun g F h=>by
 unfold P7 at h;grind [O23,atf]) fun g h=>by
 unfold P7 at h;split at h;all_goals first|(cases h;done) |kernel_rfl
theorem amI{n m:Nat}{g h:Nat->List Sh}{lv mo:Int}(P:Ak n g m h)(hl:1<=lv/\lv<=4)(hno:¬(wu mo=aj/\(qZ (hsS n g m h) 1).okb=aj)):∃k,isK k/\jeB k (hsS n g m h) lv mo=aj:=by
 have hp:hpB (hsS n g m h)=aj:=@decide_eq_true _ (aB _) ⟨n,g,m,h,rfl,P⟩;unfold jeB;rw[hp,decide_eq_true hl];cases hm:wu mo with
 |false=>exact ⟨4,.inr (.inr (.inr rfl)),rfl⟩ |true=>
  have hb:(qZ (hsS n g m h) 1).okb=ag:=by
   simp_all
  rw[hb];rcases ahZ hb with ha|⟨ha,he|he⟩
  ·exact ⟨0,.inl rfl,by assumption⟩
  ·exact ⟨1,.inr (.inl rfl),by simp_all⟩
  ·exact ⟨6,.inr (.inr (.inl rfl)),by simp_all⟩
theorem O8:nG ah (nY W7) 8 F8:=by
 intro H w nV args φ hon hgl hr hφ;unfold F8 at hφ;split at hφ
 ·rename_i s t u
  split at hφ
  ·rename_i mo x e1 e2
   obtain ⟨q1,hφ⟩:=hφ;obtain ⟨n,g,m,h,rfl,P⟩:=@of_decide_eq_true _ (aB _) q1;have hφ:φ (.v (.bool aj)):=hφ;have hn:dp.ntmps=95:=by kernel_rfl
   match args,hr with
   |[a0,a1,a2],⟨r0,r1,r2,_⟩=>
   have T:up φ (.b aj):=oq (s':=.v (.bool aj)) (.inr rfl) hφ;by_cases hy:wu mo=aj/\(qZ (hsS n g m h) 1).okb=aj
   ·have hT:((nJ n g m h).okb&&decide ((nJ n g m h).n<=12))=aj:=hy.2
    rw[al,decide_eq_true_eq] at hT;refine yC (C:=C7 mD W7 Iy ny) (aS _ _) (fn:=dp) (qV:=[hsS n g m h,.i .i64 mo,.i .i64 x]) (L:=L0) (by kernel_rfl) (by kernel_rfl) hon hgl ⟨r0,qW e1 r1,qW e2 r2,trivial⟩ ?_;refine uz (aS _ _) (afr _) (hold:=oG) (m:=300) (n:=400) (ts:=[⟨8,Xi,L08 n m g h mo x (fun k=>(qI (hsS n g m h) ((k+1:Nat):Int) mo:Nat)) ag ((0:Nat):Int),[]⟩]) ?_;rw[hn];exact afp mD W7 n m g h mo x ((0:Nat):Int) rfl rfl rfl (fun _ _ _=>Ru P hT.1 hT.2 hy.1) (fun _ _=>T) (fun _ _ _=>T) (fun _ _ _=>⟨⟨rfl,rfl,rfl,rfl,rfl,rfl,rfl,trivial⟩,_,rfl,agN P hT.1 hT.2 hy.1 T 4 0 ag (by omega) (fun q=>by cases q)⟩) (fun _=>T)
   ·obtain ⟨k,hk,je⟩:=amI (lv:=1) P (by decide) hy
    refine yC (C:=C7 mD W7 (P7 k) ny) (aS _ _) (fn:=dp) (qV:=[hsS n g m h,.i .i64 mo,.i .i64 x]) (L:=L0) (by kernel_rfl) (by kernel_rfl) hon hgl ⟨r0,qW e1 r1,qW e2 r2,trivial⟩ ?_;refine uz (aS _ _) (aod hk _) (hold:=oG) (m:=300) (n:=400) (ts:=[]) ?_;rw[hn];have tm:=nd (mD.le (mD.nH n) (ab 100)) (fun _=>nd (mD.nt (mD.le (mD.nH m) (ab 70))) (fun _=>T) (fun _=>nd (mD.lt (ab 150) mo) (fun _=>T) (fun _=>an je T))) (fun _=>T);rcases hk with rfl|rfl|rfl|rfl
    ·exact um tm (by kernel_rfl)
    ·exact um tm (by kernel_rfl)
    ·exact um tm (by kernel_rfl)
    ·exact um tm (by kernel_rfl)
  ·exact hφ.elim
 ·exact hφ.elim
end Go.Proofs
namespace Go.Sx
open Go.RowKit Go.ChangeShapes Go.WideShapes Go.Deep
def sU(w:World):Mem:=fun b=>w.heap[b]?
theorem aib(w:World):(sU w).on w:=fun _ _ h=>h
theorem P8{w:World}{a:Addr}{v:Value}(h:w.cell? a=ae v):hcell (sU w) a.block a.off=ae v/\a.spot=aq:=by
 unfold World.cell? at h;unfold hcell sU;(split at h)<;>simp_all
section
variable{H:Type}{enc:TypeId×Value->H}{P:Program}{w:World}{base:Nat}{spare:Nat->Bool}{held:Bool}
def amJ(P:Program)(fs:Array Field)(k:Nat):Bool:=
 fs.size==k&&(List.range k).all fun i=>match fs[i]? with
  |some f=>f.offset==i&&(match P.underlying f.type with|some (.int .i64)=>aj|_=>ag)&&P.cellsOf f.type==1
  |none=>ag
def rowB(P:Program)(e k:Nat):Bool:=
 match P.underlying e with
 |some (.int .i64)=>k==1&&P.cellsOf e==1 |some (.struct fs)=>amJ P fs k&&P.cellsOf e==k |_=>ag
def int64(n:Int):Prop:=(Lit.int .i64 n).wf=aj
theorem adt{e k fuel:Nat}{cs:List Value}{x:DataW H×List MemPlace}(hr:rowB P e k=aj)(h:lP enc P w base spare held fuel e cs=ae x):
  ∃ns:List Int,ns.length=k/\cs=ns.map (cN .i64)/\∀n∈ns,int64 n:=by
 unfold rowB at hr;split at hr
 ·rename_i hu
  simp only[al,beq_iff_eq] at hr;obtain ⟨n,rfl,_,hw⟩:=gt hu h;exact ⟨[n],hr.1.symm,rfl,fun m hm=>by simp at hm;subst hm;exact hw⟩
 ·rename_i fs hu
  simp only[al,beq_iff_eq] at hr;obtain ⟨hf,hc⟩:=hr;unfold amJ at hf;simp only[al,beq_iff_eq] at hf;obtain ⟨hk,hf⟩:=hf;obtain ⟨xs,m,_,_,hlen,hxs,hel⟩:=iU hu h;rw[hc] at hlen;have cell:∀i,i<k->∃n,cs[i]?=ae (.int .i64 n)/\int64 n:=fun i hi=>by
   have q:=be.1 hf i (bh.2 hi);split at q
   ·rename_i f hfi
    simp only[al,beq_iff_eq] at q;obtain ⟨⟨ho,ht⟩,h1⟩:=q;have ht:P.underlying f.type=ae (.int .i64):=by
     grind
    have q2:=hel i f hfi;rw[ho,h1] at q2;have hxi:i<xs.length:=by omega
    rw[aD hxi] at q2;obtain ⟨n,e1,_,e3⟩:=gt ht q2;refine ⟨n,?_,e3⟩;have:(jN 1 (jO i cs))[0]?=ae (.int .i64 n):=by rw[e1];rfl
    grind
   ·cases q
  clear hel h hf;have:∀(j:Nat) (l:List Value),l.length=j->(∀i,i<j->∃n,l[i]?=ae (.int .i64 n)/\int64 n)->∃ns:List Int,ns.length=j/\l=ns.map (cN .i64)/\∀n∈ns,int64 n:=by
   intro j;induction j with
   |zero=>simp |succ j ih=>
    intro l hl hc;match l,hl with
    |v::l,hl=>
     obtain ⟨ns,h1,h2,h3⟩:=ih l (by grind) fun i hi=>by grind
     obtain ⟨n,q1,q2⟩:=hc 0 (by omega);simp at q1;subst q1;exact ⟨n::ns,by simp[h1],by simp[h2],fun m hm=>by
      grind⟩
  simp_all
 ·cases hr
def xq(ns:List Int):List Sh:=ns.map (az .i64)
theorem afs{w:World}{base:Nat}{a:Addr}{n:Nat}{cs:List Value}(h:w.cells? base a n=ae cs):cs.length=n/\∀j,j<n->w.cell? (a.add j)=cs[j]?:=by
 unfold World.cells? at h;split at h
 ·have:∀(l:List Nat) (cs:List Value),l.mapM (fun i=>w.cell? (a.add i))=ae cs->cs.length=l.length/\∀(j:Nat) (i:Nat),l[j]?=ae i->w.cell? (a.add i)=cs[j]?:=by
   intro l;induction l with
   |nil=>simp |cons x l ih=>
    intro cs h;rw[List.mapM_cons] at h;simp only[Option.bind_eq_bind,Option.bind_eq_some_iff,Option.pure_def] at h;grind
  obtain ⟨e1,e2⟩:=this _ _ h;grind
 ·cases h
theorem amK(a:Addr)(n:Nat):(a.add n).off=a.off+n/\(a.add n).block=a.block:=by
 grind [eQ]
theorem add_add'(a:Addr)(i j:Nat):(a.add i).add j=a.add (i+j):=by
 grind [eQ,iy]
theorem Xm{t e k fuel:Nat}{cs:List Value}{x:DataW H×List MemPlace}(ht:P.underlying t=ae (.slice e))(hr:rowB P e k=aj)(hk:P.cellsOf e=k)(h0:0<k)
  (h:lP enc P w base spare held fuel t cs=ae x) :
  ∃v n g,cs=[v]/\Rep (sU w) (.sl k n g) v/\∀i,i<n->∃ns:List Int,ns.length=k/\g i=xq ns/\∀n∈ns,int64 n:=by
 rcases open_slice ht h with ⟨rfl,_⟩ |⟨a,len,cap,m,n,D,Pl,rfl,hb,hl,hcap,hm,_,hel⟩
 ·exact ⟨_,0,fun _=>[],rfl,.sl0 _ _ _ _ (bZ _),fun i hi=>by omega⟩
 have hlm:len<=m:=by grind
 rw[hk] at hel;have row:∀i,i<len->∃ns:List Int,ns.length=k/\w.cells? base (a.add (i*k)) k=ae (ns.map (cN .i64))/\∀n∈ns,int64 n:=fun i hi=>by
  obtain ⟨cs',h1,h2⟩:=hel i (by omega);grind [adt]
 by_cases hz:len=0
 ·subst hz
  exact ⟨_,0,fun _=>[],rfl,.sl0 _ _ _ _ hcap,fun i hi=>by omega⟩
 let N:Nat->List Int:=fun i=>if h:i<len then (row i h).choose else []
 have hN:∀i,i<len->(N i).length=k/\w.cells? base (a.add (i*k)) k=ae ((N i).map (cN .i64))/\∀n∈N i,int64 n:=fun i hi=>by
  grind
 have cell:∀i j,i<len->j<k->w.cell? (a.add (i*k+j))=((N i).map (cN .i64))[j]?:=fun i j hi hj=>by
  grind [afs,add_add']
 have hspot:a.spot=aq:=by
  have h1:=cell 0 0 (by omega) h0;have:∃v,w.cell? a=ae v:=by
   grind [eQ]
  obtain ⟨v,hv⟩:=this;exact (P8 hv).2
 obtain ⟨blk,off,spot⟩:=a;simp only at hspot;subst hspot;refine ⟨_,len,fun i=>xq (N i),rfl,.sl _ _ _ blk off cap (fun i j=>((N i).map (cN .i64)).getD j .nilFunc) hl hcap (fun i hi=>by simp_all [xq]) (fun i j hi hj=>?_) (fun i j hi hj=>?_) (fun i j s hi e=>?_),fun i hi=>⟨N i,(hN i hi).1,rfl,(hN i hi).2.2⟩⟩
 ·grind [aD,P8,amK,iy]
 ·have hlt:j<(N i).length:=by simp_all
  simp[aZ,hlt];rfl
 ·simp only[xq,cL,aO] at e
  obtain ⟨n,h3,rfl⟩:=e;simp[aZ,h3];exact .i _ _
def amL(P:Program)(t:Nat)(k0 k1:Nat):Bool:=
 match P.underlying t with
 |some (.struct fs)=>fs.size==2&&P.cellsOf t==2&&(match fs[0]?,fs[1]? with
  |some f0,ae f1=>f0.offset==0&&f1.offset==1&&P.cellsOf f0.type==1&&P.cellsOf f1.type==1&&(match P.underlying f0.type,P.underlying f1.type with
   |some (.slice e0),ae (.slice e1)=>rowB P e0 k0&&P.cellsOf e0==k0&&rowB P e1 k1&&P.cellsOf e1==k1 |_,_=>ag)
  |_,_=>ag)
 |_=>ag
theorem aic{t k0 k1:Nat}{v:Value}{d:DataW H}{ps:List MemPlace}(hp:amL P t k0 k1=aj)(h00:0<k0)(h01:0<k1){b0:Nat}(hval:ee P w .any b0 t v)(hd:DataW.Trod enc P w base spare held t v d ps):
  ∃n0 g0 n1 g1,Rep (sU w) (.agg [.sl k0 n0 g0,.sl k1 n1 g1]) v/\(∀i,i<n0->∃ns:List Int,ns.length=k0/\g0 i=xq ns/\∀n∈ns,int64 n)/\∀i,i<n1->∃ns:List Int,ns.length=k1/\g1 i=xq ns/\∀n∈ns,int64 n:=by
 unfold amL at hp;split at hp
 ·rename_i fs hu
  unfold ee at hval;rw[hu] at hval;obtain ⟨cs,rfl,hsz,_⟩:=hval;simp only[al,beq_iff_eq] at hp;obtain ⟨⟨h2,hc⟩,hp⟩:=hp;split at hp
  ·rename_i f0 f1 hf0 hf1
   simp only[al,beq_iff_eq] at hp;obtain ⟨⟨⟨⟨o0,o1⟩,c0⟩,c1⟩,hp⟩:=hp;split at hp
   ·rename_i e0 e1 hs0 hs1
    simp only[al,beq_iff_eq] at hp;obtain ⟨⟨⟨r0,q0⟩,r1⟩,q1⟩:=hp;obtain ⟨fuel,hd⟩:=hd;obtain ⟨xs,m,_,_,hlen,hxs,hel⟩:=iU hu hd;have a0:=hel 0 f0 hf0;have a1:=hel 1 f1 hf1;rw[o0,c0,aD (by omega)] at a0;rw[o1,c1,aD (by omega)] at a1;obtain ⟨v0,n0,g0,x0,y0,z0⟩:=Xm hs0 r0 q0 h00 a0;obtain ⟨v1,n1,g1,x1,y1,z1⟩:=Xm hs1 r1 q1 h01 a1;rw[hc] at hsz;obtain ⟨l⟩:=cs;match l,hsz with
    |[u0,u1],_=>
     simp[Value.cells] at x0 x1;subst x0 x1;refine ⟨n0,g0,n1,g1,.agg _ _ rfl fun j s v e1 e2=>?_,z0,z1⟩;grind
   ·cases hp
  ·cases hp
 ·cases hp
end
open Go.RowKit Go.ChangeShapes Go.WideShapes Go.Deep
theorem KR{P:Program}{W:World}{n:String}{g:Nat}{cs:Array Value}(hg:P.globalNamed n=ae g)(h:W.var? P n=ae cs):∃e f,W.heap[g]?=ae (.cells cs e f):=by
 grind [World.var?]
theorem amM{P:Program}{n nm:String}{text:List UInt8}{r:List (String×DataW Unit)}{W:World}{g:Nat}{ti tp te ts:TypeId}{ms:Array (String×TypeId)}{f:Field}
  (h:laidMet P ((n,.iface nm (.ptr (.agg [.lit (.string text)])))::r) W)
  (hg:P.globalNamed n=ae g) (ht:(P.globals[g]?).map (·.type)=ae ti) (hi:P.underlying ti=ae (.interface ms)) (hrow:∀u,P.typeName? 3 u=ae nm->u=tp)
  (hp:P.underlying tp=ae (.pointer te)) (he:P.underlying te=ae (.struct #[f])) (hft:f.type=ts) (hfo:f.offset=0) (hs:P.underlying ts=ae .string) (hc:P.cellsOf te=1) (hcs:P.cellsOf ts=1) :
  vG (sU W) g (.er g tp):=by
 obtain ⟨ps,⟨g0,t0,cs0,f0,p0,q0,hg0,ht0,hv0,hd0,_,e0⟩,_,hrows⟩:=h;obtain rfl:=bd (hg.symm.trans hg0);obtain rfl:=bd (ht.symm.trans ht0);subst e0;obtain ⟨l0⟩:=cs0;have ok0:∀u v,l0=[.iface u v]->ee P W .any 0 u v:=fun u v e=>by
  subst e;exact (hrows g 0 (by simp[gz])).2 u v (by simpa using jP hg0 hv0 0)
 obtain ⟨a0,s0,rfl,hc0,hs0,hz0,rfl⟩:=errorString_of_trod hi hrow hp he hft hfo hs hc hcs hd0 ok0;obtain ⟨c0,t0,hb0⟩:=(hrows a0.block a0.off (by simp[gz])).1;obtain ⟨e,f,hh⟩:=KR hg hv0;have h1:hcell (sU W) g 0=ae (.iface tp (.pointer (ae a0))):=by
  simp_all [hcell,sU]
 exact ⟨_,h1,.er g tp a0 c0 t0 h1 hb0,rfl⟩
theorem aft{P:Program}{n:String}{texts:List (List UInt8)}{r:List (String×DataW Unit)}{W:World}{g:Nat}{t e:TypeId}{k:Nat}
  (h:laidMet P ((n,.agg (texts.map fun s=>.lit (.string s)))::r) W)
  (hg:P.globalNamed n=ae g) (ht:(P.globals[g]?).map (·.type)=ae t) (hu:P.underlying t=ae (.array k e)) (he:P.underlying e=ae .string) (hce:P.cellsOf e=1) (hct:P.cellsOf t=texts.length) :
  vG (sU W) g (.mV (texts.map Sh.str)):=by
 obtain ⟨ps,⟨g0,t0,cs0,f0,p0,q0,hg0,ht0,hv0,hd0,_,e0⟩,_,hrows⟩:=h;obtain rfl:=bd (hg.symm.trans hg0);obtain rfl:=bd (ht.symm.trans ht0);obtain ⟨e1,f1,hh⟩:=KR hg hv0;obtain ⟨xs,m,_,hx,hlen,hxs,hel⟩:=jl hu hd0;have hxs':xs.map (·.1)=texts.map fun s=>.lit (.string s):=by
  simp_all
 have hkt:k=texts.length:=by
  have:=congrArg lQ hxs';grind
 subst hkt;have cell:∀j (hj:j<texts.length),cs0[j]?=ae (.string ⟨texts[j].toArray⟩):=fun j hj=>by
  have q:=hel j hj;rw[hce,lX] at q;have hxj:j<xs.length:=by omega
  rw[aD hxj] at q;obtain ⟨s,q1,q2,_⟩:=DataW.trod_string he q;have q3:(xs.map (·.1))[j]?=ae (.lit (.string texts[j])):=by simp_all
  have q4:(xs[j]).1=.lit (.string texts[j]):=by
   grind
  rw[q2] at q4;simp at q4;have q5:(jN 1 (jO j cs0.toList))[0]?=ae (.string s):=by rw[q1];rfl
  have q6:cs0[j]?=ae (.string s):=by grind
  rw[q6];obtain ⟨⟨l⟩⟩:=s;simp_all
 refine ⟨⟨cs0,e1,f1,hh,by simp_all⟩,fun j=>.string ⟨(texts.getD j []).toArray⟩,fun j hj=>?_,fun j s hs=>?_⟩
 ·have hj':j<texts.length:=by grind
  refine ⟨?_,rfl⟩;simp_all [hcell,sU,aZ,iV]
 ·rw[cL,aO] at hs
  obtain ⟨l,h1,rfl⟩:=hs;show Rep (sU W) (.str l) (.string ⟨(texts.getD j []).toArray⟩);rw[aZ,h1];exact .str l
theorem afu{P:Program}{n:String}{kd:IntKind}{texts:List Int}{r:List (String×DataW Unit)}{W:World}{g:Nat}{t e:TypeId}{k:Nat}
  (h:laidMet P ((n,.agg (texts.map fun s=>.lit (.int kd s)))::r) W)
  (hg:P.globalNamed n=ae g) (ht:(P.globals[g]?).map (·.type)=ae t) (hu:P.underlying t=ae (.array k e)) (he:P.underlying e=ae (.int kd)) (hce:P.cellsOf e=1) (hct:P.cellsOf t=texts.length) :
  vG (sU W) g (.mV (texts.map (az kd))):=by
 obtain ⟨ps,⟨g0,t0,cs0,f0,p0,q0,hg0,ht0,hv0,hd0,_,e0⟩,_,hrows⟩:=h;obtain rfl:=bd (hg.symm.trans hg0);obtain rfl:=bd (ht.symm.trans ht0);obtain ⟨e1,f1,hh⟩:=KR hg hv0;obtain ⟨xs,m,_,hx,hlen,hxs,hel⟩:=jl hu hd0;have hxs':xs.map (·.1)=texts.map fun s=>.lit (.int kd s):=by
  simp_all
 have hkt:k=texts.length:=by
  have:=congrArg lQ hxs';grind
 subst hkt;have cell:∀j (hj:j<texts.length),cs0[j]?=ae (.int kd texts[j]):=fun j hj=>by
  have q:=hel j hj;rw[hce,lX] at q;have hxj:j<xs.length:=by omega
  rw[aD hxj] at q;obtain ⟨s,q1,q2,_⟩:=gt he q;have q3:(xs.map (·.1))[j]?=ae (.lit (.int kd texts[j])):=by simp_all
  have q4:(xs[j]).1=.lit (.int kd texts[j]):=by
   grind
  rw[q2] at q4;simp at q4;have q5:(jN 1 (jO j cs0.toList))[0]?=ae (.int kd s):=by rw[q1];rfl
  grind
 refine ⟨⟨cs0,e1,f1,hh,by simp_all⟩,fun j=>.int kd (texts.getD j 0),fun j hj=>?_,fun j s hs=>?_⟩
 ·have hj':j<texts.length:=by grind
  refine ⟨?_,rfl⟩;simp_all [hcell,sU,aZ,iV]
 ·rw[cL,aO] at hs
  obtain ⟨l,h1,rfl⟩:=hs;show Rep (sU W) (.i kd l) (.int kd (texts.getD j 0));rw[aZ,h1];exact .i kd l
def Y3(H:Mem)(W:World)(g:Nat)(text:List UInt8):Prop:=∃a T s,hcell H g 0=ae (.iface T (.pointer (ae a)))/\W.cell? a=ae (.string s)/\s.data.toList=text
theorem Y3.ne{H:Mem}{W:World}{g g':Nat}{t t':List UInt8}(h:Y3 H W g t)(h':Y3 H W g' t')(hne:t≠t'):hcell H g 0≠hcell H g' 0:=by
 obtain ⟨a,T,s,h1,h2,h3⟩:=h;obtain ⟨a',T',s',q1,q2,q3⟩:=h';intro e;rw[h1,q1] at e;cases e;rw[h2] at q2;cases q2;exact hne (h3.symm.trans q3)
theorem amN{P:Program}{n nm:String}{text:List UInt8}{r:List (String×DataW Unit)}{W:World}{g:Nat}{ti tp te ts:TypeId}{ms:Array (String×TypeId)}{f:Field}
  (h:laidMet P ((n,.iface nm (.ptr (.agg [.lit (.string text)])))::r) W)
  (hg:P.globalNamed n=ae g) (ht:(P.globals[g]?).map (·.type)=ae ti) (hi:P.underlying ti=ae (.interface ms)) (hrow:∀u,P.typeName? 3 u=ae nm->u=tp)
  (hp:P.underlying tp=ae (.pointer te)) (he:P.underlying te=ae (.struct #[f])) (hft:f.type=ts) (hfo:f.offset=0) (hs:P.underlying ts=ae .string) (hc:P.cellsOf te=1) (hcs:P.cellsOf ts=1) :
  Y3 (sU W) W g text:=by
 obtain ⟨ps,⟨g0,t0,cs0,f0,p0,q0,hg0,ht0,hv0,hd0,_,e0⟩,_,hrows⟩:=h;obtain rfl:=bd (hg.symm.trans hg0);obtain rfl:=bd (ht.symm.trans ht0);subst e0;obtain ⟨l0⟩:=cs0;have ok0:∀u v,l0=[.iface u v]->ee P W .any 0 u v:=fun u v e=>by
  subst e;exact (hrows g 0 (by simp[gz])).2 u v (by simpa using jP hg0 hv0 0)
 obtain ⟨a0,s0,rfl,hc0,hs0,hz0,rfl⟩:=errorString_of_trod hi hrow hp he hft hfo hs hc hcs hd0 ok0;obtain ⟨e,f,hh⟩:=KR hg hv0;have h1:hcell (sU W) g 0=ae (.iface tp (.pointer (ae a0))):=by
  unfold hcell sU;rw[hh];rfl
 exact ⟨a0,tp,s0,h1,hc0,hs0⟩
end Go.Sx
namespace Go.Proofs
open Go Go.Sx Go.RowKit Go.ChangeShapes
theorem amO : "*" ++ "errors.errorString" = "*errors.errorString" :=by decide
theorem aoR(u:TypeId)(h:ah.typeName? 3 u=ae "*errors.errorString"):u=329:=
 typeName_ptr_named (nm:= "errors.errorString") (by rw[amO];kernel_rfl) (by kernel_rfl) (by decide) u (by rw[amO];exact h)
theorem NK{n:String}{text:List UInt8}{r:List (String×DataW Unit)}{W:World}{g:Nat}(h:laidMet ah ((n,.iface "*errors.errorString" (.ptr (.agg [.lit (.string text)])))::r) W)
  (hg:ah.globalNamed n=ae g) (ht:(ah.globals[g]?).map (·.type)=ae 46):vG (sU W) g (.er g 329)/\Y3 (sU W) W g text:=
 ⟨amM h hg ht jm aoR iW iX rfl rfl ei (by kernel_rfl) (by kernel_rfl),amN h hg ht jm aoR iW iX rfl rfl ei (by kernel_rfl) (by kernel_rfl)⟩
theorem st7{n:String}{texts:List (List UInt8)}{r:List (String×DataW Unit)}{W:World}{g t k:Nat}(h:laidMet ah ((n,.agg (texts.map fun s=>.lit (.string s)))::r) W)
  (hg:ah.globalNamed n=ae g) (ht:(ah.globals[g]?).map (·.type)=ae t) (hu:ah.underlying t=ae (.array k 9)) (hct:ah.cellsOf t=texts.length):vG (sU W) g (.mV (texts.map Sh.str)):=
 aft h hg ht hu ei (by kernel_rfl) hct
open YthehnhaoiijkhaaGreatDoor.Rows in
def adu:List (Nat×List UInt8):=[(0,[116,104,101,32,115,101,97,114,99,104,32,104,97,115,32,115,101,101,110,32,116,111,111,32,109,117,99,104]),(1,[116,111,111,32,109,97,110,121,32,116,114,97,110,115,97,99,116,105,111,110,115,32,116,111,32,98,101,32,106,117,100,103,101,100]),(2,[110,111,32,108,101,118,101,108]),(3,[110,111,32,99,101,114,116,105,102,105,99,97,116,101]),(4,[116,104,101,114,101,32,105,115,32,110,111,110,101]),(5,[105,116,32,119,97,115,32,115,116,111,112,112,101,100]),(6,[116,111,111,32,109,97,110,121]),(7,[110,111,32,111,98,106,101,99,116]),(8,[110,111,32,111,112,101,114,97,116,105,111,110,32,111,102,32,116,104,97,116,32,111,98,106,101,99,116]),(9,[105,116,32,104,97,115,32,98,101,103,117,110,32,97,108,114,101,97,100,121]),(10,[116,104,101,32,116,104,114,101,97,100,32,105,115,32,98,117,115,121]),(11,[110,111,32,115,117,99,104,32,116,114,97,110,115,97,99,116,105,111,110]),(12,[105,116,32,100,111,101,115,32,110,111,116,32,99,111,109,101,32,104,101,114,101]),(13,[110,111,32,97,110,115,119,101,114,32,111,102,32,116,104,97,116,32,111,112,101,114,97,116,105,111,110]),(14,[110,111,32,115,117,99,104,32,99,111,100,101]),(15,[110,111,32,101,118,101,110,116])]
theorem NM(n:Nat){g:Nat}{t:List UInt8}(h:adu[n]?=ae (g,t)):(g,t)∈adu:=List.mem_of_getElem? h
theorem afv:(adu.all fun p=>adu.all fun q=>p.1==q.1||p.2 != q.2)=aj:=by decide +kernel
open YthehnhaoiijkhaaGreatDoor.Rows in
abbrev P9:List (String×DataW Unit):=levelOrderRow.laid
theorem adv{W:World}(h:laidMetH ah P9 W):qh (nY W7) (sU W):=by
 rw[MakeChecks.laidMetH_plain _ _ _ (by kernel_rfl)] at h;have z0:=h;have z1:=z0.tail;have z2:=z1.tail;have e23:vG (sU W) 23 (.mV (pow10.map (az .u64))):=afu (kd:=.u64) (texts:=pow10) z2 (by kernel_rfl) (by kernel_rfl) Tryz.underlying322 Tryz.underlying315 (by kernel_rfl) (by kernel_rfl);have z3:=z2.tail;have e6:=NK (g:=6) z3 (by kernel_rfl) (by kernel_rfl);have z4:=z3.tail;have e14:=NK (g:=14) z4 (by kernel_rfl) (by kernel_rfl);have z5:=z4.tail;have e7:=NK (g:=7) z5 (by kernel_rfl) (by kernel_rfl);have z6:=z5.tail;have e15:=NK (g:=15) z6 (by kernel_rfl) (by kernel_rfl);have z7:=z6.tail;have e8:=NK (g:=8) z7 (by kernel_rfl) (by kernel_rfl);have z8:=z7.tail;have e13:=NK (g:=13) z8 (by kernel_rfl) (by kernel_rfl);have z9:=z8.tail;have e11:=NK (g:=11) z9 (by kernel_rfl) (by kernel_rfl);have z10:=z9.tail;have e9:=NK (g:=9) z10 (by kernel_rfl) (by kernel_rfl);have z11:=z10.tail;have e10:=NK (g:=10) z11 (by kernel_rfl) (by kernel_rfl);have z12:=z11.tail;have e12:=NK (g:=12) z12 (by kernel_rfl) (by kernel_rfl);have z13:=z12.tail;have e2:=NK (g:=2) z13 (by kernel_rfl) (by kernel_rfl);have z14:=z13.tail;have e1:=NK (g:=1) z14 (by kernel_rfl) (by kernel_rfl);have z15:=z14.tail;have e0:=NK (g:=0) z15 (by kernel_rfl) (by kernel_rfl);have z16:=z15.tail;have e4:=NK (g:=4) z16 (by kernel_rfl) (by kernel_rfl);have z17:=z16.tail;have e5:=NK (g:=5) z17 (by kernel_rfl) (by kernel_rfl);have z18:=z17.tail;have e16:vG (sU W) 16 (.mV (O7 W7 16 4)):=st7 (texts:=[W7 16 0,W7 16 1,W7 16 2,W7 16 3]) z18 (by kernel_rfl) (by kernel_rfl) eZ (by kernel_rfl);have z19:=z18.tail;have e17:vG (sU W) 17 (.mV (O7 W7 17 7)):=st7 (texts:=[W7 17 0,W7 17 1,W7 17 2,W7 17 3,W7 17 4,W7 17 5,W7 17 6]) z19 (by kernel_rfl) (by kernel_rfl) Tryz.underlying301 (by kernel_rfl);have z20:=z19.tail;have e18:vG (sU W) 18 (.mV (O7 W7 18 9)):=st7 (texts:=[W7 18 0,W7 18 1,W7 18 2,W7 18 3,W7 18 4,W7 18 5,W7 18 6,W7 18 7,W7 18 8]) z20 (by kernel_rfl) (by kernel_rfl) Tryz.underlying302 (by kernel_rfl);have z21:=z20.tail;have e19:vG (sU W) 19 (.mV (O7 W7 19 3)):=st7 (texts:=[W7 19 0,W7 19 1,W7 19 2]) z21 (by kernel_rfl) (by kernel_rfl) Tryz.underlying303 (by kernel_rfl);have z22:=z21.tail;have e20:vG (sU W) 20 (.mV (O7 W7 20 4)):=st7 (texts:=[W7 20 0,W7 20 1,W7 20 2,W7 20 3]) z22 (by kernel_rfl) (by kernel_rfl) eZ (by kernel_rfl);have z23:=z22.tail;have e21:vG (sU W) 21 (.mV (O7 W7 21 4)):=st7 (texts:=[W7 21 0,W7 21 1,W7 21 2,W7 21 3]) z23 (by kernel_rfl) (by kernel_rfl) eZ (by kernel_rfl);have tx:∀g T,mG (nY W7) g=ae (.er g T)->∃t,(g,t)∈adu/\Y3 (sU W) W g t:=fun g T hg=>by
  match g,hg with
  |0,_=>exact ⟨_,NM 0 rfl,e0.2⟩ |1,_=>exact ⟨_,NM 1 rfl,e1.2⟩ |2,_=>exact ⟨_,NM 2 rfl,e2.2⟩ |3,hg=>cases hg |4,_=>exact ⟨_,NM 4 rfl,e4.2⟩ |5,_=>exact ⟨_,NM 5 rfl,e5.2⟩ |6,_=>exact ⟨_,NM 6 rfl,e6.2⟩ |7,_=>exact ⟨_,NM 7 rfl,e7.2⟩ |8,_=>exact ⟨_,NM 8 rfl,e8.2⟩ |9,_=>exact ⟨_,NM 9 rfl,e9.2⟩ |10,_=>exact ⟨_,NM 10 rfl,e10.2⟩ |11,_=>exact ⟨_,NM 11 rfl,e11.2⟩ |12,_=>exact ⟨_,NM 12 rfl,e12.2⟩ |13,_=>exact ⟨_,NM 13 rfl,e13.2⟩ |14,_=>exact ⟨_,NM 14 rfl,e14.2⟩ |15,_=>exact ⟨_,NM 15 rfl,e15.2⟩ |16,hg=>cases hg |17,hg=>cases hg |18,hg=>cases hg |19,hg=>cases hg |20,hg=>cases hg |21,hg=>cases hg |22,hg=>cases hg |23,hg=>cases hg |n+24,hg=>simp[nY,mG] at hg
 refine ⟨fun g s hg=>?_,fun g g' T T' h1 h2 hne=>?_⟩
 ·match g,hg with
  |0,hg=>cases hg;exact e0.1 |1,hg=>cases hg;exact e1.1 |2,hg=>cases hg;exact e2.1 |3,hg=>cases hg |4,hg=>cases hg;exact e4.1 |5,hg=>cases hg;exact e5.1 |6,hg=>cases hg;exact e6.1 |7,hg=>cases hg;exact e7.1 |8,hg=>cases hg;exact e8.1 |9,hg=>cases hg;exact e9.1 |10,hg=>cases hg;exact e10.1 |11,hg=>cases hg;exact e11.1 |12,hg=>cases hg;exact e12.1 |13,hg=>cases hg;exact e13.1 |14,hg=>cases hg;exact e14.1 |15,hg=>cases hg;exact e15.1 |16,hg=>cases hg;exact e16 |17,hg=>cases hg;exact e17 |18,hg=>cases hg;exact e18 |19,hg=>cases hg;exact e19 |20,hg=>cases hg;exact e20 |21,hg=>cases hg;exact e21 |22,hg=>cases hg |23,hg=>cases hg;exact e23 |n+24,hg=>simp[nY,mG] at hg
 ·obtain ⟨t,m1,q1⟩:=tx g T h1
  obtain ⟨t',m2,q2⟩:=tx g' T' h2;refine q1.ne q2 fun e=>?_
  have:=be.1 (be.1 afv _ m1) _ m2;subst e;simp[hne] at this
end Go.Proofs
namespace Go.Sx
open Go.RowKit Go.ChangeShapes Go.WideShapes Go.Deep Go.Pl
theorem qR.below{H:Mem}{w w':World}{s:Sh}{v:Value}{H':Mem}(h:qR H w s v H' w'):Below w.heap.size w w':=⟨h.os,h.tape,h.output,h.size,h.old⟩
theorem qR.bool{H:Mem}{w w':World}{b:Bool}{v:Value}{H':Mem}(h:qR H w (.b b) v H' w'):v=.bool b:=by
 obtain ⟨E1,_,_,h1,_⟩:=h.res 0;exact h1
def Uw(P:Program)(ts:List TypeId):Bool:=ts.all fun t=>P.readableRec t&&decide (t<P.types.size)
section
variable{H:Type}{enc:TypeId×Value->H}{P:Program}
theorem Xn(hl:laidOutB P=aj){W W':World}(hb:Below W.heap.size W W'):
  ∀{ts:List TypeId} {vs:List Value} {ds:List (DataW H)} {p:List MemPlace},Uw P ts=aj->gJ enc P W 0 (fun _=>aj) aj ts vs ds p->(∀x∈p,x.block<W.heap.size)->
   gJ enc P W' 0 (fun b=>decide (b<W.heap.size)) aj ts vs ds p
 |[],_,_,_,_,h,_=>by
  obtain ⟨rfl,rfl,rfl⟩:=trodAll_nil h;exact rfl
 |t::ts,_,_,_,hr,h,hlt=>by
  obtain ⟨v,vs1,d,ds1,a,b,rfl,rfl,rfl,h1,h2⟩:=trodAll_cons h;simp only[Uw,List.all_cons,al,decide_eq_true_eq] at hr;exact ⟨a,b,Below.trod hl hr.1.1 hr.1.2 h1 hb fun x hx=>hlt x (List.mem_append_left _ hx),Xn hl hb (by simp only[Uw];exact hr.2) h2 fun x hx=>hlt x (List.mem_append_right _ hx),rfl⟩
theorem aif(hl:laidOutB P=aj){f:Func}{s:ChangeSpec}{W W':World}{args:Array Value}{t:TypeId}{ds gs:List (DataW H)}{before:List MemPlace}(hs:s.vars=[])(hr:Uw P f.params.toList=aj)(ht:f.resultTypes=#[t])(hu:P.underlying t=ae .bool)
  (hW:DataW.Whole enc P f.params.toList s.vars ag W args.toList ds gs before) (hb:Below W.heap.size W W')
  (h1:(s.fn H (ds++gs)).results=[.lit (.bool aj)]) (h2:(s.fn H (ds++gs)).args=ds) (h3:(s.fn H (ds++gs)).vars=[]) :
  s.post enc P f ag aj ag ag W args (.bool aj) W':=by
 have hlt:=hW.lt;have hW0:=hW;obtain ⟨p,q,hA,hV,e,hfz,hnd⟩:=hW;rw[hs] at hV;obtain ⟨rfl,rfl⟩:=trodVars_none hV;subst e;refine ⟨ds,[],p++[],[],p,[],hW0,?_,?_,?_,Below.frame hb _,fun e=>by cases e⟩
 ·rw[h1,ht]
  exact trodAll_mk1 (shut_bool hu aj)
 ·rw[h2]
  exact Xn hl hb hr hA fun x hx=>hlt x (by simpa using hx)
 ·rw[h3,hs]
  exact rfl
end
open Go.RowKit Go.ChangeShapes Go.WideShapes Go.Deep Go.Pl
theorem aii{n:Nat}{g:Nat->List Sh}(h:∀i,i<n->∃ns:List Int,ns.length=2/\g i=xq ns/\∀n∈ns,int64 n):Hz n (mJ (α:=Oj) g)=aj:=by
 unfold Hz;refine be.2 fun j hj=>?_
 obtain ⟨ns,h1,h2,h3⟩:=h j (bh.1 hj);match ns,h1 with
 |[a,b],_=>
  have e:mJ (α:=Oj) g j=⟨a,b⟩:=by
   unfold mJ;rw[h2];rfl
  rw[e];have:=h3 a (by simp);unfold int64 at this;have h1:aA.min=-9223372036854775808:=by decide
  have h2:aA.max=9223372036854775807:=by decide
  simp[Lit.wf] at this;unfold qg;simp;omega
section
variable{H:Type}{enc:TypeId×Value->H}{P:Program}{w:World}{base:Nat}{spare:Nat->Bool}{held:Bool}
end
open Go.RowKit Go.ChangeShapes Go.WideShapes Go.Deep
theorem Xo{α:Type}[oD.Row α]{k n:Nat}{g:Nat->List Sh}(hk:∀ns:List Int,ns.length=k->(ks (α:=α) (xq ns)).isSome=aj)(h:∀i,i<n->∃ns:List Int,ns.length=k/\g i=xq ns/\∀n∈ns,int64 n):fR α n g=aj:=by
 induction n with
 |zero=>rfl |succ n ih=>
  obtain ⟨ns,h1,h2,_⟩:=h n (by omega);simp only[fR,ih fun i hi=>h i (by omega),Bool.true_and];rw[h2];exact hk ns h1
theorem amP{n:Nat}{g:Nat->List Sh}(h:∀i,i<n->∃ns:List Int,ns.length=2/\g i=xq ns/\∀n∈ns,int64 n):fR cp n g=aj:=Xo (fun ns hn=>by
 match ns,hn with
 |[a,b],_=>rfl) h
theorem amQ{n:Nat}{g:Nat->List Sh}(h:∀i,i<n->∃ns:List Int,ns.length=8/\g i=xq ns/\∀n∈ns,int64 n):fR cW n g=aj:=Xo (fun ns hn=>by
 match ns,hn with
 |[a,b,c,d,e,f,x,y],_=>rfl) h
theorem aij{n:Nat}{g:Nat->List Sh}(h:∀i,i<n->∃ns:List Int,ns.length=8/\g i=xq ns/\∀n∈ns,int64 n):oD.Ij n g=aj:=be.2 fun i hi=>by
 obtain ⟨ns,h1,h2,h3⟩:=h i (bh.1 hi);match ns,h1 with
 |[a,b,c,d,e,f,x,y],_=>
  have hy:=h3 y (by simp);unfold oD.mJ;rw[h2];have e:((ks (xq [a,b,c,d,e,f,x,y])).getD oD.Row.zX:cW).ret=y:=rfl;rw[e];have hy:(Lit.int .i64 y).wf=aj:=hy;simp only[Lit.wf,al,decide_eq_true_eq] at hy;exact decide_eq_true hy
theorem qR.ark{H:Mem}{w w':World}{b:Bool}{v:Value}{H':Mem}(h:qR H w (.v (.bool b)) v H' w'):v=.bool b:=by
 obtain ⟨E1,_,_,h1,_⟩:=h.res 0;exact h1
end Go.Sx
namespace Go.Proofs.YthehnhaoiijkhaaGreatDoor
open Go.ChangeShapes Go.WideShapes Go.ChangeAt Go.WideMaps Go.WideElems Go.RowKit Go.Sx Go.Pl
theorem amR{n m:Nat}{g h:Nat->List Sh}(a:∀i,i<n->∃ns:List Int,ns.length=2/\g i=xq ns/\∀n∈ns,int64 n)(b:∀i,i<m->∃ns:List Int,ns.length=8/\h i=xq ns/\∀n∈ns,int64 n):hpB (.agg [.sl 2 n g,.sl 8 m h])=aj:=
 @decide_eq_true _ (aB _) ⟨n,g,m,h,rfl,amP a,amQ b,aij b,aii a⟩
theorem atu:ownKnob ah.godebug=aq:=by kernel_rfl
theorem aik:laidOutB ah=aj:=by kernel_rfl
theorem aoe(os:Os)(args:Array Value):laidMetH ah P9 ((kb ah 400 os).forCall (fun _ _=>0) ⟨#[],args,[]⟩).memory:=
 laidMetH_of_parts3 (fuel:=8) (laidMet_of_run' 8 (by kernel_rfl) (by kernel_rfl)) (by kernel_rfl) (by kernel_rfl)
set_option maxRecDepth 100000 in
theorem amS(os:Os)(started:os.Started)(H:Type)(enc:TypeId×Value->H):
  ReturnsInHanded {} hJ os 8 .any (fun w args=>(Rows.levelOrderSpec.pre enc ah dp [] ag w args/\laidMetH ah P9 w)/\sizedMet enc ah dp (OpenSpec.ofChange Rows.levelOrderSpec) ag w args)
   (Rows.levelOrderSpec.post enc ah dp ag aj ag ag):=by
 refine returnsInHanded_of_change_and (C:=hJ) (X:=fun w _=>laidMetH ah P9 w) (fun _ _ _ hh h=>h.of_heap hh) atu started (by kernel_rfl) iY
  (ChangeSpec.witness_shaped (enc:=enc) (C:=hJ) (os:=os) (X:=fun w _=>laidMetH ah P9 w) ag (kb ah 400 os) #[.agg #[.slice aq 0 0,.slice aq 0 0],.int .i64 0,.int .i64 0] 8 rfl (World.shaped_of_RefB (by kernel_rfl) (by kernel_rfl)) (by kernel_rfl) (by kernel_rfl) (by kernel_rfl) (aoe os _)) ?_
 intro W base args ds gs before hval0 hW _ _ hL _;have hval:∀(j:Nat) t v,dp.params[j]?=ae t->args[j]?=ae v->ee ah W .any base t v:=hval0;have hW':=hW;obtain ⟨p,q,hA0,hV,e,hfz,hnd⟩:=hW;obtain ⟨rfl,rfl⟩:=trodVars_none hV;have hA:gJ enc ah W 0 (fun _=>aj) aj dp.params.toList args.toList ds p:=hA0;rw[lz] at hA hval;obtain ⟨v0,vs0,d0,ds0,p0,q0,ea,rfl,rfl,t0,hA⟩:=trodAll_cons hA;obtain ⟨v1,vs1,d1,ds1,p1,q1,rfl,rfl,rfl,t1,hA⟩:=trodAll_cons hA;obtain ⟨v2,vs2,d2,ds2,p2,q2,rfl,rfl,rfl,t2,hA⟩:=trodAll_cons hA;obtain ⟨rfl,rfl,rfl⟩:=trodAll_nil hA;have at_:∀(j:Nat) v,[v0,v1,v2][j]?=ae v->args[j]?=ae v:=fun j v h=>by rw[<-Array.getElem?_toList,ea];exact h
 obtain ⟨n0,g0,m0,h0,r0,a0,b0⟩:=aic (k0:=2) (k1:=8) (by kernel_rfl) (by decide) (by decide) (hval 0 25 v0 rfl (at_ 0 v0 rfl)) t0;obtain ⟨x1,rfl,_,_,_⟩:=open_int eG (hval 1 3 v1 rfl (at_ 1 v1 rfl)) t1;obtain ⟨x2,rfl,_,_,_⟩:=open_int eG (hval 2 3 v2 rfl (at_ 2 v2 rfl)) t2;have hc:=O8 (sU W) W [.agg [.sl 2 n0 g0,.sl 8 m0 h0],.i .i64 x1,.i .i64 x2] [v0,.int .i64 x1,.int .i64 x2] (fun s=>s=.v (.bool aj)) (aib W) (adv hL)
  ⟨r0,.i _ _,.i _ _,trivial⟩ ⟨amR a0 b0,rfl⟩
 have eargs:args=[v0,.int .i64 x1,.int .i64 x2].toArray:=by rw[<-ea]
 rw[eargs];refine hc.mono fun e W' ⟨v,s,H',he,hs,hr⟩=>?_;subst he hs;obtain rfl:=hr.ark;refine ⟨_,rfl,aif aik rfl (by kernel_rfl) (by kernel_rfl) Tryz.underlying4 (by rw[eargs] at hW';exact hW') hr.below rfl rfl rfl⟩
set_option maxHeartbeats 4000000 in
theorem levelOrder_holds:Rows.LevelOrderSaid:=
 OpenClaim.holds_of_wide 8 dp rfl rfl rfl rfl rfl rfl rfl ⟨rfl,rfl,rfl,rfl,rfl⟩ rfl rfl rfl rfl rfl (by as_aux_lemma=>kernel_rfl) iY (by as_aux_lemma=>kernel_rfl)
  (of_decide_eq_true (by as_aux_lemma=>kernel_rfl)) (by unfold Func.isWrapper;first|(rw[if_pos (by decide +kernel)];kernel_rfl) |(rw[if_neg (by decide +kernel)];exact ⟨rfl,rfl⟩))
  (fun os started H enc _=>amS os started H enc)
open Go
theorem levelOrder_card:Rows.LevelOrderCardSaid:=
 Claim7.holds_tied_plain_at .later [] [.data,.data,.data,.sentinel,.sentinel,.sentinel,.sentinel,.sentinel,.sentinel,.sentinel,.sentinel,.sentinel,.sentinel,.sentinel,.sentinel,.sentinel,.sentinel,.sentinel,.data,.data,.data,.data,.data,.data] aj (aj, "81e67fd4d3bd142d930eaa45586bdb8ac6b198972cce1b631dceec920cefaf18") aj
  levelOrder_holds (fun _ h=>by cases h) (by kernel_rfl) (fun _ h=>by cases h) levelOrder_row_tie rfl ⟨rfl,rfl⟩ (by kernel_rfl) rfl
  (fun f fn hf hfn=>by
   obtain rfl:f=8:=bd ((show ah.funcNamed "umpire/umpirelaw14.LevelOrder" = ae 8 by kernel_rfl).symm.trans hf) |>.symm
   obtain rfl:fn=dp:=(bd (iY.symm.trans hfn)).symm;exact ⟨by kernel_rfl,fun j t ht=>by
    rw[lz] at ht;have hm:t∈[25,3,3]:=by simpa using Array.mem_of_getElem? ht
    have hall:([25,3,3].all fun u=>!Tryz.prog.wantsStandIn u)=aj:=by kernel_rfl
    exact (show ah.wantsStandIn t=ag by simpa using be.1 hall t hm)⟩)
  (by kernel_rfl)
#print axioms levelOrder_card
end Go.Proofs.YthehnhaoiijkhaaGreatDoor
