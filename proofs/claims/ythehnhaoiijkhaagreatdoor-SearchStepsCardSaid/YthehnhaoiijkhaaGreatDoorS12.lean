/- Own work. -/
import Derived.Test.YthehnhaoiijkhaaGreatDoorS11
open Int (ofNat)
open And renaming intro->bY
open Bool renaming true->aF,false->aA
open Classical renaming byContradiction->nO
open Go.IntKind renaming i64->aW,wrap_i64->iV
open Go.Proofs renaming W7->rO
open Go.Proofs.Tryz renaming prog->aB,f54->lS,f31->lT,f45->oZ,f21->o7,f29->o9,f102->nV,f122->dK,f99->kS,f101->bQ,f100->oQ,f77->jq
open Go.AQ renaming W5->jO
open Go.AQ.C5 renaming ok->ku,Um->yX
open Go.Sx.BQ renaming sh->aP,int->ak,nat->aK,get->aV,ok->iL,L9->bF,all->dI
open Go.Sx.Eo renaming at_->bJ,ret->aU
open Go.Sx.Fin renaming ret->aO
open Go.Sx.It renaming code->bD,inBlock->dh
open Go.Sx.Sh renaming sl->aH,i->aZ,os->jv,agg->bU,str->dA,er->bC,v->jF,Dv->qj,pt->tZ,b->gq
open Go.Sx.Tree renaming need->aI,leaf->aC,node->aG,must->aT,All->fM,fail->dJ
open Go.Value renaming nilIface->bM
open Int renaming ofNat->ah,ofNat_eq_natCast->fQ,negSucc->fG,toNat_natCast->fK
open List renaming getD_eq_getElem?_getD->aX,getElem?_eq_getElem->aS
open Nat renaming beq->fC,eq_of_beq_eq_true->fH
open Option renaming some->ay,none->aN
namespace Go.AQ
open Go Go.Sx Go.Cc
def Bc:Nat->List Nat->Bool:=fun _ _=>aF
def Ec:Nat->Bool:=fun _=>aA
abbrev L0:Nat:=1000000000000000000000000000000
def aen(n:Nat)(o:Nat->Oj)(i:Int)(k:Nat)(gg:Nat->List Sh):Core:={tm:=[.sh (.sl 2 n (Az o)),.any,.any,.gs 0,.sym .i64 i]++rep [.any] 17,hp:=[(0,.own 140 2 k gg)],nx:=1,lim:=L0,tc:=[]}
def Jf:List It:=[bD [0,1,0,1,1],dh 0,bD [1,1,1]]
def Xj:List It:=[bD [0,0,1,0,1,1],bD [0,1,0,1,1],dh 0,bD [1,1,1]]
def aeo(n:Nat)(o:Nat->Ev)(i:Int)(k:Nat)(gg:Nat->List Sh):Core:={tm:=[.sh (.sl 8 n (Az o)),.any,.any,.gs 0,.sym .i64 i]++rep [.any] 17,hp:=[(0,.own 71 8 k gg)],nx:=1,lim:=L0,tc:=[]}
theorem a10(A:Prim)(W:Wd)(n:Nat)(o:Nat->Oj)(i':Int)(k':Nat)(Iy:Nat->List Sh):BA (C5 A W noSpec Bc) Ec 300 200 54 [.code []] (AL 22 [.sl 2 n (Az o)] L0) [] [⟨54,Jf,aen n o i' k' Iy,[]⟩]=aI (A.le (ah 0) (A.Bl n)) (aI (A.room (A.toN (A.Bl n)) 16) (aC (bJ 0 [aP (aH 2 n (Az o)) (aH 2 n (Az o)),ak (ah 0) i',aK 0 k',aV 0 (fun (_x:Nat)=>[]) Iy]))):=by kernel_rfl
theorem b10(A:Prim)(W:Wd)(n:Nat)(o:Nat->Oj)(i i':Int)(k k':Nat)(gg Iy:Nat->List Sh):BA (C5 A W noSpec Bc) Ec 300 200 54 Xj (aen n o i k gg) [] [⟨54,Jf,aen n o i' k' Iy,[]⟩]=aG (A.lt i (A.Bl n)) (aI (A.inB i n) (aI (A.room (A.addN k 1) 16) (aC (bJ 0 [aP (aH 2 n (Az o)) (aH 2 n (Az o)),ak (A.add .i64 i (ah 1)) i',aK (A.addN k 1) k',aV (A.addN k 1) (A.snoc gg k (BD [[aZ .i64 (o (A.toN i)).kind,aZ .i64 (o (A.toN i)).init]])) Iy])))) (aC (aU (jv 140 2 k (k,gg).snd))):=by kernel_rfl
theorem a11(A:Prim)(W:Wd)(n:Nat)(o:Nat->Ev)(i':Int)(k':Nat)(Iy:Nat->List Sh):BA (C5 A W noSpec Bc) Ec 300 200 31 [.code []] (AL 22 [.sl 8 n (Az o)] L0) [] [⟨31,Jf,aeo n o i' k' Iy,[]⟩]=aI (A.le (ah 0) (A.Bl n)) (aI (A.room (A.toN (A.Bl n)) 64) (aC (bJ 0 [aP (aH 8 n (Az o)) (aH 8 n (Az o)),ak (ah 0) i',aK 0 k',aV 0 (fun (_x:Nat)=>[]) Iy]))):=by kernel_rfl
theorem b11(A:Prim)(W:Wd)(n:Nat)(o:Nat->Ev)(i i':Int)(k k':Nat)(gg Iy:Nat->List Sh):BA (C5 A W noSpec Bc) Ec 300 200 31 Xj (aeo n o i k gg) [] [⟨31,Jf,aeo n o i' k' Iy,[]⟩]=aG (A.lt i (A.Bl n)) (aI (A.inB i n) (aI (A.room (A.addN k 1) 64) (aC (bJ 0 [aP (aH 8 n (Az o)) (aH 8 n (Az o)),ak (A.add .i64 i (ah 1)) i',aK (A.addN k 1) k',aV (A.addN k 1) (A.snoc gg k (BD [[aZ .i64 (o (A.toN i)).kind,aZ .i64 (o (A.toN i)).tx,aZ .i64 (o (A.toN i)).thread,aZ .i64 (o (A.toN i)).obj,aZ .i64 (o (A.toN i)).op,aZ .i64 (o (A.toN i)).key,aZ .i64 (o (A.toN i)).val,aZ .i64 (o (A.toN i)).ret]])) Iy])))) (aC (aU (jv 71 8 k (k,gg).snd))):=by kernel_rfl
def F10:List Sh->Tree Sh
 |[.sl 2 n g]=>.need (okB Oj n g) (.need (BU n 16) (.leaf (.os 140 2 n (fO g)))) |_=>.fail
theorem ale{H0:Mem}{w0:World}{n:Nat}{o:Nat->Oj}{φ:Sh->Prop}(hr:Aw.room n 16=aF)(hφ:φ (.os 140 2 n (Az o))):
  ∀m k,k+m=n->BK aB (C5 Aw W5 noSpec Bc) (K0 H0 w0) 54 Jf (aen n o k k (Az o)) [] emp φ
 |m,k,hk=>by
  obtain ⟨hr1,hr2⟩:=FV hr;rw[maxLen_eq] at hr2;refine FW (fn:=lS) (tb:=Xj) (by kernel_rfl) (by kernel_rfl) ?_;refine Ic (ku _ _) (MB _) (hold:=Ec) (m:=300) (n:=200) (ts:=[⟨54,Jf,aen n o (k+1:Nat) (k+1) (Az o),[]⟩]) ?_;rw[b10 Aw W5 n o k (k+1:Nat) k (k+1) (Az o) (Az o)];refine ⟨fun h=>⟨?_,?_,⟨rfl,?_,rfl,?_,trivial⟩,_,rfl,?_⟩,fun h=>?_⟩
  ·simp[AO,Bg,BO] at h ⊢;omega
  ·simp[AO,Bg,DU,ET,maxLen_eq] at h ⊢;omega
  ·simp[AO,Bg] at h
   simp only[iL,DR,Hz];rw[CO (by omega) (by omega)];rfl
  ·exact aem rfl
  ·simp[AO,Bg] at h
   match m,hk with
   |0,hk=>omega |m+1,hk=>exact ale hr hφ m (k+1) (by omega)
  ·simp[AO,Bg] at h
   obtain rfl:k=n:=by omega
   exact hφ
theorem O10:Bh aB (F9 W5) 54 F10:=by
 refine KZ (C:=C5 Aw W5 noSpec Bc) (ku _ _) (fn:=lS) (by kernel_rfl) (by kernel_rfl) fun H w BI args φ hrep h=>?_
 unfold F10 at h;split at h
 ·rename_i n g
  obtain ⟨h1,h2,h3⟩:=h;have h2:Aw.room n 16=aF:=h2;match args,hrep with
  |[v],⟨hv,_⟩=>
   refine ⟨[.sl 2 n (Az (AB (α:=Oj) g))],⟨EK hv h1,trivial⟩,L0,?_⟩;refine Ic (ku _ _) (MB _) (hold:=Ec) (m:=300) (n:=200) (ts:=[⟨54,Jf,aen n (AB g) (0:Nat) 0 (Az (AB (α:=Oj) g)),[]⟩]) ?_;have hn:lS.ntmps=22:=by kernel_rfl
   rw[hn,a10 Aw W5 n (AB g) (0:Nat) 0 (Az (AB (α:=Oj) g))];refine ⟨by simp[DK,Bg],by simpa[Dn,Bg] using h2,⟨rfl,rfl,rfl,fun j hj=>by omega,trivial⟩,_,rfl,ale h2 h3 n 0 (by omega)⟩
 ·exact h.elim
end Go.AQ
namespace Go.Cc
open Go Go.Sx
def ajq{α:Type}[DecidableEq α](a b:List α):Bool:=decide (a=b)
end Go.Cc
namespace Go.AQ
open Go Go.Sx Go.Cc
def F35:List Sh->Tree Sh
 |[.sl 2 n g,.sl 2 m h]=>.need (okB Oj n g) (.need (okB Oj m h) (.leaf (.b (ajq (lst Oj n g) (lst Oj m h))))) |_=>.fail
def F11:List Sh->Tree Sh
 |[.sl 8 n g]=>.need (okB Ev n g) (.need (BU n 64) (.leaf (.os 71 8 n (fE g)))) |_=>.fail
theorem alf{H0:Mem}{w0:World}{n:Nat}{o:Nat->Ev}{φ:Sh->Prop}(hr:Aw.room n 64=aF)(hφ:φ (.os 71 8 n (Az o))):
  ∀m k,k+m=n->BK aB (C5 Aw W5 noSpec Bc) (K0 H0 w0) 31 Jf (aeo n o k k (Az o)) [] emp φ
 |m,k,hk=>by
  obtain ⟨hr1,hr2⟩:=FV hr;rw[maxLen_eq] at hr2;refine FW (fn:=lT) (tb:=Xj) (by kernel_rfl) (by kernel_rfl) ?_;refine Ic (ku _ _) (MB _) (hold:=Ec) (m:=300) (n:=200) (ts:=[⟨31,Jf,aeo n o (k+1:Nat) (k+1) (Az o),[]⟩]) ?_;rw[b11 Aw W5 n o k (k+1:Nat) k (k+1) (Az o) (Az o)];refine ⟨fun h=>⟨?_,?_,⟨rfl,?_,rfl,?_,trivial⟩,_,rfl,?_⟩,fun h=>?_⟩
  ·simp[AO,Bg,BO] at h ⊢;omega
  ·simp[AO,Bg,DU,ET,maxLen_eq] at h ⊢;omega
  ·simp[AO,Bg] at h
   simp only[iL,DR,Hz];rw[CO (by omega) (by omega)];rfl
  ·exact aem rfl
  ·simp[AO,Bg] at h
   match m,hk with
   |0,hk=>omega |m+1,hk=>exact alf hr hφ m (k+1) (by omega)
  ·simp[AO,Bg] at h
   obtain rfl:k=n:=by omega
   exact hφ
theorem Ut:Bh aB (F9 W5) 31 F11:=by
 refine KZ (C:=C5 Aw W5 noSpec Bc) (ku _ _) (fn:=lT) (by kernel_rfl) (by kernel_rfl) fun H w BI args φ hrep h=>?_
 unfold F11 at h;split at h
 ·rename_i n g
  obtain ⟨h1,h2,h3⟩:=h;have h2:Aw.room n 64=aF:=h2;match args,hrep with
  |[v],⟨hv,_⟩=>
   refine ⟨[.sl 8 n (Az (AB (α:=Ev) g))],⟨EK hv h1,trivial⟩,L0,?_⟩;refine Ic (ku _ _) (MB _) (hold:=Ec) (m:=300) (n:=200) (ts:=[⟨31,Jf,aeo n (AB g) (0:Nat) 0 (Az (AB (α:=Ev) g)),[]⟩]) ?_;have hn:lT.ntmps=22:=by kernel_rfl
   rw[hn,a11 Aw W5 n (AB g) (0:Nat) 0 (Az (AB (α:=Ev) g))];refine ⟨by simp[DK,Bg],by simpa[Dn,Bg] using h2,⟨rfl,rfl,rfl,fun j hj=>by omega,trivial⟩,_,rfl,alf h2 h3 n 0 (by omega)⟩
 ·exact h.elim
theorem a37(A:Prim)(W:Wd)(n m:Nat)(g h:Nat->List Sh):CV (C5 A W noSpec Bc) 300 45 [.code []] (AL 18 [.agg [.sl 2 n g,.sl 8 m h]] L0)=aI (A.le (ah 0) (A.Bl n)) (aI (A.room (A.toN (A.Bl n)) 16) (aI (A.room (A.addN 0 n) 16) (aI (A.le (ah 0) (A.Bl m)) (aI (A.room (A.toN (A.Bl m)) 64) (aI (A.room (A.addN 0 m) 64) (aI (A.le (ah 0) (A.Bl m)) (aI (A.room (A.toN (A.Bl m)) 64) (aI (A.room (A.addN 0 n) 16) (aI (A.room (A.addN 0 m) 64) (aT [aP (aH 2 n g) (aH 2 n g),aP (aH 8 m h) (aH 8 m h),aP (aH 2 n g) (aH 2 n g),aP (aH 8 m h) (aH 8 m h),aK (A.addN 0 n) (A.addN 0 n),bF (A.snoc (fun (_x:Nat)=>[]) 0 g) (A.snoc (fun (_x:Nat)=>[]) 0 g),aK (A.addN 0 m) (A.addN 0 m),bF (A.snoc (fun (_x:Nat)=>[]) 0 h) (A.snoc (fun (_x:Nat)=>[]) 0 h)] (aI (A.le (ah 0) (A.Bl m)) (aI (A.room (A.toN (A.Bl m)) 64) (aI (A.le (ah 0) (A.Bl n)) (aI (A.room (A.toN (A.Bl n)) 16) (aI (A.room (A.addN 0 n) 16) (aI (A.room (A.addN 0 m) 64) (aT [aP (aH 2 n g) (aH 2 n g),aP (aH 8 m h) (aH 8 m h),aP (aH 2 n g) (aH 2 n g),aP (aH 8 m h) (aH 8 m h),aK (A.addN 0 n) (A.addN 0 n),bF (A.snoc (fun (_x:Nat)=>[]) 0 g) (A.snoc (fun (_x:Nat)=>[]) 0 g),aK (A.addN 0 m) (A.addN 0 m),bF (A.snoc (fun (_x:Nat)=>[]) 0 h) (A.snoc (fun (_x:Nat)=>[]) 0 h)] (aC (aO (bU [jv 140 2 (A.addN 0 n) (A.addN 0 n,A.snoc (fun (_x:Nat)=>[]) 0 g).snd,jv 71 8 (A.addN 0 m) (A.addN 0 m,A.snoc (fun (_x:Nat)=>[]) 0 h).snd])))))))))))))))))))):=by kernel_rfl
theorem aw0(A:Prim)(W:Wd)(n:Nat)(g h:Nat->List Sh):CV (C5 A W noSpec Bc) 300 45 [.code []] (AL 18 [.agg [.sl 2 n g,.sl 0 0 h]] L0)=aI (A.le (ah 0) (A.Bl n)) (aI (A.room (A.toN (A.Bl n)) 16) (aI (A.room (A.addN 0 n) 16) (aI (A.le (ah 0) (A.Bl 0)) (aI (A.room (A.toN (A.Bl 0)) 64) (aI (A.room (A.addN 0 0) 64) (aI (A.le (ah 0) (A.Bl 0)) (aI (A.room (A.toN (A.Bl 0)) 64) (aI (A.room (A.addN 0 n) 16) (aI (A.room (A.addN 0 0) 64) (aT [aP (aH 2 n g) (aH 2 n g),aP (aH 0 0 h) (aH 0 0 h),aP (aH 2 n g) (aH 2 n g),aP (aH 0 0 h) (aH 0 0 h),aK (A.addN 0 n) (A.addN 0 n),bF (A.snoc (fun (_x:Nat)=>[]) 0 g) (A.snoc (fun (_x:Nat)=>[]) 0 g),aK (A.addN 0 0) (A.addN 0 0),bF (A.snoc (fun (_x:Nat)=>[]) 0 fun (_x:Nat)=>[]) (A.snoc (fun (_x:Nat)=>[]) 0 fun (_x:Nat)=>[])] (aI (A.le (ah 0) (A.Bl 0)) (aI (A.room (A.toN (A.Bl 0)) 64) (aI (A.le (ah 0) (A.Bl n)) (aI (A.room (A.toN (A.Bl n)) 16) (aI (A.room (A.addN 0 n) 16) (aI (A.room (A.addN 0 0) 64) (aT [aP (aH 2 n g) (aH 2 n g),aP (aH 0 0 h) (aH 0 0 h),aP (aH 2 n g) (aH 2 n g),aP (aH 0 0 h) (aH 0 0 h),aK (A.addN 0 n) (A.addN 0 n),bF (A.snoc (fun (_x:Nat)=>[]) 0 g) (A.snoc (fun (_x:Nat)=>[]) 0 g),aK (A.addN 0 0) (A.addN 0 0),bF (A.snoc (fun (_x:Nat)=>[]) 0 fun (_x:Nat)=>[]) (A.snoc (fun (_x:Nat)=>[]) 0 fun (_x:Nat)=>[])] (aC (aO (bU [jv 140 2 (A.addN 0 n) (A.addN 0 n,A.snoc (fun (_x:Nat)=>[]) 0 g).snd,jv 71 8 (A.addN 0 0) (A.addN 0 0,A.snoc (fun (_x:Nat)=>[]) 0 fun (_x:Nat)=>[]).snd])))))))))))))))))))):=by kernel_rfl
theorem QD(g:Nat->List Sh):Aw.snoc (fun _=>[]) 0 g=g:=by
 funext i;rw[EF,if_neg (Nat.not_lt_zero i),Nat.sub_zero]
def Ej(st:Nat):Sh->Option (Nat×(Nat->List Sh))
 | .sl st' n g=>bif fC st' st then ay (n,g) else bif fC st' 0&&fC n 0 then ay (0,fun _=>[]) else aN |_=>aN
theorem alg{st:Nat}{s:Sh}{n:Nat}{g:Nat->List Sh}(h:Ej st s=ay (n,g)):s=.sl st n g\/(∃g',s=.sl 0 0 g'/\n=0/\g=fun _=>[]):=by
 unfold Ej at h;split at h
 ·rename_i st' m g'
  cases h1:fC st' st<;>simp only[h1,cond_true,cond_false] at h
  ·cases h2:(fC st' 0&&fC m 0)<;>simp only[h2,cond_true,cond_false] at h
   ·cases h
   ·cases h
    simp only[Bool.and_eq_true] at h2;have e1:=fH h2.1;have e2:=fH h2.2;subst e1 e2;exact .inr ⟨_,rfl,rfl,rfl⟩
  ·cases h
   have:=fH h1;subst this;exact .inl rfl
 ·cases h
def F37:List Sh->Tree Sh
 |[.agg [.sl 2 n g,s]]=>match Ej 8 s with
  |some (m,h)=>.need (BU n 16) (.need (BU m 64) (.leaf (.agg [.os 140 2 n g,.os 71 8 m h]))) |none=>.fail
 |_=>.fail
theorem O37:Bh aB (F9 W5) 45 F37:=by
 refine Io (C:=C5 Aw W5 noSpec Bc) (ku _ _) (MB _) (n:=300) (L:=L0) (fn:=oZ) (by kernel_rfl) (by kernel_rfl) fun H w BI args φ hrep h=>?_
 have hn:oZ.ntmps=18:=by kernel_rfl
 unfold F37 at h;split at h
 ·rename_i n g s
  split at h
  ·rename_i m h' hs
   obtain ⟨h1,h2,h3⟩:=h;have h1:Aw.room n 16=aF:=h1;have h2:Aw.room m 64=aF:=h2;refine ⟨[.agg [.sl 2 n g,s]],hrep,?_⟩;rw[hn];rcases alg hs with rfl|⟨g',rfl,rfl,rfl⟩
   ·rw[a37 Aw W5 n m g h']
    simpa[fM,Ci,dI,iL,DK,Bg,Dn,DU,h1,h2,QD] using h3
   ·rw[aw0 Aw W5 n g g']
    simpa[fM,Ci,dI,iL,DK,Bg,Dn,DU,h1,h2,QD] using h3
  ·exact h.elim
 ·exact h.elim
def F42:List Sh->Tree Sh
 |[.sl 2 n g,.sl 2 m h]=>.need (okB Oj n g) (.need (okB Oj m h) (.leaf (.b (ajq (lst Oj n g) (lst Oj m h))))) |_=>.fail
def Xo:List It:=[bD [0,1,0,1],dh 0,bD [1,1]]
def ak9:List It:=[bD [0,0,1,0,1],bD [0,1,0,1],dh 0,bD [1,1]]
end Go.AQ
namespace Go.Cc
open Go Go.Sx
def hasB(l:List Int)(x:Int):Bool:=decide (x∈l)
theorem PE{α:Type}[Row α](l:List α)(a:α){r:List (List Sh)}(h:BD r 0=Row.put a):∀i,i<l.length+1->Aw.snoc (Az (nth l)) l.length (BD r) i=Az (nth (l++[a])) i:=fun i hi=>by
 rw[EF];split
 ·rename_i h1
  simp only[Az,nth];rw[aX,aX,List.getElem?_append_left h1]
 ·have:i=l.length:=by omega
  subst this;rw[Nat.sub_self,h];simp[Az,nth]
end Go.Cc
namespace Go.AQ
open Go Go.Sx Go.Cc
def F41:List Sh->Tree Sh
 |[.sl 1 n g,.i .i64 x]=>.need (okB Int n g) (.leaf (.b (hasB (lst Int n g) x))) |_=>.fail
def GZ:Nat->Option (List Sh->Tree Sh)
 |54=>ay F10 |31=>ay F11 |45=>ay F37 |_=>aN
theorem a13(A:Prim)(W:Wd)(n m:Nat)(g h:Nat->List Sh)(x:Int):CV (C5 A W GZ Bc) 300 21 [.code []] (AL 17 [.agg [.sl 2 n g,.sl 8 m h],.i .i64 x] L0)=aI (A.upTo (A.max (ah 0) (A.min x (A.Bl m))) m) (aI (BU n 16) (aI (BU (A.toN (A.max (ah 0) (A.min x (A.Bl m)))) 64) (aC (aO (bU [jv 140 2 n g,jv 71 8 (A.toN (A.max (ah 0) (A.min x (A.Bl m)))) h]))))):=by kernel_rfl
theorem a14(A:Prim)(W:Wd)(n m:Nat)(g h:Nat->List Sh)(x:Int):CV (C5 A W GZ Bc) 300 29 [.code []] (AL 20 [.agg [.sl 2 n g,.sl 8 m h],.i .i64 x] L0)=aI (okB Oj n g) (aI (BU n 16) (aI (A.upTo (A.max (ah 0) (A.min x (A.Bl m))) m) (aI (okB Ev (A.toN (A.max (ah 0) (A.min x (A.Bl m)))) h) (aI (BU (A.toN (A.max (ah 0) (A.min x (A.Bl m)))) 64) (aI (A.upTo (A.max (ah 0) (A.min x (A.Bl m))) m) (aI (okB Oj n g) (aI (BU n 16) (aI (okB Ev (A.toN (A.max (ah 0) (A.min x (A.Bl m)))) h) (aI (BU (A.toN (A.max (ah 0) (A.min x (A.Bl m)))) 64) (aT [aP (aH 2 n g) (aH 2 n g),aP (aH 8 m h) (aH 8 m h),ak (A.max (ah 0) (A.min x (A.Bl m))) (A.max (ah 0) (A.min x (A.Bl m))),aP (aH 2 n g) (aH 2 n g),aP (aH 8 m h) (aH 8 m h),aK n n,bF (fO g) (fO g),aK (A.toN (A.max (ah 0) (A.min x (A.Bl m)))) (A.toN (A.max (ah 0) (A.min x (A.Bl m)))),bF (fE h) (fE h)] (aC (aO (bU [jv 140 2 n (fO g),jv 71 8 (A.toN (A.max (ah 0) (A.min x (A.Bl m)))) (fE h)]))))))))))))):=by kernel_rfl
end Go.AQ
namespace Go.Cc
open Go Go.Sx
end Go.Cc
namespace Go.AQ
open Go Go.Sx Go.Cc
theorem aw2:∀g F,GZ g=ay F->Bh aB (F9 W5) g F:=fun g F h=>by
 unfold GZ at h;split at h
 ·cases h;exact O10
 ·cases h;exact Ut
 ·cases h;exact O37
 ·cases h
theorem YH(stop:Nat->List Nat->Bool):Cb aB (C5 Aw W5 GZ stop):=yX aw2 fun g h=>by
 unfold GZ at h;split at h;all_goals first|(cases h;done) |kernel_rfl
theorem Tn{H:Mem}{n m:Nat}{g h:Nat->List Sh}{v:Value}(hv:Rep H (.agg [.sl 2 n g,.sl 8 m h]) v)(hg:okB Oj n g=aF)(hk:okB Ev m h=aF):Rep H (.agg [.sl 2 n (Az (AB (α:=Oj) g)),.sl 8 m (Az (AB (α:=Ev) h))]) v:=by
 cases hv with
 |agg _ vs h1 h2=>
  refine .agg _ vs h1 fun j s v' e1 e2=>?_
  match j,e1 with
  |0,e1=>simp at e1;subst e1;exact EK (h2 0 _ v' rfl e2) hg |1,e1=>simp at e1;subst e1;exact EK (h2 1 _ v' rfl e2) hk |j+2,e1=>simp at e1
end Go.AQ
namespace Go.Cc
open Go Go.Sx
def upN(x:Int)(m:Nat):Nat:=(max 0 (min x (m:Int))).toNat
theorem ahV(x:Int)(m:Nat):Aw.toN (Aw.max (ah 0) (Aw.min x (Aw.Bl m)))=upN x m:=by
 unfold upN;rw[Na,ael,Dn,Bg];congr 1;simp only[fQ];split<;>split<;>omega
theorem acu(x:Int)(m:Nat):Aw.upTo (Aw.max (ah 0) (Aw.min x (Aw.Bl m))) m=aF:=by
 rw[Na,ael,II,Bg];simp only[fQ];split<;>split<;>simp<;>omega
end Go.Cc
namespace Go.AQ
open Go Go.Sx Go.Cc
def F13:List Sh->Tree Sh
 |[.agg [.sl 2 n g,.sl 8 m h],.i .i64 x]=>.need (BU n 16) (.need (BU (upN x m) 64) (.leaf (.agg [.os 140 2 n g,.os 71 8 (upN x m) h]))) |_=>.fail
theorem O13:Bh aB (F9 W5) 21 F13:=by
 refine Io (C:=C5 Aw W5 GZ Bc) (ku _ _) (YH _) (n:=300) (L:=L0) (fn:=o7) (by kernel_rfl) (by kernel_rfl) fun H w BI args φ hrep h=>?_
 have hn:o7.ntmps=17:=by kernel_rfl
 unfold F13 at h;split at h
 ·rename_i n g m h' x
  obtain ⟨h1,h2,h3⟩:=h;refine ⟨_,hrep,?_⟩;rw[hn,a13 Aw W5 n m g h' x];rw[<-ahV] at h2 h3;exact ⟨acu x m,h1,h2,h3⟩
 ·exact h.elim
def F14:List Sh->Tree Sh
 |[.agg [.sl 2 n g,.sl 8 m h],.i .i64 x]=>.need (okB Oj n g) (.need (okB Ev (upN x m) h) (.need (BU n 16) (.need (BU (upN x m) 64) (.leaf (.agg [.os 140 2 n (fO g),.os 71 8 (upN x m) (fE h)]))))) |_=>.fail
theorem O14:Bh aB (F9 W5) 29 F14:=by
 refine Io (C:=C5 Aw W5 GZ Bc) (ku _ _) (YH _) (n:=300) (L:=L0) (fn:=o9) (by kernel_rfl) (by kernel_rfl) fun H w BI args φ hrep h=>?_
 have hn:o9.ntmps=20:=by kernel_rfl
 unfold F14 at h;split at h
 ·rename_i n g m h' x
  obtain ⟨h1,h2,h3,h4,h5⟩:=h;refine ⟨_,hrep,?_⟩;rw[hn,a14 Aw W5 n m g h' x];rw[<-ahV] at h2 h4 h5;exact ⟨h1,h3,acu x m,h2,h4,acu x m,h1,h3,h2,h4,⟨rfl,rfl,rfl,rfl,rfl,rfl,rfl,rfl,rfl,trivial⟩,h5⟩
 ·exact h.elim
def Dj:Nat->Option (List Sh->Tree Sh)
 |54=>ay F10 |31=>ay F11 |21=>ay F13 |29=>ay F14 |45=>ay F37 |_=>aN
theorem a57(A:Prim)(W:Wd)(c:Int):CV (C5 A W Dj Bc) 300 102 [.code []] (AL 17 [.i .i64 c] L0)=aG (A.eq c (ah 1)) (aC (aO (aZ .i64 (ah 1)))) (aG (A.eq c (ah 2)) (aC (aO (aZ .i64 (ah 1)))) (aG (A.eq c (ah 3)) (aC (aO (aZ .i64 (ah 2)))) (aG (A.eq c (ah 4)) (aC (aO (aZ .i64 (ah 2)))) (aG (A.eq c (ah 5)) (aC (aO (aZ .i64 (ah 3)))) (aG (A.eq c (ah 6)) (aC (aO (aZ .i64 (ah 3)))) (aG (A.eq c (ah 7)) (aC (aO (aZ .i64 (ah 4)))) (aG (A.eq c (ah 8)) (aC (aO (aZ .i64 (ah 4)))) (aG (A.eq c (ah 9)) (aC (aO (aZ .i64 (ah 4)))) (aC (aO (aZ .i64 (ah 0)))))))))))):=by kernel_rfl
theorem aut(A:Prim)(W:Wd)(c:Int):CV (C5 A W Dj Bc) 300 122 [.code []] (AL 16 [.v (.int .i64 1),.i .i64 c] L0)=aG (A.lt (A.sub .i64 (A.max c (ah 0)) (ah 1)) (ah 0)) (aC (aO (dA []))) (aG (A.le (ah 4) (A.sub .i64 (A.max c (ah 0)) (ah 1))) (aC (aO (dA []))) (aI (A.inB (A.sub .i64 (A.max c (ah 0)) (ah 1)) 4) (aG (A.eq (A.sub .i64 (A.max c (ah 0)) (ah 1)) (ah 0)) (aC (aO (dA (W 16 0)))) (aG (A.eq (A.sub .i64 (A.max c (ah 0)) (ah 1)) (ah 1)) (aC (aO (dA (W 16 1)))) (aG (A.eq (A.sub .i64 (A.max c (ah 0)) (ah 1)) (ah 2)) (aC (aO (dA (W 16 2)))) (aG (A.eq (A.sub .i64 (A.max c (ah 0)) (ah 1)) (ah 3)) (aC (aO (dA (W 16 3)))) dJ)))))):=by kernel_rfl
theorem auu(A:Prim)(W:Wd)(c:Int):CV (C5 A W Dj Bc) 300 122 [.code []] (AL 16 [.v (.int .i64 2),.i .i64 c] L0)=aG (A.lt (A.sub .i64 (A.max c (ah 0)) (ah 1)) (ah 0)) (aC (aO (dA []))) (aG (A.le (ah 7) (A.sub .i64 (A.max c (ah 0)) (ah 1))) (aC (aO (dA []))) (aI (A.inB (A.sub .i64 (A.max c (ah 0)) (ah 1)) 7) (aG (A.eq (A.sub .i64 (A.max c (ah 0)) (ah 1)) (ah 0)) (aC (aO (dA (W 17 0)))) (aG (A.eq (A.sub .i64 (A.max c (ah 0)) (ah 1)) (ah 1)) (aC (aO (dA (W 17 1)))) (aG (A.eq (A.sub .i64 (A.max c (ah 0)) (ah 1)) (ah 2)) (aC (aO (dA (W 17 2)))) (aG (A.eq (A.sub .i64 (A.max c (ah 0)) (ah 1)) (ah 3)) (aC (aO (dA (W 17 3)))) (aG (A.eq (A.sub .i64 (A.max c (ah 0)) (ah 1)) (ah 4)) (aC (aO (dA (W 17 4)))) (aG (A.eq (A.sub .i64 (A.max c (ah 0)) (ah 1)) (ah 5)) (aC (aO (dA (W 17 5)))) (aG (A.eq (A.sub .i64 (A.max c (ah 0)) (ah 1)) (ah 6)) (aC (aO (dA (W 17 6)))) dJ))))))))):=by kernel_rfl
theorem auv(A:Prim)(W:Wd)(c:Int):CV (C5 A W Dj Bc) 300 122 [.code []] (AL 16 [.v (.int .i64 3),.i .i64 c] L0)=aG (A.lt (A.sub .i64 (A.max c (ah 0)) (ah 1)) (ah 0)) (aC (aO (dA []))) (aG (A.le (ah 9) (A.sub .i64 (A.max c (ah 0)) (ah 1))) (aC (aO (dA []))) (aI (A.inB (A.sub .i64 (A.max c (ah 0)) (ah 1)) 9) (aG (A.eq (A.sub .i64 (A.max c (ah 0)) (ah 1)) (ah 0)) (aC (aO (dA (W 18 0)))) (aG (A.eq (A.sub .i64 (A.max c (ah 0)) (ah 1)) (ah 1)) (aC (aO (dA (W 18 1)))) (aG (A.eq (A.sub .i64 (A.max c (ah 0)) (ah 1)) (ah 2)) (aC (aO (dA (W 18 2)))) (aG (A.eq (A.sub .i64 (A.max c (ah 0)) (ah 1)) (ah 3)) (aC (aO (dA (W 18 3)))) (aG (A.eq (A.sub .i64 (A.max c (ah 0)) (ah 1)) (ah 4)) (aC (aO (dA (W 18 4)))) (aG (A.eq (A.sub .i64 (A.max c (ah 0)) (ah 1)) (ah 5)) (aC (aO (dA (W 18 5)))) (aG (A.eq (A.sub .i64 (A.max c (ah 0)) (ah 1)) (ah 6)) (aC (aO (dA (W 18 6)))) (aG (A.eq (A.sub .i64 (A.max c (ah 0)) (ah 1)) (ah 7)) (aC (aO (dA (W 18 7)))) (aG (A.eq (A.sub .i64 (A.max c (ah 0)) (ah 1)) (ah 8)) (aC (aO (dA (W 18 8)))) dJ))))))))))):=by kernel_rfl
theorem auw(A:Prim)(W:Wd)(c:Int):CV (C5 A W Dj Bc) 300 122 [.code []] (AL 16 [.v (.int .i64 4),.i .i64 c] L0)=aG (A.lt (A.sub .i64 (A.max c (ah 0)) (ah 1)) (ah 0)) (aC (aO (dA []))) (aG (A.le (ah 3) (A.sub .i64 (A.max c (ah 0)) (ah 1))) (aC (aO (dA []))) (aI (A.inB (A.sub .i64 (A.max c (ah 0)) (ah 1)) 3) (aG (A.eq (A.sub .i64 (A.max c (ah 0)) (ah 1)) (ah 0)) (aC (aO (dA (W 19 0)))) (aG (A.eq (A.sub .i64 (A.max c (ah 0)) (ah 1)) (ah 1)) (aC (aO (dA (W 19 1)))) (aG (A.eq (A.sub .i64 (A.max c (ah 0)) (ah 1)) (ah 2)) (aC (aO (dA (W 19 2)))) dJ))))):=by kernel_rfl
theorem auy(A:Prim)(W:Wd)(c:Int):CV (C5 A W Dj Bc) 300 122 [.code []] (AL 16 [.v (.int .i64 5),.i .i64 c] L0)=aG (A.lt (A.sub .i64 (A.max c (ah 0)) (ah 1)) (ah 0)) (aC (aO (dA []))) (aG (A.le (ah 4) (A.sub .i64 (A.max c (ah 0)) (ah 1))) (aC (aO (dA []))) (aI (A.inB (A.sub .i64 (A.max c (ah 0)) (ah 1)) 4) (aG (A.eq (A.sub .i64 (A.max c (ah 0)) (ah 1)) (ah 0)) (aC (aO (dA (W 20 0)))) (aG (A.eq (A.sub .i64 (A.max c (ah 0)) (ah 1)) (ah 1)) (aC (aO (dA (W 20 1)))) (aG (A.eq (A.sub .i64 (A.max c (ah 0)) (ah 1)) (ah 2)) (aC (aO (dA (W 20 2)))) (aG (A.eq (A.sub .i64 (A.max c (ah 0)) (ah 1)) (ah 3)) (aC (aO (dA (W 20 3)))) dJ)))))):=by kernel_rfl
theorem auz(A:Prim)(W:Wd)(c:Int):CV (C5 A W Dj Bc) 300 122 [.code []] (AL 16 [.v (.int .i64 6),.i .i64 c] L0)=aG (A.lt (A.sub .i64 (A.max c (ah 0)) (ah 1)) (ah 0)) (aC (aO (dA []))) (aG (A.le (ah 4) (A.sub .i64 (A.max c (ah 0)) (ah 1))) (aC (aO (dA []))) (aI (A.inB (A.sub .i64 (A.max c (ah 0)) (ah 1)) 4) (aG (A.eq (A.sub .i64 (A.max c (ah 0)) (ah 1)) (ah 0)) (aC (aO (dA (W 21 0)))) (aG (A.eq (A.sub .i64 (A.max c (ah 0)) (ah 1)) (ah 1)) (aC (aO (dA (W 21 1)))) (aG (A.eq (A.sub .i64 (A.max c (ah 0)) (ah 1)) (ah 2)) (aC (aO (dA (W 21 2)))) (aG (A.eq (A.sub .i64 (A.max c (ah 0)) (ah 1)) (ah 3)) (aC (aO (dA (W 21 3)))) dJ)))))):=by kernel_rfl
end Go.AQ
namespace Go.Cc
open Go Go.Sx
def BH:Sh->Option Int
 | .i .i64 c=>ay c | .v (.int .i64 c)=>ay c |_=>aN
def YI(t:Int):Nat×Nat:=
 bif t==1 then (16,4) else bif t==2 then (17,7) else bif t==3 then (18,9) else bif t==4 then (19,3) else bif t==5 then (20,4) else (21,4)
def idx(c:Int):Int:=aW.wrap ((if (0:Int)>c then 0 else c) - 1)
def YJ(m:Nat)(c:Int):Bool:=decide (0<=idx c/\idx c<(m:Int))
def Du(g m:Nat)(c:Int):List UInt8:=bif YJ m c then jO g (idx c).toNat else []
def D6(c:Int):Int:=
 bif c==1 then 1 else bif c==2 then 1 else bif c==3 then 2 else bif c==4 then 2 else bif c==5 then 3 else bif c==6 then 3 else bif c==7 then 4 else bif c==8 then 4 else bif c==9 then 4 else 0
theorem EH{H:Mem}{s:Sh}{c:Int}{v:Value}(h:BH s=ay c)(r:Rep H s v):Rep H (.i .i64 c) v:=by
 unfold BH at h;split at h
 ·cases h;exact r
 ·cases h;cases r;exact .i _ _
 ·cases h
theorem Vo{H:Mem}{s:Sh}{c:Int}{v:Value}(h:BH s=ay c)(r:Rep H s v):Rep H (.v (.int .i64 c)) v:=by
 have:=EH h r;cases this;exact .v _ rfl
end Go.Cc
namespace Go.AQ
open Go Go.Sx Go.Cc
theorem aw3:∀g F,Dj g=ay F->Bh aB (F9 W5) g F:=fun g F h=>by
 unfold Dj at h;split at h
 ·cases h;exact O10
 ·cases h;exact Ut
 ·cases h;exact O13
 ·cases h;exact O14
 ·cases h;exact O37
 ·cases h
theorem apq(stop:Nat->List Nat->Bool):Cb aB (C5 Aw W5 Dj stop):=yX aw3 fun g h=>by
 unfold Dj at h;split at h;all_goals first|(cases h;done) |kernel_rfl
theorem J7{ψ:Int->Prop}{b:Bool}{x y:Int}(h:ψ (bif b then x else y)):(b=aF->ψ x)/\(b=aA->ψ y):=by
 cases b
 ·exact ⟨fun q=>(by cases q),fun _=>h⟩
 ·exact ⟨fun _=>h,fun q=>by cases q⟩
def F57:List Sh->Tree Sh
 |[s]=>match BH s with
  |some c=>.leaf (.i .i64 (D6 c)) |none=>.fail
 |_=>.fail
theorem O57:Bh aB (F9 W5) 102 F57:=by
 refine Io (C:=C5 Aw W5 Dj Bc) (ku _ _) (apq _) (n:=300) (L:=L0) (fn:=nV) (by kernel_rfl) (by kernel_rfl) fun H w BI args φ hrep h=>?_
 have hn:nV.ntmps=17:=by kernel_rfl
 unfold F57 at h;split at h
 ·rename_i s
  split at h
  ·rename_i c hc
   match args,hrep with
   |[v],⟨hv,_⟩=>
    refine ⟨[.i .i64 c],⟨EH hc hv,trivial⟩,?_⟩;rw[hn,a57 Aw W5 c];have h:φ (.i .i64 (D6 c)):=h;exact let h1:=J7 (ψ:=fun d=>φ (.i .i64 d)) h;⟨h1.1,fun q=>let h1:=J7 (ψ:=fun d=>φ (.i .i64 d)) (h1.2 q);⟨h1.1,fun q=>let h1:=J7 (ψ:=fun d=>φ (.i .i64 d)) (h1.2 q);⟨h1.1,fun q=>let h1:=J7 (ψ:=fun d=>φ (.i .i64 d)) (h1.2 q);⟨h1.1,fun q=>let h1:=J7 (ψ:=fun d=>φ (.i .i64 d)) (h1.2 q);⟨h1.1,fun q=>let h1:=J7 (ψ:=fun d=>φ (.i .i64 d)) (h1.2 q);⟨h1.1,fun q=>let h1:=J7 (ψ:=fun d=>φ (.i .i64 d)) (h1.2 q);⟨h1.1,fun q=>let h1:=J7 (ψ:=fun d=>φ (.i .i64 d)) (h1.2 q);⟨h1.1,fun q=>let h1:=J7 (ψ:=fun d=>φ (.i .i64 d)) (h1.2 q);⟨h1.1,fun q=>h1.2 q⟩⟩⟩⟩⟩⟩⟩⟩⟩
  ·exact h.elim
 ·exact h.elim
def F61:List Sh->Tree Sh
 |[s0,s]=>match BH s0 with
  |some t=>match BH s with
   |some c=>.need (decide (1<=t/\t<=6)) (.leaf (.str (Du (YI t).1 (YI t).2 c))) |none=>.fail
  |none=>.fail
 |_=>.fail
theorem Nh{φ:Sh->Prop}{g m:Nat}{c:Int}{T:Prop}(h:φ (.str (Du g m c)))(hT:∀k:Nat,k<m->idx c=(k:Int)->φ (.str (W5 g k))->T):
  (Aw.lt (Aw.sub .i64 (Aw.max c (ah 0)) (ah 1)) (ah 0)=aF->φ (.str []))/\
  (Aw.lt (Aw.sub .i64 (Aw.max c (ah 0)) (ah 1)) (ah 0)=aA->(Aw.le (ah m) (Aw.sub .i64 (Aw.max c (ah 0)) (ah 1))=aF->φ (.str []))/\
   (Aw.le (ah m) (Aw.sub .i64 (Aw.max c (ah 0)) (ah 1))=aA->Aw.inB (Aw.sub .i64 (Aw.max c (ah 0)) (ah 1)) m=aF/\T)):=by
 have he:Aw.sub .i64 (Aw.max c (ah 0)) (ah 1)=idx c:=rfl;rw[he,AO,DK,BO];unfold Du at h;simp only[fQ,decide_eq_true_eq,decide_eq_false_iff_not];by_cases hi:YJ m c=aF
 ·rw[hi] at h
  have hi:=of_decide_eq_true hi;refine ⟨fun q=>?_,fun _=>⟨fun q=>?_,fun _=>⟨hi,?_⟩⟩⟩
  ·exact absurd q (by omega)
  ·exact absurd q (by omega)
  ·exact hT (idx c).toNat (by omega) (by omega) h
 ·have hi':YJ m c=aA:=by simpa using hi
  rw[hi'] at h;have hi:=of_decide_eq_false hi';refine ⟨fun _=>h,fun _=>⟨fun _=>h,fun _=>?_⟩⟩;exfalso;apply hi;constructor<;>omega
def Ou(g:Nat)(i:Int):List Nat->Tree Fin
 |[]=>.fail |k::l=>.node (Aw.eq i (ah k)) (.leaf (.ret (.str (W5 g k)))) (Ou g i l)
theorem Js{ψ:Fin->Prop}{g k:Nat}{i:Int}(e:i=(k:Int))(hψ:ψ (.ret (.str (W5 g k)))):∀l,k∈l->(Ou g i l).All ψ
 |[],h=>by cases h |a::l,h=>by
  refine ⟨fun q=>?_,fun q=>?_⟩
  ·rw[Bd,e] at q
   have:k=a:=by have:=eq_of_beq q;simp only[fQ] at this;omega
   rw[<-this];exact hψ
  ·rw[Bd,e] at q
   have:k≠a:=fun e=>by subst e;simp at q
   exact Js e hψ l ((List.mem_cons.1 h).resolve_left this)
@[irreducible] def D7 (ψ:Fin->Prop) (t:Tree Fin):Prop:=t.All ψ
theorem CJ(ψ:Fin->Prop)(t:Tree Fin):t.All ψ=D7 ψ t:=by unfold D7;rfl
theorem auC{H:Mem}{w:World}{φ:Sh->Prop}{c:Int}(h2:φ (.str (Du 16 4 c))):
  D7 (Ci aB (C5 Aw W5 Dj Bc) (K0 H w) dK φ) (CV (C5 Aw W5 Dj Bc) 300 122 [.code []] (AL 16 [.v (.int .i64 1),.i .i64 c] L0)):=by
 rw[aut Aw W5 c,<-CJ];exact Nh (T:=(Ou 16 (idx c) [0,1,2,3]).All (Ci aB (C5 Aw W5 Dj Bc) (K0 H w) dK φ)) h2 fun k hk e hφ=>Js e hφ _ (by simp;omega)
theorem auD{H:Mem}{w:World}{φ:Sh->Prop}{c:Int}(h2:φ (.str (Du 17 7 c))):
  D7 (Ci aB (C5 Aw W5 Dj Bc) (K0 H w) dK φ) (CV (C5 Aw W5 Dj Bc) 300 122 [.code []] (AL 16 [.v (.int .i64 2),.i .i64 c] L0)):=by
 rw[auu Aw W5 c,<-CJ];exact Nh (T:=(Ou 17 (idx c) [0,1,2,3,4,5,6]).All (Ci aB (C5 Aw W5 Dj Bc) (K0 H w) dK φ)) h2 fun k hk e hφ=>Js e hφ _ (by simp;omega)
theorem auE{H:Mem}{w:World}{φ:Sh->Prop}{c:Int}(h2:φ (.str (Du 18 9 c))):
  D7 (Ci aB (C5 Aw W5 Dj Bc) (K0 H w) dK φ) (CV (C5 Aw W5 Dj Bc) 300 122 [.code []] (AL 16 [.v (.int .i64 3),.i .i64 c] L0)):=by
 rw[auv Aw W5 c,<-CJ];exact Nh (T:=(Ou 18 (idx c) [0,1,2,3,4,5,6,7,8]).All (Ci aB (C5 Aw W5 Dj Bc) (K0 H w) dK φ)) h2 fun k hk e hφ=>Js e hφ _ (by simp;omega)
theorem auF{H:Mem}{w:World}{φ:Sh->Prop}{c:Int}(h2:φ (.str (Du 19 3 c))):
  D7 (Ci aB (C5 Aw W5 Dj Bc) (K0 H w) dK φ) (CV (C5 Aw W5 Dj Bc) 300 122 [.code []] (AL 16 [.v (.int .i64 4),.i .i64 c] L0)):=by
 rw[auw Aw W5 c,<-CJ];exact Nh (T:=(Ou 19 (idx c) [0,1,2]).All (Ci aB (C5 Aw W5 Dj Bc) (K0 H w) dK φ)) h2 fun k hk e hφ=>Js e hφ _ (by simp;omega)
theorem auG{H:Mem}{w:World}{φ:Sh->Prop}{c:Int}(h2:φ (.str (Du 20 4 c))):
  D7 (Ci aB (C5 Aw W5 Dj Bc) (K0 H w) dK φ) (CV (C5 Aw W5 Dj Bc) 300 122 [.code []] (AL 16 [.v (.int .i64 5),.i .i64 c] L0)):=by
 rw[auy Aw W5 c,<-CJ];exact Nh (T:=(Ou 20 (idx c) [0,1,2,3]).All (Ci aB (C5 Aw W5 Dj Bc) (K0 H w) dK φ)) h2 fun k hk e hφ=>Js e hφ _ (by simp;omega)
theorem auH{H:Mem}{w:World}{φ:Sh->Prop}{c:Int}(h2:φ (.str (Du 21 4 c))):
  D7 (Ci aB (C5 Aw W5 Dj Bc) (K0 H w) dK φ) (CV (C5 Aw W5 Dj Bc) 300 122 [.code []] (AL 16 [.v (.int .i64 6),.i .i64 c] L0)):=by
 rw[auz Aw W5 c,<-CJ];exact Nh (T:=(Ou 21 (idx c) [0,1,2,3]).All (Ci aB (C5 Aw W5 Dj Bc) (K0 H w) dK φ)) h2 fun k hk e hφ=>Js e hφ _ (by simp;omega)
theorem six{P:Int->Nat->Nat->Prop}(h1:P 1 16 4)(h2:P 2 17 7)(h3:P 3 18 9)(h4:P 4 19 3)(h5:P 5 20 4)(h6:P 6 21 4){t:Int}(ht:decide (1<=t/\t<=6)=aF):P t (YI t).1 (YI t).2:=by
 have ht:=of_decide_eq_true ht;have e:t=1\/t=2\/t=3\/t=4\/t=5\/t=6:=by omega
 rcases e with rfl|rfl|rfl|rfl|rfl|rfl
 ·exact h1
 ·exact h2
 ·exact h3
 ·exact h4
 ·exact h5
 ·exact h6
theorem w61{H:Mem}{w:World}{φ:Sh->Prop}{c t:Int}(ht:decide (1<=t/\t<=6)=aF)(h2:φ (.str (Du (YI t).1 (YI t).2 c))):
  D7 (Ci aB (C5 Aw W5 Dj Bc) (K0 H w) dK φ) (CV (C5 Aw W5 Dj Bc) 300 122 [.code []] (AL 16 [.v (.int .i64 t),.i .i64 c] L0)):=
 six (P:=fun t g m=>φ (.str (Du g m c))->D7 (Ci aB (C5 Aw W5 Dj Bc) (K0 H w) dK φ) (CV (C5 Aw W5 Dj Bc) 300 122 [.code []] (AL 16 [.v (.int .i64 t),.i .i64 c] L0))) auC auD auE auF auG auH ht h2
theorem O61:Bh aB (F9 W5) 122 F61:=by
 refine Io (C:=C5 Aw W5 Dj Bc) (ku _ _) (apq _) (n:=300) (L:=L0) (fn:=dK) (by kernel_rfl) (by kernel_rfl) fun H w BI args φ hrep h=>?_
 have hn:dK.ntmps=16:=by kernel_rfl
 unfold F61 at h;split at h
 ·rename_i s0 s
  split at h
  ·rename_i t ht
   split at h
   ·rename_i c hc
    obtain ⟨h1,h2⟩:=h;match args,hrep with
    |[u,v],⟨hu,hv,_⟩=>
     refine ⟨[.v (.int .i64 t),.i .i64 c],⟨Vo ht hu,EH hc hv,trivial⟩,?_⟩;rw[hn,CJ];exact w61 h1 h2
   ·exact h.elim
  ·exact h.elim
 ·exact h.elim
def Bq:Nat->Option (List Sh->Tree Sh)
 |102=>ay F57 |122=>ay F61 |_=>aN
theorem a54(A:Prim)(W:Wd)(x y:Int):CV (C5 A W Bq Bc) 300 99 [.code []] (AL 36 [.agg [.i .i64 x,.i .i64 y]] L0)=aG (A.eq x (ah 1)) (aI aF (aG (A.seq (Du 16 4 x) []) (aC (aO (bC 7 329))) (aG (A.lt y (fG 999999999)) (aC (aO (bC 7 329))) (aG (A.lt (ah 1000000000) y) (aC (aO (bC 7 329))) (aC (aO (jF bM))))))) (aI aF (aG (A.seq (Du 16 4 x) []) (aC (aO (bC 7 329))) (aG (A.lt y (fG 999999999)) (aC (aO (bC 7 329))) (aG (A.lt (ah 1000000000) y) (aC (aO (bC 7 329))) (aG (A.nt (A.eq x (ah 2))) (aG (A.nt (A.eq y (ah 0))) (aC (aO (bC 7 329))) (aC (aO (jF bM)))) (aC (aO (jF bM)))))))):=by kernel_rfl
theorem a55(A:Prim)(W:Wd)(x:Int)(e:Nat):CV (C5 A W Bq Bc) 300 100 [.code []] (AL 10 [.i .i64 x,.er e 329] L0)=aC (aO (qj 109 (tZ [aZ .i64 x,bC e 329]))):=by kernel_rfl
end Go.AQ
namespace Go.Cc
open Go Go.Sx
def acv(k i:Int):Bool:=YJ 4 k && !decide (i < -1000000000) && !decide (1000000000<i)&&(k==1||k==2||i==0)
theorem PX{g m:Nat}{c:Int}(h:∀k,k<m->jO g k≠[]):Aw.seq (Du g m c) []=!YJ m c:=by
 rw[Yk];unfold Du;cases hi:YJ m c with
 |true=>
  have hi:=of_decide_eq_true hi;have:=h (idx c).toNat (by omega);simpa using this
 |false=>rfl
theorem aw4:∀k,k<4->jO 16 k≠[]:=fun k hk=>by
 obtain rfl|rfl|rfl|rfl:k=0\/k=1\/k=2\/k=3:=by omega
 all_goals simp[jO,rO]
theorem alh:∀k,k<3->jO 19 k≠[]:=fun k hk=>by
 obtain rfl|rfl|rfl:k=0\/k=1\/k=2:=by omega
 all_goals simp[jO,rO]
end Go.Cc
namespace Go.AQ
open Go Go.Sx Go.Cc
theorem aw5:∀g F,Bq g=ay F->Bh aB (F9 W5) g F:=fun g F h=>by
 unfold Bq at h;split at h
 ·cases h;exact O57
 ·cases h;exact O61
 ·cases h
theorem afG(stop:Nat->List Nat->Bool):Cb aB (C5 Aw W5 Bq stop):=yX aw5 fun g h=>by
 unfold Bq at h;split at h;all_goals first|(cases h;done) |kernel_rfl
def F54:List Sh->Tree Sh
 |[.agg [s,s']]=>match BH s with
  |some k=>match BH s' with
   |some i=>.node (acv k i) (.leaf (.v .nilIface)) (.leaf (.er 7 329)) |none=>.fail
  |none=>.fail
 |_=>.fail
theorem Yl{H:Mem}{s s' t t':Sh}{v:Value}(hv:Rep H (.agg [s,s']) v)(h1:∀u,Rep H s u->Rep H t u)(h2:∀u,Rep H s' u->Rep H t' u):Rep H (.agg [t,t']) v:=by
 cases hv with
 |agg _ vs h3 h4=>
  refine .agg _ vs h3 fun j s0 v' e1 e2=>?_
  match j,e1 with
  |0,e1=>simp at e1;subst e1;exact h1 _ (h4 0 _ v' rfl e2) |1,e1=>simp at e1;subst e1;exact h2 _ (h4 1 _ v' rfl e2) |j+2,e1=>simp at e1
theorem aps{φ:Sh->Prop}{x y:Int}(hT:acv x y=aF->φ (.v .nilIface))(hF:acv x y=aA->φ (.er 7 329)){H:Mem}{w:World}:
  D7 (Ci aB (C5 Aw W5 Bq Bc) (K0 H w) kS φ) (CV (C5 Aw W5 Bq Bc) 300 99 [.code []] (AL 36 [.agg [.i .i64 x,.i .i64 y]] L0)):=by
 rw[a54 Aw W5 x y,<-CJ,PX aw4];unfold acv at hT hF;simp only[fM,Ci,Bd,AO,CU];cases h1:YJ 4 x<;>simp[h1] at hT hF ⊢
 ·exact hF
 ·refine ⟨fun e1=>⟨fun e=>hF fun q=>absurd q (by omega),fun e=>⟨fun e'=>hF fun _ q=>absurd q (by omega),fun e'=>hT e e' (.inl (.inl e1))⟩⟩,fun e1=>⟨fun e=>hF fun q=>absurd q (by omega),fun e=>⟨fun e'=>hF fun _ q=>absurd q (by omega),fun e'=>⟨fun e2=>⟨fun e3=>hF fun _ _=>⟨⟨e1,e2⟩,e3⟩,fun e3=>hT e e' (.inr e3)⟩,fun e2=>hT e e' (.inl (.inr e2))⟩⟩⟩⟩
theorem O54:Bh aB (F9 W5) 99 F54:=by
 refine Io (C:=C5 Aw W5 Bq Bc) (ku _ _) (afG _) (n:=300) (L:=L0) (fn:=kS) (by kernel_rfl) (by kernel_rfl) fun H w BI args φ hrep h=>?_
 have hn:kS.ntmps=36:=by kernel_rfl
 unfold F54 at h;split at h
 ·rename_i s s'
  split at h
  ·rename_i k hk
   split at h
   ·rename_i i hi
    obtain ⟨h1,h2⟩:=h;match args,hrep with
    |[u],⟨hu,_⟩=>
     refine ⟨[.agg [.i .i64 k,.i .i64 i]],⟨Yl hu (fun _=>EH hk) (fun _=>EH hi),trivial⟩,?_⟩;rw[hn,CJ];exact aps h1 h2
   ·exact h.elim
  ·exact h.elim
 ·exact h.elim
def il(n:Int):Sh:=.v (.int .i64 n)
def sy(n:Int):Sh:=.i .i64 n
def Jk:Nat->List Nat->Bool:=fun g _=>fC g 101
def dead:Tree Fin->Tree Fin
 | .leaf (.ret s)=>.leaf (.ret s) | .leaf (.stop _ _)=>.fail | .node b t f=>.node b (dead t) (dead f) | .need b t=>.need b (dead t) | .must l t=>.must l (dead t) | .both t f=>.both (dead t) (dead f) | .fail=>.fail
theorem NU{ψ:Fin->Prop}:∀{t:Tree Fin},(dead t).All ψ->t.All ψ
 | .leaf (.ret _),h=>h | .leaf (.stop _ _),h=>h.elim | .node _ _ _,h=>⟨fun q=>NU (h.1 q),fun q=>NU (h.2 q)⟩ | .need _ _,h=>⟨h.1,NU h.2⟩ | .must _ _,h=>⟨h.1,NU h.2⟩ | .both _ _,h=>⟨NU h.1,NU h.2⟩ | .fail,h=>h
theorem auI(A:Prim)(W:Wd)(_k x t o p y v r:Int):CV (C5 A W Bq A8) 3000 101 [.code []] (AL 75 [.agg [il 1,sy x,sy t,sy o,sy p,sy y,sy v,sy r]] L0)=aT [ak x x,ak t t,ak o o,ak p p,ak y y,ak v v,ak r r] (aT [ak x x,ak t t,ak o o,ak p p,ak y y,ak v v,ak r r] (aT [ak x x,ak t t,ak o o,ak p p,ak y y,ak v v,ak r r] (aT [ak x x,ak t t,ak o o,ak p p,ak y y,ak v v,ak r r] (aG (A.lt x (ah 1)) (aC (aO (bC 15 329))) (aG (A.lt (ah 1000) x) (aC (aO (bC 15 329))) (aG (A.lt t (ah 0)) (aC (aO (bC 15 329))) (aG (A.lt (ah 7) t) (aC (aO (bC 15 329))) (aG (A.nt (A.ite (A.eq (ah 0) (ah 0)) (A.ite (A.eq (ah 0) (ah 0)) (A.ite (A.eq (ah 0) (ah 0)) (A.ite (A.eq o (ah 0)) (A.ite (A.eq p (ah 0)) (A.ite (A.eq y (ah 0)) (A.ite (A.eq v (ah 0)) (A.ite (A.eq r (ah 0)) aF aA) aA) aA) aA) aA) aA) aA) aA)) (aC (aO (bC 15 329))) (aC (aO (jF bM))))))))))):=by kernel_rfl
theorem auJ(A:Prim)(W:Wd)(_k x t o p y v r:Int):CV (C5 A W Bq A8) 3000 101 [.code []] (AL 75 [.agg [il 4,sy x,sy t,sy o,sy p,sy y,sy v,sy r]] L0)=aT [ak x x,ak t t,ak o o,ak p p,ak y y,ak v v,ak r r] (aT [ak x x,ak t t,ak o o,ak p p,ak y y,ak v v,ak r r] (aT [ak x x,ak t t,ak o o,ak p p,ak y y,ak v v,ak r r] (aT [ak x x,ak t t,ak o o,ak p p,ak y y,ak v v,ak r r] (aG (A.lt x (ah 1)) (aC (aO (bC 15 329))) (aG (A.lt (ah 1000) x) (aC (aO (bC 15 329))) (aG (A.nt (A.ite (A.eq (ah 0) (ah 0)) (A.ite (A.eq (ah 0) (ah 0)) (A.ite (A.eq t (ah 0)) (A.ite (A.eq o (ah 0)) (A.ite (A.eq p (ah 0)) (A.ite (A.eq y (ah 0)) (A.ite (A.eq v (ah 0)) (A.ite (A.eq r (ah 0)) aF aA) aA) aA) aA) aA) aA) aA) aA)) (aC (aO (bC 15 329))) (aC (aO (jF bM))))))))):=by kernel_rfl
theorem auK(A:Prim)(W:Wd)(_k x t o p y v r:Int):CV (C5 A W Bq A8) 3000 101 [.code []] (AL 75 [.agg [il 5,sy x,sy t,sy o,sy p,sy y,sy v,sy r]] L0)=aT [ak x x,ak t t,ak o o,ak p p,ak y y,ak v v,ak r r] (aT [ak x x,ak t t,ak o o,ak p p,ak y y,ak v v,ak r r] (aT [ak x x,ak t t,ak o o,ak p p,ak y y,ak v v,ak r r] (aT [ak x x,ak t t,ak o o,ak p p,ak y y,ak v v,ak r r] (aG (A.lt x (ah 1)) (aC (aO (bC 15 329))) (aG (A.lt (ah 1000) x) (aC (aO (bC 15 329))) (aG (A.nt (A.ite (A.eq (ah 0) (ah 0)) (A.ite (A.eq (ah 0) (ah 0)) (A.ite (A.eq t (ah 0)) (A.ite (A.eq o (ah 0)) (A.ite (A.eq p (ah 0)) (A.ite (A.eq y (ah 0)) (A.ite (A.eq v (ah 0)) (A.ite (A.eq r (ah 0)) aF aA) aA) aA) aA) aA) aA) aA) aA)) (aC (aO (bC 15 329))) (aC (aO (jF bM))))))))):=by kernel_rfl
theorem auL(A:Prim)(W:Wd)(_k x t o p y v r:Int):CV (C5 A W Bq A8) 3000 101 [.code []] (AL 75 [.agg [il 6,sy x,sy t,sy o,sy p,sy y,sy v,sy r]] L0)=aT [ak x x,ak t t,ak o o,ak p p,ak y y,ak v v,ak r r] (aT [ak x x,ak t t,ak o o,ak p p,ak y y,ak v v,ak r r] (aT [ak x x,ak t t,ak o o,ak p p,ak y y,ak v v,ak r r] (aT [ak x x,ak t t,ak o o,ak p p,ak y y,ak v v,ak r r] (aG (A.lt x (ah 1)) (aC (aO (bC 15 329))) (aG (A.lt (ah 1000) x) (aC (aO (bC 15 329))) (aG (A.nt (A.ite (A.eq (ah 0) (ah 0)) (A.ite (A.eq (ah 0) (ah 0)) (A.ite (A.eq t (ah 0)) (A.ite (A.eq o (ah 0)) (A.ite (A.eq p (ah 0)) (A.ite (A.eq y (ah 0)) (A.ite (A.eq v (ah 0)) (A.ite (A.eq r (ah 0)) aF aA) aA) aA) aA) aA) aA) aA) aA)) (aC (aO (bC 15 329))) (aC (aO (jF bM))))))))):=by kernel_rfl
theorem auM(A:Prim)(W:Wd)(_k x t o p y v r:Int):CV (C5 A W Bq A8) 3000 101 [.code []] (AL 75 [.agg [il 7,sy x,sy t,sy o,sy p,sy y,sy v,sy r]] L0)=aT [ak x x,ak t t,ak o o,ak p p,ak y y,ak v v,ak r r] (aT [ak x x,ak t t,ak o o,ak p p,ak y y,ak v v,ak r r] (aT [ak x x,ak t t,ak o o,ak p p,ak y y,ak v v,ak r r] (aT [ak x x,ak t t,ak o o,ak p p,ak y y,ak v v,ak r r] (aG (A.lt x (ah 1)) (aC (aO (bC 15 329))) (aG (A.lt (ah 1000) x) (aC (aO (bC 15 329))) (aG (A.nt (A.ite (A.eq (ah 0) (ah 0)) (A.ite (A.eq (ah 0) (ah 0)) (A.ite (A.eq t (ah 0)) (A.ite (A.eq o (ah 0)) (A.ite (A.eq p (ah 0)) (A.ite (A.eq y (ah 0)) (A.ite (A.eq v (ah 0)) (A.ite (A.eq r (ah 0)) aF aA) aA) aA) aA) aA) aA) aA) aA)) (aC (aO (bC 15 329))) (aC (aO (jF bM))))))))):=by kernel_rfl
theorem apt(A:Prim)(W:Wd)(_k x t o _p y v r:Int):CV (C5 A W Bq A8) 3000 101 [.code []] (AL 75 [.agg [il 2,sy x,sy t,sy o,il 1,sy y,sy v,sy r]] L0)=aT [ak x x,ak t t,ak o o,ak y y,ak v v,ak r r] (aT [ak x x,ak t t,ak o o,ak y y,ak v v,ak r r] (aT [ak x x,ak t t,ak o o,ak y y,ak v v,ak r r] (aT [ak x x,ak t t,ak o o,ak y y,ak v v,ak r r] (aG (A.eq (D6 (ah 1)) (ah 0)) (aC (aO (bC 14 329))) (aG (A.lt x (ah 1)) (aC (aO (bC 15 329))) (aG (A.lt (ah 1000) x) (aC (aO (bC 15 329))) (aG (A.lt o (ah 0)) (aC (aO (bC 15 329))) (aG (A.lt (ah 7) o) (aC (aO (bC 15 329))) (aG (A.nt (A.ite (A.eq (ah 0) (ah 0)) (A.ite (A.eq (ah 0) (ah 0)) (A.ite (A.eq t (ah 0)) (A.ite (A.eq (ah 0) (ah 0)) (A.ite (A.eq (ah 0) (ah 0)) (A.ite (A.eq y (ah 0)) (A.ite (A.eq v (ah 0)) (A.ite (A.eq r (ah 0)) aF aA) aA) aA) aA) aA) aA) aA) aA)) (aC (aO (bC 15 329))) (aC (aO (jF bM)))))))))))):=by kernel_rfl
theorem apu(A:Prim)(W:Wd)(_k x t o _p y v r:Int):CV (C5 A W Bq A8) 3000 101 [.code []] (AL 75 [.agg [il 2,sy x,sy t,sy o,il 2,sy y,sy v,sy r]] L0)=aT [ak x x,ak t t,ak o o,ak y y,ak v v,ak r r] (aT [ak x x,ak t t,ak o o,ak y y,ak v v,ak r r] (aT [ak x x,ak t t,ak o o,ak y y,ak v v,ak r r] (aT [ak x x,ak t t,ak o o,ak y y,ak v v,ak r r] (aG (A.eq (D6 (ah 2)) (ah 0)) (aC (aO (bC 14 329))) (aG (A.lt x (ah 1)) (aC (aO (bC 15 329))) (aG (A.lt (ah 1000) x) (aC (aO (bC 15 329))) (aG (A.lt o (ah 0)) (aC (aO (bC 15 329))) (aG (A.lt (ah 7) o) (aC (aO (bC 15 329))) (aG (A.lt v (fG 999999999)) (aC (aO (bC 15 329))) (aG (A.lt (ah 1000000000) v) (aC (aO (bC 15 329))) (aG (A.nt (A.ite (A.eq (ah 0) (ah 0)) (A.ite (A.eq (ah 0) (ah 0)) (A.ite (A.eq t (ah 0)) (A.ite (A.eq (ah 0) (ah 0)) (A.ite (A.eq (ah 0) (ah 0)) (A.ite (A.eq y (ah 0)) (A.ite (A.eq (ah 0) (ah 0)) (A.ite (A.eq r (ah 0)) aF aA) aA) aA) aA) aA) aA) aA) aA)) (aC (aO (bC 15 329))) (aC (aO (jF bM)))))))))))))):=by kernel_rfl
theorem apv(A:Prim)(W:Wd)(_k x t o _p y v r:Int):CV (C5 A W Bq A8) 3000 101 [.code []] (AL 75 [.agg [il 2,sy x,sy t,sy o,il 3,sy y,sy v,sy r]] L0)=aT [ak x x,ak t t,ak o o,ak y y,ak v v,ak r r] (aT [ak x x,ak t t,ak o o,ak y y,ak v v,ak r r] (aT [ak x x,ak t t,ak o o,ak y y,ak v v,ak r r] (aT [ak x x,ak t t,ak o o,ak y y,ak v v,ak r r] (aG (A.eq (D6 (ah 3)) (ah 0)) (aC (aO (bC 14 329))) (aG (A.lt x (ah 1)) (aC (aO (bC 15 329))) (aG (A.lt (ah 1000) x) (aC (aO (bC 15 329))) (aG (A.lt o (ah 0)) (aC (aO (bC 15 329))) (aG (A.lt (ah 7) o) (aC (aO (bC 15 329))) (aG (A.lt v (fG 999999999)) (aC (aO (bC 15 329))) (aG (A.lt (ah 1000000000) v) (aC (aO (bC 15 329))) (aG (A.nt (A.ite (A.eq (ah 0) (ah 0)) (A.ite (A.eq (ah 0) (ah 0)) (A.ite (A.eq t (ah 0)) (A.ite (A.eq (ah 0) (ah 0)) (A.ite (A.eq (ah 0) (ah 0)) (A.ite (A.eq y (ah 0)) (A.ite (A.eq (ah 0) (ah 0)) (A.ite (A.eq r (ah 0)) aF aA) aA) aA) aA) aA) aA) aA) aA)) (aC (aO (bC 15 329))) (aC (aO (jF bM)))))))))))))):=by kernel_rfl
theorem apw(A:Prim)(W:Wd)(_k x t o _p y v r:Int):CV (C5 A W Bq A8) 3000 101 [.code []] (AL 75 [.agg [il 2,sy x,sy t,sy o,il 4,sy y,sy v,sy r]] L0)=aT [ak x x,ak t t,ak o o,ak y y,ak v v,ak r r] (aT [ak x x,ak t t,ak o o,ak y y,ak v v,ak r r] (aT [ak x x,ak t t,ak o o,ak y y,ak v v,ak r r] (aT [ak x x,ak t t,ak o o,ak y y,ak v v,ak r r] (aG (A.eq (D6 (ah 4)) (ah 0)) (aC (aO (bC 14 329))) (aG (A.lt x (ah 1)) (aC (aO (bC 15 329))) (aG (A.lt (ah 1000) x) (aC (aO (bC 15 329))) (aG (A.lt o (ah 0)) (aC (aO (bC 15 329))) (aG (A.lt (ah 7) o) (aC (aO (bC 15 329))) (aG (A.nt (A.ite (A.eq (ah 0) (ah 0)) (A.ite (A.eq (ah 0) (ah 0)) (A.ite (A.eq t (ah 0)) (A.ite (A.eq (ah 0) (ah 0)) (A.ite (A.eq (ah 0) (ah 0)) (A.ite (A.eq y (ah 0)) (A.ite (A.eq v (ah 0)) (A.ite (A.eq r (ah 0)) aF aA) aA) aA) aA) aA) aA) aA) aA)) (aC (aO (bC 15 329))) (aC (aO (jF bM)))))))))))):=by kernel_rfl
theorem apx(A:Prim)(W:Wd)(_k x t o _p y v r:Int):CV (C5 A W Bq A8) 3000 101 [.code []] (AL 75 [.agg [il 2,sy x,sy t,sy o,il 5,sy y,sy v,sy r]] L0)=aT [ak x x,ak t t,ak o o,ak y y,ak v v,ak r r] (aT [ak x x,ak t t,ak o o,ak y y,ak v v,ak r r] (aT [ak x x,ak t t,ak o o,ak y y,ak v v,ak r r] (aT [ak x x,ak t t,ak o o,ak y y,ak v v,ak r r] (aG (A.eq (D6 (ah 5)) (ah 0)) (aC (aO (bC 14 329))) (aG (A.lt x (ah 1)) (aC (aO (bC 15 329))) (aG (A.lt (ah 1000) x) (aC (aO (bC 15 329))) (aG (A.lt o (ah 0)) (aC (aO (bC 15 329))) (aG (A.lt (ah 7) o) (aC (aO (bC 15 329))) (aG (A.lt v (fG 999999999)) (aC (aO (bC 15 329))) (aG (A.lt (ah 1000000000) v) (aC (aO (bC 15 329))) (aG (A.nt (A.ite (A.eq (ah 0) (ah 0)) (A.ite (A.eq (ah 0) (ah 0)) (A.ite (A.eq t (ah 0)) (A.ite (A.eq (ah 0) (ah 0)) (A.ite (A.eq (ah 0) (ah 0)) (A.ite (A.eq y (ah 0)) (A.ite (A.eq (ah 0) (ah 0)) (A.ite (A.eq r (ah 0)) aF aA) aA) aA) aA) aA) aA) aA) aA)) (aC (aO (bC 15 329))) (aC (aO (jF bM)))))))))))))):=by kernel_rfl
theorem apy(A:Prim)(W:Wd)(_k x t o _p y v r:Int):CV (C5 A W Bq A8) 3000 101 [.code []] (AL 75 [.agg [il 2,sy x,sy t,sy o,il 6,sy y,sy v,sy r]] L0)=aT [ak x x,ak t t,ak o o,ak y y,ak v v,ak r r] (aT [ak x x,ak t t,ak o o,ak y y,ak v v,ak r r] (aT [ak x x,ak t t,ak o o,ak y y,ak v v,ak r r] (aT [ak x x,ak t t,ak o o,ak y y,ak v v,ak r r] (aG (A.eq (D6 (ah 6)) (ah 0)) (aC (aO (bC 14 329))) (aG (A.lt x (ah 1)) (aC (aO (bC 15 329))) (aG (A.lt (ah 1000) x) (aC (aO (bC 15 329))) (aG (A.lt o (ah 0)) (aC (aO (bC 15 329))) (aG (A.lt (ah 7) o) (aC (aO (bC 15 329))) (aG (A.nt (A.ite (A.eq (ah 0) (ah 0)) (A.ite (A.eq (ah 0) (ah 0)) (A.ite (A.eq t (ah 0)) (A.ite (A.eq (ah 0) (ah 0)) (A.ite (A.eq (ah 0) (ah 0)) (A.ite (A.eq y (ah 0)) (A.ite (A.eq v (ah 0)) (A.ite (A.eq r (ah 0)) aF aA) aA) aA) aA) aA) aA) aA) aA)) (aC (aO (bC 15 329))) (aC (aO (jF bM)))))))))))):=by kernel_rfl
theorem apz(A:Prim)(W:Wd)(_k x t o _p y v r:Int):CV (C5 A W Bq A8) 3000 101 [.code []] (AL 75 [.agg [il 2,sy x,sy t,sy o,il 7,sy y,sy v,sy r]] L0)=aT [ak x x,ak t t,ak o o,ak y y,ak v v,ak r r] (aT [ak x x,ak t t,ak o o,ak y y,ak v v,ak r r] (aT [ak x x,ak t t,ak o o,ak y y,ak v v,ak r r] (aT [ak x x,ak t t,ak o o,ak y y,ak v v,ak r r] (aG (A.eq (D6 (ah 7)) (ah 0)) (aC (aO (bC 14 329))) (aG (A.lt x (ah 1)) (aC (aO (bC 15 329))) (aG (A.lt (ah 1000) x) (aC (aO (bC 15 329))) (aG (A.lt o (ah 0)) (aC (aO (bC 15 329))) (aG (A.lt (ah 7) o) (aC (aO (bC 15 329))) (aG (A.lt y (ah 0)) (aC (aO (bC 15 329))) (aG (A.lt (ah 1000) y) (aC (aO (bC 15 329))) (aG (A.lt v (fG 999999999)) (aC (aO (bC 15 329))) (aG (A.lt (ah 1000000000) v) (aC (aO (bC 15 329))) (aG (A.nt (A.ite (A.eq (ah 0) (ah 0)) (A.ite (A.eq (ah 0) (ah 0)) (A.ite (A.eq t (ah 0)) (A.ite (A.eq (ah 0) (ah 0)) (A.ite (A.eq (ah 0) (ah 0)) (A.ite (A.eq (ah 0) (ah 0)) (A.ite (A.eq (ah 0) (ah 0)) (A.ite (A.eq r (ah 0)) aF aA) aA) aA) aA) aA) aA) aA) aA)) (aC (aO (bC 15 329))) (aC (aO (jF bM)))))))))))))))):=by kernel_rfl
theorem apA(A:Prim)(W:Wd)(_k x t o _p y v r:Int):CV (C5 A W Bq A8) 3000 101 [.code []] (AL 75 [.agg [il 2,sy x,sy t,sy o,il 8,sy y,sy v,sy r]] L0)=aT [ak x x,ak t t,ak o o,ak y y,ak v v,ak r r] (aT [ak x x,ak t t,ak o o,ak y y,ak v v,ak r r] (aT [ak x x,ak t t,ak o o,ak y y,ak v v,ak r r] (aT [ak x x,ak t t,ak o o,ak y y,ak v v,ak r r] (aG (A.eq (D6 (ah 8)) (ah 0)) (aC (aO (bC 14 329))) (aG (A.lt x (ah 1)) (aC (aO (bC 15 329))) (aG (A.lt (ah 1000) x) (aC (aO (bC 15 329))) (aG (A.lt o (ah 0)) (aC (aO (bC 15 329))) (aG (A.lt (ah 7) o) (aC (aO (bC 15 329))) (aG (A.lt y (ah 0)) (aC (aO (bC 15 329))) (aG (A.lt (ah 1000) y) (aC (aO (bC 15 329))) (aG (A.nt (A.ite (A.eq (ah 0) (ah 0)) (A.ite (A.eq (ah 0) (ah 0)) (A.ite (A.eq t (ah 0)) (A.ite (A.eq (ah 0) (ah 0)) (A.ite (A.eq (ah 0) (ah 0)) (A.ite (A.eq (ah 0) (ah 0)) (A.ite (A.eq v (ah 0)) (A.ite (A.eq r (ah 0)) aF aA) aA) aA) aA) aA) aA) aA) aA)) (aC (aO (bC 15 329))) (aC (aO (jF bM)))))))))))))):=by kernel_rfl
theorem apB(A:Prim)(W:Wd)(_k x t o _p y v r:Int):CV (C5 A W Bq A8) 3000 101 [.code []] (AL 75 [.agg [il 2,sy x,sy t,sy o,il 9,sy y,sy v,sy r]] L0)=aT [ak x x,ak t t,ak o o,ak y y,ak v v,ak r r] (aT [ak x x,ak t t,ak o o,ak y y,ak v v,ak r r] (aT [ak x x,ak t t,ak o o,ak y y,ak v v,ak r r] (aT [ak x x,ak t t,ak o o,ak y y,ak v v,ak r r] (aG (A.eq (D6 (ah 9)) (ah 0)) (aC (aO (bC 14 329))) (aG (A.lt x (ah 1)) (aC (aO (bC 15 329))) (aG (A.lt (ah 1000) x) (aC (aO (bC 15 329))) (aG (A.lt o (ah 0)) (aC (aO (bC 15 329))) (aG (A.lt (ah 7) o) (aC (aO (bC 15 329))) (aG (A.lt y (ah 0)) (aC (aO (bC 15 329))) (aG (A.lt (ah 1000) y) (aC (aO (bC 15 329))) (aG (A.nt (A.ite (A.eq (ah 0) (ah 0)) (A.ite (A.eq (ah 0) (ah 0)) (A.ite (A.eq t (ah 0)) (A.ite (A.eq (ah 0) (ah 0)) (A.ite (A.eq (ah 0) (ah 0)) (A.ite (A.eq (ah 0) (ah 0)) (A.ite (A.eq v (ah 0)) (A.ite (A.eq r (ah 0)) aF aA) aA) aA) aA) aA) aA) aA) aA)) (aC (aO (bC 15 329))) (aC (aO (jF bM)))))))))))))):=by kernel_rfl
theorem apC(A:Prim)(W:Wd)(_k x t o p y v _r:Int):CV (C5 A W Bq A8) 3000 101 [.code []] (AL 75 [.agg [il 3,sy x,sy t,sy o,sy p,sy y,sy v,il 1]] L0)=aT [ak x x,ak t t,ak o o,ak p p,ak y y,ak v v] (aT [ak x x,ak t t,ak o o,ak p p,ak y y,ak v v] (aT [ak x x,ak t t,ak o o,ak p p,ak y y,ak v v] (aT [ak x x,ak t t,ak o o,ak p p,ak y y,ak v v] (aI aF (aG (A.seq (Du 19 3 (ah 1)) []) (aC (aO (bC 14 329))) (aG (A.lt x (ah 1)) (aC (aO (bC 15 329))) (aG (A.lt (ah 1000) x) (aC (aO (bC 15 329))) (aG (A.nt (A.ite (A.eq (ah 0) (ah 0)) (A.ite (A.eq (ah 0) (ah 0)) (A.ite (A.eq t (ah 0)) (A.ite (A.eq o (ah 0)) (A.ite (A.eq p (ah 0)) (A.ite (A.eq y (ah 0)) (A.ite (A.eq v (ah 0)) (A.ite (A.eq (ah 0) (ah 0)) aF aA) aA) aA) aA) aA) aA) aA) aA)) (aC (aO (bC 15 329))) (aC (aO (jF bM))))))))))):=by kernel_rfl
theorem apD(A:Prim)(W:Wd)(_k x t o p y v _r:Int):CV (C5 A W Bq A8) 3000 101 [.code []] (AL 75 [.agg [il 3,sy x,sy t,sy o,sy p,sy y,sy v,il 2]] L0)=aT [ak x x,ak t t,ak o o,ak p p,ak y y,ak v v] (aT [ak x x,ak t t,ak o o,ak p p,ak y y,ak v v] (aT [ak x x,ak t t,ak o o,ak p p,ak y y,ak v v] (aT [ak x x,ak t t,ak o o,ak p p,ak y y,ak v v] (aI aF (aG (A.seq (Du 19 3 (ah 2)) []) (aC (aO (bC 14 329))) (aG (A.lt x (ah 1)) (aC (aO (bC 15 329))) (aG (A.lt (ah 1000) x) (aC (aO (bC 15 329))) (aG (A.nt (A.ite (A.eq (ah 0) (ah 0)) (A.ite (A.eq (ah 0) (ah 0)) (A.ite (A.eq t (ah 0)) (A.ite (A.eq o (ah 0)) (A.ite (A.eq p (ah 0)) (A.ite (A.eq y (ah 0)) (A.ite (A.eq v (ah 0)) (A.ite (A.eq (ah 0) (ah 0)) aF aA) aA) aA) aA) aA) aA) aA) aA)) (aC (aO (bC 15 329))) (aC (aO (jF bM))))))))))):=by kernel_rfl
theorem apE(A:Prim)(W:Wd)(_k x t o p y v _r:Int):CV (C5 A W Bq A8) 3000 101 [.code []] (AL 75 [.agg [il 3,sy x,sy t,sy o,sy p,sy y,sy v,il 3]] L0)=aT [ak x x,ak t t,ak o o,ak p p,ak y y,ak v v] (aT [ak x x,ak t t,ak o o,ak p p,ak y y,ak v v] (aT [ak x x,ak t t,ak o o,ak p p,ak y y,ak v v] (aT [ak x x,ak t t,ak o o,ak p p,ak y y,ak v v] (aI aF (aG (A.seq (Du 19 3 (ah 3)) []) (aC (aO (bC 14 329))) (aG (A.lt x (ah 1)) (aC (aO (bC 15 329))) (aG (A.lt (ah 1000) x) (aC (aO (bC 15 329))) (aG (A.lt v (fG 999999999)) (aC (aO (bC 15 329))) (aG (A.lt (ah 1000000000) v) (aC (aO (bC 15 329))) (aG (A.nt (A.ite (A.eq (ah 0) (ah 0)) (A.ite (A.eq (ah 0) (ah 0)) (A.ite (A.eq t (ah 0)) (A.ite (A.eq o (ah 0)) (A.ite (A.eq p (ah 0)) (A.ite (A.eq y (ah 0)) (A.ite (A.eq (ah 0) (ah 0)) (A.ite (A.eq (ah 0) (ah 0)) aF aA) aA) aA) aA) aA) aA) aA) aA)) (aC (aO (bC 15 329))) (aC (aO (jF bM))))))))))))):=by kernel_rfl
theorem auN(A:Prim)(W:Wd)(k x t o p y v r:Int):dead (CV (C5 A W Bq Jk) 3000 101 [.code []] (AL 75 [.agg [sy k,sy x,sy t,sy o,sy p,sy y,sy v,sy r]] L0))=aT [ak k k,ak x x,ak t t,ak o o,ak p p,ak y y,ak v v,ak r r] (aT [ak k k,ak x x,ak t t,ak o o,ak p p,ak y y,ak v v,ak r r] (aT [ak k k,ak x x,ak t t,ak o o,ak p p,ak y y,ak v v,ak r r] (aT [ak k k,ak x x,ak t t,ak o o,ak p p,ak y y,ak v v,ak r r] (aG (A.eq k (ah 1)) (aG (A.eq k (ah 2)) (aG (A.eq (D6 p) (ah 0)) (aC (aO (bC 14 329))) (aG (A.eq k (ah 3)) (aI aF (aG (A.seq (Du 19 3 r) []) (aC (aO (bC 14 329))) dJ)) dJ)) (aG (A.eq k (ah 3)) (aI aF (aG (A.seq (Du 19 3 r) []) (aC (aO (bC 14 329))) dJ)) dJ)) (aG (A.eq k (ah 4)) (aG (A.eq k (ah 2)) (aG (A.eq (D6 p) (ah 0)) (aC (aO (bC 14 329))) (aG (A.eq k (ah 3)) (aI aF (aG (A.seq (Du 19 3 r) []) (aC (aO (bC 14 329))) dJ)) dJ)) (aG (A.eq k (ah 3)) (aI aF (aG (A.seq (Du 19 3 r) []) (aC (aO (bC 14 329))) dJ)) dJ)) (aG (A.eq k (ah 5)) (aG (A.eq k (ah 2)) (aG (A.eq (D6 p) (ah 0)) (aC (aO (bC 14 329))) (aG (A.eq k (ah 3)) (aI aF (aG (A.seq (Du 19 3 r) []) (aC (aO (bC 14 329))) dJ)) dJ)) (aG (A.eq k (ah 3)) (aI aF (aG (A.seq (Du 19 3 r) []) (aC (aO (bC 14 329))) dJ)) dJ)) (aG (A.eq k (ah 6)) (aG (A.eq k (ah 2)) (aG (A.eq (D6 p) (ah 0)) (aC (aO (bC 14 329))) (aG (A.eq k (ah 3)) (aI aF (aG (A.seq (Du 19 3 r) []) (aC (aO (bC 14 329))) dJ)) dJ)) (aG (A.eq k (ah 3)) (aI aF (aG (A.seq (Du 19 3 r) []) (aC (aO (bC 14 329))) dJ)) dJ)) (aG (A.eq k (ah 7)) (aG (A.eq k (ah 2)) (aG (A.eq (D6 p) (ah 0)) (aC (aO (bC 14 329))) (aG (A.eq k (ah 3)) (aI aF (aG (A.seq (Du 19 3 r) []) (aC (aO (bC 14 329))) dJ)) dJ)) (aG (A.eq k (ah 3)) (aI aF (aG (A.seq (Du 19 3 r) []) (aC (aO (bC 14 329))) dJ)) dJ)) (aG (A.eq k (ah 2)) (aG (A.eq k (ah 2)) (aG (A.eq (D6 p) (ah 0)) (aC (aO (bC 14 329))) (aG (A.eq k (ah 3)) (aI aF (aG (A.seq (Du 19 3 r) []) (aC (aO (bC 14 329))) dJ)) dJ)) (aG (A.eq k (ah 3)) (aI aF (aG (A.seq (Du 19 3 r) []) (aC (aO (bC 14 329))) dJ)) dJ)) (aG (A.eq k (ah 3)) (aG (A.eq k (ah 2)) (aG (A.eq (D6 p) (ah 0)) (aC (aO (bC 14 329))) (aG (A.eq k (ah 3)) (aI aF (aG (A.seq (Du 19 3 r) []) (aC (aO (bC 14 329))) dJ)) dJ)) (aG (A.eq k (ah 3)) (aI aF (aG (A.seq (Du 19 3 r) []) (aC (aO (bC 14 329))) dJ)) dJ)) (aC (aO (bC 14 329))))))))))))):=by kernel_rfl
theorem ase(A:Prim)(W:Wd)(_k x t o p y v r:Int):dead (CV (C5 A W Bq Jk) 3000 101 [.code []] (AL 75 [.agg [il 2,sy x,sy t,sy o,sy p,sy y,sy v,sy r]] L0))=aT [ak x x,ak t t,ak o o,ak p p,ak y y,ak v v,ak r r] (aT [ak x x,ak t t,ak o o,ak p p,ak y y,ak v v,ak r r] (aT [ak x x,ak t t,ak o o,ak p p,ak y y,ak v v,ak r r] (aT [ak x x,ak t t,ak o o,ak p p,ak y y,ak v v,ak r r] (aG (A.eq (D6 p) (ah 0)) (aC (aO (bC 14 329))) dJ)))):=by kernel_rfl
theorem asf(A:Prim)(W:Wd)(_k x t o p y v r:Int):dead (CV (C5 A W Bq Jk) 3000 101 [.code []] (AL 75 [.agg [il 3,sy x,sy t,sy o,sy p,sy y,sy v,sy r]] L0))=aT [ak x x,ak t t,ak o o,ak p p,ak y y,ak v v,ak r r] (aT [ak x x,ak t t,ak o o,ak p p,ak y y,ak v v,ak r r] (aT [ak x x,ak t t,ak o o,ak p p,ak y y,ak v v,ak r r] (aT [ak x x,ak t t,ak o o,ak p p,ak y y,ak v v,ak r r] (aI aF (aG (A.seq (Du 19 3 r) []) (aC (aO (bC 14 329))) dJ))))):=by kernel_rfl
end Go.AQ
namespace Go.Cc
open Go Go.Sx
def Vy(e:Ev):Prop:=(1<=e.kind/\e.kind<=7)/\(e.kind=2->1<=e.op/\e.op<=9)/\(e.kind=3->1<=e.ret/\e.ret<=3)
def AX(e:Ev):Prop:=
 (1<=e.tx/\e.tx<=1000)/\
 ((e.kind=1/\0<=e.thread/\e.thread<=7)\/(e.kind≠1/\e.thread=0))/\
 ((e.kind=2/\0<=e.obj/\e.obj<=7)\/(e.kind≠2/\e.obj=0))/\
 ((e.kind=2/\1<=e.op/\e.op<=9)\/(e.kind≠2/\e.op=0))/\
 ((e.kind=2/\7<=e.op/\0<=e.key/\e.key<=1000)\/(¬(e.kind=2/\7<=e.op)/\e.key=0))/\
 ((((e.kind=2/\(e.op=2\/e.op=3\/e.op=5\/e.op=7))\/(e.kind=3/\e.ret=3))/\-1000000000<=e.val/\e.val<=1000000000)\/(¬((e.kind=2/\(e.op=2\/e.op=3\/e.op=5\/e.op=7))\/(e.kind=3/\e.ret=3))/\e.val=0))/\
 ((e.kind=3/\1<=e.ret/\e.ret<=3)\/(e.kind≠3/\e.ret=0))
instance (e:Ev):Decidable (Vy e):=by unfold Vy;infer_instance
instance (e:Ev):Decidable (AX e):=by unfold AX;infer_instance
end Go.Cc
namespace Go.AQ
open Go Go.Sx Go.Cc
theorem auO{H:Mem}{w:World}{φ:Sh->Prop}{x t o p y v r:Int}(hN:AX ⟨1,x,t,o,p,y,v,r⟩->φ (.v .nilIface))(h9:¬AX ⟨1,x,t,o,p,y,v,r⟩->φ (.er 15 329)):
  D7 (Ci aB (C5 Aw W5 Bq A8) (K0 H w) bQ φ) (CV (C5 Aw W5 Bq A8) 3000 101 [.code []] (AL 75 [.agg [il 1,sy x,sy t,sy o,sy p,sy y,sy v,sy r]] L0)):=by
 rw[auI Aw W5 0 x t o p y v r,<-CJ];simp[fM,Ci,dI,iL,AO,Bd,CU,Ep];repeat' (first|refine bY ?_ ?_|intro _)
 all_goals first|exact h9 (by simp only[AX];omega) |exact hN (by simp[AX]<;>omega) |exact hN (by simp_all [AX])
theorem auP{H:Mem}{w:World}{φ:Sh->Prop}{x t o p y v r:Int}(hN:AX ⟨4,x,t,o,p,y,v,r⟩->φ (.v .nilIface))(h9:¬AX ⟨4,x,t,o,p,y,v,r⟩->φ (.er 15 329)):
  D7 (Ci aB (C5 Aw W5 Bq A8) (K0 H w) bQ φ) (CV (C5 Aw W5 Bq A8) 3000 101 [.code []] (AL 75 [.agg [il 4,sy x,sy t,sy o,sy p,sy y,sy v,sy r]] L0)):=by
 rw[auJ Aw W5 0 x t o p y v r,<-CJ];simp[fM,Ci,dI,iL,AO,Bd,CU,Ep];repeat' (first|refine bY ?_ ?_|intro _)
 all_goals first|exact h9 (by simp only[AX];omega) |exact hN (by simp[AX]<;>omega) |exact hN (by simp_all [AX])
theorem auQ{H:Mem}{w:World}{φ:Sh->Prop}{x t o p y v r:Int}(hN:AX ⟨5,x,t,o,p,y,v,r⟩->φ (.v .nilIface))(h9:¬AX ⟨5,x,t,o,p,y,v,r⟩->φ (.er 15 329)):
  D7 (Ci aB (C5 Aw W5 Bq A8) (K0 H w) bQ φ) (CV (C5 Aw W5 Bq A8) 3000 101 [.code []] (AL 75 [.agg [il 5,sy x,sy t,sy o,sy p,sy y,sy v,sy r]] L0)):=by
 rw[auK Aw W5 0 x t o p y v r,<-CJ];simp[fM,Ci,dI,iL,AO,Bd,CU,Ep];repeat' (first|refine bY ?_ ?_|intro _)
 all_goals first|exact h9 (by simp only[AX];omega) |exact hN (by simp[AX]<;>omega) |exact hN (by simp_all [AX])
theorem auR{H:Mem}{w:World}{φ:Sh->Prop}{x t o p y v r:Int}(hN:AX ⟨6,x,t,o,p,y,v,r⟩->φ (.v .nilIface))(h9:¬AX ⟨6,x,t,o,p,y,v,r⟩->φ (.er 15 329)):
  D7 (Ci aB (C5 Aw W5 Bq A8) (K0 H w) bQ φ) (CV (C5 Aw W5 Bq A8) 3000 101 [.code []] (AL 75 [.agg [il 6,sy x,sy t,sy o,sy p,sy y,sy v,sy r]] L0)):=by
 rw[auL Aw W5 0 x t o p y v r,<-CJ];simp[fM,Ci,dI,iL,AO,Bd,CU,Ep];repeat' (first|refine bY ?_ ?_|intro _)
 all_goals first|exact h9 (by simp only[AX];omega) |exact hN (by simp[AX]<;>omega) |exact hN (by simp_all [AX])
theorem auS{H:Mem}{w:World}{φ:Sh->Prop}{x t o p y v r:Int}(hN:AX ⟨7,x,t,o,p,y,v,r⟩->φ (.v .nilIface))(h9:¬AX ⟨7,x,t,o,p,y,v,r⟩->φ (.er 15 329)):
  D7 (Ci aB (C5 Aw W5 Bq A8) (K0 H w) bQ φ) (CV (C5 Aw W5 Bq A8) 3000 101 [.code []] (AL 75 [.agg [il 7,sy x,sy t,sy o,sy p,sy y,sy v,sy r]] L0)):=by
 rw[auM Aw W5 0 x t o p y v r,<-CJ];simp[fM,Ci,dI,iL,AO,Bd,CU,Ep];repeat' (first|refine bY ?_ ?_|intro _)
 all_goals first|exact h9 (by simp only[AX];omega) |exact hN (by simp[AX]<;>omega) |exact hN (by simp_all [AX])
theorem apF{H:Mem}{w:World}{φ:Sh->Prop}{x t o p y v r:Int}(hN:AX ⟨2,x,t,o,1,y,v,r⟩->φ (.v .nilIface))(h9:¬AX ⟨2,x,t,o,1,y,v,r⟩->φ (.er 15 329)):
  D7 (Ci aB (C5 Aw W5 Bq A8) (K0 H w) bQ φ) (CV (C5 Aw W5 Bq A8) 3000 101 [.code []] (AL 75 [.agg [il 2,sy x,sy t,sy o,il 1,sy y,sy v,sy r]] L0)):=by
 rw[apt Aw W5 0 x t o p y v r,<-CJ];simp[fM,Ci,dI,iL,AO,Bd,CU,Ep,D6];repeat' (first|refine bY ?_ ?_|intro _)
 all_goals first|exact h9 (by simp only[AX];omega) |exact hN (by simp[AX]<;>omega) |exact hN (by simp_all [AX])
theorem apG{H:Mem}{w:World}{φ:Sh->Prop}{x t o p y v r:Int}(hN:AX ⟨2,x,t,o,2,y,v,r⟩->φ (.v .nilIface))(h9:¬AX ⟨2,x,t,o,2,y,v,r⟩->φ (.er 15 329)):
  D7 (Ci aB (C5 Aw W5 Bq A8) (K0 H w) bQ φ) (CV (C5 Aw W5 Bq A8) 3000 101 [.code []] (AL 75 [.agg [il 2,sy x,sy t,sy o,il 2,sy y,sy v,sy r]] L0)):=by
 rw[apu Aw W5 0 x t o p y v r,<-CJ];simp[fM,Ci,dI,iL,AO,Bd,CU,Ep,D6];repeat' (first|refine bY ?_ ?_|intro _)
 all_goals first|exact h9 (by simp only[AX];omega) |exact hN (by simp[AX]<;>omega) |exact hN (by simp_all [AX])
theorem apH{H:Mem}{w:World}{φ:Sh->Prop}{x t o p y v r:Int}(hN:AX ⟨2,x,t,o,3,y,v,r⟩->φ (.v .nilIface))(h9:¬AX ⟨2,x,t,o,3,y,v,r⟩->φ (.er 15 329)):
  D7 (Ci aB (C5 Aw W5 Bq A8) (K0 H w) bQ φ) (CV (C5 Aw W5 Bq A8) 3000 101 [.code []] (AL 75 [.agg [il 2,sy x,sy t,sy o,il 3,sy y,sy v,sy r]] L0)):=by
 rw[apv Aw W5 0 x t o p y v r,<-CJ];simp[fM,Ci,dI,iL,AO,Bd,CU,Ep,D6];repeat' (first|refine bY ?_ ?_|intro _)
 all_goals first|exact h9 (by simp only[AX];omega) |exact hN (by simp[AX]<;>omega) |exact hN (by simp_all [AX])
theorem apI{H:Mem}{w:World}{φ:Sh->Prop}{x t o p y v r:Int}(hN:AX ⟨2,x,t,o,4,y,v,r⟩->φ (.v .nilIface))(h9:¬AX ⟨2,x,t,o,4,y,v,r⟩->φ (.er 15 329)):
  D7 (Ci aB (C5 Aw W5 Bq A8) (K0 H w) bQ φ) (CV (C5 Aw W5 Bq A8) 3000 101 [.code []] (AL 75 [.agg [il 2,sy x,sy t,sy o,il 4,sy y,sy v,sy r]] L0)):=by
 rw[apw Aw W5 0 x t o p y v r,<-CJ];simp[fM,Ci,dI,iL,AO,Bd,CU,Ep,D6];repeat' (first|refine bY ?_ ?_|intro _)
 all_goals first|exact h9 (by simp only[AX];omega) |exact hN (by simp[AX]<;>omega) |exact hN (by simp_all [AX])
theorem apJ{H:Mem}{w:World}{φ:Sh->Prop}{x t o p y v r:Int}(hN:AX ⟨2,x,t,o,5,y,v,r⟩->φ (.v .nilIface))(h9:¬AX ⟨2,x,t,o,5,y,v,r⟩->φ (.er 15 329)):
  D7 (Ci aB (C5 Aw W5 Bq A8) (K0 H w) bQ φ) (CV (C5 Aw W5 Bq A8) 3000 101 [.code []] (AL 75 [.agg [il 2,sy x,sy t,sy o,il 5,sy y,sy v,sy r]] L0)):=by
 rw[apx Aw W5 0 x t o p y v r,<-CJ];simp[fM,Ci,dI,iL,AO,Bd,CU,Ep,D6];repeat' (first|refine bY ?_ ?_|intro _)
 all_goals first|exact h9 (by simp only[AX];omega) |exact hN (by simp[AX]<;>omega) |exact hN (by simp_all [AX])
theorem apK{H:Mem}{w:World}{φ:Sh->Prop}{x t o p y v r:Int}(hN:AX ⟨2,x,t,o,6,y,v,r⟩->φ (.v .nilIface))(h9:¬AX ⟨2,x,t,o,6,y,v,r⟩->φ (.er 15 329)):
  D7 (Ci aB (C5 Aw W5 Bq A8) (K0 H w) bQ φ) (CV (C5 Aw W5 Bq A8) 3000 101 [.code []] (AL 75 [.agg [il 2,sy x,sy t,sy o,il 6,sy y,sy v,sy r]] L0)):=by
 rw[apy Aw W5 0 x t o p y v r,<-CJ];simp[fM,Ci,dI,iL,AO,Bd,CU,Ep,D6];repeat' (first|refine bY ?_ ?_|intro _)
 all_goals first|exact h9 (by simp only[AX];omega) |exact hN (by simp[AX]<;>omega) |exact hN (by simp_all [AX])
theorem apL{H:Mem}{w:World}{φ:Sh->Prop}{x t o p y v r:Int}(hN:AX ⟨2,x,t,o,7,y,v,r⟩->φ (.v .nilIface))(h9:¬AX ⟨2,x,t,o,7,y,v,r⟩->φ (.er 15 329)):
  D7 (Ci aB (C5 Aw W5 Bq A8) (K0 H w) bQ φ) (CV (C5 Aw W5 Bq A8) 3000 101 [.code []] (AL 75 [.agg [il 2,sy x,sy t,sy o,il 7,sy y,sy v,sy r]] L0)):=by
 rw[apz Aw W5 0 x t o p y v r,<-CJ];simp[fM,Ci,dI,iL,AO,Bd,CU,Ep,D6];repeat' (first|refine bY ?_ ?_|intro _)
 all_goals first|exact h9 (by simp only[AX];omega) |exact hN (by simp[AX]<;>omega) |exact hN (by simp_all [AX])
theorem apM{H:Mem}{w:World}{φ:Sh->Prop}{x t o p y v r:Int}(hN:AX ⟨2,x,t,o,8,y,v,r⟩->φ (.v .nilIface))(h9:¬AX ⟨2,x,t,o,8,y,v,r⟩->φ (.er 15 329)):
  D7 (Ci aB (C5 Aw W5 Bq A8) (K0 H w) bQ φ) (CV (C5 Aw W5 Bq A8) 3000 101 [.code []] (AL 75 [.agg [il 2,sy x,sy t,sy o,il 8,sy y,sy v,sy r]] L0)):=by
 rw[apA Aw W5 0 x t o p y v r,<-CJ];simp[fM,Ci,dI,iL,AO,Bd,CU,Ep,D6];repeat' (first|refine bY ?_ ?_|intro _)
 all_goals first|exact h9 (by simp only[AX];omega) |exact hN (by simp[AX]<;>omega) |exact hN (by simp_all [AX])
theorem apN{H:Mem}{w:World}{φ:Sh->Prop}{x t o p y v r:Int}(hN:AX ⟨2,x,t,o,9,y,v,r⟩->φ (.v .nilIface))(h9:¬AX ⟨2,x,t,o,9,y,v,r⟩->φ (.er 15 329)):
  D7 (Ci aB (C5 Aw W5 Bq A8) (K0 H w) bQ φ) (CV (C5 Aw W5 Bq A8) 3000 101 [.code []] (AL 75 [.agg [il 2,sy x,sy t,sy o,il 9,sy y,sy v,sy r]] L0)):=by
 rw[apB Aw W5 0 x t o p y v r,<-CJ];simp[fM,Ci,dI,iL,AO,Bd,CU,Ep,D6];repeat' (first|refine bY ?_ ?_|intro _)
 all_goals first|exact h9 (by simp only[AX];omega) |exact hN (by simp[AX]<;>omega) |exact hN (by simp_all [AX])
theorem apO{H:Mem}{w:World}{φ:Sh->Prop}{x t o p y v r:Int}(hN:AX ⟨3,x,t,o,p,y,v,1⟩->φ (.v .nilIface))(h9:¬AX ⟨3,x,t,o,p,y,v,1⟩->φ (.er 15 329)):
  D7 (Ci aB (C5 Aw W5 Bq A8) (K0 H w) bQ φ) (CV (C5 Aw W5 Bq A8) 3000 101 [.code []] (AL 75 [.agg [il 3,sy x,sy t,sy o,sy p,sy y,sy v,il 1]] L0)):=by
 rw[apC Aw W5 0 x t o p y v r,<-CJ];simp[fM,Ci,dI,iL,AO,Bd,CU,Ep,PX alh,YJ,idx,iV];repeat' (first|refine bY ?_ ?_|intro _)
 all_goals first|exact h9 (by simp only[AX];omega) |exact hN (by simp[AX]<;>omega) |exact hN (by simp_all [AX])
theorem apP{H:Mem}{w:World}{φ:Sh->Prop}{x t o p y v r:Int}(hN:AX ⟨3,x,t,o,p,y,v,2⟩->φ (.v .nilIface))(h9:¬AX ⟨3,x,t,o,p,y,v,2⟩->φ (.er 15 329)):
  D7 (Ci aB (C5 Aw W5 Bq A8) (K0 H w) bQ φ) (CV (C5 Aw W5 Bq A8) 3000 101 [.code []] (AL 75 [.agg [il 3,sy x,sy t,sy o,sy p,sy y,sy v,il 2]] L0)):=by
 rw[apD Aw W5 0 x t o p y v r,<-CJ];simp[fM,Ci,dI,iL,AO,Bd,CU,Ep,PX alh,YJ,idx,iV];repeat' (first|refine bY ?_ ?_|intro _)
 all_goals first|exact h9 (by simp only[AX];omega) |exact hN (by simp[AX]<;>omega) |exact hN (by simp_all [AX])
theorem apQ{H:Mem}{w:World}{φ:Sh->Prop}{x t o p y v r:Int}(hN:AX ⟨3,x,t,o,p,y,v,3⟩->φ (.v .nilIface))(h9:¬AX ⟨3,x,t,o,p,y,v,3⟩->φ (.er 15 329)):
  D7 (Ci aB (C5 Aw W5 Bq A8) (K0 H w) bQ φ) (CV (C5 Aw W5 Bq A8) 3000 101 [.code []] (AL 75 [.agg [il 3,sy x,sy t,sy o,sy p,sy y,sy v,il 3]] L0)):=by
 rw[apE Aw W5 0 x t o p y v r,<-CJ];simp[fM,Ci,dI,iL,AO,Bd,CU,Ep,PX alh,YJ,idx,iV];repeat' (first|refine bY ?_ ?_|intro _)
 all_goals first|exact h9 (by simp only[AX];omega) |exact hN (by simp[AX]<;>omega) |exact hN (by simp_all [AX])
end Go.AQ
namespace Go.Cc
open Go Go.Sx
def O1(e:Ev):Bool:=decide (Vy e)
def fieldsB(e:Ev):Bool:=decide (AX e)
def Dq(n:Int):Bool:=decide (-9223372036854775808<=n/\n<=9223372036854775807)
def acw:List Sh->Option Ev
 |[a,b,c,d,e,f,g,h]=>match BH a with
  |none=>aN |some a=>match BH b with
   |none=>aN |some b=>match BH c with
    |none=>aN |some c=>match BH d with
     |none=>aN |some d=>match BH e with
      |none=>aN |some e=>match BH f with
       |none=>aN |some f=>match BH g with
        |none=>aN |some g=>match BH h with
         |none=>aN |some h=>ay ⟨a,b,c,d,e,f,g,h⟩
 |_=>aN
theorem Df{H:Mem}{l l':List Sh}{v:Value}(hv:Rep H (.agg l) v)(hl:l'.length=l.length)(h:∀(j:Nat) (s s':Sh),l[j]?=ay s->l'[j]?=ay s'->∀u,Rep H s u->Rep H s' u):Rep H (.agg l') v:=by
 cases hv with
 |agg _ vs h3 h4=>
  refine .agg _ vs (by rw[hl];exact h3) fun j s' v' e1 e2=>?_
  have hj:j<l.length:=by
   rw[<-hl];exact (List.getElem?_eq_some_iff.1 e1).1
  exact h j l[j] s' (aS hj) e1 _ (h4 j l[j] v' (aS hj) e2)
theorem ahW{H:Mem}{l:List Sh}{e:Ev}{v:Value}(h:acw l=ay e)(hv:Rep H (.agg l) v):Rep H (.agg (Fb e)) v:=by
 unfold acw at h;repeat' split at h
 all_goals first|cases h;done|skip
 rename_i h1 _ _ h2 _ _ h3 _ _ h4 _ _ h5 _ _ h6 _ _ h7 _ _ h8;cases h;refine Df hv rfl fun j s s' e1 e2 u hu=>?_
 match j,e1,e2 with
 |0,e1,e2=>simp[Fb] at e1 e2;subst e1 e2;exact EH h1 hu |1,e1,e2=>simp[Fb] at e1 e2;subst e1 e2;exact EH h2 hu |2,e1,e2=>simp[Fb] at e1 e2;subst e1 e2;exact EH h3 hu |3,e1,e2=>simp[Fb] at e1 e2;subst e1 e2;exact EH h4 hu |4,e1,e2=>simp[Fb] at e1 e2;subst e1 e2;exact EH h5 hu |5,e1,e2=>simp[Fb] at e1 e2;subst e1 e2;exact EH h6 hu |6,e1,e2=>simp[Fb] at e1 e2;subst e1 e2;exact EH h7 hu |7,e1,e2=>simp[Fb] at e1 e2;subst e1 e2;exact EH h8 hu |j+8,e1,e2=>simp[Fb] at e2
theorem EW{H:Mem}{c:Int}{u:Value}(h:Rep H (.i .i64 c) u):Rep H (.v (.int .i64 c)) u:=by
 cases h;exact .v _ rfl
end Go.Cc
namespace Go.AQ
open Go Go.Sx Go.Cc
def apR:List Sh->Tree Sh
 |[.agg l]=>match acw l with
  |some e=>.need (O1 e) (.node (fieldsB e) (.leaf (.v .nilIface)) (.leaf (.er 15 329))) |none=>.fail
 |_=>.fail
def apS:List Sh->Tree Sh
 |[.agg l]=>match acw l with
  |some e=>.need (Dq e.ret) (.need (!O1 e) (.leaf (.er 14 329))) |none=>.fail
 |_=>.fail
def F56:List Sh->Tree Sh
 |[.agg l]=>match acw l with
  |some e=>.need (Dq e.ret) (.node (O1 e) (.node (fieldsB e) (.leaf (.v .nilIface)) (.leaf (.er 15 329))) (.leaf (.er 14 329))) |none=>.fail
 |_=>.fail
theorem auT{H:Mem}{x t o p y v r:Int}{u:Value}(h:Rep H (.agg (Fb ⟨1,x,t,o,p,y,v,r⟩)) u):Rep H (.agg [il 1,sy x,sy t,sy o,sy p,sy y,sy v,sy r]) u:=by
 refine Df h rfl fun j s s' e1 e2 u hu=>?_
 match j,e1,e2 with
 |0,e1,e2|1,e1,e2|2,e1,e2|3,e1,e2|4,e1,e2|5,e1,e2|6,e1,e2|7,e1,e2=>simp[Fb] at e1 e2;subst e1 e2;first|exact hu|exact EW hu
 |j+8,e1,e2=>simp at e2
theorem auU{H:Mem}{x t o p y v r:Int}{u:Value}(h:Rep H (.agg (Fb ⟨4,x,t,o,p,y,v,r⟩)) u):Rep H (.agg [il 4,sy x,sy t,sy o,sy p,sy y,sy v,sy r]) u:=by
 refine Df h rfl fun j s s' e1 e2 u hu=>?_
 match j,e1,e2 with
 |0,e1,e2|1,e1,e2|2,e1,e2|3,e1,e2|4,e1,e2|5,e1,e2|6,e1,e2|7,e1,e2=>simp[Fb] at e1 e2;subst e1 e2;first|exact hu|exact EW hu
 |j+8,e1,e2=>simp at e2
theorem auV{H:Mem}{x t o p y v r:Int}{u:Value}(h:Rep H (.agg (Fb ⟨5,x,t,o,p,y,v,r⟩)) u):Rep H (.agg [il 5,sy x,sy t,sy o,sy p,sy y,sy v,sy r]) u:=by
 refine Df h rfl fun j s s' e1 e2 u hu=>?_
 match j,e1,e2 with
 |0,e1,e2|1,e1,e2|2,e1,e2|3,e1,e2|4,e1,e2|5,e1,e2|6,e1,e2|7,e1,e2=>simp[Fb] at e1 e2;subst e1 e2;first|exact hu|exact EW hu
 |j+8,e1,e2=>simp at e2
theorem auW{H:Mem}{x t o p y v r:Int}{u:Value}(h:Rep H (.agg (Fb ⟨6,x,t,o,p,y,v,r⟩)) u):Rep H (.agg [il 6,sy x,sy t,sy o,sy p,sy y,sy v,sy r]) u:=by
 refine Df h rfl fun j s s' e1 e2 u hu=>?_
 match j,e1,e2 with
 |0,e1,e2|1,e1,e2|2,e1,e2|3,e1,e2|4,e1,e2|5,e1,e2|6,e1,e2|7,e1,e2=>simp[Fb] at e1 e2;subst e1 e2;first|exact hu|exact EW hu
 |j+8,e1,e2=>simp at e2
theorem auY{H:Mem}{x t o p y v r:Int}{u:Value}(h:Rep H (.agg (Fb ⟨7,x,t,o,p,y,v,r⟩)) u):Rep H (.agg [il 7,sy x,sy t,sy o,sy p,sy y,sy v,sy r]) u:=by
 refine Df h rfl fun j s s' e1 e2 u hu=>?_
 match j,e1,e2 with
 |0,e1,e2|1,e1,e2|2,e1,e2|3,e1,e2|4,e1,e2|5,e1,e2|6,e1,e2|7,e1,e2=>simp[Fb] at e1 e2;subst e1 e2;first|exact hu|exact EW hu
 |j+8,e1,e2=>simp at e2
theorem apT{H:Mem}{x t o p y v r:Int}{u:Value}(h:Rep H (.agg (Fb ⟨2,x,t,o,1,y,v,r⟩)) u):Rep H (.agg [il 2,sy x,sy t,sy o,il 1,sy y,sy v,sy r]) u:=by
 refine Df h rfl fun j s s' e1 e2 u hu=>?_
 match j,e1,e2 with
 |0,e1,e2|1,e1,e2|2,e1,e2|3,e1,e2|4,e1,e2|5,e1,e2|6,e1,e2|7,e1,e2=>simp[Fb] at e1 e2;subst e1 e2;first|exact hu|exact EW hu
 |j+8,e1,e2=>simp at e2
theorem apU{H:Mem}{x t o p y v r:Int}{u:Value}(h:Rep H (.agg (Fb ⟨2,x,t,o,2,y,v,r⟩)) u):Rep H (.agg [il 2,sy x,sy t,sy o,il 2,sy y,sy v,sy r]) u:=by
 refine Df h rfl fun j s s' e1 e2 u hu=>?_
 match j,e1,e2 with
 |0,e1,e2|1,e1,e2|2,e1,e2|3,e1,e2|4,e1,e2|5,e1,e2|6,e1,e2|7,e1,e2=>simp[Fb] at e1 e2;subst e1 e2;first|exact hu|exact EW hu
 |j+8,e1,e2=>simp at e2
theorem apV{H:Mem}{x t o p y v r:Int}{u:Value}(h:Rep H (.agg (Fb ⟨2,x,t,o,3,y,v,r⟩)) u):Rep H (.agg [il 2,sy x,sy t,sy o,il 3,sy y,sy v,sy r]) u:=by
 refine Df h rfl fun j s s' e1 e2 u hu=>?_
 match j,e1,e2 with
 |0,e1,e2|1,e1,e2|2,e1,e2|3,e1,e2|4,e1,e2|5,e1,e2|6,e1,e2|7,e1,e2=>simp[Fb] at e1 e2;subst e1 e2;first|exact hu|exact EW hu
 |j+8,e1,e2=>simp at e2
theorem apW{H:Mem}{x t o p y v r:Int}{u:Value}(h:Rep H (.agg (Fb ⟨2,x,t,o,4,y,v,r⟩)) u):Rep H (.agg [il 2,sy x,sy t,sy o,il 4,sy y,sy v,sy r]) u:=by
 refine Df h rfl fun j s s' e1 e2 u hu=>?_
 match j,e1,e2 with
 |0,e1,e2|1,e1,e2|2,e1,e2|3,e1,e2|4,e1,e2|5,e1,e2|6,e1,e2|7,e1,e2=>simp[Fb] at e1 e2;subst e1 e2;first|exact hu|exact EW hu
 |j+8,e1,e2=>simp at e2
theorem apX{H:Mem}{x t o p y v r:Int}{u:Value}(h:Rep H (.agg (Fb ⟨2,x,t,o,5,y,v,r⟩)) u):Rep H (.agg [il 2,sy x,sy t,sy o,il 5,sy y,sy v,sy r]) u:=by
 refine Df h rfl fun j s s' e1 e2 u hu=>?_
 match j,e1,e2 with
 |0,e1,e2|1,e1,e2|2,e1,e2|3,e1,e2|4,e1,e2|5,e1,e2|6,e1,e2|7,e1,e2=>simp[Fb] at e1 e2;subst e1 e2;first|exact hu|exact EW hu
 |j+8,e1,e2=>simp at e2
theorem apY{H:Mem}{x t o p y v r:Int}{u:Value}(h:Rep H (.agg (Fb ⟨2,x,t,o,6,y,v,r⟩)) u):Rep H (.agg [il 2,sy x,sy t,sy o,il 6,sy y,sy v,sy r]) u:=by
 refine Df h rfl fun j s s' e1 e2 u hu=>?_
 match j,e1,e2 with
 |0,e1,e2|1,e1,e2|2,e1,e2|3,e1,e2|4,e1,e2|5,e1,e2|6,e1,e2|7,e1,e2=>simp[Fb] at e1 e2;subst e1 e2;first|exact hu|exact EW hu
 |j+8,e1,e2=>simp at e2
theorem apZ{H:Mem}{x t o p y v r:Int}{u:Value}(h:Rep H (.agg (Fb ⟨2,x,t,o,7,y,v,r⟩)) u):Rep H (.agg [il 2,sy x,sy t,sy o,il 7,sy y,sy v,sy r]) u:=by
 refine Df h rfl fun j s s' e1 e2 u hu=>?_
 match j,e1,e2 with
 |0,e1,e2|1,e1,e2|2,e1,e2|3,e1,e2|4,e1,e2|5,e1,e2|6,e1,e2|7,e1,e2=>simp[Fb] at e1 e2;subst e1 e2;first|exact hu|exact EW hu
 |j+8,e1,e2=>simp at e2
theorem ap0{H:Mem}{x t o p y v r:Int}{u:Value}(h:Rep H (.agg (Fb ⟨2,x,t,o,8,y,v,r⟩)) u):Rep H (.agg [il 2,sy x,sy t,sy o,il 8,sy y,sy v,sy r]) u:=by
 refine Df h rfl fun j s s' e1 e2 u hu=>?_
 match j,e1,e2 with
 |0,e1,e2|1,e1,e2|2,e1,e2|3,e1,e2|4,e1,e2|5,e1,e2|6,e1,e2|7,e1,e2=>simp[Fb] at e1 e2;subst e1 e2;first|exact hu|exact EW hu
 |j+8,e1,e2=>simp at e2
theorem ap1{H:Mem}{x t o p y v r:Int}{u:Value}(h:Rep H (.agg (Fb ⟨2,x,t,o,9,y,v,r⟩)) u):Rep H (.agg [il 2,sy x,sy t,sy o,il 9,sy y,sy v,sy r]) u:=by
 refine Df h rfl fun j s s' e1 e2 u hu=>?_
 match j,e1,e2 with
 |0,e1,e2|1,e1,e2|2,e1,e2|3,e1,e2|4,e1,e2|5,e1,e2|6,e1,e2|7,e1,e2=>simp[Fb] at e1 e2;subst e1 e2;first|exact hu|exact EW hu
 |j+8,e1,e2=>simp at e2
theorem ap2{H:Mem}{x t o p y v r:Int}{u:Value}(h:Rep H (.agg (Fb ⟨3,x,t,o,p,y,v,1⟩)) u):Rep H (.agg [il 3,sy x,sy t,sy o,sy p,sy y,sy v,il 1]) u:=by
 refine Df h rfl fun j s s' e1 e2 u hu=>?_
 match j,e1,e2 with
 |0,e1,e2|1,e1,e2|2,e1,e2|3,e1,e2|4,e1,e2|5,e1,e2|6,e1,e2|7,e1,e2=>simp[Fb] at e1 e2;subst e1 e2;first|exact hu|exact EW hu
 |j+8,e1,e2=>simp at e2
theorem ap3{H:Mem}{x t o p y v r:Int}{u:Value}(h:Rep H (.agg (Fb ⟨3,x,t,o,p,y,v,2⟩)) u):Rep H (.agg [il 3,sy x,sy t,sy o,sy p,sy y,sy v,il 2]) u:=by
 refine Df h rfl fun j s s' e1 e2 u hu=>?_
 match j,e1,e2 with
 |0,e1,e2|1,e1,e2|2,e1,e2|3,e1,e2|4,e1,e2|5,e1,e2|6,e1,e2|7,e1,e2=>simp[Fb] at e1 e2;subst e1 e2;first|exact hu|exact EW hu
 |j+8,e1,e2=>simp at e2
theorem ap4{H:Mem}{x t o p y v r:Int}{u:Value}(h:Rep H (.agg (Fb ⟨3,x,t,o,p,y,v,3⟩)) u):Rep H (.agg [il 3,sy x,sy t,sy o,sy p,sy y,sy v,il 3]) u:=by
 refine Df h rfl fun j s s' e1 e2 u hu=>?_
 match j,e1,e2 with
 |0,e1,e2|1,e1,e2|2,e1,e2|3,e1,e2|4,e1,e2|5,e1,e2|6,e1,e2|7,e1,e2=>simp[Fb] at e1 e2;subst e1 e2;first|exact hu|exact EW hu
 |j+8,e1,e2=>simp at e2
theorem codes{P:Ev->Prop}{e:Ev}(hc:Vy e)
  (h_1:∀x t o p y v r:Int,P ⟨1,x,t,o,p,y,v,r⟩)
  (h_4:∀x t o p y v r:Int,P ⟨4,x,t,o,p,y,v,r⟩)
  (h_5:∀x t o p y v r:Int,P ⟨5,x,t,o,p,y,v,r⟩)
  (h_6:∀x t o p y v r:Int,P ⟨6,x,t,o,p,y,v,r⟩)
  (h_7:∀x t o p y v r:Int,P ⟨7,x,t,o,p,y,v,r⟩)
  (auZ:∀x t o p y v r:Int,P ⟨2,x,t,o,1,y,v,r⟩)
  (au0:∀x t o p y v r:Int,P ⟨2,x,t,o,2,y,v,r⟩)
  (au1:∀x t o p y v r:Int,P ⟨2,x,t,o,3,y,v,r⟩)
  (au2:∀x t o p y v r:Int,P ⟨2,x,t,o,4,y,v,r⟩)
  (au3:∀x t o p y v r:Int,P ⟨2,x,t,o,5,y,v,r⟩)
  (au4:∀x t o p y v r:Int,P ⟨2,x,t,o,6,y,v,r⟩)
  (au5:∀x t o p y v r:Int,P ⟨2,x,t,o,7,y,v,r⟩)
  (au6:∀x t o p y v r:Int,P ⟨2,x,t,o,8,y,v,r⟩)
  (au7:∀x t o p y v r:Int,P ⟨2,x,t,o,9,y,v,r⟩)
  (au8:∀x t o p y v r:Int,P ⟨3,x,t,o,p,y,v,1⟩)
  (au9:∀x t o p y v r:Int,P ⟨3,x,t,o,p,y,v,2⟩)
  (ava:∀x t o p y v r:Int,P ⟨3,x,t,o,p,y,v,3⟩)
  : P e:=by
 obtain ⟨k,x,t,o,p,y,v,r⟩:=e;obtain ⟨h1,h2,h3⟩:=hc;simp only at h1 h2 h3;have hk:k=1\/k=2\/k=3\/k=4\/k=5\/k=6\/k=7:=by omega
 rcases hk with rfl|rfl|rfl|rfl|rfl|rfl|rfl
 ·exact h_1 x t o p y v r
 ·have h2:=h2 rfl
  have hp:p=1\/p=2\/p=3\/p=4\/p=5\/p=6\/p=7\/p=8\/p=9:=by omega
  rcases hp with rfl|rfl|rfl|rfl|rfl|rfl|rfl|rfl|rfl
  ·exact auZ x t o 0 y v r
  ·exact au0 x t o 0 y v r
  ·exact au1 x t o 0 y v r
  ·exact au2 x t o 0 y v r
  ·exact au3 x t o 0 y v r
  ·exact au4 x t o 0 y v r
  ·exact au5 x t o 0 y v r
  ·exact au6 x t o 0 y v r
  ·exact au7 x t o 0 y v r
 ·have h3:=h3 rfl
  have hr:r=1\/r=2\/r=3:=by omega
  rcases hr with rfl|rfl|rfl
  ·exact au8 x t o p y v 0
  ·exact au9 x t o p y v 0
  ·exact ava x t o p y v 0
 ·exact h_4 x t o p y v r
 ·exact h_5 x t o p y v r
 ·exact h_6 x t o p y v r
 ·exact h_7 x t o p y v r
theorem avb{H:Mem}{w:World}{φ:Sh->Prop}{u:Value}{e:Ev}(hc:Vy e):Rep H (.agg (Fb e)) u->(AX e->φ (.v .nilIface))->(¬AX e->φ (.er 15 329))->
  ∃BI:List Sh,D9 H BI [u]/\D7 (Ci aB (C5 Aw W5 Bq A8) (K0 H w) bQ φ) (CV (C5 Aw W5 Bq A8) 3000 101 [.code []] (AL 75 BI L0)):=by
 refine codes (P:=fun e=>Rep H (.agg (Fb e)) u->(AX e->φ (.v .nilIface))->(¬AX e->φ (.er 15 329))->
  ∃BI:List Sh,D9 H BI [u]/\D7 (Ci aB (C5 Aw W5 Bq A8) (K0 H w) bQ φ) (CV (C5 Aw W5 Bq A8) 3000 101 [.code []] (AL 75 BI L0))) hc ?_ ?_ ?_ ?_ ?_ ?_ ?_ ?_ ?_ ?_ ?_ ?_ ?_ ?_ ?_ ?_ ?_
 ·exact fun x t o p y v r hr hN h9=>⟨[.agg [il 1,sy x,sy t,sy o,sy p,sy y,sy v,sy r]],⟨auT (p:=p) (r:=r) hr,trivial⟩,auO (p:=p) (r:=r) hN h9⟩
 ·exact fun x t o p y v r hr hN h9=>⟨[.agg [il 4,sy x,sy t,sy o,sy p,sy y,sy v,sy r]],⟨auU (p:=p) (r:=r) hr,trivial⟩,auP (p:=p) (r:=r) hN h9⟩
 ·exact fun x t o p y v r hr hN h9=>⟨[.agg [il 5,sy x,sy t,sy o,sy p,sy y,sy v,sy r]],⟨auV (p:=p) (r:=r) hr,trivial⟩,auQ (p:=p) (r:=r) hN h9⟩
 ·exact fun x t o p y v r hr hN h9=>⟨[.agg [il 6,sy x,sy t,sy o,sy p,sy y,sy v,sy r]],⟨auW (p:=p) (r:=r) hr,trivial⟩,auR (p:=p) (r:=r) hN h9⟩
 ·exact fun x t o p y v r hr hN h9=>⟨[.agg [il 7,sy x,sy t,sy o,sy p,sy y,sy v,sy r]],⟨auY (p:=p) (r:=r) hr,trivial⟩,auS (p:=p) (r:=r) hN h9⟩
 ·exact fun x t o p y v r hr hN h9=>⟨[.agg [il 2,sy x,sy t,sy o,il 1,sy y,sy v,sy r]],⟨apT (p:=p) (r:=r) hr,trivial⟩,apF (p:=p) (r:=r) hN h9⟩
 ·exact fun x t o p y v r hr hN h9=>⟨[.agg [il 2,sy x,sy t,sy o,il 2,sy y,sy v,sy r]],⟨apU (p:=p) (r:=r) hr,trivial⟩,apG (p:=p) (r:=r) hN h9⟩
 ·exact fun x t o p y v r hr hN h9=>⟨[.agg [il 2,sy x,sy t,sy o,il 3,sy y,sy v,sy r]],⟨apV (p:=p) (r:=r) hr,trivial⟩,apH (p:=p) (r:=r) hN h9⟩
 ·exact fun x t o p y v r hr hN h9=>⟨[.agg [il 2,sy x,sy t,sy o,il 4,sy y,sy v,sy r]],⟨apW (p:=p) (r:=r) hr,trivial⟩,apI (p:=p) (r:=r) hN h9⟩
 ·exact fun x t o p y v r hr hN h9=>⟨[.agg [il 2,sy x,sy t,sy o,il 5,sy y,sy v,sy r]],⟨apX (p:=p) (r:=r) hr,trivial⟩,apJ (p:=p) (r:=r) hN h9⟩
 ·exact fun x t o p y v r hr hN h9=>⟨[.agg [il 2,sy x,sy t,sy o,il 6,sy y,sy v,sy r]],⟨apY (p:=p) (r:=r) hr,trivial⟩,apK (p:=p) (r:=r) hN h9⟩
 ·exact fun x t o p y v r hr hN h9=>⟨[.agg [il 2,sy x,sy t,sy o,il 7,sy y,sy v,sy r]],⟨apZ (p:=p) (r:=r) hr,trivial⟩,apL (p:=p) (r:=r) hN h9⟩
 ·exact fun x t o p y v r hr hN h9=>⟨[.agg [il 2,sy x,sy t,sy o,il 8,sy y,sy v,sy r]],⟨ap0 (p:=p) (r:=r) hr,trivial⟩,apM (p:=p) (r:=r) hN h9⟩
 ·exact fun x t o p y v r hr hN h9=>⟨[.agg [il 2,sy x,sy t,sy o,il 9,sy y,sy v,sy r]],⟨ap1 (p:=p) (r:=r) hr,trivial⟩,apN (p:=p) (r:=r) hN h9⟩
 ·exact fun x t o p y v r hr hN h9=>⟨[.agg [il 3,sy x,sy t,sy o,sy p,sy y,sy v,il 1]],⟨ap2 (p:=p) (r:=r) hr,trivial⟩,apO (p:=p) (r:=r) hN h9⟩
 ·exact fun x t o p y v r hr hN h9=>⟨[.agg [il 3,sy x,sy t,sy o,sy p,sy y,sy v,il 2]],⟨ap3 (p:=p) (r:=r) hr,trivial⟩,apP (p:=p) (r:=r) hN h9⟩
 ·exact fun x t o p y v r hr hN h9=>⟨[.agg [il 3,sy x,sy t,sy o,sy p,sy y,sy v,il 3]],⟨ap4 (p:=p) (r:=r) hr,trivial⟩,apQ (p:=p) (r:=r) hN h9⟩
theorem aw6:Bh aB (F9 W5) 101 apR:=by
 refine Io (C:=C5 Aw W5 Bq A8) (ku _ _) (afG _) (n:=3000) (L:=L0) (fn:=bQ) (by kernel_rfl) (by kernel_rfl) fun H w BI args φ hrep h=>?_
 have hn:bQ.ntmps=75:=by kernel_rfl
 unfold apR at h;split at h
 ·rename_i l
  split at h
  ·rename_i e he
   obtain ⟨h1,h2,h3⟩:=h;match args,hrep with
   |[u],⟨hu,_⟩=>
    rw[hn];simp only[CJ];exact avb (of_decide_eq_true h1) (ahW he hu) (fun q=>h2 (decide_eq_true q)) (fun q=>h3 (decide_eq_false q))
  ·exact h.elim
 ·exact h.elim
end Go.AQ
namespace Go.Cc
open Go Go.Sx
theorem asg{p:Int}(h:¬(1<=p/\p<=9)):D6 p=0:=by
 have e:∀i:Int,1<=i->i<=9->(p==i)=aA:=fun i h1 h2=>by
  cases hb:p==i with
  |false=>rfl |true=>have:=eq_of_beq hb;omega
 unfold D6;rw[e 1 (by omega) (by omega),e 2 (by omega) (by omega),e 3 (by omega) (by omega),e 4 (by omega) (by omega),e 5 (by omega) (by omega),e 6 (by omega) (by omega),e 7 (by omega) (by omega),e 8 (by omega) (by omega),e 9 (by omega) (by omega)];rfl
theorem ap5{m:Nat}{c:Int}(h:Dq c=aF)(hm:¬(1<=c/\c<=(m:Int))):YJ m c=aA:=by
 have h:=of_decide_eq_true h;unfold YJ idx;apply decide_eq_false;intro ⟨h1,h2⟩;split at h1
 ·rw[CO (by omega) (by omega)] at h1;omega
 ·rename_i hc
  simp only[hc,if_false] at h2;rw[CO (by omega) (by omega)] at h1 h2;omega
end Go.Cc
namespace Go.AQ
open Go Go.Sx Go.Cc
theorem Tq{ψ:Fin->Prop}{t:Tree Fin}(h:(dead t).All ψ):D7 ψ t:=by
 rw[<-CJ];exact NU h
theorem avc{H:Mem}{w:World}{φ:Sh->Prop}{k x t o p y v r:Int}(hk:¬(1<=k/\k<=7))(h8:φ (.er 14 329)):
  D7 (Ci aB (C5 Aw W5 Bq Jk) (K0 H w) bQ φ) (CV (C5 Aw W5 Bq Jk) 3000 101 [.code []] (AL 75 [.agg [sy k,sy x,sy t,sy o,sy p,sy y,sy v,sy r]] L0)):=by
 apply Tq;rw[auN Aw W5 k x t o p y v r];have n1:k≠1:=by omega
 have n2:k≠2:=by omega
 have n3:k≠3:=by omega
 have n4:k≠4:=by omega
 have n5:k≠5:=by omega
 have n6:k≠6:=by omega
 have n7:k≠7:=by omega
 simp[fM,Ci,dI,iL,Bd,n1,n2,n3,n4,n5,n6,n7,h8]
theorem avd{H:Mem}{w:World}{φ:Sh->Prop}{x t o p y v r:Int}(hp:¬(1<=p/\p<=9))(h8:φ (.er 14 329)):
  D7 (Ci aB (C5 Aw W5 Bq Jk) (K0 H w) bQ φ) (CV (C5 Aw W5 Bq Jk) 3000 101 [.code []] (AL 75 [.agg [il 2,sy x,sy t,sy o,sy p,sy y,sy v,sy r]] L0)):=by
 apply Tq;rw[ase Aw W5 0 x t o p y v r];simp[fM,Ci,dI,iL,Bd,asg hp,h8]
theorem ave{H:Mem}{w:World}{φ:Sh->Prop}{x t o p y v r:Int}(hi:Dq r=aF)(hr:¬(1<=r/\r<=3))(h8:φ (.er 14 329)):
  D7 (Ci aB (C5 Aw W5 Bq Jk) (K0 H w) bQ φ) (CV (C5 Aw W5 Bq Jk) 3000 101 [.code []] (AL 75 [.agg [il 3,sy x,sy t,sy o,sy p,sy y,sy v,sy r]] L0)):=by
 apply Tq;rw[asf Aw W5 0 x t o p y v r,PX alh,ap5 hi (by simpa using hr)];simp[fM,Ci,dI,iL,h8]
theorem ash{H:Mem}{w:World}{φ:Sh->Prop}{u:Value}{e:Ev}(hi:Dq e.ret=aF)(hc:¬Vy e)(hr:Rep H (.agg (Fb e)) u)(h8:φ (.er 14 329)):
  ∃BI:List Sh,D9 H BI [u]/\D7 (Ci aB (C5 Aw W5 Bq Jk) (K0 H w) bQ φ) (CV (C5 Aw W5 Bq Jk) 3000 101 [.code []] (AL 75 BI L0)):=by
 obtain ⟨k,x,t,o,p,y,v,r⟩:=e;by_cases h1:1<=k/\k<=7
 ·by_cases h2:k=2
  ·subst h2
   have:¬(1<=p/\p<=9):=fun h=>hc ⟨h1,fun _=>h,fun q=>by simp at q⟩;refine ⟨[.agg [il 2,sy x,sy t,sy o,sy p,sy y,sy v,sy r]],⟨Df hr rfl fun j s s' e1 e2 u hu=>?_,trivial⟩,avd this h8⟩;match j,e1,e2 with
   |0,e1,e2=>simp[Fb] at e1 e2;subst e1 e2;exact EW hu |j+1,e1,e2=>
    have:s=s':=by
     have:(Fb ⟨2,x,t,o,p,y,v,r⟩)[j+1]?=[il 2,sy x,sy t,sy o,sy p,sy y,sy v,sy r][j+1]?:=by simp[Fb,sy]
     rw[this,e2] at e1;cases e1;rfl
    rw[<-this];exact hu
  ·have h3:k=3:=by
    apply nO;intro h3;exact hc ⟨h1,fun q=>absurd q h2,fun q=>absurd q h3⟩
   subst h3;have:¬(1<=r/\r<=3):=fun h=>hc ⟨h1,fun q=>by simp at q,fun _=>h⟩;refine ⟨[.agg [il 3,sy x,sy t,sy o,sy p,sy y,sy v,sy r]],⟨Df hr rfl fun j s s' e1 e2 u hu=>?_,trivial⟩,ave hi this h8⟩;match j,e1,e2 with
   |0,e1,e2=>simp[Fb] at e1 e2;subst e1 e2;exact EW hu |j+1,e1,e2=>
    have:s=s':=by
     have:(Fb ⟨3,x,t,o,p,y,v,r⟩)[j+1]?=[il 3,sy x,sy t,sy o,sy p,sy y,sy v,sy r][j+1]?:=by simp[Fb,sy]
     rw[this,e2] at e1;cases e1;rfl
    rw[<-this];exact hu
 ·exact ⟨[.agg [sy k,sy x,sy t,sy o,sy p,sy y,sy v,sy r]],⟨hr,trivial⟩,avc h1 h8⟩
theorem aw7:Bh aB (F9 W5) 101 apS:=by
 refine Io (C:=C5 Aw W5 Bq Jk) (ku _ _) (afG _) (n:=3000) (L:=L0) (fn:=bQ) (by kernel_rfl) (by kernel_rfl) fun H w BI args φ hrep h=>?_
 have hn:bQ.ntmps=75:=by kernel_rfl
 unfold apS at h;split at h
 ·rename_i l
  split at h
  ·rename_i e he
   obtain ⟨h1,h2,h3⟩:=h;match args,hrep with
   |[u],⟨hu,_⟩=>
    rw[hn];simp only[CJ];have hc:¬Vy e:=fun q=>by
     have:O1 e=aF:=decide_eq_true q;rw[this] at h2;cases h2
    exact ash h1 hc (ahW he hu) h3
  ·exact h.elim
 ·exact h.elim
theorem O56:Bh aB (F9 W5) 101 F56:=by
 intro H w BI args φ hon hg hr hφ;unfold F56 at hφ;split at hφ
 ·rename_i l
  split at hφ
  ·rename_i e he
   obtain ⟨h1,h2,h3⟩:=hφ;cases hc:O1 e with
   |true=>
    refine aw6 H w _ args φ hon hg hr ?_;simp only[apR,he];exact ⟨hc,h2 hc⟩
   |false=>
    refine aw7 H w _ args φ hon hg hr ?_;simp only[apS,he];exact ⟨h1,by rw[hc];rfl,h3 hc⟩
  ·exact hφ.elim
 ·exact hφ.elim
def F55:List Sh->Tree Sh
 |[s,.er e 329]=>match BH s with
  |some x=>.leaf (.Dv 109 (.pt [.i .i64 x,.er e 329])) |none=>.fail
 |_=>.fail
theorem O55:Bh aB (F9 W5) 100 F55:=by
 refine Io (C:=C5 Aw W5 Bq Bc) (ku _ _) (afG _) (n:=300) (L:=L0) (fn:=oQ) (by kernel_rfl) (by kernel_rfl) fun H w BI args φ hrep h=>?_
 have hn:oQ.ntmps=10:=by kernel_rfl
 unfold F55 at h;split at h
 ·rename_i s e
  split at h
  ·rename_i x hx
   match args,hrep with
   |[u,v],⟨hu,hv,_⟩=>
    refine ⟨[.i .i64 x,.er e 329],⟨EH hx hu,hv,trivial⟩,?_⟩;rw[hn,a55 Aw W5 x e];exact h
  ·exact h.elim
 ·exact h.elim
def J8:Nat->Option (List Sh->Tree Sh)
 |99=>ay F54 |100=>ay F55 |101=>ay F56 |102=>ay F57 |_=>aN
theorem aw8:∀g F,J8 g=ay F->Bh aB (F9 W5) g F:=fun g F h=>by
 unfold J8 at h;split at h
 ·cases h;exact O54
 ·cases h;exact O55
 ·cases h;exact O56
 ·cases h;exact O57
 ·cases h
theorem ajU(stop:Nat->List Nat->Bool):Cb aB (C5 Aw W5 J8 stop):=yX aw8 fun g h=>by
 unfold J8 at h;split at h;all_goals first|(cases h;done) |kernel_rfl
def aep:List It:=[bD [0,1,0,1,1,1],dh 2,bD [1,1,1,1]]
def as5:List It:=[bD [0,0,1,0,1,1,1],bD [0,1,0,1,1,1],dh 2,bD [1,1,1,1]]
def aer(n m:Nat)(o:Nat->Oj)(p:Nat->Ev)(c i:Int):Core:=
 {tm:=[.any,.ptr 0 0,.Ed]++rep [.any] 18++[.sh (.sl 2 n (Az o)),.sym .i64 c,.sym .i64 i]++rep [.any] 54,
  hp:=[(0,.box [.sh (.sl 2 n (Az o)),.sh (.sl 8 m (Az p))] 25)],nx:=1,lim:=L0,tc:=[]}
def Vz(n m:Nat)(o:Nat->Oj)(p:Nat->Ev)(c i:Int):Core:=
 {tm:=[.any,.ptr 0 0,.Ed]++rep [.any] 34++[.sh (.sl 8 m (Az p)),.sym .i64 c,.sym .i64 i]++rep [.any] 38,
  hp:=[(0,.box [.sh (.sl 2 n (Az o)),.sh (.sl 8 m (Az p))] 25)],nx:=1,lim:=L0,tc:=[]}
theorem a51(A:Prim)(W:Wd)(n m:Nat)(o:Nat->Oj)(p:Nat->Ev)(c' i':Int):BA (C5 A W J8 Bc) Ec 300 200 77 [.code []] (AL 78 [.agg [.sl 2 n (Az o),.sl 8 m (Az p)]] L0) [] [⟨77,Jf,aer n m o p c' i',[]⟩]=aG (A.lt (ah 8) (A.Bl n)) (aC (aU (bC 6 329))) (aG (A.lt (ah 400) (A.Bl m)) (aC (aU (bC 6 329))) (aC (bJ 0 [aP (aH 2 n (Az o)) (aH 2 n (Az o)),ak (A.Bl n) c',ak (ah 0) i',aP (aH 2 n (Az o)) (aH 2 n (Az o)),aP (aH 8 m (Az p)) (aH 8 m (Az p))]))):=by kernel_rfl
theorem b51(A:Prim)(W:Wd)(n m:Nat)(o:Nat->Oj)(p:Nat->Ev)(c i i' d' j':Int):BA (C5 A W J8 Bc) Ec 300 200 77 Xj (aer n m o p c i) [] [⟨77,Jf,aer n m o p c i',[]⟩,⟨77,aep,Vz n m o p d' j',[]⟩]=aG (A.lt i c) (aI (A.inB i n) (aG (acv (o (A.toN i)).kind (o (A.toN i)).init) (aC (bJ 0 [aP (aH 2 n (Az o)) (aH 2 n (Az o)),ak c c,ak (A.add .i64 i (ah 1)) i',aP (aH 2 n (Az o)) (aH 2 n (Az o)),aP (aH 8 m (Az p)) (aH 8 m (Az p))])) (aC (aU (qj 109 (tZ [aZ .i64 i,bC 7 329])))))) (aC (bJ 1 [aP (aH 8 m (Az p)) (aH 8 m (Az p)),ak (A.Bl m) d',ak (ah 0) j',aP (aH 2 n (Az o)) (aH 2 n (Az o)),aP (aH 8 m (Az p)) (aH 8 m (Az p))])):=by kernel_rfl
theorem c51(A:Prim)(W:Wd)(n m:Nat)(o:Nat->Oj)(p:Nat->Ev)(c i i':Int):BA (C5 A W J8 Bc) Ec 300 200 77 as5 (Vz n m o p c i) [] [⟨77,aep,Vz n m o p c i',[]⟩]=aG (A.lt i c) (aI (A.inB i m) (aI (Dq ({kind:=(p (A.toN i)).kind,tx:=(p (A.toN i)).tx,thread:=(p (A.toN i)).thread,obj:=(p (A.toN i)).obj,op:=(p (A.toN i)).op,key:=(p (A.toN i)).key,val:=(p (A.toN i)).val,ret:=(p (A.toN i)).ret}:Ev).ret) (aG (O1 {kind:=(p (A.toN i)).kind,tx:=(p (A.toN i)).tx,thread:=(p (A.toN i)).thread,obj:=(p (A.toN i)).obj,op:=(p (A.toN i)).op,key:=(p (A.toN i)).key,val:=(p (A.toN i)).val,ret:=(p (A.toN i)).ret}) (aG (Cc.fieldsB {kind:=(p (A.toN i)).kind,tx:=(p (A.toN i)).tx,thread:=(p (A.toN i)).thread,obj:=(p (A.toN i)).obj,op:=(p (A.toN i)).op,key:=(p (A.toN i)).key,val:=(p (A.toN i)).val,ret:=(p (A.toN i)).ret}) (aG (A.nt (A.eq (p (A.toN i)).kind (ah 2))) (aC (bJ 0 [aP (aH 8 m (Az p)) (aH 8 m (Az p)),ak c c,ak (A.add .i64 i (ah 1)) i',aP (aH 2 n (Az o)) (aH 2 n (Az o)),aP (aH 8 m (Az p)) (aH 8 m (Az p))])) (aG (A.le (A.Bl n) (p (A.toN i)).obj) (aC (aU (qj 109 (tZ [aZ .i64 i,bC 7 329])))) (aI (A.inB (p (A.toN i)).obj n) (aG (A.nt (A.eq (D6 (p (A.toN i)).op) (o (A.toN (p (A.toN i)).obj)).kind)) (aC (aU (qj 109 (tZ [aZ .i64 i,bC 8 329])))) (aC (bJ 0 [aP (aH 8 m (Az p)) (aH 8 m (Az p)),ak c c,ak (A.add .i64 i (ah 1)) i',aP (aH 2 n (Az o)) (aH 2 n (Az o)),aP (aH 8 m (Az p)) (aH 8 m (Az p))])))))) (aC (aU (qj 109 (tZ [aZ .i64 i,bC 15 329]))))) (aC (aU (qj 109 (tZ [aZ .i64 i,bC 14 329]))))))) (aC (aU (jF bM))):=by kernel_rfl
end Go.AQ
namespace Go.Cc
open Go Go.Sx
def KO(n:Nat)(o:Nat->Oj)(e:Ev):Option Nat:=
 bif O1 e then bif fieldsB e then bif e.kind==2 then bif decide ((n:Int)<=e.obj) then ay 7 else bif D6 e.op==(o e.obj.toNat).kind then aN else ay 8 else aN else ay 15 else ay 14
def QV(o:Oj):Option Nat:=bif acv o.kind o.init then aN else ay 7
def Jt(f:Nat->Option Nat):Nat->Nat->Option (Nat×Nat)
 |_,0=>aN |k,m+1=>match f k with
  |some e=>ay (k,e) |none=>Jt f (k+1) m
def resE:Option (Nat×Nat)->Sh
 |none=>.v .nilIface |some (k,e)=>.Dv 109 (.pt [.i .i64 (k:Int),.er e 329])
theorem ZC{e:Ev}(h:fieldsB e=aF)(hk:e.kind=2):0<=e.obj:=by
 have h:=of_decide_eq_true h;unfold AX at h;omega
end Go.Cc
namespace Go.AQ
open Go Go.Sx Go.Cc
theorem ahX{H0:Mem}{w0:World}{n m:Nat}{o:Nat->Oj}{p:Nat->Ev}{φ:Sh->Prop}(hm:m<=400)(hi:∀k,k<m->Dq (p k).ret=aF):
  ∀rm k,k+rm=m->φ (resE (Jt (fun k=>KO n o (p k)) k rm))->BK aB (C5 Aw W5 J8 Bc) (K0 H0 w0) 77 aep (Vz n m o p (m:Int) k) [] emp φ
 |rm,k,hk,hφ=>by
  refine FW (fn:=jq) (tb:=as5) (by kernel_rfl) (by kernel_rfl) ?_;refine Ic (ku _ _) (ajU _) (hold:=Ec) (m:=300) (n:=200) (ts:=[⟨77,aep,Vz n m o p (m:Int) (k+1:Nat),[]⟩]) ?_;rw[c51 Aw W5 n m o p (m:Int) k (k+1:Nat)];simp only[AO,DK,Bg,BO,Dn,Bd,CU,DR,Hz,fM,Jq,fK];have hstep:aW.wrap ((k:Int)+1)=((k+1:Nat):Int)\/m<k:=by
   by_cases h:m<k
   ·exact .inr h
   ·left;rw[CO (by omega) (by omega)];rfl
  refine ⟨fun h=>?_,fun h=>?_⟩
  ·have hlt:k<m:=by simp at h;omega
   have hw:=hstep.resolve_right (by omega);match rm,hk,hφ with
   |0,hk,_=>omega |rm+1,hk,hφ=>
    have next:KO n o (p k)=aN->BK aB (C5 Aw W5 J8 Bc) (K0 H0 w0) 77 aep (Vz n m o p (m:Int) (k+1:Nat)) [] emp φ:=fun hn=>ahX hm hi rm (k+1) (by omega) (by simpa only[Jt,hn] using hφ);have bad:∀e,KO n o (p k)=ay e->φ (.Dv 109 (.pt [.i .i64 (k:Int),.er e 329])):=fun e he=>by
     simpa only[Jt,he,resE] using hφ
    refine ⟨by simp;omega,hi k hlt,fun q1=>⟨fun q2=>⟨fun q3=>?_,fun q3=>⟨fun q4=>?_,fun q4=>⟨?_,fun q5=>?_,fun q5=>?_⟩⟩⟩,fun q2=>?_⟩,fun q1=>?_⟩
    ·refine ⟨⟨rfl,rfl,hw,rfl,rfl,trivial⟩,_,rfl,next ?_⟩
     have k2:((p k).kind==2)=aA:=by simpa using q3
     unfold KO;rw[q1,q2,k2];rfl
    ·have k2:((p k).kind==2)=aF:=by simpa using q3
     apply bad;unfold KO;rw[q1,q2,k2,q4];rfl
    ·have:=ZC q2 (by simpa using q3)
     simp at q4;simp;omega
    ·have k2:((p k).kind==2)=aF:=by simpa using q3
     have k3:(D6 (p k).op==(o (p k).obj.toNat).kind)=aA:=by simpa using q5
     apply bad;unfold KO;rw[q1,q2,k2,q4,k3];rfl
    ·have k2:((p k).kind==2)=aF:=by simpa using q3
     have k3:(D6 (p k).op==(o (p k).obj.toNat).kind)=aF:=by simpa using q5
     refine ⟨⟨rfl,rfl,hw,rfl,rfl,trivial⟩,_,rfl,next ?_⟩;unfold KO;rw[q1,q2,k2,q4,k3];rfl
    ·apply bad;unfold KO;rw[q1,q2];rfl
    ·apply bad;unfold KO;rw[q1];rfl
  ·have:k=m:=by simp at h;omega
   have:rm=0:=by omega
   subst this;exact hφ
end Go.AQ
namespace Go.Cc
open Go Go.Sx
def Xv(n m:Nat)(o:Nat->Oj)(p:Nat->Ev):Option (Nat×Nat):=
 match Jt (fun k=>QV (o k)) 0 n with
 |some x=>ay x |none=>Jt (fun k=>KO n o (p k)) 0 m
def ap6(n m:Nat)(o:Nat->Oj)(p:Nat->Ev)(k:Nat):Nat->Option (Nat×Nat):=fun r=>
 match Jt (fun k=>QV (o k)) k r with
 |some x=>ay x |none=>Jt (fun k=>KO n o (p k)) 0 m
end Go.Cc
namespace Go.AQ
open Go Go.Sx Go.Cc
theorem ali{H0:Mem}{w0:World}{n m:Nat}{o:Nat->Oj}{p:Nat->Ev}{φ:Sh->Prop}(hn:n<=8)(hm:m<=400)(hi:∀k,k<m->Dq (p k).ret=aF):
  ∀rm k,k+rm=n->φ (resE (ap6 n m o p k rm))->BK aB (C5 Aw W5 J8 Bc) (K0 H0 w0) 77 Jf (aer n m o p (n:Int) k) [] emp φ
 |rm,k,hk,hφ=>by
  refine FW (fn:=jq) (tb:=Xj) (by kernel_rfl) (by kernel_rfl) ?_;refine Ic (ku _ _) (ajU _) (hold:=Ec) (m:=300) (n:=200) (ts:=[⟨77,Jf,aer n m o p (n:Int) (k+1:Nat),[]⟩,⟨77,aep,Vz n m o p (m:Int) (0:Nat),[]⟩]) ?_;rw[b51 Aw W5 n m o p (n:Int) k (k+1:Nat) (m:Int) (0:Nat)];simp only[AO,Bg,BO,Dn,DR,Hz,fM,Jq,fK];refine ⟨fun h=>?_,fun h=>?_⟩
  ·have hlt:k<n:=by simp at h;omega
   have hw:aW.wrap ((k:Int)+1)=((k+1:Nat):Int):=by rw[CO (by omega) (by omega)];rfl
   match rm,hk,hφ with
   |0,hk,_=>omega |rm+1,hk,hφ=>
    refine ⟨by simp;omega,fun q=>?_,fun q=>?_⟩
    ·have e:QV (o k)=aN:=by unfold QV;rw[q];rfl
     exact ⟨⟨rfl,rfl,hw,rfl,rfl,trivial⟩,_,rfl,ali hn hm hi rm (k+1) (by omega) (by simpa only[ap6,Jt,e] using hφ)⟩
    ·have e:QV (o k)=ay 7:=by unfold QV;rw[q];rfl
     simpa only[ap6,Jt,e,resE] using hφ
  ·have:k=n:=by simp at h;omega
   have:rm=0:=by omega
   subst this;exact ⟨⟨rfl,rfl,rfl,rfl,rfl,trivial⟩,_,rfl,ahX hm hi m 0 (by omega) hφ⟩
end Go.AQ
namespace Go.Cc
open Go Go.Sx
def QW(m:Nat)(h:Nat->List Sh):Bool:=(List.range m).all fun k=>Dq (AB (α:=Ev) h k).ret
def J9(n m:Nat)(g h:Nat->List Sh):Int:=match Xv n m (AB g) (AB h) with|some (k,_)=>(k:Int) |none=>0
def NV(n m:Nat)(g h:Nat->List Sh):Nat:=match Xv n m (AB g) (AB h) with|some (_,e)=>e|none=>0
def GL(n m:Nat)(g h:Nat->List Sh):Bool:=(Xv n m (AB g) (AB h)).isNone
def IZ(n m:Nat):Bool:=decide (8<n\/400<m)
end Go.Cc
namespace Go.AQ
open Go Go.Sx Go.Cc
def F51:List Sh->Tree Sh
 |[.agg [.sl 2 n g,.sl 8 m h]]=>.need (okB Oj n g) (.need (okB Ev m h) (.need (QW m h) (.node (IZ n m) (.leaf (.er 6 329)) (.node (GL n m g h) (.leaf (.v .nilIface)) (.leaf (.Dv 109 (.pt [.i .i64 (J9 n m g h),.er (NV n m g h) 329]))))))) |_=>.fail
theorem O51:Bh aB (F9 W5) 77 F51:=by
 refine KZ (C:=C5 Aw W5 J8 Bc) (ku _ _) (fn:=jq) (by kernel_rfl) (by kernel_rfl) fun H w BI args φ hrep h=>?_
 have hn:jq.ntmps=78:=by kernel_rfl
 unfold F51 at h;split at h
 ·rename_i n g m h'
  obtain ⟨h1,h2,h3,h4,h5⟩:=h;match args,hrep with
  |[v],⟨hv,_⟩=>
   rw[hn];refine ⟨[.agg [.sl 2 n (Az (AB (α:=Oj) g)),.sl 8 m (Az (AB (α:=Ev) h'))]],⟨Tn hv h1 h2,trivial⟩,L0,?_⟩;refine Ic (ku _ _) (ajU _) (hold:=Ec) (m:=300) (n:=200) (ts:=[⟨77,Jf,aer n m (AB g) (AB h') (n:Int) (0:Nat),[]⟩]) ?_;rw[a51 Aw W5 n m (AB g) (AB h') (n:Int) (0:Nat)];refine ⟨fun q=>h4 ?_,fun q=>⟨fun q'=>h4 ?_,fun q'=>⟨⟨rfl,rfl,rfl,rfl,rfl,trivial⟩,_,rfl,?_⟩⟩⟩
   ·simp[AO,Bg] at q;simp[IZ];omega
   ·simp[AO,Bg] at q';simp[IZ];omega
   ·simp[AO,Bg] at q q'
    have h5:=h5 (by simp[IZ];omega);refine ali (by omega) (by omega) (fun k hk=>?_) n 0 (by omega) ?_
    ·exact List.all_eq_true.1 h3 k (List.mem_range.2 hk)
    ·show φ (resE (Xv n m (AB g) (AB h')))
     obtain ⟨hT,hF⟩:=h5;unfold GL at hT hF;unfold J9 NV at hF;cases hb:Xv n m (AB (α:=Oj) g) (AB (α:=Ev) h') with
     |none=>rw[hb] at hT;exact hT rfl |some x=>rw[hb] at hF;exact hF rfl
 ·exact h.elim
theorem afH{H:Mem}{st st':Nat}{g g':Nat->List Sh}{v:Value}(h:Rep H (.sl st 0 g) v):Rep H (.sl st' 0 g') v:=by
 cases h with
 |sl0 _ _ A cap hc=>exact .sl0 _ _ _ _ hc |sl _ _ _ b off cap c h1 h2=>exact .sl0 _ _ _ _ h2
theorem Ce{H:Mem}{st n:Nat}{s:Sh}{g:Nat->List Sh}{v:Value}(hs:Ej st s=ay (n,g))(h:Rep H s v):Rep H (.sl st n g) v:=by
 rcases alg hs with rfl|⟨g',rfl,rfl,rfl⟩
 ·exact h
 ·exact afH h
theorem ajV{H:Mem}{s0 s1 s0' s1':Sh}{v:Value}(hv:Rep H (.agg [s0,s1]) v)(h0:∀u,Rep H s0 u->Rep H s0' u)(h1:∀u,Rep H s1 u->Rep H s1' u):Rep H (.agg [s0',s1']) v:=by
 cases hv with
 |agg _ vs h2 h3=>
  refine .agg _ vs h2 fun j s v' e1 e2=>?_
  match j,e1 with
  |0,e1=>simp at e1;subst e1;exact h0 _ (h3 0 _ v' rfl e2) |1,e1=>simp at e1;subst e1;exact h1 _ (h3 1 _ v' rfl e2) |j+2,e1=>simp at e1
def ap7:List Sh->Tree Sh
 |[.agg [s0,s1]]=>match Ej 2 s0,Ej 8 s1 with
  |some (n,g),ay (m,h)=>F51 [.agg [.sl 2 n g,.sl 8 m h]] |_,_=>.fail
 |_=>.fail
theorem aw9:Bh aB (F9 W5) 77 ap7:=fun H w BI args φ h1 h2 h3 h4=>by
 unfold ap7 at h4;split at h4
 ·rename_i s0 s1
  split at h4
  ·rename_i n g m h e1 e2
   match args,h3 with
   |[v],⟨hv,_⟩=>exact O51 H w [.agg [.sl 2 n g,.sl 8 m h]] [v] φ h1 h2 ⟨ajV hv (fun u=>Ce e1) (fun u=>Ce e2),trivial⟩ h4
  ·exact h4.elim
 ·exact h4.elim
theorem a67(A:Prim)(W:Wd)(x y:Int):CV (C5 A W noSpec A8) 300 128 [.code []] (AL 36 [.i .i64 x,.i .i64 y] L0)=aG (A.eq x (ah 2)) (aC (aO (gq (A.eq y (ah 1))))) (aG (A.eq x (ah 3)) (aC (aO (gq (A.eq y (ah 1))))) (aG (A.eq x (ah 5)) (aC (aO (gq (A.eq y (ah 1))))) (aG (A.eq x (ah 7)) (aC (aO (gq (A.eq y (ah 1))))) (aG (A.eq x (ah 1)) (aC (aO (gq (A.eq y (ah 3))))) (aG (A.eq x (ah 4)) (aC (aO (gq (A.eq y (ah 3))))) (aG (A.eq x (ah 6)) (aG (A.eq y (ah 2)) (aC (aO (gq aF))) (aC (aO (gq (A.eq y (ah 3)))))) (aG (A.eq x (ah 8)) (aG (A.eq y (ah 2)) (aC (aO (gq aF))) (aC (aO (gq (A.eq y (ah 3)))))) (aG (A.eq x (ah 9)) (aG (A.eq y (ah 2)) (aC (aO (gq aF))) (aC (aO (gq (A.eq y (ah 3)))))) (aC (aO (gq aA))))))))))):=by kernel_rfl
end Go.AQ
