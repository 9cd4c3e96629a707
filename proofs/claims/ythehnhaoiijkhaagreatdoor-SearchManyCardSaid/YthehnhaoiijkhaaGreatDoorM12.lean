/- Own work. -/
import Derived.Test.YthehnhaoiijkhaaGreatDoorM11
open Int (ofNat)
open And renaming intro->bW
open Bool renaming true->aC,false->ak
open Classical renaming byContradiction->nD
open Go.IntKind renaming i64->aT,wrap_i64->iR
open Go.Proofs renaming W7->qX
open Go.Proofs.Tryz renaming prog->aB,f54->lG,f31->lH,f45->oH,f21->oI,f29->oJ,f102->nJ,f122->dH,f99->kH,f101->bP,f100->oC,f77->ji
open Go.Ad renaming W5->jI
open Go.Ad.C5 renaming ok->jU,UK->yF
open Go.Sx.Bh renaming sh->aP,int->aj,nat->aJ,get->aS,ok->iI,Le->bC,all->dF
open Go.Sx.D7 renaming at_->bJ,ret->aO
open Go.Sx.Fin renaming ret->aN
open Go.Sx.It renaming code->bF,inBlock->dA
open Go.Sx.Sh renaming sl->aG,i->aW,os->jm,agg->bM,str->dn,er->aZ,v->jB,CG->pG,pt->sU,b->eP
open Go.Sx.Tree renaming need->aI,leaf->aA,node->aF,must->aQ,All->fK,fail->dG
open Go.Value renaming nilIface->bI
open Int renaming ofNat->ah,ofNat_eq_natCast->fP,negSucc->fF,toNat_natCast->fJ
open List renaming getD_eq_getElem?_getD->aY,getElem?_eq_getElem->aV
open Nat renaming beq->fB,eq_of_beq_eq_true->fG
open Option renaming some->ay,none->aK
namespace Go.Ad
open Go Go.Sx Go.BF
def Am:Nat->List Nat->Bool:=fun _ _=>aC
def DI:Nat->Bool:=fun _=>ak
abbrev L0:Nat:=1000000000000000000000000000000
def adH(n:Nat)(o:Nat->Oj)(i:Int)(k:Nat)(gg:Nat->List Sh):Core:={tm:=[.sh (.sl 2 n (zW o)),.any,.any,.gs 0,.sym .i64 i]++rep [.any] 17,hp:=[(0,.own 140 2 k gg)],nx:=1,lim:=L0,tc:=[]}
def IJ:List It:=[bF [0,1,0,1,1],dA 0,bF [1,1,1]]
def WB:List It:=[bF [0,0,1,0,1,1],bF [0,1,0,1,1],dA 0,bF [1,1,1]]
def adI(n:Nat)(o:Nat->Ev)(i:Int)(k:Nat)(gg:Nat->List Sh):Core:={tm:=[.sh (.sl 8 n (zW o)),.any,.any,.gs 0,.sym .i64 i]++rep [.any] 17,hp:=[(0,.own 71 8 k gg)],nx:=1,lim:=L0,tc:=[]}
theorem a10(A:Prim)(W:Wd)(n:Nat)(o:Nat->Oj)(i':Int)(k':Nat)(H7:Nat->List Sh):AP (C5 A W noSpec Am) DI 300 200 54 [.code []] (zZ 22 [.sl 2 n (zW o)] L0) [] [⟨54,IJ,adH n o i' k' H7,[]⟩]=aI (A.le (ah 0) (A.Az n)) (aI (A.room (A.toN (A.Az n)) 16) (aA (bJ 0 [aP (aG 2 n (zW o)) (aG 2 n (zW o)),aj (ah 0) i',aJ 0 k',aS 0 (fun (_x:Nat)=>[]) H7]))):=by kernel_rfl
theorem b10(A:Prim)(W:Wd)(n:Nat)(o:Nat->Oj)(i i':Int)(k k':Nat)(gg H7:Nat->List Sh):AP (C5 A W noSpec Am) DI 300 200 54 WB (adH n o i k gg) [] [⟨54,IJ,adH n o i' k' H7,[]⟩]=aF (A.lt i (A.Az n)) (aI (A.inB i n) (aI (A.room (A.addN k 1) 16) (aA (bJ 0 [aP (aG 2 n (zW o)) (aG 2 n (zW o)),aj (A.add .i64 i (ah 1)) i',aJ (A.addN k 1) k',aS (A.addN k 1) (A.snoc gg k (AQ [[aW .i64 (o (A.toN i)).kind,aW .i64 (o (A.toN i)).init]])) H7])))) (aA (aO (jm 140 2 k (k,gg).snd))):=by kernel_rfl
theorem a11(A:Prim)(W:Wd)(n:Nat)(o:Nat->Ev)(i':Int)(k':Nat)(H7:Nat->List Sh):AP (C5 A W noSpec Am) DI 300 200 31 [.code []] (zZ 22 [.sl 8 n (zW o)] L0) [] [⟨31,IJ,adI n o i' k' H7,[]⟩]=aI (A.le (ah 0) (A.Az n)) (aI (A.room (A.toN (A.Az n)) 64) (aA (bJ 0 [aP (aG 8 n (zW o)) (aG 8 n (zW o)),aj (ah 0) i',aJ 0 k',aS 0 (fun (_x:Nat)=>[]) H7]))):=by kernel_rfl
theorem b11(A:Prim)(W:Wd)(n:Nat)(o:Nat->Ev)(i i':Int)(k k':Nat)(gg H7:Nat->List Sh):AP (C5 A W noSpec Am) DI 300 200 31 WB (adI n o i k gg) [] [⟨31,IJ,adI n o i' k' H7,[]⟩]=aF (A.lt i (A.Az n)) (aI (A.inB i n) (aI (A.room (A.addN k 1) 64) (aA (bJ 0 [aP (aG 8 n (zW o)) (aG 8 n (zW o)),aj (A.add .i64 i (ah 1)) i',aJ (A.addN k 1) k',aS (A.addN k 1) (A.snoc gg k (AQ [[aW .i64 (o (A.toN i)).kind,aW .i64 (o (A.toN i)).tx,aW .i64 (o (A.toN i)).thread,aW .i64 (o (A.toN i)).obj,aW .i64 (o (A.toN i)).op,aW .i64 (o (A.toN i)).key,aW .i64 (o (A.toN i)).val,aW .i64 (o (A.toN i)).ret]])) H7])))) (aA (aO (jm 71 8 k (k,gg).snd))):=by kernel_rfl
def F10:List Sh->Tree Sh
 |[.sl 2 n g]=>.need (okB Oj n g) (.need (Bo n 16) (.leaf (.os 140 2 n (fO g)))) |_=>.fail
theorem akw{H0:Mem}{w0:World}{n:Nat}{o:Nat->Oj}{φ:Sh->Prop}(hr:zV.room n 16=aC)(hφ:φ (.os 140 2 n (zW o))):
  ∀m k,k+m=n->Bc aB (C5 zV W5 noSpec Am) (K0 H0 w0) 54 IJ (adH n o k k (zW o)) [] emp φ
 |m,k,hk=>by
  obtain ⟨hr1,hr2⟩:=Fa hr;rw[maxLen_eq] at hr2;refine Gq (fn:=lG) (tb:=WB) (by kernel_rfl) (by kernel_rfl) ?_;refine G9 (jU _ _) (MZ _) (hold:=DI) (m:=300) (n:=200) (ts:=[⟨54,IJ,adH n o (k+1:Nat) (k+1) (zW o),[]⟩]) ?_;rw[b10 zV W5 n o k (k+1:Nat) k (k+1) (zW o) (zW o)];refine ⟨fun h=>⟨?_,?_,⟨rfl,?_,rfl,?_,trivial⟩,_,rfl,?_⟩,fun h=>?_⟩
  ·simp[Aa,Ar,Bj] at h ⊢;omega
  ·simp[Aa,Ar,Di,Et,maxLen_eq] at h ⊢;omega
  ·simp[Aa,Ar] at h
   simp only[iI,Df,GU];rw[BL (by omega) (by omega)];rfl
  ·exact adG rfl
  ·simp[Aa,Ar] at h
   match m,hk with
   |0,hk=>omega |m+1,hk=>exact akw hr hφ m (k+1) (by omega)
  ·simp[Aa,Ar] at h
   obtain rfl:k=n:=by omega
   exact hφ
theorem O10:Aq aB (Fv W5) 54 F10:=by
 refine KA (C:=C5 zV W5 noSpec Am) (jU _ _) (fn:=lG) (by kernel_rfl) (by kernel_rfl) fun H w AX args φ hrep h=>?_
 unfold F10 at h;split at h
 ·rename_i n g
  obtain ⟨h1,h2,h3⟩:=h;have h2:zV.room n 16=aC:=h2;match args,hrep with
  |[v],⟨hv,_⟩=>
   refine ⟨[.sl 2 n (zW (zY (α:=Oj) g))],⟨DV hv h1,trivial⟩,L0,?_⟩;refine G9 (jU _ _) (MZ _) (hold:=DI) (m:=300) (n:=200) (ts:=[⟨54,IJ,adH n (zY g) (0:Nat) 0 (zW (zY (α:=Oj) g)),[]⟩]) ?_;have hn:lG.ntmps=22:=by kernel_rfl
   rw[hn,a10 zV W5 n (zY g) (0:Nat) 0 (zW (zY (α:=Oj) g))];refine ⟨by simp[Dw,Ar],by simpa[CJ,Ar] using h2,⟨rfl,rfl,rfl,fun j hj=>by omega,trivial⟩,_,rfl,akw h2 h3 n 0 (by omega)⟩
 ·exact h.elim
end Go.Ad
namespace Go.BF
open Go Go.Sx
def aiF{α:Type}[DecidableEq α](a b:List α):Bool:=decide (a=b)
end Go.BF
namespace Go.Ad
open Go Go.Sx Go.BF
def F35:List Sh->Tree Sh
 |[.sl 2 n g,.sl 2 m h]=>.need (okB Oj n g) (.need (okB Oj m h) (.leaf (.b (aiF (lst Oj n g) (lst Oj m h))))) |_=>.fail
def F11:List Sh->Tree Sh
 |[.sl 8 n g]=>.need (okB Ev n g) (.need (Bo n 64) (.leaf (.os 71 8 n (fE g)))) |_=>.fail
theorem akx{H0:Mem}{w0:World}{n:Nat}{o:Nat->Ev}{φ:Sh->Prop}(hr:zV.room n 64=aC)(hφ:φ (.os 71 8 n (zW o))):
  ∀m k,k+m=n->Bc aB (C5 zV W5 noSpec Am) (K0 H0 w0) 31 IJ (adI n o k k (zW o)) [] emp φ
 |m,k,hk=>by
  obtain ⟨hr1,hr2⟩:=Fa hr;rw[maxLen_eq] at hr2;refine Gq (fn:=lH) (tb:=WB) (by kernel_rfl) (by kernel_rfl) ?_;refine G9 (jU _ _) (MZ _) (hold:=DI) (m:=300) (n:=200) (ts:=[⟨31,IJ,adI n o (k+1:Nat) (k+1) (zW o),[]⟩]) ?_;rw[b11 zV W5 n o k (k+1:Nat) k (k+1) (zW o) (zW o)];refine ⟨fun h=>⟨?_,?_,⟨rfl,?_,rfl,?_,trivial⟩,_,rfl,?_⟩,fun h=>?_⟩
  ·simp[Aa,Ar,Bj] at h ⊢;omega
  ·simp[Aa,Ar,Di,Et,maxLen_eq] at h ⊢;omega
  ·simp[Aa,Ar] at h
   simp only[iI,Df,GU];rw[BL (by omega) (by omega)];rfl
  ·exact adG rfl
  ·simp[Aa,Ar] at h
   match m,hk with
   |0,hk=>omega |m+1,hk=>exact akx hr hφ m (k+1) (by omega)
  ·simp[Aa,Ar] at h
   obtain rfl:k=n:=by omega
   exact hφ
theorem Ye:Aq aB (Fv W5) 31 F11:=by
 refine KA (C:=C5 zV W5 noSpec Am) (jU _ _) (fn:=lH) (by kernel_rfl) (by kernel_rfl) fun H w AX args φ hrep h=>?_
 unfold F11 at h;split at h
 ·rename_i n g
  obtain ⟨h1,h2,h3⟩:=h;have h2:zV.room n 64=aC:=h2;match args,hrep with
  |[v],⟨hv,_⟩=>
   refine ⟨[.sl 8 n (zW (zY (α:=Ev) g))],⟨DV hv h1,trivial⟩,L0,?_⟩;refine G9 (jU _ _) (MZ _) (hold:=DI) (m:=300) (n:=200) (ts:=[⟨31,IJ,adI n (zY g) (0:Nat) 0 (zW (zY (α:=Ev) g)),[]⟩]) ?_;have hn:lH.ntmps=22:=by kernel_rfl
   rw[hn,a11 zV W5 n (zY g) (0:Nat) 0 (zW (zY (α:=Ev) g))];refine ⟨by simp[Dw,Ar],by simpa[CJ,Ar] using h2,⟨rfl,rfl,rfl,fun j hj=>by omega,trivial⟩,_,rfl,akx h2 h3 n 0 (by omega)⟩
 ·exact h.elim
theorem a37(A:Prim)(W:Wd)(n m:Nat)(g h:Nat->List Sh):BQ (C5 A W noSpec Am) 300 45 [.code []] (zZ 18 [.agg [.sl 2 n g,.sl 8 m h]] L0)=aI (A.le (ah 0) (A.Az n)) (aI (A.room (A.toN (A.Az n)) 16) (aI (A.room (A.addN 0 n) 16) (aI (A.le (ah 0) (A.Az m)) (aI (A.room (A.toN (A.Az m)) 64) (aI (A.room (A.addN 0 m) 64) (aI (A.le (ah 0) (A.Az m)) (aI (A.room (A.toN (A.Az m)) 64) (aI (A.room (A.addN 0 n) 16) (aI (A.room (A.addN 0 m) 64) (aQ [aP (aG 2 n g) (aG 2 n g),aP (aG 8 m h) (aG 8 m h),aP (aG 2 n g) (aG 2 n g),aP (aG 8 m h) (aG 8 m h),aJ (A.addN 0 n) (A.addN 0 n),bC (A.snoc (fun (_x:Nat)=>[]) 0 g) (A.snoc (fun (_x:Nat)=>[]) 0 g),aJ (A.addN 0 m) (A.addN 0 m),bC (A.snoc (fun (_x:Nat)=>[]) 0 h) (A.snoc (fun (_x:Nat)=>[]) 0 h)] (aI (A.le (ah 0) (A.Az m)) (aI (A.room (A.toN (A.Az m)) 64) (aI (A.le (ah 0) (A.Az n)) (aI (A.room (A.toN (A.Az n)) 16) (aI (A.room (A.addN 0 n) 16) (aI (A.room (A.addN 0 m) 64) (aQ [aP (aG 2 n g) (aG 2 n g),aP (aG 8 m h) (aG 8 m h),aP (aG 2 n g) (aG 2 n g),aP (aG 8 m h) (aG 8 m h),aJ (A.addN 0 n) (A.addN 0 n),bC (A.snoc (fun (_x:Nat)=>[]) 0 g) (A.snoc (fun (_x:Nat)=>[]) 0 g),aJ (A.addN 0 m) (A.addN 0 m),bC (A.snoc (fun (_x:Nat)=>[]) 0 h) (A.snoc (fun (_x:Nat)=>[]) 0 h)] (aA (aN (bM [jm 140 2 (A.addN 0 n) (A.addN 0 n,A.snoc (fun (_x:Nat)=>[]) 0 g).snd,jm 71 8 (A.addN 0 m) (A.addN 0 m,A.snoc (fun (_x:Nat)=>[]) 0 h).snd])))))))))))))))))))):=by kernel_rfl
theorem av9(A:Prim)(W:Wd)(n:Nat)(g h:Nat->List Sh):BQ (C5 A W noSpec Am) 300 45 [.code []] (zZ 18 [.agg [.sl 2 n g,.sl 0 0 h]] L0)=aI (A.le (ah 0) (A.Az n)) (aI (A.room (A.toN (A.Az n)) 16) (aI (A.room (A.addN 0 n) 16) (aI (A.le (ah 0) (A.Az 0)) (aI (A.room (A.toN (A.Az 0)) 64) (aI (A.room (A.addN 0 0) 64) (aI (A.le (ah 0) (A.Az 0)) (aI (A.room (A.toN (A.Az 0)) 64) (aI (A.room (A.addN 0 n) 16) (aI (A.room (A.addN 0 0) 64) (aQ [aP (aG 2 n g) (aG 2 n g),aP (aG 0 0 h) (aG 0 0 h),aP (aG 2 n g) (aG 2 n g),aP (aG 0 0 h) (aG 0 0 h),aJ (A.addN 0 n) (A.addN 0 n),bC (A.snoc (fun (_x:Nat)=>[]) 0 g) (A.snoc (fun (_x:Nat)=>[]) 0 g),aJ (A.addN 0 0) (A.addN 0 0),bC (A.snoc (fun (_x:Nat)=>[]) 0 fun (_x:Nat)=>[]) (A.snoc (fun (_x:Nat)=>[]) 0 fun (_x:Nat)=>[])] (aI (A.le (ah 0) (A.Az 0)) (aI (A.room (A.toN (A.Az 0)) 64) (aI (A.le (ah 0) (A.Az n)) (aI (A.room (A.toN (A.Az n)) 16) (aI (A.room (A.addN 0 n) 16) (aI (A.room (A.addN 0 0) 64) (aQ [aP (aG 2 n g) (aG 2 n g),aP (aG 0 0 h) (aG 0 0 h),aP (aG 2 n g) (aG 2 n g),aP (aG 0 0 h) (aG 0 0 h),aJ (A.addN 0 n) (A.addN 0 n),bC (A.snoc (fun (_x:Nat)=>[]) 0 g) (A.snoc (fun (_x:Nat)=>[]) 0 g),aJ (A.addN 0 0) (A.addN 0 0),bC (A.snoc (fun (_x:Nat)=>[]) 0 fun (_x:Nat)=>[]) (A.snoc (fun (_x:Nat)=>[]) 0 fun (_x:Nat)=>[])] (aA (aN (bM [jm 140 2 (A.addN 0 n) (A.addN 0 n,A.snoc (fun (_x:Nat)=>[]) 0 g).snd,jm 71 8 (A.addN 0 0) (A.addN 0 0,A.snoc (fun (_x:Nat)=>[]) 0 fun (_x:Nat)=>[]).snd])))))))))))))))))))):=by kernel_rfl
theorem Qb(g:Nat->List Sh):zV.snoc (fun _=>[]) 0 g=g:=by
 funext i;rw[Ed,if_neg (Nat.not_lt_zero i),Nat.sub_zero]
def DJ(st:Nat):Sh->Option (Nat×(Nat->List Sh))
 | .sl st' n g=>bif fB st' st then ay (n,g) else bif fB st' 0&&fB n 0 then ay (0,fun _=>[]) else aK |_=>aK
theorem aky{st:Nat}{s:Sh}{n:Nat}{g:Nat->List Sh}(h:DJ st s=ay (n,g)):s=.sl st n g\/(∃g',s=.sl 0 0 g'/\n=0/\g=fun _=>[]):=by
 unfold DJ at h;split at h
 ·rename_i st' m g'
  cases h1:fB st' st<;>simp only[h1,cond_true,cond_false] at h
  ·cases h2:(fB st' 0&&fB m 0)<;>simp only[h2,cond_true,cond_false] at h
   ·cases h
   ·cases h
    simp only[Bool.and_eq_true] at h2;have e1:=fG h2.1;have e2:=fG h2.2;subst e1 e2;exact .inr ⟨_,rfl,rfl,rfl⟩
  ·cases h
   have:=fG h1;subst this;exact .inl rfl
 ·cases h
def F37:List Sh->Tree Sh
 |[.agg [.sl 2 n g,s]]=>match DJ 8 s with
  |some (m,h)=>.need (Bo n 16) (.need (Bo m 64) (.leaf (.agg [.os 140 2 n g,.os 71 8 m h]))) |none=>.fail
 |_=>.fail
theorem O37:Aq aB (Fv W5) 45 F37:=by
 refine Hu (C:=C5 zV W5 noSpec Am) (jU _ _) (MZ _) (n:=300) (L:=L0) (fn:=oH) (by kernel_rfl) (by kernel_rfl) fun H w AX args φ hrep h=>?_
 have hn:oH.ntmps=18:=by kernel_rfl
 unfold F37 at h;split at h
 ·rename_i n g s
  split at h
  ·rename_i m h' hs
   obtain ⟨h1,h2,h3⟩:=h;have h1:zV.room n 16=aC:=h1;have h2:zV.room m 64=aC:=h2;refine ⟨[.agg [.sl 2 n g,s]],hrep,?_⟩;rw[hn];rcases aky hs with rfl|⟨g',rfl,rfl,rfl⟩
   ·rw[a37 zV W5 n m g h']
    simpa[fK,BG,dF,iI,Dw,Ar,CJ,Di,h1,h2,Qb] using h3
   ·rw[av9 zV W5 n g g']
    simpa[fK,BG,dF,iI,Dw,Ar,CJ,Di,h1,h2,Qb] using h3
  ·exact h.elim
 ·exact h.elim
def F42:List Sh->Tree Sh
 |[.sl 2 n g,.sl 2 m h]=>.need (okB Oj n g) (.need (okB Oj m h) (.leaf (.b (aiF (lst Oj n g) (lst Oj m h))))) |_=>.fail
def WI:List It:=[bF [0,1,0,1],dA 0,bF [1,1]]
def akr:List It:=[bF [0,0,1,0,1],bF [0,1,0,1],dA 0,bF [1,1]]
end Go.Ad
namespace Go.BF
open Go Go.Sx
def hasB(l:List Int)(x:Int):Bool:=decide (x∈l)
theorem OT{α:Type}[Row α](l:List α)(a:α){r:List (List Sh)}(h:AQ r 0=Row.put a):∀i,i<l.length+1->zV.snoc (zW (nth l)) l.length (AQ r) i=zW (nth (l++[a])) i:=fun i hi=>by
 rw[Ed];split
 ·rename_i h1
  simp only[zW,nth];rw[aY,aY,List.getElem?_append_left h1]
 ·have:i=l.length:=by omega
  subst this;rw[Nat.sub_self,h];simp[zW,nth]
end Go.BF
namespace Go.Ad
open Go Go.Sx Go.BF
def F41:List Sh->Tree Sh
 |[.sl 1 n g,.i .i64 x]=>.need (okB Int n g) (.leaf (.b (hasB (lst Int n g) x))) |_=>.fail
def Gj:Nat->Option (List Sh->Tree Sh)
 |54=>ay F10 |31=>ay F11 |45=>ay F37 |_=>aK
theorem a13(A:Prim)(W:Wd)(n m:Nat)(g h:Nat->List Sh)(x:Int):BQ (C5 A W Gj Am) 300 21 [.code []] (zZ 17 [.agg [.sl 2 n g,.sl 8 m h],.i .i64 x] L0)=aI (A.upTo (A.max (ah 0) (A.min x (A.Az m))) m) (aI (Bo n 16) (aI (Bo (A.toN (A.max (ah 0) (A.min x (A.Az m)))) 64) (aA (aN (bM [jm 140 2 n g,jm 71 8 (A.toN (A.max (ah 0) (A.min x (A.Az m)))) h]))))):=by kernel_rfl
theorem a14(A:Prim)(W:Wd)(n m:Nat)(g h:Nat->List Sh)(x:Int):BQ (C5 A W Gj Am) 300 29 [.code []] (zZ 20 [.agg [.sl 2 n g,.sl 8 m h],.i .i64 x] L0)=aI (okB Oj n g) (aI (Bo n 16) (aI (A.upTo (A.max (ah 0) (A.min x (A.Az m))) m) (aI (okB Ev (A.toN (A.max (ah 0) (A.min x (A.Az m)))) h) (aI (Bo (A.toN (A.max (ah 0) (A.min x (A.Az m)))) 64) (aI (A.upTo (A.max (ah 0) (A.min x (A.Az m))) m) (aI (okB Oj n g) (aI (Bo n 16) (aI (okB Ev (A.toN (A.max (ah 0) (A.min x (A.Az m)))) h) (aI (Bo (A.toN (A.max (ah 0) (A.min x (A.Az m)))) 64) (aQ [aP (aG 2 n g) (aG 2 n g),aP (aG 8 m h) (aG 8 m h),aj (A.max (ah 0) (A.min x (A.Az m))) (A.max (ah 0) (A.min x (A.Az m))),aP (aG 2 n g) (aG 2 n g),aP (aG 8 m h) (aG 8 m h),aJ n n,bC (fO g) (fO g),aJ (A.toN (A.max (ah 0) (A.min x (A.Az m)))) (A.toN (A.max (ah 0) (A.min x (A.Az m)))),bC (fE h) (fE h)] (aA (aN (bM [jm 140 2 n (fO g),jm 71 8 (A.toN (A.max (ah 0) (A.min x (A.Az m)))) (fE h)]))))))))))))):=by kernel_rfl
end Go.Ad
namespace Go.BF
open Go Go.Sx
end Go.BF
namespace Go.Ad
open Go Go.Sx Go.BF
theorem awd:∀g F,Gj g=ay F->Aq aB (Fv W5) g F:=fun g F h=>by
 unfold Gj at h;split at h
 ·cases h;exact O10
 ·cases h;exact Ye
 ·cases h;exact O37
 ·cases h
theorem Yf(stop:Nat->List Nat->Bool):Bz aB (C5 zV W5 Gj stop):=yF awd fun g h=>by
 unfold Gj at h;split at h;all_goals first|(cases h;done) |kernel_rfl
theorem Si{H:Mem}{n m:Nat}{g h:Nat->List Sh}{v:Value}(hv:Rep H (.agg [.sl 2 n g,.sl 8 m h]) v)(hg:okB Oj n g=aC)(hk:okB Ev m h=aC):Rep H (.agg [.sl 2 n (zW (zY (α:=Oj) g)),.sl 8 m (zW (zY (α:=Ev) h))]) v:=by
 cases hv with
 |agg _ vs h1 h2=>
  refine .agg _ vs h1 fun j s v' e1 e2=>?_
  match j,e1 with
  |0,e1=>simp at e1;subst e1;exact DV (h2 0 _ v' rfl e2) hg |1,e1=>simp at e1;subst e1;exact DV (h2 1 _ v' rfl e2) hk |j+2,e1=>simp at e1
end Go.Ad
namespace Go.BF
open Go Go.Sx
def upN(x:Int)(m:Nat):Nat:=(max 0 (min x (m:Int))).toNat
theorem ahg(x:Int)(m:Nat):zV.toN (zV.max (ah 0) (zV.min x (zV.Az m)))=upN x m:=by
 unfold upN;rw[Mc,adF,CJ,Ar];congr 1;simp only[fP];split<;>split<;>omega
theorem abI(x:Int)(m:Nat):zV.upTo (zV.max (ah 0) (zV.min x (zV.Az m))) m=aC:=by
 rw[Mc,adF,J5,Ar];simp only[fP];split<;>split<;>simp<;>omega
end Go.BF
namespace Go.Ad
open Go Go.Sx Go.BF
def F13:List Sh->Tree Sh
 |[.agg [.sl 2 n g,.sl 8 m h],.i .i64 x]=>.need (Bo n 16) (.need (Bo (upN x m) 64) (.leaf (.agg [.os 140 2 n g,.os 71 8 (upN x m) h]))) |_=>.fail
theorem O13:Aq aB (Fv W5) 21 F13:=by
 refine Hu (C:=C5 zV W5 Gj Am) (jU _ _) (Yf _) (n:=300) (L:=L0) (fn:=oI) (by kernel_rfl) (by kernel_rfl) fun H w AX args φ hrep h=>?_
 have hn:oI.ntmps=17:=by kernel_rfl
 unfold F13 at h;split at h
 ·rename_i n g m h' x
  obtain ⟨h1,h2,h3⟩:=h;refine ⟨_,hrep,?_⟩;rw[hn,a13 zV W5 n m g h' x];rw[<-ahg] at h2 h3;exact ⟨abI x m,h1,h2,h3⟩
 ·exact h.elim
def F14:List Sh->Tree Sh
 |[.agg [.sl 2 n g,.sl 8 m h],.i .i64 x]=>.need (okB Oj n g) (.need (okB Ev (upN x m) h) (.need (Bo n 16) (.need (Bo (upN x m) 64) (.leaf (.agg [.os 140 2 n (fO g),.os 71 8 (upN x m) (fE h)]))))) |_=>.fail
theorem O14:Aq aB (Fv W5) 29 F14:=by
 refine Hu (C:=C5 zV W5 Gj Am) (jU _ _) (Yf _) (n:=300) (L:=L0) (fn:=oJ) (by kernel_rfl) (by kernel_rfl) fun H w AX args φ hrep h=>?_
 have hn:oJ.ntmps=20:=by kernel_rfl
 unfold F14 at h;split at h
 ·rename_i n g m h' x
  obtain ⟨h1,h2,h3,h4,h5⟩:=h;refine ⟨_,hrep,?_⟩;rw[hn,a14 zV W5 n m g h' x];rw[<-ahg] at h2 h4 h5;exact ⟨h1,h3,abI x m,h2,h4,abI x m,h1,h3,h2,h4,⟨rfl,rfl,rfl,rfl,rfl,rfl,rfl,rfl,rfl,trivial⟩,h5⟩
 ·exact h.elim
def Cm:Nat->Option (List Sh->Tree Sh)
 |54=>ay F10 |31=>ay F11 |21=>ay F13 |29=>ay F14 |45=>ay F37 |_=>aK
theorem a57(A:Prim)(W:Wd)(c:Int):BQ (C5 A W Cm Am) 300 102 [.code []] (zZ 17 [.i .i64 c] L0)=aF (A.eq c (ah 1)) (aA (aN (aW .i64 (ah 1)))) (aF (A.eq c (ah 2)) (aA (aN (aW .i64 (ah 1)))) (aF (A.eq c (ah 3)) (aA (aN (aW .i64 (ah 2)))) (aF (A.eq c (ah 4)) (aA (aN (aW .i64 (ah 2)))) (aF (A.eq c (ah 5)) (aA (aN (aW .i64 (ah 3)))) (aF (A.eq c (ah 6)) (aA (aN (aW .i64 (ah 3)))) (aF (A.eq c (ah 7)) (aA (aN (aW .i64 (ah 4)))) (aF (A.eq c (ah 8)) (aA (aN (aW .i64 (ah 4)))) (aF (A.eq c (ah 9)) (aA (aN (aW .i64 (ah 4)))) (aA (aN (aW .i64 (ah 0)))))))))))):=by kernel_rfl
theorem atx(A:Prim)(W:Wd)(c:Int):BQ (C5 A W Cm Am) 300 122 [.code []] (zZ 16 [.v (.int .i64 1),.i .i64 c] L0)=aF (A.lt (A.sub .i64 (A.max c (ah 0)) (ah 1)) (ah 0)) (aA (aN (dn []))) (aF (A.le (ah 4) (A.sub .i64 (A.max c (ah 0)) (ah 1))) (aA (aN (dn []))) (aI (A.inB (A.sub .i64 (A.max c (ah 0)) (ah 1)) 4) (aF (A.eq (A.sub .i64 (A.max c (ah 0)) (ah 1)) (ah 0)) (aA (aN (dn (W 16 0)))) (aF (A.eq (A.sub .i64 (A.max c (ah 0)) (ah 1)) (ah 1)) (aA (aN (dn (W 16 1)))) (aF (A.eq (A.sub .i64 (A.max c (ah 0)) (ah 1)) (ah 2)) (aA (aN (dn (W 16 2)))) (aF (A.eq (A.sub .i64 (A.max c (ah 0)) (ah 1)) (ah 3)) (aA (aN (dn (W 16 3)))) dG)))))):=by kernel_rfl
theorem aty(A:Prim)(W:Wd)(c:Int):BQ (C5 A W Cm Am) 300 122 [.code []] (zZ 16 [.v (.int .i64 2),.i .i64 c] L0)=aF (A.lt (A.sub .i64 (A.max c (ah 0)) (ah 1)) (ah 0)) (aA (aN (dn []))) (aF (A.le (ah 7) (A.sub .i64 (A.max c (ah 0)) (ah 1))) (aA (aN (dn []))) (aI (A.inB (A.sub .i64 (A.max c (ah 0)) (ah 1)) 7) (aF (A.eq (A.sub .i64 (A.max c (ah 0)) (ah 1)) (ah 0)) (aA (aN (dn (W 17 0)))) (aF (A.eq (A.sub .i64 (A.max c (ah 0)) (ah 1)) (ah 1)) (aA (aN (dn (W 17 1)))) (aF (A.eq (A.sub .i64 (A.max c (ah 0)) (ah 1)) (ah 2)) (aA (aN (dn (W 17 2)))) (aF (A.eq (A.sub .i64 (A.max c (ah 0)) (ah 1)) (ah 3)) (aA (aN (dn (W 17 3)))) (aF (A.eq (A.sub .i64 (A.max c (ah 0)) (ah 1)) (ah 4)) (aA (aN (dn (W 17 4)))) (aF (A.eq (A.sub .i64 (A.max c (ah 0)) (ah 1)) (ah 5)) (aA (aN (dn (W 17 5)))) (aF (A.eq (A.sub .i64 (A.max c (ah 0)) (ah 1)) (ah 6)) (aA (aN (dn (W 17 6)))) dG))))))))):=by kernel_rfl
theorem atz(A:Prim)(W:Wd)(c:Int):BQ (C5 A W Cm Am) 300 122 [.code []] (zZ 16 [.v (.int .i64 3),.i .i64 c] L0)=aF (A.lt (A.sub .i64 (A.max c (ah 0)) (ah 1)) (ah 0)) (aA (aN (dn []))) (aF (A.le (ah 9) (A.sub .i64 (A.max c (ah 0)) (ah 1))) (aA (aN (dn []))) (aI (A.inB (A.sub .i64 (A.max c (ah 0)) (ah 1)) 9) (aF (A.eq (A.sub .i64 (A.max c (ah 0)) (ah 1)) (ah 0)) (aA (aN (dn (W 18 0)))) (aF (A.eq (A.sub .i64 (A.max c (ah 0)) (ah 1)) (ah 1)) (aA (aN (dn (W 18 1)))) (aF (A.eq (A.sub .i64 (A.max c (ah 0)) (ah 1)) (ah 2)) (aA (aN (dn (W 18 2)))) (aF (A.eq (A.sub .i64 (A.max c (ah 0)) (ah 1)) (ah 3)) (aA (aN (dn (W 18 3)))) (aF (A.eq (A.sub .i64 (A.max c (ah 0)) (ah 1)) (ah 4)) (aA (aN (dn (W 18 4)))) (aF (A.eq (A.sub .i64 (A.max c (ah 0)) (ah 1)) (ah 5)) (aA (aN (dn (W 18 5)))) (aF (A.eq (A.sub .i64 (A.max c (ah 0)) (ah 1)) (ah 6)) (aA (aN (dn (W 18 6)))) (aF (A.eq (A.sub .i64 (A.max c (ah 0)) (ah 1)) (ah 7)) (aA (aN (dn (W 18 7)))) (aF (A.eq (A.sub .i64 (A.max c (ah 0)) (ah 1)) (ah 8)) (aA (aN (dn (W 18 8)))) dG))))))))))):=by kernel_rfl
theorem atA(A:Prim)(W:Wd)(c:Int):BQ (C5 A W Cm Am) 300 122 [.code []] (zZ 16 [.v (.int .i64 4),.i .i64 c] L0)=aF (A.lt (A.sub .i64 (A.max c (ah 0)) (ah 1)) (ah 0)) (aA (aN (dn []))) (aF (A.le (ah 3) (A.sub .i64 (A.max c (ah 0)) (ah 1))) (aA (aN (dn []))) (aI (A.inB (A.sub .i64 (A.max c (ah 0)) (ah 1)) 3) (aF (A.eq (A.sub .i64 (A.max c (ah 0)) (ah 1)) (ah 0)) (aA (aN (dn (W 19 0)))) (aF (A.eq (A.sub .i64 (A.max c (ah 0)) (ah 1)) (ah 1)) (aA (aN (dn (W 19 1)))) (aF (A.eq (A.sub .i64 (A.max c (ah 0)) (ah 1)) (ah 2)) (aA (aN (dn (W 19 2)))) dG))))):=by kernel_rfl
theorem atB(A:Prim)(W:Wd)(c:Int):BQ (C5 A W Cm Am) 300 122 [.code []] (zZ 16 [.v (.int .i64 5),.i .i64 c] L0)=aF (A.lt (A.sub .i64 (A.max c (ah 0)) (ah 1)) (ah 0)) (aA (aN (dn []))) (aF (A.le (ah 4) (A.sub .i64 (A.max c (ah 0)) (ah 1))) (aA (aN (dn []))) (aI (A.inB (A.sub .i64 (A.max c (ah 0)) (ah 1)) 4) (aF (A.eq (A.sub .i64 (A.max c (ah 0)) (ah 1)) (ah 0)) (aA (aN (dn (W 20 0)))) (aF (A.eq (A.sub .i64 (A.max c (ah 0)) (ah 1)) (ah 1)) (aA (aN (dn (W 20 1)))) (aF (A.eq (A.sub .i64 (A.max c (ah 0)) (ah 1)) (ah 2)) (aA (aN (dn (W 20 2)))) (aF (A.eq (A.sub .i64 (A.max c (ah 0)) (ah 1)) (ah 3)) (aA (aN (dn (W 20 3)))) dG)))))):=by kernel_rfl
theorem atC(A:Prim)(W:Wd)(c:Int):BQ (C5 A W Cm Am) 300 122 [.code []] (zZ 16 [.v (.int .i64 6),.i .i64 c] L0)=aF (A.lt (A.sub .i64 (A.max c (ah 0)) (ah 1)) (ah 0)) (aA (aN (dn []))) (aF (A.le (ah 4) (A.sub .i64 (A.max c (ah 0)) (ah 1))) (aA (aN (dn []))) (aI (A.inB (A.sub .i64 (A.max c (ah 0)) (ah 1)) 4) (aF (A.eq (A.sub .i64 (A.max c (ah 0)) (ah 1)) (ah 0)) (aA (aN (dn (W 21 0)))) (aF (A.eq (A.sub .i64 (A.max c (ah 0)) (ah 1)) (ah 1)) (aA (aN (dn (W 21 1)))) (aF (A.eq (A.sub .i64 (A.max c (ah 0)) (ah 1)) (ah 2)) (aA (aN (dn (W 21 2)))) (aF (A.eq (A.sub .i64 (A.max c (ah 0)) (ah 1)) (ah 3)) (aA (aN (dn (W 21 3)))) dG)))))):=by kernel_rfl
end Go.Ad
namespace Go.BF
open Go Go.Sx
def AZ:Sh->Option Int
 | .i .i64 c=>ay c | .v (.int .i64 c)=>ay c |_=>aK
def Yg(t:Int):Nat×Nat:=
 bif t==1 then (16,4) else bif t==2 then (17,7) else bif t==3 then (18,9) else bif t==4 then (19,3) else bif t==5 then (20,4) else (21,4)
def idx(c:Int):Int:=aT.wrap ((if (0:Int)>c then 0 else c) - 1)
def Yh(m:Nat)(c:Int):Bool:=decide (0<=idx c/\idx c<(m:Int))
def CU(g m:Nat)(c:Int):List UInt8:=bif Yh m c then jI g (idx c).toNat else []
def Dy(c:Int):Int:=
 bif c==1 then 1 else bif c==2 then 1 else bif c==3 then 2 else bif c==4 then 2 else bif c==5 then 3 else bif c==6 then 3 else bif c==7 then 4 else bif c==8 then 4 else bif c==9 then 4 else 0
theorem Ei{H:Mem}{s:Sh}{c:Int}{v:Value}(h:AZ s=ay c)(r:Rep H s v):Rep H (.i .i64 c) v:=by
 unfold AZ at h;split at h
 ·cases h;exact r
 ·cases h;cases r;exact .i _ _
 ·cases h
theorem UQ{H:Mem}{s:Sh}{c:Int}{v:Value}(h:AZ s=ay c)(r:Rep H s v):Rep H (.v (.int .i64 c)) v:=by
 have:=Ei h r;cases this;exact .v _ rfl
end Go.BF
namespace Go.Ad
open Go Go.Sx Go.BF
theorem awe:∀g F,Cm g=ay F->Aq aB (Fv W5) g F:=fun g F h=>by
 unfold Cm at h;split at h
 ·cases h;exact O10
 ·cases h;exact Ye
 ·cases h;exact O13
 ·cases h;exact O14
 ·cases h;exact O37
 ·cases h
theorem aoH(stop:Nat->List Nat->Bool):Bz aB (C5 zV W5 Cm stop):=yF awe fun g h=>by
 unfold Cm at h;split at h;all_goals first|(cases h;done) |kernel_rfl
theorem JE{ψ:Int->Prop}{b:Bool}{x y:Int}(h:ψ (bif b then x else y)):(b=aC->ψ x)/\(b=ak->ψ y):=by
 cases b
 ·exact ⟨fun q=>(by cases q),fun _=>h⟩
 ·exact ⟨fun _=>h,fun q=>by cases q⟩
def F57:List Sh->Tree Sh
 |[s]=>match AZ s with
  |some c=>.leaf (.i .i64 (Dy c)) |none=>.fail
 |_=>.fail
theorem O57:Aq aB (Fv W5) 102 F57:=by
 refine Hu (C:=C5 zV W5 Cm Am) (jU _ _) (aoH _) (n:=300) (L:=L0) (fn:=nJ) (by kernel_rfl) (by kernel_rfl) fun H w AX args φ hrep h=>?_
 have hn:nJ.ntmps=17:=by kernel_rfl
 unfold F57 at h;split at h
 ·rename_i s
  split at h
  ·rename_i c hc
   match args,hrep with
   |[v],⟨hv,_⟩=>
    refine ⟨[.i .i64 c],⟨Ei hc hv,trivial⟩,?_⟩;rw[hn,a57 zV W5 c];have h:φ (.i .i64 (Dy c)):=h;exact let h1:=JE (ψ:=fun d=>φ (.i .i64 d)) h;⟨h1.1,fun q=>let h1:=JE (ψ:=fun d=>φ (.i .i64 d)) (h1.2 q);⟨h1.1,fun q=>let h1:=JE (ψ:=fun d=>φ (.i .i64 d)) (h1.2 q);⟨h1.1,fun q=>let h1:=JE (ψ:=fun d=>φ (.i .i64 d)) (h1.2 q);⟨h1.1,fun q=>let h1:=JE (ψ:=fun d=>φ (.i .i64 d)) (h1.2 q);⟨h1.1,fun q=>let h1:=JE (ψ:=fun d=>φ (.i .i64 d)) (h1.2 q);⟨h1.1,fun q=>let h1:=JE (ψ:=fun d=>φ (.i .i64 d)) (h1.2 q);⟨h1.1,fun q=>let h1:=JE (ψ:=fun d=>φ (.i .i64 d)) (h1.2 q);⟨h1.1,fun q=>let h1:=JE (ψ:=fun d=>φ (.i .i64 d)) (h1.2 q);⟨h1.1,fun q=>h1.2 q⟩⟩⟩⟩⟩⟩⟩⟩⟩
  ·exact h.elim
 ·exact h.elim
def F61:List Sh->Tree Sh
 |[s0,s]=>match AZ s0 with
  |some t=>match AZ s with
   |some c=>.need (decide (1<=t/\t<=6)) (.leaf (.str (CU (Yg t).1 (Yg t).2 c))) |none=>.fail
  |none=>.fail
 |_=>.fail
theorem Me{φ:Sh->Prop}{g m:Nat}{c:Int}{T:Prop}(h:φ (.str (CU g m c)))(hT:∀k:Nat,k<m->idx c=(k:Int)->φ (.str (W5 g k))->T):
  (zV.lt (zV.sub .i64 (zV.max c (ah 0)) (ah 1)) (ah 0)=aC->φ (.str []))/\
  (zV.lt (zV.sub .i64 (zV.max c (ah 0)) (ah 1)) (ah 0)=ak->(zV.le (ah m) (zV.sub .i64 (zV.max c (ah 0)) (ah 1))=aC->φ (.str []))/\
   (zV.le (ah m) (zV.sub .i64 (zV.max c (ah 0)) (ah 1))=ak->zV.inB (zV.sub .i64 (zV.max c (ah 0)) (ah 1)) m=aC/\T)):=by
 have he:zV.sub .i64 (zV.max c (ah 0)) (ah 1)=idx c:=rfl;rw[he,Aa,Dw,Bj];unfold CU at h;simp only[fP,decide_eq_true_eq,decide_eq_false_iff_not];by_cases hi:Yh m c=aC
 ·rw[hi] at h
  have hi:=of_decide_eq_true hi;refine ⟨fun q=>?_,fun _=>⟨fun q=>?_,fun _=>⟨hi,?_⟩⟩⟩
  ·exact absurd q (by omega)
  ·exact absurd q (by omega)
  ·exact hT (idx c).toNat (by omega) (by omega) h
 ·have hi':Yh m c=ak:=by simpa using hi
  rw[hi'] at h;have hi:=of_decide_eq_false hi';refine ⟨fun _=>h,fun _=>⟨fun _=>h,fun _=>?_⟩⟩;exfalso;apply hi;constructor<;>omega
def NQ(g:Nat)(i:Int):List Nat->Tree Fin
 |[]=>.fail |k::l=>.node (zV.eq i (ah k)) (.leaf (.ret (.str (W5 g k)))) (NQ g i l)
theorem I5{ψ:Fin->Prop}{g k:Nat}{i:Int}(e:i=(k:Int))(hψ:ψ (.ret (.str (W5 g k)))):∀l,k∈l->(NQ g i l).All ψ
 |[],h=>by cases h |a::l,h=>by
  refine ⟨fun q=>?_,fun q=>?_⟩
  ·rw[Ap,e] at q
   have:k=a:=by have:=eq_of_beq q;simp only[fP] at this;omega
   rw[<-this];exact hψ
  ·rw[Ap,e] at q
   have:k≠a:=fun e=>by subst e;simp at q
   exact I5 e hψ l ((List.mem_cons.1 h).resolve_left this)
@[irreducible] def Dz (ψ:Fin->Prop) (t:Tree Fin):Prop:=t.All ψ
theorem BK(ψ:Fin->Prop)(t:Tree Fin):t.All ψ=Dz ψ t:=by unfold Dz;rfl
theorem atF{H:Mem}{w:World}{φ:Sh->Prop}{c:Int}(h2:φ (.str (CU 16 4 c))):
  Dz (BG aB (C5 zV W5 Cm Am) (K0 H w) dH φ) (BQ (C5 zV W5 Cm Am) 300 122 [.code []] (zZ 16 [.v (.int .i64 1),.i .i64 c] L0)):=by
 rw[atx zV W5 c,<-BK];exact Me (T:=(NQ 16 (idx c) [0,1,2,3]).All (BG aB (C5 zV W5 Cm Am) (K0 H w) dH φ)) h2 fun k hk e hφ=>I5 e hφ _ (by simp;omega)
theorem atG{H:Mem}{w:World}{φ:Sh->Prop}{c:Int}(h2:φ (.str (CU 17 7 c))):
  Dz (BG aB (C5 zV W5 Cm Am) (K0 H w) dH φ) (BQ (C5 zV W5 Cm Am) 300 122 [.code []] (zZ 16 [.v (.int .i64 2),.i .i64 c] L0)):=by
 rw[aty zV W5 c,<-BK];exact Me (T:=(NQ 17 (idx c) [0,1,2,3,4,5,6]).All (BG aB (C5 zV W5 Cm Am) (K0 H w) dH φ)) h2 fun k hk e hφ=>I5 e hφ _ (by simp;omega)
theorem atH{H:Mem}{w:World}{φ:Sh->Prop}{c:Int}(h2:φ (.str (CU 18 9 c))):
  Dz (BG aB (C5 zV W5 Cm Am) (K0 H w) dH φ) (BQ (C5 zV W5 Cm Am) 300 122 [.code []] (zZ 16 [.v (.int .i64 3),.i .i64 c] L0)):=by
 rw[atz zV W5 c,<-BK];exact Me (T:=(NQ 18 (idx c) [0,1,2,3,4,5,6,7,8]).All (BG aB (C5 zV W5 Cm Am) (K0 H w) dH φ)) h2 fun k hk e hφ=>I5 e hφ _ (by simp;omega)
theorem atI{H:Mem}{w:World}{φ:Sh->Prop}{c:Int}(h2:φ (.str (CU 19 3 c))):
  Dz (BG aB (C5 zV W5 Cm Am) (K0 H w) dH φ) (BQ (C5 zV W5 Cm Am) 300 122 [.code []] (zZ 16 [.v (.int .i64 4),.i .i64 c] L0)):=by
 rw[atA zV W5 c,<-BK];exact Me (T:=(NQ 19 (idx c) [0,1,2]).All (BG aB (C5 zV W5 Cm Am) (K0 H w) dH φ)) h2 fun k hk e hφ=>I5 e hφ _ (by simp;omega)
theorem atJ{H:Mem}{w:World}{φ:Sh->Prop}{c:Int}(h2:φ (.str (CU 20 4 c))):
  Dz (BG aB (C5 zV W5 Cm Am) (K0 H w) dH φ) (BQ (C5 zV W5 Cm Am) 300 122 [.code []] (zZ 16 [.v (.int .i64 5),.i .i64 c] L0)):=by
 rw[atB zV W5 c,<-BK];exact Me (T:=(NQ 20 (idx c) [0,1,2,3]).All (BG aB (C5 zV W5 Cm Am) (K0 H w) dH φ)) h2 fun k hk e hφ=>I5 e hφ _ (by simp;omega)
theorem atK{H:Mem}{w:World}{φ:Sh->Prop}{c:Int}(h2:φ (.str (CU 21 4 c))):
  Dz (BG aB (C5 zV W5 Cm Am) (K0 H w) dH φ) (BQ (C5 zV W5 Cm Am) 300 122 [.code []] (zZ 16 [.v (.int .i64 6),.i .i64 c] L0)):=by
 rw[atC zV W5 c,<-BK];exact Me (T:=(NQ 21 (idx c) [0,1,2,3]).All (BG aB (C5 zV W5 Cm Am) (K0 H w) dH φ)) h2 fun k hk e hφ=>I5 e hφ _ (by simp;omega)
theorem six{P:Int->Nat->Nat->Prop}(h1:P 1 16 4)(h2:P 2 17 7)(h3:P 3 18 9)(h4:P 4 19 3)(h5:P 5 20 4)(h6:P 6 21 4){t:Int}(ht:decide (1<=t/\t<=6)=aC):P t (Yg t).1 (Yg t).2:=by
 have ht:=of_decide_eq_true ht;have e:t=1\/t=2\/t=3\/t=4\/t=5\/t=6:=by omega
 rcases e with rfl|rfl|rfl|rfl|rfl|rfl
 ·exact h1
 ·exact h2
 ·exact h3
 ·exact h4
 ·exact h5
 ·exact h6
theorem w61{H:Mem}{w:World}{φ:Sh->Prop}{c t:Int}(ht:decide (1<=t/\t<=6)=aC)(h2:φ (.str (CU (Yg t).1 (Yg t).2 c))):
  Dz (BG aB (C5 zV W5 Cm Am) (K0 H w) dH φ) (BQ (C5 zV W5 Cm Am) 300 122 [.code []] (zZ 16 [.v (.int .i64 t),.i .i64 c] L0)):=
 six (P:=fun t g m=>φ (.str (CU g m c))->Dz (BG aB (C5 zV W5 Cm Am) (K0 H w) dH φ) (BQ (C5 zV W5 Cm Am) 300 122 [.code []] (zZ 16 [.v (.int .i64 t),.i .i64 c] L0))) atF atG atH atI atJ atK ht h2
theorem O61:Aq aB (Fv W5) 122 F61:=by
 refine Hu (C:=C5 zV W5 Cm Am) (jU _ _) (aoH _) (n:=300) (L:=L0) (fn:=dH) (by kernel_rfl) (by kernel_rfl) fun H w AX args φ hrep h=>?_
 have hn:dH.ntmps=16:=by kernel_rfl
 unfold F61 at h;split at h
 ·rename_i s0 s
  split at h
  ·rename_i t ht
   split at h
   ·rename_i c hc
    obtain ⟨h1,h2⟩:=h;match args,hrep with
    |[u,v],⟨hu,hv,_⟩=>
     refine ⟨[.v (.int .i64 t),.i .i64 c],⟨UQ ht hu,Ei hc hv,trivial⟩,?_⟩;rw[hn,BK];exact w61 h1 h2
   ·exact h.elim
  ·exact h.elim
 ·exact h.elim
def AB:Nat->Option (List Sh->Tree Sh)
 |102=>ay F57 |122=>ay F61 |_=>aK
theorem a54(A:Prim)(W:Wd)(x y:Int):BQ (C5 A W AB Am) 300 99 [.code []] (zZ 36 [.agg [.i .i64 x,.i .i64 y]] L0)=aF (A.eq x (ah 1)) (aI aC (aF (A.seq (CU 16 4 x) []) (aA (aN (aZ 7 329))) (aF (A.lt y (fF 999999999)) (aA (aN (aZ 7 329))) (aF (A.lt (ah 1000000000) y) (aA (aN (aZ 7 329))) (aA (aN (jB bI))))))) (aI aC (aF (A.seq (CU 16 4 x) []) (aA (aN (aZ 7 329))) (aF (A.lt y (fF 999999999)) (aA (aN (aZ 7 329))) (aF (A.lt (ah 1000000000) y) (aA (aN (aZ 7 329))) (aF (A.nt (A.eq x (ah 2))) (aF (A.nt (A.eq y (ah 0))) (aA (aN (aZ 7 329))) (aA (aN (jB bI)))) (aA (aN (jB bI)))))))):=by kernel_rfl
theorem a55(A:Prim)(W:Wd)(x:Int)(e:Nat):BQ (C5 A W AB Am) 300 100 [.code []] (zZ 10 [.i .i64 x,.er e 329] L0)=aA (aN (pG 109 (sU [aW .i64 x,aZ e 329]))):=by kernel_rfl
end Go.Ad
namespace Go.BF
open Go Go.Sx
def abJ(k i:Int):Bool:=Yh 4 k && !decide (i < -1000000000) && !decide (1000000000<i)&&(k==1||k==2||i==0)
theorem O7{g m:Nat}{c:Int}(h:∀k,k<m->jI g k≠[]):zV.seq (CU g m c) []=!Yh m c:=by
 rw[XQ];unfold CU;cases hi:Yh m c with
 |true=>
  have hi:=of_decide_eq_true hi;have:=h (idx c).toNat (by omega);simpa using this
 |false=>rfl
theorem awf:∀k,k<4->jI 16 k≠[]:=fun k hk=>by
 obtain rfl|rfl|rfl|rfl:k=0\/k=1\/k=2\/k=3:=by omega
 all_goals simp[jI,qX]
theorem akz:∀k,k<3->jI 19 k≠[]:=fun k hk=>by
 obtain rfl|rfl|rfl:k=0\/k=1\/k=2:=by omega
 all_goals simp[jI,qX]
end Go.BF
namespace Go.Ad
open Go Go.Sx Go.BF
theorem awg:∀g F,AB g=ay F->Aq aB (Fv W5) g F:=fun g F h=>by
 unfold AB at h;split at h
 ·cases h;exact O57
 ·cases h;exact O61
 ·cases h
theorem ae1(stop:Nat->List Nat->Bool):Bz aB (C5 zV W5 AB stop):=yF awg fun g h=>by
 unfold AB at h;split at h;all_goals first|(cases h;done) |kernel_rfl
def F54:List Sh->Tree Sh
 |[.agg [s,s']]=>match AZ s with
  |some k=>match AZ s' with
   |some i=>.node (abJ k i) (.leaf (.v .nilIface)) (.leaf (.er 7 329)) |none=>.fail
  |none=>.fail
 |_=>.fail
theorem XR{H:Mem}{s s' t t':Sh}{v:Value}(hv:Rep H (.agg [s,s']) v)(h1:∀u,Rep H s u->Rep H t u)(h2:∀u,Rep H s' u->Rep H t' u):Rep H (.agg [t,t']) v:=by
 cases hv with
 |agg _ vs h3 h4=>
  refine .agg _ vs h3 fun j s0 v' e1 e2=>?_
  match j,e1 with
  |0,e1=>simp at e1;subst e1;exact h1 _ (h4 0 _ v' rfl e2) |1,e1=>simp at e1;subst e1;exact h2 _ (h4 1 _ v' rfl e2) |j+2,e1=>simp at e1
theorem aoJ{φ:Sh->Prop}{x y:Int}(hT:abJ x y=aC->φ (.v .nilIface))(hF:abJ x y=ak->φ (.er 7 329)){H:Mem}{w:World}:
  Dz (BG aB (C5 zV W5 AB Am) (K0 H w) kH φ) (BQ (C5 zV W5 AB Am) 300 99 [.code []] (zZ 36 [.agg [.i .i64 x,.i .i64 y]] L0)):=by
 rw[a54 zV W5 x y,<-BK,O7 awf];unfold abJ at hT hF;simp only[fK,BG,Ap,Aa,BP];cases h1:Yh 4 x<;>simp[h1] at hT hF ⊢
 ·exact hF
 ·refine ⟨fun e1=>⟨fun e=>hF fun q=>absurd q (by omega),fun e=>⟨fun e'=>hF fun _ q=>absurd q (by omega),fun e'=>hT e e' (.inl (.inl e1))⟩⟩,fun e1=>⟨fun e=>hF fun q=>absurd q (by omega),fun e=>⟨fun e'=>hF fun _ q=>absurd q (by omega),fun e'=>⟨fun e2=>⟨fun e3=>hF fun _ _=>⟨⟨e1,e2⟩,e3⟩,fun e3=>hT e e' (.inr e3)⟩,fun e2=>hT e e' (.inl (.inr e2))⟩⟩⟩⟩
theorem O54:Aq aB (Fv W5) 99 F54:=by
 refine Hu (C:=C5 zV W5 AB Am) (jU _ _) (ae1 _) (n:=300) (L:=L0) (fn:=kH) (by kernel_rfl) (by kernel_rfl) fun H w AX args φ hrep h=>?_
 have hn:kH.ntmps=36:=by kernel_rfl
 unfold F54 at h;split at h
 ·rename_i s s'
  split at h
  ·rename_i k hk
   split at h
   ·rename_i i hi
    obtain ⟨h1,h2⟩:=h;match args,hrep with
    |[u],⟨hu,_⟩=>
     refine ⟨[.agg [.i .i64 k,.i .i64 i]],⟨XR hu (fun _=>Ei hk) (fun _=>Ei hi),trivial⟩,?_⟩;rw[hn,BK];exact aoJ h1 h2
   ·exact h.elim
  ·exact h.elim
 ·exact h.elim
def il(n:Int):Sh:=.v (.int .i64 n)
def sy(n:Int):Sh:=.i .i64 n
def IV:Nat->List Nat->Bool:=fun g _=>fB g 101
def dead:Tree Fin->Tree Fin
 | .leaf (.ret s)=>.leaf (.ret s) | .leaf (.stop _ _)=>.fail | .node b t f=>.node b (dead t) (dead f) | .need b t=>.need b (dead t) | .must l t=>.must l (dead t) | .both t f=>.both (dead t) (dead f) | .fail=>.fail
theorem Nl{ψ:Fin->Prop}:∀{t:Tree Fin},(dead t).All ψ->t.All ψ
 | .leaf (.ret _),h=>h | .leaf (.stop _ _),h=>h.elim | .node _ _ _,h=>⟨fun q=>Nl (h.1 q),fun q=>Nl (h.2 q)⟩ | .need _ _,h=>⟨h.1,Nl h.2⟩ | .must _ _,h=>⟨h.1,Nl h.2⟩ | .both _ _,h=>⟨Nl h.1,Nl h.2⟩ | .fail,h=>h
theorem atL(A:Prim)(W:Wd)(_k x t o p y v r:Int):BQ (C5 A W AB Ak) 3000 101 [.code []] (zZ 75 [.agg [il 1,sy x,sy t,sy o,sy p,sy y,sy v,sy r]] L0)=aQ [aj x x,aj t t,aj o o,aj p p,aj y y,aj v v,aj r r] (aQ [aj x x,aj t t,aj o o,aj p p,aj y y,aj v v,aj r r] (aQ [aj x x,aj t t,aj o o,aj p p,aj y y,aj v v,aj r r] (aQ [aj x x,aj t t,aj o o,aj p p,aj y y,aj v v,aj r r] (aF (A.lt x (ah 1)) (aA (aN (aZ 15 329))) (aF (A.lt (ah 1000) x) (aA (aN (aZ 15 329))) (aF (A.lt t (ah 0)) (aA (aN (aZ 15 329))) (aF (A.lt (ah 7) t) (aA (aN (aZ 15 329))) (aF (A.nt (A.ite (A.eq (ah 0) (ah 0)) (A.ite (A.eq (ah 0) (ah 0)) (A.ite (A.eq (ah 0) (ah 0)) (A.ite (A.eq o (ah 0)) (A.ite (A.eq p (ah 0)) (A.ite (A.eq y (ah 0)) (A.ite (A.eq v (ah 0)) (A.ite (A.eq r (ah 0)) aC ak) ak) ak) ak) ak) ak) ak) ak)) (aA (aN (aZ 15 329))) (aA (aN (jB bI))))))))))):=by kernel_rfl
theorem atM(A:Prim)(W:Wd)(_k x t o p y v r:Int):BQ (C5 A W AB Ak) 3000 101 [.code []] (zZ 75 [.agg [il 4,sy x,sy t,sy o,sy p,sy y,sy v,sy r]] L0)=aQ [aj x x,aj t t,aj o o,aj p p,aj y y,aj v v,aj r r] (aQ [aj x x,aj t t,aj o o,aj p p,aj y y,aj v v,aj r r] (aQ [aj x x,aj t t,aj o o,aj p p,aj y y,aj v v,aj r r] (aQ [aj x x,aj t t,aj o o,aj p p,aj y y,aj v v,aj r r] (aF (A.lt x (ah 1)) (aA (aN (aZ 15 329))) (aF (A.lt (ah 1000) x) (aA (aN (aZ 15 329))) (aF (A.nt (A.ite (A.eq (ah 0) (ah 0)) (A.ite (A.eq (ah 0) (ah 0)) (A.ite (A.eq t (ah 0)) (A.ite (A.eq o (ah 0)) (A.ite (A.eq p (ah 0)) (A.ite (A.eq y (ah 0)) (A.ite (A.eq v (ah 0)) (A.ite (A.eq r (ah 0)) aC ak) ak) ak) ak) ak) ak) ak) ak)) (aA (aN (aZ 15 329))) (aA (aN (jB bI))))))))):=by kernel_rfl
theorem atN(A:Prim)(W:Wd)(_k x t o p y v r:Int):BQ (C5 A W AB Ak) 3000 101 [.code []] (zZ 75 [.agg [il 5,sy x,sy t,sy o,sy p,sy y,sy v,sy r]] L0)=aQ [aj x x,aj t t,aj o o,aj p p,aj y y,aj v v,aj r r] (aQ [aj x x,aj t t,aj o o,aj p p,aj y y,aj v v,aj r r] (aQ [aj x x,aj t t,aj o o,aj p p,aj y y,aj v v,aj r r] (aQ [aj x x,aj t t,aj o o,aj p p,aj y y,aj v v,aj r r] (aF (A.lt x (ah 1)) (aA (aN (aZ 15 329))) (aF (A.lt (ah 1000) x) (aA (aN (aZ 15 329))) (aF (A.nt (A.ite (A.eq (ah 0) (ah 0)) (A.ite (A.eq (ah 0) (ah 0)) (A.ite (A.eq t (ah 0)) (A.ite (A.eq o (ah 0)) (A.ite (A.eq p (ah 0)) (A.ite (A.eq y (ah 0)) (A.ite (A.eq v (ah 0)) (A.ite (A.eq r (ah 0)) aC ak) ak) ak) ak) ak) ak) ak) ak)) (aA (aN (aZ 15 329))) (aA (aN (jB bI))))))))):=by kernel_rfl
theorem atO(A:Prim)(W:Wd)(_k x t o p y v r:Int):BQ (C5 A W AB Ak) 3000 101 [.code []] (zZ 75 [.agg [il 6,sy x,sy t,sy o,sy p,sy y,sy v,sy r]] L0)=aQ [aj x x,aj t t,aj o o,aj p p,aj y y,aj v v,aj r r] (aQ [aj x x,aj t t,aj o o,aj p p,aj y y,aj v v,aj r r] (aQ [aj x x,aj t t,aj o o,aj p p,aj y y,aj v v,aj r r] (aQ [aj x x,aj t t,aj o o,aj p p,aj y y,aj v v,aj r r] (aF (A.lt x (ah 1)) (aA (aN (aZ 15 329))) (aF (A.lt (ah 1000) x) (aA (aN (aZ 15 329))) (aF (A.nt (A.ite (A.eq (ah 0) (ah 0)) (A.ite (A.eq (ah 0) (ah 0)) (A.ite (A.eq t (ah 0)) (A.ite (A.eq o (ah 0)) (A.ite (A.eq p (ah 0)) (A.ite (A.eq y (ah 0)) (A.ite (A.eq v (ah 0)) (A.ite (A.eq r (ah 0)) aC ak) ak) ak) ak) ak) ak) ak) ak)) (aA (aN (aZ 15 329))) (aA (aN (jB bI))))))))):=by kernel_rfl
theorem atP(A:Prim)(W:Wd)(_k x t o p y v r:Int):BQ (C5 A W AB Ak) 3000 101 [.code []] (zZ 75 [.agg [il 7,sy x,sy t,sy o,sy p,sy y,sy v,sy r]] L0)=aQ [aj x x,aj t t,aj o o,aj p p,aj y y,aj v v,aj r r] (aQ [aj x x,aj t t,aj o o,aj p p,aj y y,aj v v,aj r r] (aQ [aj x x,aj t t,aj o o,aj p p,aj y y,aj v v,aj r r] (aQ [aj x x,aj t t,aj o o,aj p p,aj y y,aj v v,aj r r] (aF (A.lt x (ah 1)) (aA (aN (aZ 15 329))) (aF (A.lt (ah 1000) x) (aA (aN (aZ 15 329))) (aF (A.nt (A.ite (A.eq (ah 0) (ah 0)) (A.ite (A.eq (ah 0) (ah 0)) (A.ite (A.eq t (ah 0)) (A.ite (A.eq o (ah 0)) (A.ite (A.eq p (ah 0)) (A.ite (A.eq y (ah 0)) (A.ite (A.eq v (ah 0)) (A.ite (A.eq r (ah 0)) aC ak) ak) ak) ak) ak) ak) ak) ak)) (aA (aN (aZ 15 329))) (aA (aN (jB bI))))))))):=by kernel_rfl
theorem aoK(A:Prim)(W:Wd)(_k x t o _p y v r:Int):BQ (C5 A W AB Ak) 3000 101 [.code []] (zZ 75 [.agg [il 2,sy x,sy t,sy o,il 1,sy y,sy v,sy r]] L0)=aQ [aj x x,aj t t,aj o o,aj y y,aj v v,aj r r] (aQ [aj x x,aj t t,aj o o,aj y y,aj v v,aj r r] (aQ [aj x x,aj t t,aj o o,aj y y,aj v v,aj r r] (aQ [aj x x,aj t t,aj o o,aj y y,aj v v,aj r r] (aF (A.eq (Dy (ah 1)) (ah 0)) (aA (aN (aZ 14 329))) (aF (A.lt x (ah 1)) (aA (aN (aZ 15 329))) (aF (A.lt (ah 1000) x) (aA (aN (aZ 15 329))) (aF (A.lt o (ah 0)) (aA (aN (aZ 15 329))) (aF (A.lt (ah 7) o) (aA (aN (aZ 15 329))) (aF (A.nt (A.ite (A.eq (ah 0) (ah 0)) (A.ite (A.eq (ah 0) (ah 0)) (A.ite (A.eq t (ah 0)) (A.ite (A.eq (ah 0) (ah 0)) (A.ite (A.eq (ah 0) (ah 0)) (A.ite (A.eq y (ah 0)) (A.ite (A.eq v (ah 0)) (A.ite (A.eq r (ah 0)) aC ak) ak) ak) ak) ak) ak) ak) ak)) (aA (aN (aZ 15 329))) (aA (aN (jB bI)))))))))))):=by kernel_rfl
theorem aoL(A:Prim)(W:Wd)(_k x t o _p y v r:Int):BQ (C5 A W AB Ak) 3000 101 [.code []] (zZ 75 [.agg [il 2,sy x,sy t,sy o,il 2,sy y,sy v,sy r]] L0)=aQ [aj x x,aj t t,aj o o,aj y y,aj v v,aj r r] (aQ [aj x x,aj t t,aj o o,aj y y,aj v v,aj r r] (aQ [aj x x,aj t t,aj o o,aj y y,aj v v,aj r r] (aQ [aj x x,aj t t,aj o o,aj y y,aj v v,aj r r] (aF (A.eq (Dy (ah 2)) (ah 0)) (aA (aN (aZ 14 329))) (aF (A.lt x (ah 1)) (aA (aN (aZ 15 329))) (aF (A.lt (ah 1000) x) (aA (aN (aZ 15 329))) (aF (A.lt o (ah 0)) (aA (aN (aZ 15 329))) (aF (A.lt (ah 7) o) (aA (aN (aZ 15 329))) (aF (A.lt v (fF 999999999)) (aA (aN (aZ 15 329))) (aF (A.lt (ah 1000000000) v) (aA (aN (aZ 15 329))) (aF (A.nt (A.ite (A.eq (ah 0) (ah 0)) (A.ite (A.eq (ah 0) (ah 0)) (A.ite (A.eq t (ah 0)) (A.ite (A.eq (ah 0) (ah 0)) (A.ite (A.eq (ah 0) (ah 0)) (A.ite (A.eq y (ah 0)) (A.ite (A.eq (ah 0) (ah 0)) (A.ite (A.eq r (ah 0)) aC ak) ak) ak) ak) ak) ak) ak) ak)) (aA (aN (aZ 15 329))) (aA (aN (jB bI)))))))))))))):=by kernel_rfl
theorem aoM(A:Prim)(W:Wd)(_k x t o _p y v r:Int):BQ (C5 A W AB Ak) 3000 101 [.code []] (zZ 75 [.agg [il 2,sy x,sy t,sy o,il 3,sy y,sy v,sy r]] L0)=aQ [aj x x,aj t t,aj o o,aj y y,aj v v,aj r r] (aQ [aj x x,aj t t,aj o o,aj y y,aj v v,aj r r] (aQ [aj x x,aj t t,aj o o,aj y y,aj v v,aj r r] (aQ [aj x x,aj t t,aj o o,aj y y,aj v v,aj r r] (aF (A.eq (Dy (ah 3)) (ah 0)) (aA (aN (aZ 14 329))) (aF (A.lt x (ah 1)) (aA (aN (aZ 15 329))) (aF (A.lt (ah 1000) x) (aA (aN (aZ 15 329))) (aF (A.lt o (ah 0)) (aA (aN (aZ 15 329))) (aF (A.lt (ah 7) o) (aA (aN (aZ 15 329))) (aF (A.lt v (fF 999999999)) (aA (aN (aZ 15 329))) (aF (A.lt (ah 1000000000) v) (aA (aN (aZ 15 329))) (aF (A.nt (A.ite (A.eq (ah 0) (ah 0)) (A.ite (A.eq (ah 0) (ah 0)) (A.ite (A.eq t (ah 0)) (A.ite (A.eq (ah 0) (ah 0)) (A.ite (A.eq (ah 0) (ah 0)) (A.ite (A.eq y (ah 0)) (A.ite (A.eq (ah 0) (ah 0)) (A.ite (A.eq r (ah 0)) aC ak) ak) ak) ak) ak) ak) ak) ak)) (aA (aN (aZ 15 329))) (aA (aN (jB bI)))))))))))))):=by kernel_rfl
theorem aoN(A:Prim)(W:Wd)(_k x t o _p y v r:Int):BQ (C5 A W AB Ak) 3000 101 [.code []] (zZ 75 [.agg [il 2,sy x,sy t,sy o,il 4,sy y,sy v,sy r]] L0)=aQ [aj x x,aj t t,aj o o,aj y y,aj v v,aj r r] (aQ [aj x x,aj t t,aj o o,aj y y,aj v v,aj r r] (aQ [aj x x,aj t t,aj o o,aj y y,aj v v,aj r r] (aQ [aj x x,aj t t,aj o o,aj y y,aj v v,aj r r] (aF (A.eq (Dy (ah 4)) (ah 0)) (aA (aN (aZ 14 329))) (aF (A.lt x (ah 1)) (aA (aN (aZ 15 329))) (aF (A.lt (ah 1000) x) (aA (aN (aZ 15 329))) (aF (A.lt o (ah 0)) (aA (aN (aZ 15 329))) (aF (A.lt (ah 7) o) (aA (aN (aZ 15 329))) (aF (A.nt (A.ite (A.eq (ah 0) (ah 0)) (A.ite (A.eq (ah 0) (ah 0)) (A.ite (A.eq t (ah 0)) (A.ite (A.eq (ah 0) (ah 0)) (A.ite (A.eq (ah 0) (ah 0)) (A.ite (A.eq y (ah 0)) (A.ite (A.eq v (ah 0)) (A.ite (A.eq r (ah 0)) aC ak) ak) ak) ak) ak) ak) ak) ak)) (aA (aN (aZ 15 329))) (aA (aN (jB bI)))))))))))):=by kernel_rfl
theorem aoO(A:Prim)(W:Wd)(_k x t o _p y v r:Int):BQ (C5 A W AB Ak) 3000 101 [.code []] (zZ 75 [.agg [il 2,sy x,sy t,sy o,il 5,sy y,sy v,sy r]] L0)=aQ [aj x x,aj t t,aj o o,aj y y,aj v v,aj r r] (aQ [aj x x,aj t t,aj o o,aj y y,aj v v,aj r r] (aQ [aj x x,aj t t,aj o o,aj y y,aj v v,aj r r] (aQ [aj x x,aj t t,aj o o,aj y y,aj v v,aj r r] (aF (A.eq (Dy (ah 5)) (ah 0)) (aA (aN (aZ 14 329))) (aF (A.lt x (ah 1)) (aA (aN (aZ 15 329))) (aF (A.lt (ah 1000) x) (aA (aN (aZ 15 329))) (aF (A.lt o (ah 0)) (aA (aN (aZ 15 329))) (aF (A.lt (ah 7) o) (aA (aN (aZ 15 329))) (aF (A.lt v (fF 999999999)) (aA (aN (aZ 15 329))) (aF (A.lt (ah 1000000000) v) (aA (aN (aZ 15 329))) (aF (A.nt (A.ite (A.eq (ah 0) (ah 0)) (A.ite (A.eq (ah 0) (ah 0)) (A.ite (A.eq t (ah 0)) (A.ite (A.eq (ah 0) (ah 0)) (A.ite (A.eq (ah 0) (ah 0)) (A.ite (A.eq y (ah 0)) (A.ite (A.eq (ah 0) (ah 0)) (A.ite (A.eq r (ah 0)) aC ak) ak) ak) ak) ak) ak) ak) ak)) (aA (aN (aZ 15 329))) (aA (aN (jB bI)))))))))))))):=by kernel_rfl
theorem aoP(A:Prim)(W:Wd)(_k x t o _p y v r:Int):BQ (C5 A W AB Ak) 3000 101 [.code []] (zZ 75 [.agg [il 2,sy x,sy t,sy o,il 6,sy y,sy v,sy r]] L0)=aQ [aj x x,aj t t,aj o o,aj y y,aj v v,aj r r] (aQ [aj x x,aj t t,aj o o,aj y y,aj v v,aj r r] (aQ [aj x x,aj t t,aj o o,aj y y,aj v v,aj r r] (aQ [aj x x,aj t t,aj o o,aj y y,aj v v,aj r r] (aF (A.eq (Dy (ah 6)) (ah 0)) (aA (aN (aZ 14 329))) (aF (A.lt x (ah 1)) (aA (aN (aZ 15 329))) (aF (A.lt (ah 1000) x) (aA (aN (aZ 15 329))) (aF (A.lt o (ah 0)) (aA (aN (aZ 15 329))) (aF (A.lt (ah 7) o) (aA (aN (aZ 15 329))) (aF (A.nt (A.ite (A.eq (ah 0) (ah 0)) (A.ite (A.eq (ah 0) (ah 0)) (A.ite (A.eq t (ah 0)) (A.ite (A.eq (ah 0) (ah 0)) (A.ite (A.eq (ah 0) (ah 0)) (A.ite (A.eq y (ah 0)) (A.ite (A.eq v (ah 0)) (A.ite (A.eq r (ah 0)) aC ak) ak) ak) ak) ak) ak) ak) ak)) (aA (aN (aZ 15 329))) (aA (aN (jB bI)))))))))))):=by kernel_rfl
theorem aoQ(A:Prim)(W:Wd)(_k x t o _p y v r:Int):BQ (C5 A W AB Ak) 3000 101 [.code []] (zZ 75 [.agg [il 2,sy x,sy t,sy o,il 7,sy y,sy v,sy r]] L0)=aQ [aj x x,aj t t,aj o o,aj y y,aj v v,aj r r] (aQ [aj x x,aj t t,aj o o,aj y y,aj v v,aj r r] (aQ [aj x x,aj t t,aj o o,aj y y,aj v v,aj r r] (aQ [aj x x,aj t t,aj o o,aj y y,aj v v,aj r r] (aF (A.eq (Dy (ah 7)) (ah 0)) (aA (aN (aZ 14 329))) (aF (A.lt x (ah 1)) (aA (aN (aZ 15 329))) (aF (A.lt (ah 1000) x) (aA (aN (aZ 15 329))) (aF (A.lt o (ah 0)) (aA (aN (aZ 15 329))) (aF (A.lt (ah 7) o) (aA (aN (aZ 15 329))) (aF (A.lt y (ah 0)) (aA (aN (aZ 15 329))) (aF (A.lt (ah 1000) y) (aA (aN (aZ 15 329))) (aF (A.lt v (fF 999999999)) (aA (aN (aZ 15 329))) (aF (A.lt (ah 1000000000) v) (aA (aN (aZ 15 329))) (aF (A.nt (A.ite (A.eq (ah 0) (ah 0)) (A.ite (A.eq (ah 0) (ah 0)) (A.ite (A.eq t (ah 0)) (A.ite (A.eq (ah 0) (ah 0)) (A.ite (A.eq (ah 0) (ah 0)) (A.ite (A.eq (ah 0) (ah 0)) (A.ite (A.eq (ah 0) (ah 0)) (A.ite (A.eq r (ah 0)) aC ak) ak) ak) ak) ak) ak) ak) ak)) (aA (aN (aZ 15 329))) (aA (aN (jB bI)))))))))))))))):=by kernel_rfl
theorem aoR(A:Prim)(W:Wd)(_k x t o _p y v r:Int):BQ (C5 A W AB Ak) 3000 101 [.code []] (zZ 75 [.agg [il 2,sy x,sy t,sy o,il 8,sy y,sy v,sy r]] L0)=aQ [aj x x,aj t t,aj o o,aj y y,aj v v,aj r r] (aQ [aj x x,aj t t,aj o o,aj y y,aj v v,aj r r] (aQ [aj x x,aj t t,aj o o,aj y y,aj v v,aj r r] (aQ [aj x x,aj t t,aj o o,aj y y,aj v v,aj r r] (aF (A.eq (Dy (ah 8)) (ah 0)) (aA (aN (aZ 14 329))) (aF (A.lt x (ah 1)) (aA (aN (aZ 15 329))) (aF (A.lt (ah 1000) x) (aA (aN (aZ 15 329))) (aF (A.lt o (ah 0)) (aA (aN (aZ 15 329))) (aF (A.lt (ah 7) o) (aA (aN (aZ 15 329))) (aF (A.lt y (ah 0)) (aA (aN (aZ 15 329))) (aF (A.lt (ah 1000) y) (aA (aN (aZ 15 329))) (aF (A.nt (A.ite (A.eq (ah 0) (ah 0)) (A.ite (A.eq (ah 0) (ah 0)) (A.ite (A.eq t (ah 0)) (A.ite (A.eq (ah 0) (ah 0)) (A.ite (A.eq (ah 0) (ah 0)) (A.ite (A.eq (ah 0) (ah 0)) (A.ite (A.eq v (ah 0)) (A.ite (A.eq r (ah 0)) aC ak) ak) ak) ak) ak) ak) ak) ak)) (aA (aN (aZ 15 329))) (aA (aN (jB bI)))))))))))))):=by kernel_rfl
theorem aoS(A:Prim)(W:Wd)(_k x t o _p y v r:Int):BQ (C5 A W AB Ak) 3000 101 [.code []] (zZ 75 [.agg [il 2,sy x,sy t,sy o,il 9,sy y,sy v,sy r]] L0)=aQ [aj x x,aj t t,aj o o,aj y y,aj v v,aj r r] (aQ [aj x x,aj t t,aj o o,aj y y,aj v v,aj r r] (aQ [aj x x,aj t t,aj o o,aj y y,aj v v,aj r r] (aQ [aj x x,aj t t,aj o o,aj y y,aj v v,aj r r] (aF (A.eq (Dy (ah 9)) (ah 0)) (aA (aN (aZ 14 329))) (aF (A.lt x (ah 1)) (aA (aN (aZ 15 329))) (aF (A.lt (ah 1000) x) (aA (aN (aZ 15 329))) (aF (A.lt o (ah 0)) (aA (aN (aZ 15 329))) (aF (A.lt (ah 7) o) (aA (aN (aZ 15 329))) (aF (A.lt y (ah 0)) (aA (aN (aZ 15 329))) (aF (A.lt (ah 1000) y) (aA (aN (aZ 15 329))) (aF (A.nt (A.ite (A.eq (ah 0) (ah 0)) (A.ite (A.eq (ah 0) (ah 0)) (A.ite (A.eq t (ah 0)) (A.ite (A.eq (ah 0) (ah 0)) (A.ite (A.eq (ah 0) (ah 0)) (A.ite (A.eq (ah 0) (ah 0)) (A.ite (A.eq v (ah 0)) (A.ite (A.eq r (ah 0)) aC ak) ak) ak) ak) ak) ak) ak) ak)) (aA (aN (aZ 15 329))) (aA (aN (jB bI)))))))))))))):=by kernel_rfl
theorem aoT(A:Prim)(W:Wd)(_k x t o p y v _r:Int):BQ (C5 A W AB Ak) 3000 101 [.code []] (zZ 75 [.agg [il 3,sy x,sy t,sy o,sy p,sy y,sy v,il 1]] L0)=aQ [aj x x,aj t t,aj o o,aj p p,aj y y,aj v v] (aQ [aj x x,aj t t,aj o o,aj p p,aj y y,aj v v] (aQ [aj x x,aj t t,aj o o,aj p p,aj y y,aj v v] (aQ [aj x x,aj t t,aj o o,aj p p,aj y y,aj v v] (aI aC (aF (A.seq (CU 19 3 (ah 1)) []) (aA (aN (aZ 14 329))) (aF (A.lt x (ah 1)) (aA (aN (aZ 15 329))) (aF (A.lt (ah 1000) x) (aA (aN (aZ 15 329))) (aF (A.nt (A.ite (A.eq (ah 0) (ah 0)) (A.ite (A.eq (ah 0) (ah 0)) (A.ite (A.eq t (ah 0)) (A.ite (A.eq o (ah 0)) (A.ite (A.eq p (ah 0)) (A.ite (A.eq y (ah 0)) (A.ite (A.eq v (ah 0)) (A.ite (A.eq (ah 0) (ah 0)) aC ak) ak) ak) ak) ak) ak) ak) ak)) (aA (aN (aZ 15 329))) (aA (aN (jB bI))))))))))):=by kernel_rfl
theorem aoU(A:Prim)(W:Wd)(_k x t o p y v _r:Int):BQ (C5 A W AB Ak) 3000 101 [.code []] (zZ 75 [.agg [il 3,sy x,sy t,sy o,sy p,sy y,sy v,il 2]] L0)=aQ [aj x x,aj t t,aj o o,aj p p,aj y y,aj v v] (aQ [aj x x,aj t t,aj o o,aj p p,aj y y,aj v v] (aQ [aj x x,aj t t,aj o o,aj p p,aj y y,aj v v] (aQ [aj x x,aj t t,aj o o,aj p p,aj y y,aj v v] (aI aC (aF (A.seq (CU 19 3 (ah 2)) []) (aA (aN (aZ 14 329))) (aF (A.lt x (ah 1)) (aA (aN (aZ 15 329))) (aF (A.lt (ah 1000) x) (aA (aN (aZ 15 329))) (aF (A.nt (A.ite (A.eq (ah 0) (ah 0)) (A.ite (A.eq (ah 0) (ah 0)) (A.ite (A.eq t (ah 0)) (A.ite (A.eq o (ah 0)) (A.ite (A.eq p (ah 0)) (A.ite (A.eq y (ah 0)) (A.ite (A.eq v (ah 0)) (A.ite (A.eq (ah 0) (ah 0)) aC ak) ak) ak) ak) ak) ak) ak) ak)) (aA (aN (aZ 15 329))) (aA (aN (jB bI))))))))))):=by kernel_rfl
theorem aoV(A:Prim)(W:Wd)(_k x t o p y v _r:Int):BQ (C5 A W AB Ak) 3000 101 [.code []] (zZ 75 [.agg [il 3,sy x,sy t,sy o,sy p,sy y,sy v,il 3]] L0)=aQ [aj x x,aj t t,aj o o,aj p p,aj y y,aj v v] (aQ [aj x x,aj t t,aj o o,aj p p,aj y y,aj v v] (aQ [aj x x,aj t t,aj o o,aj p p,aj y y,aj v v] (aQ [aj x x,aj t t,aj o o,aj p p,aj y y,aj v v] (aI aC (aF (A.seq (CU 19 3 (ah 3)) []) (aA (aN (aZ 14 329))) (aF (A.lt x (ah 1)) (aA (aN (aZ 15 329))) (aF (A.lt (ah 1000) x) (aA (aN (aZ 15 329))) (aF (A.lt v (fF 999999999)) (aA (aN (aZ 15 329))) (aF (A.lt (ah 1000000000) v) (aA (aN (aZ 15 329))) (aF (A.nt (A.ite (A.eq (ah 0) (ah 0)) (A.ite (A.eq (ah 0) (ah 0)) (A.ite (A.eq t (ah 0)) (A.ite (A.eq o (ah 0)) (A.ite (A.eq p (ah 0)) (A.ite (A.eq y (ah 0)) (A.ite (A.eq (ah 0) (ah 0)) (A.ite (A.eq (ah 0) (ah 0)) aC ak) ak) ak) ak) ak) ak) ak) ak)) (aA (aN (aZ 15 329))) (aA (aN (jB bI))))))))))))):=by kernel_rfl
theorem atS(A:Prim)(W:Wd)(k x t o p y v r:Int):dead (BQ (C5 A W AB IV) 3000 101 [.code []] (zZ 75 [.agg [sy k,sy x,sy t,sy o,sy p,sy y,sy v,sy r]] L0))=aQ [aj k k,aj x x,aj t t,aj o o,aj p p,aj y y,aj v v,aj r r] (aQ [aj k k,aj x x,aj t t,aj o o,aj p p,aj y y,aj v v,aj r r] (aQ [aj k k,aj x x,aj t t,aj o o,aj p p,aj y y,aj v v,aj r r] (aQ [aj k k,aj x x,aj t t,aj o o,aj p p,aj y y,aj v v,aj r r] (aF (A.eq k (ah 1)) (aF (A.eq k (ah 2)) (aF (A.eq (Dy p) (ah 0)) (aA (aN (aZ 14 329))) (aF (A.eq k (ah 3)) (aI aC (aF (A.seq (CU 19 3 r) []) (aA (aN (aZ 14 329))) dG)) dG)) (aF (A.eq k (ah 3)) (aI aC (aF (A.seq (CU 19 3 r) []) (aA (aN (aZ 14 329))) dG)) dG)) (aF (A.eq k (ah 4)) (aF (A.eq k (ah 2)) (aF (A.eq (Dy p) (ah 0)) (aA (aN (aZ 14 329))) (aF (A.eq k (ah 3)) (aI aC (aF (A.seq (CU 19 3 r) []) (aA (aN (aZ 14 329))) dG)) dG)) (aF (A.eq k (ah 3)) (aI aC (aF (A.seq (CU 19 3 r) []) (aA (aN (aZ 14 329))) dG)) dG)) (aF (A.eq k (ah 5)) (aF (A.eq k (ah 2)) (aF (A.eq (Dy p) (ah 0)) (aA (aN (aZ 14 329))) (aF (A.eq k (ah 3)) (aI aC (aF (A.seq (CU 19 3 r) []) (aA (aN (aZ 14 329))) dG)) dG)) (aF (A.eq k (ah 3)) (aI aC (aF (A.seq (CU 19 3 r) []) (aA (aN (aZ 14 329))) dG)) dG)) (aF (A.eq k (ah 6)) (aF (A.eq k (ah 2)) (aF (A.eq (Dy p) (ah 0)) (aA (aN (aZ 14 329))) (aF (A.eq k (ah 3)) (aI aC (aF (A.seq (CU 19 3 r) []) (aA (aN (aZ 14 329))) dG)) dG)) (aF (A.eq k (ah 3)) (aI aC (aF (A.seq (CU 19 3 r) []) (aA (aN (aZ 14 329))) dG)) dG)) (aF (A.eq k (ah 7)) (aF (A.eq k (ah 2)) (aF (A.eq (Dy p) (ah 0)) (aA (aN (aZ 14 329))) (aF (A.eq k (ah 3)) (aI aC (aF (A.seq (CU 19 3 r) []) (aA (aN (aZ 14 329))) dG)) dG)) (aF (A.eq k (ah 3)) (aI aC (aF (A.seq (CU 19 3 r) []) (aA (aN (aZ 14 329))) dG)) dG)) (aF (A.eq k (ah 2)) (aF (A.eq k (ah 2)) (aF (A.eq (Dy p) (ah 0)) (aA (aN (aZ 14 329))) (aF (A.eq k (ah 3)) (aI aC (aF (A.seq (CU 19 3 r) []) (aA (aN (aZ 14 329))) dG)) dG)) (aF (A.eq k (ah 3)) (aI aC (aF (A.seq (CU 19 3 r) []) (aA (aN (aZ 14 329))) dG)) dG)) (aF (A.eq k (ah 3)) (aF (A.eq k (ah 2)) (aF (A.eq (Dy p) (ah 0)) (aA (aN (aZ 14 329))) (aF (A.eq k (ah 3)) (aI aC (aF (A.seq (CU 19 3 r) []) (aA (aN (aZ 14 329))) dG)) dG)) (aF (A.eq k (ah 3)) (aI aC (aF (A.seq (CU 19 3 r) []) (aA (aN (aZ 14 329))) dG)) dG)) (aA (aN (aZ 14 329))))))))))))):=by kernel_rfl
theorem aro(A:Prim)(W:Wd)(_k x t o p y v r:Int):dead (BQ (C5 A W AB IV) 3000 101 [.code []] (zZ 75 [.agg [il 2,sy x,sy t,sy o,sy p,sy y,sy v,sy r]] L0))=aQ [aj x x,aj t t,aj o o,aj p p,aj y y,aj v v,aj r r] (aQ [aj x x,aj t t,aj o o,aj p p,aj y y,aj v v,aj r r] (aQ [aj x x,aj t t,aj o o,aj p p,aj y y,aj v v,aj r r] (aQ [aj x x,aj t t,aj o o,aj p p,aj y y,aj v v,aj r r] (aF (A.eq (Dy p) (ah 0)) (aA (aN (aZ 14 329))) dG)))):=by kernel_rfl
theorem arp(A:Prim)(W:Wd)(_k x t o p y v r:Int):dead (BQ (C5 A W AB IV) 3000 101 [.code []] (zZ 75 [.agg [il 3,sy x,sy t,sy o,sy p,sy y,sy v,sy r]] L0))=aQ [aj x x,aj t t,aj o o,aj p p,aj y y,aj v v,aj r r] (aQ [aj x x,aj t t,aj o o,aj p p,aj y y,aj v v,aj r r] (aQ [aj x x,aj t t,aj o o,aj p p,aj y y,aj v v,aj r r] (aQ [aj x x,aj t t,aj o o,aj p p,aj y y,aj v v,aj r r] (aI aC (aF (A.seq (CU 19 3 r) []) (aA (aN (aZ 14 329))) dG))))):=by kernel_rfl
end Go.Ad
namespace Go.BF
open Go Go.Sx
def U3(e:Ev):Prop:=(1<=e.kind/\e.kind<=7)/\(e.kind=2->1<=e.op/\e.op<=9)/\(e.kind=3->1<=e.ret/\e.ret<=3)
def Ag(e:Ev):Prop:=
 (1<=e.tx/\e.tx<=1000)/\
 ((e.kind=1/\0<=e.thread/\e.thread<=7)\/(e.kind≠1/\e.thread=0))/\
 ((e.kind=2/\0<=e.obj/\e.obj<=7)\/(e.kind≠2/\e.obj=0))/\
 ((e.kind=2/\1<=e.op/\e.op<=9)\/(e.kind≠2/\e.op=0))/\
 ((e.kind=2/\7<=e.op/\0<=e.key/\e.key<=1000)\/(¬(e.kind=2/\7<=e.op)/\e.key=0))/\
 ((((e.kind=2/\(e.op=2\/e.op=3\/e.op=5\/e.op=7))\/(e.kind=3/\e.ret=3))/\-1000000000<=e.val/\e.val<=1000000000)\/(¬((e.kind=2/\(e.op=2\/e.op=3\/e.op=5\/e.op=7))\/(e.kind=3/\e.ret=3))/\e.val=0))/\
 ((e.kind=3/\1<=e.ret/\e.ret<=3)\/(e.kind≠3/\e.ret=0))
instance (e:Ev):Decidable (U3 e):=by unfold U3;infer_instance
instance (e:Ev):Decidable (Ag e):=by unfold Ag;infer_instance
end Go.BF
namespace Go.Ad
open Go Go.Sx Go.BF
theorem atU{H:Mem}{w:World}{φ:Sh->Prop}{x t o p y v r:Int}(hN:Ag ⟨1,x,t,o,p,y,v,r⟩->φ (.v .nilIface))(h9:¬Ag ⟨1,x,t,o,p,y,v,r⟩->φ (.er 15 329)):
  Dz (BG aB (C5 zV W5 AB Ak) (K0 H w) bP φ) (BQ (C5 zV W5 AB Ak) 3000 101 [.code []] (zZ 75 [.agg [il 1,sy x,sy t,sy o,sy p,sy y,sy v,sy r]] L0)):=by
 rw[atL zV W5 0 x t o p y v r,<-BK];simp[fK,BG,dF,iI,Aa,Ap,BP,DW];repeat' (first|refine bW ?_ ?_|intro _)
 all_goals first|exact h9 (by simp only[Ag];omega) |exact hN (by simp[Ag]<;>omega) |exact hN (by simp_all [Ag])
theorem atV{H:Mem}{w:World}{φ:Sh->Prop}{x t o p y v r:Int}(hN:Ag ⟨4,x,t,o,p,y,v,r⟩->φ (.v .nilIface))(h9:¬Ag ⟨4,x,t,o,p,y,v,r⟩->φ (.er 15 329)):
  Dz (BG aB (C5 zV W5 AB Ak) (K0 H w) bP φ) (BQ (C5 zV W5 AB Ak) 3000 101 [.code []] (zZ 75 [.agg [il 4,sy x,sy t,sy o,sy p,sy y,sy v,sy r]] L0)):=by
 rw[atM zV W5 0 x t o p y v r,<-BK];simp[fK,BG,dF,iI,Aa,Ap,BP,DW];repeat' (first|refine bW ?_ ?_|intro _)
 all_goals first|exact h9 (by simp only[Ag];omega) |exact hN (by simp[Ag]<;>omega) |exact hN (by simp_all [Ag])
theorem atW{H:Mem}{w:World}{φ:Sh->Prop}{x t o p y v r:Int}(hN:Ag ⟨5,x,t,o,p,y,v,r⟩->φ (.v .nilIface))(h9:¬Ag ⟨5,x,t,o,p,y,v,r⟩->φ (.er 15 329)):
  Dz (BG aB (C5 zV W5 AB Ak) (K0 H w) bP φ) (BQ (C5 zV W5 AB Ak) 3000 101 [.code []] (zZ 75 [.agg [il 5,sy x,sy t,sy o,sy p,sy y,sy v,sy r]] L0)):=by
 rw[atN zV W5 0 x t o p y v r,<-BK];simp[fK,BG,dF,iI,Aa,Ap,BP,DW];repeat' (first|refine bW ?_ ?_|intro _)
 all_goals first|exact h9 (by simp only[Ag];omega) |exact hN (by simp[Ag]<;>omega) |exact hN (by simp_all [Ag])
theorem atX{H:Mem}{w:World}{φ:Sh->Prop}{x t o p y v r:Int}(hN:Ag ⟨6,x,t,o,p,y,v,r⟩->φ (.v .nilIface))(h9:¬Ag ⟨6,x,t,o,p,y,v,r⟩->φ (.er 15 329)):
  Dz (BG aB (C5 zV W5 AB Ak) (K0 H w) bP φ) (BQ (C5 zV W5 AB Ak) 3000 101 [.code []] (zZ 75 [.agg [il 6,sy x,sy t,sy o,sy p,sy y,sy v,sy r]] L0)):=by
 rw[atO zV W5 0 x t o p y v r,<-BK];simp[fK,BG,dF,iI,Aa,Ap,BP,DW];repeat' (first|refine bW ?_ ?_|intro _)
 all_goals first|exact h9 (by simp only[Ag];omega) |exact hN (by simp[Ag]<;>omega) |exact hN (by simp_all [Ag])
theorem atY{H:Mem}{w:World}{φ:Sh->Prop}{x t o p y v r:Int}(hN:Ag ⟨7,x,t,o,p,y,v,r⟩->φ (.v .nilIface))(h9:¬Ag ⟨7,x,t,o,p,y,v,r⟩->φ (.er 15 329)):
  Dz (BG aB (C5 zV W5 AB Ak) (K0 H w) bP φ) (BQ (C5 zV W5 AB Ak) 3000 101 [.code []] (zZ 75 [.agg [il 7,sy x,sy t,sy o,sy p,sy y,sy v,sy r]] L0)):=by
 rw[atP zV W5 0 x t o p y v r,<-BK];simp[fK,BG,dF,iI,Aa,Ap,BP,DW];repeat' (first|refine bW ?_ ?_|intro _)
 all_goals first|exact h9 (by simp only[Ag];omega) |exact hN (by simp[Ag]<;>omega) |exact hN (by simp_all [Ag])
theorem aoW{H:Mem}{w:World}{φ:Sh->Prop}{x t o p y v r:Int}(hN:Ag ⟨2,x,t,o,1,y,v,r⟩->φ (.v .nilIface))(h9:¬Ag ⟨2,x,t,o,1,y,v,r⟩->φ (.er 15 329)):
  Dz (BG aB (C5 zV W5 AB Ak) (K0 H w) bP φ) (BQ (C5 zV W5 AB Ak) 3000 101 [.code []] (zZ 75 [.agg [il 2,sy x,sy t,sy o,il 1,sy y,sy v,sy r]] L0)):=by
 rw[aoK zV W5 0 x t o p y v r,<-BK];simp[fK,BG,dF,iI,Aa,Ap,BP,DW,Dy];repeat' (first|refine bW ?_ ?_|intro _)
 all_goals first|exact h9 (by simp only[Ag];omega) |exact hN (by simp[Ag]<;>omega) |exact hN (by simp_all [Ag])
theorem aoX{H:Mem}{w:World}{φ:Sh->Prop}{x t o p y v r:Int}(hN:Ag ⟨2,x,t,o,2,y,v,r⟩->φ (.v .nilIface))(h9:¬Ag ⟨2,x,t,o,2,y,v,r⟩->φ (.er 15 329)):
  Dz (BG aB (C5 zV W5 AB Ak) (K0 H w) bP φ) (BQ (C5 zV W5 AB Ak) 3000 101 [.code []] (zZ 75 [.agg [il 2,sy x,sy t,sy o,il 2,sy y,sy v,sy r]] L0)):=by
 rw[aoL zV W5 0 x t o p y v r,<-BK];simp[fK,BG,dF,iI,Aa,Ap,BP,DW,Dy];repeat' (first|refine bW ?_ ?_|intro _)
 all_goals first|exact h9 (by simp only[Ag];omega) |exact hN (by simp[Ag]<;>omega) |exact hN (by simp_all [Ag])
theorem aoY{H:Mem}{w:World}{φ:Sh->Prop}{x t o p y v r:Int}(hN:Ag ⟨2,x,t,o,3,y,v,r⟩->φ (.v .nilIface))(h9:¬Ag ⟨2,x,t,o,3,y,v,r⟩->φ (.er 15 329)):
  Dz (BG aB (C5 zV W5 AB Ak) (K0 H w) bP φ) (BQ (C5 zV W5 AB Ak) 3000 101 [.code []] (zZ 75 [.agg [il 2,sy x,sy t,sy o,il 3,sy y,sy v,sy r]] L0)):=by
 rw[aoM zV W5 0 x t o p y v r,<-BK];simp[fK,BG,dF,iI,Aa,Ap,BP,DW,Dy];repeat' (first|refine bW ?_ ?_|intro _)
 all_goals first|exact h9 (by simp only[Ag];omega) |exact hN (by simp[Ag]<;>omega) |exact hN (by simp_all [Ag])
theorem aoZ{H:Mem}{w:World}{φ:Sh->Prop}{x t o p y v r:Int}(hN:Ag ⟨2,x,t,o,4,y,v,r⟩->φ (.v .nilIface))(h9:¬Ag ⟨2,x,t,o,4,y,v,r⟩->φ (.er 15 329)):
  Dz (BG aB (C5 zV W5 AB Ak) (K0 H w) bP φ) (BQ (C5 zV W5 AB Ak) 3000 101 [.code []] (zZ 75 [.agg [il 2,sy x,sy t,sy o,il 4,sy y,sy v,sy r]] L0)):=by
 rw[aoN zV W5 0 x t o p y v r,<-BK];simp[fK,BG,dF,iI,Aa,Ap,BP,DW,Dy];repeat' (first|refine bW ?_ ?_|intro _)
 all_goals first|exact h9 (by simp only[Ag];omega) |exact hN (by simp[Ag]<;>omega) |exact hN (by simp_all [Ag])
theorem ao0{H:Mem}{w:World}{φ:Sh->Prop}{x t o p y v r:Int}(hN:Ag ⟨2,x,t,o,5,y,v,r⟩->φ (.v .nilIface))(h9:¬Ag ⟨2,x,t,o,5,y,v,r⟩->φ (.er 15 329)):
  Dz (BG aB (C5 zV W5 AB Ak) (K0 H w) bP φ) (BQ (C5 zV W5 AB Ak) 3000 101 [.code []] (zZ 75 [.agg [il 2,sy x,sy t,sy o,il 5,sy y,sy v,sy r]] L0)):=by
 rw[aoO zV W5 0 x t o p y v r,<-BK];simp[fK,BG,dF,iI,Aa,Ap,BP,DW,Dy];repeat' (first|refine bW ?_ ?_|intro _)
 all_goals first|exact h9 (by simp only[Ag];omega) |exact hN (by simp[Ag]<;>omega) |exact hN (by simp_all [Ag])
theorem ao1{H:Mem}{w:World}{φ:Sh->Prop}{x t o p y v r:Int}(hN:Ag ⟨2,x,t,o,6,y,v,r⟩->φ (.v .nilIface))(h9:¬Ag ⟨2,x,t,o,6,y,v,r⟩->φ (.er 15 329)):
  Dz (BG aB (C5 zV W5 AB Ak) (K0 H w) bP φ) (BQ (C5 zV W5 AB Ak) 3000 101 [.code []] (zZ 75 [.agg [il 2,sy x,sy t,sy o,il 6,sy y,sy v,sy r]] L0)):=by
 rw[aoP zV W5 0 x t o p y v r,<-BK];simp[fK,BG,dF,iI,Aa,Ap,BP,DW,Dy];repeat' (first|refine bW ?_ ?_|intro _)
 all_goals first|exact h9 (by simp only[Ag];omega) |exact hN (by simp[Ag]<;>omega) |exact hN (by simp_all [Ag])
theorem ao2{H:Mem}{w:World}{φ:Sh->Prop}{x t o p y v r:Int}(hN:Ag ⟨2,x,t,o,7,y,v,r⟩->φ (.v .nilIface))(h9:¬Ag ⟨2,x,t,o,7,y,v,r⟩->φ (.er 15 329)):
  Dz (BG aB (C5 zV W5 AB Ak) (K0 H w) bP φ) (BQ (C5 zV W5 AB Ak) 3000 101 [.code []] (zZ 75 [.agg [il 2,sy x,sy t,sy o,il 7,sy y,sy v,sy r]] L0)):=by
 rw[aoQ zV W5 0 x t o p y v r,<-BK];simp[fK,BG,dF,iI,Aa,Ap,BP,DW,Dy];repeat' (first|refine bW ?_ ?_|intro _)
 all_goals first|exact h9 (by simp only[Ag];omega) |exact hN (by simp[Ag]<;>omega) |exact hN (by simp_all [Ag])
theorem ao3{H:Mem}{w:World}{φ:Sh->Prop}{x t o p y v r:Int}(hN:Ag ⟨2,x,t,o,8,y,v,r⟩->φ (.v .nilIface))(h9:¬Ag ⟨2,x,t,o,8,y,v,r⟩->φ (.er 15 329)):
  Dz (BG aB (C5 zV W5 AB Ak) (K0 H w) bP φ) (BQ (C5 zV W5 AB Ak) 3000 101 [.code []] (zZ 75 [.agg [il 2,sy x,sy t,sy o,il 8,sy y,sy v,sy r]] L0)):=by
 rw[aoR zV W5 0 x t o p y v r,<-BK];simp[fK,BG,dF,iI,Aa,Ap,BP,DW,Dy];repeat' (first|refine bW ?_ ?_|intro _)
 all_goals first|exact h9 (by simp only[Ag];omega) |exact hN (by simp[Ag]<;>omega) |exact hN (by simp_all [Ag])
theorem ao4{H:Mem}{w:World}{φ:Sh->Prop}{x t o p y v r:Int}(hN:Ag ⟨2,x,t,o,9,y,v,r⟩->φ (.v .nilIface))(h9:¬Ag ⟨2,x,t,o,9,y,v,r⟩->φ (.er 15 329)):
  Dz (BG aB (C5 zV W5 AB Ak) (K0 H w) bP φ) (BQ (C5 zV W5 AB Ak) 3000 101 [.code []] (zZ 75 [.agg [il 2,sy x,sy t,sy o,il 9,sy y,sy v,sy r]] L0)):=by
 rw[aoS zV W5 0 x t o p y v r,<-BK];simp[fK,BG,dF,iI,Aa,Ap,BP,DW,Dy];repeat' (first|refine bW ?_ ?_|intro _)
 all_goals first|exact h9 (by simp only[Ag];omega) |exact hN (by simp[Ag]<;>omega) |exact hN (by simp_all [Ag])
theorem ao5{H:Mem}{w:World}{φ:Sh->Prop}{x t o p y v r:Int}(hN:Ag ⟨3,x,t,o,p,y,v,1⟩->φ (.v .nilIface))(h9:¬Ag ⟨3,x,t,o,p,y,v,1⟩->φ (.er 15 329)):
  Dz (BG aB (C5 zV W5 AB Ak) (K0 H w) bP φ) (BQ (C5 zV W5 AB Ak) 3000 101 [.code []] (zZ 75 [.agg [il 3,sy x,sy t,sy o,sy p,sy y,sy v,il 1]] L0)):=by
 rw[aoT zV W5 0 x t o p y v r,<-BK];simp[fK,BG,dF,iI,Aa,Ap,BP,DW,O7 akz,Yh,idx,iR];repeat' (first|refine bW ?_ ?_|intro _)
 all_goals first|exact h9 (by simp only[Ag];omega) |exact hN (by simp[Ag]<;>omega) |exact hN (by simp_all [Ag])
theorem ao6{H:Mem}{w:World}{φ:Sh->Prop}{x t o p y v r:Int}(hN:Ag ⟨3,x,t,o,p,y,v,2⟩->φ (.v .nilIface))(h9:¬Ag ⟨3,x,t,o,p,y,v,2⟩->φ (.er 15 329)):
  Dz (BG aB (C5 zV W5 AB Ak) (K0 H w) bP φ) (BQ (C5 zV W5 AB Ak) 3000 101 [.code []] (zZ 75 [.agg [il 3,sy x,sy t,sy o,sy p,sy y,sy v,il 2]] L0)):=by
 rw[aoU zV W5 0 x t o p y v r,<-BK];simp[fK,BG,dF,iI,Aa,Ap,BP,DW,O7 akz,Yh,idx,iR];repeat' (first|refine bW ?_ ?_|intro _)
 all_goals first|exact h9 (by simp only[Ag];omega) |exact hN (by simp[Ag]<;>omega) |exact hN (by simp_all [Ag])
theorem ao7{H:Mem}{w:World}{φ:Sh->Prop}{x t o p y v r:Int}(hN:Ag ⟨3,x,t,o,p,y,v,3⟩->φ (.v .nilIface))(h9:¬Ag ⟨3,x,t,o,p,y,v,3⟩->φ (.er 15 329)):
  Dz (BG aB (C5 zV W5 AB Ak) (K0 H w) bP φ) (BQ (C5 zV W5 AB Ak) 3000 101 [.code []] (zZ 75 [.agg [il 3,sy x,sy t,sy o,sy p,sy y,sy v,il 3]] L0)):=by
 rw[aoV zV W5 0 x t o p y v r,<-BK];simp[fK,BG,dF,iI,Aa,Ap,BP,DW,O7 akz,Yh,idx,iR];repeat' (first|refine bW ?_ ?_|intro _)
 all_goals first|exact h9 (by simp only[Ag];omega) |exact hN (by simp[Ag]<;>omega) |exact hN (by simp_all [Ag])
end Go.Ad
namespace Go.BF
open Go Go.Sx
def Ou(e:Ev):Bool:=decide (U3 e)
def fieldsB(e:Ev):Bool:=decide (Ag e)
def CQ(n:Int):Bool:=decide (-9223372036854775808<=n/\n<=9223372036854775807)
def abK:List Sh->Option Ev
 |[a,b,c,d,e,f,g,h]=>match AZ a with
  |none=>aK |some a=>match AZ b with
   |none=>aK |some b=>match AZ c with
    |none=>aK |some c=>match AZ d with
     |none=>aK |some d=>match AZ e with
      |none=>aK |some e=>match AZ f with
       |none=>aK |some f=>match AZ g with
        |none=>aK |some g=>match AZ h with
         |none=>aK |some h=>ay ⟨a,b,c,d,e,f,g,h⟩
 |_=>aK
theorem Ce{H:Mem}{l l':List Sh}{v:Value}(hv:Rep H (.agg l) v)(hl:l'.length=l.length)(h:∀(j:Nat) (s s':Sh),l[j]?=ay s->l'[j]?=ay s'->∀u,Rep H s u->Rep H s' u):Rep H (.agg l') v:=by
 cases hv with
 |agg _ vs h3 h4=>
  refine .agg _ vs (by rw[hl];exact h3) fun j s' v' e1 e2=>?_
  have hj:j<l.length:=by
   rw[<-hl];exact (List.getElem?_eq_some_iff.1 e1).1
  exact h j l[j] s' (aV hj) e1 _ (h4 j l[j] v' (aV hj) e2)
theorem ahh{H:Mem}{l:List Sh}{e:Ev}{v:Value}(h:abK l=ay e)(hv:Rep H (.agg l) v):Rep H (.agg (EI e)) v:=by
 unfold abK at h;repeat' split at h
 all_goals first|cases h;done|skip
 rename_i h1 _ _ h2 _ _ h3 _ _ h4 _ _ h5 _ _ h6 _ _ h7 _ _ h8;cases h;refine Ce hv rfl fun j s s' e1 e2 u hu=>?_
 match j,e1,e2 with
 |0,e1,e2=>simp[EI] at e1 e2;subst e1 e2;exact Ei h1 hu |1,e1,e2=>simp[EI] at e1 e2;subst e1 e2;exact Ei h2 hu |2,e1,e2=>simp[EI] at e1 e2;subst e1 e2;exact Ei h3 hu |3,e1,e2=>simp[EI] at e1 e2;subst e1 e2;exact Ei h4 hu |4,e1,e2=>simp[EI] at e1 e2;subst e1 e2;exact Ei h5 hu |5,e1,e2=>simp[EI] at e1 e2;subst e1 e2;exact Ei h6 hu |6,e1,e2=>simp[EI] at e1 e2;subst e1 e2;exact Ei h7 hu |7,e1,e2=>simp[EI] at e1 e2;subst e1 e2;exact Ei h8 hu |j+8,e1,e2=>simp[EI] at e2
theorem Eu{H:Mem}{c:Int}{u:Value}(h:Rep H (.i .i64 c) u):Rep H (.v (.int .i64 c)) u:=by
 cases h;exact .v _ rfl
end Go.BF
namespace Go.Ad
open Go Go.Sx Go.BF
def ao8:List Sh->Tree Sh
 |[.agg l]=>match abK l with
  |some e=>.need (Ou e) (.node (fieldsB e) (.leaf (.v .nilIface)) (.leaf (.er 15 329))) |none=>.fail
 |_=>.fail
def ao9:List Sh->Tree Sh
 |[.agg l]=>match abK l with
  |some e=>.need (CQ e.ret) (.need (!Ou e) (.leaf (.er 14 329))) |none=>.fail
 |_=>.fail
def F56:List Sh->Tree Sh
 |[.agg l]=>match abK l with
  |some e=>.need (CQ e.ret) (.node (Ou e) (.node (fieldsB e) (.leaf (.v .nilIface)) (.leaf (.er 15 329))) (.leaf (.er 14 329))) |none=>.fail
 |_=>.fail
theorem atZ{H:Mem}{x t o p y v r:Int}{u:Value}(h:Rep H (.agg (EI ⟨1,x,t,o,p,y,v,r⟩)) u):Rep H (.agg [il 1,sy x,sy t,sy o,sy p,sy y,sy v,sy r]) u:=by
 refine Ce h rfl fun j s s' e1 e2 u hu=>?_
 match j,e1,e2 with
 |0,e1,e2|1,e1,e2|2,e1,e2|3,e1,e2|4,e1,e2|5,e1,e2|6,e1,e2|7,e1,e2=>simp[EI] at e1 e2;subst e1 e2;first|exact hu|exact Eu hu
 |j+8,e1,e2=>simp at e2
theorem at1{H:Mem}{x t o p y v r:Int}{u:Value}(h:Rep H (.agg (EI ⟨4,x,t,o,p,y,v,r⟩)) u):Rep H (.agg [il 4,sy x,sy t,sy o,sy p,sy y,sy v,sy r]) u:=by
 refine Ce h rfl fun j s s' e1 e2 u hu=>?_
 match j,e1,e2 with
 |0,e1,e2|1,e1,e2|2,e1,e2|3,e1,e2|4,e1,e2|5,e1,e2|6,e1,e2|7,e1,e2=>simp[EI] at e1 e2;subst e1 e2;first|exact hu|exact Eu hu
 |j+8,e1,e2=>simp at e2
theorem at6{H:Mem}{x t o p y v r:Int}{u:Value}(h:Rep H (.agg (EI ⟨5,x,t,o,p,y,v,r⟩)) u):Rep H (.agg [il 5,sy x,sy t,sy o,sy p,sy y,sy v,sy r]) u:=by
 refine Ce h rfl fun j s s' e1 e2 u hu=>?_
 match j,e1,e2 with
 |0,e1,e2|1,e1,e2|2,e1,e2|3,e1,e2|4,e1,e2|5,e1,e2|6,e1,e2|7,e1,e2=>simp[EI] at e1 e2;subst e1 e2;first|exact hu|exact Eu hu
 |j+8,e1,e2=>simp at e2
theorem at7{H:Mem}{x t o p y v r:Int}{u:Value}(h:Rep H (.agg (EI ⟨6,x,t,o,p,y,v,r⟩)) u):Rep H (.agg [il 6,sy x,sy t,sy o,sy p,sy y,sy v,sy r]) u:=by
 refine Ce h rfl fun j s s' e1 e2 u hu=>?_
 match j,e1,e2 with
 |0,e1,e2|1,e1,e2|2,e1,e2|3,e1,e2|4,e1,e2|5,e1,e2|6,e1,e2|7,e1,e2=>simp[EI] at e1 e2;subst e1 e2;first|exact hu|exact Eu hu
 |j+8,e1,e2=>simp at e2
theorem aua{H:Mem}{x t o p y v r:Int}{u:Value}(h:Rep H (.agg (EI ⟨7,x,t,o,p,y,v,r⟩)) u):Rep H (.agg [il 7,sy x,sy t,sy o,sy p,sy y,sy v,sy r]) u:=by
 refine Ce h rfl fun j s s' e1 e2 u hu=>?_
 match j,e1,e2 with
 |0,e1,e2|1,e1,e2|2,e1,e2|3,e1,e2|4,e1,e2|5,e1,e2|6,e1,e2|7,e1,e2=>simp[EI] at e1 e2;subst e1 e2;first|exact hu|exact Eu hu
 |j+8,e1,e2=>simp at e2
theorem apa{H:Mem}{x t o p y v r:Int}{u:Value}(h:Rep H (.agg (EI ⟨2,x,t,o,1,y,v,r⟩)) u):Rep H (.agg [il 2,sy x,sy t,sy o,il 1,sy y,sy v,sy r]) u:=by
 refine Ce h rfl fun j s s' e1 e2 u hu=>?_
 match j,e1,e2 with
 |0,e1,e2|1,e1,e2|2,e1,e2|3,e1,e2|4,e1,e2|5,e1,e2|6,e1,e2|7,e1,e2=>simp[EI] at e1 e2;subst e1 e2;first|exact hu|exact Eu hu
 |j+8,e1,e2=>simp at e2
theorem apb{H:Mem}{x t o p y v r:Int}{u:Value}(h:Rep H (.agg (EI ⟨2,x,t,o,2,y,v,r⟩)) u):Rep H (.agg [il 2,sy x,sy t,sy o,il 2,sy y,sy v,sy r]) u:=by
 refine Ce h rfl fun j s s' e1 e2 u hu=>?_
 match j,e1,e2 with
 |0,e1,e2|1,e1,e2|2,e1,e2|3,e1,e2|4,e1,e2|5,e1,e2|6,e1,e2|7,e1,e2=>simp[EI] at e1 e2;subst e1 e2;first|exact hu|exact Eu hu
 |j+8,e1,e2=>simp at e2
theorem apc{H:Mem}{x t o p y v r:Int}{u:Value}(h:Rep H (.agg (EI ⟨2,x,t,o,3,y,v,r⟩)) u):Rep H (.agg [il 2,sy x,sy t,sy o,il 3,sy y,sy v,sy r]) u:=by
 refine Ce h rfl fun j s s' e1 e2 u hu=>?_
 match j,e1,e2 with
 |0,e1,e2|1,e1,e2|2,e1,e2|3,e1,e2|4,e1,e2|5,e1,e2|6,e1,e2|7,e1,e2=>simp[EI] at e1 e2;subst e1 e2;first|exact hu|exact Eu hu
 |j+8,e1,e2=>simp at e2
theorem apd{H:Mem}{x t o p y v r:Int}{u:Value}(h:Rep H (.agg (EI ⟨2,x,t,o,4,y,v,r⟩)) u):Rep H (.agg [il 2,sy x,sy t,sy o,il 4,sy y,sy v,sy r]) u:=by
 refine Ce h rfl fun j s s' e1 e2 u hu=>?_
 match j,e1,e2 with
 |0,e1,e2|1,e1,e2|2,e1,e2|3,e1,e2|4,e1,e2|5,e1,e2|6,e1,e2|7,e1,e2=>simp[EI] at e1 e2;subst e1 e2;first|exact hu|exact Eu hu
 |j+8,e1,e2=>simp at e2
theorem ape{H:Mem}{x t o p y v r:Int}{u:Value}(h:Rep H (.agg (EI ⟨2,x,t,o,5,y,v,r⟩)) u):Rep H (.agg [il 2,sy x,sy t,sy o,il 5,sy y,sy v,sy r]) u:=by
 refine Ce h rfl fun j s s' e1 e2 u hu=>?_
 match j,e1,e2 with
 |0,e1,e2|1,e1,e2|2,e1,e2|3,e1,e2|4,e1,e2|5,e1,e2|6,e1,e2|7,e1,e2=>simp[EI] at e1 e2;subst e1 e2;first|exact hu|exact Eu hu
 |j+8,e1,e2=>simp at e2
theorem apf{H:Mem}{x t o p y v r:Int}{u:Value}(h:Rep H (.agg (EI ⟨2,x,t,o,6,y,v,r⟩)) u):Rep H (.agg [il 2,sy x,sy t,sy o,il 6,sy y,sy v,sy r]) u:=by
 refine Ce h rfl fun j s s' e1 e2 u hu=>?_
 match j,e1,e2 with
 |0,e1,e2|1,e1,e2|2,e1,e2|3,e1,e2|4,e1,e2|5,e1,e2|6,e1,e2|7,e1,e2=>simp[EI] at e1 e2;subst e1 e2;first|exact hu|exact Eu hu
 |j+8,e1,e2=>simp at e2
theorem apg{H:Mem}{x t o p y v r:Int}{u:Value}(h:Rep H (.agg (EI ⟨2,x,t,o,7,y,v,r⟩)) u):Rep H (.agg [il 2,sy x,sy t,sy o,il 7,sy y,sy v,sy r]) u:=by
 refine Ce h rfl fun j s s' e1 e2 u hu=>?_
 match j,e1,e2 with
 |0,e1,e2|1,e1,e2|2,e1,e2|3,e1,e2|4,e1,e2|5,e1,e2|6,e1,e2|7,e1,e2=>simp[EI] at e1 e2;subst e1 e2;first|exact hu|exact Eu hu
 |j+8,e1,e2=>simp at e2
theorem aph{H:Mem}{x t o p y v r:Int}{u:Value}(h:Rep H (.agg (EI ⟨2,x,t,o,8,y,v,r⟩)) u):Rep H (.agg [il 2,sy x,sy t,sy o,il 8,sy y,sy v,sy r]) u:=by
 refine Ce h rfl fun j s s' e1 e2 u hu=>?_
 match j,e1,e2 with
 |0,e1,e2|1,e1,e2|2,e1,e2|3,e1,e2|4,e1,e2|5,e1,e2|6,e1,e2|7,e1,e2=>simp[EI] at e1 e2;subst e1 e2;first|exact hu|exact Eu hu
 |j+8,e1,e2=>simp at e2
theorem apj{H:Mem}{x t o p y v r:Int}{u:Value}(h:Rep H (.agg (EI ⟨2,x,t,o,9,y,v,r⟩)) u):Rep H (.agg [il 2,sy x,sy t,sy o,il 9,sy y,sy v,sy r]) u:=by
 refine Ce h rfl fun j s s' e1 e2 u hu=>?_
 match j,e1,e2 with
 |0,e1,e2|1,e1,e2|2,e1,e2|3,e1,e2|4,e1,e2|5,e1,e2|6,e1,e2|7,e1,e2=>simp[EI] at e1 e2;subst e1 e2;first|exact hu|exact Eu hu
 |j+8,e1,e2=>simp at e2
theorem apk{H:Mem}{x t o p y v r:Int}{u:Value}(h:Rep H (.agg (EI ⟨3,x,t,o,p,y,v,1⟩)) u):Rep H (.agg [il 3,sy x,sy t,sy o,sy p,sy y,sy v,il 1]) u:=by
 refine Ce h rfl fun j s s' e1 e2 u hu=>?_
 match j,e1,e2 with
 |0,e1,e2|1,e1,e2|2,e1,e2|3,e1,e2|4,e1,e2|5,e1,e2|6,e1,e2|7,e1,e2=>simp[EI] at e1 e2;subst e1 e2;first|exact hu|exact Eu hu
 |j+8,e1,e2=>simp at e2
theorem apl{H:Mem}{x t o p y v r:Int}{u:Value}(h:Rep H (.agg (EI ⟨3,x,t,o,p,y,v,2⟩)) u):Rep H (.agg [il 3,sy x,sy t,sy o,sy p,sy y,sy v,il 2]) u:=by
 refine Ce h rfl fun j s s' e1 e2 u hu=>?_
 match j,e1,e2 with
 |0,e1,e2|1,e1,e2|2,e1,e2|3,e1,e2|4,e1,e2|5,e1,e2|6,e1,e2|7,e1,e2=>simp[EI] at e1 e2;subst e1 e2;first|exact hu|exact Eu hu
 |j+8,e1,e2=>simp at e2
theorem apm{H:Mem}{x t o p y v r:Int}{u:Value}(h:Rep H (.agg (EI ⟨3,x,t,o,p,y,v,3⟩)) u):Rep H (.agg [il 3,sy x,sy t,sy o,sy p,sy y,sy v,il 3]) u:=by
 refine Ce h rfl fun j s s' e1 e2 u hu=>?_
 match j,e1,e2 with
 |0,e1,e2|1,e1,e2|2,e1,e2|3,e1,e2|4,e1,e2|5,e1,e2|6,e1,e2|7,e1,e2=>simp[EI] at e1 e2;subst e1 e2;first|exact hu|exact Eu hu
 |j+8,e1,e2=>simp at e2
theorem codes{P:Ev->Prop}{e:Ev}(hc:U3 e)
  (h_1:∀x t o p y v r:Int,P ⟨1,x,t,o,p,y,v,r⟩)
  (h_4:∀x t o p y v r:Int,P ⟨4,x,t,o,p,y,v,r⟩)
  (h_5:∀x t o p y v r:Int,P ⟨5,x,t,o,p,y,v,r⟩)
  (h_6:∀x t o p y v r:Int,P ⟨6,x,t,o,p,y,v,r⟩)
  (h_7:∀x t o p y v r:Int,P ⟨7,x,t,o,p,y,v,r⟩)
  (aub:∀x t o p y v r:Int,P ⟨2,x,t,o,1,y,v,r⟩)
  (auc:∀x t o p y v r:Int,P ⟨2,x,t,o,2,y,v,r⟩)
  (aud:∀x t o p y v r:Int,P ⟨2,x,t,o,3,y,v,r⟩)
  (aue:∀x t o p y v r:Int,P ⟨2,x,t,o,4,y,v,r⟩)
  (auf:∀x t o p y v r:Int,P ⟨2,x,t,o,5,y,v,r⟩)
  (aug:∀x t o p y v r:Int,P ⟨2,x,t,o,6,y,v,r⟩)
  (auh:∀x t o p y v r:Int,P ⟨2,x,t,o,7,y,v,r⟩)
  (aui:∀x t o p y v r:Int,P ⟨2,x,t,o,8,y,v,r⟩)
  (auj:∀x t o p y v r:Int,P ⟨2,x,t,o,9,y,v,r⟩)
  (auk:∀x t o p y v r:Int,P ⟨3,x,t,o,p,y,v,1⟩)
  (aul:∀x t o p y v r:Int,P ⟨3,x,t,o,p,y,v,2⟩)
  (aum:∀x t o p y v r:Int,P ⟨3,x,t,o,p,y,v,3⟩)
  : P e:=by
 obtain ⟨k,x,t,o,p,y,v,r⟩:=e;obtain ⟨h1,h2,h3⟩:=hc;simp only at h1 h2 h3;have hk:k=1\/k=2\/k=3\/k=4\/k=5\/k=6\/k=7:=by omega
 rcases hk with rfl|rfl|rfl|rfl|rfl|rfl|rfl
 ·exact h_1 x t o p y v r
 ·have h2:=h2 rfl
  have hp:p=1\/p=2\/p=3\/p=4\/p=5\/p=6\/p=7\/p=8\/p=9:=by omega
  rcases hp with rfl|rfl|rfl|rfl|rfl|rfl|rfl|rfl|rfl
  ·exact aub x t o 0 y v r
  ·exact auc x t o 0 y v r
  ·exact aud x t o 0 y v r
  ·exact aue x t o 0 y v r
  ·exact auf x t o 0 y v r
  ·exact aug x t o 0 y v r
  ·exact auh x t o 0 y v r
  ·exact aui x t o 0 y v r
  ·exact auj x t o 0 y v r
 ·have h3:=h3 rfl
  have hr:r=1\/r=2\/r=3:=by omega
  rcases hr with rfl|rfl|rfl
  ·exact auk x t o p y v 0
  ·exact aul x t o p y v 0
  ·exact aum x t o p y v 0
 ·exact h_4 x t o p y v r
 ·exact h_5 x t o p y v r
 ·exact h_6 x t o p y v r
 ·exact h_7 x t o p y v r
theorem aun{H:Mem}{w:World}{φ:Sh->Prop}{u:Value}{e:Ev}(hc:U3 e):Rep H (.agg (EI e)) u->(Ag e->φ (.v .nilIface))->(¬Ag e->φ (.er 15 329))->
  ∃AX:List Sh,Dq H AX [u]/\Dz (BG aB (C5 zV W5 AB Ak) (K0 H w) bP φ) (BQ (C5 zV W5 AB Ak) 3000 101 [.code []] (zZ 75 AX L0)):=by
 refine codes (P:=fun e=>Rep H (.agg (EI e)) u->(Ag e->φ (.v .nilIface))->(¬Ag e->φ (.er 15 329))->
  ∃AX:List Sh,Dq H AX [u]/\Dz (BG aB (C5 zV W5 AB Ak) (K0 H w) bP φ) (BQ (C5 zV W5 AB Ak) 3000 101 [.code []] (zZ 75 AX L0))) hc ?_ ?_ ?_ ?_ ?_ ?_ ?_ ?_ ?_ ?_ ?_ ?_ ?_ ?_ ?_ ?_ ?_
 ·exact fun x t o p y v r hr hN h9=>⟨[.agg [il 1,sy x,sy t,sy o,sy p,sy y,sy v,sy r]],⟨atZ (p:=p) (r:=r) hr,trivial⟩,atU (p:=p) (r:=r) hN h9⟩
 ·exact fun x t o p y v r hr hN h9=>⟨[.agg [il 4,sy x,sy t,sy o,sy p,sy y,sy v,sy r]],⟨at1 (p:=p) (r:=r) hr,trivial⟩,atV (p:=p) (r:=r) hN h9⟩
 ·exact fun x t o p y v r hr hN h9=>⟨[.agg [il 5,sy x,sy t,sy o,sy p,sy y,sy v,sy r]],⟨at6 (p:=p) (r:=r) hr,trivial⟩,atW (p:=p) (r:=r) hN h9⟩
 ·exact fun x t o p y v r hr hN h9=>⟨[.agg [il 6,sy x,sy t,sy o,sy p,sy y,sy v,sy r]],⟨at7 (p:=p) (r:=r) hr,trivial⟩,atX (p:=p) (r:=r) hN h9⟩
 ·exact fun x t o p y v r hr hN h9=>⟨[.agg [il 7,sy x,sy t,sy o,sy p,sy y,sy v,sy r]],⟨aua (p:=p) (r:=r) hr,trivial⟩,atY (p:=p) (r:=r) hN h9⟩
 ·exact fun x t o p y v r hr hN h9=>⟨[.agg [il 2,sy x,sy t,sy o,il 1,sy y,sy v,sy r]],⟨apa (p:=p) (r:=r) hr,trivial⟩,aoW (p:=p) (r:=r) hN h9⟩
 ·exact fun x t o p y v r hr hN h9=>⟨[.agg [il 2,sy x,sy t,sy o,il 2,sy y,sy v,sy r]],⟨apb (p:=p) (r:=r) hr,trivial⟩,aoX (p:=p) (r:=r) hN h9⟩
 ·exact fun x t o p y v r hr hN h9=>⟨[.agg [il 2,sy x,sy t,sy o,il 3,sy y,sy v,sy r]],⟨apc (p:=p) (r:=r) hr,trivial⟩,aoY (p:=p) (r:=r) hN h9⟩
 ·exact fun x t o p y v r hr hN h9=>⟨[.agg [il 2,sy x,sy t,sy o,il 4,sy y,sy v,sy r]],⟨apd (p:=p) (r:=r) hr,trivial⟩,aoZ (p:=p) (r:=r) hN h9⟩
 ·exact fun x t o p y v r hr hN h9=>⟨[.agg [il 2,sy x,sy t,sy o,il 5,sy y,sy v,sy r]],⟨ape (p:=p) (r:=r) hr,trivial⟩,ao0 (p:=p) (r:=r) hN h9⟩
 ·exact fun x t o p y v r hr hN h9=>⟨[.agg [il 2,sy x,sy t,sy o,il 6,sy y,sy v,sy r]],⟨apf (p:=p) (r:=r) hr,trivial⟩,ao1 (p:=p) (r:=r) hN h9⟩
 ·exact fun x t o p y v r hr hN h9=>⟨[.agg [il 2,sy x,sy t,sy o,il 7,sy y,sy v,sy r]],⟨apg (p:=p) (r:=r) hr,trivial⟩,ao2 (p:=p) (r:=r) hN h9⟩
 ·exact fun x t o p y v r hr hN h9=>⟨[.agg [il 2,sy x,sy t,sy o,il 8,sy y,sy v,sy r]],⟨aph (p:=p) (r:=r) hr,trivial⟩,ao3 (p:=p) (r:=r) hN h9⟩
 ·exact fun x t o p y v r hr hN h9=>⟨[.agg [il 2,sy x,sy t,sy o,il 9,sy y,sy v,sy r]],⟨apj (p:=p) (r:=r) hr,trivial⟩,ao4 (p:=p) (r:=r) hN h9⟩
 ·exact fun x t o p y v r hr hN h9=>⟨[.agg [il 3,sy x,sy t,sy o,sy p,sy y,sy v,il 1]],⟨apk (p:=p) (r:=r) hr,trivial⟩,ao5 (p:=p) (r:=r) hN h9⟩
 ·exact fun x t o p y v r hr hN h9=>⟨[.agg [il 3,sy x,sy t,sy o,sy p,sy y,sy v,il 2]],⟨apl (p:=p) (r:=r) hr,trivial⟩,ao6 (p:=p) (r:=r) hN h9⟩
 ·exact fun x t o p y v r hr hN h9=>⟨[.agg [il 3,sy x,sy t,sy o,sy p,sy y,sy v,il 3]],⟨apm (p:=p) (r:=r) hr,trivial⟩,ao7 (p:=p) (r:=r) hN h9⟩
theorem awh:Aq aB (Fv W5) 101 ao8:=by
 refine Hu (C:=C5 zV W5 AB Ak) (jU _ _) (ae1 _) (n:=3000) (L:=L0) (fn:=bP) (by kernel_rfl) (by kernel_rfl) fun H w AX args φ hrep h=>?_
 have hn:bP.ntmps=75:=by kernel_rfl
 unfold ao8 at h;split at h
 ·rename_i l
  split at h
  ·rename_i e he
   obtain ⟨h1,h2,h3⟩:=h;match args,hrep with
   |[u],⟨hu,_⟩=>
    rw[hn];simp only[BK];exact aun (of_decide_eq_true h1) (ahh he hu) (fun q=>h2 (decide_eq_true q)) (fun q=>h3 (decide_eq_false q))
  ·exact h.elim
 ·exact h.elim
end Go.Ad
namespace Go.BF
open Go Go.Sx
theorem arq{p:Int}(h:¬(1<=p/\p<=9)):Dy p=0:=by
 have e:∀i:Int,1<=i->i<=9->(p==i)=ak:=fun i h1 h2=>by
  cases hb:p==i with
  |false=>rfl |true=>have:=eq_of_beq hb;omega
 unfold Dy;rw[e 1 (by omega) (by omega),e 2 (by omega) (by omega),e 3 (by omega) (by omega),e 4 (by omega) (by omega),e 5 (by omega) (by omega),e 6 (by omega) (by omega),e 7 (by omega) (by omega),e 8 (by omega) (by omega),e 9 (by omega) (by omega)];rfl
theorem apn{m:Nat}{c:Int}(h:CQ c=aC)(hm:¬(1<=c/\c<=(m:Int))):Yh m c=ak:=by
 have h:=of_decide_eq_true h;unfold Yh idx;apply decide_eq_false;intro ⟨h1,h2⟩;split at h1
 ·rw[BL (by omega) (by omega)] at h1;omega
 ·rename_i hc
  simp only[hc,if_false] at h2;rw[BL (by omega) (by omega)] at h1 h2;omega
end Go.BF
namespace Go.Ad
open Go Go.Sx Go.BF
theorem Sj{ψ:Fin->Prop}{t:Tree Fin}(h:(dead t).All ψ):Dz ψ t:=by
 rw[<-BK];exact Nl h
theorem auo{H:Mem}{w:World}{φ:Sh->Prop}{k x t o p y v r:Int}(hk:¬(1<=k/\k<=7))(h8:φ (.er 14 329)):
  Dz (BG aB (C5 zV W5 AB IV) (K0 H w) bP φ) (BQ (C5 zV W5 AB IV) 3000 101 [.code []] (zZ 75 [.agg [sy k,sy x,sy t,sy o,sy p,sy y,sy v,sy r]] L0)):=by
 apply Sj;rw[atS zV W5 k x t o p y v r];have n1:k≠1:=by omega
 have n2:k≠2:=by omega
 have n3:k≠3:=by omega
 have n4:k≠4:=by omega
 have n5:k≠5:=by omega
 have n6:k≠6:=by omega
 have n7:k≠7:=by omega
 simp[fK,BG,dF,iI,Ap,n1,n2,n3,n4,n5,n6,n7,h8]
theorem aup{H:Mem}{w:World}{φ:Sh->Prop}{x t o p y v r:Int}(hp:¬(1<=p/\p<=9))(h8:φ (.er 14 329)):
  Dz (BG aB (C5 zV W5 AB IV) (K0 H w) bP φ) (BQ (C5 zV W5 AB IV) 3000 101 [.code []] (zZ 75 [.agg [il 2,sy x,sy t,sy o,sy p,sy y,sy v,sy r]] L0)):=by
 apply Sj;rw[aro zV W5 0 x t o p y v r];simp[fK,BG,dF,iI,Ap,arq hp,h8]
theorem auq{H:Mem}{w:World}{φ:Sh->Prop}{x t o p y v r:Int}(hi:CQ r=aC)(hr:¬(1<=r/\r<=3))(h8:φ (.er 14 329)):
  Dz (BG aB (C5 zV W5 AB IV) (K0 H w) bP φ) (BQ (C5 zV W5 AB IV) 3000 101 [.code []] (zZ 75 [.agg [il 3,sy x,sy t,sy o,sy p,sy y,sy v,sy r]] L0)):=by
 apply Sj;rw[arp zV W5 0 x t o p y v r,O7 akz,apn hi (by simpa using hr)];simp[fK,BG,dF,iI,Ap,h8]
theorem ars{H:Mem}{w:World}{φ:Sh->Prop}{u:Value}{e:Ev}(hi:CQ e.ret=aC)(hc:¬U3 e)(hr:Rep H (.agg (EI e)) u)(h8:φ (.er 14 329)):
  ∃AX:List Sh,Dq H AX [u]/\Dz (BG aB (C5 zV W5 AB IV) (K0 H w) bP φ) (BQ (C5 zV W5 AB IV) 3000 101 [.code []] (zZ 75 AX L0)):=by
 obtain ⟨k,x,t,o,p,y,v,r⟩:=e;by_cases h1:1<=k/\k<=7
 ·by_cases h2:k=2
  ·subst h2
   have:¬(1<=p/\p<=9):=fun h=>hc ⟨h1,fun _=>h,fun q=>by simp at q⟩;refine ⟨[.agg [il 2,sy x,sy t,sy o,sy p,sy y,sy v,sy r]],⟨Ce hr rfl fun j s s' e1 e2 u hu=>?_,trivial⟩,aup this h8⟩;match j,e1,e2 with
   |0,e1,e2=>simp[EI] at e1 e2;subst e1 e2;exact Eu hu |j+1,e1,e2=>
    have:s=s':=by
     have:(EI ⟨2,x,t,o,p,y,v,r⟩)[j+1]?=[il 2,sy x,sy t,sy o,sy p,sy y,sy v,sy r][j+1]?:=by simp[EI,sy]
     rw[this,e2] at e1;cases e1;rfl
    rw[<-this];exact hu
  ·have h3:k=3:=by
    apply nD;intro h3;exact hc ⟨h1,fun q=>absurd q h2,fun q=>absurd q h3⟩
   subst h3;have:¬(1<=r/\r<=3):=fun h=>hc ⟨h1,fun q=>by simp at q,fun _=>h⟩;refine ⟨[.agg [il 3,sy x,sy t,sy o,sy p,sy y,sy v,sy r]],⟨Ce hr rfl fun j s s' e1 e2 u hu=>?_,trivial⟩,auq hi this h8⟩;match j,e1,e2 with
   |0,e1,e2=>simp[EI] at e1 e2;subst e1 e2;exact Eu hu |j+1,e1,e2=>
    have:s=s':=by
     have:(EI ⟨3,x,t,o,p,y,v,r⟩)[j+1]?=[il 3,sy x,sy t,sy o,sy p,sy y,sy v,sy r][j+1]?:=by simp[EI,sy]
     rw[this,e2] at e1;cases e1;rfl
    rw[<-this];exact hu
 ·exact ⟨[.agg [sy k,sy x,sy t,sy o,sy p,sy y,sy v,sy r]],⟨hr,trivial⟩,auo h1 h8⟩
theorem awi:Aq aB (Fv W5) 101 ao9:=by
 refine Hu (C:=C5 zV W5 AB IV) (jU _ _) (ae1 _) (n:=3000) (L:=L0) (fn:=bP) (by kernel_rfl) (by kernel_rfl) fun H w AX args φ hrep h=>?_
 have hn:bP.ntmps=75:=by kernel_rfl
 unfold ao9 at h;split at h
 ·rename_i l
  split at h
  ·rename_i e he
   obtain ⟨h1,h2,h3⟩:=h;match args,hrep with
   |[u],⟨hu,_⟩=>
    rw[hn];simp only[BK];have hc:¬U3 e:=fun q=>by
     have:Ou e=aC:=decide_eq_true q;rw[this] at h2;cases h2
    exact ars h1 hc (ahh he hu) h3
  ·exact h.elim
 ·exact h.elim
theorem O56:Aq aB (Fv W5) 101 F56:=by
 intro H w AX args φ hon hg hr hφ;unfold F56 at hφ;split at hφ
 ·rename_i l
  split at hφ
  ·rename_i e he
   obtain ⟨h1,h2,h3⟩:=hφ;cases hc:Ou e with
   |true=>
    refine awh H w _ args φ hon hg hr ?_;simp only[ao8,he];exact ⟨hc,h2 hc⟩
   |false=>
    refine awi H w _ args φ hon hg hr ?_;simp only[ao9,he];exact ⟨h1,by rw[hc];rfl,h3 hc⟩
  ·exact hφ.elim
 ·exact hφ.elim
def F55:List Sh->Tree Sh
 |[s,.er e 329]=>match AZ s with
  |some x=>.leaf (.CG 109 (.pt [.i .i64 x,.er e 329])) |none=>.fail
 |_=>.fail
theorem O55:Aq aB (Fv W5) 100 F55:=by
 refine Hu (C:=C5 zV W5 AB Am) (jU _ _) (ae1 _) (n:=300) (L:=L0) (fn:=oC) (by kernel_rfl) (by kernel_rfl) fun H w AX args φ hrep h=>?_
 have hn:oC.ntmps=10:=by kernel_rfl
 unfold F55 at h;split at h
 ·rename_i s e
  split at h
  ·rename_i x hx
   match args,hrep with
   |[u,v],⟨hu,hv,_⟩=>
    refine ⟨[.i .i64 x,.er e 329],⟨Ei hx hu,hv,trivial⟩,?_⟩;rw[hn,a55 zV W5 x e];exact h
  ·exact h.elim
 ·exact h.elim
def JF:Nat->Option (List Sh->Tree Sh)
 |99=>ay F54 |100=>ay F55 |101=>ay F56 |102=>ay F57 |_=>aK
theorem awj:∀g F,JF g=ay F->Aq aB (Fv W5) g F:=fun g F h=>by
 unfold JF at h;split at h
 ·cases h;exact O54
 ·cases h;exact O55
 ·cases h;exact O56
 ·cases h;exact O57
 ·cases h
theorem aja(stop:Nat->List Nat->Bool):Bz aB (C5 zV W5 JF stop):=yF awj fun g h=>by
 unfold JF at h;split at h;all_goals first|(cases h;done) |kernel_rfl
def adJ:List It:=[bF [0,1,0,1,1,1],dA 2,bF [1,1,1,1]]
def ar9:List It:=[bF [0,0,1,0,1,1,1],bF [0,1,0,1,1,1],dA 2,bF [1,1,1,1]]
def adK(n m:Nat)(o:Nat->Oj)(p:Nat->Ev)(c i:Int):Core:=
 {tm:=[.any,.ptr 0 0,.DK]++rep [.any] 18++[.sh (.sl 2 n (zW o)),.sym .i64 c,.sym .i64 i]++rep [.any] 54,
  hp:=[(0,.box [.sh (.sl 2 n (zW o)),.sh (.sl 8 m (zW p))] 25)],nx:=1,lim:=L0,tc:=[]}
def U4(n m:Nat)(o:Nat->Oj)(p:Nat->Ev)(c i:Int):Core:=
 {tm:=[.any,.ptr 0 0,.DK]++rep [.any] 34++[.sh (.sl 8 m (zW p)),.sym .i64 c,.sym .i64 i]++rep [.any] 38,
  hp:=[(0,.box [.sh (.sl 2 n (zW o)),.sh (.sl 8 m (zW p))] 25)],nx:=1,lim:=L0,tc:=[]}
theorem a51(A:Prim)(W:Wd)(n m:Nat)(o:Nat->Oj)(p:Nat->Ev)(c' i':Int):AP (C5 A W JF Am) DI 300 200 77 [.code []] (zZ 78 [.agg [.sl 2 n (zW o),.sl 8 m (zW p)]] L0) [] [⟨77,IJ,adK n m o p c' i',[]⟩]=aF (A.lt (ah 8) (A.Az n)) (aA (aO (aZ 6 329))) (aF (A.lt (ah 400) (A.Az m)) (aA (aO (aZ 6 329))) (aA (bJ 0 [aP (aG 2 n (zW o)) (aG 2 n (zW o)),aj (A.Az n) c',aj (ah 0) i',aP (aG 2 n (zW o)) (aG 2 n (zW o)),aP (aG 8 m (zW p)) (aG 8 m (zW p))]))):=by kernel_rfl
theorem b51(A:Prim)(W:Wd)(n m:Nat)(o:Nat->Oj)(p:Nat->Ev)(c i i' d' j':Int):AP (C5 A W JF Am) DI 300 200 77 WB (adK n m o p c i) [] [⟨77,IJ,adK n m o p c i',[]⟩,⟨77,adJ,U4 n m o p d' j',[]⟩]=aF (A.lt i c) (aI (A.inB i n) (aF (abJ (o (A.toN i)).kind (o (A.toN i)).init) (aA (bJ 0 [aP (aG 2 n (zW o)) (aG 2 n (zW o)),aj c c,aj (A.add .i64 i (ah 1)) i',aP (aG 2 n (zW o)) (aG 2 n (zW o)),aP (aG 8 m (zW p)) (aG 8 m (zW p))])) (aA (aO (pG 109 (sU [aW .i64 i,aZ 7 329])))))) (aA (bJ 1 [aP (aG 8 m (zW p)) (aG 8 m (zW p)),aj (A.Az m) d',aj (ah 0) j',aP (aG 2 n (zW o)) (aG 2 n (zW o)),aP (aG 8 m (zW p)) (aG 8 m (zW p))])):=by kernel_rfl
theorem c51(A:Prim)(W:Wd)(n m:Nat)(o:Nat->Oj)(p:Nat->Ev)(c i i':Int):AP (C5 A W JF Am) DI 300 200 77 ar9 (U4 n m o p c i) [] [⟨77,adJ,U4 n m o p c i',[]⟩]=aF (A.lt i c) (aI (A.inB i m) (aI (CQ ({kind:=(p (A.toN i)).kind,tx:=(p (A.toN i)).tx,thread:=(p (A.toN i)).thread,obj:=(p (A.toN i)).obj,op:=(p (A.toN i)).op,key:=(p (A.toN i)).key,val:=(p (A.toN i)).val,ret:=(p (A.toN i)).ret}:Ev).ret) (aF (Ou {kind:=(p (A.toN i)).kind,tx:=(p (A.toN i)).tx,thread:=(p (A.toN i)).thread,obj:=(p (A.toN i)).obj,op:=(p (A.toN i)).op,key:=(p (A.toN i)).key,val:=(p (A.toN i)).val,ret:=(p (A.toN i)).ret}) (aF (BF.fieldsB {kind:=(p (A.toN i)).kind,tx:=(p (A.toN i)).tx,thread:=(p (A.toN i)).thread,obj:=(p (A.toN i)).obj,op:=(p (A.toN i)).op,key:=(p (A.toN i)).key,val:=(p (A.toN i)).val,ret:=(p (A.toN i)).ret}) (aF (A.nt (A.eq (p (A.toN i)).kind (ah 2))) (aA (bJ 0 [aP (aG 8 m (zW p)) (aG 8 m (zW p)),aj c c,aj (A.add .i64 i (ah 1)) i',aP (aG 2 n (zW o)) (aG 2 n (zW o)),aP (aG 8 m (zW p)) (aG 8 m (zW p))])) (aF (A.le (A.Az n) (p (A.toN i)).obj) (aA (aO (pG 109 (sU [aW .i64 i,aZ 7 329])))) (aI (A.inB (p (A.toN i)).obj n) (aF (A.nt (A.eq (Dy (p (A.toN i)).op) (o (A.toN (p (A.toN i)).obj)).kind)) (aA (aO (pG 109 (sU [aW .i64 i,aZ 8 329])))) (aA (bJ 0 [aP (aG 8 m (zW p)) (aG 8 m (zW p)),aj c c,aj (A.add .i64 i (ah 1)) i',aP (aG 2 n (zW o)) (aG 2 n (zW o)),aP (aG 8 m (zW p)) (aG 8 m (zW p))])))))) (aA (aO (pG 109 (sU [aW .i64 i,aZ 15 329]))))) (aA (aO (pG 109 (sU [aW .i64 i,aZ 14 329]))))))) (aA (aO (jB bI))):=by kernel_rfl
end Go.Ad
namespace Go.BF
open Go Go.Sx
def J8(n:Nat)(o:Nat->Oj)(e:Ev):Option Nat:=
 bif Ou e then bif fieldsB e then bif e.kind==2 then bif decide ((n:Int)<=e.obj) then ay 7 else bif Dy e.op==(o e.obj.toNat).kind then aK else ay 8 else aK else ay 15 else ay 14
def Qr(o:Oj):Option Nat:=bif abJ o.kind o.init then aK else ay 7
def I7(f:Nat->Option Nat):Nat->Nat->Option (Nat×Nat)
 |_,0=>aK |k,m+1=>match f k with
  |some e=>ay (k,e) |none=>I7 f (k+1) m
def resE:Option (Nat×Nat)->Sh
 |none=>.v .nilIface |some (k,e)=>.CG 109 (.pt [.i .i64 (k:Int),.er e 329])
theorem Y8{e:Ev}(h:fieldsB e=aC)(hk:e.kind=2):0<=e.obj:=by
 have h:=of_decide_eq_true h;unfold Ag at h;omega
end Go.BF
namespace Go.Ad
open Go Go.Sx Go.BF
theorem ahi{H0:Mem}{w0:World}{n m:Nat}{o:Nat->Oj}{p:Nat->Ev}{φ:Sh->Prop}(hm:m<=400)(hi:∀k,k<m->CQ (p k).ret=aC):
  ∀rm k,k+rm=m->φ (resE (I7 (fun k=>J8 n o (p k)) k rm))->Bc aB (C5 zV W5 JF Am) (K0 H0 w0) 77 adJ (U4 n m o p (m:Int) k) [] emp φ
 |rm,k,hk,hφ=>by
  refine Gq (fn:=ji) (tb:=ar9) (by kernel_rfl) (by kernel_rfl) ?_;refine G9 (jU _ _) (aja _) (hold:=DI) (m:=300) (n:=200) (ts:=[⟨77,adJ,U4 n m o p (m:Int) (k+1:Nat),[]⟩]) ?_;rw[c51 zV W5 n m o p (m:Int) k (k+1:Nat)];simp only[Aa,Dw,Ar,Bj,CJ,Ap,BP,Df,GU,fK,Jw,fJ];have hstep:aT.wrap ((k:Int)+1)=((k+1:Nat):Int)\/m<k:=by
   by_cases h:m<k
   ·exact .inr h
   ·left;rw[BL (by omega) (by omega)];rfl
  refine ⟨fun h=>?_,fun h=>?_⟩
  ·have hlt:k<m:=by simp at h;omega
   have hw:=hstep.resolve_right (by omega);match rm,hk,hφ with
   |0,hk,_=>omega |rm+1,hk,hφ=>
    have next:J8 n o (p k)=aK->Bc aB (C5 zV W5 JF Am) (K0 H0 w0) 77 adJ (U4 n m o p (m:Int) (k+1:Nat)) [] emp φ:=fun hn=>ahi hm hi rm (k+1) (by omega) (by simpa only[I7,hn] using hφ);have bad:∀e,J8 n o (p k)=ay e->φ (.CG 109 (.pt [.i .i64 (k:Int),.er e 329])):=fun e he=>by
     simpa only[I7,he,resE] using hφ
    refine ⟨by simp;omega,hi k hlt,fun q1=>⟨fun q2=>⟨fun q3=>?_,fun q3=>⟨fun q4=>?_,fun q4=>⟨?_,fun q5=>?_,fun q5=>?_⟩⟩⟩,fun q2=>?_⟩,fun q1=>?_⟩
    ·refine ⟨⟨rfl,rfl,hw,rfl,rfl,trivial⟩,_,rfl,next ?_⟩
     have k2:((p k).kind==2)=ak:=by simpa using q3
     unfold J8;rw[q1,q2,k2];rfl
    ·have k2:((p k).kind==2)=aC:=by simpa using q3
     apply bad;unfold J8;rw[q1,q2,k2,q4];rfl
    ·have:=Y8 q2 (by simpa using q3)
     simp at q4;simp;omega
    ·have k2:((p k).kind==2)=aC:=by simpa using q3
     have k3:(Dy (p k).op==(o (p k).obj.toNat).kind)=ak:=by simpa using q5
     apply bad;unfold J8;rw[q1,q2,k2,q4,k3];rfl
    ·have k2:((p k).kind==2)=aC:=by simpa using q3
     have k3:(Dy (p k).op==(o (p k).obj.toNat).kind)=aC:=by simpa using q5
     refine ⟨⟨rfl,rfl,hw,rfl,rfl,trivial⟩,_,rfl,next ?_⟩;unfold J8;rw[q1,q2,k2,q4,k3];rfl
    ·apply bad;unfold J8;rw[q1,q2];rfl
    ·apply bad;unfold J8;rw[q1];rfl
  ·have:k=m:=by simp at h;omega
   have:rm=0:=by omega
   subst this;exact hφ
end Go.Ad
namespace Go.BF
open Go Go.Sx
def WR(n m:Nat)(o:Nat->Oj)(p:Nat->Ev):Option (Nat×Nat):=
 match I7 (fun k=>Qr (o k)) 0 n with
 |some x=>ay x |none=>I7 (fun k=>J8 n o (p k)) 0 m
def apo(n m:Nat)(o:Nat->Oj)(p:Nat->Ev)(k:Nat):Nat->Option (Nat×Nat):=fun r=>
 match I7 (fun k=>Qr (o k)) k r with
 |some x=>ay x |none=>I7 (fun k=>J8 n o (p k)) 0 m
end Go.BF
namespace Go.Ad
open Go Go.Sx Go.BF
theorem akA{H0:Mem}{w0:World}{n m:Nat}{o:Nat->Oj}{p:Nat->Ev}{φ:Sh->Prop}(hn:n<=8)(hm:m<=400)(hi:∀k,k<m->CQ (p k).ret=aC):
  ∀rm k,k+rm=n->φ (resE (apo n m o p k rm))->Bc aB (C5 zV W5 JF Am) (K0 H0 w0) 77 IJ (adK n m o p (n:Int) k) [] emp φ
 |rm,k,hk,hφ=>by
  refine Gq (fn:=ji) (tb:=WB) (by kernel_rfl) (by kernel_rfl) ?_;refine G9 (jU _ _) (aja _) (hold:=DI) (m:=300) (n:=200) (ts:=[⟨77,IJ,adK n m o p (n:Int) (k+1:Nat),[]⟩,⟨77,adJ,U4 n m o p (m:Int) (0:Nat),[]⟩]) ?_;rw[b51 zV W5 n m o p (n:Int) k (k+1:Nat) (m:Int) (0:Nat)];simp only[Aa,Ar,Bj,CJ,Df,GU,fK,Jw,fJ];refine ⟨fun h=>?_,fun h=>?_⟩
  ·have hlt:k<n:=by simp at h;omega
   have hw:aT.wrap ((k:Int)+1)=((k+1:Nat):Int):=by rw[BL (by omega) (by omega)];rfl
   match rm,hk,hφ with
   |0,hk,_=>omega |rm+1,hk,hφ=>
    refine ⟨by simp;omega,fun q=>?_,fun q=>?_⟩
    ·have e:Qr (o k)=aK:=by unfold Qr;rw[q];rfl
     exact ⟨⟨rfl,rfl,hw,rfl,rfl,trivial⟩,_,rfl,akA hn hm hi rm (k+1) (by omega) (by simpa only[apo,I7,e] using hφ)⟩
    ·have e:Qr (o k)=ay 7:=by unfold Qr;rw[q];rfl
     simpa only[apo,I7,e,resE] using hφ
  ·have:k=n:=by simp at h;omega
   have:rm=0:=by omega
   subst this;exact ⟨⟨rfl,rfl,rfl,rfl,rfl,trivial⟩,_,rfl,ahi hm hi m 0 (by omega) hφ⟩
end Go.Ad
namespace Go.BF
open Go Go.Sx
def Qs(m:Nat)(h:Nat->List Sh):Bool:=(List.range m).all fun k=>CQ (zY (α:=Ev) h k).ret
def JG(n m:Nat)(g h:Nat->List Sh):Int:=match WR n m (zY g) (zY h) with|some (k,_)=>(k:Int) |none=>0
def Np(n m:Nat)(g h:Nat->List Sh):Nat:=match WR n m (zY g) (zY h) with|some (_,e)=>e|none=>0
def F5(n m:Nat)(g h:Nat->List Sh):Bool:=(WR n m (zY g) (zY h)).isNone
def Iq(n m:Nat):Bool:=decide (8<n\/400<m)
end Go.BF
namespace Go.Ad
open Go Go.Sx Go.BF
def F51:List Sh->Tree Sh
 |[.agg [.sl 2 n g,.sl 8 m h]]=>.need (okB Oj n g) (.need (okB Ev m h) (.need (Qs m h) (.node (Iq n m) (.leaf (.er 6 329)) (.node (F5 n m g h) (.leaf (.v .nilIface)) (.leaf (.CG 109 (.pt [.i .i64 (JG n m g h),.er (Np n m g h) 329]))))))) |_=>.fail
theorem O51:Aq aB (Fv W5) 77 F51:=by
 refine KA (C:=C5 zV W5 JF Am) (jU _ _) (fn:=ji) (by kernel_rfl) (by kernel_rfl) fun H w AX args φ hrep h=>?_
 have hn:ji.ntmps=78:=by kernel_rfl
 unfold F51 at h;split at h
 ·rename_i n g m h'
  obtain ⟨h1,h2,h3,h4,h5⟩:=h;match args,hrep with
  |[v],⟨hv,_⟩=>
   rw[hn];refine ⟨[.agg [.sl 2 n (zW (zY (α:=Oj) g)),.sl 8 m (zW (zY (α:=Ev) h'))]],⟨Si hv h1 h2,trivial⟩,L0,?_⟩;refine G9 (jU _ _) (aja _) (hold:=DI) (m:=300) (n:=200) (ts:=[⟨77,IJ,adK n m (zY g) (zY h') (n:Int) (0:Nat),[]⟩]) ?_;rw[a51 zV W5 n m (zY g) (zY h') (n:Int) (0:Nat)];refine ⟨fun q=>h4 ?_,fun q=>⟨fun q'=>h4 ?_,fun q'=>⟨⟨rfl,rfl,rfl,rfl,rfl,trivial⟩,_,rfl,?_⟩⟩⟩
   ·simp[Aa,Ar] at q;simp[Iq];omega
   ·simp[Aa,Ar] at q';simp[Iq];omega
   ·simp[Aa,Ar] at q q'
    have h5:=h5 (by simp[Iq];omega);refine akA (by omega) (by omega) (fun k hk=>?_) n 0 (by omega) ?_
    ·exact List.all_eq_true.1 h3 k (List.mem_range.2 hk)
    ·show φ (resE (WR n m (zY g) (zY h')))
     obtain ⟨hT,hF⟩:=h5;unfold F5 at hT hF;unfold JG Np at hF;cases hb:WR n m (zY (α:=Oj) g) (zY (α:=Ev) h') with
     |none=>rw[hb] at hT;exact hT rfl |some x=>rw[hb] at hF;exact hF rfl
 ·exact h.elim
theorem ae2{H:Mem}{st st':Nat}{g g':Nat->List Sh}{v:Value}(h:Rep H (.sl st 0 g) v):Rep H (.sl st' 0 g') v:=by
 cases h with
 |sl0 _ _ A cap hc=>exact .sl0 _ _ _ _ hc |sl _ _ _ b off cap c h1 h2=>exact .sl0 _ _ _ _ h2
theorem BD{H:Mem}{st n:Nat}{s:Sh}{g:Nat->List Sh}{v:Value}(hs:DJ st s=ay (n,g))(h:Rep H s v):Rep H (.sl st n g) v:=by
 rcases aky hs with rfl|⟨g',rfl,rfl,rfl⟩
 ·exact h
 ·exact ae2 h
theorem ajb{H:Mem}{s0 s1 s0' s1':Sh}{v:Value}(hv:Rep H (.agg [s0,s1]) v)(h0:∀u,Rep H s0 u->Rep H s0' u)(h1:∀u,Rep H s1 u->Rep H s1' u):Rep H (.agg [s0',s1']) v:=by
 cases hv with
 |agg _ vs h2 h3=>
  refine .agg _ vs h2 fun j s v' e1 e2=>?_
  match j,e1 with
  |0,e1=>simp at e1;subst e1;exact h0 _ (h3 0 _ v' rfl e2) |1,e1=>simp at e1;subst e1;exact h1 _ (h3 1 _ v' rfl e2) |j+2,e1=>simp at e1
def apq:List Sh->Tree Sh
 |[.agg [s0,s1]]=>match DJ 2 s0,DJ 8 s1 with
  |some (n,g),ay (m,h)=>F51 [.agg [.sl 2 n g,.sl 8 m h]] |_,_=>.fail
 |_=>.fail
theorem awk:Aq aB (Fv W5) 77 apq:=fun H w AX args φ h1 h2 h3 h4=>by
 unfold apq at h4;split at h4
 ·rename_i s0 s1
  split at h4
  ·rename_i n g m h e1 e2
   match args,h3 with
   |[v],⟨hv,_⟩=>exact O51 H w [.agg [.sl 2 n g,.sl 8 m h]] [v] φ h1 h2 ⟨ajb hv (fun u=>BD e1) (fun u=>BD e2),trivial⟩ h4
  ·exact h4.elim
 ·exact h4.elim
theorem a67(A:Prim)(W:Wd)(x y:Int):BQ (C5 A W noSpec Ak) 300 128 [.code []] (zZ 36 [.i .i64 x,.i .i64 y] L0)=aF (A.eq x (ah 2)) (aA (aN (eP (A.eq y (ah 1))))) (aF (A.eq x (ah 3)) (aA (aN (eP (A.eq y (ah 1))))) (aF (A.eq x (ah 5)) (aA (aN (eP (A.eq y (ah 1))))) (aF (A.eq x (ah 7)) (aA (aN (eP (A.eq y (ah 1))))) (aF (A.eq x (ah 1)) (aA (aN (eP (A.eq y (ah 3))))) (aF (A.eq x (ah 4)) (aA (aN (eP (A.eq y (ah 3))))) (aF (A.eq x (ah 6)) (aF (A.eq y (ah 2)) (aA (aN (eP aC))) (aA (aN (eP (A.eq y (ah 3)))))) (aF (A.eq x (ah 8)) (aF (A.eq y (ah 2)) (aA (aN (eP aC))) (aA (aN (eP (A.eq y (ah 3)))))) (aF (A.eq x (ah 9)) (aF (A.eq y (ah 2)) (aA (aN (eP aC))) (aA (aN (eP (A.eq y (ah 3)))))) (aA (aN (eP ak))))))))))):=by kernel_rfl
end Go.Ad
