/- Own work. -/
import Derived.Test.YthehnhaoiijkhaaGreatDoorL11
open Int (ofNat)
open And renaming intro->bP
open Bool renaming true->aC,false->ay
open Classical renaming byContradiction->nN
open Go.IntKind renaming i64->aW,wrap_i64->iZ
open Go.Proofs renaming W7->rP
open Go.Proofs.Tryz renaming prog->aA,f54->lS,f31->lT,f45->oW,f21->oG,f29->oZ,f102->nU,f122->dM,f99->kV,f101->bM,f100->oP,f77->jq
open Go.Aw renaming W5->jQ
open Go.Aw.C5 renaming ok->kG,Vo->yQ
open Go.Sx.BK renaming sh->aO,int->aj,nat->aJ,get->aU,ok->iO,Mc->bF,all->dI
open Go.Sx.ED renaming at_->bK,ret->aT
open Go.Sx.Fin renaming ret->aN
open Go.Sx.It renaming code->bD,inBlock->dw
open Go.Sx.Sh renaming sl->aG,i->aY,os->jw,agg->cO,str->dB,er->bf,v->jG,C9->mQ,pt->pR,b->gU
open Go.Sx.Tree renaming need->aH,leaf->aB,node->aF,must->aQ,All->fZ,fail->dL
open Go.Value renaming nilIface->bJ
open Int renaming ofNat->ah,ofNat_eq_natCast->fM,negSucc->fJ,toNat_natCast->fU
open List renaming getD_eq_getElem?_getD->aX,getElem?_eq_getElem->aS
open Nat renaming beq->fC,eq_of_beq_eq_true->fK
open Option renaming some->ak,none->aK
namespace Go.Aw
open Go Go.Sx Go.BR
def AU:Nat->List Nat->Bool:=fun _ _=>aC
def D5:Nat->Bool:=fun _=>ay
abbrev L0:Nat:=1000000000000000000000000000000
def ad8(n:Nat)(o:Nat->Oj)(i:Int)(k:Nat)(gg:Nat->List Sh):Core:={tm:=[.sh (.sl 2 n (Aj o)),.any,.any,.gs 0,.sym .i64 i]++rep [.any] 17,hp:=[(0,.own 140 2 k gg)],nx:=1,lim:=L0,tc:=[]}
def Jd:List It:=[bD [0,1,0,1,1],dw 0,bD [1,1,1]]
def Xl:List It:=[bD [0,0,1,0,1,1],bD [0,1,0,1,1],dw 0,bD [1,1,1]]
def ad9(n:Nat)(o:Nat->Ev)(i:Int)(k:Nat)(gg:Nat->List Sh):Core:={tm:=[.sh (.sl 8 n (Aj o)),.any,.any,.gs 0,.sym .i64 i]++rep [.any] 17,hp:=[(0,.own 71 8 k gg)],nx:=1,lim:=L0,tc:=[]}
theorem a10(A:Prim)(W:Wd)(n:Nat)(o:Nat->Oj)(i':Int)(k':Nat)(Iu:Nat->List Sh):Bj (C5 A W noSpec AU) D5 300 200 54 [.code []] (Ap 22 [.sl 2 n (Aj o)] L0) [] [⟨54,Jd,ad8 n o i' k' Iu,[]⟩]=aH (A.le (ah 0) (A.AZ n)) (aH (A.room (A.toN (A.AZ n)) 16) (aB (bK 0 [aO (aG 2 n (Aj o)) (aG 2 n (Aj o)),aj (ah 0) i',aJ 0 k',aU 0 (fun (_x:Nat)=>[]) Iu]))):=by kernel_rfl
theorem b10(A:Prim)(W:Wd)(n:Nat)(o:Nat->Oj)(i i':Int)(k k':Nat)(gg Iu:Nat->List Sh):Bj (C5 A W noSpec AU) D5 300 200 54 Xl (ad8 n o i k gg) [] [⟨54,Jd,ad8 n o i' k' Iu,[]⟩]=aF (A.lt i (A.AZ n)) (aH (A.inB i n) (aH (A.room (A.addN k 1) 16) (aB (bK 0 [aO (aG 2 n (Aj o)) (aG 2 n (Aj o)),aj (A.add .i64 i (ah 1)) i',aJ (A.addN k 1) k',aU (A.addN k 1) (A.snoc gg k (Bh [[aY .i64 (o (A.toN i)).kind,aY .i64 (o (A.toN i)).init]])) Iu])))) (aB (aT (jw 140 2 k (k,gg).snd))):=by kernel_rfl
theorem a11(A:Prim)(W:Wd)(n:Nat)(o:Nat->Ev)(i':Int)(k':Nat)(Iu:Nat->List Sh):Bj (C5 A W noSpec AU) D5 300 200 31 [.code []] (Ap 22 [.sl 8 n (Aj o)] L0) [] [⟨31,Jd,ad9 n o i' k' Iu,[]⟩]=aH (A.le (ah 0) (A.AZ n)) (aH (A.room (A.toN (A.AZ n)) 64) (aB (bK 0 [aO (aG 8 n (Aj o)) (aG 8 n (Aj o)),aj (ah 0) i',aJ 0 k',aU 0 (fun (_x:Nat)=>[]) Iu]))):=by kernel_rfl
theorem b11(A:Prim)(W:Wd)(n:Nat)(o:Nat->Ev)(i i':Int)(k k':Nat)(gg Iu:Nat->List Sh):Bj (C5 A W noSpec AU) D5 300 200 31 Xl (ad9 n o i k gg) [] [⟨31,Jd,ad9 n o i' k' Iu,[]⟩]=aF (A.lt i (A.AZ n)) (aH (A.inB i n) (aH (A.room (A.addN k 1) 64) (aB (bK 0 [aO (aG 8 n (Aj o)) (aG 8 n (Aj o)),aj (A.add .i64 i (ah 1)) i',aJ (A.addN k 1) k',aU (A.addN k 1) (A.snoc gg k (Bh [[aY .i64 (o (A.toN i)).kind,aY .i64 (o (A.toN i)).tx,aY .i64 (o (A.toN i)).thread,aY .i64 (o (A.toN i)).obj,aY .i64 (o (A.toN i)).op,aY .i64 (o (A.toN i)).key,aY .i64 (o (A.toN i)).val,aY .i64 (o (A.toN i)).ret]])) Iu])))) (aB (aT (jw 71 8 k (k,gg).snd))):=by kernel_rfl
def F10:List Sh->Tree Sh
 |[.sl 2 n g]=>.need (okB Oj n g) (.need (BM n 16) (.leaf (.os 140 2 n (fO g)))) |_=>.fail
theorem akU{H0:Mem}{w0:World}{n:Nat}{o:Nat->Oj}{φ:Sh->Prop}(hr:Ai.room n 16=aC)(hφ:φ (.os 140 2 n (Aj o))):
  ∀m k,k+m=n->Bz aA (C5 Ai W5 noSpec AU) (K0 H0 w0) 54 Jd (ad8 n o k k (Aj o)) [] emp φ
 |m,k,hk=>by
  obtain ⟨hr1,hr2⟩:=FQ hr;rw[maxLen_eq] at hr2;refine GK (fn:=lS) (tb:=Xl) (by kernel_rfl) (by kernel_rfl) ?_;refine G5 (kG _ _) (MC _) (hold:=D5) (m:=300) (n:=200) (ts:=[⟨54,Jd,ad8 n o (k+1:Nat) (k+1) (Aj o),[]⟩]) ?_;rw[b10 Ai W5 n o k (k+1:Nat) k (k+1) (Aj o) (Aj o)];refine ⟨fun h=>⟨?_,?_,⟨rfl,?_,rfl,?_,trivial⟩,_,rfl,?_⟩,fun h=>?_⟩
  ·simp[Aq,AY,BJ] at h ⊢;omega
  ·simp[Aq,AY,Du,EM,maxLen_eq] at h ⊢;omega
  ·simp[Aq,AY] at h
   simp only[iO,Dq,GR];rw[Cj (by omega) (by omega)];rfl
  ·exact ad7 rfl
  ·simp[Aq,AY] at h
   match m,hk with
   |0,hk=>omega |m+1,hk=>exact akU hr hφ m (k+1) (by omega)
  ·simp[Aq,AY] at h
   obtain rfl:k=n:=by omega
   exact hφ
theorem O10:AV aA (FV W5) 54 F10:=by
 refine JX (C:=C5 Ai W5 noSpec AU) (kG _ _) (fn:=lS) (by kernel_rfl) (by kernel_rfl) fun H w Bv args φ hrep h=>?_
 unfold F10 at h;split at h
 ·rename_i n g
  obtain ⟨h1,h2,h3⟩:=h;have h2:Ai.room n 16=aC:=h2;match args,hrep with
  |[v],⟨hv,_⟩=>
   refine ⟨[.sl 2 n (Aj (Am (α:=Oj) g))],⟨Ez hv h1,trivial⟩,L0,?_⟩;refine G5 (kG _ _) (MC _) (hold:=D5) (m:=300) (n:=200) (ts:=[⟨54,Jd,ad8 n (Am g) (0:Nat) 0 (Aj (Am (α:=Oj) g)),[]⟩]) ?_;have hn:lS.ntmps=22:=by kernel_rfl
   rw[hn,a10 Ai W5 n (Am g) (0:Nat) 0 (Aj (Am (α:=Oj) g))];refine ⟨by simp[DJ,AY],by simpa[CX,AY] using h2,⟨rfl,rfl,rfl,fun j hj=>by omega,trivial⟩,_,rfl,akU h2 h3 n 0 (by omega)⟩
 ·exact h.elim
end Go.Aw
namespace Go.BR
open Go Go.Sx
def ai2{α:Type}[DecidableEq α](a b:List α):Bool:=decide (a=b)
end Go.BR
namespace Go.Aw
open Go Go.Sx Go.BR
def F35:List Sh->Tree Sh
 |[.sl 2 n g,.sl 2 m h]=>.need (okB Oj n g) (.need (okB Oj m h) (.leaf (.b (ai2 (lst Oj n g) (lst Oj m h))))) |_=>.fail
def F11:List Sh->Tree Sh
 |[.sl 8 n g]=>.need (okB Ev n g) (.need (BM n 64) (.leaf (.os 71 8 n (fE g)))) |_=>.fail
theorem akV{H0:Mem}{w0:World}{n:Nat}{o:Nat->Ev}{φ:Sh->Prop}(hr:Ai.room n 64=aC)(hφ:φ (.os 71 8 n (Aj o))):
  ∀m k,k+m=n->Bz aA (C5 Ai W5 noSpec AU) (K0 H0 w0) 31 Jd (ad9 n o k k (Aj o)) [] emp φ
 |m,k,hk=>by
  obtain ⟨hr1,hr2⟩:=FQ hr;rw[maxLen_eq] at hr2;refine GK (fn:=lT) (tb:=Xl) (by kernel_rfl) (by kernel_rfl) ?_;refine G5 (kG _ _) (MC _) (hold:=D5) (m:=300) (n:=200) (ts:=[⟨31,Jd,ad9 n o (k+1:Nat) (k+1) (Aj o),[]⟩]) ?_;rw[b11 Ai W5 n o k (k+1:Nat) k (k+1) (Aj o) (Aj o)];refine ⟨fun h=>⟨?_,?_,⟨rfl,?_,rfl,?_,trivial⟩,_,rfl,?_⟩,fun h=>?_⟩
  ·simp[Aq,AY,BJ] at h ⊢;omega
  ·simp[Aq,AY,Du,EM,maxLen_eq] at h ⊢;omega
  ·simp[Aq,AY] at h
   simp only[iO,Dq,GR];rw[Cj (by omega) (by omega)];rfl
  ·exact ad7 rfl
  ·simp[Aq,AY] at h
   match m,hk with
   |0,hk=>omega |m+1,hk=>exact akV hr hφ m (k+1) (by omega)
  ·simp[Aq,AY] at h
   obtain rfl:k=n:=by omega
   exact hφ
theorem O11:AV aA (FV W5) 31 F11:=by
 refine JX (C:=C5 Ai W5 noSpec AU) (kG _ _) (fn:=lT) (by kernel_rfl) (by kernel_rfl) fun H w Bv args φ hrep h=>?_
 unfold F11 at h;split at h
 ·rename_i n g
  obtain ⟨h1,h2,h3⟩:=h;have h2:Ai.room n 64=aC:=h2;match args,hrep with
  |[v],⟨hv,_⟩=>
   refine ⟨[.sl 8 n (Aj (Am (α:=Ev) g))],⟨Ez hv h1,trivial⟩,L0,?_⟩;refine G5 (kG _ _) (MC _) (hold:=D5) (m:=300) (n:=200) (ts:=[⟨31,Jd,ad9 n (Am g) (0:Nat) 0 (Aj (Am (α:=Ev) g)),[]⟩]) ?_;have hn:lT.ntmps=22:=by kernel_rfl
   rw[hn,a11 Ai W5 n (Am g) (0:Nat) 0 (Aj (Am (α:=Ev) g))];refine ⟨by simp[DJ,AY],by simpa[CX,AY] using h2,⟨rfl,rfl,rfl,fun j hj=>by omega,trivial⟩,_,rfl,akV h2 h3 n 0 (by omega)⟩
 ·exact h.elim
theorem a37(A:Prim)(W:Wd)(n m:Nat)(g h:Nat->List Sh):CG (C5 A W noSpec AU) 300 45 [.code []] (Ap 18 [.agg [.sl 2 n g,.sl 8 m h]] L0)=aH (A.le (ah 0) (A.AZ n)) (aH (A.room (A.toN (A.AZ n)) 16) (aH (A.room (A.addN 0 n) 16) (aH (A.le (ah 0) (A.AZ m)) (aH (A.room (A.toN (A.AZ m)) 64) (aH (A.room (A.addN 0 m) 64) (aH (A.le (ah 0) (A.AZ m)) (aH (A.room (A.toN (A.AZ m)) 64) (aH (A.room (A.addN 0 n) 16) (aH (A.room (A.addN 0 m) 64) (aQ [aO (aG 2 n g) (aG 2 n g),aO (aG 8 m h) (aG 8 m h),aO (aG 2 n g) (aG 2 n g),aO (aG 8 m h) (aG 8 m h),aJ (A.addN 0 n) (A.addN 0 n),bF (A.snoc (fun (_x:Nat)=>[]) 0 g) (A.snoc (fun (_x:Nat)=>[]) 0 g),aJ (A.addN 0 m) (A.addN 0 m),bF (A.snoc (fun (_x:Nat)=>[]) 0 h) (A.snoc (fun (_x:Nat)=>[]) 0 h)] (aH (A.le (ah 0) (A.AZ m)) (aH (A.room (A.toN (A.AZ m)) 64) (aH (A.le (ah 0) (A.AZ n)) (aH (A.room (A.toN (A.AZ n)) 16) (aH (A.room (A.addN 0 n) 16) (aH (A.room (A.addN 0 m) 64) (aQ [aO (aG 2 n g) (aG 2 n g),aO (aG 8 m h) (aG 8 m h),aO (aG 2 n g) (aG 2 n g),aO (aG 8 m h) (aG 8 m h),aJ (A.addN 0 n) (A.addN 0 n),bF (A.snoc (fun (_x:Nat)=>[]) 0 g) (A.snoc (fun (_x:Nat)=>[]) 0 g),aJ (A.addN 0 m) (A.addN 0 m),bF (A.snoc (fun (_x:Nat)=>[]) 0 h) (A.snoc (fun (_x:Nat)=>[]) 0 h)] (aB (aN (cO [jw 140 2 (A.addN 0 n) (A.addN 0 n,A.snoc (fun (_x:Nat)=>[]) 0 g).snd,jw 71 8 (A.addN 0 m) (A.addN 0 m,A.snoc (fun (_x:Nat)=>[]) 0 h).snd])))))))))))))))))))):=by kernel_rfl
theorem awT(A:Prim)(W:Wd)(n:Nat)(g h:Nat->List Sh):CG (C5 A W noSpec AU) 300 45 [.code []] (Ap 18 [.agg [.sl 2 n g,.sl 0 0 h]] L0)=aH (A.le (ah 0) (A.AZ n)) (aH (A.room (A.toN (A.AZ n)) 16) (aH (A.room (A.addN 0 n) 16) (aH (A.le (ah 0) (A.AZ 0)) (aH (A.room (A.toN (A.AZ 0)) 64) (aH (A.room (A.addN 0 0) 64) (aH (A.le (ah 0) (A.AZ 0)) (aH (A.room (A.toN (A.AZ 0)) 64) (aH (A.room (A.addN 0 n) 16) (aH (A.room (A.addN 0 0) 64) (aQ [aO (aG 2 n g) (aG 2 n g),aO (aG 0 0 h) (aG 0 0 h),aO (aG 2 n g) (aG 2 n g),aO (aG 0 0 h) (aG 0 0 h),aJ (A.addN 0 n) (A.addN 0 n),bF (A.snoc (fun (_x:Nat)=>[]) 0 g) (A.snoc (fun (_x:Nat)=>[]) 0 g),aJ (A.addN 0 0) (A.addN 0 0),bF (A.snoc (fun (_x:Nat)=>[]) 0 fun (_x:Nat)=>[]) (A.snoc (fun (_x:Nat)=>[]) 0 fun (_x:Nat)=>[])] (aH (A.le (ah 0) (A.AZ 0)) (aH (A.room (A.toN (A.AZ 0)) 64) (aH (A.le (ah 0) (A.AZ n)) (aH (A.room (A.toN (A.AZ n)) 16) (aH (A.room (A.addN 0 n) 16) (aH (A.room (A.addN 0 0) 64) (aQ [aO (aG 2 n g) (aG 2 n g),aO (aG 0 0 h) (aG 0 0 h),aO (aG 2 n g) (aG 2 n g),aO (aG 0 0 h) (aG 0 0 h),aJ (A.addN 0 n) (A.addN 0 n),bF (A.snoc (fun (_x:Nat)=>[]) 0 g) (A.snoc (fun (_x:Nat)=>[]) 0 g),aJ (A.addN 0 0) (A.addN 0 0),bF (A.snoc (fun (_x:Nat)=>[]) 0 fun (_x:Nat)=>[]) (A.snoc (fun (_x:Nat)=>[]) 0 fun (_x:Nat)=>[])] (aB (aN (cO [jw 140 2 (A.addN 0 n) (A.addN 0 n,A.snoc (fun (_x:Nat)=>[]) 0 g).snd,jw 71 8 (A.addN 0 0) (A.addN 0 0,A.snoc (fun (_x:Nat)=>[]) 0 fun (_x:Nat)=>[]).snd])))))))))))))))))))):=by kernel_rfl
theorem NM(g:Nat->List Sh):Ai.snoc (fun _=>[]) 0 g=g:=by
 funext i;rw[Ec,if_neg (Nat.not_lt_zero i),Nat.sub_zero]
def D9(st:Nat):Sh->Option (Nat×(Nat->List Sh))
 | .sl st' n g=>bif fC st' st then ak (n,g) else bif fC st' 0&&fC n 0 then ak (0,fun _=>[]) else aK |_=>aK
theorem akW{st:Nat}{s:Sh}{n:Nat}{g:Nat->List Sh}(h:D9 st s=ak (n,g)):s=.sl st n g\/(∃g',s=.sl 0 0 g'/\n=0/\g=fun _=>[]):=by
 unfold D9 at h;split at h
 ·rename_i st' m g'
  cases h1:fC st' st<;>simp only[h1,cond_true,cond_false] at h
  ·cases h2:(fC st' 0&&fC m 0)<;>simp only[h2,cond_true,cond_false] at h
   ·cases h
   ·cases h
    simp only[Bool.and_eq_true] at h2;have e1:=fK h2.1;have e2:=fK h2.2;subst e1 e2;exact .inr ⟨_,rfl,rfl,rfl⟩
  ·cases h
   have:=fK h1;subst this;exact .inl rfl
 ·cases h
def F37:List Sh->Tree Sh
 |[.agg [.sl 2 n g,s]]=>match D9 8 s with
  |some (m,h)=>.need (BM n 16) (.need (BM m 64) (.leaf (.agg [.os 140 2 n g,.os 71 8 m h]))) |none=>.fail
 |_=>.fail
theorem O37:AV aA (FV W5) 45 F37:=by
 refine Ii (C:=C5 Ai W5 noSpec AU) (kG _ _) (MC _) (n:=300) (L:=L0) (fn:=oW) (by kernel_rfl) (by kernel_rfl) fun H w Bv args φ hrep h=>?_
 have hn:oW.ntmps=18:=by kernel_rfl
 unfold F37 at h;split at h
 ·rename_i n g s
  split at h
  ·rename_i m h' hs
   obtain ⟨h1,h2,h3⟩:=h;have h1:Ai.room n 16=aC:=h1;have h2:Ai.room m 64=aC:=h2;refine ⟨[.agg [.sl 2 n g,s]],hrep,?_⟩;rw[hn];rcases akW hs with rfl|⟨g',rfl,rfl,rfl⟩
   ·rw[a37 Ai W5 n m g h']
    simpa[fZ,BU,dI,iO,DJ,AY,CX,Du,h1,h2,NM] using h3
   ·rw[awT Ai W5 n g g']
    simpa[fZ,BU,dI,iO,DJ,AY,CX,Du,h1,h2,NM] using h3
  ·exact h.elim
 ·exact h.elim
def F42:List Sh->Tree Sh
 |[.sl 2 n g,.sl 2 m h]=>.need (okB Oj n g) (.need (okB Oj m h) (.leaf (.b (ai2 (lst Oj n g) (lst Oj m h))))) |_=>.fail
def Xq:List It:=[bD [0,1,0,1],dw 0,bD [1,1]]
def akO:List It:=[bD [0,0,1,0,1],bD [0,1,0,1],dw 0,bD [1,1]]
end Go.Aw
namespace Go.BR
open Go Go.Sx
def hasB(l:List Int)(x:Int):Bool:=decide (x∈l)
theorem PU{α:Type}[Row α](l:List α)(a:α){r:List (List Sh)}(h:Bh r 0=Row.put a):∀i,i<l.length+1->Ai.snoc (Aj (nth l)) l.length (Bh r) i=Aj (nth (l++[a])) i:=fun i hi=>by
 rw[Ec];split
 ·rename_i h1
  simp only[Aj,nth];rw[aX,aX,List.getElem?_append_left h1]
 ·have:i=l.length:=by omega
  subst this;rw[Nat.sub_self,h];simp[Aj,nth]
end Go.BR
namespace Go.Aw
open Go Go.Sx Go.BR
def F41:List Sh->Tree Sh
 |[.sl 1 n g,.i .i64 x]=>.need (okB Int n g) (.leaf (.b (hasB (lst Int n g) x))) |_=>.fail
def GU:Nat->Option (List Sh->Tree Sh)
 |54=>ak F10 |31=>ak F11 |45=>ak F37 |_=>aK
theorem a13(A:Prim)(W:Wd)(n m:Nat)(g h:Nat->List Sh)(x:Int):CG (C5 A W GU AU) 300 21 [.code []] (Ap 17 [.agg [.sl 2 n g,.sl 8 m h],.i .i64 x] L0)=aH (A.upTo (A.max (ah 0) (A.min x (A.AZ m))) m) (aH (BM n 16) (aH (BM (A.toN (A.max (ah 0) (A.min x (A.AZ m)))) 64) (aB (aN (cO [jw 140 2 n g,jw 71 8 (A.toN (A.max (ah 0) (A.min x (A.AZ m)))) h]))))):=by kernel_rfl
theorem a14(A:Prim)(W:Wd)(n m:Nat)(g h:Nat->List Sh)(x:Int):CG (C5 A W GU AU) 300 29 [.code []] (Ap 20 [.agg [.sl 2 n g,.sl 8 m h],.i .i64 x] L0)=aH (okB Oj n g) (aH (BM n 16) (aH (A.upTo (A.max (ah 0) (A.min x (A.AZ m))) m) (aH (okB Ev (A.toN (A.max (ah 0) (A.min x (A.AZ m)))) h) (aH (BM (A.toN (A.max (ah 0) (A.min x (A.AZ m)))) 64) (aH (A.upTo (A.max (ah 0) (A.min x (A.AZ m))) m) (aH (okB Oj n g) (aH (BM n 16) (aH (okB Ev (A.toN (A.max (ah 0) (A.min x (A.AZ m)))) h) (aH (BM (A.toN (A.max (ah 0) (A.min x (A.AZ m)))) 64) (aQ [aO (aG 2 n g) (aG 2 n g),aO (aG 8 m h) (aG 8 m h),aj (A.max (ah 0) (A.min x (A.AZ m))) (A.max (ah 0) (A.min x (A.AZ m))),aO (aG 2 n g) (aG 2 n g),aO (aG 8 m h) (aG 8 m h),aJ n n,bF (fO g) (fO g),aJ (A.toN (A.max (ah 0) (A.min x (A.AZ m)))) (A.toN (A.max (ah 0) (A.min x (A.AZ m)))),bF (fE h) (fE h)] (aB (aN (cO [jw 140 2 n (fO g),jw 71 8 (A.toN (A.max (ah 0) (A.min x (A.AZ m)))) (fE h)]))))))))))))):=by kernel_rfl
end Go.Aw
namespace Go.BR
open Go Go.Sx
end Go.BR
namespace Go.Aw
open Go Go.Sx Go.BR
theorem awV:∀g F,GU g=ak F->AV aA (FV W5) g F:=fun g F h=>by
 unfold GU at h;split at h
 ·cases h;exact O10
 ·cases h;exact O11
 ·cases h;exact O37
 ·cases h
theorem YF(stop:Nat->List Nat->Bool):BP aA (C5 Ai W5 GU stop):=yQ awV fun g h=>by
 unfold GU at h;split at h;all_goals first|(cases h;done) |kernel_rfl
theorem NV{H:Mem}{n m:Nat}{g h:Nat->List Sh}{v:Value}(hv:Rep H (.agg [.sl 2 n g,.sl 8 m h]) v)(hg:okB Oj n g=aC)(hk:okB Ev m h=aC):Rep H (.agg [.sl 2 n (Aj (Am (α:=Oj) g)),.sl 8 m (Aj (Am (α:=Ev) h))]) v:=by
 cases hv with
 |agg _ vs h1 h2=>
  refine .agg _ vs h1 fun j s v' e1 e2=>?_
  match j,e1 with
  |0,e1=>simp at e1;subst e1;exact Ez (h2 0 _ v' rfl e2) hg |1,e1=>simp at e1;subst e1;exact Ez (h2 1 _ v' rfl e2) hk |j+2,e1=>simp at e1
end Go.Aw
namespace Go.BR
open Go Go.Sx
def upN(x:Int)(m:Nat):Nat:=(max 0 (min x (m:Int))).toNat
theorem ahz(x:Int)(m:Nat):Ai.toN (Ai.max (ah 0) (Ai.min x (Ai.AZ m)))=upN x m:=by
 unfold upN;rw[JC,PS,CX,AY];congr 1;simp only[fM];split<;>split<;>omega
theorem acd(x:Int)(m:Nat):Ai.upTo (Ai.max (ah 0) (Ai.min x (Ai.AZ m))) m=aC:=by
 rw[JC,PS,Jp,AY];simp only[fM];split<;>split<;>simp<;>omega
end Go.BR
namespace Go.Aw
open Go Go.Sx Go.BR
def F13:List Sh->Tree Sh
 |[.agg [.sl 2 n g,.sl 8 m h],.i .i64 x]=>.need (BM n 16) (.need (BM (upN x m) 64) (.leaf (.agg [.os 140 2 n g,.os 71 8 (upN x m) h]))) |_=>.fail
theorem O13:AV aA (FV W5) 21 F13:=by
 refine Ii (C:=C5 Ai W5 GU AU) (kG _ _) (YF _) (n:=300) (L:=L0) (fn:=oG) (by kernel_rfl) (by kernel_rfl) fun H w Bv args φ hrep h=>?_
 have hn:oG.ntmps=17:=by kernel_rfl
 unfold F13 at h;split at h
 ·rename_i n g m h' x
  obtain ⟨h1,h2,h3⟩:=h;refine ⟨_,hrep,?_⟩;rw[hn,a13 Ai W5 n m g h' x];rw[<-ahz] at h2 h3;exact ⟨acd x m,h1,h2,h3⟩
 ·exact h.elim
def F14:List Sh->Tree Sh
 |[.agg [.sl 2 n g,.sl 8 m h],.i .i64 x]=>.need (okB Oj n g) (.need (okB Ev (upN x m) h) (.need (BM n 16) (.need (BM (upN x m) 64) (.leaf (.agg [.os 140 2 n (fO g),.os 71 8 (upN x m) (fE h)]))))) |_=>.fail
theorem O14:AV aA (FV W5) 29 F14:=by
 refine Ii (C:=C5 Ai W5 GU AU) (kG _ _) (YF _) (n:=300) (L:=L0) (fn:=oZ) (by kernel_rfl) (by kernel_rfl) fun H w Bv args φ hrep h=>?_
 have hn:oZ.ntmps=20:=by kernel_rfl
 unfold F14 at h;split at h
 ·rename_i n g m h' x
  obtain ⟨h1,h2,h3,h4,h5⟩:=h;refine ⟨_,hrep,?_⟩;rw[hn,a14 Ai W5 n m g h' x];rw[<-ahz] at h2 h4 h5;exact ⟨h1,h3,acd x m,h2,h4,acd x m,h1,h3,h2,h4,⟨rfl,rfl,rfl,rfl,rfl,rfl,rfl,rfl,rfl,trivial⟩,h5⟩
 ·exact h.elim
def CZ:Nat->Option (List Sh->Tree Sh)
 |54=>ak F10 |31=>ak F11 |21=>ak F13 |29=>ak F14 |45=>ak F37 |_=>aK
theorem a57(A:Prim)(W:Wd)(c:Int):CG (C5 A W CZ AU) 300 102 [.code []] (Ap 17 [.i .i64 c] L0)=aF (A.eq c (ah 1)) (aB (aN (aY .i64 (ah 1)))) (aF (A.eq c (ah 2)) (aB (aN (aY .i64 (ah 1)))) (aF (A.eq c (ah 3)) (aB (aN (aY .i64 (ah 2)))) (aF (A.eq c (ah 4)) (aB (aN (aY .i64 (ah 2)))) (aF (A.eq c (ah 5)) (aB (aN (aY .i64 (ah 3)))) (aF (A.eq c (ah 6)) (aB (aN (aY .i64 (ah 3)))) (aF (A.eq c (ah 7)) (aB (aN (aY .i64 (ah 4)))) (aF (A.eq c (ah 8)) (aB (aN (aY .i64 (ah 4)))) (aF (A.eq c (ah 9)) (aB (aN (aY .i64 (ah 4)))) (aB (aN (aY .i64 (ah 0)))))))))))):=by kernel_rfl
theorem aug(A:Prim)(W:Wd)(c:Int):CG (C5 A W CZ AU) 300 122 [.code []] (Ap 16 [.v (.int .i64 1),.i .i64 c] L0)=aF (A.lt (A.sub .i64 (A.max c (ah 0)) (ah 1)) (ah 0)) (aB (aN (dB []))) (aF (A.le (ah 4) (A.sub .i64 (A.max c (ah 0)) (ah 1))) (aB (aN (dB []))) (aH (A.inB (A.sub .i64 (A.max c (ah 0)) (ah 1)) 4) (aF (A.eq (A.sub .i64 (A.max c (ah 0)) (ah 1)) (ah 0)) (aB (aN (dB (W 16 0)))) (aF (A.eq (A.sub .i64 (A.max c (ah 0)) (ah 1)) (ah 1)) (aB (aN (dB (W 16 1)))) (aF (A.eq (A.sub .i64 (A.max c (ah 0)) (ah 1)) (ah 2)) (aB (aN (dB (W 16 2)))) (aF (A.eq (A.sub .i64 (A.max c (ah 0)) (ah 1)) (ah 3)) (aB (aN (dB (W 16 3)))) dL)))))):=by kernel_rfl
theorem auh(A:Prim)(W:Wd)(c:Int):CG (C5 A W CZ AU) 300 122 [.code []] (Ap 16 [.v (.int .i64 2),.i .i64 c] L0)=aF (A.lt (A.sub .i64 (A.max c (ah 0)) (ah 1)) (ah 0)) (aB (aN (dB []))) (aF (A.le (ah 7) (A.sub .i64 (A.max c (ah 0)) (ah 1))) (aB (aN (dB []))) (aH (A.inB (A.sub .i64 (A.max c (ah 0)) (ah 1)) 7) (aF (A.eq (A.sub .i64 (A.max c (ah 0)) (ah 1)) (ah 0)) (aB (aN (dB (W 17 0)))) (aF (A.eq (A.sub .i64 (A.max c (ah 0)) (ah 1)) (ah 1)) (aB (aN (dB (W 17 1)))) (aF (A.eq (A.sub .i64 (A.max c (ah 0)) (ah 1)) (ah 2)) (aB (aN (dB (W 17 2)))) (aF (A.eq (A.sub .i64 (A.max c (ah 0)) (ah 1)) (ah 3)) (aB (aN (dB (W 17 3)))) (aF (A.eq (A.sub .i64 (A.max c (ah 0)) (ah 1)) (ah 4)) (aB (aN (dB (W 17 4)))) (aF (A.eq (A.sub .i64 (A.max c (ah 0)) (ah 1)) (ah 5)) (aB (aN (dB (W 17 5)))) (aF (A.eq (A.sub .i64 (A.max c (ah 0)) (ah 1)) (ah 6)) (aB (aN (dB (W 17 6)))) dL))))))))):=by kernel_rfl
theorem aui(A:Prim)(W:Wd)(c:Int):CG (C5 A W CZ AU) 300 122 [.code []] (Ap 16 [.v (.int .i64 3),.i .i64 c] L0)=aF (A.lt (A.sub .i64 (A.max c (ah 0)) (ah 1)) (ah 0)) (aB (aN (dB []))) (aF (A.le (ah 9) (A.sub .i64 (A.max c (ah 0)) (ah 1))) (aB (aN (dB []))) (aH (A.inB (A.sub .i64 (A.max c (ah 0)) (ah 1)) 9) (aF (A.eq (A.sub .i64 (A.max c (ah 0)) (ah 1)) (ah 0)) (aB (aN (dB (W 18 0)))) (aF (A.eq (A.sub .i64 (A.max c (ah 0)) (ah 1)) (ah 1)) (aB (aN (dB (W 18 1)))) (aF (A.eq (A.sub .i64 (A.max c (ah 0)) (ah 1)) (ah 2)) (aB (aN (dB (W 18 2)))) (aF (A.eq (A.sub .i64 (A.max c (ah 0)) (ah 1)) (ah 3)) (aB (aN (dB (W 18 3)))) (aF (A.eq (A.sub .i64 (A.max c (ah 0)) (ah 1)) (ah 4)) (aB (aN (dB (W 18 4)))) (aF (A.eq (A.sub .i64 (A.max c (ah 0)) (ah 1)) (ah 5)) (aB (aN (dB (W 18 5)))) (aF (A.eq (A.sub .i64 (A.max c (ah 0)) (ah 1)) (ah 6)) (aB (aN (dB (W 18 6)))) (aF (A.eq (A.sub .i64 (A.max c (ah 0)) (ah 1)) (ah 7)) (aB (aN (dB (W 18 7)))) (aF (A.eq (A.sub .i64 (A.max c (ah 0)) (ah 1)) (ah 8)) (aB (aN (dB (W 18 8)))) dL))))))))))):=by kernel_rfl
theorem auj(A:Prim)(W:Wd)(c:Int):CG (C5 A W CZ AU) 300 122 [.code []] (Ap 16 [.v (.int .i64 4),.i .i64 c] L0)=aF (A.lt (A.sub .i64 (A.max c (ah 0)) (ah 1)) (ah 0)) (aB (aN (dB []))) (aF (A.le (ah 3) (A.sub .i64 (A.max c (ah 0)) (ah 1))) (aB (aN (dB []))) (aH (A.inB (A.sub .i64 (A.max c (ah 0)) (ah 1)) 3) (aF (A.eq (A.sub .i64 (A.max c (ah 0)) (ah 1)) (ah 0)) (aB (aN (dB (W 19 0)))) (aF (A.eq (A.sub .i64 (A.max c (ah 0)) (ah 1)) (ah 1)) (aB (aN (dB (W 19 1)))) (aF (A.eq (A.sub .i64 (A.max c (ah 0)) (ah 1)) (ah 2)) (aB (aN (dB (W 19 2)))) dL))))):=by kernel_rfl
theorem auk(A:Prim)(W:Wd)(c:Int):CG (C5 A W CZ AU) 300 122 [.code []] (Ap 16 [.v (.int .i64 5),.i .i64 c] L0)=aF (A.lt (A.sub .i64 (A.max c (ah 0)) (ah 1)) (ah 0)) (aB (aN (dB []))) (aF (A.le (ah 4) (A.sub .i64 (A.max c (ah 0)) (ah 1))) (aB (aN (dB []))) (aH (A.inB (A.sub .i64 (A.max c (ah 0)) (ah 1)) 4) (aF (A.eq (A.sub .i64 (A.max c (ah 0)) (ah 1)) (ah 0)) (aB (aN (dB (W 20 0)))) (aF (A.eq (A.sub .i64 (A.max c (ah 0)) (ah 1)) (ah 1)) (aB (aN (dB (W 20 1)))) (aF (A.eq (A.sub .i64 (A.max c (ah 0)) (ah 1)) (ah 2)) (aB (aN (dB (W 20 2)))) (aF (A.eq (A.sub .i64 (A.max c (ah 0)) (ah 1)) (ah 3)) (aB (aN (dB (W 20 3)))) dL)))))):=by kernel_rfl
theorem aul(A:Prim)(W:Wd)(c:Int):CG (C5 A W CZ AU) 300 122 [.code []] (Ap 16 [.v (.int .i64 6),.i .i64 c] L0)=aF (A.lt (A.sub .i64 (A.max c (ah 0)) (ah 1)) (ah 0)) (aB (aN (dB []))) (aF (A.le (ah 4) (A.sub .i64 (A.max c (ah 0)) (ah 1))) (aB (aN (dB []))) (aH (A.inB (A.sub .i64 (A.max c (ah 0)) (ah 1)) 4) (aF (A.eq (A.sub .i64 (A.max c (ah 0)) (ah 1)) (ah 0)) (aB (aN (dB (W 21 0)))) (aF (A.eq (A.sub .i64 (A.max c (ah 0)) (ah 1)) (ah 1)) (aB (aN (dB (W 21 1)))) (aF (A.eq (A.sub .i64 (A.max c (ah 0)) (ah 1)) (ah 2)) (aB (aN (dB (W 21 2)))) (aF (A.eq (A.sub .i64 (A.max c (ah 0)) (ah 1)) (ah 3)) (aB (aN (dB (W 21 3)))) dL)))))):=by kernel_rfl
end Go.Aw
namespace Go.BR
open Go Go.Sx
def BF:Sh->Option Int
 | .i .i64 c=>ak c | .v (.int .i64 c)=>ak c |_=>aK
def YG(t:Int):Nat×Nat:=
 bif t==1 then (16,4) else bif t==2 then (17,7) else bif t==3 then (18,9) else bif t==4 then (19,3) else bif t==5 then (20,4) else (21,4)
def idx(c:Int):Int:=aW.wrap ((if (0:Int)>c then 0 else c) - 1)
def YH(m:Nat)(c:Int):Bool:=decide (0<=idx c/\idx c<(m:Int))
def Dk(g m:Nat)(c:Int):List UInt8:=bif YH m c then jQ g (idx c).toNat else []
def DV(c:Int):Int:=
 bif c==1 then 1 else bif c==2 then 1 else bif c==3 then 2 else bif c==4 then 2 else bif c==5 then 3 else bif c==6 then 3 else bif c==7 then 4 else bif c==8 then 4 else bif c==9 then 4 else 0
theorem EJ{H:Mem}{s:Sh}{c:Int}{v:Value}(h:BF s=ak c)(r:Rep H s v):Rep H (.i .i64 c) v:=by
 unfold BF at h;split at h
 ·cases h;exact r
 ·cases h;cases r;exact .i _ _
 ·cases h
theorem Vt{H:Mem}{s:Sh}{c:Int}{v:Value}(h:BF s=ak c)(r:Rep H s v):Rep H (.v (.int .i64 c)) v:=by
 have:=EJ h r;cases this;exact .v _ rfl
end Go.BR
namespace Go.Aw
open Go Go.Sx Go.BR
theorem awW:∀g F,CZ g=ak F->AV aA (FV W5) g F:=fun g F h=>by
 unfold CZ at h;split at h
 ·cases h;exact O10
 ·cases h;exact O11
 ·cases h;exact O13
 ·cases h;exact O14
 ·cases h;exact O37
 ·cases h
theorem ao6(stop:Nat->List Nat->Bool):BP aA (C5 Ai W5 CZ stop):=yQ awW fun g h=>by
 unfold CZ at h;split at h;all_goals first|(cases h;done) |kernel_rfl
theorem J5{ψ:Int->Prop}{b:Bool}{x y:Int}(h:ψ (bif b then x else y)):(b=aC->ψ x)/\(b=ay->ψ y):=by
 cases b
 ·exact ⟨fun q=>(by cases q),fun _=>h⟩
 ·exact ⟨fun _=>h,fun q=>by cases q⟩
def F57:List Sh->Tree Sh
 |[s]=>match BF s with
  |some c=>.leaf (.i .i64 (DV c)) |none=>.fail
 |_=>.fail
theorem O57:AV aA (FV W5) 102 F57:=by
 refine Ii (C:=C5 Ai W5 CZ AU) (kG _ _) (ao6 _) (n:=300) (L:=L0) (fn:=nU) (by kernel_rfl) (by kernel_rfl) fun H w Bv args φ hrep h=>?_
 have hn:nU.ntmps=17:=by kernel_rfl
 unfold F57 at h;split at h
 ·rename_i s
  split at h
  ·rename_i c hc
   match args,hrep with
   |[v],⟨hv,_⟩=>
    refine ⟨[.i .i64 c],⟨EJ hc hv,trivial⟩,?_⟩;rw[hn,a57 Ai W5 c];have h:φ (.i .i64 (DV c)):=h;exact let h1:=J5 (ψ:=fun d=>φ (.i .i64 d)) h;⟨h1.1,fun q=>let h1:=J5 (ψ:=fun d=>φ (.i .i64 d)) (h1.2 q);⟨h1.1,fun q=>let h1:=J5 (ψ:=fun d=>φ (.i .i64 d)) (h1.2 q);⟨h1.1,fun q=>let h1:=J5 (ψ:=fun d=>φ (.i .i64 d)) (h1.2 q);⟨h1.1,fun q=>let h1:=J5 (ψ:=fun d=>φ (.i .i64 d)) (h1.2 q);⟨h1.1,fun q=>let h1:=J5 (ψ:=fun d=>φ (.i .i64 d)) (h1.2 q);⟨h1.1,fun q=>let h1:=J5 (ψ:=fun d=>φ (.i .i64 d)) (h1.2 q);⟨h1.1,fun q=>let h1:=J5 (ψ:=fun d=>φ (.i .i64 d)) (h1.2 q);⟨h1.1,fun q=>let h1:=J5 (ψ:=fun d=>φ (.i .i64 d)) (h1.2 q);⟨h1.1,fun q=>h1.2 q⟩⟩⟩⟩⟩⟩⟩⟩⟩
  ·exact h.elim
 ·exact h.elim
def F61:List Sh->Tree Sh
 |[s0,s]=>match BF s0 with
  |some t=>match BF s with
   |some c=>.need (decide (1<=t/\t<=6)) (.leaf (.str (Dk (YG t).1 (YG t).2 c))) |none=>.fail
  |none=>.fail
 |_=>.fail
theorem Nc{φ:Sh->Prop}{g m:Nat}{c:Int}{T:Prop}(h:φ (.str (Dk g m c)))(hT:∀k:Nat,k<m->idx c=(k:Int)->φ (.str (W5 g k))->T):
  (Ai.lt (Ai.sub .i64 (Ai.max c (ah 0)) (ah 1)) (ah 0)=aC->φ (.str []))/\
  (Ai.lt (Ai.sub .i64 (Ai.max c (ah 0)) (ah 1)) (ah 0)=ay->(Ai.le (ah m) (Ai.sub .i64 (Ai.max c (ah 0)) (ah 1))=aC->φ (.str []))/\
   (Ai.le (ah m) (Ai.sub .i64 (Ai.max c (ah 0)) (ah 1))=ay->Ai.inB (Ai.sub .i64 (Ai.max c (ah 0)) (ah 1)) m=aC/\T)):=by
 have he:Ai.sub .i64 (Ai.max c (ah 0)) (ah 1)=idx c:=rfl;rw[he,Aq,DJ,BJ];unfold Dk at h;simp only[fM,decide_eq_true_eq,decide_eq_false_iff_not];by_cases hi:YH m c=aC
 ·rw[hi] at h
  have hi:=of_decide_eq_true hi;refine ⟨fun q=>?_,fun _=>⟨fun q=>?_,fun _=>⟨hi,?_⟩⟩⟩
  ·exact absurd q (by omega)
  ·exact absurd q (by omega)
  ·exact hT (idx c).toNat (by omega) (by omega) h
 ·have hi':YH m c=ay:=by simpa using hi
  rw[hi'] at h;have hi:=of_decide_eq_false hi';refine ⟨fun _=>h,fun _=>⟨fun _=>h,fun _=>?_⟩⟩;exfalso;apply hi;constructor<;>omega
def Oz(g:Nat)(i:Int):List Nat->Tree Fin
 |[]=>.fail |k::l=>.node (Ai.eq i (ah k)) (.leaf (.ret (.str (W5 g k)))) (Oz g i l)
theorem Jr{ψ:Fin->Prop}{g k:Nat}{i:Int}(e:i=(k:Int))(hψ:ψ (.ret (.str (W5 g k)))):∀l,k∈l->(Oz g i l).All ψ
 |[],h=>by cases h |a::l,h=>by
  refine ⟨fun q=>?_,fun q=>?_⟩
  ·rw[AX,e] at q
   have:k=a:=by have:=eq_of_beq q;simp only[fM] at this;omega
   rw[<-this];exact hψ
  ·rw[AX,e] at q
   have:k≠a:=fun e=>by subst e;simp at q
   exact Jr e hψ l ((List.mem_cons.1 h).resolve_left this)
@[irreducible] def DW (ψ:Fin->Prop) (t:Tree Fin):Prop:=t.All ψ
theorem Cc(ψ:Fin->Prop)(t:Tree Fin):t.All ψ=DW ψ t:=by unfold DW;rfl
theorem auo{H:Mem}{w:World}{φ:Sh->Prop}{c:Int}(h2:φ (.str (Dk 16 4 c))):
  DW (BU aA (C5 Ai W5 CZ AU) (K0 H w) dM φ) (CG (C5 Ai W5 CZ AU) 300 122 [.code []] (Ap 16 [.v (.int .i64 1),.i .i64 c] L0)):=by
 rw[aug Ai W5 c,<-Cc];exact Nc (T:=(Oz 16 (idx c) [0,1,2,3]).All (BU aA (C5 Ai W5 CZ AU) (K0 H w) dM φ)) h2 fun k hk e hφ=>Jr e hφ _ (by simp;omega)
theorem aup{H:Mem}{w:World}{φ:Sh->Prop}{c:Int}(h2:φ (.str (Dk 17 7 c))):
  DW (BU aA (C5 Ai W5 CZ AU) (K0 H w) dM φ) (CG (C5 Ai W5 CZ AU) 300 122 [.code []] (Ap 16 [.v (.int .i64 2),.i .i64 c] L0)):=by
 rw[auh Ai W5 c,<-Cc];exact Nc (T:=(Oz 17 (idx c) [0,1,2,3,4,5,6]).All (BU aA (C5 Ai W5 CZ AU) (K0 H w) dM φ)) h2 fun k hk e hφ=>Jr e hφ _ (by simp;omega)
theorem auq{H:Mem}{w:World}{φ:Sh->Prop}{c:Int}(h2:φ (.str (Dk 18 9 c))):
  DW (BU aA (C5 Ai W5 CZ AU) (K0 H w) dM φ) (CG (C5 Ai W5 CZ AU) 300 122 [.code []] (Ap 16 [.v (.int .i64 3),.i .i64 c] L0)):=by
 rw[aui Ai W5 c,<-Cc];exact Nc (T:=(Oz 18 (idx c) [0,1,2,3,4,5,6,7,8]).All (BU aA (C5 Ai W5 CZ AU) (K0 H w) dM φ)) h2 fun k hk e hφ=>Jr e hφ _ (by simp;omega)
theorem aur{H:Mem}{w:World}{φ:Sh->Prop}{c:Int}(h2:φ (.str (Dk 19 3 c))):
  DW (BU aA (C5 Ai W5 CZ AU) (K0 H w) dM φ) (CG (C5 Ai W5 CZ AU) 300 122 [.code []] (Ap 16 [.v (.int .i64 4),.i .i64 c] L0)):=by
 rw[auj Ai W5 c,<-Cc];exact Nc (T:=(Oz 19 (idx c) [0,1,2]).All (BU aA (C5 Ai W5 CZ AU) (K0 H w) dM φ)) h2 fun k hk e hφ=>Jr e hφ _ (by simp;omega)
theorem aus{H:Mem}{w:World}{φ:Sh->Prop}{c:Int}(h2:φ (.str (Dk 20 4 c))):
  DW (BU aA (C5 Ai W5 CZ AU) (K0 H w) dM φ) (CG (C5 Ai W5 CZ AU) 300 122 [.code []] (Ap 16 [.v (.int .i64 5),.i .i64 c] L0)):=by
 rw[auk Ai W5 c,<-Cc];exact Nc (T:=(Oz 20 (idx c) [0,1,2,3]).All (BU aA (C5 Ai W5 CZ AU) (K0 H w) dM φ)) h2 fun k hk e hφ=>Jr e hφ _ (by simp;omega)
theorem aut{H:Mem}{w:World}{φ:Sh->Prop}{c:Int}(h2:φ (.str (Dk 21 4 c))):
  DW (BU aA (C5 Ai W5 CZ AU) (K0 H w) dM φ) (CG (C5 Ai W5 CZ AU) 300 122 [.code []] (Ap 16 [.v (.int .i64 6),.i .i64 c] L0)):=by
 rw[aul Ai W5 c,<-Cc];exact Nc (T:=(Oz 21 (idx c) [0,1,2,3]).All (BU aA (C5 Ai W5 CZ AU) (K0 H w) dM φ)) h2 fun k hk e hφ=>Jr e hφ _ (by simp;omega)
theorem six{P:Int->Nat->Nat->Prop}(h1:P 1 16 4)(h2:P 2 17 7)(h3:P 3 18 9)(h4:P 4 19 3)(h5:P 5 20 4)(h6:P 6 21 4){t:Int}(ht:decide (1<=t/\t<=6)=aC):P t (YG t).1 (YG t).2:=by
 have ht:=of_decide_eq_true ht;have e:t=1\/t=2\/t=3\/t=4\/t=5\/t=6:=by omega
 rcases e with rfl|rfl|rfl|rfl|rfl|rfl
 ·exact h1
 ·exact h2
 ·exact h3
 ·exact h4
 ·exact h5
 ·exact h6
theorem w61{H:Mem}{w:World}{φ:Sh->Prop}{c t:Int}(ht:decide (1<=t/\t<=6)=aC)(h2:φ (.str (Dk (YG t).1 (YG t).2 c))):
  DW (BU aA (C5 Ai W5 CZ AU) (K0 H w) dM φ) (CG (C5 Ai W5 CZ AU) 300 122 [.code []] (Ap 16 [.v (.int .i64 t),.i .i64 c] L0)):=
 six (P:=fun t g m=>φ (.str (Dk g m c))->DW (BU aA (C5 Ai W5 CZ AU) (K0 H w) dM φ) (CG (C5 Ai W5 CZ AU) 300 122 [.code []] (Ap 16 [.v (.int .i64 t),.i .i64 c] L0))) auo aup auq aur aus aut ht h2
theorem O61:AV aA (FV W5) 122 F61:=by
 refine Ii (C:=C5 Ai W5 CZ AU) (kG _ _) (ao6 _) (n:=300) (L:=L0) (fn:=dM) (by kernel_rfl) (by kernel_rfl) fun H w Bv args φ hrep h=>?_
 have hn:dM.ntmps=16:=by kernel_rfl
 unfold F61 at h;split at h
 ·rename_i s0 s
  split at h
  ·rename_i t ht
   split at h
   ·rename_i c hc
    obtain ⟨h1,h2⟩:=h;match args,hrep with
    |[u,v],⟨hu,hv,_⟩=>
     refine ⟨[.v (.int .i64 t),.i .i64 c],⟨Vt ht hu,EJ hc hv,trivial⟩,?_⟩;rw[hn,Cc];exact w61 h1 h2
   ·exact h.elim
  ·exact h.elim
 ·exact h.elim
def Bc:Nat->Option (List Sh->Tree Sh)
 |102=>ak F57 |122=>ak F61 |_=>aK
theorem a54(A:Prim)(W:Wd)(x y:Int):CG (C5 A W Bc AU) 300 99 [.code []] (Ap 36 [.agg [.i .i64 x,.i .i64 y]] L0)=aF (A.eq x (ah 1)) (aH aC (aF (A.seq (Dk 16 4 x) []) (aB (aN (bf 7 329))) (aF (A.lt y (fJ 999999999)) (aB (aN (bf 7 329))) (aF (A.lt (ah 1000000000) y) (aB (aN (bf 7 329))) (aB (aN (jG bJ))))))) (aH aC (aF (A.seq (Dk 16 4 x) []) (aB (aN (bf 7 329))) (aF (A.lt y (fJ 999999999)) (aB (aN (bf 7 329))) (aF (A.lt (ah 1000000000) y) (aB (aN (bf 7 329))) (aF (A.nt (A.eq x (ah 2))) (aF (A.nt (A.eq y (ah 0))) (aB (aN (bf 7 329))) (aB (aN (jG bJ)))) (aB (aN (jG bJ)))))))):=by kernel_rfl
theorem a55(A:Prim)(W:Wd)(x:Int)(e:Nat):CG (C5 A W Bc AU) 300 100 [.code []] (Ap 10 [.i .i64 x,.er e 329] L0)=aB (aN (mQ 109 (pR [aY .i64 x,bf e 329]))):=by kernel_rfl
end Go.Aw
namespace Go.BR
open Go Go.Sx
def ace(k i:Int):Bool:=YH 4 k && !decide (i < -1000000000) && !decide (1000000000<i)&&(k==1||k==2||i==0)
theorem P8{g m:Nat}{c:Int}(h:∀k,k<m->jQ g k≠[]):Ai.seq (Dk g m c) []=!YH m c:=by
 rw[Yi];unfold Dk;cases hi:YH m c with
 |true=>
  have hi:=of_decide_eq_true hi;have:=h (idx c).toNat (by omega);simpa using this
 |false=>rfl
theorem awX:∀k,k<4->jQ 16 k≠[]:=fun k hk=>by
 obtain rfl|rfl|rfl|rfl:k=0\/k=1\/k=2\/k=3:=by omega
 all_goals simp[jQ,rP]
theorem akX:∀k,k<3->jQ 19 k≠[]:=fun k hk=>by
 obtain rfl|rfl|rfl:k=0\/k=1\/k=2:=by omega
 all_goals simp[jQ,rP]
end Go.BR
namespace Go.Aw
open Go Go.Sx Go.BR
theorem awY:∀g F,Bc g=ak F->AV aA (FV W5) g F:=fun g F h=>by
 unfold Bc at h;split at h
 ·cases h;exact O57
 ·cases h;exact O61
 ·cases h
theorem afr(stop:Nat->List Nat->Bool):BP aA (C5 Ai W5 Bc stop):=yQ awY fun g h=>by
 unfold Bc at h;split at h;all_goals first|(cases h;done) |kernel_rfl
def F54:List Sh->Tree Sh
 |[.agg [s,s']]=>match BF s with
  |some k=>match BF s' with
   |some i=>.node (ace k i) (.leaf (.v .nilIface)) (.leaf (.er 7 329)) |none=>.fail
  |none=>.fail
 |_=>.fail
theorem Yj{H:Mem}{s s' t t':Sh}{v:Value}(hv:Rep H (.agg [s,s']) v)(h1:∀u,Rep H s u->Rep H t u)(h2:∀u,Rep H s' u->Rep H t' u):Rep H (.agg [t,t']) v:=by
 cases hv with
 |agg _ vs h3 h4=>
  refine .agg _ vs h3 fun j s0 v' e1 e2=>?_
  match j,e1 with
  |0,e1=>simp at e1;subst e1;exact h1 _ (h4 0 _ v' rfl e2) |1,e1=>simp at e1;subst e1;exact h2 _ (h4 1 _ v' rfl e2) |j+2,e1=>simp at e1
theorem ao8{φ:Sh->Prop}{x y:Int}(hT:ace x y=aC->φ (.v .nilIface))(hF:ace x y=ay->φ (.er 7 329)){H:Mem}{w:World}:
  DW (BU aA (C5 Ai W5 Bc AU) (K0 H w) kV φ) (CG (C5 Ai W5 Bc AU) 300 99 [.code []] (Ap 36 [.agg [.i .i64 x,.i .i64 y]] L0)):=by
 rw[a54 Ai W5 x y,<-Cc,P8 awX];unfold ace at hT hF;simp only[fZ,BU,AX,Aq,CB];cases h1:YH 4 x<;>simp[h1] at hT hF ⊢
 ·exact hF
 ·refine ⟨fun e1=>⟨fun e=>hF fun q=>absurd q (by omega),fun e=>⟨fun e'=>hF fun _ q=>absurd q (by omega),fun e'=>hT e e' (.inl (.inl e1))⟩⟩,fun e1=>⟨fun e=>hF fun q=>absurd q (by omega),fun e=>⟨fun e'=>hF fun _ q=>absurd q (by omega),fun e'=>⟨fun e2=>⟨fun e3=>hF fun _ _=>⟨⟨e1,e2⟩,e3⟩,fun e3=>hT e e' (.inr e3)⟩,fun e2=>hT e e' (.inl (.inr e2))⟩⟩⟩⟩
theorem O54:AV aA (FV W5) 99 F54:=by
 refine Ii (C:=C5 Ai W5 Bc AU) (kG _ _) (afr _) (n:=300) (L:=L0) (fn:=kV) (by kernel_rfl) (by kernel_rfl) fun H w Bv args φ hrep h=>?_
 have hn:kV.ntmps=36:=by kernel_rfl
 unfold F54 at h;split at h
 ·rename_i s s'
  split at h
  ·rename_i k hk
   split at h
   ·rename_i i hi
    obtain ⟨h1,h2⟩:=h;match args,hrep with
    |[u],⟨hu,_⟩=>
     refine ⟨[.agg [.i .i64 k,.i .i64 i]],⟨Yj hu (fun _=>EJ hk) (fun _=>EJ hi),trivial⟩,?_⟩;rw[hn,Cc];exact ao8 h1 h2
   ·exact h.elim
  ·exact h.elim
 ·exact h.elim
def il(n:Int):Sh:=.v (.int .i64 n)
def sy(n:Int):Sh:=.i .i64 n
def Ji:Nat->List Nat->Bool:=fun g _=>fC g 101
def dead:Tree Fin->Tree Fin
 | .leaf (.ret s)=>.leaf (.ret s) | .leaf (.stop _ _)=>.fail | .node b t f=>.node b (dead t) (dead f) | .need b t=>.need b (dead t) | .must l t=>.must l (dead t) | .both t f=>.both (dead t) (dead f) | .fail=>.fail
theorem NW{ψ:Fin->Prop}:∀{t:Tree Fin},(dead t).All ψ->t.All ψ
 | .leaf (.ret _),h=>h | .leaf (.stop _ _),h=>h.elim | .node _ _ _,h=>⟨fun q=>NW (h.1 q),fun q=>NW (h.2 q)⟩ | .need _ _,h=>⟨h.1,NW h.2⟩ | .must _ _,h=>⟨h.1,NW h.2⟩ | .both _ _,h=>⟨NW h.1,NW h.2⟩ | .fail,h=>h
theorem auu(A:Prim)(W:Wd)(_k x t o p y v r:Int):CG (C5 A W Bc AP) 3000 101 [.code []] (Ap 75 [.agg [il 1,sy x,sy t,sy o,sy p,sy y,sy v,sy r]] L0)=aQ [aj x x,aj t t,aj o o,aj p p,aj y y,aj v v,aj r r] (aQ [aj x x,aj t t,aj o o,aj p p,aj y y,aj v v,aj r r] (aQ [aj x x,aj t t,aj o o,aj p p,aj y y,aj v v,aj r r] (aQ [aj x x,aj t t,aj o o,aj p p,aj y y,aj v v,aj r r] (aF (A.lt x (ah 1)) (aB (aN (bf 15 329))) (aF (A.lt (ah 1000) x) (aB (aN (bf 15 329))) (aF (A.lt t (ah 0)) (aB (aN (bf 15 329))) (aF (A.lt (ah 7) t) (aB (aN (bf 15 329))) (aF (A.nt (A.ite (A.eq (ah 0) (ah 0)) (A.ite (A.eq (ah 0) (ah 0)) (A.ite (A.eq (ah 0) (ah 0)) (A.ite (A.eq o (ah 0)) (A.ite (A.eq p (ah 0)) (A.ite (A.eq y (ah 0)) (A.ite (A.eq v (ah 0)) (A.ite (A.eq r (ah 0)) aC ay) ay) ay) ay) ay) ay) ay) ay)) (aB (aN (bf 15 329))) (aB (aN (jG bJ))))))))))):=by kernel_rfl
theorem auv(A:Prim)(W:Wd)(_k x t o p y v r:Int):CG (C5 A W Bc AP) 3000 101 [.code []] (Ap 75 [.agg [il 4,sy x,sy t,sy o,sy p,sy y,sy v,sy r]] L0)=aQ [aj x x,aj t t,aj o o,aj p p,aj y y,aj v v,aj r r] (aQ [aj x x,aj t t,aj o o,aj p p,aj y y,aj v v,aj r r] (aQ [aj x x,aj t t,aj o o,aj p p,aj y y,aj v v,aj r r] (aQ [aj x x,aj t t,aj o o,aj p p,aj y y,aj v v,aj r r] (aF (A.lt x (ah 1)) (aB (aN (bf 15 329))) (aF (A.lt (ah 1000) x) (aB (aN (bf 15 329))) (aF (A.nt (A.ite (A.eq (ah 0) (ah 0)) (A.ite (A.eq (ah 0) (ah 0)) (A.ite (A.eq t (ah 0)) (A.ite (A.eq o (ah 0)) (A.ite (A.eq p (ah 0)) (A.ite (A.eq y (ah 0)) (A.ite (A.eq v (ah 0)) (A.ite (A.eq r (ah 0)) aC ay) ay) ay) ay) ay) ay) ay) ay)) (aB (aN (bf 15 329))) (aB (aN (jG bJ))))))))):=by kernel_rfl
theorem auw(A:Prim)(W:Wd)(_k x t o p y v r:Int):CG (C5 A W Bc AP) 3000 101 [.code []] (Ap 75 [.agg [il 5,sy x,sy t,sy o,sy p,sy y,sy v,sy r]] L0)=aQ [aj x x,aj t t,aj o o,aj p p,aj y y,aj v v,aj r r] (aQ [aj x x,aj t t,aj o o,aj p p,aj y y,aj v v,aj r r] (aQ [aj x x,aj t t,aj o o,aj p p,aj y y,aj v v,aj r r] (aQ [aj x x,aj t t,aj o o,aj p p,aj y y,aj v v,aj r r] (aF (A.lt x (ah 1)) (aB (aN (bf 15 329))) (aF (A.lt (ah 1000) x) (aB (aN (bf 15 329))) (aF (A.nt (A.ite (A.eq (ah 0) (ah 0)) (A.ite (A.eq (ah 0) (ah 0)) (A.ite (A.eq t (ah 0)) (A.ite (A.eq o (ah 0)) (A.ite (A.eq p (ah 0)) (A.ite (A.eq y (ah 0)) (A.ite (A.eq v (ah 0)) (A.ite (A.eq r (ah 0)) aC ay) ay) ay) ay) ay) ay) ay) ay)) (aB (aN (bf 15 329))) (aB (aN (jG bJ))))))))):=by kernel_rfl
theorem auy(A:Prim)(W:Wd)(_k x t o p y v r:Int):CG (C5 A W Bc AP) 3000 101 [.code []] (Ap 75 [.agg [il 6,sy x,sy t,sy o,sy p,sy y,sy v,sy r]] L0)=aQ [aj x x,aj t t,aj o o,aj p p,aj y y,aj v v,aj r r] (aQ [aj x x,aj t t,aj o o,aj p p,aj y y,aj v v,aj r r] (aQ [aj x x,aj t t,aj o o,aj p p,aj y y,aj v v,aj r r] (aQ [aj x x,aj t t,aj o o,aj p p,aj y y,aj v v,aj r r] (aF (A.lt x (ah 1)) (aB (aN (bf 15 329))) (aF (A.lt (ah 1000) x) (aB (aN (bf 15 329))) (aF (A.nt (A.ite (A.eq (ah 0) (ah 0)) (A.ite (A.eq (ah 0) (ah 0)) (A.ite (A.eq t (ah 0)) (A.ite (A.eq o (ah 0)) (A.ite (A.eq p (ah 0)) (A.ite (A.eq y (ah 0)) (A.ite (A.eq v (ah 0)) (A.ite (A.eq r (ah 0)) aC ay) ay) ay) ay) ay) ay) ay) ay)) (aB (aN (bf 15 329))) (aB (aN (jG bJ))))))))):=by kernel_rfl
theorem auz(A:Prim)(W:Wd)(_k x t o p y v r:Int):CG (C5 A W Bc AP) 3000 101 [.code []] (Ap 75 [.agg [il 7,sy x,sy t,sy o,sy p,sy y,sy v,sy r]] L0)=aQ [aj x x,aj t t,aj o o,aj p p,aj y y,aj v v,aj r r] (aQ [aj x x,aj t t,aj o o,aj p p,aj y y,aj v v,aj r r] (aQ [aj x x,aj t t,aj o o,aj p p,aj y y,aj v v,aj r r] (aQ [aj x x,aj t t,aj o o,aj p p,aj y y,aj v v,aj r r] (aF (A.lt x (ah 1)) (aB (aN (bf 15 329))) (aF (A.lt (ah 1000) x) (aB (aN (bf 15 329))) (aF (A.nt (A.ite (A.eq (ah 0) (ah 0)) (A.ite (A.eq (ah 0) (ah 0)) (A.ite (A.eq t (ah 0)) (A.ite (A.eq o (ah 0)) (A.ite (A.eq p (ah 0)) (A.ite (A.eq y (ah 0)) (A.ite (A.eq v (ah 0)) (A.ite (A.eq r (ah 0)) aC ay) ay) ay) ay) ay) ay) ay) ay)) (aB (aN (bf 15 329))) (aB (aN (jG bJ))))))))):=by kernel_rfl
theorem ao9(A:Prim)(W:Wd)(_k x t o _p y v r:Int):CG (C5 A W Bc AP) 3000 101 [.code []] (Ap 75 [.agg [il 2,sy x,sy t,sy o,il 1,sy y,sy v,sy r]] L0)=aQ [aj x x,aj t t,aj o o,aj y y,aj v v,aj r r] (aQ [aj x x,aj t t,aj o o,aj y y,aj v v,aj r r] (aQ [aj x x,aj t t,aj o o,aj y y,aj v v,aj r r] (aQ [aj x x,aj t t,aj o o,aj y y,aj v v,aj r r] (aF (A.eq (DV (ah 1)) (ah 0)) (aB (aN (bf 14 329))) (aF (A.lt x (ah 1)) (aB (aN (bf 15 329))) (aF (A.lt (ah 1000) x) (aB (aN (bf 15 329))) (aF (A.lt o (ah 0)) (aB (aN (bf 15 329))) (aF (A.lt (ah 7) o) (aB (aN (bf 15 329))) (aF (A.nt (A.ite (A.eq (ah 0) (ah 0)) (A.ite (A.eq (ah 0) (ah 0)) (A.ite (A.eq t (ah 0)) (A.ite (A.eq (ah 0) (ah 0)) (A.ite (A.eq (ah 0) (ah 0)) (A.ite (A.eq y (ah 0)) (A.ite (A.eq v (ah 0)) (A.ite (A.eq r (ah 0)) aC ay) ay) ay) ay) ay) ay) ay) ay)) (aB (aN (bf 15 329))) (aB (aN (jG bJ)))))))))))):=by kernel_rfl
theorem apa(A:Prim)(W:Wd)(_k x t o _p y v r:Int):CG (C5 A W Bc AP) 3000 101 [.code []] (Ap 75 [.agg [il 2,sy x,sy t,sy o,il 2,sy y,sy v,sy r]] L0)=aQ [aj x x,aj t t,aj o o,aj y y,aj v v,aj r r] (aQ [aj x x,aj t t,aj o o,aj y y,aj v v,aj r r] (aQ [aj x x,aj t t,aj o o,aj y y,aj v v,aj r r] (aQ [aj x x,aj t t,aj o o,aj y y,aj v v,aj r r] (aF (A.eq (DV (ah 2)) (ah 0)) (aB (aN (bf 14 329))) (aF (A.lt x (ah 1)) (aB (aN (bf 15 329))) (aF (A.lt (ah 1000) x) (aB (aN (bf 15 329))) (aF (A.lt o (ah 0)) (aB (aN (bf 15 329))) (aF (A.lt (ah 7) o) (aB (aN (bf 15 329))) (aF (A.lt v (fJ 999999999)) (aB (aN (bf 15 329))) (aF (A.lt (ah 1000000000) v) (aB (aN (bf 15 329))) (aF (A.nt (A.ite (A.eq (ah 0) (ah 0)) (A.ite (A.eq (ah 0) (ah 0)) (A.ite (A.eq t (ah 0)) (A.ite (A.eq (ah 0) (ah 0)) (A.ite (A.eq (ah 0) (ah 0)) (A.ite (A.eq y (ah 0)) (A.ite (A.eq (ah 0) (ah 0)) (A.ite (A.eq r (ah 0)) aC ay) ay) ay) ay) ay) ay) ay) ay)) (aB (aN (bf 15 329))) (aB (aN (jG bJ)))))))))))))):=by kernel_rfl
theorem apb(A:Prim)(W:Wd)(_k x t o _p y v r:Int):CG (C5 A W Bc AP) 3000 101 [.code []] (Ap 75 [.agg [il 2,sy x,sy t,sy o,il 3,sy y,sy v,sy r]] L0)=aQ [aj x x,aj t t,aj o o,aj y y,aj v v,aj r r] (aQ [aj x x,aj t t,aj o o,aj y y,aj v v,aj r r] (aQ [aj x x,aj t t,aj o o,aj y y,aj v v,aj r r] (aQ [aj x x,aj t t,aj o o,aj y y,aj v v,aj r r] (aF (A.eq (DV (ah 3)) (ah 0)) (aB (aN (bf 14 329))) (aF (A.lt x (ah 1)) (aB (aN (bf 15 329))) (aF (A.lt (ah 1000) x) (aB (aN (bf 15 329))) (aF (A.lt o (ah 0)) (aB (aN (bf 15 329))) (aF (A.lt (ah 7) o) (aB (aN (bf 15 329))) (aF (A.lt v (fJ 999999999)) (aB (aN (bf 15 329))) (aF (A.lt (ah 1000000000) v) (aB (aN (bf 15 329))) (aF (A.nt (A.ite (A.eq (ah 0) (ah 0)) (A.ite (A.eq (ah 0) (ah 0)) (A.ite (A.eq t (ah 0)) (A.ite (A.eq (ah 0) (ah 0)) (A.ite (A.eq (ah 0) (ah 0)) (A.ite (A.eq y (ah 0)) (A.ite (A.eq (ah 0) (ah 0)) (A.ite (A.eq r (ah 0)) aC ay) ay) ay) ay) ay) ay) ay) ay)) (aB (aN (bf 15 329))) (aB (aN (jG bJ)))))))))))))):=by kernel_rfl
theorem apc(A:Prim)(W:Wd)(_k x t o _p y v r:Int):CG (C5 A W Bc AP) 3000 101 [.code []] (Ap 75 [.agg [il 2,sy x,sy t,sy o,il 4,sy y,sy v,sy r]] L0)=aQ [aj x x,aj t t,aj o o,aj y y,aj v v,aj r r] (aQ [aj x x,aj t t,aj o o,aj y y,aj v v,aj r r] (aQ [aj x x,aj t t,aj o o,aj y y,aj v v,aj r r] (aQ [aj x x,aj t t,aj o o,aj y y,aj v v,aj r r] (aF (A.eq (DV (ah 4)) (ah 0)) (aB (aN (bf 14 329))) (aF (A.lt x (ah 1)) (aB (aN (bf 15 329))) (aF (A.lt (ah 1000) x) (aB (aN (bf 15 329))) (aF (A.lt o (ah 0)) (aB (aN (bf 15 329))) (aF (A.lt (ah 7) o) (aB (aN (bf 15 329))) (aF (A.nt (A.ite (A.eq (ah 0) (ah 0)) (A.ite (A.eq (ah 0) (ah 0)) (A.ite (A.eq t (ah 0)) (A.ite (A.eq (ah 0) (ah 0)) (A.ite (A.eq (ah 0) (ah 0)) (A.ite (A.eq y (ah 0)) (A.ite (A.eq v (ah 0)) (A.ite (A.eq r (ah 0)) aC ay) ay) ay) ay) ay) ay) ay) ay)) (aB (aN (bf 15 329))) (aB (aN (jG bJ)))))))))))):=by kernel_rfl
theorem apd(A:Prim)(W:Wd)(_k x t o _p y v r:Int):CG (C5 A W Bc AP) 3000 101 [.code []] (Ap 75 [.agg [il 2,sy x,sy t,sy o,il 5,sy y,sy v,sy r]] L0)=aQ [aj x x,aj t t,aj o o,aj y y,aj v v,aj r r] (aQ [aj x x,aj t t,aj o o,aj y y,aj v v,aj r r] (aQ [aj x x,aj t t,aj o o,aj y y,aj v v,aj r r] (aQ [aj x x,aj t t,aj o o,aj y y,aj v v,aj r r] (aF (A.eq (DV (ah 5)) (ah 0)) (aB (aN (bf 14 329))) (aF (A.lt x (ah 1)) (aB (aN (bf 15 329))) (aF (A.lt (ah 1000) x) (aB (aN (bf 15 329))) (aF (A.lt o (ah 0)) (aB (aN (bf 15 329))) (aF (A.lt (ah 7) o) (aB (aN (bf 15 329))) (aF (A.lt v (fJ 999999999)) (aB (aN (bf 15 329))) (aF (A.lt (ah 1000000000) v) (aB (aN (bf 15 329))) (aF (A.nt (A.ite (A.eq (ah 0) (ah 0)) (A.ite (A.eq (ah 0) (ah 0)) (A.ite (A.eq t (ah 0)) (A.ite (A.eq (ah 0) (ah 0)) (A.ite (A.eq (ah 0) (ah 0)) (A.ite (A.eq y (ah 0)) (A.ite (A.eq (ah 0) (ah 0)) (A.ite (A.eq r (ah 0)) aC ay) ay) ay) ay) ay) ay) ay) ay)) (aB (aN (bf 15 329))) (aB (aN (jG bJ)))))))))))))):=by kernel_rfl
theorem ape(A:Prim)(W:Wd)(_k x t o _p y v r:Int):CG (C5 A W Bc AP) 3000 101 [.code []] (Ap 75 [.agg [il 2,sy x,sy t,sy o,il 6,sy y,sy v,sy r]] L0)=aQ [aj x x,aj t t,aj o o,aj y y,aj v v,aj r r] (aQ [aj x x,aj t t,aj o o,aj y y,aj v v,aj r r] (aQ [aj x x,aj t t,aj o o,aj y y,aj v v,aj r r] (aQ [aj x x,aj t t,aj o o,aj y y,aj v v,aj r r] (aF (A.eq (DV (ah 6)) (ah 0)) (aB (aN (bf 14 329))) (aF (A.lt x (ah 1)) (aB (aN (bf 15 329))) (aF (A.lt (ah 1000) x) (aB (aN (bf 15 329))) (aF (A.lt o (ah 0)) (aB (aN (bf 15 329))) (aF (A.lt (ah 7) o) (aB (aN (bf 15 329))) (aF (A.nt (A.ite (A.eq (ah 0) (ah 0)) (A.ite (A.eq (ah 0) (ah 0)) (A.ite (A.eq t (ah 0)) (A.ite (A.eq (ah 0) (ah 0)) (A.ite (A.eq (ah 0) (ah 0)) (A.ite (A.eq y (ah 0)) (A.ite (A.eq v (ah 0)) (A.ite (A.eq r (ah 0)) aC ay) ay) ay) ay) ay) ay) ay) ay)) (aB (aN (bf 15 329))) (aB (aN (jG bJ)))))))))))):=by kernel_rfl
theorem apf(A:Prim)(W:Wd)(_k x t o _p y v r:Int):CG (C5 A W Bc AP) 3000 101 [.code []] (Ap 75 [.agg [il 2,sy x,sy t,sy o,il 7,sy y,sy v,sy r]] L0)=aQ [aj x x,aj t t,aj o o,aj y y,aj v v,aj r r] (aQ [aj x x,aj t t,aj o o,aj y y,aj v v,aj r r] (aQ [aj x x,aj t t,aj o o,aj y y,aj v v,aj r r] (aQ [aj x x,aj t t,aj o o,aj y y,aj v v,aj r r] (aF (A.eq (DV (ah 7)) (ah 0)) (aB (aN (bf 14 329))) (aF (A.lt x (ah 1)) (aB (aN (bf 15 329))) (aF (A.lt (ah 1000) x) (aB (aN (bf 15 329))) (aF (A.lt o (ah 0)) (aB (aN (bf 15 329))) (aF (A.lt (ah 7) o) (aB (aN (bf 15 329))) (aF (A.lt y (ah 0)) (aB (aN (bf 15 329))) (aF (A.lt (ah 1000) y) (aB (aN (bf 15 329))) (aF (A.lt v (fJ 999999999)) (aB (aN (bf 15 329))) (aF (A.lt (ah 1000000000) v) (aB (aN (bf 15 329))) (aF (A.nt (A.ite (A.eq (ah 0) (ah 0)) (A.ite (A.eq (ah 0) (ah 0)) (A.ite (A.eq t (ah 0)) (A.ite (A.eq (ah 0) (ah 0)) (A.ite (A.eq (ah 0) (ah 0)) (A.ite (A.eq (ah 0) (ah 0)) (A.ite (A.eq (ah 0) (ah 0)) (A.ite (A.eq r (ah 0)) aC ay) ay) ay) ay) ay) ay) ay) ay)) (aB (aN (bf 15 329))) (aB (aN (jG bJ)))))))))))))))):=by kernel_rfl
theorem apg(A:Prim)(W:Wd)(_k x t o _p y v r:Int):CG (C5 A W Bc AP) 3000 101 [.code []] (Ap 75 [.agg [il 2,sy x,sy t,sy o,il 8,sy y,sy v,sy r]] L0)=aQ [aj x x,aj t t,aj o o,aj y y,aj v v,aj r r] (aQ [aj x x,aj t t,aj o o,aj y y,aj v v,aj r r] (aQ [aj x x,aj t t,aj o o,aj y y,aj v v,aj r r] (aQ [aj x x,aj t t,aj o o,aj y y,aj v v,aj r r] (aF (A.eq (DV (ah 8)) (ah 0)) (aB (aN (bf 14 329))) (aF (A.lt x (ah 1)) (aB (aN (bf 15 329))) (aF (A.lt (ah 1000) x) (aB (aN (bf 15 329))) (aF (A.lt o (ah 0)) (aB (aN (bf 15 329))) (aF (A.lt (ah 7) o) (aB (aN (bf 15 329))) (aF (A.lt y (ah 0)) (aB (aN (bf 15 329))) (aF (A.lt (ah 1000) y) (aB (aN (bf 15 329))) (aF (A.nt (A.ite (A.eq (ah 0) (ah 0)) (A.ite (A.eq (ah 0) (ah 0)) (A.ite (A.eq t (ah 0)) (A.ite (A.eq (ah 0) (ah 0)) (A.ite (A.eq (ah 0) (ah 0)) (A.ite (A.eq (ah 0) (ah 0)) (A.ite (A.eq v (ah 0)) (A.ite (A.eq r (ah 0)) aC ay) ay) ay) ay) ay) ay) ay) ay)) (aB (aN (bf 15 329))) (aB (aN (jG bJ)))))))))))))):=by kernel_rfl
theorem aph(A:Prim)(W:Wd)(_k x t o _p y v r:Int):CG (C5 A W Bc AP) 3000 101 [.code []] (Ap 75 [.agg [il 2,sy x,sy t,sy o,il 9,sy y,sy v,sy r]] L0)=aQ [aj x x,aj t t,aj o o,aj y y,aj v v,aj r r] (aQ [aj x x,aj t t,aj o o,aj y y,aj v v,aj r r] (aQ [aj x x,aj t t,aj o o,aj y y,aj v v,aj r r] (aQ [aj x x,aj t t,aj o o,aj y y,aj v v,aj r r] (aF (A.eq (DV (ah 9)) (ah 0)) (aB (aN (bf 14 329))) (aF (A.lt x (ah 1)) (aB (aN (bf 15 329))) (aF (A.lt (ah 1000) x) (aB (aN (bf 15 329))) (aF (A.lt o (ah 0)) (aB (aN (bf 15 329))) (aF (A.lt (ah 7) o) (aB (aN (bf 15 329))) (aF (A.lt y (ah 0)) (aB (aN (bf 15 329))) (aF (A.lt (ah 1000) y) (aB (aN (bf 15 329))) (aF (A.nt (A.ite (A.eq (ah 0) (ah 0)) (A.ite (A.eq (ah 0) (ah 0)) (A.ite (A.eq t (ah 0)) (A.ite (A.eq (ah 0) (ah 0)) (A.ite (A.eq (ah 0) (ah 0)) (A.ite (A.eq (ah 0) (ah 0)) (A.ite (A.eq v (ah 0)) (A.ite (A.eq r (ah 0)) aC ay) ay) ay) ay) ay) ay) ay) ay)) (aB (aN (bf 15 329))) (aB (aN (jG bJ)))))))))))))):=by kernel_rfl
theorem apj(A:Prim)(W:Wd)(_k x t o p y v _r:Int):CG (C5 A W Bc AP) 3000 101 [.code []] (Ap 75 [.agg [il 3,sy x,sy t,sy o,sy p,sy y,sy v,il 1]] L0)=aQ [aj x x,aj t t,aj o o,aj p p,aj y y,aj v v] (aQ [aj x x,aj t t,aj o o,aj p p,aj y y,aj v v] (aQ [aj x x,aj t t,aj o o,aj p p,aj y y,aj v v] (aQ [aj x x,aj t t,aj o o,aj p p,aj y y,aj v v] (aH aC (aF (A.seq (Dk 19 3 (ah 1)) []) (aB (aN (bf 14 329))) (aF (A.lt x (ah 1)) (aB (aN (bf 15 329))) (aF (A.lt (ah 1000) x) (aB (aN (bf 15 329))) (aF (A.nt (A.ite (A.eq (ah 0) (ah 0)) (A.ite (A.eq (ah 0) (ah 0)) (A.ite (A.eq t (ah 0)) (A.ite (A.eq o (ah 0)) (A.ite (A.eq p (ah 0)) (A.ite (A.eq y (ah 0)) (A.ite (A.eq v (ah 0)) (A.ite (A.eq (ah 0) (ah 0)) aC ay) ay) ay) ay) ay) ay) ay) ay)) (aB (aN (bf 15 329))) (aB (aN (jG bJ))))))))))):=by kernel_rfl
theorem apk(A:Prim)(W:Wd)(_k x t o p y v _r:Int):CG (C5 A W Bc AP) 3000 101 [.code []] (Ap 75 [.agg [il 3,sy x,sy t,sy o,sy p,sy y,sy v,il 2]] L0)=aQ [aj x x,aj t t,aj o o,aj p p,aj y y,aj v v] (aQ [aj x x,aj t t,aj o o,aj p p,aj y y,aj v v] (aQ [aj x x,aj t t,aj o o,aj p p,aj y y,aj v v] (aQ [aj x x,aj t t,aj o o,aj p p,aj y y,aj v v] (aH aC (aF (A.seq (Dk 19 3 (ah 2)) []) (aB (aN (bf 14 329))) (aF (A.lt x (ah 1)) (aB (aN (bf 15 329))) (aF (A.lt (ah 1000) x) (aB (aN (bf 15 329))) (aF (A.nt (A.ite (A.eq (ah 0) (ah 0)) (A.ite (A.eq (ah 0) (ah 0)) (A.ite (A.eq t (ah 0)) (A.ite (A.eq o (ah 0)) (A.ite (A.eq p (ah 0)) (A.ite (A.eq y (ah 0)) (A.ite (A.eq v (ah 0)) (A.ite (A.eq (ah 0) (ah 0)) aC ay) ay) ay) ay) ay) ay) ay) ay)) (aB (aN (bf 15 329))) (aB (aN (jG bJ))))))))))):=by kernel_rfl
theorem apl(A:Prim)(W:Wd)(_k x t o p y v _r:Int):CG (C5 A W Bc AP) 3000 101 [.code []] (Ap 75 [.agg [il 3,sy x,sy t,sy o,sy p,sy y,sy v,il 3]] L0)=aQ [aj x x,aj t t,aj o o,aj p p,aj y y,aj v v] (aQ [aj x x,aj t t,aj o o,aj p p,aj y y,aj v v] (aQ [aj x x,aj t t,aj o o,aj p p,aj y y,aj v v] (aQ [aj x x,aj t t,aj o o,aj p p,aj y y,aj v v] (aH aC (aF (A.seq (Dk 19 3 (ah 3)) []) (aB (aN (bf 14 329))) (aF (A.lt x (ah 1)) (aB (aN (bf 15 329))) (aF (A.lt (ah 1000) x) (aB (aN (bf 15 329))) (aF (A.lt v (fJ 999999999)) (aB (aN (bf 15 329))) (aF (A.lt (ah 1000000000) v) (aB (aN (bf 15 329))) (aF (A.nt (A.ite (A.eq (ah 0) (ah 0)) (A.ite (A.eq (ah 0) (ah 0)) (A.ite (A.eq t (ah 0)) (A.ite (A.eq o (ah 0)) (A.ite (A.eq p (ah 0)) (A.ite (A.eq y (ah 0)) (A.ite (A.eq (ah 0) (ah 0)) (A.ite (A.eq (ah 0) (ah 0)) aC ay) ay) ay) ay) ay) ay) ay) ay)) (aB (aN (bf 15 329))) (aB (aN (jG bJ))))))))))))):=by kernel_rfl
theorem auA(A:Prim)(W:Wd)(k x t o p y v r:Int):dead (CG (C5 A W Bc Ji) 3000 101 [.code []] (Ap 75 [.agg [sy k,sy x,sy t,sy o,sy p,sy y,sy v,sy r]] L0))=aQ [aj k k,aj x x,aj t t,aj o o,aj p p,aj y y,aj v v,aj r r] (aQ [aj k k,aj x x,aj t t,aj o o,aj p p,aj y y,aj v v,aj r r] (aQ [aj k k,aj x x,aj t t,aj o o,aj p p,aj y y,aj v v,aj r r] (aQ [aj k k,aj x x,aj t t,aj o o,aj p p,aj y y,aj v v,aj r r] (aF (A.eq k (ah 1)) (aF (A.eq k (ah 2)) (aF (A.eq (DV p) (ah 0)) (aB (aN (bf 14 329))) (aF (A.eq k (ah 3)) (aH aC (aF (A.seq (Dk 19 3 r) []) (aB (aN (bf 14 329))) dL)) dL)) (aF (A.eq k (ah 3)) (aH aC (aF (A.seq (Dk 19 3 r) []) (aB (aN (bf 14 329))) dL)) dL)) (aF (A.eq k (ah 4)) (aF (A.eq k (ah 2)) (aF (A.eq (DV p) (ah 0)) (aB (aN (bf 14 329))) (aF (A.eq k (ah 3)) (aH aC (aF (A.seq (Dk 19 3 r) []) (aB (aN (bf 14 329))) dL)) dL)) (aF (A.eq k (ah 3)) (aH aC (aF (A.seq (Dk 19 3 r) []) (aB (aN (bf 14 329))) dL)) dL)) (aF (A.eq k (ah 5)) (aF (A.eq k (ah 2)) (aF (A.eq (DV p) (ah 0)) (aB (aN (bf 14 329))) (aF (A.eq k (ah 3)) (aH aC (aF (A.seq (Dk 19 3 r) []) (aB (aN (bf 14 329))) dL)) dL)) (aF (A.eq k (ah 3)) (aH aC (aF (A.seq (Dk 19 3 r) []) (aB (aN (bf 14 329))) dL)) dL)) (aF (A.eq k (ah 6)) (aF (A.eq k (ah 2)) (aF (A.eq (DV p) (ah 0)) (aB (aN (bf 14 329))) (aF (A.eq k (ah 3)) (aH aC (aF (A.seq (Dk 19 3 r) []) (aB (aN (bf 14 329))) dL)) dL)) (aF (A.eq k (ah 3)) (aH aC (aF (A.seq (Dk 19 3 r) []) (aB (aN (bf 14 329))) dL)) dL)) (aF (A.eq k (ah 7)) (aF (A.eq k (ah 2)) (aF (A.eq (DV p) (ah 0)) (aB (aN (bf 14 329))) (aF (A.eq k (ah 3)) (aH aC (aF (A.seq (Dk 19 3 r) []) (aB (aN (bf 14 329))) dL)) dL)) (aF (A.eq k (ah 3)) (aH aC (aF (A.seq (Dk 19 3 r) []) (aB (aN (bf 14 329))) dL)) dL)) (aF (A.eq k (ah 2)) (aF (A.eq k (ah 2)) (aF (A.eq (DV p) (ah 0)) (aB (aN (bf 14 329))) (aF (A.eq k (ah 3)) (aH aC (aF (A.seq (Dk 19 3 r) []) (aB (aN (bf 14 329))) dL)) dL)) (aF (A.eq k (ah 3)) (aH aC (aF (A.seq (Dk 19 3 r) []) (aB (aN (bf 14 329))) dL)) dL)) (aF (A.eq k (ah 3)) (aF (A.eq k (ah 2)) (aF (A.eq (DV p) (ah 0)) (aB (aN (bf 14 329))) (aF (A.eq k (ah 3)) (aH aC (aF (A.seq (Dk 19 3 r) []) (aB (aN (bf 14 329))) dL)) dL)) (aF (A.eq k (ah 3)) (aH aC (aF (A.seq (Dk 19 3 r) []) (aB (aN (bf 14 329))) dL)) dL)) (aB (aN (bf 14 329))))))))))))):=by kernel_rfl
theorem arV(A:Prim)(W:Wd)(_k x t o p y v r:Int):dead (CG (C5 A W Bc Ji) 3000 101 [.code []] (Ap 75 [.agg [il 2,sy x,sy t,sy o,sy p,sy y,sy v,sy r]] L0))=aQ [aj x x,aj t t,aj o o,aj p p,aj y y,aj v v,aj r r] (aQ [aj x x,aj t t,aj o o,aj p p,aj y y,aj v v,aj r r] (aQ [aj x x,aj t t,aj o o,aj p p,aj y y,aj v v,aj r r] (aQ [aj x x,aj t t,aj o o,aj p p,aj y y,aj v v,aj r r] (aF (A.eq (DV p) (ah 0)) (aB (aN (bf 14 329))) dL)))):=by kernel_rfl
theorem arW(A:Prim)(W:Wd)(_k x t o p y v r:Int):dead (CG (C5 A W Bc Ji) 3000 101 [.code []] (Ap 75 [.agg [il 3,sy x,sy t,sy o,sy p,sy y,sy v,sy r]] L0))=aQ [aj x x,aj t t,aj o o,aj p p,aj y y,aj v v,aj r r] (aQ [aj x x,aj t t,aj o o,aj p p,aj y y,aj v v,aj r r] (aQ [aj x x,aj t t,aj o o,aj p p,aj y y,aj v v,aj r r] (aQ [aj x x,aj t t,aj o o,aj p p,aj y y,aj v v,aj r r] (aH aC (aF (A.seq (Dk 19 3 r) []) (aB (aN (bf 14 329))) dL))))):=by kernel_rfl
end Go.Aw
namespace Go.BR
open Go Go.Sx
def VH(e:Ev):Prop:=(1<=e.kind/\e.kind<=7)/\(e.kind=2->1<=e.op/\e.op<=9)/\(e.kind=3->1<=e.ret/\e.ret<=3)
def AB(e:Ev):Prop:=
 (1<=e.tx/\e.tx<=1000)/\
 ((e.kind=1/\0<=e.thread/\e.thread<=7)\/(e.kind≠1/\e.thread=0))/\
 ((e.kind=2/\0<=e.obj/\e.obj<=7)\/(e.kind≠2/\e.obj=0))/\
 ((e.kind=2/\1<=e.op/\e.op<=9)\/(e.kind≠2/\e.op=0))/\
 ((e.kind=2/\7<=e.op/\0<=e.key/\e.key<=1000)\/(¬(e.kind=2/\7<=e.op)/\e.key=0))/\
 ((((e.kind=2/\(e.op=2\/e.op=3\/e.op=5\/e.op=7))\/(e.kind=3/\e.ret=3))/\-1000000000<=e.val/\e.val<=1000000000)\/(¬((e.kind=2/\(e.op=2\/e.op=3\/e.op=5\/e.op=7))\/(e.kind=3/\e.ret=3))/\e.val=0))/\
 ((e.kind=3/\1<=e.ret/\e.ret<=3)\/(e.kind≠3/\e.ret=0))
instance (e:Ev):Decidable (VH e):=by unfold VH;infer_instance
instance (e:Ev):Decidable (AB e):=by unfold AB;infer_instance
end Go.BR
namespace Go.Aw
open Go Go.Sx Go.BR
theorem auB{H:Mem}{w:World}{φ:Sh->Prop}{x t o p y v r:Int}(hN:AB ⟨1,x,t,o,p,y,v,r⟩->φ (.v .nilIface))(h9:¬AB ⟨1,x,t,o,p,y,v,r⟩->φ (.er 15 329)):
  DW (BU aA (C5 Ai W5 Bc AP) (K0 H w) bM φ) (CG (C5 Ai W5 Bc AP) 3000 101 [.code []] (Ap 75 [.agg [il 1,sy x,sy t,sy o,sy p,sy y,sy v,sy r]] L0)):=by
 rw[auu Ai W5 0 x t o p y v r,<-Cc];simp[fZ,BU,dI,iO,Aq,AX,CB,Ef];repeat' (first|refine bP ?_ ?_|intro _)
 all_goals first|exact h9 (by simp only[AB];omega) |exact hN (by simp[AB]<;>omega) |exact hN (by simp_all [AB])
theorem auC{H:Mem}{w:World}{φ:Sh->Prop}{x t o p y v r:Int}(hN:AB ⟨4,x,t,o,p,y,v,r⟩->φ (.v .nilIface))(h9:¬AB ⟨4,x,t,o,p,y,v,r⟩->φ (.er 15 329)):
  DW (BU aA (C5 Ai W5 Bc AP) (K0 H w) bM φ) (CG (C5 Ai W5 Bc AP) 3000 101 [.code []] (Ap 75 [.agg [il 4,sy x,sy t,sy o,sy p,sy y,sy v,sy r]] L0)):=by
 rw[auv Ai W5 0 x t o p y v r,<-Cc];simp[fZ,BU,dI,iO,Aq,AX,CB,Ef];repeat' (first|refine bP ?_ ?_|intro _)
 all_goals first|exact h9 (by simp only[AB];omega) |exact hN (by simp[AB]<;>omega) |exact hN (by simp_all [AB])
theorem auD{H:Mem}{w:World}{φ:Sh->Prop}{x t o p y v r:Int}(hN:AB ⟨5,x,t,o,p,y,v,r⟩->φ (.v .nilIface))(h9:¬AB ⟨5,x,t,o,p,y,v,r⟩->φ (.er 15 329)):
  DW (BU aA (C5 Ai W5 Bc AP) (K0 H w) bM φ) (CG (C5 Ai W5 Bc AP) 3000 101 [.code []] (Ap 75 [.agg [il 5,sy x,sy t,sy o,sy p,sy y,sy v,sy r]] L0)):=by
 rw[auw Ai W5 0 x t o p y v r,<-Cc];simp[fZ,BU,dI,iO,Aq,AX,CB,Ef];repeat' (first|refine bP ?_ ?_|intro _)
 all_goals first|exact h9 (by simp only[AB];omega) |exact hN (by simp[AB]<;>omega) |exact hN (by simp_all [AB])
theorem auE{H:Mem}{w:World}{φ:Sh->Prop}{x t o p y v r:Int}(hN:AB ⟨6,x,t,o,p,y,v,r⟩->φ (.v .nilIface))(h9:¬AB ⟨6,x,t,o,p,y,v,r⟩->φ (.er 15 329)):
  DW (BU aA (C5 Ai W5 Bc AP) (K0 H w) bM φ) (CG (C5 Ai W5 Bc AP) 3000 101 [.code []] (Ap 75 [.agg [il 6,sy x,sy t,sy o,sy p,sy y,sy v,sy r]] L0)):=by
 rw[auy Ai W5 0 x t o p y v r,<-Cc];simp[fZ,BU,dI,iO,Aq,AX,CB,Ef];repeat' (first|refine bP ?_ ?_|intro _)
 all_goals first|exact h9 (by simp only[AB];omega) |exact hN (by simp[AB]<;>omega) |exact hN (by simp_all [AB])
theorem auF{H:Mem}{w:World}{φ:Sh->Prop}{x t o p y v r:Int}(hN:AB ⟨7,x,t,o,p,y,v,r⟩->φ (.v .nilIface))(h9:¬AB ⟨7,x,t,o,p,y,v,r⟩->φ (.er 15 329)):
  DW (BU aA (C5 Ai W5 Bc AP) (K0 H w) bM φ) (CG (C5 Ai W5 Bc AP) 3000 101 [.code []] (Ap 75 [.agg [il 7,sy x,sy t,sy o,sy p,sy y,sy v,sy r]] L0)):=by
 rw[auz Ai W5 0 x t o p y v r,<-Cc];simp[fZ,BU,dI,iO,Aq,AX,CB,Ef];repeat' (first|refine bP ?_ ?_|intro _)
 all_goals first|exact h9 (by simp only[AB];omega) |exact hN (by simp[AB]<;>omega) |exact hN (by simp_all [AB])
theorem apm{H:Mem}{w:World}{φ:Sh->Prop}{x t o p y v r:Int}(hN:AB ⟨2,x,t,o,1,y,v,r⟩->φ (.v .nilIface))(h9:¬AB ⟨2,x,t,o,1,y,v,r⟩->φ (.er 15 329)):
  DW (BU aA (C5 Ai W5 Bc AP) (K0 H w) bM φ) (CG (C5 Ai W5 Bc AP) 3000 101 [.code []] (Ap 75 [.agg [il 2,sy x,sy t,sy o,il 1,sy y,sy v,sy r]] L0)):=by
 rw[ao9 Ai W5 0 x t o p y v r,<-Cc];simp[fZ,BU,dI,iO,Aq,AX,CB,Ef,DV];repeat' (first|refine bP ?_ ?_|intro _)
 all_goals first|exact h9 (by simp only[AB];omega) |exact hN (by simp[AB]<;>omega) |exact hN (by simp_all [AB])
theorem apn{H:Mem}{w:World}{φ:Sh->Prop}{x t o p y v r:Int}(hN:AB ⟨2,x,t,o,2,y,v,r⟩->φ (.v .nilIface))(h9:¬AB ⟨2,x,t,o,2,y,v,r⟩->φ (.er 15 329)):
  DW (BU aA (C5 Ai W5 Bc AP) (K0 H w) bM φ) (CG (C5 Ai W5 Bc AP) 3000 101 [.code []] (Ap 75 [.agg [il 2,sy x,sy t,sy o,il 2,sy y,sy v,sy r]] L0)):=by
 rw[apa Ai W5 0 x t o p y v r,<-Cc];simp[fZ,BU,dI,iO,Aq,AX,CB,Ef,DV];repeat' (first|refine bP ?_ ?_|intro _)
 all_goals first|exact h9 (by simp only[AB];omega) |exact hN (by simp[AB]<;>omega) |exact hN (by simp_all [AB])
theorem apo{H:Mem}{w:World}{φ:Sh->Prop}{x t o p y v r:Int}(hN:AB ⟨2,x,t,o,3,y,v,r⟩->φ (.v .nilIface))(h9:¬AB ⟨2,x,t,o,3,y,v,r⟩->φ (.er 15 329)):
  DW (BU aA (C5 Ai W5 Bc AP) (K0 H w) bM φ) (CG (C5 Ai W5 Bc AP) 3000 101 [.code []] (Ap 75 [.agg [il 2,sy x,sy t,sy o,il 3,sy y,sy v,sy r]] L0)):=by
 rw[apb Ai W5 0 x t o p y v r,<-Cc];simp[fZ,BU,dI,iO,Aq,AX,CB,Ef,DV];repeat' (first|refine bP ?_ ?_|intro _)
 all_goals first|exact h9 (by simp only[AB];omega) |exact hN (by simp[AB]<;>omega) |exact hN (by simp_all [AB])
theorem apq{H:Mem}{w:World}{φ:Sh->Prop}{x t o p y v r:Int}(hN:AB ⟨2,x,t,o,4,y,v,r⟩->φ (.v .nilIface))(h9:¬AB ⟨2,x,t,o,4,y,v,r⟩->φ (.er 15 329)):
  DW (BU aA (C5 Ai W5 Bc AP) (K0 H w) bM φ) (CG (C5 Ai W5 Bc AP) 3000 101 [.code []] (Ap 75 [.agg [il 2,sy x,sy t,sy o,il 4,sy y,sy v,sy r]] L0)):=by
 rw[apc Ai W5 0 x t o p y v r,<-Cc];simp[fZ,BU,dI,iO,Aq,AX,CB,Ef,DV];repeat' (first|refine bP ?_ ?_|intro _)
 all_goals first|exact h9 (by simp only[AB];omega) |exact hN (by simp[AB]<;>omega) |exact hN (by simp_all [AB])
theorem apr{H:Mem}{w:World}{φ:Sh->Prop}{x t o p y v r:Int}(hN:AB ⟨2,x,t,o,5,y,v,r⟩->φ (.v .nilIface))(h9:¬AB ⟨2,x,t,o,5,y,v,r⟩->φ (.er 15 329)):
  DW (BU aA (C5 Ai W5 Bc AP) (K0 H w) bM φ) (CG (C5 Ai W5 Bc AP) 3000 101 [.code []] (Ap 75 [.agg [il 2,sy x,sy t,sy o,il 5,sy y,sy v,sy r]] L0)):=by
 rw[apd Ai W5 0 x t o p y v r,<-Cc];simp[fZ,BU,dI,iO,Aq,AX,CB,Ef,DV];repeat' (first|refine bP ?_ ?_|intro _)
 all_goals first|exact h9 (by simp only[AB];omega) |exact hN (by simp[AB]<;>omega) |exact hN (by simp_all [AB])
theorem aps{H:Mem}{w:World}{φ:Sh->Prop}{x t o p y v r:Int}(hN:AB ⟨2,x,t,o,6,y,v,r⟩->φ (.v .nilIface))(h9:¬AB ⟨2,x,t,o,6,y,v,r⟩->φ (.er 15 329)):
  DW (BU aA (C5 Ai W5 Bc AP) (K0 H w) bM φ) (CG (C5 Ai W5 Bc AP) 3000 101 [.code []] (Ap 75 [.agg [il 2,sy x,sy t,sy o,il 6,sy y,sy v,sy r]] L0)):=by
 rw[ape Ai W5 0 x t o p y v r,<-Cc];simp[fZ,BU,dI,iO,Aq,AX,CB,Ef,DV];repeat' (first|refine bP ?_ ?_|intro _)
 all_goals first|exact h9 (by simp only[AB];omega) |exact hN (by simp[AB]<;>omega) |exact hN (by simp_all [AB])
theorem apt{H:Mem}{w:World}{φ:Sh->Prop}{x t o p y v r:Int}(hN:AB ⟨2,x,t,o,7,y,v,r⟩->φ (.v .nilIface))(h9:¬AB ⟨2,x,t,o,7,y,v,r⟩->φ (.er 15 329)):
  DW (BU aA (C5 Ai W5 Bc AP) (K0 H w) bM φ) (CG (C5 Ai W5 Bc AP) 3000 101 [.code []] (Ap 75 [.agg [il 2,sy x,sy t,sy o,il 7,sy y,sy v,sy r]] L0)):=by
 rw[apf Ai W5 0 x t o p y v r,<-Cc];simp[fZ,BU,dI,iO,Aq,AX,CB,Ef,DV];repeat' (first|refine bP ?_ ?_|intro _)
 all_goals first|exact h9 (by simp only[AB];omega) |exact hN (by simp[AB]<;>omega) |exact hN (by simp_all [AB])
theorem apu{H:Mem}{w:World}{φ:Sh->Prop}{x t o p y v r:Int}(hN:AB ⟨2,x,t,o,8,y,v,r⟩->φ (.v .nilIface))(h9:¬AB ⟨2,x,t,o,8,y,v,r⟩->φ (.er 15 329)):
  DW (BU aA (C5 Ai W5 Bc AP) (K0 H w) bM φ) (CG (C5 Ai W5 Bc AP) 3000 101 [.code []] (Ap 75 [.agg [il 2,sy x,sy t,sy o,il 8,sy y,sy v,sy r]] L0)):=by
 rw[apg Ai W5 0 x t o p y v r,<-Cc];simp[fZ,BU,dI,iO,Aq,AX,CB,Ef,DV];repeat' (first|refine bP ?_ ?_|intro _)
 all_goals first|exact h9 (by simp only[AB];omega) |exact hN (by simp[AB]<;>omega) |exact hN (by simp_all [AB])
theorem apv{H:Mem}{w:World}{φ:Sh->Prop}{x t o p y v r:Int}(hN:AB ⟨2,x,t,o,9,y,v,r⟩->φ (.v .nilIface))(h9:¬AB ⟨2,x,t,o,9,y,v,r⟩->φ (.er 15 329)):
  DW (BU aA (C5 Ai W5 Bc AP) (K0 H w) bM φ) (CG (C5 Ai W5 Bc AP) 3000 101 [.code []] (Ap 75 [.agg [il 2,sy x,sy t,sy o,il 9,sy y,sy v,sy r]] L0)):=by
 rw[aph Ai W5 0 x t o p y v r,<-Cc];simp[fZ,BU,dI,iO,Aq,AX,CB,Ef,DV];repeat' (first|refine bP ?_ ?_|intro _)
 all_goals first|exact h9 (by simp only[AB];omega) |exact hN (by simp[AB]<;>omega) |exact hN (by simp_all [AB])
theorem apw{H:Mem}{w:World}{φ:Sh->Prop}{x t o p y v r:Int}(hN:AB ⟨3,x,t,o,p,y,v,1⟩->φ (.v .nilIface))(h9:¬AB ⟨3,x,t,o,p,y,v,1⟩->φ (.er 15 329)):
  DW (BU aA (C5 Ai W5 Bc AP) (K0 H w) bM φ) (CG (C5 Ai W5 Bc AP) 3000 101 [.code []] (Ap 75 [.agg [il 3,sy x,sy t,sy o,sy p,sy y,sy v,il 1]] L0)):=by
 rw[apj Ai W5 0 x t o p y v r,<-Cc];simp[fZ,BU,dI,iO,Aq,AX,CB,Ef,P8 akX,YH,idx,iZ];repeat' (first|refine bP ?_ ?_|intro _)
 all_goals first|exact h9 (by simp only[AB];omega) |exact hN (by simp[AB]<;>omega) |exact hN (by simp_all [AB])
theorem apx{H:Mem}{w:World}{φ:Sh->Prop}{x t o p y v r:Int}(hN:AB ⟨3,x,t,o,p,y,v,2⟩->φ (.v .nilIface))(h9:¬AB ⟨3,x,t,o,p,y,v,2⟩->φ (.er 15 329)):
  DW (BU aA (C5 Ai W5 Bc AP) (K0 H w) bM φ) (CG (C5 Ai W5 Bc AP) 3000 101 [.code []] (Ap 75 [.agg [il 3,sy x,sy t,sy o,sy p,sy y,sy v,il 2]] L0)):=by
 rw[apk Ai W5 0 x t o p y v r,<-Cc];simp[fZ,BU,dI,iO,Aq,AX,CB,Ef,P8 akX,YH,idx,iZ];repeat' (first|refine bP ?_ ?_|intro _)
 all_goals first|exact h9 (by simp only[AB];omega) |exact hN (by simp[AB]<;>omega) |exact hN (by simp_all [AB])
theorem apy{H:Mem}{w:World}{φ:Sh->Prop}{x t o p y v r:Int}(hN:AB ⟨3,x,t,o,p,y,v,3⟩->φ (.v .nilIface))(h9:¬AB ⟨3,x,t,o,p,y,v,3⟩->φ (.er 15 329)):
  DW (BU aA (C5 Ai W5 Bc AP) (K0 H w) bM φ) (CG (C5 Ai W5 Bc AP) 3000 101 [.code []] (Ap 75 [.agg [il 3,sy x,sy t,sy o,sy p,sy y,sy v,il 3]] L0)):=by
 rw[apl Ai W5 0 x t o p y v r,<-Cc];simp[fZ,BU,dI,iO,Aq,AX,CB,Ef,P8 akX,YH,idx,iZ];repeat' (first|refine bP ?_ ?_|intro _)
 all_goals first|exact h9 (by simp only[AB];omega) |exact hN (by simp[AB]<;>omega) |exact hN (by simp_all [AB])
end Go.Aw
namespace Go.BR
open Go Go.Sx
def O6(e:Ev):Bool:=decide (VH e)
def fieldsB(e:Ev):Bool:=decide (AB e)
def Di(n:Int):Bool:=decide (-9223372036854775808<=n/\n<=9223372036854775807)
def acf:List Sh->Option Ev
 |[a,b,c,d,e,f,g,h]=>match BF a with
  |none=>aK |some a=>match BF b with
   |none=>aK |some b=>match BF c with
    |none=>aK |some c=>match BF d with
     |none=>aK |some d=>match BF e with
      |none=>aK |some e=>match BF f with
       |none=>aK |some f=>match BF g with
        |none=>aK |some g=>match BF h with
         |none=>aK |some h=>ak ⟨a,b,c,d,e,f,g,h⟩
 |_=>aK
theorem CV{H:Mem}{l l':List Sh}{v:Value}(hv:Rep H (.agg l) v)(hl:l'.length=l.length)(h:∀(j:Nat) (s s':Sh),l[j]?=ak s->l'[j]?=ak s'->∀u,Rep H s u->Rep H s' u):Rep H (.agg l') v:=by
 cases hv with
 |agg _ vs h3 h4=>
  refine .agg _ vs (by rw[hl];exact h3) fun j s' v' e1 e2=>?_
  have hj:j<l.length:=by
   rw[<-hl];exact (List.getElem?_eq_some_iff.1 e1).1
  exact h j l[j] s' (aS hj) e1 _ (h4 j l[j] v' (aS hj) e2)
theorem ahA{H:Mem}{l:List Sh}{e:Ev}{v:Value}(h:acf l=ak e)(hv:Rep H (.agg l) v):Rep H (.agg (EY e)) v:=by
 unfold acf at h;repeat' split at h
 all_goals first|cases h;done|skip
 rename_i h1 _ _ h2 _ _ h3 _ _ h4 _ _ h5 _ _ h6 _ _ h7 _ _ h8;cases h;refine CV hv rfl fun j s s' e1 e2 u hu=>?_
 match j,e1,e2 with
 |0,e1,e2=>simp[EY] at e1 e2;subst e1 e2;exact EJ h1 hu |1,e1,e2=>simp[EY] at e1 e2;subst e1 e2;exact EJ h2 hu |2,e1,e2=>simp[EY] at e1 e2;subst e1 e2;exact EJ h3 hu |3,e1,e2=>simp[EY] at e1 e2;subst e1 e2;exact EJ h4 hu |4,e1,e2=>simp[EY] at e1 e2;subst e1 e2;exact EJ h5 hu |5,e1,e2=>simp[EY] at e1 e2;subst e1 e2;exact EJ h6 hu |6,e1,e2=>simp[EY] at e1 e2;subst e1 e2;exact EJ h7 hu |7,e1,e2=>simp[EY] at e1 e2;subst e1 e2;exact EJ h8 hu |j+8,e1,e2=>simp[EY] at e2
theorem EN{H:Mem}{c:Int}{u:Value}(h:Rep H (.i .i64 c) u):Rep H (.v (.int .i64 c)) u:=by
 cases h;exact .v _ rfl
end Go.BR
namespace Go.Aw
open Go Go.Sx Go.BR
def apz:List Sh->Tree Sh
 |[.agg l]=>match acf l with
  |some e=>.need (O6 e) (.node (fieldsB e) (.leaf (.v .nilIface)) (.leaf (.er 15 329))) |none=>.fail
 |_=>.fail
def apA:List Sh->Tree Sh
 |[.agg l]=>match acf l with
  |some e=>.need (Di e.ret) (.need (!O6 e) (.leaf (.er 14 329))) |none=>.fail
 |_=>.fail
def F56:List Sh->Tree Sh
 |[.agg l]=>match acf l with
  |some e=>.need (Di e.ret) (.node (O6 e) (.node (fieldsB e) (.leaf (.v .nilIface)) (.leaf (.er 15 329))) (.leaf (.er 14 329))) |none=>.fail
 |_=>.fail
theorem auG{H:Mem}{x t o p y v r:Int}{u:Value}(h:Rep H (.agg (EY ⟨1,x,t,o,p,y,v,r⟩)) u):Rep H (.agg [il 1,sy x,sy t,sy o,sy p,sy y,sy v,sy r]) u:=by
 refine CV h rfl fun j s s' e1 e2 u hu=>?_
 match j,e1,e2 with
 |0,e1,e2|1,e1,e2|2,e1,e2|3,e1,e2|4,e1,e2|5,e1,e2|6,e1,e2|7,e1,e2=>simp[EY] at e1 e2;subst e1 e2;first|exact hu|exact EN hu
 |j+8,e1,e2=>simp at e2
theorem auH{H:Mem}{x t o p y v r:Int}{u:Value}(h:Rep H (.agg (EY ⟨4,x,t,o,p,y,v,r⟩)) u):Rep H (.agg [il 4,sy x,sy t,sy o,sy p,sy y,sy v,sy r]) u:=by
 refine CV h rfl fun j s s' e1 e2 u hu=>?_
 match j,e1,e2 with
 |0,e1,e2|1,e1,e2|2,e1,e2|3,e1,e2|4,e1,e2|5,e1,e2|6,e1,e2|7,e1,e2=>simp[EY] at e1 e2;subst e1 e2;first|exact hu|exact EN hu
 |j+8,e1,e2=>simp at e2
theorem auI{H:Mem}{x t o p y v r:Int}{u:Value}(h:Rep H (.agg (EY ⟨5,x,t,o,p,y,v,r⟩)) u):Rep H (.agg [il 5,sy x,sy t,sy o,sy p,sy y,sy v,sy r]) u:=by
 refine CV h rfl fun j s s' e1 e2 u hu=>?_
 match j,e1,e2 with
 |0,e1,e2|1,e1,e2|2,e1,e2|3,e1,e2|4,e1,e2|5,e1,e2|6,e1,e2|7,e1,e2=>simp[EY] at e1 e2;subst e1 e2;first|exact hu|exact EN hu
 |j+8,e1,e2=>simp at e2
theorem auJ{H:Mem}{x t o p y v r:Int}{u:Value}(h:Rep H (.agg (EY ⟨6,x,t,o,p,y,v,r⟩)) u):Rep H (.agg [il 6,sy x,sy t,sy o,sy p,sy y,sy v,sy r]) u:=by
 refine CV h rfl fun j s s' e1 e2 u hu=>?_
 match j,e1,e2 with
 |0,e1,e2|1,e1,e2|2,e1,e2|3,e1,e2|4,e1,e2|5,e1,e2|6,e1,e2|7,e1,e2=>simp[EY] at e1 e2;subst e1 e2;first|exact hu|exact EN hu
 |j+8,e1,e2=>simp at e2
theorem auK{H:Mem}{x t o p y v r:Int}{u:Value}(h:Rep H (.agg (EY ⟨7,x,t,o,p,y,v,r⟩)) u):Rep H (.agg [il 7,sy x,sy t,sy o,sy p,sy y,sy v,sy r]) u:=by
 refine CV h rfl fun j s s' e1 e2 u hu=>?_
 match j,e1,e2 with
 |0,e1,e2|1,e1,e2|2,e1,e2|3,e1,e2|4,e1,e2|5,e1,e2|6,e1,e2|7,e1,e2=>simp[EY] at e1 e2;subst e1 e2;first|exact hu|exact EN hu
 |j+8,e1,e2=>simp at e2
theorem apB{H:Mem}{x t o p y v r:Int}{u:Value}(h:Rep H (.agg (EY ⟨2,x,t,o,1,y,v,r⟩)) u):Rep H (.agg [il 2,sy x,sy t,sy o,il 1,sy y,sy v,sy r]) u:=by
 refine CV h rfl fun j s s' e1 e2 u hu=>?_
 match j,e1,e2 with
 |0,e1,e2|1,e1,e2|2,e1,e2|3,e1,e2|4,e1,e2|5,e1,e2|6,e1,e2|7,e1,e2=>simp[EY] at e1 e2;subst e1 e2;first|exact hu|exact EN hu
 |j+8,e1,e2=>simp at e2
theorem apC{H:Mem}{x t o p y v r:Int}{u:Value}(h:Rep H (.agg (EY ⟨2,x,t,o,2,y,v,r⟩)) u):Rep H (.agg [il 2,sy x,sy t,sy o,il 2,sy y,sy v,sy r]) u:=by
 refine CV h rfl fun j s s' e1 e2 u hu=>?_
 match j,e1,e2 with
 |0,e1,e2|1,e1,e2|2,e1,e2|3,e1,e2|4,e1,e2|5,e1,e2|6,e1,e2|7,e1,e2=>simp[EY] at e1 e2;subst e1 e2;first|exact hu|exact EN hu
 |j+8,e1,e2=>simp at e2
theorem apD{H:Mem}{x t o p y v r:Int}{u:Value}(h:Rep H (.agg (EY ⟨2,x,t,o,3,y,v,r⟩)) u):Rep H (.agg [il 2,sy x,sy t,sy o,il 3,sy y,sy v,sy r]) u:=by
 refine CV h rfl fun j s s' e1 e2 u hu=>?_
 match j,e1,e2 with
 |0,e1,e2|1,e1,e2|2,e1,e2|3,e1,e2|4,e1,e2|5,e1,e2|6,e1,e2|7,e1,e2=>simp[EY] at e1 e2;subst e1 e2;first|exact hu|exact EN hu
 |j+8,e1,e2=>simp at e2
theorem apE{H:Mem}{x t o p y v r:Int}{u:Value}(h:Rep H (.agg (EY ⟨2,x,t,o,4,y,v,r⟩)) u):Rep H (.agg [il 2,sy x,sy t,sy o,il 4,sy y,sy v,sy r]) u:=by
 refine CV h rfl fun j s s' e1 e2 u hu=>?_
 match j,e1,e2 with
 |0,e1,e2|1,e1,e2|2,e1,e2|3,e1,e2|4,e1,e2|5,e1,e2|6,e1,e2|7,e1,e2=>simp[EY] at e1 e2;subst e1 e2;first|exact hu|exact EN hu
 |j+8,e1,e2=>simp at e2
theorem apF{H:Mem}{x t o p y v r:Int}{u:Value}(h:Rep H (.agg (EY ⟨2,x,t,o,5,y,v,r⟩)) u):Rep H (.agg [il 2,sy x,sy t,sy o,il 5,sy y,sy v,sy r]) u:=by
 refine CV h rfl fun j s s' e1 e2 u hu=>?_
 match j,e1,e2 with
 |0,e1,e2|1,e1,e2|2,e1,e2|3,e1,e2|4,e1,e2|5,e1,e2|6,e1,e2|7,e1,e2=>simp[EY] at e1 e2;subst e1 e2;first|exact hu|exact EN hu
 |j+8,e1,e2=>simp at e2
theorem apG{H:Mem}{x t o p y v r:Int}{u:Value}(h:Rep H (.agg (EY ⟨2,x,t,o,6,y,v,r⟩)) u):Rep H (.agg [il 2,sy x,sy t,sy o,il 6,sy y,sy v,sy r]) u:=by
 refine CV h rfl fun j s s' e1 e2 u hu=>?_
 match j,e1,e2 with
 |0,e1,e2|1,e1,e2|2,e1,e2|3,e1,e2|4,e1,e2|5,e1,e2|6,e1,e2|7,e1,e2=>simp[EY] at e1 e2;subst e1 e2;first|exact hu|exact EN hu
 |j+8,e1,e2=>simp at e2
theorem apH{H:Mem}{x t o p y v r:Int}{u:Value}(h:Rep H (.agg (EY ⟨2,x,t,o,7,y,v,r⟩)) u):Rep H (.agg [il 2,sy x,sy t,sy o,il 7,sy y,sy v,sy r]) u:=by
 refine CV h rfl fun j s s' e1 e2 u hu=>?_
 match j,e1,e2 with
 |0,e1,e2|1,e1,e2|2,e1,e2|3,e1,e2|4,e1,e2|5,e1,e2|6,e1,e2|7,e1,e2=>simp[EY] at e1 e2;subst e1 e2;first|exact hu|exact EN hu
 |j+8,e1,e2=>simp at e2
theorem apI{H:Mem}{x t o p y v r:Int}{u:Value}(h:Rep H (.agg (EY ⟨2,x,t,o,8,y,v,r⟩)) u):Rep H (.agg [il 2,sy x,sy t,sy o,il 8,sy y,sy v,sy r]) u:=by
 refine CV h rfl fun j s s' e1 e2 u hu=>?_
 match j,e1,e2 with
 |0,e1,e2|1,e1,e2|2,e1,e2|3,e1,e2|4,e1,e2|5,e1,e2|6,e1,e2|7,e1,e2=>simp[EY] at e1 e2;subst e1 e2;first|exact hu|exact EN hu
 |j+8,e1,e2=>simp at e2
theorem apJ{H:Mem}{x t o p y v r:Int}{u:Value}(h:Rep H (.agg (EY ⟨2,x,t,o,9,y,v,r⟩)) u):Rep H (.agg [il 2,sy x,sy t,sy o,il 9,sy y,sy v,sy r]) u:=by
 refine CV h rfl fun j s s' e1 e2 u hu=>?_
 match j,e1,e2 with
 |0,e1,e2|1,e1,e2|2,e1,e2|3,e1,e2|4,e1,e2|5,e1,e2|6,e1,e2|7,e1,e2=>simp[EY] at e1 e2;subst e1 e2;first|exact hu|exact EN hu
 |j+8,e1,e2=>simp at e2
theorem apK{H:Mem}{x t o p y v r:Int}{u:Value}(h:Rep H (.agg (EY ⟨3,x,t,o,p,y,v,1⟩)) u):Rep H (.agg [il 3,sy x,sy t,sy o,sy p,sy y,sy v,il 1]) u:=by
 refine CV h rfl fun j s s' e1 e2 u hu=>?_
 match j,e1,e2 with
 |0,e1,e2|1,e1,e2|2,e1,e2|3,e1,e2|4,e1,e2|5,e1,e2|6,e1,e2|7,e1,e2=>simp[EY] at e1 e2;subst e1 e2;first|exact hu|exact EN hu
 |j+8,e1,e2=>simp at e2
theorem apL{H:Mem}{x t o p y v r:Int}{u:Value}(h:Rep H (.agg (EY ⟨3,x,t,o,p,y,v,2⟩)) u):Rep H (.agg [il 3,sy x,sy t,sy o,sy p,sy y,sy v,il 2]) u:=by
 refine CV h rfl fun j s s' e1 e2 u hu=>?_
 match j,e1,e2 with
 |0,e1,e2|1,e1,e2|2,e1,e2|3,e1,e2|4,e1,e2|5,e1,e2|6,e1,e2|7,e1,e2=>simp[EY] at e1 e2;subst e1 e2;first|exact hu|exact EN hu
 |j+8,e1,e2=>simp at e2
theorem apM{H:Mem}{x t o p y v r:Int}{u:Value}(h:Rep H (.agg (EY ⟨3,x,t,o,p,y,v,3⟩)) u):Rep H (.agg [il 3,sy x,sy t,sy o,sy p,sy y,sy v,il 3]) u:=by
 refine CV h rfl fun j s s' e1 e2 u hu=>?_
 match j,e1,e2 with
 |0,e1,e2|1,e1,e2|2,e1,e2|3,e1,e2|4,e1,e2|5,e1,e2|6,e1,e2|7,e1,e2=>simp[EY] at e1 e2;subst e1 e2;first|exact hu|exact EN hu
 |j+8,e1,e2=>simp at e2
theorem codes{P:Ev->Prop}{e:Ev}(hc:VH e)
  (h_1:∀x t o p y v r:Int,P ⟨1,x,t,o,p,y,v,r⟩)
  (h_4:∀x t o p y v r:Int,P ⟨4,x,t,o,p,y,v,r⟩)
  (h_5:∀x t o p y v r:Int,P ⟨5,x,t,o,p,y,v,r⟩)
  (h_6:∀x t o p y v r:Int,P ⟨6,x,t,o,p,y,v,r⟩)
  (h_7:∀x t o p y v r:Int,P ⟨7,x,t,o,p,y,v,r⟩)
  (auL:∀x t o p y v r:Int,P ⟨2,x,t,o,1,y,v,r⟩)
  (auM:∀x t o p y v r:Int,P ⟨2,x,t,o,2,y,v,r⟩)
  (auN:∀x t o p y v r:Int,P ⟨2,x,t,o,3,y,v,r⟩)
  (auO:∀x t o p y v r:Int,P ⟨2,x,t,o,4,y,v,r⟩)
  (auP:∀x t o p y v r:Int,P ⟨2,x,t,o,5,y,v,r⟩)
  (auQ:∀x t o p y v r:Int,P ⟨2,x,t,o,6,y,v,r⟩)
  (auR:∀x t o p y v r:Int,P ⟨2,x,t,o,7,y,v,r⟩)
  (auS:∀x t o p y v r:Int,P ⟨2,x,t,o,8,y,v,r⟩)
  (auT:∀x t o p y v r:Int,P ⟨2,x,t,o,9,y,v,r⟩)
  (auU:∀x t o p y v r:Int,P ⟨3,x,t,o,p,y,v,1⟩)
  (auV:∀x t o p y v r:Int,P ⟨3,x,t,o,p,y,v,2⟩)
  (auW:∀x t o p y v r:Int,P ⟨3,x,t,o,p,y,v,3⟩)
  : P e:=by
 obtain ⟨k,x,t,o,p,y,v,r⟩:=e;obtain ⟨h1,h2,h3⟩:=hc;simp only at h1 h2 h3;have hk:k=1\/k=2\/k=3\/k=4\/k=5\/k=6\/k=7:=by omega
 rcases hk with rfl|rfl|rfl|rfl|rfl|rfl|rfl
 ·exact h_1 x t o p y v r
 ·have h2:=h2 rfl
  have hp:p=1\/p=2\/p=3\/p=4\/p=5\/p=6\/p=7\/p=8\/p=9:=by omega
  rcases hp with rfl|rfl|rfl|rfl|rfl|rfl|rfl|rfl|rfl
  ·exact auL x t o 0 y v r
  ·exact auM x t o 0 y v r
  ·exact auN x t o 0 y v r
  ·exact auO x t o 0 y v r
  ·exact auP x t o 0 y v r
  ·exact auQ x t o 0 y v r
  ·exact auR x t o 0 y v r
  ·exact auS x t o 0 y v r
  ·exact auT x t o 0 y v r
 ·have h3:=h3 rfl
  have hr:r=1\/r=2\/r=3:=by omega
  rcases hr with rfl|rfl|rfl
  ·exact auU x t o p y v 0
  ·exact auV x t o p y v 0
  ·exact auW x t o p y v 0
 ·exact h_4 x t o p y v r
 ·exact h_5 x t o p y v r
 ·exact h_6 x t o p y v r
 ·exact h_7 x t o p y v r
theorem auY{H:Mem}{w:World}{φ:Sh->Prop}{u:Value}{e:Ev}(hc:VH e):Rep H (.agg (EY e)) u->(AB e->φ (.v .nilIface))->(¬AB e->φ (.er 15 329))->
  ∃Bv:List Sh,DX H Bv [u]/\DW (BU aA (C5 Ai W5 Bc AP) (K0 H w) bM φ) (CG (C5 Ai W5 Bc AP) 3000 101 [.code []] (Ap 75 Bv L0)):=by
 refine codes (P:=fun e=>Rep H (.agg (EY e)) u->(AB e->φ (.v .nilIface))->(¬AB e->φ (.er 15 329))->
  ∃Bv:List Sh,DX H Bv [u]/\DW (BU aA (C5 Ai W5 Bc AP) (K0 H w) bM φ) (CG (C5 Ai W5 Bc AP) 3000 101 [.code []] (Ap 75 Bv L0))) hc ?_ ?_ ?_ ?_ ?_ ?_ ?_ ?_ ?_ ?_ ?_ ?_ ?_ ?_ ?_ ?_ ?_
 ·exact fun x t o p y v r hr hN h9=>⟨[.agg [il 1,sy x,sy t,sy o,sy p,sy y,sy v,sy r]],⟨auG (p:=p) (r:=r) hr,trivial⟩,auB (p:=p) (r:=r) hN h9⟩
 ·exact fun x t o p y v r hr hN h9=>⟨[.agg [il 4,sy x,sy t,sy o,sy p,sy y,sy v,sy r]],⟨auH (p:=p) (r:=r) hr,trivial⟩,auC (p:=p) (r:=r) hN h9⟩
 ·exact fun x t o p y v r hr hN h9=>⟨[.agg [il 5,sy x,sy t,sy o,sy p,sy y,sy v,sy r]],⟨auI (p:=p) (r:=r) hr,trivial⟩,auD (p:=p) (r:=r) hN h9⟩
 ·exact fun x t o p y v r hr hN h9=>⟨[.agg [il 6,sy x,sy t,sy o,sy p,sy y,sy v,sy r]],⟨auJ (p:=p) (r:=r) hr,trivial⟩,auE (p:=p) (r:=r) hN h9⟩
 ·exact fun x t o p y v r hr hN h9=>⟨[.agg [il 7,sy x,sy t,sy o,sy p,sy y,sy v,sy r]],⟨auK (p:=p) (r:=r) hr,trivial⟩,auF (p:=p) (r:=r) hN h9⟩
 ·exact fun x t o p y v r hr hN h9=>⟨[.agg [il 2,sy x,sy t,sy o,il 1,sy y,sy v,sy r]],⟨apB (p:=p) (r:=r) hr,trivial⟩,apm (p:=p) (r:=r) hN h9⟩
 ·exact fun x t o p y v r hr hN h9=>⟨[.agg [il 2,sy x,sy t,sy o,il 2,sy y,sy v,sy r]],⟨apC (p:=p) (r:=r) hr,trivial⟩,apn (p:=p) (r:=r) hN h9⟩
 ·exact fun x t o p y v r hr hN h9=>⟨[.agg [il 2,sy x,sy t,sy o,il 3,sy y,sy v,sy r]],⟨apD (p:=p) (r:=r) hr,trivial⟩,apo (p:=p) (r:=r) hN h9⟩
 ·exact fun x t o p y v r hr hN h9=>⟨[.agg [il 2,sy x,sy t,sy o,il 4,sy y,sy v,sy r]],⟨apE (p:=p) (r:=r) hr,trivial⟩,apq (p:=p) (r:=r) hN h9⟩
 ·exact fun x t o p y v r hr hN h9=>⟨[.agg [il 2,sy x,sy t,sy o,il 5,sy y,sy v,sy r]],⟨apF (p:=p) (r:=r) hr,trivial⟩,apr (p:=p) (r:=r) hN h9⟩
 ·exact fun x t o p y v r hr hN h9=>⟨[.agg [il 2,sy x,sy t,sy o,il 6,sy y,sy v,sy r]],⟨apG (p:=p) (r:=r) hr,trivial⟩,aps (p:=p) (r:=r) hN h9⟩
 ·exact fun x t o p y v r hr hN h9=>⟨[.agg [il 2,sy x,sy t,sy o,il 7,sy y,sy v,sy r]],⟨apH (p:=p) (r:=r) hr,trivial⟩,apt (p:=p) (r:=r) hN h9⟩
 ·exact fun x t o p y v r hr hN h9=>⟨[.agg [il 2,sy x,sy t,sy o,il 8,sy y,sy v,sy r]],⟨apI (p:=p) (r:=r) hr,trivial⟩,apu (p:=p) (r:=r) hN h9⟩
 ·exact fun x t o p y v r hr hN h9=>⟨[.agg [il 2,sy x,sy t,sy o,il 9,sy y,sy v,sy r]],⟨apJ (p:=p) (r:=r) hr,trivial⟩,apv (p:=p) (r:=r) hN h9⟩
 ·exact fun x t o p y v r hr hN h9=>⟨[.agg [il 3,sy x,sy t,sy o,sy p,sy y,sy v,il 1]],⟨apK (p:=p) (r:=r) hr,trivial⟩,apw (p:=p) (r:=r) hN h9⟩
 ·exact fun x t o p y v r hr hN h9=>⟨[.agg [il 3,sy x,sy t,sy o,sy p,sy y,sy v,il 2]],⟨apL (p:=p) (r:=r) hr,trivial⟩,apx (p:=p) (r:=r) hN h9⟩
 ·exact fun x t o p y v r hr hN h9=>⟨[.agg [il 3,sy x,sy t,sy o,sy p,sy y,sy v,il 3]],⟨apM (p:=p) (r:=r) hr,trivial⟩,apy (p:=p) (r:=r) hN h9⟩
theorem awZ:AV aA (FV W5) 101 apz:=by
 refine Ii (C:=C5 Ai W5 Bc AP) (kG _ _) (afr _) (n:=3000) (L:=L0) (fn:=bM) (by kernel_rfl) (by kernel_rfl) fun H w Bv args φ hrep h=>?_
 have hn:bM.ntmps=75:=by kernel_rfl
 unfold apz at h;split at h
 ·rename_i l
  split at h
  ·rename_i e he
   obtain ⟨h1,h2,h3⟩:=h;match args,hrep with
   |[u],⟨hu,_⟩=>
    rw[hn];simp only[Cc];exact auY (of_decide_eq_true h1) (ahA he hu) (fun q=>h2 (decide_eq_true q)) (fun q=>h3 (decide_eq_false q))
  ·exact h.elim
 ·exact h.elim
end Go.Aw
namespace Go.BR
open Go Go.Sx
theorem arX{p:Int}(h:¬(1<=p/\p<=9)):DV p=0:=by
 have e:∀i:Int,1<=i->i<=9->(p==i)=ay:=fun i h1 h2=>by
  cases hb:p==i with
  |false=>rfl |true=>have:=eq_of_beq hb;omega
 unfold DV;rw[e 1 (by omega) (by omega),e 2 (by omega) (by omega),e 3 (by omega) (by omega),e 4 (by omega) (by omega),e 5 (by omega) (by omega),e 6 (by omega) (by omega),e 7 (by omega) (by omega),e 8 (by omega) (by omega),e 9 (by omega) (by omega)];rfl
theorem apN{m:Nat}{c:Int}(h:Di c=aC)(hm:¬(1<=c/\c<=(m:Int))):YH m c=ay:=by
 have h:=of_decide_eq_true h;unfold YH idx;apply decide_eq_false;intro ⟨h1,h2⟩;split at h1
 ·rw[Cj (by omega) (by omega)] at h1;omega
 ·rename_i hc
  simp only[hc,if_false] at h2;rw[Cj (by omega) (by omega)] at h1 h2;omega
end Go.BR
namespace Go.Aw
open Go Go.Sx Go.BR
theorem TB{ψ:Fin->Prop}{t:Tree Fin}(h:(dead t).All ψ):DW ψ t:=by
 rw[<-Cc];exact NW h
theorem auZ{H:Mem}{w:World}{φ:Sh->Prop}{k x t o p y v r:Int}(hk:¬(1<=k/\k<=7))(h8:φ (.er 14 329)):
  DW (BU aA (C5 Ai W5 Bc Ji) (K0 H w) bM φ) (CG (C5 Ai W5 Bc Ji) 3000 101 [.code []] (Ap 75 [.agg [sy k,sy x,sy t,sy o,sy p,sy y,sy v,sy r]] L0)):=by
 apply TB;rw[auA Ai W5 k x t o p y v r];have n1:k≠1:=by omega
 have n2:k≠2:=by omega
 have n3:k≠3:=by omega
 have n4:k≠4:=by omega
 have n5:k≠5:=by omega
 have n6:k≠6:=by omega
 have n7:k≠7:=by omega
 simp[fZ,BU,dI,iO,AX,n1,n2,n3,n4,n5,n6,n7,h8]
theorem au0{H:Mem}{w:World}{φ:Sh->Prop}{x t o p y v r:Int}(hp:¬(1<=p/\p<=9))(h8:φ (.er 14 329)):
  DW (BU aA (C5 Ai W5 Bc Ji) (K0 H w) bM φ) (CG (C5 Ai W5 Bc Ji) 3000 101 [.code []] (Ap 75 [.agg [il 2,sy x,sy t,sy o,sy p,sy y,sy v,sy r]] L0)):=by
 apply TB;rw[arV Ai W5 0 x t o p y v r];simp[fZ,BU,dI,iO,AX,arX hp,h8]
theorem au1{H:Mem}{w:World}{φ:Sh->Prop}{x t o p y v r:Int}(hi:Di r=aC)(hr:¬(1<=r/\r<=3))(h8:φ (.er 14 329)):
  DW (BU aA (C5 Ai W5 Bc Ji) (K0 H w) bM φ) (CG (C5 Ai W5 Bc Ji) 3000 101 [.code []] (Ap 75 [.agg [il 3,sy x,sy t,sy o,sy p,sy y,sy v,sy r]] L0)):=by
 apply TB;rw[arW Ai W5 0 x t o p y v r,P8 akX,apN hi (by simpa using hr)];simp[fZ,BU,dI,iO,h8]
theorem arY{H:Mem}{w:World}{φ:Sh->Prop}{u:Value}{e:Ev}(hi:Di e.ret=aC)(hc:¬VH e)(hr:Rep H (.agg (EY e)) u)(h8:φ (.er 14 329)):
  ∃Bv:List Sh,DX H Bv [u]/\DW (BU aA (C5 Ai W5 Bc Ji) (K0 H w) bM φ) (CG (C5 Ai W5 Bc Ji) 3000 101 [.code []] (Ap 75 Bv L0)):=by
 obtain ⟨k,x,t,o,p,y,v,r⟩:=e;by_cases h1:1<=k/\k<=7
 ·by_cases h2:k=2
  ·subst h2
   have:¬(1<=p/\p<=9):=fun h=>hc ⟨h1,fun _=>h,fun q=>by simp at q⟩;refine ⟨[.agg [il 2,sy x,sy t,sy o,sy p,sy y,sy v,sy r]],⟨CV hr rfl fun j s s' e1 e2 u hu=>?_,trivial⟩,au0 this h8⟩;match j,e1,e2 with
   |0,e1,e2=>simp[EY] at e1 e2;subst e1 e2;exact EN hu |j+1,e1,e2=>
    have:s=s':=by
     have:(EY ⟨2,x,t,o,p,y,v,r⟩)[j+1]?=[il 2,sy x,sy t,sy o,sy p,sy y,sy v,sy r][j+1]?:=by simp[EY,sy]
     rw[this,e2] at e1;cases e1;rfl
    rw[<-this];exact hu
  ·have h3:k=3:=by
    apply nN;intro h3;exact hc ⟨h1,fun q=>absurd q h2,fun q=>absurd q h3⟩
   subst h3;have:¬(1<=r/\r<=3):=fun h=>hc ⟨h1,fun q=>by simp at q,fun _=>h⟩;refine ⟨[.agg [il 3,sy x,sy t,sy o,sy p,sy y,sy v,sy r]],⟨CV hr rfl fun j s s' e1 e2 u hu=>?_,trivial⟩,au1 hi this h8⟩;match j,e1,e2 with
   |0,e1,e2=>simp[EY] at e1 e2;subst e1 e2;exact EN hu |j+1,e1,e2=>
    have:s=s':=by
     have:(EY ⟨3,x,t,o,p,y,v,r⟩)[j+1]?=[il 3,sy x,sy t,sy o,sy p,sy y,sy v,sy r][j+1]?:=by simp[EY,sy]
     rw[this,e2] at e1;cases e1;rfl
    rw[<-this];exact hu
 ·exact ⟨[.agg [sy k,sy x,sy t,sy o,sy p,sy y,sy v,sy r]],⟨hr,trivial⟩,auZ h1 h8⟩
theorem aw0:AV aA (FV W5) 101 apA:=by
 refine Ii (C:=C5 Ai W5 Bc Ji) (kG _ _) (afr _) (n:=3000) (L:=L0) (fn:=bM) (by kernel_rfl) (by kernel_rfl) fun H w Bv args φ hrep h=>?_
 have hn:bM.ntmps=75:=by kernel_rfl
 unfold apA at h;split at h
 ·rename_i l
  split at h
  ·rename_i e he
   obtain ⟨h1,h2,h3⟩:=h;match args,hrep with
   |[u],⟨hu,_⟩=>
    rw[hn];simp only[Cc];have hc:¬VH e:=fun q=>by
     have:O6 e=aC:=decide_eq_true q;rw[this] at h2;cases h2
    exact arY h1 hc (ahA he hu) h3
  ·exact h.elim
 ·exact h.elim
theorem O56:AV aA (FV W5) 101 F56:=by
 intro H w Bv args φ hon hg hr hφ;unfold F56 at hφ;split at hφ
 ·rename_i l
  split at hφ
  ·rename_i e he
   obtain ⟨h1,h2,h3⟩:=hφ;cases hc:O6 e with
   |true=>
    refine awZ H w _ args φ hon hg hr ?_;simp only[apz,he];exact ⟨hc,h2 hc⟩
   |false=>
    refine aw0 H w _ args φ hon hg hr ?_;simp only[apA,he];exact ⟨h1,by rw[hc];rfl,h3 hc⟩
  ·exact hφ.elim
 ·exact hφ.elim
def F55:List Sh->Tree Sh
 |[s,.er e 329]=>match BF s with
  |some x=>.leaf (.C9 109 (.pt [.i .i64 x,.er e 329])) |none=>.fail
 |_=>.fail
theorem O55:AV aA (FV W5) 100 F55:=by
 refine Ii (C:=C5 Ai W5 Bc AU) (kG _ _) (afr _) (n:=300) (L:=L0) (fn:=oP) (by kernel_rfl) (by kernel_rfl) fun H w Bv args φ hrep h=>?_
 have hn:oP.ntmps=10:=by kernel_rfl
 unfold F55 at h;split at h
 ·rename_i s e
  split at h
  ·rename_i x hx
   match args,hrep with
   |[u,v],⟨hu,hv,_⟩=>
    refine ⟨[.i .i64 x,.er e 329],⟨EJ hx hu,hv,trivial⟩,?_⟩;rw[hn,a55 Ai W5 x e];exact h
  ·exact h.elim
 ·exact h.elim
def J6:Nat->Option (List Sh->Tree Sh)
 |99=>ak F54 |100=>ak F55 |101=>ak F56 |102=>ak F57 |_=>aK
theorem aw1:∀g F,J6 g=ak F->AV aA (FV W5) g F:=fun g F h=>by
 unfold J6 at h;split at h
 ·cases h;exact O54
 ·cases h;exact O55
 ·cases h;exact O56
 ·cases h;exact O57
 ·cases h
theorem ajx(stop:Nat->List Nat->Bool):BP aA (C5 Ai W5 J6 stop):=yQ aw1 fun g h=>by
 unfold J6 at h;split at h;all_goals first|(cases h;done) |kernel_rfl
def aea:List It:=[bD [0,1,0,1,1,1],dw 2,bD [1,1,1,1]]
def asN:List It:=[bD [0,0,1,0,1,1,1],bD [0,1,0,1,1,1],dw 2,bD [1,1,1,1]]
def aeb(n m:Nat)(o:Nat->Oj)(p:Nat->Ev)(c i:Int):Core:=
 {tm:=[.any,.ptr 0 0,.DT]++rep [.any] 18++[.sh (.sl 2 n (Aj o)),.sym .i64 c,.sym .i64 i]++rep [.any] 54,
  hp:=[(0,.box [.sh (.sl 2 n (Aj o)),.sh (.sl 8 m (Aj p))] 25)],nx:=1,lim:=L0,tc:=[]}
def VI(n m:Nat)(o:Nat->Oj)(p:Nat->Ev)(c i:Int):Core:=
 {tm:=[.any,.ptr 0 0,.DT]++rep [.any] 34++[.sh (.sl 8 m (Aj p)),.sym .i64 c,.sym .i64 i]++rep [.any] 38,
  hp:=[(0,.box [.sh (.sl 2 n (Aj o)),.sh (.sl 8 m (Aj p))] 25)],nx:=1,lim:=L0,tc:=[]}
theorem a51(A:Prim)(W:Wd)(n m:Nat)(o:Nat->Oj)(p:Nat->Ev)(c' i':Int):Bj (C5 A W J6 AU) D5 300 200 77 [.code []] (Ap 78 [.agg [.sl 2 n (Aj o),.sl 8 m (Aj p)]] L0) [] [⟨77,Jd,aeb n m o p c' i',[]⟩]=aF (A.lt (ah 8) (A.AZ n)) (aB (aT (bf 6 329))) (aF (A.lt (ah 400) (A.AZ m)) (aB (aT (bf 6 329))) (aB (bK 0 [aO (aG 2 n (Aj o)) (aG 2 n (Aj o)),aj (A.AZ n) c',aj (ah 0) i',aO (aG 2 n (Aj o)) (aG 2 n (Aj o)),aO (aG 8 m (Aj p)) (aG 8 m (Aj p))]))):=by kernel_rfl
theorem b51(A:Prim)(W:Wd)(n m:Nat)(o:Nat->Oj)(p:Nat->Ev)(c i i' d' j':Int):Bj (C5 A W J6 AU) D5 300 200 77 Xl (aeb n m o p c i) [] [⟨77,Jd,aeb n m o p c i',[]⟩,⟨77,aea,VI n m o p d' j',[]⟩]=aF (A.lt i c) (aH (A.inB i n) (aF (ace (o (A.toN i)).kind (o (A.toN i)).init) (aB (bK 0 [aO (aG 2 n (Aj o)) (aG 2 n (Aj o)),aj c c,aj (A.add .i64 i (ah 1)) i',aO (aG 2 n (Aj o)) (aG 2 n (Aj o)),aO (aG 8 m (Aj p)) (aG 8 m (Aj p))])) (aB (aT (mQ 109 (pR [aY .i64 i,bf 7 329])))))) (aB (bK 1 [aO (aG 8 m (Aj p)) (aG 8 m (Aj p)),aj (A.AZ m) d',aj (ah 0) j',aO (aG 2 n (Aj o)) (aG 2 n (Aj o)),aO (aG 8 m (Aj p)) (aG 8 m (Aj p))])):=by kernel_rfl
theorem c51(A:Prim)(W:Wd)(n m:Nat)(o:Nat->Oj)(p:Nat->Ev)(c i i':Int):Bj (C5 A W J6 AU) D5 300 200 77 asN (VI n m o p c i) [] [⟨77,aea,VI n m o p c i',[]⟩]=aF (A.lt i c) (aH (A.inB i m) (aH (Di ({kind:=(p (A.toN i)).kind,tx:=(p (A.toN i)).tx,thread:=(p (A.toN i)).thread,obj:=(p (A.toN i)).obj,op:=(p (A.toN i)).op,key:=(p (A.toN i)).key,val:=(p (A.toN i)).val,ret:=(p (A.toN i)).ret}:Ev).ret) (aF (O6 {kind:=(p (A.toN i)).kind,tx:=(p (A.toN i)).tx,thread:=(p (A.toN i)).thread,obj:=(p (A.toN i)).obj,op:=(p (A.toN i)).op,key:=(p (A.toN i)).key,val:=(p (A.toN i)).val,ret:=(p (A.toN i)).ret}) (aF (BR.fieldsB {kind:=(p (A.toN i)).kind,tx:=(p (A.toN i)).tx,thread:=(p (A.toN i)).thread,obj:=(p (A.toN i)).obj,op:=(p (A.toN i)).op,key:=(p (A.toN i)).key,val:=(p (A.toN i)).val,ret:=(p (A.toN i)).ret}) (aF (A.nt (A.eq (p (A.toN i)).kind (ah 2))) (aB (bK 0 [aO (aG 8 m (Aj p)) (aG 8 m (Aj p)),aj c c,aj (A.add .i64 i (ah 1)) i',aO (aG 2 n (Aj o)) (aG 2 n (Aj o)),aO (aG 8 m (Aj p)) (aG 8 m (Aj p))])) (aF (A.le (A.AZ n) (p (A.toN i)).obj) (aB (aT (mQ 109 (pR [aY .i64 i,bf 7 329])))) (aH (A.inB (p (A.toN i)).obj n) (aF (A.nt (A.eq (DV (p (A.toN i)).op) (o (A.toN (p (A.toN i)).obj)).kind)) (aB (aT (mQ 109 (pR [aY .i64 i,bf 8 329])))) (aB (bK 0 [aO (aG 8 m (Aj p)) (aG 8 m (Aj p)),aj c c,aj (A.add .i64 i (ah 1)) i',aO (aG 2 n (Aj o)) (aG 2 n (Aj o)),aO (aG 8 m (Aj p)) (aG 8 m (Aj p))])))))) (aB (aT (mQ 109 (pR [aY .i64 i,bf 15 329]))))) (aB (aT (mQ 109 (pR [aY .i64 i,bf 14 329]))))))) (aB (aT (jG bJ))):=by kernel_rfl
end Go.Aw
namespace Go.BR
open Go Go.Sx
def KN(n:Nat)(o:Nat->Oj)(e:Ev):Option Nat:=
 bif O6 e then bif fieldsB e then bif e.kind==2 then bif decide ((n:Int)<=e.obj) then ak 7 else bif DV e.op==(o e.obj.toNat).kind then aK else ak 8 else aK else ak 15 else ak 14
def O8(o:Oj):Option Nat:=bif ace o.kind o.init then aK else ak 7
def IZ(f:Nat->Option Nat):Nat->Nat->Option (Nat×Nat)
 |_,0=>aK |k,m+1=>match f k with
  |some e=>ak (k,e) |none=>IZ f (k+1) m
def resE:Option (Nat×Nat)->Sh
 |none=>.v .nilIface |some (k,e)=>.C9 109 (.pt [.i .i64 (k:Int),.er e 329])
theorem ZB{e:Ev}(h:fieldsB e=aC)(hk:e.kind=2):0<=e.obj:=by
 have h:=of_decide_eq_true h;unfold AB at h;omega
end Go.BR
namespace Go.Aw
open Go Go.Sx Go.BR
theorem ahB{H0:Mem}{w0:World}{n m:Nat}{o:Nat->Oj}{p:Nat->Ev}{φ:Sh->Prop}(hm:m<=400)(hi:∀k,k<m->Di (p k).ret=aC):
  ∀rm k,k+rm=m->φ (resE (IZ (fun k=>KN n o (p k)) k rm))->Bz aA (C5 Ai W5 J6 AU) (K0 H0 w0) 77 aea (VI n m o p (m:Int) k) [] emp φ
 |rm,k,hk,hφ=>by
  refine GK (fn:=jq) (tb:=asN) (by kernel_rfl) (by kernel_rfl) ?_;refine G5 (kG _ _) (ajx _) (hold:=D5) (m:=300) (n:=200) (ts:=[⟨77,aea,VI n m o p (m:Int) (k+1:Nat),[]⟩]) ?_;rw[c51 Ai W5 n m o p (m:Int) k (k+1:Nat)];simp only[Aq,DJ,AY,BJ,CX,AX,CB,Dq,GR,fZ,Jo,fU];have hstep:aW.wrap ((k:Int)+1)=((k+1:Nat):Int)\/m<k:=by
   by_cases h:m<k
   ·exact .inr h
   ·left;rw[Cj (by omega) (by omega)];rfl
  refine ⟨fun h=>?_,fun h=>?_⟩
  ·have hlt:k<m:=by simp at h;omega
   have hw:=hstep.resolve_right (by omega);match rm,hk,hφ with
   |0,hk,_=>omega |rm+1,hk,hφ=>
    have next:KN n o (p k)=aK->Bz aA (C5 Ai W5 J6 AU) (K0 H0 w0) 77 aea (VI n m o p (m:Int) (k+1:Nat)) [] emp φ:=fun hn=>ahB hm hi rm (k+1) (by omega) (by simpa only[IZ,hn] using hφ);have bad:∀e,KN n o (p k)=ak e->φ (.C9 109 (.pt [.i .i64 (k:Int),.er e 329])):=fun e he=>by
     simpa only[IZ,he,resE] using hφ
    refine ⟨by simp;omega,hi k hlt,fun q1=>⟨fun q2=>⟨fun q3=>?_,fun q3=>⟨fun q4=>?_,fun q4=>⟨?_,fun q5=>?_,fun q5=>?_⟩⟩⟩,fun q2=>?_⟩,fun q1=>?_⟩
    ·refine ⟨⟨rfl,rfl,hw,rfl,rfl,trivial⟩,_,rfl,next ?_⟩
     have k2:((p k).kind==2)=ay:=by simpa using q3
     unfold KN;rw[q1,q2,k2];rfl
    ·have k2:((p k).kind==2)=aC:=by simpa using q3
     apply bad;unfold KN;rw[q1,q2,k2,q4];rfl
    ·have:=ZB q2 (by simpa using q3)
     simp at q4;simp;omega
    ·have k2:((p k).kind==2)=aC:=by simpa using q3
     have k3:(DV (p k).op==(o (p k).obj.toNat).kind)=ay:=by simpa using q5
     apply bad;unfold KN;rw[q1,q2,k2,q4,k3];rfl
    ·have k2:((p k).kind==2)=aC:=by simpa using q3
     have k3:(DV (p k).op==(o (p k).obj.toNat).kind)=aC:=by simpa using q5
     refine ⟨⟨rfl,rfl,hw,rfl,rfl,trivial⟩,_,rfl,next ?_⟩;unfold KN;rw[q1,q2,k2,q4,k3];rfl
    ·apply bad;unfold KN;rw[q1,q2];rfl
    ·apply bad;unfold KN;rw[q1];rfl
  ·have:k=m:=by simp at h;omega
   have:rm=0:=by omega
   subst this;exact hφ
end Go.Aw
namespace Go.BR
open Go Go.Sx
def UK(n m:Nat)(o:Nat->Oj)(p:Nat->Ev):Option (Nat×Nat):=
 match IZ (fun k=>O8 (o k)) 0 n with
 |some x=>ak x |none=>IZ (fun k=>KN n o (p k)) 0 m
def apO(n m:Nat)(o:Nat->Oj)(p:Nat->Ev)(k:Nat):Nat->Option (Nat×Nat):=fun r=>
 match IZ (fun k=>O8 (o k)) k r with
 |some x=>ak x |none=>IZ (fun k=>KN n o (p k)) 0 m
end Go.BR
namespace Go.Aw
open Go Go.Sx Go.BR
theorem akY{H0:Mem}{w0:World}{n m:Nat}{o:Nat->Oj}{p:Nat->Ev}{φ:Sh->Prop}(hn:n<=8)(hm:m<=400)(hi:∀k,k<m->Di (p k).ret=aC):
  ∀rm k,k+rm=n->φ (resE (apO n m o p k rm))->Bz aA (C5 Ai W5 J6 AU) (K0 H0 w0) 77 Jd (aeb n m o p (n:Int) k) [] emp φ
 |rm,k,hk,hφ=>by
  refine GK (fn:=jq) (tb:=Xl) (by kernel_rfl) (by kernel_rfl) ?_;refine G5 (kG _ _) (ajx _) (hold:=D5) (m:=300) (n:=200) (ts:=[⟨77,Jd,aeb n m o p (n:Int) (k+1:Nat),[]⟩,⟨77,aea,VI n m o p (m:Int) (0:Nat),[]⟩]) ?_;rw[b51 Ai W5 n m o p (n:Int) k (k+1:Nat) (m:Int) (0:Nat)];simp only[Aq,AY,BJ,CX,Dq,GR,fZ,Jo,fU];refine ⟨fun h=>?_,fun h=>?_⟩
  ·have hlt:k<n:=by simp at h;omega
   have hw:aW.wrap ((k:Int)+1)=((k+1:Nat):Int):=by rw[Cj (by omega) (by omega)];rfl
   match rm,hk,hφ with
   |0,hk,_=>omega |rm+1,hk,hφ=>
    refine ⟨by simp;omega,fun q=>?_,fun q=>?_⟩
    ·have e:O8 (o k)=aK:=by unfold O8;rw[q];rfl
     exact ⟨⟨rfl,rfl,hw,rfl,rfl,trivial⟩,_,rfl,akY hn hm hi rm (k+1) (by omega) (by simpa only[apO,IZ,e] using hφ)⟩
    ·have e:O8 (o k)=ak 7:=by unfold O8;rw[q];rfl
     simpa only[apO,IZ,e,resE] using hφ
  ·have:k=n:=by simp at h;omega
   have:rm=0:=by omega
   subst this;exact ⟨⟨rfl,rfl,rfl,rfl,rfl,trivial⟩,_,rfl,ahB hm hi m 0 (by omega) hφ⟩
end Go.Aw
namespace Go.BR
open Go Go.Sx
def L6(m:Nat)(h:Nat->List Sh):Bool:=(List.range m).all fun k=>Di (Am (α:=Ev) h k).ret
def GV(n m:Nat)(g h:Nat->List Sh):Int:=match UK n m (Am g) (Am h) with|some (k,_)=>(k:Int) |none=>0
def I4(n m:Nat)(g h:Nat->List Sh):Nat:=match UK n m (Am g) (Am h) with|some (_,e)=>e|none=>0
def EG(n m:Nat)(g h:Nat->List Sh):Bool:=(UK n m (Am g) (Am h)).isNone
def F5(n m:Nat):Bool:=decide (8<n\/400<m)
end Go.BR
namespace Go.Aw
open Go Go.Sx Go.BR
def F51:List Sh->Tree Sh
 |[.agg [.sl 2 n g,.sl 8 m h]]=>.need (okB Oj n g) (.need (okB Ev m h) (.need (L6 m h) (.node (F5 n m) (.leaf (.er 6 329)) (.node (EG n m g h) (.leaf (.v .nilIface)) (.leaf (.C9 109 (.pt [.i .i64 (GV n m g h),.er (I4 n m g h) 329]))))))) |_=>.fail
theorem O51:AV aA (FV W5) 77 F51:=by
 refine JX (C:=C5 Ai W5 J6 AU) (kG _ _) (fn:=jq) (by kernel_rfl) (by kernel_rfl) fun H w Bv args φ hrep h=>?_
 have hn:jq.ntmps=78:=by kernel_rfl
 unfold F51 at h;split at h
 ·rename_i n g m h'
  obtain ⟨h1,h2,h3,h4,h5⟩:=h;match args,hrep with
  |[v],⟨hv,_⟩=>
   rw[hn];refine ⟨[.agg [.sl 2 n (Aj (Am (α:=Oj) g)),.sl 8 m (Aj (Am (α:=Ev) h'))]],⟨NV hv h1 h2,trivial⟩,L0,?_⟩;refine G5 (kG _ _) (ajx _) (hold:=D5) (m:=300) (n:=200) (ts:=[⟨77,Jd,aeb n m (Am g) (Am h') (n:Int) (0:Nat),[]⟩]) ?_;rw[a51 Ai W5 n m (Am g) (Am h') (n:Int) (0:Nat)];refine ⟨fun q=>h4 ?_,fun q=>⟨fun q'=>h4 ?_,fun q'=>⟨⟨rfl,rfl,rfl,rfl,rfl,trivial⟩,_,rfl,?_⟩⟩⟩
   ·simp[Aq,AY] at q;simp[F5];omega
   ·simp[Aq,AY] at q';simp[F5];omega
   ·simp[Aq,AY] at q q'
    have h5:=h5 (by simp[F5];omega);refine akY (by omega) (by omega) (fun k hk=>?_) n 0 (by omega) ?_
    ·exact List.all_eq_true.1 h3 k (List.mem_range.2 hk)
    ·show φ (resE (UK n m (Am g) (Am h')))
     obtain ⟨hT,hF⟩:=h5;unfold EG at hT hF;unfold GV I4 at hF;cases hb:UK n m (Am (α:=Oj) g) (Am (α:=Ev) h') with
     |none=>rw[hb] at hT;exact hT rfl |some x=>rw[hb] at hF;exact hF rfl
 ·exact h.elim
theorem afs{H:Mem}{st st':Nat}{g g':Nat->List Sh}{v:Value}(h:Rep H (.sl st 0 g) v):Rep H (.sl st' 0 g') v:=by
 cases h with
 |sl0 _ _ A cap hc=>exact .sl0 _ _ _ _ hc |sl _ _ _ b off cap c h1 h2=>exact .sl0 _ _ _ _ h2
theorem BQ{H:Mem}{st n:Nat}{s:Sh}{g:Nat->List Sh}{v:Value}(hs:D9 st s=ak (n,g))(h:Rep H s v):Rep H (.sl st n g) v:=by
 rcases akW hs with rfl|⟨g',rfl,rfl,rfl⟩
 ·exact h
 ·exact afs h
theorem ajy{H:Mem}{s0 s1 s0' s1':Sh}{v:Value}(hv:Rep H (.agg [s0,s1]) v)(h0:∀u,Rep H s0 u->Rep H s0' u)(h1:∀u,Rep H s1 u->Rep H s1' u):Rep H (.agg [s0',s1']) v:=by
 cases hv with
 |agg _ vs h2 h3=>
  refine .agg _ vs h2 fun j s v' e1 e2=>?_
  match j,e1 with
  |0,e1=>simp at e1;subst e1;exact h0 _ (h3 0 _ v' rfl e2) |1,e1=>simp at e1;subst e1;exact h1 _ (h3 1 _ v' rfl e2) |j+2,e1=>simp at e1
def apP:List Sh->Tree Sh
 |[.agg [s0,s1]]=>match D9 2 s0,D9 8 s1 with
  |some (n,g),ak (m,h)=>F51 [.agg [.sl 2 n g,.sl 8 m h]] |_,_=>.fail
 |_=>.fail
theorem aw2:AV aA (FV W5) 77 apP:=fun H w Bv args φ h1 h2 h3 h4=>by
 unfold apP at h4;split at h4
 ·rename_i s0 s1
  split at h4
  ·rename_i n g m h e1 e2
   match args,h3 with
   |[v],⟨hv,_⟩=>exact O51 H w [.agg [.sl 2 n g,.sl 8 m h]] [v] φ h1 h2 ⟨ajy hv (fun u=>BQ e1) (fun u=>BQ e2),trivial⟩ h4
  ·exact h4.elim
 ·exact h4.elim
theorem a67(A:Prim)(W:Wd)(x y:Int):CG (C5 A W noSpec AP) 300 128 [.code []] (Ap 36 [.i .i64 x,.i .i64 y] L0)=aF (A.eq x (ah 2)) (aB (aN (gU (A.eq y (ah 1))))) (aF (A.eq x (ah 3)) (aB (aN (gU (A.eq y (ah 1))))) (aF (A.eq x (ah 5)) (aB (aN (gU (A.eq y (ah 1))))) (aF (A.eq x (ah 7)) (aB (aN (gU (A.eq y (ah 1))))) (aF (A.eq x (ah 1)) (aB (aN (gU (A.eq y (ah 3))))) (aF (A.eq x (ah 4)) (aB (aN (gU (A.eq y (ah 3))))) (aF (A.eq x (ah 6)) (aF (A.eq y (ah 2)) (aB (aN (gU aC))) (aB (aN (gU (A.eq y (ah 3)))))) (aF (A.eq x (ah 8)) (aF (A.eq y (ah 2)) (aB (aN (gU aC))) (aB (aN (gU (A.eq y (ah 3)))))) (aF (A.eq x (ah 9)) (aF (A.eq y (ah 2)) (aB (aN (gU aC))) (aB (aN (gU (A.eq y (ah 3)))))) (aB (aN (gU ay))))))))))):=by kernel_rfl
end Go.Aw
