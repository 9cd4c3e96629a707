/- Own work. -/
import Derived.Test.YthehnhaoiijkhaaGreatDoorZ11
open Int (ofNat)
open And renaming intro->bW
open Bool renaming true->aC,false->ak
open Classical renaming byContradiction->jV
open Go.IntKind renaming i64->aN,wrap_i64->iT
open Go.Proofs renaming W7->qZ
open Go.Proofs.Tryz renaming prog->aB,f54->lI,f31->lJ,f45->oK,f21->oL,f29->oM,f102->nM,f122->dI,f99->kJ,f101->bP,f100->oH,f77->jk
open Go.Ae renaming W5->jJ
open Go.Ae.C5 renaming ok->jU,WI->yD
open Go.Sx.Bj renaming sh->aQ,int->aj,nat->aJ,get->aT,ok->iJ,Lp->bC,all->dG
open Go.Sx.D8 renaming at_->bJ,ret->aP
open Go.Sx.Fin renaming ret->aO
open Go.Sx.It renaming code->bD,inBlock->dD
open Go.Sx.Sh renaming sl->aG,i->aW,os->jo,agg->bH,str->dA,er->aZ,v->jC,CS->pK,pt->sU,b->eF
open Go.Sx.Tree renaming need->aH,leaf->aA,node->aF,must->aS,All->fP,fail->dH
open Go.Value renaming nilIface->bI
open Int renaming ofNat->ah,ofNat_eq_natCast->fU,negSucc->fG,toNat_natCast->fK
open List renaming getD_eq_getElem?_getD->aY,getElem?_eq_getElem->aV
open Nat renaming beq->fC,eq_of_beq_eq_true->fH
open Option renaming some->ay,none->aK
namespace Go.Ae
open Go Go.Sx Go.BF
def Ap:Nat->List Nat->Bool:=fun _ _=>aC
def DJ:Nat->Bool:=fun _=>ak
abbrev L0:Nat:=1000000000000000000000000000000
def adN(n:Nat)(o:Nat->Oj)(i:Int)(k:Nat)(gg:Nat->List Sh):Core:={tm:=[.sh (.sl 2 n (zX o)),.any,.any,.gs 0,.sym .i64 i]++rep [.any] 17,hp:=[(0,.own 140 2 k gg)],nx:=1,lim:=L0,tc:=[]}
def IL:List It:=[bD [0,1,0,1,1],dD 0,bD [1,1,1]]
def WM:List It:=[bD [0,0,1,0,1,1],bD [0,1,0,1,1],dD 0,bD [1,1,1]]
def adO(n:Nat)(o:Nat->Ev)(i:Int)(k:Nat)(gg:Nat->List Sh):Core:={tm:=[.sh (.sl 8 n (zX o)),.any,.any,.gs 0,.sym .i64 i]++rep [.any] 17,hp:=[(0,.own 71 8 k gg)],nx:=1,lim:=L0,tc:=[]}
theorem a10(A:Prim)(W:Wd)(n:Nat)(o:Nat->Oj)(i':Int)(k':Nat)(H9:Nat->List Sh):AQ (C5 A W noSpec Ap) DJ 300 200 54 [.code []] (Aa 22 [.sl 2 n (zX o)] L0) [] [⟨54,IL,adN n o i' k' H9,[]⟩]=aH (A.le (ah 0) (A.AO n)) (aH (A.room (A.toN (A.AO n)) 16) (aA (bJ 0 [aQ (aG 2 n (zX o)) (aG 2 n (zX o)),aj (ah 0) i',aJ 0 k',aT 0 (fun (_x:Nat)=>[]) H9]))):=by kernel_rfl
theorem b10(A:Prim)(W:Wd)(n:Nat)(o:Nat->Oj)(i i':Int)(k k':Nat)(gg H9:Nat->List Sh):AQ (C5 A W noSpec Ap) DJ 300 200 54 WM (adN n o i k gg) [] [⟨54,IL,adN n o i' k' H9,[]⟩]=aF (A.lt i (A.AO n)) (aH (A.inB i n) (aH (A.room (A.addN k 1) 16) (aA (bJ 0 [aQ (aG 2 n (zX o)) (aG 2 n (zX o)),aj (A.add .i64 i (ah 1)) i',aJ (A.addN k 1) k',aT (A.addN k 1) (A.snoc gg k (AU [[aW .i64 (o (A.toN i)).kind,aW .i64 (o (A.toN i)).init]])) H9])))) (aA (aP (jo 140 2 k (k,gg).snd))):=by kernel_rfl
theorem a11(A:Prim)(W:Wd)(n:Nat)(o:Nat->Ev)(i':Int)(k':Nat)(H9:Nat->List Sh):AQ (C5 A W noSpec Ap) DJ 300 200 31 [.code []] (Aa 22 [.sl 8 n (zX o)] L0) [] [⟨31,IL,adO n o i' k' H9,[]⟩]=aH (A.le (ah 0) (A.AO n)) (aH (A.room (A.toN (A.AO n)) 64) (aA (bJ 0 [aQ (aG 8 n (zX o)) (aG 8 n (zX o)),aj (ah 0) i',aJ 0 k',aT 0 (fun (_x:Nat)=>[]) H9]))):=by kernel_rfl
theorem b11(A:Prim)(W:Wd)(n:Nat)(o:Nat->Ev)(i i':Int)(k k':Nat)(gg H9:Nat->List Sh):AQ (C5 A W noSpec Ap) DJ 300 200 31 WM (adO n o i k gg) [] [⟨31,IL,adO n o i' k' H9,[]⟩]=aF (A.lt i (A.AO n)) (aH (A.inB i n) (aH (A.room (A.addN k 1) 64) (aA (bJ 0 [aQ (aG 8 n (zX o)) (aG 8 n (zX o)),aj (A.add .i64 i (ah 1)) i',aJ (A.addN k 1) k',aT (A.addN k 1) (A.snoc gg k (AU [[aW .i64 (o (A.toN i)).kind,aW .i64 (o (A.toN i)).tx,aW .i64 (o (A.toN i)).thread,aW .i64 (o (A.toN i)).obj,aW .i64 (o (A.toN i)).op,aW .i64 (o (A.toN i)).key,aW .i64 (o (A.toN i)).val,aW .i64 (o (A.toN i)).ret]])) H9])))) (aA (aP (jo 71 8 k (k,gg).snd))):=by kernel_rfl
def F10:List Sh->Tree Sh
 |[.sl 2 n g]=>.need (okB Oj n g) (.need (Bo n 16) (.leaf (.os 140 2 n (fO g)))) |_=>.fail
theorem akB{H0:Mem}{w0:World}{n:Nat}{o:Nat->Oj}{φ:Sh->Prop}(hr:zW.room n 16=aC)(hφ:φ (.os 140 2 n (zX o))):
  ∀m k,k+m=n->Bd aB (C5 zW W5 noSpec Ap) (K0 H0 w0) 54 IL (adN n o k k (zX o)) [] emp φ
 |m,k,hk=>by
  obtain ⟨hr1,hr2⟩:=Fg hr;rw[maxLen_eq] at hr2;refine Gu (fn:=lI) (tb:=WM) (by kernel_rfl) (by kernel_rfl) ?_;refine Hl (jU _ _) (Nl _) (hold:=DJ) (m:=300) (n:=200) (ts:=[⟨54,IL,adN n o (k+1:Nat) (k+1) (zX o),[]⟩]) ?_;rw[b10 zW W5 n o k (k+1:Nat) k (k+1) (zX o) (zX o)];refine ⟨fun h=>⟨?_,?_,⟨rfl,?_,rfl,?_,trivial⟩,_,rfl,?_⟩,fun h=>?_⟩
  ·simp[Ad,Az,Bl] at h ⊢;omega
  ·simp[Ad,Az,Dl,Ew,maxLen_eq] at h ⊢;omega
  ·simp[Ad,Az] at h
   simp only[iJ,Dj,GY];rw[BL (by omega) (by omega)];rfl
  ·exact adM rfl
  ·simp[Ad,Az] at h
   match m,hk with
   |0,hk=>omega |m+1,hk=>exact akB hr hφ m (k+1) (by omega)
  ·simp[Ad,Az] at h
   obtain rfl:k=n:=by omega
   exact hφ
theorem O10:Ar aB (Fv W5) 54 F10:=by
 refine KE (C:=C5 zW W5 noSpec Ap) (jU _ _) (fn:=lI) (by kernel_rfl) (by kernel_rfl) fun H w A8 args φ hrep h=>?_
 unfold F10 at h;split at h
 ·rename_i n g
  obtain ⟨h1,h2,h3⟩:=h;have h2:zW.room n 16=aC:=h2;match args,hrep with
  |[v],⟨hv,_⟩=>
   refine ⟨[.sl 2 n (zX (zZ (α:=Oj) g))],⟨Ei hv h1,trivial⟩,L0,?_⟩;refine Hl (jU _ _) (Nl _) (hold:=DJ) (m:=300) (n:=200) (ts:=[⟨54,IL,adN n (zZ g) (0:Nat) 0 (zX (zZ (α:=Oj) g)),[]⟩]) ?_;have hn:lI.ntmps=22:=by kernel_rfl
   rw[hn,a10 zW W5 n (zZ g) (0:Nat) 0 (zX (zZ (α:=Oj) g))];refine ⟨by simp[Df,Az],by simpa[CJ,Az] using h2,⟨rfl,rfl,rfl,fun j hj=>by omega,trivial⟩,_,rfl,akB h2 h3 n 0 (by omega)⟩
 ·exact h.elim
end Go.Ae
namespace Go.BF
open Go Go.Sx
def aiI{α:Type}[DecidableEq α](a b:List α):Bool:=decide (a=b)
end Go.BF
namespace Go.Ae
open Go Go.Sx Go.BF
def F35:List Sh->Tree Sh
 |[.sl 2 n g,.sl 2 m h]=>.need (okB Oj n g) (.need (okB Oj m h) (.leaf (.b (aiI (lst Oj n g) (lst Oj m h))))) |_=>.fail
def F11:List Sh->Tree Sh
 |[.sl 8 n g]=>.need (okB Ev n g) (.need (Bo n 64) (.leaf (.os 71 8 n (fE g)))) |_=>.fail
theorem akC{H0:Mem}{w0:World}{n:Nat}{o:Nat->Ev}{φ:Sh->Prop}(hr:zW.room n 64=aC)(hφ:φ (.os 71 8 n (zX o))):
  ∀m k,k+m=n->Bd aB (C5 zW W5 noSpec Ap) (K0 H0 w0) 31 IL (adO n o k k (zX o)) [] emp φ
 |m,k,hk=>by
  obtain ⟨hr1,hr2⟩:=Fg hr;rw[maxLen_eq] at hr2;refine Gu (fn:=lJ) (tb:=WM) (by kernel_rfl) (by kernel_rfl) ?_;refine Hl (jU _ _) (Nl _) (hold:=DJ) (m:=300) (n:=200) (ts:=[⟨31,IL,adO n o (k+1:Nat) (k+1) (zX o),[]⟩]) ?_;rw[b11 zW W5 n o k (k+1:Nat) k (k+1) (zX o) (zX o)];refine ⟨fun h=>⟨?_,?_,⟨rfl,?_,rfl,?_,trivial⟩,_,rfl,?_⟩,fun h=>?_⟩
  ·simp[Ad,Az,Bl] at h ⊢;omega
  ·simp[Ad,Az,Dl,Ew,maxLen_eq] at h ⊢;omega
  ·simp[Ad,Az] at h
   simp only[iJ,Dj,GY];rw[BL (by omega) (by omega)];rfl
  ·exact adM rfl
  ·simp[Ad,Az] at h
   match m,hk with
   |0,hk=>omega |m+1,hk=>exact akC hr hφ m (k+1) (by omega)
  ·simp[Ad,Az] at h
   obtain rfl:k=n:=by omega
   exact hφ
theorem Yl:Ar aB (Fv W5) 31 F11:=by
 refine KE (C:=C5 zW W5 noSpec Ap) (jU _ _) (fn:=lJ) (by kernel_rfl) (by kernel_rfl) fun H w A8 args φ hrep h=>?_
 unfold F11 at h;split at h
 ·rename_i n g
  obtain ⟨h1,h2,h3⟩:=h;have h2:zW.room n 64=aC:=h2;match args,hrep with
  |[v],⟨hv,_⟩=>
   refine ⟨[.sl 8 n (zX (zZ (α:=Ev) g))],⟨Ei hv h1,trivial⟩,L0,?_⟩;refine Hl (jU _ _) (Nl _) (hold:=DJ) (m:=300) (n:=200) (ts:=[⟨31,IL,adO n (zZ g) (0:Nat) 0 (zX (zZ (α:=Ev) g)),[]⟩]) ?_;have hn:lJ.ntmps=22:=by kernel_rfl
   rw[hn,a11 zW W5 n (zZ g) (0:Nat) 0 (zX (zZ (α:=Ev) g))];refine ⟨by simp[Df,Az],by simpa[CJ,Az] using h2,⟨rfl,rfl,rfl,fun j hj=>by omega,trivial⟩,_,rfl,akC h2 h3 n 0 (by omega)⟩
 ·exact h.elim
theorem a37(A:Prim)(W:Wd)(n m:Nat)(g h:Nat->List Sh):BR (C5 A W noSpec Ap) 300 45 [.code []] (Aa 18 [.agg [.sl 2 n g,.sl 8 m h]] L0)=aH (A.le (ah 0) (A.AO n)) (aH (A.room (A.toN (A.AO n)) 16) (aH (A.room (A.addN 0 n) 16) (aH (A.le (ah 0) (A.AO m)) (aH (A.room (A.toN (A.AO m)) 64) (aH (A.room (A.addN 0 m) 64) (aH (A.le (ah 0) (A.AO m)) (aH (A.room (A.toN (A.AO m)) 64) (aH (A.room (A.addN 0 n) 16) (aH (A.room (A.addN 0 m) 64) (aS [aQ (aG 2 n g) (aG 2 n g),aQ (aG 8 m h) (aG 8 m h),aQ (aG 2 n g) (aG 2 n g),aQ (aG 8 m h) (aG 8 m h),aJ (A.addN 0 n) (A.addN 0 n),bC (A.snoc (fun (_x:Nat)=>[]) 0 g) (A.snoc (fun (_x:Nat)=>[]) 0 g),aJ (A.addN 0 m) (A.addN 0 m),bC (A.snoc (fun (_x:Nat)=>[]) 0 h) (A.snoc (fun (_x:Nat)=>[]) 0 h)] (aH (A.le (ah 0) (A.AO m)) (aH (A.room (A.toN (A.AO m)) 64) (aH (A.le (ah 0) (A.AO n)) (aH (A.room (A.toN (A.AO n)) 16) (aH (A.room (A.addN 0 n) 16) (aH (A.room (A.addN 0 m) 64) (aS [aQ (aG 2 n g) (aG 2 n g),aQ (aG 8 m h) (aG 8 m h),aQ (aG 2 n g) (aG 2 n g),aQ (aG 8 m h) (aG 8 m h),aJ (A.addN 0 n) (A.addN 0 n),bC (A.snoc (fun (_x:Nat)=>[]) 0 g) (A.snoc (fun (_x:Nat)=>[]) 0 g),aJ (A.addN 0 m) (A.addN 0 m),bC (A.snoc (fun (_x:Nat)=>[]) 0 h) (A.snoc (fun (_x:Nat)=>[]) 0 h)] (aA (aO (bH [jo 140 2 (A.addN 0 n) (A.addN 0 n,A.snoc (fun (_x:Nat)=>[]) 0 g).snd,jo 71 8 (A.addN 0 m) (A.addN 0 m,A.snoc (fun (_x:Nat)=>[]) 0 h).snd])))))))))))))))))))):=by kernel_rfl
theorem awd(A:Prim)(W:Wd)(n:Nat)(g h:Nat->List Sh):BR (C5 A W noSpec Ap) 300 45 [.code []] (Aa 18 [.agg [.sl 2 n g,.sl 0 0 h]] L0)=aH (A.le (ah 0) (A.AO n)) (aH (A.room (A.toN (A.AO n)) 16) (aH (A.room (A.addN 0 n) 16) (aH (A.le (ah 0) (A.AO 0)) (aH (A.room (A.toN (A.AO 0)) 64) (aH (A.room (A.addN 0 0) 64) (aH (A.le (ah 0) (A.AO 0)) (aH (A.room (A.toN (A.AO 0)) 64) (aH (A.room (A.addN 0 n) 16) (aH (A.room (A.addN 0 0) 64) (aS [aQ (aG 2 n g) (aG 2 n g),aQ (aG 0 0 h) (aG 0 0 h),aQ (aG 2 n g) (aG 2 n g),aQ (aG 0 0 h) (aG 0 0 h),aJ (A.addN 0 n) (A.addN 0 n),bC (A.snoc (fun (_x:Nat)=>[]) 0 g) (A.snoc (fun (_x:Nat)=>[]) 0 g),aJ (A.addN 0 0) (A.addN 0 0),bC (A.snoc (fun (_x:Nat)=>[]) 0 fun (_x:Nat)=>[]) (A.snoc (fun (_x:Nat)=>[]) 0 fun (_x:Nat)=>[])] (aH (A.le (ah 0) (A.AO 0)) (aH (A.room (A.toN (A.AO 0)) 64) (aH (A.le (ah 0) (A.AO n)) (aH (A.room (A.toN (A.AO n)) 16) (aH (A.room (A.addN 0 n) 16) (aH (A.room (A.addN 0 0) 64) (aS [aQ (aG 2 n g) (aG 2 n g),aQ (aG 0 0 h) (aG 0 0 h),aQ (aG 2 n g) (aG 2 n g),aQ (aG 0 0 h) (aG 0 0 h),aJ (A.addN 0 n) (A.addN 0 n),bC (A.snoc (fun (_x:Nat)=>[]) 0 g) (A.snoc (fun (_x:Nat)=>[]) 0 g),aJ (A.addN 0 0) (A.addN 0 0),bC (A.snoc (fun (_x:Nat)=>[]) 0 fun (_x:Nat)=>[]) (A.snoc (fun (_x:Nat)=>[]) 0 fun (_x:Nat)=>[])] (aA (aO (bH [jo 140 2 (A.addN 0 n) (A.addN 0 n,A.snoc (fun (_x:Nat)=>[]) 0 g).snd,jo 71 8 (A.addN 0 0) (A.addN 0 0,A.snoc (fun (_x:Nat)=>[]) 0 fun (_x:Nat)=>[]).snd])))))))))))))))))))):=by kernel_rfl
theorem Qk(g:Nat->List Sh):zW.snoc (fun _=>[]) 0 g=g:=by
 funext i;rw[Ed,if_neg (Nat.not_lt_zero i),Nat.sub_zero]
def DV(st:Nat):Sh->Option (Nat×(Nat->List Sh))
 | .sl st' n g=>bif fC st' st then ay (n,g) else bif fC st' 0&&fC n 0 then ay (0,fun _=>[]) else aK |_=>aK
theorem akD{st:Nat}{s:Sh}{n:Nat}{g:Nat->List Sh}(h:DV st s=ay (n,g)):s=.sl st n g\/(∃g',s=.sl 0 0 g'/\n=0/\g=fun _=>[]):=by
 unfold DV at h;split at h
 ·rename_i st' m g'
  cases h1:fC st' st<;>simp only[h1,cond_true,cond_false] at h
  ·cases h2:(fC st' 0&&fC m 0)<;>simp only[h2,cond_true,cond_false] at h
   ·cases h
   ·cases h
    simp only[Bool.and_eq_true] at h2;have e1:=fH h2.1;have e2:=fH h2.2;subst e1 e2;exact .inr ⟨_,rfl,rfl,rfl⟩
  ·cases h
   have:=fH h1;subst this;exact .inl rfl
 ·cases h
def F37:List Sh->Tree Sh
 |[.agg [.sl 2 n g,s]]=>match DV 8 s with
  |some (m,h)=>.need (Bo n 16) (.need (Bo m 64) (.leaf (.agg [.os 140 2 n g,.os 71 8 m h]))) |none=>.fail
 |_=>.fail
theorem O37:Ar aB (Fv W5) 45 F37:=by
 refine Hy (C:=C5 zW W5 noSpec Ap) (jU _ _) (Nl _) (n:=300) (L:=L0) (fn:=oK) (by kernel_rfl) (by kernel_rfl) fun H w A8 args φ hrep h=>?_
 have hn:oK.ntmps=18:=by kernel_rfl
 unfold F37 at h;split at h
 ·rename_i n g s
  split at h
  ·rename_i m h' hs
   obtain ⟨h1,h2,h3⟩:=h;have h1:zW.room n 16=aC:=h1;have h2:zW.room m 64=aC:=h2;refine ⟨[.agg [.sl 2 n g,s]],hrep,?_⟩;rw[hn];rcases akD hs with rfl|⟨g',rfl,rfl,rfl⟩
   ·rw[a37 zW W5 n m g h']
    simpa[fP,BG,dG,iJ,Df,Az,CJ,Dl,h1,h2,Qk] using h3
   ·rw[awd zW W5 n g g']
    simpa[fP,BG,dG,iJ,Df,Az,CJ,Dl,h1,h2,Qk] using h3
  ·exact h.elim
 ·exact h.elim
def F42:List Sh->Tree Sh
 |[.sl 2 n g,.sl 2 m h]=>.need (okB Oj n g) (.need (okB Oj m h) (.leaf (.b (aiI (lst Oj n g) (lst Oj m h))))) |_=>.fail
def WT:List It:=[bD [0,1,0,1],dD 0,bD [1,1]]
def akw:List It:=[bD [0,0,1,0,1],bD [0,1,0,1],dD 0,bD [1,1]]
end Go.Ae
namespace Go.BF
open Go Go.Sx
def hasB(l:List Int)(x:Int):Bool:=decide (x∈l)
theorem O1{α:Type}[Row α](l:List α)(a:α){r:List (List Sh)}(h:AU r 0=Row.put a):∀i,i<l.length+1->zW.snoc (zX (nth l)) l.length (AU r) i=zX (nth (l++[a])) i:=fun i hi=>by
 rw[Ed];split
 ·rename_i h1
  simp only[zX,nth];rw[aY,aY,List.getElem?_append_left h1]
 ·have:i=l.length:=by omega
  subst this;rw[Nat.sub_self,h];simp[zX,nth]
end Go.BF
namespace Go.Ae
open Go Go.Sx Go.BF
def F41:List Sh->Tree Sh
 |[.sl 1 n g,.i .i64 x]=>.need (okB Int n g) (.leaf (.b (hasB (lst Int n g) x))) |_=>.fail
def Gp:Nat->Option (List Sh->Tree Sh)
 |54=>ay F10 |31=>ay F11 |45=>ay F37 |_=>aK
theorem a13(A:Prim)(W:Wd)(n m:Nat)(g h:Nat->List Sh)(x:Int):BR (C5 A W Gp Ap) 300 21 [.code []] (Aa 17 [.agg [.sl 2 n g,.sl 8 m h],.i .i64 x] L0)=aH (A.upTo (A.max (ah 0) (A.min x (A.AO m))) m) (aH (Bo n 16) (aH (Bo (A.toN (A.max (ah 0) (A.min x (A.AO m)))) 64) (aA (aO (bH [jo 140 2 n g,jo 71 8 (A.toN (A.max (ah 0) (A.min x (A.AO m)))) h]))))):=by kernel_rfl
theorem a14(A:Prim)(W:Wd)(n m:Nat)(g h:Nat->List Sh)(x:Int):BR (C5 A W Gp Ap) 300 29 [.code []] (Aa 20 [.agg [.sl 2 n g,.sl 8 m h],.i .i64 x] L0)=aH (okB Oj n g) (aH (Bo n 16) (aH (A.upTo (A.max (ah 0) (A.min x (A.AO m))) m) (aH (okB Ev (A.toN (A.max (ah 0) (A.min x (A.AO m)))) h) (aH (Bo (A.toN (A.max (ah 0) (A.min x (A.AO m)))) 64) (aH (A.upTo (A.max (ah 0) (A.min x (A.AO m))) m) (aH (okB Oj n g) (aH (Bo n 16) (aH (okB Ev (A.toN (A.max (ah 0) (A.min x (A.AO m)))) h) (aH (Bo (A.toN (A.max (ah 0) (A.min x (A.AO m)))) 64) (aS [aQ (aG 2 n g) (aG 2 n g),aQ (aG 8 m h) (aG 8 m h),aj (A.max (ah 0) (A.min x (A.AO m))) (A.max (ah 0) (A.min x (A.AO m))),aQ (aG 2 n g) (aG 2 n g),aQ (aG 8 m h) (aG 8 m h),aJ n n,bC (fO g) (fO g),aJ (A.toN (A.max (ah 0) (A.min x (A.AO m)))) (A.toN (A.max (ah 0) (A.min x (A.AO m)))),bC (fE h) (fE h)] (aA (aO (bH [jo 140 2 n (fO g),jo 71 8 (A.toN (A.max (ah 0) (A.min x (A.AO m)))) (fE h)]))))))))))))):=by kernel_rfl
end Go.Ae
namespace Go.BF
open Go Go.Sx
end Go.BF
namespace Go.Ae
open Go Go.Sx Go.BF
theorem awf:∀g F,Gp g=ay F->Ar aB (Fv W5) g F:=fun g F h=>by
 unfold Gp at h;split at h
 ·cases h;exact O10
 ·cases h;exact Yl
 ·cases h;exact O37
 ·cases h
theorem Ym(stop:Nat->List Nat->Bool):BA aB (C5 zW W5 Gp stop):=yD awf fun g h=>by
 unfold Gp at h;split at h;all_goals first|(cases h;done) |kernel_rfl
theorem SA{H:Mem}{n m:Nat}{g h:Nat->List Sh}{v:Value}(hv:Rep H (.agg [.sl 2 n g,.sl 8 m h]) v)(hg:okB Oj n g=aC)(hk:okB Ev m h=aC):Rep H (.agg [.sl 2 n (zX (zZ (α:=Oj) g)),.sl 8 m (zX (zZ (α:=Ev) h))]) v:=by
 cases hv with
 |agg _ vs h1 h2=>
  refine .agg _ vs h1 fun j s v' e1 e2=>?_
  match j,e1 with
  |0,e1=>simp at e1;subst e1;exact Ei (h2 0 _ v' rfl e2) hg |1,e1=>simp at e1;subst e1;exact Ei (h2 1 _ v' rfl e2) hk |j+2,e1=>simp at e1
end Go.Ae
namespace Go.BF
open Go Go.Sx
def upN(x:Int)(m:Nat):Nat:=(max 0 (min x (m:Int))).toNat
theorem ahn(x:Int)(m:Nat):zW.toN (zW.max (ah 0) (zW.min x (zW.AO m)))=upN x m:=by
 unfold upN;rw[MF,adL,CJ,Az];congr 1;simp only[fU];split<;>split<;>omega
theorem abO(x:Int)(m:Nat):zW.upTo (zW.max (ah 0) (zW.min x (zW.AO m))) m=aC:=by
 rw[MF,adL,J8,Az];simp only[fU];split<;>split<;>simp<;>omega
end Go.BF
namespace Go.Ae
open Go Go.Sx Go.BF
def F13:List Sh->Tree Sh
 |[.agg [.sl 2 n g,.sl 8 m h],.i .i64 x]=>.need (Bo n 16) (.need (Bo (upN x m) 64) (.leaf (.agg [.os 140 2 n g,.os 71 8 (upN x m) h]))) |_=>.fail
theorem O13:Ar aB (Fv W5) 21 F13:=by
 refine Hy (C:=C5 zW W5 Gp Ap) (jU _ _) (Ym _) (n:=300) (L:=L0) (fn:=oL) (by kernel_rfl) (by kernel_rfl) fun H w A8 args φ hrep h=>?_
 have hn:oL.ntmps=17:=by kernel_rfl
 unfold F13 at h;split at h
 ·rename_i n g m h' x
  obtain ⟨h1,h2,h3⟩:=h;refine ⟨_,hrep,?_⟩;rw[hn,a13 zW W5 n m g h' x];rw[<-ahn] at h2 h3;exact ⟨abO x m,h1,h2,h3⟩
 ·exact h.elim
def F14:List Sh->Tree Sh
 |[.agg [.sl 2 n g,.sl 8 m h],.i .i64 x]=>.need (okB Oj n g) (.need (okB Ev (upN x m) h) (.need (Bo n 16) (.need (Bo (upN x m) 64) (.leaf (.agg [.os 140 2 n (fO g),.os 71 8 (upN x m) (fE h)]))))) |_=>.fail
theorem O14:Ar aB (Fv W5) 29 F14:=by
 refine Hy (C:=C5 zW W5 Gp Ap) (jU _ _) (Ym _) (n:=300) (L:=L0) (fn:=oM) (by kernel_rfl) (by kernel_rfl) fun H w A8 args φ hrep h=>?_
 have hn:oM.ntmps=20:=by kernel_rfl
 unfold F14 at h;split at h
 ·rename_i n g m h' x
  obtain ⟨h1,h2,h3,h4,h5⟩:=h;refine ⟨_,hrep,?_⟩;rw[hn,a14 zW W5 n m g h' x];rw[<-ahn] at h2 h4 h5;exact ⟨h1,h3,abO x m,h2,h4,abO x m,h1,h3,h2,h4,⟨rfl,rfl,rfl,rfl,rfl,rfl,rfl,rfl,rfl,trivial⟩,h5⟩
 ·exact h.elim
def CB:Nat->Option (List Sh->Tree Sh)
 |54=>ay F10 |31=>ay F11 |21=>ay F13 |29=>ay F14 |45=>ay F37 |_=>aK
theorem a57(A:Prim)(W:Wd)(c:Int):BR (C5 A W CB Ap) 300 102 [.code []] (Aa 17 [.i .i64 c] L0)=aF (A.eq c (ah 1)) (aA (aO (aW .i64 (ah 1)))) (aF (A.eq c (ah 2)) (aA (aO (aW .i64 (ah 1)))) (aF (A.eq c (ah 3)) (aA (aO (aW .i64 (ah 2)))) (aF (A.eq c (ah 4)) (aA (aO (aW .i64 (ah 2)))) (aF (A.eq c (ah 5)) (aA (aO (aW .i64 (ah 3)))) (aF (A.eq c (ah 6)) (aA (aO (aW .i64 (ah 3)))) (aF (A.eq c (ah 7)) (aA (aO (aW .i64 (ah 4)))) (aF (A.eq c (ah 8)) (aA (aO (aW .i64 (ah 4)))) (aF (A.eq c (ah 9)) (aA (aO (aW .i64 (ah 4)))) (aA (aO (aW .i64 (ah 0)))))))))))):=by kernel_rfl
theorem atC(A:Prim)(W:Wd)(c:Int):BR (C5 A W CB Ap) 300 122 [.code []] (Aa 16 [.v (.int .i64 1),.i .i64 c] L0)=aF (A.lt (A.sub .i64 (A.max c (ah 0)) (ah 1)) (ah 0)) (aA (aO (dA []))) (aF (A.le (ah 4) (A.sub .i64 (A.max c (ah 0)) (ah 1))) (aA (aO (dA []))) (aH (A.inB (A.sub .i64 (A.max c (ah 0)) (ah 1)) 4) (aF (A.eq (A.sub .i64 (A.max c (ah 0)) (ah 1)) (ah 0)) (aA (aO (dA (W 16 0)))) (aF (A.eq (A.sub .i64 (A.max c (ah 0)) (ah 1)) (ah 1)) (aA (aO (dA (W 16 1)))) (aF (A.eq (A.sub .i64 (A.max c (ah 0)) (ah 1)) (ah 2)) (aA (aO (dA (W 16 2)))) (aF (A.eq (A.sub .i64 (A.max c (ah 0)) (ah 1)) (ah 3)) (aA (aO (dA (W 16 3)))) dH)))))):=by kernel_rfl
theorem atD(A:Prim)(W:Wd)(c:Int):BR (C5 A W CB Ap) 300 122 [.code []] (Aa 16 [.v (.int .i64 2),.i .i64 c] L0)=aF (A.lt (A.sub .i64 (A.max c (ah 0)) (ah 1)) (ah 0)) (aA (aO (dA []))) (aF (A.le (ah 7) (A.sub .i64 (A.max c (ah 0)) (ah 1))) (aA (aO (dA []))) (aH (A.inB (A.sub .i64 (A.max c (ah 0)) (ah 1)) 7) (aF (A.eq (A.sub .i64 (A.max c (ah 0)) (ah 1)) (ah 0)) (aA (aO (dA (W 17 0)))) (aF (A.eq (A.sub .i64 (A.max c (ah 0)) (ah 1)) (ah 1)) (aA (aO (dA (W 17 1)))) (aF (A.eq (A.sub .i64 (A.max c (ah 0)) (ah 1)) (ah 2)) (aA (aO (dA (W 17 2)))) (aF (A.eq (A.sub .i64 (A.max c (ah 0)) (ah 1)) (ah 3)) (aA (aO (dA (W 17 3)))) (aF (A.eq (A.sub .i64 (A.max c (ah 0)) (ah 1)) (ah 4)) (aA (aO (dA (W 17 4)))) (aF (A.eq (A.sub .i64 (A.max c (ah 0)) (ah 1)) (ah 5)) (aA (aO (dA (W 17 5)))) (aF (A.eq (A.sub .i64 (A.max c (ah 0)) (ah 1)) (ah 6)) (aA (aO (dA (W 17 6)))) dH))))))))):=by kernel_rfl
theorem atE(A:Prim)(W:Wd)(c:Int):BR (C5 A W CB Ap) 300 122 [.code []] (Aa 16 [.v (.int .i64 3),.i .i64 c] L0)=aF (A.lt (A.sub .i64 (A.max c (ah 0)) (ah 1)) (ah 0)) (aA (aO (dA []))) (aF (A.le (ah 9) (A.sub .i64 (A.max c (ah 0)) (ah 1))) (aA (aO (dA []))) (aH (A.inB (A.sub .i64 (A.max c (ah 0)) (ah 1)) 9) (aF (A.eq (A.sub .i64 (A.max c (ah 0)) (ah 1)) (ah 0)) (aA (aO (dA (W 18 0)))) (aF (A.eq (A.sub .i64 (A.max c (ah 0)) (ah 1)) (ah 1)) (aA (aO (dA (W 18 1)))) (aF (A.eq (A.sub .i64 (A.max c (ah 0)) (ah 1)) (ah 2)) (aA (aO (dA (W 18 2)))) (aF (A.eq (A.sub .i64 (A.max c (ah 0)) (ah 1)) (ah 3)) (aA (aO (dA (W 18 3)))) (aF (A.eq (A.sub .i64 (A.max c (ah 0)) (ah 1)) (ah 4)) (aA (aO (dA (W 18 4)))) (aF (A.eq (A.sub .i64 (A.max c (ah 0)) (ah 1)) (ah 5)) (aA (aO (dA (W 18 5)))) (aF (A.eq (A.sub .i64 (A.max c (ah 0)) (ah 1)) (ah 6)) (aA (aO (dA (W 18 6)))) (aF (A.eq (A.sub .i64 (A.max c (ah 0)) (ah 1)) (ah 7)) (aA (aO (dA (W 18 7)))) (aF (A.eq (A.sub .i64 (A.max c (ah 0)) (ah 1)) (ah 8)) (aA (aO (dA (W 18 8)))) dH))))))))))):=by kernel_rfl
theorem atF(A:Prim)(W:Wd)(c:Int):BR (C5 A W CB Ap) 300 122 [.code []] (Aa 16 [.v (.int .i64 4),.i .i64 c] L0)=aF (A.lt (A.sub .i64 (A.max c (ah 0)) (ah 1)) (ah 0)) (aA (aO (dA []))) (aF (A.le (ah 3) (A.sub .i64 (A.max c (ah 0)) (ah 1))) (aA (aO (dA []))) (aH (A.inB (A.sub .i64 (A.max c (ah 0)) (ah 1)) 3) (aF (A.eq (A.sub .i64 (A.max c (ah 0)) (ah 1)) (ah 0)) (aA (aO (dA (W 19 0)))) (aF (A.eq (A.sub .i64 (A.max c (ah 0)) (ah 1)) (ah 1)) (aA (aO (dA (W 19 1)))) (aF (A.eq (A.sub .i64 (A.max c (ah 0)) (ah 1)) (ah 2)) (aA (aO (dA (W 19 2)))) dH))))):=by kernel_rfl
theorem atG(A:Prim)(W:Wd)(c:Int):BR (C5 A W CB Ap) 300 122 [.code []] (Aa 16 [.v (.int .i64 5),.i .i64 c] L0)=aF (A.lt (A.sub .i64 (A.max c (ah 0)) (ah 1)) (ah 0)) (aA (aO (dA []))) (aF (A.le (ah 4) (A.sub .i64 (A.max c (ah 0)) (ah 1))) (aA (aO (dA []))) (aH (A.inB (A.sub .i64 (A.max c (ah 0)) (ah 1)) 4) (aF (A.eq (A.sub .i64 (A.max c (ah 0)) (ah 1)) (ah 0)) (aA (aO (dA (W 20 0)))) (aF (A.eq (A.sub .i64 (A.max c (ah 0)) (ah 1)) (ah 1)) (aA (aO (dA (W 20 1)))) (aF (A.eq (A.sub .i64 (A.max c (ah 0)) (ah 1)) (ah 2)) (aA (aO (dA (W 20 2)))) (aF (A.eq (A.sub .i64 (A.max c (ah 0)) (ah 1)) (ah 3)) (aA (aO (dA (W 20 3)))) dH)))))):=by kernel_rfl
theorem atH(A:Prim)(W:Wd)(c:Int):BR (C5 A W CB Ap) 300 122 [.code []] (Aa 16 [.v (.int .i64 6),.i .i64 c] L0)=aF (A.lt (A.sub .i64 (A.max c (ah 0)) (ah 1)) (ah 0)) (aA (aO (dA []))) (aF (A.le (ah 4) (A.sub .i64 (A.max c (ah 0)) (ah 1))) (aA (aO (dA []))) (aH (A.inB (A.sub .i64 (A.max c (ah 0)) (ah 1)) 4) (aF (A.eq (A.sub .i64 (A.max c (ah 0)) (ah 1)) (ah 0)) (aA (aO (dA (W 21 0)))) (aF (A.eq (A.sub .i64 (A.max c (ah 0)) (ah 1)) (ah 1)) (aA (aO (dA (W 21 1)))) (aF (A.eq (A.sub .i64 (A.max c (ah 0)) (ah 1)) (ah 2)) (aA (aO (dA (W 21 2)))) (aF (A.eq (A.sub .i64 (A.max c (ah 0)) (ah 1)) (ah 3)) (aA (aO (dA (W 21 3)))) dH)))))):=by kernel_rfl
end Go.Ae
namespace Go.BF
open Go Go.Sx
def AY:Sh->Option Int
 | .i .i64 c=>ay c | .v (.int .i64 c)=>ay c |_=>aK
def Yn(t:Int):Nat×Nat:=
 bif t==1 then (16,4) else bif t==2 then (17,7) else bif t==3 then (18,9) else bif t==4 then (19,3) else bif t==5 then (20,4) else (21,4)
def idx(c:Int):Int:=aN.wrap ((if (0:Int)>c then 0 else c) - 1)
def Yo(m:Nat)(c:Int):Bool:=decide (0<=idx c/\idx c<(m:Int))
def CV(g m:Nat)(c:Int):List UInt8:=bif Yo m c then jJ g (idx c).toNat else []
def Dz(c:Int):Int:=
 bif c==1 then 1 else bif c==2 then 1 else bif c==3 then 2 else bif c==4 then 2 else bif c==5 then 3 else bif c==6 then 3 else bif c==7 then 4 else bif c==8 then 4 else bif c==9 then 4 else 0
theorem Ej{H:Mem}{s:Sh}{c:Int}{v:Value}(h:AY s=ay c)(r:Rep H s v):Rep H (.i .i64 c) v:=by
 unfold AY at h;split at h
 ·cases h;exact r
 ·cases h;cases r;exact .i _ _
 ·cases h
theorem U4{H:Mem}{s:Sh}{c:Int}{v:Value}(h:AY s=ay c)(r:Rep H s v):Rep H (.v (.int .i64 c)) v:=by
 have:=Ej h r;cases this;exact .v _ rfl
end Go.BF
namespace Go.Ae
open Go Go.Sx Go.BF
theorem awg:∀g F,CB g=ay F->Ar aB (Fv W5) g F:=fun g F h=>by
 unfold CB at h;split at h
 ·cases h;exact O10
 ·cases h;exact Yl
 ·cases h;exact O13
 ·cases h;exact O14
 ·cases h;exact O37
 ·cases h
theorem aoL(stop:Nat->List Nat->Bool):BA aB (C5 zW W5 CB stop):=yD awg fun g h=>by
 unfold CB at h;split at h;all_goals first|(cases h;done) |kernel_rfl
theorem JH{ψ:Int->Prop}{b:Bool}{x y:Int}(h:ψ (bif b then x else y)):(b=aC->ψ x)/\(b=ak->ψ y):=by
 cases b
 ·exact ⟨fun q=>(by cases q),fun _=>h⟩
 ·exact ⟨fun _=>h,fun q=>by cases q⟩
def F57:List Sh->Tree Sh
 |[s]=>match AY s with
  |some c=>.leaf (.i .i64 (Dz c)) |none=>.fail
 |_=>.fail
theorem O57:Ar aB (Fv W5) 102 F57:=by
 refine Hy (C:=C5 zW W5 CB Ap) (jU _ _) (aoL _) (n:=300) (L:=L0) (fn:=nM) (by kernel_rfl) (by kernel_rfl) fun H w A8 args φ hrep h=>?_
 have hn:nM.ntmps=17:=by kernel_rfl
 unfold F57 at h;split at h
 ·rename_i s
  split at h
  ·rename_i c hc
   match args,hrep with
   |[v],⟨hv,_⟩=>
    refine ⟨[.i .i64 c],⟨Ej hc hv,trivial⟩,?_⟩;rw[hn,a57 zW W5 c];have h:φ (.i .i64 (Dz c)):=h;exact let h1:=JH (ψ:=fun d=>φ (.i .i64 d)) h;⟨h1.1,fun q=>let h1:=JH (ψ:=fun d=>φ (.i .i64 d)) (h1.2 q);⟨h1.1,fun q=>let h1:=JH (ψ:=fun d=>φ (.i .i64 d)) (h1.2 q);⟨h1.1,fun q=>let h1:=JH (ψ:=fun d=>φ (.i .i64 d)) (h1.2 q);⟨h1.1,fun q=>let h1:=JH (ψ:=fun d=>φ (.i .i64 d)) (h1.2 q);⟨h1.1,fun q=>let h1:=JH (ψ:=fun d=>φ (.i .i64 d)) (h1.2 q);⟨h1.1,fun q=>let h1:=JH (ψ:=fun d=>φ (.i .i64 d)) (h1.2 q);⟨h1.1,fun q=>let h1:=JH (ψ:=fun d=>φ (.i .i64 d)) (h1.2 q);⟨h1.1,fun q=>let h1:=JH (ψ:=fun d=>φ (.i .i64 d)) (h1.2 q);⟨h1.1,fun q=>h1.2 q⟩⟩⟩⟩⟩⟩⟩⟩⟩
  ·exact h.elim
 ·exact h.elim
def F61:List Sh->Tree Sh
 |[s0,s]=>match AY s0 with
  |some t=>match AY s with
   |some c=>.need (decide (1<=t/\t<=6)) (.leaf (.str (CV (Yn t).1 (Yn t).2 c))) |none=>.fail
  |none=>.fail
 |_=>.fail
theorem MI{φ:Sh->Prop}{g m:Nat}{c:Int}{T:Prop}(h:φ (.str (CV g m c)))(hT:∀k:Nat,k<m->idx c=(k:Int)->φ (.str (W5 g k))->T):
  (zW.lt (zW.sub .i64 (zW.max c (ah 0)) (ah 1)) (ah 0)=aC->φ (.str []))/\
  (zW.lt (zW.sub .i64 (zW.max c (ah 0)) (ah 1)) (ah 0)=ak->(zW.le (ah m) (zW.sub .i64 (zW.max c (ah 0)) (ah 1))=aC->φ (.str []))/\
   (zW.le (ah m) (zW.sub .i64 (zW.max c (ah 0)) (ah 1))=ak->zW.inB (zW.sub .i64 (zW.max c (ah 0)) (ah 1)) m=aC/\T)):=by
 have he:zW.sub .i64 (zW.max c (ah 0)) (ah 1)=idx c:=rfl;rw[he,Ad,Df,Bl];unfold CV at h;simp only[fU,decide_eq_true_eq,decide_eq_false_iff_not];by_cases hi:Yo m c=aC
 ·rw[hi] at h
  have hi:=of_decide_eq_true hi;refine ⟨fun q=>?_,fun _=>⟨fun q=>?_,fun _=>⟨hi,?_⟩⟩⟩
  ·exact absurd q (by omega)
  ·exact absurd q (by omega)
  ·exact hT (idx c).toNat (by omega) (by omega) h
 ·have hi':Yo m c=ak:=by simpa using hi
  rw[hi'] at h;have hi:=of_decide_eq_false hi';refine ⟨fun _=>h,fun _=>⟨fun _=>h,fun _=>?_⟩⟩;exfalso;apply hi;constructor<;>omega
def NY(g:Nat)(i:Int):List Nat->Tree Fin
 |[]=>.fail |k::l=>.node (zW.eq i (ah k)) (.leaf (.ret (.str (W5 g k)))) (NY g i l)
theorem I8{ψ:Fin->Prop}{g k:Nat}{i:Int}(e:i=(k:Int))(hψ:ψ (.ret (.str (W5 g k)))):∀l,k∈l->(NY g i l).All ψ
 |[],h=>by cases h |a::l,h=>by
  refine ⟨fun q=>?_,fun q=>?_⟩
  ·rw[Aq,e] at q
   have:k=a:=by have:=eq_of_beq q;simp only[fU] at this;omega
   rw[<-this];exact hψ
  ·rw[Aq,e] at q
   have:k≠a:=fun e=>by subst e;simp at q
   exact I8 e hψ l ((List.mem_cons.1 h).resolve_left this)
@[irreducible] def DC (ψ:Fin->Prop) (t:Tree Fin):Prop:=t.All ψ
theorem BM(ψ:Fin->Prop)(t:Tree Fin):t.All ψ=DC ψ t:=by unfold DC;rfl
theorem atK{H:Mem}{w:World}{φ:Sh->Prop}{c:Int}(h2:φ (.str (CV 16 4 c))):
  DC (BG aB (C5 zW W5 CB Ap) (K0 H w) dI φ) (BR (C5 zW W5 CB Ap) 300 122 [.code []] (Aa 16 [.v (.int .i64 1),.i .i64 c] L0)):=by
 rw[atC zW W5 c,<-BM];exact MI (T:=(NY 16 (idx c) [0,1,2,3]).All (BG aB (C5 zW W5 CB Ap) (K0 H w) dI φ)) h2 fun k hk e hφ=>I8 e hφ _ (by simp;omega)
theorem atL{H:Mem}{w:World}{φ:Sh->Prop}{c:Int}(h2:φ (.str (CV 17 7 c))):
  DC (BG aB (C5 zW W5 CB Ap) (K0 H w) dI φ) (BR (C5 zW W5 CB Ap) 300 122 [.code []] (Aa 16 [.v (.int .i64 2),.i .i64 c] L0)):=by
 rw[atD zW W5 c,<-BM];exact MI (T:=(NY 17 (idx c) [0,1,2,3,4,5,6]).All (BG aB (C5 zW W5 CB Ap) (K0 H w) dI φ)) h2 fun k hk e hφ=>I8 e hφ _ (by simp;omega)
theorem atM{H:Mem}{w:World}{φ:Sh->Prop}{c:Int}(h2:φ (.str (CV 18 9 c))):
  DC (BG aB (C5 zW W5 CB Ap) (K0 H w) dI φ) (BR (C5 zW W5 CB Ap) 300 122 [.code []] (Aa 16 [.v (.int .i64 3),.i .i64 c] L0)):=by
 rw[atE zW W5 c,<-BM];exact MI (T:=(NY 18 (idx c) [0,1,2,3,4,5,6,7,8]).All (BG aB (C5 zW W5 CB Ap) (K0 H w) dI φ)) h2 fun k hk e hφ=>I8 e hφ _ (by simp;omega)
theorem atN{H:Mem}{w:World}{φ:Sh->Prop}{c:Int}(h2:φ (.str (CV 19 3 c))):
  DC (BG aB (C5 zW W5 CB Ap) (K0 H w) dI φ) (BR (C5 zW W5 CB Ap) 300 122 [.code []] (Aa 16 [.v (.int .i64 4),.i .i64 c] L0)):=by
 rw[atF zW W5 c,<-BM];exact MI (T:=(NY 19 (idx c) [0,1,2]).All (BG aB (C5 zW W5 CB Ap) (K0 H w) dI φ)) h2 fun k hk e hφ=>I8 e hφ _ (by simp;omega)
theorem atO{H:Mem}{w:World}{φ:Sh->Prop}{c:Int}(h2:φ (.str (CV 20 4 c))):
  DC (BG aB (C5 zW W5 CB Ap) (K0 H w) dI φ) (BR (C5 zW W5 CB Ap) 300 122 [.code []] (Aa 16 [.v (.int .i64 5),.i .i64 c] L0)):=by
 rw[atG zW W5 c,<-BM];exact MI (T:=(NY 20 (idx c) [0,1,2,3]).All (BG aB (C5 zW W5 CB Ap) (K0 H w) dI φ)) h2 fun k hk e hφ=>I8 e hφ _ (by simp;omega)
theorem atP{H:Mem}{w:World}{φ:Sh->Prop}{c:Int}(h2:φ (.str (CV 21 4 c))):
  DC (BG aB (C5 zW W5 CB Ap) (K0 H w) dI φ) (BR (C5 zW W5 CB Ap) 300 122 [.code []] (Aa 16 [.v (.int .i64 6),.i .i64 c] L0)):=by
 rw[atH zW W5 c,<-BM];exact MI (T:=(NY 21 (idx c) [0,1,2,3]).All (BG aB (C5 zW W5 CB Ap) (K0 H w) dI φ)) h2 fun k hk e hφ=>I8 e hφ _ (by simp;omega)
theorem six{P:Int->Nat->Nat->Prop}(h1:P 1 16 4)(h2:P 2 17 7)(h3:P 3 18 9)(h4:P 4 19 3)(h5:P 5 20 4)(h6:P 6 21 4){t:Int}(ht:decide (1<=t/\t<=6)=aC):P t (Yn t).1 (Yn t).2:=by
 have ht:=of_decide_eq_true ht;have e:t=1\/t=2\/t=3\/t=4\/t=5\/t=6:=by omega
 rcases e with rfl|rfl|rfl|rfl|rfl|rfl
 ·exact h1
 ·exact h2
 ·exact h3
 ·exact h4
 ·exact h5
 ·exact h6
theorem w61{H:Mem}{w:World}{φ:Sh->Prop}{c t:Int}(ht:decide (1<=t/\t<=6)=aC)(h2:φ (.str (CV (Yn t).1 (Yn t).2 c))):
  DC (BG aB (C5 zW W5 CB Ap) (K0 H w) dI φ) (BR (C5 zW W5 CB Ap) 300 122 [.code []] (Aa 16 [.v (.int .i64 t),.i .i64 c] L0)):=
 six (P:=fun t g m=>φ (.str (CV g m c))->DC (BG aB (C5 zW W5 CB Ap) (K0 H w) dI φ) (BR (C5 zW W5 CB Ap) 300 122 [.code []] (Aa 16 [.v (.int .i64 t),.i .i64 c] L0))) atK atL atM atN atO atP ht h2
theorem O61:Ar aB (Fv W5) 122 F61:=by
 refine Hy (C:=C5 zW W5 CB Ap) (jU _ _) (aoL _) (n:=300) (L:=L0) (fn:=dI) (by kernel_rfl) (by kernel_rfl) fun H w A8 args φ hrep h=>?_
 have hn:dI.ntmps=16:=by kernel_rfl
 unfold F61 at h;split at h
 ·rename_i s0 s
  split at h
  ·rename_i t ht
   split at h
   ·rename_i c hc
    obtain ⟨h1,h2⟩:=h;match args,hrep with
    |[u,v],⟨hu,hv,_⟩=>
     refine ⟨[.v (.int .i64 t),.i .i64 c],⟨U4 ht hu,Ej hc hv,trivial⟩,?_⟩;rw[hn,BM];exact w61 h1 h2
   ·exact h.elim
  ·exact h.elim
 ·exact h.elim
def AB:Nat->Option (List Sh->Tree Sh)
 |102=>ay F57 |122=>ay F61 |_=>aK
theorem a54(A:Prim)(W:Wd)(x y:Int):BR (C5 A W AB Ap) 300 99 [.code []] (Aa 36 [.agg [.i .i64 x,.i .i64 y]] L0)=aF (A.eq x (ah 1)) (aH aC (aF (A.seq (CV 16 4 x) []) (aA (aO (aZ 7 329))) (aF (A.lt y (fG 999999999)) (aA (aO (aZ 7 329))) (aF (A.lt (ah 1000000000) y) (aA (aO (aZ 7 329))) (aA (aO (jC bI))))))) (aH aC (aF (A.seq (CV 16 4 x) []) (aA (aO (aZ 7 329))) (aF (A.lt y (fG 999999999)) (aA (aO (aZ 7 329))) (aF (A.lt (ah 1000000000) y) (aA (aO (aZ 7 329))) (aF (A.nt (A.eq x (ah 2))) (aF (A.nt (A.eq y (ah 0))) (aA (aO (aZ 7 329))) (aA (aO (jC bI)))) (aA (aO (jC bI)))))))):=by kernel_rfl
theorem a55(A:Prim)(W:Wd)(x:Int)(e:Nat):BR (C5 A W AB Ap) 300 100 [.code []] (Aa 10 [.i .i64 x,.er e 329] L0)=aA (aO (pK 109 (sU [aW .i64 x,aZ e 329]))):=by kernel_rfl
end Go.Ae
namespace Go.BF
open Go Go.Sx
def abP(k i:Int):Bool:=Yo 4 k && !decide (i < -1000000000) && !decide (1000000000<i)&&(k==1||k==2||i==0)
theorem Pm{g m:Nat}{c:Int}(h:∀k,k<m->jJ g k≠[]):zW.seq (CV g m c) []=!Yo m c:=by
 rw[X0];unfold CV;cases hi:Yo m c with
 |true=>
  have hi:=of_decide_eq_true hi;have:=h (idx c).toNat (by omega);simpa using this
 |false=>rfl
theorem awh:∀k,k<4->jJ 16 k≠[]:=fun k hk=>by
 obtain rfl|rfl|rfl|rfl:k=0\/k=1\/k=2\/k=3:=by omega
 all_goals simp[jJ,qZ]
theorem akE:∀k,k<3->jJ 19 k≠[]:=fun k hk=>by
 obtain rfl|rfl|rfl:k=0\/k=1\/k=2:=by omega
 all_goals simp[jJ,qZ]
end Go.BF
namespace Go.Ae
open Go Go.Sx Go.BF
theorem awi:∀g F,AB g=ay F->Ar aB (Fv W5) g F:=fun g F h=>by
 unfold AB at h;split at h
 ·cases h;exact O57
 ·cases h;exact O61
 ·cases h
theorem afb(stop:Nat->List Nat->Bool):BA aB (C5 zW W5 AB stop):=yD awi fun g h=>by
 unfold AB at h;split at h;all_goals first|(cases h;done) |kernel_rfl
def F54:List Sh->Tree Sh
 |[.agg [s,s']]=>match AY s with
  |some k=>match AY s' with
   |some i=>.node (abP k i) (.leaf (.v .nilIface)) (.leaf (.er 7 329)) |none=>.fail
  |none=>.fail
 |_=>.fail
theorem X3{H:Mem}{s s' t t':Sh}{v:Value}(hv:Rep H (.agg [s,s']) v)(h1:∀u,Rep H s u->Rep H t u)(h2:∀u,Rep H s' u->Rep H t' u):Rep H (.agg [t,t']) v:=by
 cases hv with
 |agg _ vs h3 h4=>
  refine .agg _ vs h3 fun j s0 v' e1 e2=>?_
  match j,e1 with
  |0,e1=>simp at e1;subst e1;exact h1 _ (h4 0 _ v' rfl e2) |1,e1=>simp at e1;subst e1;exact h2 _ (h4 1 _ v' rfl e2) |j+2,e1=>simp at e1
theorem aoN{φ:Sh->Prop}{x y:Int}(hT:abP x y=aC->φ (.v .nilIface))(hF:abP x y=ak->φ (.er 7 329)){H:Mem}{w:World}:
  DC (BG aB (C5 zW W5 AB Ap) (K0 H w) kJ φ) (BR (C5 zW W5 AB Ap) 300 99 [.code []] (Aa 36 [.agg [.i .i64 x,.i .i64 y]] L0)):=by
 rw[a54 zW W5 x y,<-BM,Pm awh];unfold abP at hT hF;simp only[fP,BG,Aq,Ad,BQ];cases h1:Yo 4 x<;>simp[h1] at hT hF ⊢
 ·exact hF
 ·refine ⟨fun e1=>⟨fun e=>hF fun q=>absurd q (by omega),fun e=>⟨fun e'=>hF fun _ q=>absurd q (by omega),fun e'=>hT e e' (.inl (.inl e1))⟩⟩,fun e1=>⟨fun e=>hF fun q=>absurd q (by omega),fun e=>⟨fun e'=>hF fun _ q=>absurd q (by omega),fun e'=>⟨fun e2=>⟨fun e3=>hF fun _ _=>⟨⟨e1,e2⟩,e3⟩,fun e3=>hT e e' (.inr e3)⟩,fun e2=>hT e e' (.inl (.inr e2))⟩⟩⟩⟩
theorem O54:Ar aB (Fv W5) 99 F54:=by
 refine Hy (C:=C5 zW W5 AB Ap) (jU _ _) (afb _) (n:=300) (L:=L0) (fn:=kJ) (by kernel_rfl) (by kernel_rfl) fun H w A8 args φ hrep h=>?_
 have hn:kJ.ntmps=36:=by kernel_rfl
 unfold F54 at h;split at h
 ·rename_i s s'
  split at h
  ·rename_i k hk
   split at h
   ·rename_i i hi
    obtain ⟨h1,h2⟩:=h;match args,hrep with
    |[u],⟨hu,_⟩=>
     refine ⟨[.agg [.i .i64 k,.i .i64 i]],⟨X3 hu (fun _=>Ej hk) (fun _=>Ej hi),trivial⟩,?_⟩;rw[hn,BM];exact aoN h1 h2
   ·exact h.elim
  ·exact h.elim
 ·exact h.elim
def il(n:Int):Sh:=.v (.int .i64 n)
def sy(n:Int):Sh:=.i .i64 n
def IX:Nat->List Nat->Bool:=fun g _=>fC g 101
def dead:Tree Fin->Tree Fin
 | .leaf (.ret s)=>.leaf (.ret s) | .leaf (.stop _ _)=>.fail | .node b t f=>.node b (dead t) (dead f) | .need b t=>.need b (dead t) | .must l t=>.must l (dead t) | .both t f=>.both (dead t) (dead f) | .fail=>.fail
theorem Nw{ψ:Fin->Prop}:∀{t:Tree Fin},(dead t).All ψ->t.All ψ
 | .leaf (.ret _),h=>h | .leaf (.stop _ _),h=>h.elim | .node _ _ _,h=>⟨fun q=>Nw (h.1 q),fun q=>Nw (h.2 q)⟩ | .need _ _,h=>⟨h.1,Nw h.2⟩ | .must _ _,h=>⟨h.1,Nw h.2⟩ | .both _ _,h=>⟨Nw h.1,Nw h.2⟩ | .fail,h=>h
theorem atS(A:Prim)(W:Wd)(_k x t o p y v r:Int):BR (C5 A W AB Am) 3000 101 [.code []] (Aa 75 [.agg [il 1,sy x,sy t,sy o,sy p,sy y,sy v,sy r]] L0)=aS [aj x x,aj t t,aj o o,aj p p,aj y y,aj v v,aj r r] (aS [aj x x,aj t t,aj o o,aj p p,aj y y,aj v v,aj r r] (aS [aj x x,aj t t,aj o o,aj p p,aj y y,aj v v,aj r r] (aS [aj x x,aj t t,aj o o,aj p p,aj y y,aj v v,aj r r] (aF (A.lt x (ah 1)) (aA (aO (aZ 15 329))) (aF (A.lt (ah 1000) x) (aA (aO (aZ 15 329))) (aF (A.lt t (ah 0)) (aA (aO (aZ 15 329))) (aF (A.lt (ah 7) t) (aA (aO (aZ 15 329))) (aF (A.nt (A.ite (A.eq (ah 0) (ah 0)) (A.ite (A.eq (ah 0) (ah 0)) (A.ite (A.eq (ah 0) (ah 0)) (A.ite (A.eq o (ah 0)) (A.ite (A.eq p (ah 0)) (A.ite (A.eq y (ah 0)) (A.ite (A.eq v (ah 0)) (A.ite (A.eq r (ah 0)) aC ak) ak) ak) ak) ak) ak) ak) ak)) (aA (aO (aZ 15 329))) (aA (aO (jC bI))))))))))):=by kernel_rfl
theorem atU(A:Prim)(W:Wd)(_k x t o p y v r:Int):BR (C5 A W AB Am) 3000 101 [.code []] (Aa 75 [.agg [il 4,sy x,sy t,sy o,sy p,sy y,sy v,sy r]] L0)=aS [aj x x,aj t t,aj o o,aj p p,aj y y,aj v v,aj r r] (aS [aj x x,aj t t,aj o o,aj p p,aj y y,aj v v,aj r r] (aS [aj x x,aj t t,aj o o,aj p p,aj y y,aj v v,aj r r] (aS [aj x x,aj t t,aj o o,aj p p,aj y y,aj v v,aj r r] (aF (A.lt x (ah 1)) (aA (aO (aZ 15 329))) (aF (A.lt (ah 1000) x) (aA (aO (aZ 15 329))) (aF (A.nt (A.ite (A.eq (ah 0) (ah 0)) (A.ite (A.eq (ah 0) (ah 0)) (A.ite (A.eq t (ah 0)) (A.ite (A.eq o (ah 0)) (A.ite (A.eq p (ah 0)) (A.ite (A.eq y (ah 0)) (A.ite (A.eq v (ah 0)) (A.ite (A.eq r (ah 0)) aC ak) ak) ak) ak) ak) ak) ak) ak)) (aA (aO (aZ 15 329))) (aA (aO (jC bI))))))))):=by kernel_rfl
theorem atV(A:Prim)(W:Wd)(_k x t o p y v r:Int):BR (C5 A W AB Am) 3000 101 [.code []] (Aa 75 [.agg [il 5,sy x,sy t,sy o,sy p,sy y,sy v,sy r]] L0)=aS [aj x x,aj t t,aj o o,aj p p,aj y y,aj v v,aj r r] (aS [aj x x,aj t t,aj o o,aj p p,aj y y,aj v v,aj r r] (aS [aj x x,aj t t,aj o o,aj p p,aj y y,aj v v,aj r r] (aS [aj x x,aj t t,aj o o,aj p p,aj y y,aj v v,aj r r] (aF (A.lt x (ah 1)) (aA (aO (aZ 15 329))) (aF (A.lt (ah 1000) x) (aA (aO (aZ 15 329))) (aF (A.nt (A.ite (A.eq (ah 0) (ah 0)) (A.ite (A.eq (ah 0) (ah 0)) (A.ite (A.eq t (ah 0)) (A.ite (A.eq o (ah 0)) (A.ite (A.eq p (ah 0)) (A.ite (A.eq y (ah 0)) (A.ite (A.eq v (ah 0)) (A.ite (A.eq r (ah 0)) aC ak) ak) ak) ak) ak) ak) ak) ak)) (aA (aO (aZ 15 329))) (aA (aO (jC bI))))))))):=by kernel_rfl
theorem atW(A:Prim)(W:Wd)(_k x t o p y v r:Int):BR (C5 A W AB Am) 3000 101 [.code []] (Aa 75 [.agg [il 6,sy x,sy t,sy o,sy p,sy y,sy v,sy r]] L0)=aS [aj x x,aj t t,aj o o,aj p p,aj y y,aj v v,aj r r] (aS [aj x x,aj t t,aj o o,aj p p,aj y y,aj v v,aj r r] (aS [aj x x,aj t t,aj o o,aj p p,aj y y,aj v v,aj r r] (aS [aj x x,aj t t,aj o o,aj p p,aj y y,aj v v,aj r r] (aF (A.lt x (ah 1)) (aA (aO (aZ 15 329))) (aF (A.lt (ah 1000) x) (aA (aO (aZ 15 329))) (aF (A.nt (A.ite (A.eq (ah 0) (ah 0)) (A.ite (A.eq (ah 0) (ah 0)) (A.ite (A.eq t (ah 0)) (A.ite (A.eq o (ah 0)) (A.ite (A.eq p (ah 0)) (A.ite (A.eq y (ah 0)) (A.ite (A.eq v (ah 0)) (A.ite (A.eq r (ah 0)) aC ak) ak) ak) ak) ak) ak) ak) ak)) (aA (aO (aZ 15 329))) (aA (aO (jC bI))))))))):=by kernel_rfl
theorem atX(A:Prim)(W:Wd)(_k x t o p y v r:Int):BR (C5 A W AB Am) 3000 101 [.code []] (Aa 75 [.agg [il 7,sy x,sy t,sy o,sy p,sy y,sy v,sy r]] L0)=aS [aj x x,aj t t,aj o o,aj p p,aj y y,aj v v,aj r r] (aS [aj x x,aj t t,aj o o,aj p p,aj y y,aj v v,aj r r] (aS [aj x x,aj t t,aj o o,aj p p,aj y y,aj v v,aj r r] (aS [aj x x,aj t t,aj o o,aj p p,aj y y,aj v v,aj r r] (aF (A.lt x (ah 1)) (aA (aO (aZ 15 329))) (aF (A.lt (ah 1000) x) (aA (aO (aZ 15 329))) (aF (A.nt (A.ite (A.eq (ah 0) (ah 0)) (A.ite (A.eq (ah 0) (ah 0)) (A.ite (A.eq t (ah 0)) (A.ite (A.eq o (ah 0)) (A.ite (A.eq p (ah 0)) (A.ite (A.eq y (ah 0)) (A.ite (A.eq v (ah 0)) (A.ite (A.eq r (ah 0)) aC ak) ak) ak) ak) ak) ak) ak) ak)) (aA (aO (aZ 15 329))) (aA (aO (jC bI))))))))):=by kernel_rfl
theorem aoO(A:Prim)(W:Wd)(_k x t o _p y v r:Int):BR (C5 A W AB Am) 3000 101 [.code []] (Aa 75 [.agg [il 2,sy x,sy t,sy o,il 1,sy y,sy v,sy r]] L0)=aS [aj x x,aj t t,aj o o,aj y y,aj v v,aj r r] (aS [aj x x,aj t t,aj o o,aj y y,aj v v,aj r r] (aS [aj x x,aj t t,aj o o,aj y y,aj v v,aj r r] (aS [aj x x,aj t t,aj o o,aj y y,aj v v,aj r r] (aF (A.eq (Dz (ah 1)) (ah 0)) (aA (aO (aZ 14 329))) (aF (A.lt x (ah 1)) (aA (aO (aZ 15 329))) (aF (A.lt (ah 1000) x) (aA (aO (aZ 15 329))) (aF (A.lt o (ah 0)) (aA (aO (aZ 15 329))) (aF (A.lt (ah 7) o) (aA (aO (aZ 15 329))) (aF (A.nt (A.ite (A.eq (ah 0) (ah 0)) (A.ite (A.eq (ah 0) (ah 0)) (A.ite (A.eq t (ah 0)) (A.ite (A.eq (ah 0) (ah 0)) (A.ite (A.eq (ah 0) (ah 0)) (A.ite (A.eq y (ah 0)) (A.ite (A.eq v (ah 0)) (A.ite (A.eq r (ah 0)) aC ak) ak) ak) ak) ak) ak) ak) ak)) (aA (aO (aZ 15 329))) (aA (aO (jC bI)))))))))))):=by kernel_rfl
theorem aoP(A:Prim)(W:Wd)(_k x t o _p y v r:Int):BR (C5 A W AB Am) 3000 101 [.code []] (Aa 75 [.agg [il 2,sy x,sy t,sy o,il 2,sy y,sy v,sy r]] L0)=aS [aj x x,aj t t,aj o o,aj y y,aj v v,aj r r] (aS [aj x x,aj t t,aj o o,aj y y,aj v v,aj r r] (aS [aj x x,aj t t,aj o o,aj y y,aj v v,aj r r] (aS [aj x x,aj t t,aj o o,aj y y,aj v v,aj r r] (aF (A.eq (Dz (ah 2)) (ah 0)) (aA (aO (aZ 14 329))) (aF (A.lt x (ah 1)) (aA (aO (aZ 15 329))) (aF (A.lt (ah 1000) x) (aA (aO (aZ 15 329))) (aF (A.lt o (ah 0)) (aA (aO (aZ 15 329))) (aF (A.lt (ah 7) o) (aA (aO (aZ 15 329))) (aF (A.lt v (fG 999999999)) (aA (aO (aZ 15 329))) (aF (A.lt (ah 1000000000) v) (aA (aO (aZ 15 329))) (aF (A.nt (A.ite (A.eq (ah 0) (ah 0)) (A.ite (A.eq (ah 0) (ah 0)) (A.ite (A.eq t (ah 0)) (A.ite (A.eq (ah 0) (ah 0)) (A.ite (A.eq (ah 0) (ah 0)) (A.ite (A.eq y (ah 0)) (A.ite (A.eq (ah 0) (ah 0)) (A.ite (A.eq r (ah 0)) aC ak) ak) ak) ak) ak) ak) ak) ak)) (aA (aO (aZ 15 329))) (aA (aO (jC bI)))))))))))))):=by kernel_rfl
theorem aoQ(A:Prim)(W:Wd)(_k x t o _p y v r:Int):BR (C5 A W AB Am) 3000 101 [.code []] (Aa 75 [.agg [il 2,sy x,sy t,sy o,il 3,sy y,sy v,sy r]] L0)=aS [aj x x,aj t t,aj o o,aj y y,aj v v,aj r r] (aS [aj x x,aj t t,aj o o,aj y y,aj v v,aj r r] (aS [aj x x,aj t t,aj o o,aj y y,aj v v,aj r r] (aS [aj x x,aj t t,aj o o,aj y y,aj v v,aj r r] (aF (A.eq (Dz (ah 3)) (ah 0)) (aA (aO (aZ 14 329))) (aF (A.lt x (ah 1)) (aA (aO (aZ 15 329))) (aF (A.lt (ah 1000) x) (aA (aO (aZ 15 329))) (aF (A.lt o (ah 0)) (aA (aO (aZ 15 329))) (aF (A.lt (ah 7) o) (aA (aO (aZ 15 329))) (aF (A.lt v (fG 999999999)) (aA (aO (aZ 15 329))) (aF (A.lt (ah 1000000000) v) (aA (aO (aZ 15 329))) (aF (A.nt (A.ite (A.eq (ah 0) (ah 0)) (A.ite (A.eq (ah 0) (ah 0)) (A.ite (A.eq t (ah 0)) (A.ite (A.eq (ah 0) (ah 0)) (A.ite (A.eq (ah 0) (ah 0)) (A.ite (A.eq y (ah 0)) (A.ite (A.eq (ah 0) (ah 0)) (A.ite (A.eq r (ah 0)) aC ak) ak) ak) ak) ak) ak) ak) ak)) (aA (aO (aZ 15 329))) (aA (aO (jC bI)))))))))))))):=by kernel_rfl
theorem aoR(A:Prim)(W:Wd)(_k x t o _p y v r:Int):BR (C5 A W AB Am) 3000 101 [.code []] (Aa 75 [.agg [il 2,sy x,sy t,sy o,il 4,sy y,sy v,sy r]] L0)=aS [aj x x,aj t t,aj o o,aj y y,aj v v,aj r r] (aS [aj x x,aj t t,aj o o,aj y y,aj v v,aj r r] (aS [aj x x,aj t t,aj o o,aj y y,aj v v,aj r r] (aS [aj x x,aj t t,aj o o,aj y y,aj v v,aj r r] (aF (A.eq (Dz (ah 4)) (ah 0)) (aA (aO (aZ 14 329))) (aF (A.lt x (ah 1)) (aA (aO (aZ 15 329))) (aF (A.lt (ah 1000) x) (aA (aO (aZ 15 329))) (aF (A.lt o (ah 0)) (aA (aO (aZ 15 329))) (aF (A.lt (ah 7) o) (aA (aO (aZ 15 329))) (aF (A.nt (A.ite (A.eq (ah 0) (ah 0)) (A.ite (A.eq (ah 0) (ah 0)) (A.ite (A.eq t (ah 0)) (A.ite (A.eq (ah 0) (ah 0)) (A.ite (A.eq (ah 0) (ah 0)) (A.ite (A.eq y (ah 0)) (A.ite (A.eq v (ah 0)) (A.ite (A.eq r (ah 0)) aC ak) ak) ak) ak) ak) ak) ak) ak)) (aA (aO (aZ 15 329))) (aA (aO (jC bI)))))))))))):=by kernel_rfl
theorem aoS(A:Prim)(W:Wd)(_k x t o _p y v r:Int):BR (C5 A W AB Am) 3000 101 [.code []] (Aa 75 [.agg [il 2,sy x,sy t,sy o,il 5,sy y,sy v,sy r]] L0)=aS [aj x x,aj t t,aj o o,aj y y,aj v v,aj r r] (aS [aj x x,aj t t,aj o o,aj y y,aj v v,aj r r] (aS [aj x x,aj t t,aj o o,aj y y,aj v v,aj r r] (aS [aj x x,aj t t,aj o o,aj y y,aj v v,aj r r] (aF (A.eq (Dz (ah 5)) (ah 0)) (aA (aO (aZ 14 329))) (aF (A.lt x (ah 1)) (aA (aO (aZ 15 329))) (aF (A.lt (ah 1000) x) (aA (aO (aZ 15 329))) (aF (A.lt o (ah 0)) (aA (aO (aZ 15 329))) (aF (A.lt (ah 7) o) (aA (aO (aZ 15 329))) (aF (A.lt v (fG 999999999)) (aA (aO (aZ 15 329))) (aF (A.lt (ah 1000000000) v) (aA (aO (aZ 15 329))) (aF (A.nt (A.ite (A.eq (ah 0) (ah 0)) (A.ite (A.eq (ah 0) (ah 0)) (A.ite (A.eq t (ah 0)) (A.ite (A.eq (ah 0) (ah 0)) (A.ite (A.eq (ah 0) (ah 0)) (A.ite (A.eq y (ah 0)) (A.ite (A.eq (ah 0) (ah 0)) (A.ite (A.eq r (ah 0)) aC ak) ak) ak) ak) ak) ak) ak) ak)) (aA (aO (aZ 15 329))) (aA (aO (jC bI)))))))))))))):=by kernel_rfl
theorem aoT(A:Prim)(W:Wd)(_k x t o _p y v r:Int):BR (C5 A W AB Am) 3000 101 [.code []] (Aa 75 [.agg [il 2,sy x,sy t,sy o,il 6,sy y,sy v,sy r]] L0)=aS [aj x x,aj t t,aj o o,aj y y,aj v v,aj r r] (aS [aj x x,aj t t,aj o o,aj y y,aj v v,aj r r] (aS [aj x x,aj t t,aj o o,aj y y,aj v v,aj r r] (aS [aj x x,aj t t,aj o o,aj y y,aj v v,aj r r] (aF (A.eq (Dz (ah 6)) (ah 0)) (aA (aO (aZ 14 329))) (aF (A.lt x (ah 1)) (aA (aO (aZ 15 329))) (aF (A.lt (ah 1000) x) (aA (aO (aZ 15 329))) (aF (A.lt o (ah 0)) (aA (aO (aZ 15 329))) (aF (A.lt (ah 7) o) (aA (aO (aZ 15 329))) (aF (A.nt (A.ite (A.eq (ah 0) (ah 0)) (A.ite (A.eq (ah 0) (ah 0)) (A.ite (A.eq t (ah 0)) (A.ite (A.eq (ah 0) (ah 0)) (A.ite (A.eq (ah 0) (ah 0)) (A.ite (A.eq y (ah 0)) (A.ite (A.eq v (ah 0)) (A.ite (A.eq r (ah 0)) aC ak) ak) ak) ak) ak) ak) ak) ak)) (aA (aO (aZ 15 329))) (aA (aO (jC bI)))))))))))):=by kernel_rfl
theorem aoU(A:Prim)(W:Wd)(_k x t o _p y v r:Int):BR (C5 A W AB Am) 3000 101 [.code []] (Aa 75 [.agg [il 2,sy x,sy t,sy o,il 7,sy y,sy v,sy r]] L0)=aS [aj x x,aj t t,aj o o,aj y y,aj v v,aj r r] (aS [aj x x,aj t t,aj o o,aj y y,aj v v,aj r r] (aS [aj x x,aj t t,aj o o,aj y y,aj v v,aj r r] (aS [aj x x,aj t t,aj o o,aj y y,aj v v,aj r r] (aF (A.eq (Dz (ah 7)) (ah 0)) (aA (aO (aZ 14 329))) (aF (A.lt x (ah 1)) (aA (aO (aZ 15 329))) (aF (A.lt (ah 1000) x) (aA (aO (aZ 15 329))) (aF (A.lt o (ah 0)) (aA (aO (aZ 15 329))) (aF (A.lt (ah 7) o) (aA (aO (aZ 15 329))) (aF (A.lt y (ah 0)) (aA (aO (aZ 15 329))) (aF (A.lt (ah 1000) y) (aA (aO (aZ 15 329))) (aF (A.lt v (fG 999999999)) (aA (aO (aZ 15 329))) (aF (A.lt (ah 1000000000) v) (aA (aO (aZ 15 329))) (aF (A.nt (A.ite (A.eq (ah 0) (ah 0)) (A.ite (A.eq (ah 0) (ah 0)) (A.ite (A.eq t (ah 0)) (A.ite (A.eq (ah 0) (ah 0)) (A.ite (A.eq (ah 0) (ah 0)) (A.ite (A.eq (ah 0) (ah 0)) (A.ite (A.eq (ah 0) (ah 0)) (A.ite (A.eq r (ah 0)) aC ak) ak) ak) ak) ak) ak) ak) ak)) (aA (aO (aZ 15 329))) (aA (aO (jC bI)))))))))))))))):=by kernel_rfl
theorem aoV(A:Prim)(W:Wd)(_k x t o _p y v r:Int):BR (C5 A W AB Am) 3000 101 [.code []] (Aa 75 [.agg [il 2,sy x,sy t,sy o,il 8,sy y,sy v,sy r]] L0)=aS [aj x x,aj t t,aj o o,aj y y,aj v v,aj r r] (aS [aj x x,aj t t,aj o o,aj y y,aj v v,aj r r] (aS [aj x x,aj t t,aj o o,aj y y,aj v v,aj r r] (aS [aj x x,aj t t,aj o o,aj y y,aj v v,aj r r] (aF (A.eq (Dz (ah 8)) (ah 0)) (aA (aO (aZ 14 329))) (aF (A.lt x (ah 1)) (aA (aO (aZ 15 329))) (aF (A.lt (ah 1000) x) (aA (aO (aZ 15 329))) (aF (A.lt o (ah 0)) (aA (aO (aZ 15 329))) (aF (A.lt (ah 7) o) (aA (aO (aZ 15 329))) (aF (A.lt y (ah 0)) (aA (aO (aZ 15 329))) (aF (A.lt (ah 1000) y) (aA (aO (aZ 15 329))) (aF (A.nt (A.ite (A.eq (ah 0) (ah 0)) (A.ite (A.eq (ah 0) (ah 0)) (A.ite (A.eq t (ah 0)) (A.ite (A.eq (ah 0) (ah 0)) (A.ite (A.eq (ah 0) (ah 0)) (A.ite (A.eq (ah 0) (ah 0)) (A.ite (A.eq v (ah 0)) (A.ite (A.eq r (ah 0)) aC ak) ak) ak) ak) ak) ak) ak) ak)) (aA (aO (aZ 15 329))) (aA (aO (jC bI)))))))))))))):=by kernel_rfl
theorem aoW(A:Prim)(W:Wd)(_k x t o _p y v r:Int):BR (C5 A W AB Am) 3000 101 [.code []] (Aa 75 [.agg [il 2,sy x,sy t,sy o,il 9,sy y,sy v,sy r]] L0)=aS [aj x x,aj t t,aj o o,aj y y,aj v v,aj r r] (aS [aj x x,aj t t,aj o o,aj y y,aj v v,aj r r] (aS [aj x x,aj t t,aj o o,aj y y,aj v v,aj r r] (aS [aj x x,aj t t,aj o o,aj y y,aj v v,aj r r] (aF (A.eq (Dz (ah 9)) (ah 0)) (aA (aO (aZ 14 329))) (aF (A.lt x (ah 1)) (aA (aO (aZ 15 329))) (aF (A.lt (ah 1000) x) (aA (aO (aZ 15 329))) (aF (A.lt o (ah 0)) (aA (aO (aZ 15 329))) (aF (A.lt (ah 7) o) (aA (aO (aZ 15 329))) (aF (A.lt y (ah 0)) (aA (aO (aZ 15 329))) (aF (A.lt (ah 1000) y) (aA (aO (aZ 15 329))) (aF (A.nt (A.ite (A.eq (ah 0) (ah 0)) (A.ite (A.eq (ah 0) (ah 0)) (A.ite (A.eq t (ah 0)) (A.ite (A.eq (ah 0) (ah 0)) (A.ite (A.eq (ah 0) (ah 0)) (A.ite (A.eq (ah 0) (ah 0)) (A.ite (A.eq v (ah 0)) (A.ite (A.eq r (ah 0)) aC ak) ak) ak) ak) ak) ak) ak) ak)) (aA (aO (aZ 15 329))) (aA (aO (jC bI)))))))))))))):=by kernel_rfl
theorem aoX(A:Prim)(W:Wd)(_k x t o p y v _r:Int):BR (C5 A W AB Am) 3000 101 [.code []] (Aa 75 [.agg [il 3,sy x,sy t,sy o,sy p,sy y,sy v,il 1]] L0)=aS [aj x x,aj t t,aj o o,aj p p,aj y y,aj v v] (aS [aj x x,aj t t,aj o o,aj p p,aj y y,aj v v] (aS [aj x x,aj t t,aj o o,aj p p,aj y y,aj v v] (aS [aj x x,aj t t,aj o o,aj p p,aj y y,aj v v] (aH aC (aF (A.seq (CV 19 3 (ah 1)) []) (aA (aO (aZ 14 329))) (aF (A.lt x (ah 1)) (aA (aO (aZ 15 329))) (aF (A.lt (ah 1000) x) (aA (aO (aZ 15 329))) (aF (A.nt (A.ite (A.eq (ah 0) (ah 0)) (A.ite (A.eq (ah 0) (ah 0)) (A.ite (A.eq t (ah 0)) (A.ite (A.eq o (ah 0)) (A.ite (A.eq p (ah 0)) (A.ite (A.eq y (ah 0)) (A.ite (A.eq v (ah 0)) (A.ite (A.eq (ah 0) (ah 0)) aC ak) ak) ak) ak) ak) ak) ak) ak)) (aA (aO (aZ 15 329))) (aA (aO (jC bI))))))))))):=by kernel_rfl
theorem aoY(A:Prim)(W:Wd)(_k x t o p y v _r:Int):BR (C5 A W AB Am) 3000 101 [.code []] (Aa 75 [.agg [il 3,sy x,sy t,sy o,sy p,sy y,sy v,il 2]] L0)=aS [aj x x,aj t t,aj o o,aj p p,aj y y,aj v v] (aS [aj x x,aj t t,aj o o,aj p p,aj y y,aj v v] (aS [aj x x,aj t t,aj o o,aj p p,aj y y,aj v v] (aS [aj x x,aj t t,aj o o,aj p p,aj y y,aj v v] (aH aC (aF (A.seq (CV 19 3 (ah 2)) []) (aA (aO (aZ 14 329))) (aF (A.lt x (ah 1)) (aA (aO (aZ 15 329))) (aF (A.lt (ah 1000) x) (aA (aO (aZ 15 329))) (aF (A.nt (A.ite (A.eq (ah 0) (ah 0)) (A.ite (A.eq (ah 0) (ah 0)) (A.ite (A.eq t (ah 0)) (A.ite (A.eq o (ah 0)) (A.ite (A.eq p (ah 0)) (A.ite (A.eq y (ah 0)) (A.ite (A.eq v (ah 0)) (A.ite (A.eq (ah 0) (ah 0)) aC ak) ak) ak) ak) ak) ak) ak) ak)) (aA (aO (aZ 15 329))) (aA (aO (jC bI))))))))))):=by kernel_rfl
theorem aoZ(A:Prim)(W:Wd)(_k x t o p y v _r:Int):BR (C5 A W AB Am) 3000 101 [.code []] (Aa 75 [.agg [il 3,sy x,sy t,sy o,sy p,sy y,sy v,il 3]] L0)=aS [aj x x,aj t t,aj o o,aj p p,aj y y,aj v v] (aS [aj x x,aj t t,aj o o,aj p p,aj y y,aj v v] (aS [aj x x,aj t t,aj o o,aj p p,aj y y,aj v v] (aS [aj x x,aj t t,aj o o,aj p p,aj y y,aj v v] (aH aC (aF (A.seq (CV 19 3 (ah 3)) []) (aA (aO (aZ 14 329))) (aF (A.lt x (ah 1)) (aA (aO (aZ 15 329))) (aF (A.lt (ah 1000) x) (aA (aO (aZ 15 329))) (aF (A.lt v (fG 999999999)) (aA (aO (aZ 15 329))) (aF (A.lt (ah 1000000000) v) (aA (aO (aZ 15 329))) (aF (A.nt (A.ite (A.eq (ah 0) (ah 0)) (A.ite (A.eq (ah 0) (ah 0)) (A.ite (A.eq t (ah 0)) (A.ite (A.eq o (ah 0)) (A.ite (A.eq p (ah 0)) (A.ite (A.eq y (ah 0)) (A.ite (A.eq (ah 0) (ah 0)) (A.ite (A.eq (ah 0) (ah 0)) aC ak) ak) ak) ak) ak) ak) ak) ak)) (aA (aO (aZ 15 329))) (aA (aO (jC bI))))))))))))):=by kernel_rfl
theorem atY(A:Prim)(W:Wd)(k x t o p y v r:Int):dead (BR (C5 A W AB IX) 3000 101 [.code []] (Aa 75 [.agg [sy k,sy x,sy t,sy o,sy p,sy y,sy v,sy r]] L0))=aS [aj k k,aj x x,aj t t,aj o o,aj p p,aj y y,aj v v,aj r r] (aS [aj k k,aj x x,aj t t,aj o o,aj p p,aj y y,aj v v,aj r r] (aS [aj k k,aj x x,aj t t,aj o o,aj p p,aj y y,aj v v,aj r r] (aS [aj k k,aj x x,aj t t,aj o o,aj p p,aj y y,aj v v,aj r r] (aF (A.eq k (ah 1)) (aF (A.eq k (ah 2)) (aF (A.eq (Dz p) (ah 0)) (aA (aO (aZ 14 329))) (aF (A.eq k (ah 3)) (aH aC (aF (A.seq (CV 19 3 r) []) (aA (aO (aZ 14 329))) dH)) dH)) (aF (A.eq k (ah 3)) (aH aC (aF (A.seq (CV 19 3 r) []) (aA (aO (aZ 14 329))) dH)) dH)) (aF (A.eq k (ah 4)) (aF (A.eq k (ah 2)) (aF (A.eq (Dz p) (ah 0)) (aA (aO (aZ 14 329))) (aF (A.eq k (ah 3)) (aH aC (aF (A.seq (CV 19 3 r) []) (aA (aO (aZ 14 329))) dH)) dH)) (aF (A.eq k (ah 3)) (aH aC (aF (A.seq (CV 19 3 r) []) (aA (aO (aZ 14 329))) dH)) dH)) (aF (A.eq k (ah 5)) (aF (A.eq k (ah 2)) (aF (A.eq (Dz p) (ah 0)) (aA (aO (aZ 14 329))) (aF (A.eq k (ah 3)) (aH aC (aF (A.seq (CV 19 3 r) []) (aA (aO (aZ 14 329))) dH)) dH)) (aF (A.eq k (ah 3)) (aH aC (aF (A.seq (CV 19 3 r) []) (aA (aO (aZ 14 329))) dH)) dH)) (aF (A.eq k (ah 6)) (aF (A.eq k (ah 2)) (aF (A.eq (Dz p) (ah 0)) (aA (aO (aZ 14 329))) (aF (A.eq k (ah 3)) (aH aC (aF (A.seq (CV 19 3 r) []) (aA (aO (aZ 14 329))) dH)) dH)) (aF (A.eq k (ah 3)) (aH aC (aF (A.seq (CV 19 3 r) []) (aA (aO (aZ 14 329))) dH)) dH)) (aF (A.eq k (ah 7)) (aF (A.eq k (ah 2)) (aF (A.eq (Dz p) (ah 0)) (aA (aO (aZ 14 329))) (aF (A.eq k (ah 3)) (aH aC (aF (A.seq (CV 19 3 r) []) (aA (aO (aZ 14 329))) dH)) dH)) (aF (A.eq k (ah 3)) (aH aC (aF (A.seq (CV 19 3 r) []) (aA (aO (aZ 14 329))) dH)) dH)) (aF (A.eq k (ah 2)) (aF (A.eq k (ah 2)) (aF (A.eq (Dz p) (ah 0)) (aA (aO (aZ 14 329))) (aF (A.eq k (ah 3)) (aH aC (aF (A.seq (CV 19 3 r) []) (aA (aO (aZ 14 329))) dH)) dH)) (aF (A.eq k (ah 3)) (aH aC (aF (A.seq (CV 19 3 r) []) (aA (aO (aZ 14 329))) dH)) dH)) (aF (A.eq k (ah 3)) (aF (A.eq k (ah 2)) (aF (A.eq (Dz p) (ah 0)) (aA (aO (aZ 14 329))) (aF (A.eq k (ah 3)) (aH aC (aF (A.seq (CV 19 3 r) []) (aA (aO (aZ 14 329))) dH)) dH)) (aF (A.eq k (ah 3)) (aH aC (aF (A.seq (CV 19 3 r) []) (aA (aO (aZ 14 329))) dH)) dH)) (aA (aO (aZ 14 329))))))))))))):=by kernel_rfl
theorem arv(A:Prim)(W:Wd)(_k x t o p y v r:Int):dead (BR (C5 A W AB IX) 3000 101 [.code []] (Aa 75 [.agg [il 2,sy x,sy t,sy o,sy p,sy y,sy v,sy r]] L0))=aS [aj x x,aj t t,aj o o,aj p p,aj y y,aj v v,aj r r] (aS [aj x x,aj t t,aj o o,aj p p,aj y y,aj v v,aj r r] (aS [aj x x,aj t t,aj o o,aj p p,aj y y,aj v v,aj r r] (aS [aj x x,aj t t,aj o o,aj p p,aj y y,aj v v,aj r r] (aF (A.eq (Dz p) (ah 0)) (aA (aO (aZ 14 329))) dH)))):=by kernel_rfl
theorem arw(A:Prim)(W:Wd)(_k x t o p y v r:Int):dead (BR (C5 A W AB IX) 3000 101 [.code []] (Aa 75 [.agg [il 3,sy x,sy t,sy o,sy p,sy y,sy v,sy r]] L0))=aS [aj x x,aj t t,aj o o,aj p p,aj y y,aj v v,aj r r] (aS [aj x x,aj t t,aj o o,aj p p,aj y y,aj v v,aj r r] (aS [aj x x,aj t t,aj o o,aj p p,aj y y,aj v v,aj r r] (aS [aj x x,aj t t,aj o o,aj p p,aj y y,aj v v,aj r r] (aH aC (aF (A.seq (CV 19 3 r) []) (aA (aO (aZ 14 329))) dH))))):=by kernel_rfl
end Go.Ae
namespace Go.BF
open Go Go.Sx
def Va(e:Ev):Prop:=(1<=e.kind/\e.kind<=7)/\(e.kind=2->1<=e.op/\e.op<=9)/\(e.kind=3->1<=e.ret/\e.ret<=3)
def Ah(e:Ev):Prop:=
 (1<=e.tx/\e.tx<=1000)/\
 ((e.kind=1/\0<=e.thread/\e.thread<=7)\/(e.kind≠1/\e.thread=0))/\
 ((e.kind=2/\0<=e.obj/\e.obj<=7)\/(e.kind≠2/\e.obj=0))/\
 ((e.kind=2/\1<=e.op/\e.op<=9)\/(e.kind≠2/\e.op=0))/\
 ((e.kind=2/\7<=e.op/\0<=e.key/\e.key<=1000)\/(¬(e.kind=2/\7<=e.op)/\e.key=0))/\
 ((((e.kind=2/\(e.op=2\/e.op=3\/e.op=5\/e.op=7))\/(e.kind=3/\e.ret=3))/\-1000000000<=e.val/\e.val<=1000000000)\/(¬((e.kind=2/\(e.op=2\/e.op=3\/e.op=5\/e.op=7))\/(e.kind=3/\e.ret=3))/\e.val=0))/\
 ((e.kind=3/\1<=e.ret/\e.ret<=3)\/(e.kind≠3/\e.ret=0))
instance (e:Ev):Decidable (Va e):=by unfold Va;infer_instance
instance (e:Ev):Decidable (Ah e):=by unfold Ah;infer_instance
end Go.BF
namespace Go.Ae
open Go Go.Sx Go.BF
theorem atZ{H:Mem}{w:World}{φ:Sh->Prop}{x t o p y v r:Int}(hN:Ah ⟨1,x,t,o,p,y,v,r⟩->φ (.v .nilIface))(h9:¬Ah ⟨1,x,t,o,p,y,v,r⟩->φ (.er 15 329)):
  DC (BG aB (C5 zW W5 AB Am) (K0 H w) bP φ) (BR (C5 zW W5 AB Am) 3000 101 [.code []] (Aa 75 [.agg [il 1,sy x,sy t,sy o,sy p,sy y,sy v,sy r]] L0)):=by
 rw[atS zW W5 0 x t o p y v r,<-BM];simp[fP,BG,dG,iJ,Ad,Aq,BQ,DY];repeat' (first|refine bW ?_ ?_|intro _)
 all_goals first|exact h9 (by simp only[Ah];omega) |exact hN (by simp[Ah]<;>omega) |exact hN (by simp_all [Ah])
theorem at1{H:Mem}{w:World}{φ:Sh->Prop}{x t o p y v r:Int}(hN:Ah ⟨4,x,t,o,p,y,v,r⟩->φ (.v .nilIface))(h9:¬Ah ⟨4,x,t,o,p,y,v,r⟩->φ (.er 15 329)):
  DC (BG aB (C5 zW W5 AB Am) (K0 H w) bP φ) (BR (C5 zW W5 AB Am) 3000 101 [.code []] (Aa 75 [.agg [il 4,sy x,sy t,sy o,sy p,sy y,sy v,sy r]] L0)):=by
 rw[atU zW W5 0 x t o p y v r,<-BM];simp[fP,BG,dG,iJ,Ad,Aq,BQ,DY];repeat' (first|refine bW ?_ ?_|intro _)
 all_goals first|exact h9 (by simp only[Ah];omega) |exact hN (by simp[Ah]<;>omega) |exact hN (by simp_all [Ah])
theorem at6{H:Mem}{w:World}{φ:Sh->Prop}{x t o p y v r:Int}(hN:Ah ⟨5,x,t,o,p,y,v,r⟩->φ (.v .nilIface))(h9:¬Ah ⟨5,x,t,o,p,y,v,r⟩->φ (.er 15 329)):
  DC (BG aB (C5 zW W5 AB Am) (K0 H w) bP φ) (BR (C5 zW W5 AB Am) 3000 101 [.code []] (Aa 75 [.agg [il 5,sy x,sy t,sy o,sy p,sy y,sy v,sy r]] L0)):=by
 rw[atV zW W5 0 x t o p y v r,<-BM];simp[fP,BG,dG,iJ,Ad,Aq,BQ,DY];repeat' (first|refine bW ?_ ?_|intro _)
 all_goals first|exact h9 (by simp only[Ah];omega) |exact hN (by simp[Ah]<;>omega) |exact hN (by simp_all [Ah])
theorem at7{H:Mem}{w:World}{φ:Sh->Prop}{x t o p y v r:Int}(hN:Ah ⟨6,x,t,o,p,y,v,r⟩->φ (.v .nilIface))(h9:¬Ah ⟨6,x,t,o,p,y,v,r⟩->φ (.er 15 329)):
  DC (BG aB (C5 zW W5 AB Am) (K0 H w) bP φ) (BR (C5 zW W5 AB Am) 3000 101 [.code []] (Aa 75 [.agg [il 6,sy x,sy t,sy o,sy p,sy y,sy v,sy r]] L0)):=by
 rw[atW zW W5 0 x t o p y v r,<-BM];simp[fP,BG,dG,iJ,Ad,Aq,BQ,DY];repeat' (first|refine bW ?_ ?_|intro _)
 all_goals first|exact h9 (by simp only[Ah];omega) |exact hN (by simp[Ah]<;>omega) |exact hN (by simp_all [Ah])
theorem aua{H:Mem}{w:World}{φ:Sh->Prop}{x t o p y v r:Int}(hN:Ah ⟨7,x,t,o,p,y,v,r⟩->φ (.v .nilIface))(h9:¬Ah ⟨7,x,t,o,p,y,v,r⟩->φ (.er 15 329)):
  DC (BG aB (C5 zW W5 AB Am) (K0 H w) bP φ) (BR (C5 zW W5 AB Am) 3000 101 [.code []] (Aa 75 [.agg [il 7,sy x,sy t,sy o,sy p,sy y,sy v,sy r]] L0)):=by
 rw[atX zW W5 0 x t o p y v r,<-BM];simp[fP,BG,dG,iJ,Ad,Aq,BQ,DY];repeat' (first|refine bW ?_ ?_|intro _)
 all_goals first|exact h9 (by simp only[Ah];omega) |exact hN (by simp[Ah]<;>omega) |exact hN (by simp_all [Ah])
theorem ao0{H:Mem}{w:World}{φ:Sh->Prop}{x t o p y v r:Int}(hN:Ah ⟨2,x,t,o,1,y,v,r⟩->φ (.v .nilIface))(h9:¬Ah ⟨2,x,t,o,1,y,v,r⟩->φ (.er 15 329)):
  DC (BG aB (C5 zW W5 AB Am) (K0 H w) bP φ) (BR (C5 zW W5 AB Am) 3000 101 [.code []] (Aa 75 [.agg [il 2,sy x,sy t,sy o,il 1,sy y,sy v,sy r]] L0)):=by
 rw[aoO zW W5 0 x t o p y v r,<-BM];simp[fP,BG,dG,iJ,Ad,Aq,BQ,DY,Dz];repeat' (first|refine bW ?_ ?_|intro _)
 all_goals first|exact h9 (by simp only[Ah];omega) |exact hN (by simp[Ah]<;>omega) |exact hN (by simp_all [Ah])
theorem ao1{H:Mem}{w:World}{φ:Sh->Prop}{x t o p y v r:Int}(hN:Ah ⟨2,x,t,o,2,y,v,r⟩->φ (.v .nilIface))(h9:¬Ah ⟨2,x,t,o,2,y,v,r⟩->φ (.er 15 329)):
  DC (BG aB (C5 zW W5 AB Am) (K0 H w) bP φ) (BR (C5 zW W5 AB Am) 3000 101 [.code []] (Aa 75 [.agg [il 2,sy x,sy t,sy o,il 2,sy y,sy v,sy r]] L0)):=by
 rw[aoP zW W5 0 x t o p y v r,<-BM];simp[fP,BG,dG,iJ,Ad,Aq,BQ,DY,Dz];repeat' (first|refine bW ?_ ?_|intro _)
 all_goals first|exact h9 (by simp only[Ah];omega) |exact hN (by simp[Ah]<;>omega) |exact hN (by simp_all [Ah])
theorem ao2{H:Mem}{w:World}{φ:Sh->Prop}{x t o p y v r:Int}(hN:Ah ⟨2,x,t,o,3,y,v,r⟩->φ (.v .nilIface))(h9:¬Ah ⟨2,x,t,o,3,y,v,r⟩->φ (.er 15 329)):
  DC (BG aB (C5 zW W5 AB Am) (K0 H w) bP φ) (BR (C5 zW W5 AB Am) 3000 101 [.code []] (Aa 75 [.agg [il 2,sy x,sy t,sy o,il 3,sy y,sy v,sy r]] L0)):=by
 rw[aoQ zW W5 0 x t o p y v r,<-BM];simp[fP,BG,dG,iJ,Ad,Aq,BQ,DY,Dz];repeat' (first|refine bW ?_ ?_|intro _)
 all_goals first|exact h9 (by simp only[Ah];omega) |exact hN (by simp[Ah]<;>omega) |exact hN (by simp_all [Ah])
theorem ao3{H:Mem}{w:World}{φ:Sh->Prop}{x t o p y v r:Int}(hN:Ah ⟨2,x,t,o,4,y,v,r⟩->φ (.v .nilIface))(h9:¬Ah ⟨2,x,t,o,4,y,v,r⟩->φ (.er 15 329)):
  DC (BG aB (C5 zW W5 AB Am) (K0 H w) bP φ) (BR (C5 zW W5 AB Am) 3000 101 [.code []] (Aa 75 [.agg [il 2,sy x,sy t,sy o,il 4,sy y,sy v,sy r]] L0)):=by
 rw[aoR zW W5 0 x t o p y v r,<-BM];simp[fP,BG,dG,iJ,Ad,Aq,BQ,DY,Dz];repeat' (first|refine bW ?_ ?_|intro _)
 all_goals first|exact h9 (by simp only[Ah];omega) |exact hN (by simp[Ah]<;>omega) |exact hN (by simp_all [Ah])
theorem ao4{H:Mem}{w:World}{φ:Sh->Prop}{x t o p y v r:Int}(hN:Ah ⟨2,x,t,o,5,y,v,r⟩->φ (.v .nilIface))(h9:¬Ah ⟨2,x,t,o,5,y,v,r⟩->φ (.er 15 329)):
  DC (BG aB (C5 zW W5 AB Am) (K0 H w) bP φ) (BR (C5 zW W5 AB Am) 3000 101 [.code []] (Aa 75 [.agg [il 2,sy x,sy t,sy o,il 5,sy y,sy v,sy r]] L0)):=by
 rw[aoS zW W5 0 x t o p y v r,<-BM];simp[fP,BG,dG,iJ,Ad,Aq,BQ,DY,Dz];repeat' (first|refine bW ?_ ?_|intro _)
 all_goals first|exact h9 (by simp only[Ah];omega) |exact hN (by simp[Ah]<;>omega) |exact hN (by simp_all [Ah])
theorem ao5{H:Mem}{w:World}{φ:Sh->Prop}{x t o p y v r:Int}(hN:Ah ⟨2,x,t,o,6,y,v,r⟩->φ (.v .nilIface))(h9:¬Ah ⟨2,x,t,o,6,y,v,r⟩->φ (.er 15 329)):
  DC (BG aB (C5 zW W5 AB Am) (K0 H w) bP φ) (BR (C5 zW W5 AB Am) 3000 101 [.code []] (Aa 75 [.agg [il 2,sy x,sy t,sy o,il 6,sy y,sy v,sy r]] L0)):=by
 rw[aoT zW W5 0 x t o p y v r,<-BM];simp[fP,BG,dG,iJ,Ad,Aq,BQ,DY,Dz];repeat' (first|refine bW ?_ ?_|intro _)
 all_goals first|exact h9 (by simp only[Ah];omega) |exact hN (by simp[Ah]<;>omega) |exact hN (by simp_all [Ah])
theorem ao6{H:Mem}{w:World}{φ:Sh->Prop}{x t o p y v r:Int}(hN:Ah ⟨2,x,t,o,7,y,v,r⟩->φ (.v .nilIface))(h9:¬Ah ⟨2,x,t,o,7,y,v,r⟩->φ (.er 15 329)):
  DC (BG aB (C5 zW W5 AB Am) (K0 H w) bP φ) (BR (C5 zW W5 AB Am) 3000 101 [.code []] (Aa 75 [.agg [il 2,sy x,sy t,sy o,il 7,sy y,sy v,sy r]] L0)):=by
 rw[aoU zW W5 0 x t o p y v r,<-BM];simp[fP,BG,dG,iJ,Ad,Aq,BQ,DY,Dz];repeat' (first|refine bW ?_ ?_|intro _)
 all_goals first|exact h9 (by simp only[Ah];omega) |exact hN (by simp[Ah]<;>omega) |exact hN (by simp_all [Ah])
theorem ao7{H:Mem}{w:World}{φ:Sh->Prop}{x t o p y v r:Int}(hN:Ah ⟨2,x,t,o,8,y,v,r⟩->φ (.v .nilIface))(h9:¬Ah ⟨2,x,t,o,8,y,v,r⟩->φ (.er 15 329)):
  DC (BG aB (C5 zW W5 AB Am) (K0 H w) bP φ) (BR (C5 zW W5 AB Am) 3000 101 [.code []] (Aa 75 [.agg [il 2,sy x,sy t,sy o,il 8,sy y,sy v,sy r]] L0)):=by
 rw[aoV zW W5 0 x t o p y v r,<-BM];simp[fP,BG,dG,iJ,Ad,Aq,BQ,DY,Dz];repeat' (first|refine bW ?_ ?_|intro _)
 all_goals first|exact h9 (by simp only[Ah];omega) |exact hN (by simp[Ah]<;>omega) |exact hN (by simp_all [Ah])
theorem ao8{H:Mem}{w:World}{φ:Sh->Prop}{x t o p y v r:Int}(hN:Ah ⟨2,x,t,o,9,y,v,r⟩->φ (.v .nilIface))(h9:¬Ah ⟨2,x,t,o,9,y,v,r⟩->φ (.er 15 329)):
  DC (BG aB (C5 zW W5 AB Am) (K0 H w) bP φ) (BR (C5 zW W5 AB Am) 3000 101 [.code []] (Aa 75 [.agg [il 2,sy x,sy t,sy o,il 9,sy y,sy v,sy r]] L0)):=by
 rw[aoW zW W5 0 x t o p y v r,<-BM];simp[fP,BG,dG,iJ,Ad,Aq,BQ,DY,Dz];repeat' (first|refine bW ?_ ?_|intro _)
 all_goals first|exact h9 (by simp only[Ah];omega) |exact hN (by simp[Ah]<;>omega) |exact hN (by simp_all [Ah])
theorem ao9{H:Mem}{w:World}{φ:Sh->Prop}{x t o p y v r:Int}(hN:Ah ⟨3,x,t,o,p,y,v,1⟩->φ (.v .nilIface))(h9:¬Ah ⟨3,x,t,o,p,y,v,1⟩->φ (.er 15 329)):
  DC (BG aB (C5 zW W5 AB Am) (K0 H w) bP φ) (BR (C5 zW W5 AB Am) 3000 101 [.code []] (Aa 75 [.agg [il 3,sy x,sy t,sy o,sy p,sy y,sy v,il 1]] L0)):=by
 rw[aoX zW W5 0 x t o p y v r,<-BM];simp[fP,BG,dG,iJ,Ad,Aq,BQ,DY,Pm akE,Yo,idx,iT];repeat' (first|refine bW ?_ ?_|intro _)
 all_goals first|exact h9 (by simp only[Ah];omega) |exact hN (by simp[Ah]<;>omega) |exact hN (by simp_all [Ah])
theorem apa{H:Mem}{w:World}{φ:Sh->Prop}{x t o p y v r:Int}(hN:Ah ⟨3,x,t,o,p,y,v,2⟩->φ (.v .nilIface))(h9:¬Ah ⟨3,x,t,o,p,y,v,2⟩->φ (.er 15 329)):
  DC (BG aB (C5 zW W5 AB Am) (K0 H w) bP φ) (BR (C5 zW W5 AB Am) 3000 101 [.code []] (Aa 75 [.agg [il 3,sy x,sy t,sy o,sy p,sy y,sy v,il 2]] L0)):=by
 rw[aoY zW W5 0 x t o p y v r,<-BM];simp[fP,BG,dG,iJ,Ad,Aq,BQ,DY,Pm akE,Yo,idx,iT];repeat' (first|refine bW ?_ ?_|intro _)
 all_goals first|exact h9 (by simp only[Ah];omega) |exact hN (by simp[Ah]<;>omega) |exact hN (by simp_all [Ah])
theorem apb{H:Mem}{w:World}{φ:Sh->Prop}{x t o p y v r:Int}(hN:Ah ⟨3,x,t,o,p,y,v,3⟩->φ (.v .nilIface))(h9:¬Ah ⟨3,x,t,o,p,y,v,3⟩->φ (.er 15 329)):
  DC (BG aB (C5 zW W5 AB Am) (K0 H w) bP φ) (BR (C5 zW W5 AB Am) 3000 101 [.code []] (Aa 75 [.agg [il 3,sy x,sy t,sy o,sy p,sy y,sy v,il 3]] L0)):=by
 rw[aoZ zW W5 0 x t o p y v r,<-BM];simp[fP,BG,dG,iJ,Ad,Aq,BQ,DY,Pm akE,Yo,idx,iT];repeat' (first|refine bW ?_ ?_|intro _)
 all_goals first|exact h9 (by simp only[Ah];omega) |exact hN (by simp[Ah]<;>omega) |exact hN (by simp_all [Ah])
end Go.Ae
namespace Go.BF
open Go Go.Sx
def OC(e:Ev):Bool:=decide (Va e)
def fieldsB(e:Ev):Bool:=decide (Ah e)
def CQ(n:Int):Bool:=decide (-9223372036854775808<=n/\n<=9223372036854775807)
def abQ:List Sh->Option Ev
 |[a,b,c,d,e,f,g,h]=>match AY a with
  |none=>aK |some a=>match AY b with
   |none=>aK |some b=>match AY c with
    |none=>aK |some c=>match AY d with
     |none=>aK |some d=>match AY e with
      |none=>aK |some e=>match AY f with
       |none=>aK |some f=>match AY g with
        |none=>aK |some g=>match AY h with
         |none=>aK |some h=>ay ⟨a,b,c,d,e,f,g,h⟩
 |_=>aK
theorem Ci{H:Mem}{l l':List Sh}{v:Value}(hv:Rep H (.agg l) v)(hl:l'.length=l.length)(h:∀(j:Nat) (s s':Sh),l[j]?=ay s->l'[j]?=ay s'->∀u,Rep H s u->Rep H s' u):Rep H (.agg l') v:=by
 cases hv with
 |agg _ vs h3 h4=>
  refine .agg _ vs (by rw[hl];exact h3) fun j s' v' e1 e2=>?_
  have hj:j<l.length:=by
   rw[<-hl];exact (List.getElem?_eq_some_iff.1 e1).1
  exact h j l[j] s' (aV hj) e1 _ (h4 j l[j] v' (aV hj) e2)
theorem aho{H:Mem}{l:List Sh}{e:Ev}{v:Value}(h:abQ l=ay e)(hv:Rep H (.agg l) v):Rep H (.agg (EK e)) v:=by
 unfold abQ at h;repeat' split at h
 all_goals first|cases h;done|skip
 rename_i h1 _ _ h2 _ _ h3 _ _ h4 _ _ h5 _ _ h6 _ _ h7 _ _ h8;cases h;refine Ci hv rfl fun j s s' e1 e2 u hu=>?_
 match j,e1,e2 with
 |0,e1,e2=>simp[EK] at e1 e2;subst e1 e2;exact Ej h1 hu |1,e1,e2=>simp[EK] at e1 e2;subst e1 e2;exact Ej h2 hu |2,e1,e2=>simp[EK] at e1 e2;subst e1 e2;exact Ej h3 hu |3,e1,e2=>simp[EK] at e1 e2;subst e1 e2;exact Ej h4 hu |4,e1,e2=>simp[EK] at e1 e2;subst e1 e2;exact Ej h5 hu |5,e1,e2=>simp[EK] at e1 e2;subst e1 e2;exact Ej h6 hu |6,e1,e2=>simp[EK] at e1 e2;subst e1 e2;exact Ej h7 hu |7,e1,e2=>simp[EK] at e1 e2;subst e1 e2;exact Ej h8 hu |j+8,e1,e2=>simp[EK] at e2
theorem Ey{H:Mem}{c:Int}{u:Value}(h:Rep H (.i .i64 c) u):Rep H (.v (.int .i64 c)) u:=by
 cases h;exact .v _ rfl
end Go.BF
namespace Go.Ae
open Go Go.Sx Go.BF
def apc:List Sh->Tree Sh
 |[.agg l]=>match abQ l with
  |some e=>.need (OC e) (.node (fieldsB e) (.leaf (.v .nilIface)) (.leaf (.er 15 329))) |none=>.fail
 |_=>.fail
def apd:List Sh->Tree Sh
 |[.agg l]=>match abQ l with
  |some e=>.need (CQ e.ret) (.need (!OC e) (.leaf (.er 14 329))) |none=>.fail
 |_=>.fail
def F56:List Sh->Tree Sh
 |[.agg l]=>match abQ l with
  |some e=>.need (CQ e.ret) (.node (OC e) (.node (fieldsB e) (.leaf (.v .nilIface)) (.leaf (.er 15 329))) (.leaf (.er 14 329))) |none=>.fail
 |_=>.fail
theorem aub{H:Mem}{x t o p y v r:Int}{u:Value}(h:Rep H (.agg (EK ⟨1,x,t,o,p,y,v,r⟩)) u):Rep H (.agg [il 1,sy x,sy t,sy o,sy p,sy y,sy v,sy r]) u:=by
 refine Ci h rfl fun j s s' e1 e2 u hu=>?_
 match j,e1,e2 with
 |0,e1,e2|1,e1,e2|2,e1,e2|3,e1,e2|4,e1,e2|5,e1,e2|6,e1,e2|7,e1,e2=>simp[EK] at e1 e2;subst e1 e2;first|exact hu|exact Ey hu
 |j+8,e1,e2=>simp at e2
theorem auc{H:Mem}{x t o p y v r:Int}{u:Value}(h:Rep H (.agg (EK ⟨4,x,t,o,p,y,v,r⟩)) u):Rep H (.agg [il 4,sy x,sy t,sy o,sy p,sy y,sy v,sy r]) u:=by
 refine Ci h rfl fun j s s' e1 e2 u hu=>?_
 match j,e1,e2 with
 |0,e1,e2|1,e1,e2|2,e1,e2|3,e1,e2|4,e1,e2|5,e1,e2|6,e1,e2|7,e1,e2=>simp[EK] at e1 e2;subst e1 e2;first|exact hu|exact Ey hu
 |j+8,e1,e2=>simp at e2
theorem aud{H:Mem}{x t o p y v r:Int}{u:Value}(h:Rep H (.agg (EK ⟨5,x,t,o,p,y,v,r⟩)) u):Rep H (.agg [il 5,sy x,sy t,sy o,sy p,sy y,sy v,sy r]) u:=by
 refine Ci h rfl fun j s s' e1 e2 u hu=>?_
 match j,e1,e2 with
 |0,e1,e2|1,e1,e2|2,e1,e2|3,e1,e2|4,e1,e2|5,e1,e2|6,e1,e2|7,e1,e2=>simp[EK] at e1 e2;subst e1 e2;first|exact hu|exact Ey hu
 |j+8,e1,e2=>simp at e2
theorem aue{H:Mem}{x t o p y v r:Int}{u:Value}(h:Rep H (.agg (EK ⟨6,x,t,o,p,y,v,r⟩)) u):Rep H (.agg [il 6,sy x,sy t,sy o,sy p,sy y,sy v,sy r]) u:=by
 refine Ci h rfl fun j s s' e1 e2 u hu=>?_
 match j,e1,e2 with
 |0,e1,e2|1,e1,e2|2,e1,e2|3,e1,e2|4,e1,e2|5,e1,e2|6,e1,e2|7,e1,e2=>simp[EK] at e1 e2;subst e1 e2;first|exact hu|exact Ey hu
 |j+8,e1,e2=>simp at e2
theorem auf{H:Mem}{x t o p y v r:Int}{u:Value}(h:Rep H (.agg (EK ⟨7,x,t,o,p,y,v,r⟩)) u):Rep H (.agg [il 7,sy x,sy t,sy o,sy p,sy y,sy v,sy r]) u:=by
 refine Ci h rfl fun j s s' e1 e2 u hu=>?_
 match j,e1,e2 with
 |0,e1,e2|1,e1,e2|2,e1,e2|3,e1,e2|4,e1,e2|5,e1,e2|6,e1,e2|7,e1,e2=>simp[EK] at e1 e2;subst e1 e2;first|exact hu|exact Ey hu
 |j+8,e1,e2=>simp at e2
theorem ape{H:Mem}{x t o p y v r:Int}{u:Value}(h:Rep H (.agg (EK ⟨2,x,t,o,1,y,v,r⟩)) u):Rep H (.agg [il 2,sy x,sy t,sy o,il 1,sy y,sy v,sy r]) u:=by
 refine Ci h rfl fun j s s' e1 e2 u hu=>?_
 match j,e1,e2 with
 |0,e1,e2|1,e1,e2|2,e1,e2|3,e1,e2|4,e1,e2|5,e1,e2|6,e1,e2|7,e1,e2=>simp[EK] at e1 e2;subst e1 e2;first|exact hu|exact Ey hu
 |j+8,e1,e2=>simp at e2
theorem apf{H:Mem}{x t o p y v r:Int}{u:Value}(h:Rep H (.agg (EK ⟨2,x,t,o,2,y,v,r⟩)) u):Rep H (.agg [il 2,sy x,sy t,sy o,il 2,sy y,sy v,sy r]) u:=by
 refine Ci h rfl fun j s s' e1 e2 u hu=>?_
 match j,e1,e2 with
 |0,e1,e2|1,e1,e2|2,e1,e2|3,e1,e2|4,e1,e2|5,e1,e2|6,e1,e2|7,e1,e2=>simp[EK] at e1 e2;subst e1 e2;first|exact hu|exact Ey hu
 |j+8,e1,e2=>simp at e2
theorem apg{H:Mem}{x t o p y v r:Int}{u:Value}(h:Rep H (.agg (EK ⟨2,x,t,o,3,y,v,r⟩)) u):Rep H (.agg [il 2,sy x,sy t,sy o,il 3,sy y,sy v,sy r]) u:=by
 refine Ci h rfl fun j s s' e1 e2 u hu=>?_
 match j,e1,e2 with
 |0,e1,e2|1,e1,e2|2,e1,e2|3,e1,e2|4,e1,e2|5,e1,e2|6,e1,e2|7,e1,e2=>simp[EK] at e1 e2;subst e1 e2;first|exact hu|exact Ey hu
 |j+8,e1,e2=>simp at e2
theorem aph{H:Mem}{x t o p y v r:Int}{u:Value}(h:Rep H (.agg (EK ⟨2,x,t,o,4,y,v,r⟩)) u):Rep H (.agg [il 2,sy x,sy t,sy o,il 4,sy y,sy v,sy r]) u:=by
 refine Ci h rfl fun j s s' e1 e2 u hu=>?_
 match j,e1,e2 with
 |0,e1,e2|1,e1,e2|2,e1,e2|3,e1,e2|4,e1,e2|5,e1,e2|6,e1,e2|7,e1,e2=>simp[EK] at e1 e2;subst e1 e2;first|exact hu|exact Ey hu
 |j+8,e1,e2=>simp at e2
theorem apj{H:Mem}{x t o p y v r:Int}{u:Value}(h:Rep H (.agg (EK ⟨2,x,t,o,5,y,v,r⟩)) u):Rep H (.agg [il 2,sy x,sy t,sy o,il 5,sy y,sy v,sy r]) u:=by
 refine Ci h rfl fun j s s' e1 e2 u hu=>?_
 match j,e1,e2 with
 |0,e1,e2|1,e1,e2|2,e1,e2|3,e1,e2|4,e1,e2|5,e1,e2|6,e1,e2|7,e1,e2=>simp[EK] at e1 e2;subst e1 e2;first|exact hu|exact Ey hu
 |j+8,e1,e2=>simp at e2
theorem apk{H:Mem}{x t o p y v r:Int}{u:Value}(h:Rep H (.agg (EK ⟨2,x,t,o,6,y,v,r⟩)) u):Rep H (.agg [il 2,sy x,sy t,sy o,il 6,sy y,sy v,sy r]) u:=by
 refine Ci h rfl fun j s s' e1 e2 u hu=>?_
 match j,e1,e2 with
 |0,e1,e2|1,e1,e2|2,e1,e2|3,e1,e2|4,e1,e2|5,e1,e2|6,e1,e2|7,e1,e2=>simp[EK] at e1 e2;subst e1 e2;first|exact hu|exact Ey hu
 |j+8,e1,e2=>simp at e2
theorem apl{H:Mem}{x t o p y v r:Int}{u:Value}(h:Rep H (.agg (EK ⟨2,x,t,o,7,y,v,r⟩)) u):Rep H (.agg [il 2,sy x,sy t,sy o,il 7,sy y,sy v,sy r]) u:=by
 refine Ci h rfl fun j s s' e1 e2 u hu=>?_
 match j,e1,e2 with
 |0,e1,e2|1,e1,e2|2,e1,e2|3,e1,e2|4,e1,e2|5,e1,e2|6,e1,e2|7,e1,e2=>simp[EK] at e1 e2;subst e1 e2;first|exact hu|exact Ey hu
 |j+8,e1,e2=>simp at e2
theorem apm{H:Mem}{x t o p y v r:Int}{u:Value}(h:Rep H (.agg (EK ⟨2,x,t,o,8,y,v,r⟩)) u):Rep H (.agg [il 2,sy x,sy t,sy o,il 8,sy y,sy v,sy r]) u:=by
 refine Ci h rfl fun j s s' e1 e2 u hu=>?_
 match j,e1,e2 with
 |0,e1,e2|1,e1,e2|2,e1,e2|3,e1,e2|4,e1,e2|5,e1,e2|6,e1,e2|7,e1,e2=>simp[EK] at e1 e2;subst e1 e2;first|exact hu|exact Ey hu
 |j+8,e1,e2=>simp at e2
theorem apn{H:Mem}{x t o p y v r:Int}{u:Value}(h:Rep H (.agg (EK ⟨2,x,t,o,9,y,v,r⟩)) u):Rep H (.agg [il 2,sy x,sy t,sy o,il 9,sy y,sy v,sy r]) u:=by
 refine Ci h rfl fun j s s' e1 e2 u hu=>?_
 match j,e1,e2 with
 |0,e1,e2|1,e1,e2|2,e1,e2|3,e1,e2|4,e1,e2|5,e1,e2|6,e1,e2|7,e1,e2=>simp[EK] at e1 e2;subst e1 e2;first|exact hu|exact Ey hu
 |j+8,e1,e2=>simp at e2
theorem apo{H:Mem}{x t o p y v r:Int}{u:Value}(h:Rep H (.agg (EK ⟨3,x,t,o,p,y,v,1⟩)) u):Rep H (.agg [il 3,sy x,sy t,sy o,sy p,sy y,sy v,il 1]) u:=by
 refine Ci h rfl fun j s s' e1 e2 u hu=>?_
 match j,e1,e2 with
 |0,e1,e2|1,e1,e2|2,e1,e2|3,e1,e2|4,e1,e2|5,e1,e2|6,e1,e2|7,e1,e2=>simp[EK] at e1 e2;subst e1 e2;first|exact hu|exact Ey hu
 |j+8,e1,e2=>simp at e2
theorem apq{H:Mem}{x t o p y v r:Int}{u:Value}(h:Rep H (.agg (EK ⟨3,x,t,o,p,y,v,2⟩)) u):Rep H (.agg [il 3,sy x,sy t,sy o,sy p,sy y,sy v,il 2]) u:=by
 refine Ci h rfl fun j s s' e1 e2 u hu=>?_
 match j,e1,e2 with
 |0,e1,e2|1,e1,e2|2,e1,e2|3,e1,e2|4,e1,e2|5,e1,e2|6,e1,e2|7,e1,e2=>simp[EK] at e1 e2;subst e1 e2;first|exact hu|exact Ey hu
 |j+8,e1,e2=>simp at e2
theorem apr{H:Mem}{x t o p y v r:Int}{u:Value}(h:Rep H (.agg (EK ⟨3,x,t,o,p,y,v,3⟩)) u):Rep H (.agg [il 3,sy x,sy t,sy o,sy p,sy y,sy v,il 3]) u:=by
 refine Ci h rfl fun j s s' e1 e2 u hu=>?_
 match j,e1,e2 with
 |0,e1,e2|1,e1,e2|2,e1,e2|3,e1,e2|4,e1,e2|5,e1,e2|6,e1,e2|7,e1,e2=>simp[EK] at e1 e2;subst e1 e2;first|exact hu|exact Ey hu
 |j+8,e1,e2=>simp at e2
theorem codes{P:Ev->Prop}{e:Ev}(hc:Va e)
  (h_1:∀x t o p y v r:Int,P ⟨1,x,t,o,p,y,v,r⟩)
  (h_4:∀x t o p y v r:Int,P ⟨4,x,t,o,p,y,v,r⟩)
  (h_5:∀x t o p y v r:Int,P ⟨5,x,t,o,p,y,v,r⟩)
  (h_6:∀x t o p y v r:Int,P ⟨6,x,t,o,p,y,v,r⟩)
  (h_7:∀x t o p y v r:Int,P ⟨7,x,t,o,p,y,v,r⟩)
  (aug:∀x t o p y v r:Int,P ⟨2,x,t,o,1,y,v,r⟩)
  (auh:∀x t o p y v r:Int,P ⟨2,x,t,o,2,y,v,r⟩)
  (aui:∀x t o p y v r:Int,P ⟨2,x,t,o,3,y,v,r⟩)
  (auj:∀x t o p y v r:Int,P ⟨2,x,t,o,4,y,v,r⟩)
  (auk:∀x t o p y v r:Int,P ⟨2,x,t,o,5,y,v,r⟩)
  (aul:∀x t o p y v r:Int,P ⟨2,x,t,o,6,y,v,r⟩)
  (aum:∀x t o p y v r:Int,P ⟨2,x,t,o,7,y,v,r⟩)
  (aun:∀x t o p y v r:Int,P ⟨2,x,t,o,8,y,v,r⟩)
  (auo:∀x t o p y v r:Int,P ⟨2,x,t,o,9,y,v,r⟩)
  (aup:∀x t o p y v r:Int,P ⟨3,x,t,o,p,y,v,1⟩)
  (auq:∀x t o p y v r:Int,P ⟨3,x,t,o,p,y,v,2⟩)
  (aur:∀x t o p y v r:Int,P ⟨3,x,t,o,p,y,v,3⟩)
  : P e:=by
 obtain ⟨k,x,t,o,p,y,v,r⟩:=e;obtain ⟨h1,h2,h3⟩:=hc;simp only at h1 h2 h3;have hk:k=1\/k=2\/k=3\/k=4\/k=5\/k=6\/k=7:=by omega
 rcases hk with rfl|rfl|rfl|rfl|rfl|rfl|rfl
 ·exact h_1 x t o p y v r
 ·have h2:=h2 rfl
  have hp:p=1\/p=2\/p=3\/p=4\/p=5\/p=6\/p=7\/p=8\/p=9:=by omega
  rcases hp with rfl|rfl|rfl|rfl|rfl|rfl|rfl|rfl|rfl
  ·exact aug x t o 0 y v r
  ·exact auh x t o 0 y v r
  ·exact aui x t o 0 y v r
  ·exact auj x t o 0 y v r
  ·exact auk x t o 0 y v r
  ·exact aul x t o 0 y v r
  ·exact aum x t o 0 y v r
  ·exact aun x t o 0 y v r
  ·exact auo x t o 0 y v r
 ·have h3:=h3 rfl
  have hr:r=1\/r=2\/r=3:=by omega
  rcases hr with rfl|rfl|rfl
  ·exact aup x t o p y v 0
  ·exact auq x t o p y v 0
  ·exact aur x t o p y v 0
 ·exact h_4 x t o p y v r
 ·exact h_5 x t o p y v r
 ·exact h_6 x t o p y v r
 ·exact h_7 x t o p y v r
theorem aus{H:Mem}{w:World}{φ:Sh->Prop}{u:Value}{e:Ev}(hc:Va e):Rep H (.agg (EK e)) u->(Ah e->φ (.v .nilIface))->(¬Ah e->φ (.er 15 329))->
  ∃A8:List Sh,Dw H A8 [u]/\DC (BG aB (C5 zW W5 AB Am) (K0 H w) bP φ) (BR (C5 zW W5 AB Am) 3000 101 [.code []] (Aa 75 A8 L0)):=by
 refine codes (P:=fun e=>Rep H (.agg (EK e)) u->(Ah e->φ (.v .nilIface))->(¬Ah e->φ (.er 15 329))->
  ∃A8:List Sh,Dw H A8 [u]/\DC (BG aB (C5 zW W5 AB Am) (K0 H w) bP φ) (BR (C5 zW W5 AB Am) 3000 101 [.code []] (Aa 75 A8 L0))) hc ?_ ?_ ?_ ?_ ?_ ?_ ?_ ?_ ?_ ?_ ?_ ?_ ?_ ?_ ?_ ?_ ?_
 ·exact fun x t o p y v r hr hN h9=>⟨[.agg [il 1,sy x,sy t,sy o,sy p,sy y,sy v,sy r]],⟨aub (p:=p) (r:=r) hr,trivial⟩,atZ (p:=p) (r:=r) hN h9⟩
 ·exact fun x t o p y v r hr hN h9=>⟨[.agg [il 4,sy x,sy t,sy o,sy p,sy y,sy v,sy r]],⟨auc (p:=p) (r:=r) hr,trivial⟩,at1 (p:=p) (r:=r) hN h9⟩
 ·exact fun x t o p y v r hr hN h9=>⟨[.agg [il 5,sy x,sy t,sy o,sy p,sy y,sy v,sy r]],⟨aud (p:=p) (r:=r) hr,trivial⟩,at6 (p:=p) (r:=r) hN h9⟩
 ·exact fun x t o p y v r hr hN h9=>⟨[.agg [il 6,sy x,sy t,sy o,sy p,sy y,sy v,sy r]],⟨aue (p:=p) (r:=r) hr,trivial⟩,at7 (p:=p) (r:=r) hN h9⟩
 ·exact fun x t o p y v r hr hN h9=>⟨[.agg [il 7,sy x,sy t,sy o,sy p,sy y,sy v,sy r]],⟨auf (p:=p) (r:=r) hr,trivial⟩,aua (p:=p) (r:=r) hN h9⟩
 ·exact fun x t o p y v r hr hN h9=>⟨[.agg [il 2,sy x,sy t,sy o,il 1,sy y,sy v,sy r]],⟨ape (p:=p) (r:=r) hr,trivial⟩,ao0 (p:=p) (r:=r) hN h9⟩
 ·exact fun x t o p y v r hr hN h9=>⟨[.agg [il 2,sy x,sy t,sy o,il 2,sy y,sy v,sy r]],⟨apf (p:=p) (r:=r) hr,trivial⟩,ao1 (p:=p) (r:=r) hN h9⟩
 ·exact fun x t o p y v r hr hN h9=>⟨[.agg [il 2,sy x,sy t,sy o,il 3,sy y,sy v,sy r]],⟨apg (p:=p) (r:=r) hr,trivial⟩,ao2 (p:=p) (r:=r) hN h9⟩
 ·exact fun x t o p y v r hr hN h9=>⟨[.agg [il 2,sy x,sy t,sy o,il 4,sy y,sy v,sy r]],⟨aph (p:=p) (r:=r) hr,trivial⟩,ao3 (p:=p) (r:=r) hN h9⟩
 ·exact fun x t o p y v r hr hN h9=>⟨[.agg [il 2,sy x,sy t,sy o,il 5,sy y,sy v,sy r]],⟨apj (p:=p) (r:=r) hr,trivial⟩,ao4 (p:=p) (r:=r) hN h9⟩
 ·exact fun x t o p y v r hr hN h9=>⟨[.agg [il 2,sy x,sy t,sy o,il 6,sy y,sy v,sy r]],⟨apk (p:=p) (r:=r) hr,trivial⟩,ao5 (p:=p) (r:=r) hN h9⟩
 ·exact fun x t o p y v r hr hN h9=>⟨[.agg [il 2,sy x,sy t,sy o,il 7,sy y,sy v,sy r]],⟨apl (p:=p) (r:=r) hr,trivial⟩,ao6 (p:=p) (r:=r) hN h9⟩
 ·exact fun x t o p y v r hr hN h9=>⟨[.agg [il 2,sy x,sy t,sy o,il 8,sy y,sy v,sy r]],⟨apm (p:=p) (r:=r) hr,trivial⟩,ao7 (p:=p) (r:=r) hN h9⟩
 ·exact fun x t o p y v r hr hN h9=>⟨[.agg [il 2,sy x,sy t,sy o,il 9,sy y,sy v,sy r]],⟨apn (p:=p) (r:=r) hr,trivial⟩,ao8 (p:=p) (r:=r) hN h9⟩
 ·exact fun x t o p y v r hr hN h9=>⟨[.agg [il 3,sy x,sy t,sy o,sy p,sy y,sy v,il 1]],⟨apo (p:=p) (r:=r) hr,trivial⟩,ao9 (p:=p) (r:=r) hN h9⟩
 ·exact fun x t o p y v r hr hN h9=>⟨[.agg [il 3,sy x,sy t,sy o,sy p,sy y,sy v,il 2]],⟨apq (p:=p) (r:=r) hr,trivial⟩,apa (p:=p) (r:=r) hN h9⟩
 ·exact fun x t o p y v r hr hN h9=>⟨[.agg [il 3,sy x,sy t,sy o,sy p,sy y,sy v,il 3]],⟨apr (p:=p) (r:=r) hr,trivial⟩,apb (p:=p) (r:=r) hN h9⟩
theorem awj:Ar aB (Fv W5) 101 apc:=by
 refine Hy (C:=C5 zW W5 AB Am) (jU _ _) (afb _) (n:=3000) (L:=L0) (fn:=bP) (by kernel_rfl) (by kernel_rfl) fun H w A8 args φ hrep h=>?_
 have hn:bP.ntmps=75:=by kernel_rfl
 unfold apc at h;split at h
 ·rename_i l
  split at h
  ·rename_i e he
   obtain ⟨h1,h2,h3⟩:=h;match args,hrep with
   |[u],⟨hu,_⟩=>
    rw[hn];simp only[BM];exact aus (of_decide_eq_true h1) (aho he hu) (fun q=>h2 (decide_eq_true q)) (fun q=>h3 (decide_eq_false q))
  ·exact h.elim
 ·exact h.elim
end Go.Ae
namespace Go.BF
open Go Go.Sx
theorem arx{p:Int}(h:¬(1<=p/\p<=9)):Dz p=0:=by
 have e:∀i:Int,1<=i->i<=9->(p==i)=ak:=fun i h1 h2=>by
  cases hb:p==i with
  |false=>rfl |true=>have:=eq_of_beq hb;omega
 unfold Dz;rw[e 1 (by omega) (by omega),e 2 (by omega) (by omega),e 3 (by omega) (by omega),e 4 (by omega) (by omega),e 5 (by omega) (by omega),e 6 (by omega) (by omega),e 7 (by omega) (by omega),e 8 (by omega) (by omega),e 9 (by omega) (by omega)];rfl
theorem aps{m:Nat}{c:Int}(h:CQ c=aC)(hm:¬(1<=c/\c<=(m:Int))):Yo m c=ak:=by
 have h:=of_decide_eq_true h;unfold Yo idx;apply decide_eq_false;intro ⟨h1,h2⟩;split at h1
 ·rw[BL (by omega) (by omega)] at h1;omega
 ·rename_i hc
  simp only[hc,if_false] at h2;rw[BL (by omega) (by omega)] at h1 h2;omega
end Go.BF
namespace Go.Ae
open Go Go.Sx Go.BF
theorem SC{ψ:Fin->Prop}{t:Tree Fin}(h:(dead t).All ψ):DC ψ t:=by
 rw[<-BM];exact Nw h
theorem aut{H:Mem}{w:World}{φ:Sh->Prop}{k x t o p y v r:Int}(hk:¬(1<=k/\k<=7))(h8:φ (.er 14 329)):
  DC (BG aB (C5 zW W5 AB IX) (K0 H w) bP φ) (BR (C5 zW W5 AB IX) 3000 101 [.code []] (Aa 75 [.agg [sy k,sy x,sy t,sy o,sy p,sy y,sy v,sy r]] L0)):=by
 apply SC;rw[atY zW W5 k x t o p y v r];have n1:k≠1:=by omega
 have n2:k≠2:=by omega
 have n3:k≠3:=by omega
 have n4:k≠4:=by omega
 have n5:k≠5:=by omega
 have n6:k≠6:=by omega
 have n7:k≠7:=by omega
 simp[fP,BG,dG,iJ,Aq,n1,n2,n3,n4,n5,n6,n7,h8]
theorem auu{H:Mem}{w:World}{φ:Sh->Prop}{x t o p y v r:Int}(hp:¬(1<=p/\p<=9))(h8:φ (.er 14 329)):
  DC (BG aB (C5 zW W5 AB IX) (K0 H w) bP φ) (BR (C5 zW W5 AB IX) 3000 101 [.code []] (Aa 75 [.agg [il 2,sy x,sy t,sy o,sy p,sy y,sy v,sy r]] L0)):=by
 apply SC;rw[arv zW W5 0 x t o p y v r];simp[fP,BG,dG,iJ,Aq,arx hp,h8]
theorem auv{H:Mem}{w:World}{φ:Sh->Prop}{x t o p y v r:Int}(hi:CQ r=aC)(hr:¬(1<=r/\r<=3))(h8:φ (.er 14 329)):
  DC (BG aB (C5 zW W5 AB IX) (K0 H w) bP φ) (BR (C5 zW W5 AB IX) 3000 101 [.code []] (Aa 75 [.agg [il 3,sy x,sy t,sy o,sy p,sy y,sy v,sy r]] L0)):=by
 apply SC;rw[arw zW W5 0 x t o p y v r,Pm akE,aps hi (by simpa using hr)];simp[fP,BG,dG,iJ,Aq,h8]
theorem arz{H:Mem}{w:World}{φ:Sh->Prop}{u:Value}{e:Ev}(hi:CQ e.ret=aC)(hc:¬Va e)(hr:Rep H (.agg (EK e)) u)(h8:φ (.er 14 329)):
  ∃A8:List Sh,Dw H A8 [u]/\DC (BG aB (C5 zW W5 AB IX) (K0 H w) bP φ) (BR (C5 zW W5 AB IX) 3000 101 [.code []] (Aa 75 A8 L0)):=by
 obtain ⟨k,x,t,o,p,y,v,r⟩:=e;by_cases h1:1<=k/\k<=7
 ·by_cases h2:k=2
  ·subst h2
   have:¬(1<=p/\p<=9):=fun h=>hc ⟨h1,fun _=>h,fun q=>by simp at q⟩;refine ⟨[.agg [il 2,sy x,sy t,sy o,sy p,sy y,sy v,sy r]],⟨Ci hr rfl fun j s s' e1 e2 u hu=>?_,trivial⟩,auu this h8⟩;match j,e1,e2 with
   |0,e1,e2=>simp[EK] at e1 e2;subst e1 e2;exact Ey hu |j+1,e1,e2=>
    have:s=s':=by
     have:(EK ⟨2,x,t,o,p,y,v,r⟩)[j+1]?=[il 2,sy x,sy t,sy o,sy p,sy y,sy v,sy r][j+1]?:=by simp[EK,sy]
     rw[this,e2] at e1;cases e1;rfl
    rw[<-this];exact hu
  ·have h3:k=3:=by
    apply jV;intro h3;exact hc ⟨h1,fun q=>absurd q h2,fun q=>absurd q h3⟩
   subst h3;have:¬(1<=r/\r<=3):=fun h=>hc ⟨h1,fun q=>by simp at q,fun _=>h⟩;refine ⟨[.agg [il 3,sy x,sy t,sy o,sy p,sy y,sy v,sy r]],⟨Ci hr rfl fun j s s' e1 e2 u hu=>?_,trivial⟩,auv hi this h8⟩;match j,e1,e2 with
   |0,e1,e2=>simp[EK] at e1 e2;subst e1 e2;exact Ey hu |j+1,e1,e2=>
    have:s=s':=by
     have:(EK ⟨3,x,t,o,p,y,v,r⟩)[j+1]?=[il 3,sy x,sy t,sy o,sy p,sy y,sy v,sy r][j+1]?:=by simp[EK,sy]
     rw[this,e2] at e1;cases e1;rfl
    rw[<-this];exact hu
 ·exact ⟨[.agg [sy k,sy x,sy t,sy o,sy p,sy y,sy v,sy r]],⟨hr,trivial⟩,aut h1 h8⟩
theorem awk:Ar aB (Fv W5) 101 apd:=by
 refine Hy (C:=C5 zW W5 AB IX) (jU _ _) (afb _) (n:=3000) (L:=L0) (fn:=bP) (by kernel_rfl) (by kernel_rfl) fun H w A8 args φ hrep h=>?_
 have hn:bP.ntmps=75:=by kernel_rfl
 unfold apd at h;split at h
 ·rename_i l
  split at h
  ·rename_i e he
   obtain ⟨h1,h2,h3⟩:=h;match args,hrep with
   |[u],⟨hu,_⟩=>
    rw[hn];simp only[BM];have hc:¬Va e:=fun q=>by
     have:OC e=aC:=decide_eq_true q;rw[this] at h2;cases h2
    exact arz h1 hc (aho he hu) h3
  ·exact h.elim
 ·exact h.elim
theorem O56:Ar aB (Fv W5) 101 F56:=by
 intro H w A8 args φ hon hg hr hφ;unfold F56 at hφ;split at hφ
 ·rename_i l
  split at hφ
  ·rename_i e he
   obtain ⟨h1,h2,h3⟩:=hφ;cases hc:OC e with
   |true=>
    refine awj H w _ args φ hon hg hr ?_;simp only[apc,he];exact ⟨hc,h2 hc⟩
   |false=>
    refine awk H w _ args φ hon hg hr ?_;simp only[apd,he];exact ⟨h1,by rw[hc];rfl,h3 hc⟩
  ·exact hφ.elim
 ·exact hφ.elim
def F55:List Sh->Tree Sh
 |[s,.er e 329]=>match AY s with
  |some x=>.leaf (.CS 109 (.pt [.i .i64 x,.er e 329])) |none=>.fail
 |_=>.fail
theorem O55:Ar aB (Fv W5) 100 F55:=by
 refine Hy (C:=C5 zW W5 AB Ap) (jU _ _) (afb _) (n:=300) (L:=L0) (fn:=oH) (by kernel_rfl) (by kernel_rfl) fun H w A8 args φ hrep h=>?_
 have hn:oH.ntmps=10:=by kernel_rfl
 unfold F55 at h;split at h
 ·rename_i s e
  split at h
  ·rename_i x hx
   match args,hrep with
   |[u,v],⟨hu,hv,_⟩=>
    refine ⟨[.i .i64 x,.er e 329],⟨Ej hx hu,hv,trivial⟩,?_⟩;rw[hn,a55 zW W5 x e];exact h
  ·exact h.elim
 ·exact h.elim
def JI:Nat->Option (List Sh->Tree Sh)
 |99=>ay F54 |100=>ay F55 |101=>ay F56 |102=>ay F57 |_=>aK
theorem awl:∀g F,JI g=ay F->Ar aB (Fv W5) g F:=fun g F h=>by
 unfold JI at h;split at h
 ·cases h;exact O54
 ·cases h;exact O55
 ·cases h;exact O56
 ·cases h;exact O57
 ·cases h
theorem ajd(stop:Nat->List Nat->Bool):BA aB (C5 zW W5 JI stop):=yD awl fun g h=>by
 unfold JI at h;split at h;all_goals first|(cases h;done) |kernel_rfl
def adP:List It:=[bD [0,1,0,1,1,1],dD 2,bD [1,1,1,1]]
def ash:List It:=[bD [0,0,1,0,1,1,1],bD [0,1,0,1,1,1],dD 2,bD [1,1,1,1]]
def adQ(n m:Nat)(o:Nat->Oj)(p:Nat->Ev)(c i:Int):Core:=
 {tm:=[.any,.ptr 0 0,.DN]++rep [.any] 18++[.sh (.sl 2 n (zX o)),.sym .i64 c,.sym .i64 i]++rep [.any] 54,
  hp:=[(0,.box [.sh (.sl 2 n (zX o)),.sh (.sl 8 m (zX p))] 25)],nx:=1,lim:=L0,tc:=[]}
def Vb(n m:Nat)(o:Nat->Oj)(p:Nat->Ev)(c i:Int):Core:=
 {tm:=[.any,.ptr 0 0,.DN]++rep [.any] 34++[.sh (.sl 8 m (zX p)),.sym .i64 c,.sym .i64 i]++rep [.any] 38,
  hp:=[(0,.box [.sh (.sl 2 n (zX o)),.sh (.sl 8 m (zX p))] 25)],nx:=1,lim:=L0,tc:=[]}
theorem a51(A:Prim)(W:Wd)(n m:Nat)(o:Nat->Oj)(p:Nat->Ev)(c' i':Int):AQ (C5 A W JI Ap) DJ 300 200 77 [.code []] (Aa 78 [.agg [.sl 2 n (zX o),.sl 8 m (zX p)]] L0) [] [⟨77,IL,adQ n m o p c' i',[]⟩]=aF (A.lt (ah 8) (A.AO n)) (aA (aP (aZ 6 329))) (aF (A.lt (ah 400) (A.AO m)) (aA (aP (aZ 6 329))) (aA (bJ 0 [aQ (aG 2 n (zX o)) (aG 2 n (zX o)),aj (A.AO n) c',aj (ah 0) i',aQ (aG 2 n (zX o)) (aG 2 n (zX o)),aQ (aG 8 m (zX p)) (aG 8 m (zX p))]))):=by kernel_rfl
theorem b51(A:Prim)(W:Wd)(n m:Nat)(o:Nat->Oj)(p:Nat->Ev)(c i i' d' j':Int):AQ (C5 A W JI Ap) DJ 300 200 77 WM (adQ n m o p c i) [] [⟨77,IL,adQ n m o p c i',[]⟩,⟨77,adP,Vb n m o p d' j',[]⟩]=aF (A.lt i c) (aH (A.inB i n) (aF (abP (o (A.toN i)).kind (o (A.toN i)).init) (aA (bJ 0 [aQ (aG 2 n (zX o)) (aG 2 n (zX o)),aj c c,aj (A.add .i64 i (ah 1)) i',aQ (aG 2 n (zX o)) (aG 2 n (zX o)),aQ (aG 8 m (zX p)) (aG 8 m (zX p))])) (aA (aP (pK 109 (sU [aW .i64 i,aZ 7 329])))))) (aA (bJ 1 [aQ (aG 8 m (zX p)) (aG 8 m (zX p)),aj (A.AO m) d',aj (ah 0) j',aQ (aG 2 n (zX o)) (aG 2 n (zX o)),aQ (aG 8 m (zX p)) (aG 8 m (zX p))])):=by kernel_rfl
theorem c51(A:Prim)(W:Wd)(n m:Nat)(o:Nat->Oj)(p:Nat->Ev)(c i i':Int):AQ (C5 A W JI Ap) DJ 300 200 77 ash (Vb n m o p c i) [] [⟨77,adP,Vb n m o p c i',[]⟩]=aF (A.lt i c) (aH (A.inB i m) (aH (CQ ({kind:=(p (A.toN i)).kind,tx:=(p (A.toN i)).tx,thread:=(p (A.toN i)).thread,obj:=(p (A.toN i)).obj,op:=(p (A.toN i)).op,key:=(p (A.toN i)).key,val:=(p (A.toN i)).val,ret:=(p (A.toN i)).ret}:Ev).ret) (aF (OC {kind:=(p (A.toN i)).kind,tx:=(p (A.toN i)).tx,thread:=(p (A.toN i)).thread,obj:=(p (A.toN i)).obj,op:=(p (A.toN i)).op,key:=(p (A.toN i)).key,val:=(p (A.toN i)).val,ret:=(p (A.toN i)).ret}) (aF (BF.fieldsB {kind:=(p (A.toN i)).kind,tx:=(p (A.toN i)).tx,thread:=(p (A.toN i)).thread,obj:=(p (A.toN i)).obj,op:=(p (A.toN i)).op,key:=(p (A.toN i)).key,val:=(p (A.toN i)).val,ret:=(p (A.toN i)).ret}) (aF (A.nt (A.eq (p (A.toN i)).kind (ah 2))) (aA (bJ 0 [aQ (aG 8 m (zX p)) (aG 8 m (zX p)),aj c c,aj (A.add .i64 i (ah 1)) i',aQ (aG 2 n (zX o)) (aG 2 n (zX o)),aQ (aG 8 m (zX p)) (aG 8 m (zX p))])) (aF (A.le (A.AO n) (p (A.toN i)).obj) (aA (aP (pK 109 (sU [aW .i64 i,aZ 7 329])))) (aH (A.inB (p (A.toN i)).obj n) (aF (A.nt (A.eq (Dz (p (A.toN i)).op) (o (A.toN (p (A.toN i)).obj)).kind)) (aA (aP (pK 109 (sU [aW .i64 i,aZ 8 329])))) (aA (bJ 0 [aQ (aG 8 m (zX p)) (aG 8 m (zX p)),aj c c,aj (A.add .i64 i (ah 1)) i',aQ (aG 2 n (zX o)) (aG 2 n (zX o)),aQ (aG 8 m (zX p)) (aG 8 m (zX p))])))))) (aA (aP (pK 109 (sU [aW .i64 i,aZ 15 329]))))) (aA (aP (pK 109 (sU [aW .i64 i,aZ 14 329]))))))) (aA (aP (jC bI))):=by kernel_rfl
end Go.Ae
namespace Go.BF
open Go Go.Sx
def Kr(n:Nat)(o:Nat->Oj)(e:Ev):Option Nat:=
 bif OC e then bif fieldsB e then bif e.kind==2 then bif decide ((n:Int)<=e.obj) then ay 7 else bif Dz e.op==(o e.obj.toNat).kind then aK else ay 8 else aK else ay 15 else ay 14
def QA(o:Oj):Option Nat:=bif abP o.kind o.init then aK else ay 7
def I9(f:Nat->Option Nat):Nat->Nat->Option (Nat×Nat)
 |_,0=>aK |k,m+1=>match f k with
  |some e=>ay (k,e) |none=>I9 f (k+1) m
def resE:Option (Nat×Nat)->Sh
 |none=>.v .nilIface |some (k,e)=>.CS 109 (.pt [.i .i64 (k:Int),.er e 329])
theorem Zf{e:Ev}(h:fieldsB e=aC)(hk:e.kind=2):0<=e.obj:=by
 have h:=of_decide_eq_true h;unfold Ah at h;omega
end Go.BF
namespace Go.Ae
open Go Go.Sx Go.BF
theorem ahp{H0:Mem}{w0:World}{n m:Nat}{o:Nat->Oj}{p:Nat->Ev}{φ:Sh->Prop}(hm:m<=400)(hi:∀k,k<m->CQ (p k).ret=aC):
  ∀rm k,k+rm=m->φ (resE (I9 (fun k=>Kr n o (p k)) k rm))->Bd aB (C5 zW W5 JI Ap) (K0 H0 w0) 77 adP (Vb n m o p (m:Int) k) [] emp φ
 |rm,k,hk,hφ=>by
  refine Gu (fn:=jk) (tb:=ash) (by kernel_rfl) (by kernel_rfl) ?_;refine Hl (jU _ _) (ajd _) (hold:=DJ) (m:=300) (n:=200) (ts:=[⟨77,adP,Vb n m o p (m:Int) (k+1:Nat),[]⟩]) ?_;rw[c51 zW W5 n m o p (m:Int) k (k+1:Nat)];simp only[Ad,Df,Az,Bl,CJ,Aq,BQ,Dj,GY,fP,Jz,fK];have hstep:aN.wrap ((k:Int)+1)=((k+1:Nat):Int)\/m<k:=by
   by_cases h:m<k
   ·exact .inr h
   ·left;rw[BL (by omega) (by omega)];rfl
  refine ⟨fun h=>?_,fun h=>?_⟩
  ·have hlt:k<m:=by simp at h;omega
   have hw:=hstep.resolve_right (by omega);match rm,hk,hφ with
   |0,hk,_=>omega |rm+1,hk,hφ=>
    have next:Kr n o (p k)=aK->Bd aB (C5 zW W5 JI Ap) (K0 H0 w0) 77 adP (Vb n m o p (m:Int) (k+1:Nat)) [] emp φ:=fun hn=>ahp hm hi rm (k+1) (by omega) (by simpa only[I9,hn] using hφ);have bad:∀e,Kr n o (p k)=ay e->φ (.CS 109 (.pt [.i .i64 (k:Int),.er e 329])):=fun e he=>by
     simpa only[I9,he,resE] using hφ
    refine ⟨by simp;omega,hi k hlt,fun q1=>⟨fun q2=>⟨fun q3=>?_,fun q3=>⟨fun q4=>?_,fun q4=>⟨?_,fun q5=>?_,fun q5=>?_⟩⟩⟩,fun q2=>?_⟩,fun q1=>?_⟩
    ·refine ⟨⟨rfl,rfl,hw,rfl,rfl,trivial⟩,_,rfl,next ?_⟩
     have k2:((p k).kind==2)=ak:=by simpa using q3
     unfold Kr;rw[q1,q2,k2];rfl
    ·have k2:((p k).kind==2)=aC:=by simpa using q3
     apply bad;unfold Kr;rw[q1,q2,k2,q4];rfl
    ·have:=Zf q2 (by simpa using q3)
     simp at q4;simp;omega
    ·have k2:((p k).kind==2)=aC:=by simpa using q3
     have k3:(Dz (p k).op==(o (p k).obj.toNat).kind)=ak:=by simpa using q5
     apply bad;unfold Kr;rw[q1,q2,k2,q4,k3];rfl
    ·have k2:((p k).kind==2)=aC:=by simpa using q3
     have k3:(Dz (p k).op==(o (p k).obj.toNat).kind)=aC:=by simpa using q5
     refine ⟨⟨rfl,rfl,hw,rfl,rfl,trivial⟩,_,rfl,next ?_⟩;unfold Kr;rw[q1,q2,k2,q4,k3];rfl
    ·apply bad;unfold Kr;rw[q1,q2];rfl
    ·apply bad;unfold Kr;rw[q1];rfl
  ·have:k=m:=by simp at h;omega
   have:rm=0:=by omega
   subst this;exact hφ
end Go.Ae
namespace Go.BF
open Go Go.Sx
def W9(n m:Nat)(o:Nat->Oj)(p:Nat->Ev):Option (Nat×Nat):=
 match I9 (fun k=>QA (o k)) 0 n with
 |some x=>ay x |none=>I9 (fun k=>Kr n o (p k)) 0 m
def apt(n m:Nat)(o:Nat->Oj)(p:Nat->Ev)(k:Nat):Nat->Option (Nat×Nat):=fun r=>
 match I9 (fun k=>QA (o k)) k r with
 |some x=>ay x |none=>I9 (fun k=>Kr n o (p k)) 0 m
end Go.BF
namespace Go.Ae
open Go Go.Sx Go.BF
theorem akF{H0:Mem}{w0:World}{n m:Nat}{o:Nat->Oj}{p:Nat->Ev}{φ:Sh->Prop}(hn:n<=8)(hm:m<=400)(hi:∀k,k<m->CQ (p k).ret=aC):
  ∀rm k,k+rm=n->φ (resE (apt n m o p k rm))->Bd aB (C5 zW W5 JI Ap) (K0 H0 w0) 77 IL (adQ n m o p (n:Int) k) [] emp φ
 |rm,k,hk,hφ=>by
  refine Gu (fn:=jk) (tb:=WM) (by kernel_rfl) (by kernel_rfl) ?_;refine Hl (jU _ _) (ajd _) (hold:=DJ) (m:=300) (n:=200) (ts:=[⟨77,IL,adQ n m o p (n:Int) (k+1:Nat),[]⟩,⟨77,adP,Vb n m o p (m:Int) (0:Nat),[]⟩]) ?_;rw[b51 zW W5 n m o p (n:Int) k (k+1:Nat) (m:Int) (0:Nat)];simp only[Ad,Az,Bl,CJ,Dj,GY,fP,Jz,fK];refine ⟨fun h=>?_,fun h=>?_⟩
  ·have hlt:k<n:=by simp at h;omega
   have hw:aN.wrap ((k:Int)+1)=((k+1:Nat):Int):=by rw[BL (by omega) (by omega)];rfl
   match rm,hk,hφ with
   |0,hk,_=>omega |rm+1,hk,hφ=>
    refine ⟨by simp;omega,fun q=>?_,fun q=>?_⟩
    ·have e:QA (o k)=aK:=by unfold QA;rw[q];rfl
     exact ⟨⟨rfl,rfl,hw,rfl,rfl,trivial⟩,_,rfl,akF hn hm hi rm (k+1) (by omega) (by simpa only[apt,I9,e] using hφ)⟩
    ·have e:QA (o k)=ay 7:=by unfold QA;rw[q];rfl
     simpa only[apt,I9,e,resE] using hφ
  ·have:k=n:=by simp at h;omega
   have:rm=0:=by omega
   subst this;exact ⟨⟨rfl,rfl,rfl,rfl,rfl,trivial⟩,_,rfl,ahp hm hi m 0 (by omega) hφ⟩
end Go.Ae
namespace Go.BF
open Go Go.Sx
def QB(m:Nat)(h:Nat->List Sh):Bool:=(List.range m).all fun k=>CQ (zZ (α:=Ev) h k).ret
def JJ(n m:Nat)(g h:Nat->List Sh):Int:=match W9 n m (zZ g) (zZ h) with|some (k,_)=>(k:Int) |none=>0
def Ny(n m:Nat)(g h:Nat->List Sh):Nat:=match W9 n m (zZ g) (zZ h) with|some (_,e)=>e|none=>0
def F8(n m:Nat)(g h:Nat->List Sh):Bool:=(W9 n m (zZ g) (zZ h)).isNone
def Iu(n m:Nat):Bool:=decide (8<n\/400<m)
end Go.BF
namespace Go.Ae
open Go Go.Sx Go.BF
def F51:List Sh->Tree Sh
 |[.agg [.sl 2 n g,.sl 8 m h]]=>.need (okB Oj n g) (.need (okB Ev m h) (.need (QB m h) (.node (Iu n m) (.leaf (.er 6 329)) (.node (F8 n m g h) (.leaf (.v .nilIface)) (.leaf (.CS 109 (.pt [.i .i64 (JJ n m g h),.er (Ny n m g h) 329]))))))) |_=>.fail
theorem O51:Ar aB (Fv W5) 77 F51:=by
 refine KE (C:=C5 zW W5 JI Ap) (jU _ _) (fn:=jk) (by kernel_rfl) (by kernel_rfl) fun H w A8 args φ hrep h=>?_
 have hn:jk.ntmps=78:=by kernel_rfl
 unfold F51 at h;split at h
 ·rename_i n g m h'
  obtain ⟨h1,h2,h3,h4,h5⟩:=h;match args,hrep with
  |[v],⟨hv,_⟩=>
   rw[hn];refine ⟨[.agg [.sl 2 n (zX (zZ (α:=Oj) g)),.sl 8 m (zX (zZ (α:=Ev) h'))]],⟨SA hv h1 h2,trivial⟩,L0,?_⟩;refine Hl (jU _ _) (ajd _) (hold:=DJ) (m:=300) (n:=200) (ts:=[⟨77,IL,adQ n m (zZ g) (zZ h') (n:Int) (0:Nat),[]⟩]) ?_;rw[a51 zW W5 n m (zZ g) (zZ h') (n:Int) (0:Nat)];refine ⟨fun q=>h4 ?_,fun q=>⟨fun q'=>h4 ?_,fun q'=>⟨⟨rfl,rfl,rfl,rfl,rfl,trivial⟩,_,rfl,?_⟩⟩⟩
   ·simp[Ad,Az] at q;simp[Iu];omega
   ·simp[Ad,Az] at q';simp[Iu];omega
   ·simp[Ad,Az] at q q'
    have h5:=h5 (by simp[Iu];omega);refine akF (by omega) (by omega) (fun k hk=>?_) n 0 (by omega) ?_
    ·exact List.all_eq_true.1 h3 k (List.mem_range.2 hk)
    ·show φ (resE (W9 n m (zZ g) (zZ h')))
     obtain ⟨hT,hF⟩:=h5;unfold F8 at hT hF;unfold JJ Ny at hF;cases hb:W9 n m (zZ (α:=Oj) g) (zZ (α:=Ev) h') with
     |none=>rw[hb] at hT;exact hT rfl |some x=>rw[hb] at hF;exact hF rfl
 ·exact h.elim
theorem afc{H:Mem}{st st':Nat}{g g':Nat->List Sh}{v:Value}(h:Rep H (.sl st 0 g) v):Rep H (.sl st' 0 g') v:=by
 cases h with
 |sl0 _ _ A cap hc=>exact .sl0 _ _ _ _ hc |sl _ _ _ b off cap c h1 h2=>exact .sl0 _ _ _ _ h2
theorem BD{H:Mem}{st n:Nat}{s:Sh}{g:Nat->List Sh}{v:Value}(hs:DV st s=ay (n,g))(h:Rep H s v):Rep H (.sl st n g) v:=by
 rcases akD hs with rfl|⟨g',rfl,rfl,rfl⟩
 ·exact h
 ·exact afc h
theorem aje{H:Mem}{s0 s1 s0' s1':Sh}{v:Value}(hv:Rep H (.agg [s0,s1]) v)(h0:∀u,Rep H s0 u->Rep H s0' u)(h1:∀u,Rep H s1 u->Rep H s1' u):Rep H (.agg [s0',s1']) v:=by
 cases hv with
 |agg _ vs h2 h3=>
  refine .agg _ vs h2 fun j s v' e1 e2=>?_
  match j,e1 with
  |0,e1=>simp at e1;subst e1;exact h0 _ (h3 0 _ v' rfl e2) |1,e1=>simp at e1;subst e1;exact h1 _ (h3 1 _ v' rfl e2) |j+2,e1=>simp at e1
def apu:List Sh->Tree Sh
 |[.agg [s0,s1]]=>match DV 2 s0,DV 8 s1 with
  |some (n,g),ay (m,h)=>F51 [.agg [.sl 2 n g,.sl 8 m h]] |_,_=>.fail
 |_=>.fail
theorem awm:Ar aB (Fv W5) 77 apu:=fun H w A8 args φ h1 h2 h3 h4=>by
 unfold apu at h4;split at h4
 ·rename_i s0 s1
  split at h4
  ·rename_i n g m h e1 e2
   match args,h3 with
   |[v],⟨hv,_⟩=>exact O51 H w [.agg [.sl 2 n g,.sl 8 m h]] [v] φ h1 h2 ⟨aje hv (fun u=>BD e1) (fun u=>BD e2),trivial⟩ h4
  ·exact h4.elim
 ·exact h4.elim
theorem a67(A:Prim)(W:Wd)(x y:Int):BR (C5 A W noSpec Am) 300 128 [.code []] (Aa 36 [.i .i64 x,.i .i64 y] L0)=aF (A.eq x (ah 2)) (aA (aO (eF (A.eq y (ah 1))))) (aF (A.eq x (ah 3)) (aA (aO (eF (A.eq y (ah 1))))) (aF (A.eq x (ah 5)) (aA (aO (eF (A.eq y (ah 1))))) (aF (A.eq x (ah 7)) (aA (aO (eF (A.eq y (ah 1))))) (aF (A.eq x (ah 1)) (aA (aO (eF (A.eq y (ah 3))))) (aF (A.eq x (ah 4)) (aA (aO (eF (A.eq y (ah 3))))) (aF (A.eq x (ah 6)) (aF (A.eq y (ah 2)) (aA (aO (eF aC))) (aA (aO (eF (A.eq y (ah 3)))))) (aF (A.eq x (ah 8)) (aF (A.eq y (ah 2)) (aA (aO (eF aC))) (aA (aO (eF (A.eq y (ah 3)))))) (aF (A.eq x (ah 9)) (aF (A.eq y (ah 2)) (aA (aO (eF aC))) (aA (aO (eF (A.eq y (ah 3)))))) (aA (aO (eF ak))))))))))):=by kernel_rfl
end Go.Ae
