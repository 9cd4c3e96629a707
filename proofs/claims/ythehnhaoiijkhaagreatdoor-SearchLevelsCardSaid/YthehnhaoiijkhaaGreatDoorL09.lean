/- Own work. -/
import Derived.Test.YthehnhaoiijkhaaGreatDoorL08
import Derived.Lib.ItoaLen
import Derived.Shelf.Spec.SlicesInsert
import Derived.Lib.AppendZerosOnto
import Derived.Laws.NewBlocks
open Int (ofNat)
open Array renaming length_toList->bV,getElem?_eq_some_iff->bH,size_append->oq
open Bool renaming true->aC,false->ay,and_eq_true->aI
open Go renaming sizeOf->nJ,heap_alloc_old->wE
open Go.Act renaming eval->tq,put->uH
open Go.Addr renaming add_lit->eY
open Go.BinOp renaming shr->qO
open Go.Builtin renaming copy_->jX,firstCells->gJ,zeroCells->jk,append_->eG
open Go.Extern.SlicesOverlaps renaming overlaps->sW
open Go.IntKind renaming i64->aW,wrap_i64->iZ,u64->l7
open Go.Lib renaming joinTail->kM,wpList_append_run->kF,run_append_grow_zeros->qN
open Go.Proofs.C7 renaming ok->dD,Vo->nT
open Go.Proofs.Yf renaming ok->zN
open Go.Proofs.Tryz renaming prog->aA,f145->zJ,f146->zK,f77->jq,f116->qY,underlying209->iC,mixed_->tX,func182->nY,ntmps182->nK,underlying3->pO,f204->vI,f181->zL,tys->mZ,func208->yL,ntmps208->xG,fnsAre_->jl,entersB_->jP,f184->zM,f179->zO,f186->zQ,f183->zS,f185->zT,f102->nU,f151->zU,f152->zV,f153->zW,f173->zX,f174->zY,f175->zZ,f176->Aa,f178->Ac
open Go.Sx renaming Enters->xH
open Go.Sx.BK renaming ok->iO,sh->aO,int->aj
open Go.Sx.ED renaming at_->bK,ret->aT
open Go.Sx.It renaming code->bD,inBlock->dw
open Go.Sx.Sh renaming str->dB,sl->aG,AQ->cZ,i->aY,agg->cO,os->jw,er->bf,v->jG
open Go.Sx.Tree renaming leaf->aB,node->aF,need->aH,fail->dL,must->aQ
open Go.Value renaming nilIface->bJ
open Go.World renaming shape?->xC,frozen?->wW,setRow->xE
open Int renaming toNat_natCast->fU,ofNat->ah,negSucc->fJ
open List renaming range->aZ,all_eq_true->dF,mem_range->dh,getD_eq_getElem?_getD->aX,getElem?_append_left->dN,mem_cons->iy,length_append->bC,length_cons->iU,getElem_mem->kN,take_succ_eq_append_getElem->nX,map_append->iR,take_length->vH,mem_map->dJ,length_take->cu,length_drop->dS,size_toArray->gW,getElem?_take->bY,getElem?_drop->eP,mem_of_mem_drop->jy,append_assoc->dV,take_take->wX,take_left->lF,getElem_cons_zero->rE,takeWhile->jA,pairwise_iff_getElem->jF,takeWhile_prefix->rO,length_nil->qE,getElem?_append_right->fF
open Nat renaming sub_self->qV,add_mul->gI,one_mul->iK,min->qc,min_def->sZ,le_refl->dn,zero_le->gV,le_succ->vY,beq->fC
open Option renaming some->ak,none->aK
namespace Go.Pl
open Go Go.Sx
def JZ(s:CY):List (List UInt8):=EP s.kind::(if s.kind=1\/s.kind=2 then [Bo s.num] else if s.kind=3 then s.q.map Bo else if s.kind=4 then s.ps.map (fun p=>Bo p.key++[58]++Bo p.val) else [])
def noI:Nat->List Sh:=Aj (nth ([]:List Int))
def noP:Nat->List Sh:=Aj (nth ([]:List Pr))
def keyS(s:CY):List UInt8:=DC (JZ s) [32]
def S9(n:Nat):Bool:=decide (8<n)
def NQ(n:Nat)(o:Nat->Oj):Bool:=(aZ n).all fun j=>!Fa (o j).kind (o j).init
def Lm(n:Nat)(o:Nat->Oj):Nat:=((aZ n).find? fun j=>Fa (o j).kind (o j).init).getD 0
def QH(n:Nat)(o:Nat->Oj):Bool:=(aZ n).all fun j=>Di (o j).kind
theorem IE{n:Nat}{p:Nat->Bool}(h:(aZ n).all p=aC):∀j,j<n->p j=aC:=fun j hj=>dF.1 h j (dh.2 hj)
theorem agV{n:Nat}{o:Nat->Oj}(h:∀j,j<n->Fa (o j).kind (o j).init=ay):NQ n o=aC:=dF.2 fun j hj=>by simp[h j (dh.1 hj)]
theorem aoc{n k:Nat}{o:Nat->Oj}(hk:k<n)(h:Fa (o k).kind (o k).init=aC):NQ n o=ay:=by
 unfold NQ;rw[List.all_eq_false];exact ⟨k,dh.2 hk,by simp[h]⟩
theorem find_range{n k:Nat}{p:Nat->Bool}(hk:k<n)(h:p k=aC)(hb:∀j,j<k->p j=ay):(aZ n).find? p=ak k:=by
 rw[List.find?_range_eq_some];exact ⟨h,dh.2 hk,fun j hj=>by simp[hb j hj]⟩
theorem agW{n k:Nat}{o:Nat->Oj}(hk:k<n)(h:Fa (o k).kind (o k).init=aC)(hb:∀j,j<k->Fa (o j).kind (o j).init=ay):Lm n o=k:=by
 unfold Lm;rw[find_range hk h hb];rfl
def aod(n:Nat)(o:Nat->Int):Bool:=(aZ n).all fun j=>Di (o j)
def asB(n:Nat)(o:Nat->Pr):Bool:=(aZ n).all fun j=>Di (o j).key&&Di (o j).val
end Go.Pl
namespace Go.Proofs
open Go Go.Sx Go.Pl
theorem O59:AV aA (Bq W7) 145 F92:=by
 refine D8 (C:=C7 Ai W7 DL AU) (dD _ _) (MG _) (m:=300) (n:=400) (L:=L0) (fn:=zJ) (by kernel_rfl) (by kernel_rfl) fun H w Bv args φ hrep h=>?_
 have hn:zJ.ntmps=5:=by kernel_rfl
 unfold F92 at h;split at h
 ·obtain ⟨h1,hφ⟩:=h
  refine ⟨_,hrep,?_⟩;rw[hn,a59 Ai W7];exact ⟨h1,BX (s':=.str _) rfl hφ⟩
 ·exact h.elim
theorem O60:AV aA (Bq W7) 146 F60:=by
 refine D8 (C:=C7 Ai W7 DL AU) (dD _ _) (MG _) (m:=300) (n:=400) (L:=L0) (fn:=zK) (by kernel_rfl) (by kernel_rfl) fun H w Bv args φ hrep h=>?_
 have hn:zK.ntmps=5:=by kernel_rfl
 unfold F60 at h;split at h
 ·obtain ⟨h1,h2,h3,hφ⟩:=h
  refine ⟨_,hrep,?_⟩;rw[hn,a60 Ai W7];exact ⟨h1,h2,h3,BX (s':=.str _) rfl hφ⟩
 ·exact h.elim
theorem OBs:∀g F,IC g=ak F->AV aA (Bq W7) g F:=fun g F h=>by
 unfold IC at h;split at h
 ·cases h;exact O58
 ·cases h;exact O59
 ·cases h;exact O60
 ·cases h;exact O65
 ·cases h
theorem abH(stop:Nat->List Nat->Bool):BP aA (C7 Ai W7 IC stop):=nT OBs fun g h=>by
 unfold IC at h;split at h;all_goals first|(cases h;done) |kernel_rfl
def F41:List Sh->Tree Sh
 |[.agg [.i .i64 k,.i .i64 i]]=>.need (Di k) (.node (Fa k i) (.leaf (.AQ [.agg (Dp NP),.er 7 329])) (.leaf (.AQ [.agg [.i .i64 k,.i .i64 i,.sl 1 0 noI,.sl 2 0 noP],.v .nilIface]))) |_=>.fail
theorem O41:AV aA (Bq W7) 95 F41:=by
 refine D8 (C:=C7 Ai W7 IC AU) (dD _ _) (abH _) (m:=300) (n:=400) (L:=L0) (fn:=Tryz.f95) (by kernel_rfl) (by kernel_rfl) fun H w Bv args φ hrep h=>?_
 have hn:Tryz.f95.ntmps=16:=by kernel_rfl
 unfold F41 at h;split at h
 ·rename_i k i
  obtain ⟨h1,hb,hg⟩:=h;refine ⟨_,hrep,?_⟩;rw[hn,a41 Ai W7 k i];refine ⟨h1,fun e=>BX (s':=.AQ [.agg (Dp NP),.er 7 329]) ?_ (hb e),fun e=>BX (s':=.AQ [.agg [.i .i64 k,.i .i64 i,.sl 1 0 noI,.sl 2 0 noP],.v .nilIface]) ?_ (hg e)⟩
  ·simp[Dp,NP,Wk,Oa,len]
  ·simp[Wk,Oa]
 ·exact h.elim
def F49:List Sh->Tree Sh
 |[.agg [s0,s1]]=>match D9 2 s0,D9 8 s1 with
  |some (n,g),ak (0,_)=>.need (okB Oj n g) (.need (QH n (Am g)) (.node (S9 n) (.leaf (.er 6 329)) (.node (NQ n (Am g)) (.leaf (.v .nilIface)) (.leaf (.C9 109 (.pt [.i .i64 (Lm n (Am g)),.er 7 329])))))) |_,_=>.fail
 |_=>.fail
theorem akC{H0:Mem}{w0:World}{n:Nat}{o:Nat->Oj}{e:Nat->List Sh}{φ:Sh->Prop}(hn:n<=8)(hk:∀j,j<n->Di (o j).kind=aC)(hT:(∀j,j<n->Fa (o j).kind (o j).init=ay)->φ (.v .nilIface))
  (hF:∀k,k<n->Fa (o k).kind (o k).init=aC->(∀j,j<k->Fa (o j).kind (o j).init=ay)->φ (.C9 109 (.pt [.i .i64 k,.er 7 329]))) :
  ∀r k,k+r=n->(∀j,j<k->Fa (o j).kind (o j).init=ay)->Bz aA (C7 Ai W7 IC AU) (K0 H0 w0) 77 Jd (adT n o e (k:Int)) [] emp φ
 |r,k,hkr,hE=>by
  refine GK (fn:=jq) (tb:=Xl) (by kernel_rfl) (by kernel_rfl) ?_;refine G5 (dD _ _) (abH _) (hold:=Uf) (m:=300) (n:=400) (ts:=[⟨77,Jd,adT n o e (k+1:Nat),[]⟩,⟨77,ai5,ai4 n o e,[]⟩]) ?_;rw[b49 Ai W7 n o e k (k+1:Nat)];simp only[Aq,BJ,CX,Dq,GR,fU];refine ⟨fun h=>?_,fun h=>?_⟩
  ·have hlt:k<n:=by simp at h;omega
   refine ⟨by simp;omega,hk k hlt,fun hb=>hF k hlt hb hE,fun hb=>⟨⟨rfl,rfl,?_,rfl,rfl,trivial⟩,_,rfl,?_⟩⟩
   ·simp only[iO];rw[Cj (by omega) (by omega)];rfl
   ·match r,hkr with
    |0,hkr=>omega |r+1,hkr=>
     refine akC hn hk hT hF r (k+1) (by omega) fun j hj=>?_
     by_cases e:j=k
     ·subst e;exact hb
     ·exact hE j (by omega)
  ·have:k=n:=by simp at h;omega
   subst this;refine ⟨⟨rfl,rfl,trivial⟩,_,rfl,?_⟩;refine GK (fn:=jq) (tb:=an9) (by kernel_rfl) (by kernel_rfl) ?_;refine G5 (dD _ _) (abH _) (hold:=Uf) (m:=300) (n:=400) (ts:=[]) ?_;rw[c49 Ai W7 k o e];exact ⟨fun h=>by simp[Aq] at h,fun _=>hT hE⟩
theorem O49:AV aA (Bq W7) 77 F49:=by
 refine JX (C:=C7 Ai W7 IC AU) (dD _ _) (fn:=jq) (by kernel_rfl) (by kernel_rfl) fun H w Bv args φ hrep h=>?_
 have hn:jq.ntmps=78:=by kernel_rfl
 unfold F49 at h;split at h
 ·rename_i s0 s1
  split at h
  ·rename_i n g e hs0 hs1
   obtain ⟨h1,h2,hbig,hsm⟩:=h;have hbig:S9 n=aC->φ (.er 6 329):=hbig;have hsm:S9 n=ay->(NQ n (Am g)=aC->φ (.v .nilIface))/\(NQ n (Am g)=ay->φ (.C9 109 (.pt [.i .i64 (Lm n (Am g)),.er 7 329]))):=hsm;match args,hrep with
   |[v],⟨hv,_⟩=>
    refine ⟨[.agg [.sl 2 n (Aj (Am (α:=Oj) g)),.sl 8 0 e]],⟨Yj hv (fun u hu=>Ez (BQ hs0 hu) h1) (fun u hu=>BQ hs1 hu),trivial⟩,L0,?_⟩;generalize Am (α:=Oj) g=o at *;refine G5 (dD _ _) (abH _) (hold:=Uf) (m:=300) (n:=400) (ts:=[⟨77,Jd,adT n o e (0:Nat),[]⟩]) ?_;rw[hn,a49 Ai W7 n o e (0:Nat)];refine ⟨fun h=>hbig ?_,fun h=>⟨fun h=>?_,fun _=>⟨⟨rfl,rfl,rfl,rfl,rfl,trivial⟩,_,rfl,?_⟩⟩⟩
    ·simp[Aq,AY] at h;simp[S9];omega
    ·simp[Aq,AY] at h
    ·have hn8:n<=8:=by simp[Aq,AY] at h;omega
     obtain ⟨q1,q2⟩:=hsm (by simp[S9];omega);refine akC hn8 (IE h2) (fun hE=>q1 (agV hE)) (fun k hk hb hE=>?_) n 0 (by omega) fun j hj=>by omega
     have:=q2 (aoc hk hb);rwa[agW hk hb hE] at this
  ·exact h.elim
 ·exact h.elim
end Go.Proofs
namespace Go.Pl
open Go Go.Sx Go.Proofs
theorem aoe{a b:List UInt8}:lst (List UInt8) 2 (Bh (chunks 1 (1+1) [dB a,dB b]))=[a,b]:=rfl
theorem aof{a:List UInt8}:lst (List UInt8) 1 (Bh (chunks 1 1 [dB a]))=[a]:=rfl
theorem JD{n:Int}(h:Di n=aC):(Bo n).length<=21:=by
 have h:=of_decide_eq_true h;exact Go.Lib.itoa_length_le n h.1 h.2
theorem afc{α:Type}[Row α](l:List α){k:Nat}(h:l.length=k):lst α k (Aj (nth l))=l:=by subst h;exact Lj l
theorem PU{α:Type}[Row α](l:List α)(a:α){r:List (List Sh)}(h:Bh r 0=Row.put a):∀i,i<l.length+1->Ai.snoc (Aj (nth l)) l.length (Bh r) i=Aj (nth (l++[a])) i:=fun i hi=>by
 rw[Ec];split
 ·rename_i h1
  simp only[Aj,nth];rw[aX,aX,dN h1]
 ·have:i=l.length:=by omega
  subst this;rw[qV,h];simp[Aj,nth]
end Go.Pl
namespace Go.Proofs
open Go Go.Sx Go.Pl
def F35:List Sh->Tree Sh
 |[.agg [.i .i64 x,.i .i64 y,s2,s3]]=>match D9 1 s2,D9 2 s3 with
  |some (a,h),ak (b,l)=>.need (okB Int a h) (.need (okB Pr b l) (.need (Di x) (.need (Di y) (.need (aod a (Am h)) (.need (asB b (Am l)) (.need (decide (a<=100000/\b<=100000)) (.leaf (.str (keyS ⟨x,y,lst Int a h,lst Pr b l⟩))))))))) |_,_=>.fail
 |_=>.fail
theorem Yo(l:List (List UInt8))(sep:List UInt8){m:Nat}(h:∀x∈l,x.length<=m):(DC l sep).length<=l.length*(m+sep.length):=by
 induction l with
 |nil=>simp[DC,Go.Lib.join_nil] |cons x r ih=>
  have h1:=h x (by simp);have h2:(kM sep r).length<=r.length*(m+sep.length):=by
   clear ih;induction r with
   |nil=>simp[kM] |cons y r ih2=>
    have h3:=ih2 fun z hz=>h z (by
     rcases iy.1 hz with rfl|hz
     ·simp
     ·simp[hz])
    have h4:=h y (by simp);simp only[kM,List.map_cons,List.flatten_cons,bC,iU,gI,iK] at h3 ⊢;omega
  unfold DC;rw[Go.Lib.join_cons,bC,iU,gI,iK];omega
theorem Ou{l:List (List UInt8)}(hl:l.length<=200000)(h:∀x∈l,x.length<=50):IK (DC l [32])=aC:=by
 have:=Yo l [32] h;have h2:l.length*(50+[(32:UInt8)].length)<=200000*51:=Nat.mul_le_mul_right _ hl;exact decide_eq_true (by omega)
theorem room_le{n b:Nat}(h:n<=1000000)(hb:b<=1000):BM n b=aC:=by
 show decide (n*b<=140737488355328/\n<=maxLen)=aC;rw[maxLen_eq];have:n*b<=1000000*1000:=Nat.mul_le_mul h hb;exact decide_eq_true ⟨by omega,by omega⟩
theorem abI(k:Int):(EP k).length<=50:=by
 unfold EP;repeat' split
 all_goals decide
theorem agX{H0:Mem}{w0:World}{q:List Int}{W:List UInt8}{φ:Sh->Prop}(hq:q.length<=100000)(h64:∀x∈q,Di x=aC)(hW:W.length<=50)(hφ:φ (.str (DC (W::q.map Bo) [32]))):
  ∀r k,k+r=q.length->Bz aA (C7 Ai W7 IC AU) (K0 H0 w0) 116 Ym (Yk q.length (nth q) (k:Int) (k+1) (Aj (nth (W::(q.take k).map Bo)))) [] emp φ
 |r,k,hkr=>by
  refine GK (fn:=qY) (tb:=aoa) (by kernel_rfl) (by kernel_rfl) ?_;refine G5 (dD _ _) (abH _) (hold:=BL) (m:=300) (n:=400) (ts:=[⟨116,Ym,Yk q.length (nth q) (k+1:Nat) (k+1+1) (Aj (nth (W::(q.take (k+1)).map Bo))),[]⟩]) ?_;rw[avW Ai W7 q.length (nth q) k (k+1:Nat) (k+1) (k+1+1) (Aj (nth (W::(q.take k).map Bo))) (Aj (nth (W::(q.take (k+1)).map Bo)))];have hlen:(W::(q.take k).map Bo).length=k+1:=by simp;omega
  simp only[Aq,BJ,CX,Dq,GR,fU,abE];refine ⟨fun h=>?_,fun h=>?_⟩
  ·have hlt:k<q.length:=by simp at h;omega
   have hx:nth q k=q[k]:=by simp[nth,hlt]
   refine ⟨by simp;omega,by rw[hx];exact h64 _ (kN hlt),room_le (by omega) (by omega),⟨rfl,rfl,?_,rfl,?_,trivial⟩,_,rfl,?_⟩
   ·simp only[iO];rw[Cj (by omega) (by omega)];rfl
   ·have e:W::(q.take (k+1)).map Bo=(W::(q.take k).map Bo)++[Bo (nth q k)]:=by
     rw[hx,nX hlt,iR];rfl
    have:=PU (W::(q.take k).map Bo) (Bo (nth q k)) (r:=[[.str (Bo (nth q k))]]) rfl;rw[hlen] at this;rw[e];exact this
   ·match r,hkr with
    |0,hkr=>omega |r+1,hkr=>exact agX hq h64 hW hφ r (k+1) (by omega)
  ·have hk:k=q.length:=by simp at h;omega
   subst hk;rw[vH] at hlen ⊢;rw[afc _ hlen];refine ⟨DI _ _,room_le (by omega) (by omega),Ou (by simp;omega) fun x hx=>?_,hφ⟩;rcases iy.1 hx with rfl|hx
   ·exact hW
   ·obtain ⟨y,hy,rfl⟩:=dJ.1 hx
    have:=JD (h64 y hy);omega
theorem adU{p:Pr}(h1:Di p.key=aC)(h2:Di p.val=aC):(Bo p.key++[58]++Bo p.val).length<=50:=by
 have:=JD h1;have:=JD h2;simp;omega
theorem agY{H0:Mem}{w0:World}{q:List Pr}{W:List UInt8}{φ:Sh->Prop}(hq:q.length<=100000)(h64:∀x∈q,Di x.key=aC/\Di x.val=aC)(hW:W.length<=50)(hφ:φ (.str (DC (W::q.map (fun p=>Bo p.key++[58]++Bo p.val)) [32]))):
  ∀r k,k+r=q.length->Bz aA (C7 Ai W7 IC AU) (K0 H0 w0) 116 Yn (Yl q.length (nth q) (k:Int) (k+1) (Aj (nth (W::(q.take k).map (fun p=>Bo p.key++[58]++Bo p.val))))) [] emp φ
 |r,k,hkr=>by
  refine GK (fn:=qY) (tb:=aob) (by kernel_rfl) (by kernel_rfl) ?_;refine G5 (dD _ _) (abH _) (hold:=BL) (m:=300) (n:=400) (ts:=[⟨116,Yn,Yl q.length (nth q) (k+1:Nat) (k+1+1) (Aj (nth (W::(q.take (k+1)).map (fun p=>Bo p.key++[58]++Bo p.val)))),[]⟩]) ?_;rw[avX Ai W7 q.length (nth q) k (k+1:Nat) (k+1) (k+1+1) (Aj (nth (W::(q.take k).map (fun p=>Bo p.key++[58]++Bo p.val)))) (Aj (nth (W::(q.take (k+1)).map (fun p=>Bo p.key++[58]++Bo p.val))))];have hlen:(W::(q.take k).map (fun p=>Bo p.key++[58]++Bo p.val)).length=k+1:=by simp;omega
  simp only[Aq,BJ,CX,Dq,GR,fU,abE];refine ⟨fun h=>?_,fun h=>?_⟩
  ·have hlt:k<q.length:=by simp at h;omega
   have hx:nth q k=q[k]:=by simp[nth,hlt]
   obtain ⟨p1,p2⟩:=h64 _ (kN hlt);rw[<-hx] at p1 p2;have l1:=JD p1;have l2:=JD p2;refine ⟨by simp;omega,p1,?_,p2,?_,room_le (by omega) (by omega),⟨rfl,rfl,?_,rfl,?_,trivial⟩,_,rfl,?_⟩
   ·show decide ((Bo (nth q k).key).length+1<=9223372036854775807)=aC
    exact decide_eq_true (by omega)
   ·show decide ((Bo (nth q k).key++[58]).length+(Bo (nth q k).val).length<=9223372036854775807)=aC
    exact decide_eq_true (by rw[bC];simp;omega)
   ·simp only[iO];rw[Cj (by omega) (by omega)];rfl
   ·have e:W::(q.take (k+1)).map (fun p=>Bo p.key++[58]++Bo p.val)=(W::(q.take k).map (fun p=>Bo p.key++[58]++Bo p.val))++[Bo (nth q k).key++[58]++Bo (nth q k).val]:=by
     rw[hx,nX hlt,iR];rfl
    have:=PU (W::(q.take k).map (fun p=>Bo p.key++[58]++Bo p.val)) (Bo (nth q k).key++[58]++Bo (nth q k).val) (r:=[[.str (Bo (nth q k).key++[58]++Bo (nth q k).val)]]) rfl;rw[hlen] at this;rw[e];exact this
   ·match r,hkr with
    |0,hkr=>omega |r+1,hkr=>exact agY hq h64 hW hφ r (k+1) (by omega)
  ·have hk:k=q.length:=by simp at h;omega
   subst hk;rw[vH] at hlen ⊢;rw[afc _ hlen];refine ⟨DI _ _,room_le (by omega) (by omega),Ou (by simp;omega) fun x hx=>?_,hφ⟩;rcases iy.1 hx with rfl|hx
   ·exact hW
   ·obtain ⟨y,hy,rfl⟩:=dJ.1 hx
    exact adU (h64 y hy).1 (h64 y hy).2
theorem agZ{α:Type}[Row α]{n:Nat}{g:Nat->List Sh}{x:α}(h:x∈lst α n g):∃j,j<n/\x=Am g j:=by
 obtain ⟨j,hj,rfl⟩:=dJ.1 h;exact ⟨j,dh.1 hj,rfl⟩
theorem KZ{α:Type}[Row α]{H:Mem}{st n:Nat}{g:Nat->List Sh}{v:Value}(h:Rep H (.sl st n g) v)(hg:okB α n g=aC):Rep H (.sl st (lst α n g).length (Aj (nth (lst α n g)))) v:=by
 rw[FK];refine EK h fun j hj=>?_
 rw[Jh hg j hj];simp only[Aj,SQ hj]
theorem O35:AV aA (Bq W7) 116 F35:=by
 refine JX (C:=C7 Ai W7 IC AU) (dD _ _) (fn:=qY) (by kernel_rfl) (by kernel_rfl) fun H w Bv args φ hrep h=>?_
 have hn:qY.ntmps=61:=by kernel_rfl
 unfold F35 at h;split at h
 ·rename_i x y s2 s3
  split at h
  ·rename_i a hh b l hs2 hs3
   obtain ⟨h1,h2,h3,h4,h5,h6,h7,hφ⟩:=h;have h7:=of_decide_eq_true h7;match args,hrep with
   |[v],⟨hv,_⟩=>
    have l1:(lst Int a hh).length=a:=FK _ _;have l2:(lst Pr b l).length=b:=FK _ _;have m1:∀z∈lst Int a hh,Di z=aC:=fun z hz=>by
     obtain ⟨j,hj,rfl⟩:=agZ hz;exact IE h5 j hj
    have m2:∀z∈lst Pr b l,Di z.key=aC/\Di z.val=aC:=fun z hz=>by
     obtain ⟨j,hj,rfl⟩:=agZ hz;simpa using IE h6 j hj
    refine ⟨[.agg [.i .i64 x,.i .i64 y,.sl 1 (lst Int a hh).length (Aj (nth (lst Int a hh))),.sl 2 (lst Pr b l).length (Aj (nth (lst Pr b l)))]],⟨Ij hv (fun u hu=>KZ (BQ hs2 hu) h1) (fun u hu=>KZ (BQ hs3 hu) h2),trivial⟩,L0,?_⟩;generalize lst Int a hh=q at *;generalize lst Pr b l=ps at *;have hφ:φ (.str (DC (JZ ⟨x,y,q,ps⟩) [32])):=hφ;refine G5 (dD _ _) (abH _) (hold:=BL) (m:=300) (n:=400) (ts:=[⟨116,Ym,Yk q.length (nth q) (0:Nat) 1 (Aj (nth [EP x])),[]⟩,⟨116,Yn,Yl ps.length (nth ps) (0:Nat) 1 (Aj (nth [EP x])),[]⟩]) ?_;rw[hn,a35 Ai W7 x y q.length ps.length (nth q) (nth ps) (0:Nat) 1 (Aj (nth [EP x])),aoe,aof];have hw:=abI x;have hy:=JD h4;have two:IK (DC [EP x,Bo y] [32])=aC:=Ou (by simp) fun z hz=>by
     simp at hz;rcases hz with rfl|rfl
     ·exact hw
     ·omega
    refine ⟨rfl,h3,fun e=>⟨h4,rfl,room_le (by omega) (by omega),two,?_⟩,fun e1=>⟨fun e=>⟨h4,rfl,room_le (by omega) (by omega),two,?_⟩,fun e2=>⟨fun e=>⟨⟨rfl,rfl,rfl,rfl,fun j hj=>?_,trivial⟩,_,rfl,?_⟩,fun e3=>⟨fun e=>⟨⟨rfl,rfl,rfl,rfl,fun j hj=>?_,trivial⟩,_,rfl,?_⟩,fun e4=>⟨rfl,room_le (by omega) (by omega),Ou (by simp) fun z hz=>?_,?_⟩⟩⟩⟩⟩
    ·have e:x=1:=by simpa[AX] using e
     subst e;exact hφ
    ·have e:x=2:=by simpa[AX] using e
     subst e;exact hφ
    ·obtain rfl:j=0:=by omega
     rfl
    ·have e:x=3:=by simpa[AX] using e
     subst e;exact agX (by omega) m1 hw hφ q.length 0 (by omega)
    ·obtain rfl:j=0:=by omega
     rfl
    ·have e:x=4:=by simpa[AX] using e
     subst e;exact agY (by omega) m2 hw hφ ps.length 0 (by omega)
    ·simp at hz;subst hz;exact hw
    ·have e1:¬x=1:=by simpa[AX] using e1
     have e2:¬x=2:=by simpa[AX] using e2
     have e3:¬x=3:=by simpa[AX] using e3
     have e4:¬x=4:=by simpa[AX] using e4
     have e:JZ ⟨x,y,q,ps⟩=[EP x]:=by simp[JZ,e1,e2,e3,e4]
     rw[e] at hφ;exact hφ
  ·exact h.elim
 ·exact h.elim
end Go.Proofs
namespace Go.Sx
open Go.RowKit Go.Lib
section
variable{P:Program}
theorem QI(w:World)(dT sT ty elem:TypeId)(sz g o dLen dCap:Nat)(a:Addr)(sLen sCap:Nat)(cur:Array Value)(t:TypeId)(cs:List Value)
  (hu:P.underlying dT=ak (.slice elem)) (hs:(P.info? elem).map (·.size)=ak sz)
  (hg:w.heap[g]?=ak (.cells cur t (0,0))) (hn:cs.length=qc sLen dLen*sz)
  (hsrc:∀j v,cs[j]?=ak v->w.cell? (a.add j)=ak v) (hfit:o+cs.length<=cur.size) (h1:∀v∈cs,v.oneCell'=aC) :
  (jX #[dT,sT] ty #[.slice (ak ⟨g,o,aK⟩) dLen dCap,.slice (ak a) sLen sCap]).run P w =
   .ok (goInt (qc sLen dLen)) (w.setRow g (cur.toList.take o++cs++cur.toList.drop (o+cs.length)).toArray):=by
 have hl:=run_loadCells_list (P:=P) w a cs hsrc;have hst:=run_storeCells_at P g o t cs 0 cur w hg (by simpa using hfit) h1;cases hq:P.info? elem with
 |none=>simp[hq] at hs |some i=>
  have hi:i.size=sz:=by simpa[hq] using hs
  simp[jX,run_underlying hu,Builtin.lenOf,gJ,sizeOf,typeInfo,hq,hi,<-hn,hl,hst]
end
end Go.Sx
namespace Go.Proofs
open Go Go.Sx Go.RowKit Go.Lib
theorem info116:∃(i:TypeInfo) (z:Value),aA.info? 272=ak i/\i.size=2/\i.bytes=16/\i.zero=ak z/\z.cells.size=2/\∃cs,z=.agg cs:=by
 obtain ⟨inf,z,h1,h2,h3,h4,_,h6,h7,_⟩:=((dD noSpec AP).ty 272 ⟨.struct [(0,1,ay),(1,1,ay)],2,16,[.int .i64 0,.int .i64 0]⟩ (by kernel_rfl)).info;exact ⟨inf,z,h1,h2,h3,h4,h6,h7 rfl⟩
set_option maxHeartbeats 4000000 in
set_option maxRecDepth 100000 in
theorem ai6(w:World)(g n c i vb vc:Nat)(cur:Array Value)(cs vs:List Value)(hg:w.heap[g]?=ak (.cells cur 272 (0,0)))(NR:Array Value)(hgb:w.heap[vb]?=ak (.cells NR 272 (0,0)))
  (hi:i<n) (hroom:n+1<=c) (hc63:c<=9223372036854775807) (hvb:vb≠g) (hcap:cur.size=c*2) (hcs:cur.toList.take (n*2)=cs) (hvs:NR.toList.take 2=vs) (hvl:vs.length=2) (hv2:2<=NR.size)
  (h1c:∀v∈cs,v.oneCell'=aC) (h1v:∀v∈vs,v.oneCell'=aC) :
  Calls aA 182 #[.slice (ak ⟨g,0,aK⟩) n c,.int .i64 i,.slice (ak ⟨vb,0,aK⟩) 1 vc] w fun e w'=>
   e=.returned (.slice (ak ⟨g,0,aK⟩) (n+1) c)/\∃cur',w'.heap[g]?=ak (.cells cur' 272 (0,0))/\cur'.size=c*2/\cur'.toList.take ((n+1)*2)=cs.take (i*2)++vs++cs.drop (i*2)/\w.grownBy w' (ak g):=by
 obtain ⟨inf,z,i1,i2,i3,i4,i5,_⟩:=info116;have hsz:(aA.info? 272).map (·.size)=ak 2:=by rw[i1];simp[i2]
 have hse:∀w,(nJ 272).run aA w=.ok 2 w:=fun w=>by simp[nJ,typeInfo,i1,i2]
 have hov:∀lb cb,(callFunc 206 #[.slice (ak ⟨vb,0,aK⟩) 1 vc,.slice (ak ⟨g,(i+1)*2,aK⟩) lb cb]).run aA w=.ok (.value (.bool ay)) w:=fun lb cb=>by
  rw[run_callFunc_extern Tryz.func206 (by kernel_rfl) (by kernel_rfl) (by kernel_rfl) (e:=sW #[209,209] #[4]) (by kernel_rfl),
   Lib.run_overlaps_apart w 209 4 272 iC 2 hse ⟨vb,0,aK⟩ ⟨g,(i+1)*2,aK⟩ 1 vc lb cb hvb 272 272 NR.size cur.size (by simp[xC,hgb]) (by simp[xC,hg]) (by omega) (by simp[wW,hgb]) (by simp[wW,hgb])]
  rfl
 have hw1:aW.wrap ((i:Int)+1)=(i:Int)+1:=by rw[iZ];omega
 have hw2:aW.wrap ((n:Int)+1)=(n:Int)+1:=by rw[iZ];omega
 have hcl:cs.length=n*2:=by rw[<-hcs,cu,bV];omega
 have hdl:(cs.drop (i*2)).length=(n - i)*2:=by rw[dS,hcl];omega
 obtain ⟨R1,hR1⟩:∃R1,R1=(cur.toList.take ((i+1)*2)++cs.drop (i*2)++cur.toList.drop ((i+1)*2+(cs.drop (i*2)).length)).toArray:=⟨_,rfl⟩;have ag0:R1.size=c*2:=by rw[hR1];simp only[gW,bC,cu,dS,bV,hcl];omega
 obtain ⟨R2,hR2⟩:∃R2,R2=(R1.toList.take (i*2)++vs++R1.toList.drop (i*2+vs.length)).toArray:=⟨_,rfl⟩;have hcur:∀j v,cs[j]?=ak v->cur.toList[j]?=ak v:=fun j v hj=>by
  rw[<-hcs,bY] at hj;split at hj
  ·exact hj
  ·cases hj
 have hcp1:∀(W:World),W.heap[g]?=ak (.cells cur 272 (0,0))->∀ty dc sc,(jX #[209,209] ty #[.slice (ak ⟨g,(i+1)*2,aK⟩) (n - i) dc,.slice (ak ⟨g,i*2,aK⟩) (n+1 - i) sc]).run aA W=.ok (goInt ((n - i:Nat):Int)) (W.setRow g R1):=fun W hW ty dc sc=>by
  have hmin:qc (n+1 - i) (n - i)=n - i:=by simp only[sZ];split<;>omega
  have:=QI W 209 209 ty 272 2 g ((i+1)*2) (n - i) dc ⟨g,i*2,aK⟩ (n+1 - i) sc cur 272 (cs.drop (i*2)) iC hsz hW (by rw[hmin,hdl]) (fun j v hj=>by
    rw[eY,cell_of_row W g _ cur 272 (0,0) hW];rw[eP] at hj;have:=hcur _ _ hj;simpa using this) (by rw[hdl,hcap];omega) (fun v hv=>h1c v (jy hv))
  rw[hmin,<-hR1] at this;exact this
 have hcp2:∀(W:World),W.heap[g]?=ak (.cells R1 272 (0,0))->W.heap[vb]?=ak (.cells NR 272 (0,0))->∀ty dc,(jX #[209,209] ty #[.slice (ak ⟨g,i*2,aK⟩) (n+1 - i) dc,.slice (ak ⟨vb,0,aK⟩) 1 vc]).run aA W=.ok (goInt 1) (W.setRow g R2):=fun W hW hW2 ty dc=>by
  have hmin:qc 1 (n+1 - i)=1:=by simp only[sZ];split<;>omega
  have:=QI W 209 209 ty 272 2 g (i*2) (n+1 - i) dc ⟨vb,0,aK⟩ 1 vc R1 272 vs iC hsz hW (by rw[hmin,hvl]) (fun j v hj=>by
    rw[eY,cell_of_row W vb _ NR 272 (0,0) hW2];rw[<-hvs,bY] at hj;split at hj
    ·simpa using hj
    ·cases hj) (by rw[hvl,ag0];omega) h1v
  rw[hmin,<-hR2] at this;exact this
 have hfin:R2.size=c*2/\R2.toList.take ((n+1)*2)=cs.take (i*2)++vs++cs.drop (i*2):=by
  have hl1:R1.toList.length=c*2:=by rw[bV,ag0]
  refine ⟨by rw[hR2];simp only[gW,bC,cu,dS,hl1,hvl];omega,?_⟩;have ht1:R1.toList.take (i*2)=cs.take (i*2):=by
   rw[hR1];simp only[dV];rw[List.take_append_of_le_length (by rw[cu,bV];omega),wX,<-hcs,wX];congr 1;omega
  have hd1:R1.toList.drop (i*2+2)=cs.drop (i*2)++cur.toList.drop ((n+1)*2):=by
   rw[hR1];have e1:(cur.toList.take ((i+1)*2)).length=i*2+2:=by rw[cu,bV];omega
   simp only[dV];have e3:List.drop (i*2+2) (cur.toList.take ((i+1)*2)++(cs.drop (i*2)++cur.toList.drop ((i+1)*2+(cs.drop (i*2)).length)))=cs.drop (i*2)++cur.toList.drop ((i+1)*2+(cs.drop (i*2)).length):=by
    conv=>lhs;rw[<-e1]
    exact List.drop_left
   rw[e3,hdl];congr 2;omega
  rw[hR2,hvl,hd1,ht1];simp only[<-dV];have e2:(cs.take (i*2)++vs++cs.drop (i*2)).length=(n+1)*2:=by
   rw[bC,bC,cu,hvl,hdl,hcl];omega
  rw[<-e2];exact lF
 have hgl:g<w.heap.size:=(bH.1 hg).1;have mixed:aA.follows .mixedOrders=aC:=tX;have hb1:(0:Int)<=(i:Int)+1:=by omega
 have hin:i<=n:=by omega
 have htn:((i:Int)+1).toNat=i+1:=by omega
 have hb2:¬(c=i+1):=by omega
 have hb3:(i:Int)<=(n:Int)+1:=by omega
 have hb4:¬(c=i):=by omega
 clear hcs hvs h1c h1v hcur hR1 hR2;have hc2:=hcp2 (w.drew.setRow g R1) (setRow_heap w.drew g cur R1 272 (0,0) hg) (by rw[setRow_other _ _ _ _ hvb];exact hgb) 3 (c - i);go_enter nY,nK
 go_wp2_with (simp only[hov])
 go_region_law_o (refine step_copy_runI rfl (.tmp 73) (.tmp 76) 209 209 rfl (.slice (ak ⟨g,(i+1)*2,aK⟩) (n - i) (c - (i+1))) (.slice (ak ⟨g,i*2,aK⟩) (n+1 - i) (c - i)) (by simp[tq,uH]) (by simp[tq,uH]) (hcp1 w.drew hg 3 (c - (i+1)) (c - i)) ?_)
 go_wp2
 go_ret
 refine ⟨rfl,R2,setRow_heap _ g R1 R2 272 (0,0) (setRow_heap w.drew g cur R1 272 (0,0) hg),hfin.1,hfin.2,⟨rfl,rfl,rfl,by simp[xE],fun k hk hne=>?_⟩⟩;have hkg:k≠g:=fun e=>hne (by rw[e]);rw[setRow_other _ _ _ _ hkg,setRow_other _ _ _ _ hkg];rfl
set_option maxHeartbeats 4000000 in
set_option maxRecDepth 100000 in
theorem aoh(w:World)(v x:Value)(n vc:Nat)(xs news:List Value)(vb:Nat)(hv:w.ownsRow 0 272 2 v n xs)(hx:x=.slice (ak ⟨vb,0,aK⟩) 1 vc)(hnews:∀j u,news[j]?=ak u->w.cell? ((⟨vb,0,aK⟩:Addr).add j)=ak u)(hl:news.length=2)(h1:∀u∈news,u.oneCell'=aC)
  (h63:n+1<=maxLen) (hbytes:(n+1)*16<=140737488355328) :
  Calls aA 182 #[v,.int .i64 n,x] w fun e w'=>∃v',e=.returned v'/\w'.ownsRow 0 272 2 v' (n+1) (xs++news)/\w.grownBy w' (AL v)/\∀b,AL v'=ak b->AL v=ak b\/w.heap.size<=b:=by
 obtain ⟨inf,z,i1,i2,i3,i4,i5,_⟩:=info116;obtain ⟨v',w',hr,h2,h3,h4⟩:=RX (P:=aA) (w:=w) 209 209 272 inf z 2 16 iC i1 i4 i2 i3 i5 (by decide) v n xs hv ⟨vb,0,aK⟩ 1 vc news (by rw[hl]) hnews h1 h63 hbytes;subst hx;have hsmall:n+1<=9223372036854775807:=by simp only[maxLen] at h63;omega
 have avZ:v=.slice aK 0 0/\n=0\/∃g c,v=.slice (ak ⟨g,0,aK⟩) n c/\n<=c/\c<=9223372036854775807:=by
  rcases hv.2 with ⟨e1,e2⟩ |⟨g,c,cur,e1,_,_,e2,e3,_⟩
  ·exact .inl ⟨e1,e2⟩
  ·exact .inr ⟨g,c,e1,e2,by simp only[maxLen] at e3;omega⟩
 clear hv hnews h1;rcases avZ with ⟨rfl,rfl⟩ |⟨g,c,rfl,hnc,hc63⟩
 ·go_enter nY,nK
  go_wp2_with (at_builtin;refine kF _ rfl _ _ _ _ rfl _ _ rfl rfl _ _ hr ?_)
  go_ret
  exact ⟨v',rfl,h2,h3,h4⟩
 ·go_enter nY,nK
  go_wp2_with (at_builtin;refine kF _ rfl _ _ _ _ rfl _ _ rfl rfl _ _ hr ?_)
  all_goals
   go_ret
   exact ⟨v',rfl,h2,h3,h4⟩
set_option maxHeartbeats 4000000 in
set_option maxRecDepth 100000 in
theorem alX(w:World)(g n c i vb vc:Nat)(cur:Array Value)(cs vs:List Value)(hg:w.heap[g]?=ak (.cells cur 272 (0,0)))(NR:Array Value)(hgb:w.heap[vb]?=ak (.cells NR 272 (0,0)))
  (hi:i<n) (hnc:n<=c) (hroom:c<n+1) (hn63:n+1<=maxLen) (hbig:(n+1)*16<=140737488355328) (hcap:cur.size=c*2) (hcs:cur.toList.take (n*2)=cs) (hvs:NR.toList.take 2=vs) (hvl:vs.length=2)
  (h1c:∀v∈cs,v.oneCell'=aC) (h1v:∀v∈vs,v.oneCell'=aC) :
  Calls aA 182 #[.slice (ak ⟨g,0,aK⟩) n c,.int .i64 i,.slice (ak ⟨vb,0,aK⟩) 1 vc] w fun e w'=>
   ∃G cur',e=.returned (.slice (ak ⟨w.heap.size,0,aK⟩) (n+1) G)/\w'.heap[w.heap.size]?=ak (.cells cur' 272 (0,0))/\n+1<=G/\G<=maxLen/\cur'.size=G*2/\cur'.toList.take ((n+1)*2)=cs.take (i*2)++vs++cs.drop (i*2)/\w.grownBy w' (ak g):=by
 obtain ⟨inf,z,i1,i2,i3,i4,i5,zs,hz⟩:=info116;have hsz:(aA.info? 272).map (·.size)=ak 2:=by rw[i1];simp[i2]
 have hse:∀w,(nJ 272).run aA w=.ok 2 w:=fun w=>by simp[nJ,typeInfo,i1,i2]
 have hsmall:n+1<=9223372036854775807:=by simp only[maxLen] at hn63;omega
 have hw1:aW.wrap ((i:Int)+1)=(i:Int)+1:=by rw[iZ];omega
 have hw2:aW.wrap ((n:Int)+1)=(n:Int)+1:=by rw[iZ];omega
 have hw3:aW.wrap ((n:Int)+1 - (i:Int))=(n:Int)+1 - (i:Int):=by rw[iZ];omega
 have hcl:cs.length=n*2:=by rw[<-hcs,cu,bV];omega
 have hdl:(cs.drop (i*2)).length=(n - i)*2:=by rw[dS,hcl];omega
 have htl:(cs.take (i*2)).length=i*2:=by rw[cu,hcl];omega
 have hcur:∀j v,cs[j]?=ak v->cur.toList[j]?=ak v:=fun j v hj=>by
  rw[<-hcs,bY] at hj;split at hj
  ·exact hj
  ·cases hj
 have hgl:g<w.heap.size:=(bH.1 hg).1;have av1:vb<w.heap.size:=(bH.1 hgb).1;have hold:(gJ inf.size i (.slice (ak ⟨g,0,aK⟩) i c)).run aA w.drew=.ok (cs.take (i*2)).toArray w.drew:=by
  rw[i2];exact run_firstCells_some w.drew 2 i ⟨g,0,aK⟩ i c (cs.take (i*2)) htl (fun j v hj=>by
   rw[eY,cell_of_row w.drew g _ cur 272 (0,0) hg];rw[bY] at hj;split at hj
   ·have:=hcur _ _ hj
    simpa using this
   ·cases hj)
 obtain ⟨G,hG⟩:∃G,G=grownCap w (n+1) c 272:=⟨_,rfl⟩;obtain ⟨ROW,hROW⟩:∃ROW:Array Value,ROW=(cs.take (i*2)).toArray++jk z.cells (n+1 - i)++jk z.cells (G - (n+1)):=⟨_,rfl⟩;have hGn:n+1<=G:=by rw[hG];exact grownCap_ge w _ _ _
 have hGm:G<=maxLen:=by rw[hG];exact grownCap_le_maxLen w (n+1) c 272 hn63
 have hG63:G<=9223372036854775807:=by simp only[maxLen] at hGm;omega
 have hrz:∀ty,(eG #[209,3] ty #[.slice (ak ⟨g,0,aK⟩) i c,.int .i64 ((n:Int)+1 - (i:Int))]).run aA w =
   .ok (.slice (ak ⟨w.heap.size,0,aK⟩) (n+1) G) (w.drew.alloc (.cells ROW 272)):=fun ty=>by
  have h:=qN w 209 3 ty 272 inf z .i64 .i64 iC pO i1 i4 (ak ⟨g,0,aK⟩) i c (cs.take (i*2)) hold (n+1 - i) (by omega) (by omega) (by omega) (by omega) (by rw[i3];omega) (by rw[i3,show i+(n+1 - i)=n+1 by omega];exact growslice_fits (by omega) hbig);rw[show i+(n+1 - i)=n+1 by omega,show (((n+1 - i:Nat)):Int)=(n:Int)+1 - (i:Int) by omega,<-hG,<-hROW] at h;exact h
 have hRs:ROW.size=G*2:=by
  rw[hROW];simp only[oq,gW,size_zeroCells,i5,htl];omega
 obtain ⟨R1,hR1⟩:∃R1,R1=(ROW.toList.take (i*2)++vs++ROW.toList.drop (i*2+vs.length)).toArray:=⟨_,rfl⟩;have ag0:R1.size=G*2:=by rw[hR1];simp only[gW,bC,cu,dS,bV,hvl];omega
 obtain ⟨R2,hR2⟩:∃R2,R2=(R1.toList.take ((i+1)*2)++cs.drop (i*2)++R1.toList.drop ((i+1)*2+(cs.drop (i*2)).length)).toArray:=⟨_,rfl⟩;obtain ⟨W1,hW1⟩:∃W1,W1=w.drew.alloc (.cells ROW 272):=⟨_,rfl⟩;rw[<-hW1] at hrz;have asC:W1.heap[w.heap.size]?=ak (.cells ROW 272 (0,0)):=by rw[hW1];exact heap_alloc_new w.drew _
 have aoj:∀k,k<w.heap.size->W1.heap[k]?=w.heap[k]?:=fun k hk=>by rw[hW1];first|exact wE w.drew _ k hk|exact heap_alloc_old w.drew _ hk
 have hcp1:(jX #[209,209] 3 #[.slice (ak ⟨w.heap.size,i*2,aK⟩) (n+1 - i) (G - i),.slice (ak ⟨vb,0,aK⟩) 1 vc]).run aA W1=.ok (goInt 1) (W1.setRow w.heap.size R1):=by
  have hmin:qc 1 (n+1 - i)=1:=by simp only[sZ];split<;>omega
  have:=QI W1 209 209 3 272 2 w.heap.size (i*2) (n+1 - i) (G - i) ⟨vb,0,aK⟩ 1 vc ROW 272 vs iC hsz asC (by rw[hmin,hvl]) (fun j v hj=>by
    rw[eY,cell_of_row W1 vb _ NR 272 (0,0) (by rw[aoj vb av1];exact hgb)];rw[<-hvs,bY] at hj;split at hj
    ·simpa using hj
    ·cases hj) (by rw[hvl,hRs];omega) h1v
  rw[hmin,<-hR1] at this;exact this
 have asD:(W1.setRow w.heap.size R1).drew.heap[w.heap.size]?=ak (.cells R1 272 (0,0)):=setRow_heap W1 w.heap.size ROW R1 272 (0,0) asC;have hcp2:(jX #[209,209] 3 #[.slice (ak ⟨w.heap.size,(i+1)*2,aK⟩) (n - i) (G - (i+1)),.slice (ak ⟨g,i*2,aK⟩) (n - i) (c - i)]).run aA (W1.setRow w.heap.size R1).drew=.ok (goInt ((n - i:Nat):Int)) ((W1.setRow w.heap.size R1).drew.setRow w.heap.size R2):=by
  have hmin:qc (n - i) (n - i)=n - i:=Nat.min_self _;have:=QI (W1.setRow w.heap.size R1).drew 209 209 3 272 2 w.heap.size ((i+1)*2) (n - i) (G - (i+1)) ⟨g,i*2,aK⟩ (n - i) (c - i) R1 272 (cs.drop (i*2)) iC hsz asD (by rw[hmin,hdl]) (fun j v hj=>by
    rw[eY,cell_of_row (W1.setRow w.heap.size R1).drew g _ cur 272 (0,0) (by
     show (W1.setRow w.heap.size R1).heap[g]?=_;rw[setRow_other _ _ _ _ (by omega),aoj g hgl];exact hg)]
    rw[eP] at hj;have:=hcur _ _ hj;simpa using this) (by rw[hdl,ag0];omega) (fun v hv=>h1c v (jy hv))
  rw[hmin,<-hR2] at this;exact this
 have hfin:R2.size=G*2/\R2.toList.take ((n+1)*2)=cs.take (i*2)++vs++cs.drop (i*2):=by
  have hl1:R1.toList.length=G*2:=by rw[bV,ag0]
  refine ⟨by rw[hR2];simp only[gW,bC,cu,dS,hl1,hdl];omega,?_⟩;have ht0:ROW.toList.take (i*2)=cs.take (i*2):=by
   rw[hROW];simp only[Array.toList_append,dV];exact List.take_left' htl
  have ht1:R1.toList.take ((i+1)*2)=cs.take (i*2)++vs:=by
   rw[hR1,ht0];have e1:(cs.take (i*2)++vs).length=(i+1)*2:=by rw[bC,htl,hvl];omega
   rw[<-e1];exact lF
  rw[hR2,ht1];have e2:(cs.take (i*2)++vs++cs.drop (i*2)).length=(n+1)*2:=by
   rw[bC,bC,htl,hvl,hdl];omega
  rw[<-e2];exact lF
 have mixed:aA.follows .mixedOrders=aC:=tX;have hb1:(0:Int)<=(i:Int)+1:=by omega
 have hin:i<=n:=by omega
 have htn:((i:Int)+1).toNat=i+1:=by omega
 have hb2:¬(c=i+1)\/c=i+1:=by omega
 have hb3:(i:Int)<=(n:Int)+1:=by omega
 have hb4:¬(c=i):=by omega
 have hGi:¬(G=i):=by omega
 have hGim:¬(G=i+1):=by omega
 have hz1:¬((i:Int)=(n:Int)):=by omega
 have hz3:(c:Int)<(n:Int)+1:=by omega
 have hr1:=hrz 209;have hsz1:W1.heap.size=w.heap.size+1:=by rw[hW1];simp
 have hos:W1.os=w.os/\W1.tape=w.tape/\W1.output=w.output:=by rw[hW1];exact ⟨rfl,rfl,rfl⟩
 clear hcs hvs h1c h1v hcur hR1 hR2 hROW hG hold hrz hb2 hW1;go_enter nY,nK
 go_wp2_with (first
  |(at_builtin;refine kF _ rfl _ _ _ _ rfl _ _ rfl rfl _ _ hr1 ?_))
 go_region_law_o (refine step_copy_runI rfl (.tmp 50) (.tmp 53) 209 209 rfl (.slice (ak ⟨w.heap.size,(i+1)*2,aK⟩) (n - i) (G - (i+1))) (.slice (ak ⟨g,i*2,aK⟩) (n - i) (c - i)) (by simp[tq,uH]) (by simp[tq,uH]) hcp2 ?_)
 go_wp2
 go_ret
 refine ⟨G,R2,rfl,setRow_heap _ w.heap.size R1 R2 272 (0,0) asD,hGn,hGm,hfin.1,hfin.2,⟨hos.1,hos.2.1,hos.2.2,?_,fun k hk hne=>?_⟩⟩
 ·have:((W1.setRow w.heap.size R1).drew.setRow w.heap.size R2).heap.size=W1.heap.size:=by simp[xE,World.drew]
  rw[this,hsz1];omega
 ·have hkg:k≠w.heap.size:=by omega
  rw[setRow_other _ _ _ _ hkg];show (W1.setRow w.heap.size R1).heap[k]?=_;rw[setRow_other _ _ _ _ hkg,aoj k hk]
theorem arC:aiH aA 182 272 2 16:=by
 intro w v x n i xs news hv hx hne h1 h1n hi h63 hbytes;have hl:news.length=2:=by rw[hx.1]
 rcases hx.2 with ⟨_,h0⟩ |⟨vb,vc,NR,ex,_,hgb,hvc,hvm,hvs,hvt⟩
 ·omega
 have hb2:AL x=ak vb:=by rw[ex];rfl
 have hcell:∀j u,news[j]?=ak u->w.cell? ((⟨vb,0,aK⟩:Addr).add j)=ak u:=fun j u hj=>by
  rw[eY,cell_of_row w vb _ NR 272 (0,0) hgb];rw[<-hvt,bY] at hj;split at hj
  ·simpa using hj
  ·cases hj
 by_cases hin:i=n
 ·subst hin
  refine (aoh w v x i vc xs news vb hv ex hcell hl h1n h63 hbytes).mono fun e w' ⟨v',e1,e2,e3,e4⟩=>⟨v',e1,?_,e3,e4⟩;rw[List.take_of_length_le (by rw[hv.1];exact dn _),List.drop_of_length_le (by rw[hv.1];exact dn _),List.append_nil];exact e2
 rcases hv.2 with ⟨_,h0⟩ |⟨g,c,cur,ev,_,hg,hnc,hcm,hcs,hct⟩
 ·omega
 have hb:AL v=ak g:=by rw[ev];rfl
 have hvg:vb≠g:=fun e=>hne g hb (by rw[hb2,e]);have hlen:(xs.take (i*2)++news++xs.drop (i*2)).length=(n+1)*2:=by
  rw[bC,bC,cu,dS,hl,hv.1];omega
 have asE:NR.toList.take 2=news:=by simpa using hvt
 by_cases hroom:n+1<=c
 ·rw[hb,ev,ex]
  refine (ai6 w g n c i vb vc cur xs news hg NR hgb (by omega) hroom (by simp only[maxLen] at hcm;omega) hvg hcs hct asE hl (by omega) h1 h1n).mono fun e w' ⟨e1,cur',e2,e3,e4,e5⟩=>⟨_,e1,⟨hlen,.inr ⟨g,c,cur',rfl,gV _,e2,hroom,hcm,e3,e4⟩⟩,e5,fun b hb'=>.inl hb'⟩
 ·rw[hb,ev,ex]
  refine (alX w g n c i vb vc cur xs news hg NR hgb (by omega) hnc (by omega) h63 hbytes hcs hct asE hl h1 h1n).mono fun e w' ⟨G,cur',e1,e2,e3,e4,e5,e6,e7⟩=>⟨_,e1,⟨hlen,.inr ⟨w.heap.size,G,cur',rfl,gV _,e2,e3,e4,e5,e6⟩⟩,e7,fun b hb'=>.inr (by simp[AL] at hb';omega)⟩
end Go.Proofs
namespace Go.Pl
open Go Go.Sx
structure Lm7 where
 pos:Nat->(Nat->List Sh)->Int->Nat
 has:Nat->(Nat->List Sh)->Int->Bool
 wf:Nat->(Nat->List Sh)->Int->Bool
end Go.Pl
namespace Go.Proofs
open Go Go.Sx Go.Pl
def Tc:List It:=[bD [0,0,1,1,1],dw 0,bD [1,1,1,1]]
def aok:List It:=bD [0,0,0,1,1,1]::Tc
def Td(n:Nat)(p:Nat->Pr)(key i j:Int):Core:={tm:=G6 49 [(0,.sh (.sl 2 n (Aj p))),(1,.sym .i64 key),(2,.fn 205 []),(8,.sym .i64 (n:Int)),(9,.sym .i64 i),(10,.sym .i64 j)],hp:=[],nx:=0,lim:=L0,tc:=[]}
theorem av2(A:Prim)(W:Wd)(n:Nat)(p:Nat->Pr)(key i' j':Int):Bj (C7 A W noSpec AU) BL 300 400 204 [.code []] (Ap 49 [.sl 2 n (Aj p),.i .i64 key,.fn 205 []] L0) [] [⟨204,Tc,Td n p key i' j',[]⟩]=aB (bK 0 [aO (aG 2 n (Aj p)) (aG 2 n (Aj p)),aj key key,aj (A.AZ n) (ah n),aj (ah 0) i',aj (A.AZ n) j']):=by kernel_rfl
theorem aol(A:Prim)(W:Wd)(n:Nat)(p:Nat->Pr)(key i j i' j':Int):Bj (C7 A W noSpec AU) BL 300 400 204 aok (Td n p key i j) [] [⟨204,Tc,Td n p key i' j',[]⟩]=aF (A.lt i j) (aH (A.inB (A.conv .i64 (A.bin qO l7 (A.conv .u64 (A.add .i64 i j)) (ah 1))) n) (aF (A.lt (A.sub .i64 (p (A.toN (A.conv .i64 (A.bin qO l7 (A.conv .u64 (A.add .i64 i j)) (ah 1))))).key key) (ah 0)) (aB (bK 0 [aO (aG 2 n (Aj p)) (aG 2 n (Aj p)),aj key key,aj (ah n) (ah n),aj (A.add .i64 (A.conv .i64 (A.bin qO l7 (A.conv .u64 (A.add .i64 i j)) (ah 1))) (ah 1)) i',aj j j'])) (aB (bK 0 [aO (aG 2 n (Aj p)) (aG 2 n (Aj p)),aj key key,aj (ah n) (ah n),aj i i',aj (A.conv .i64 (A.bin qO l7 (A.conv .u64 (A.add .i64 i j)) (ah 1))) j'])))) (aF (A.lt i (ah n)) (aH (A.inB i n) (aB (aT (cZ [aY .i64 i,Sh.b (A.eq (A.sub .i64 (p (A.toN i)).key key) (ah 0))])))) (aB (aT (cZ [aY .i64 i,Sh.b ay])))):=by kernel_rfl
end Go.Proofs
namespace Go.Pl
open Go Go.Sx Go.Proofs
def QJ(ps:List Pr):Bool:=decide (ps.Pairwise fun a b=>a.key<b.key)&&ps.all fun p=>decide (0<=p.key/\p.key<=1000)
def EF(key:Int):Bool:=decide (0<=key/\key<=1000)
def Ce(ps:List Pr)(key:Int):Nat:=(ps.takeWhile fun p=>decide (p.key<key)).length
def En(ps:List Pr)(key:Int):Bool:=ps.any fun p=>p.key==key
theorem ag1:∀{ps:List Pr} {key:Int} {k:Nat},k<=ps.length->(∀t (h:t<ps.length),t<k->ps[t].key<key)->(∀t (h:t<ps.length),k<=t->key<=ps[t].key)->Ce ps key=k
 |[],key,k,hk,_,_=>by simp at hk;subst hk;rfl |a::ps,key,0,_,_,h2=>by
  have:=h2 0 (by simp) (dn _);simp only[rE] at this;have hd:decide (a.key<key)=ay:=decide_eq_false (by omega);simp[Ce,jA,hd]
 |a::ps,key,k+1,hk,h1,h2=>by
  have ha:=h1 0 (by simp) (by omega);simp only[rE] at ha;have hd:decide (a.key<key)=aC:=decide_eq_true ha;have ih:=ag1 (ps:=ps) (key:=key) (k:=k) (by simpa using hk) (fun t ht hlt=>h1 (t+1) (by simp;omega) (by omega)) (fun t ht hle=>h2 (t+1) (by simp;omega) (by omega));unfold Ce at ih ⊢;simp only[jA,hd,iU,ih]
theorem ag2{ps:List Pr}{key:Int}{k:Nat}(hs:ps.Pairwise fun a b=>a.key<b.key)(h1:∀t (h:t<ps.length),t<k->ps[t].key<key)(h2:∀t (h:t<ps.length),k<=t->key<=ps[t].key):
  En ps key=aC↔∃h:k<ps.length,ps[k].key=key:=by
 unfold En;rw[List.any_eq_true];constructor
 ·rintro ⟨x,hx,he⟩
  obtain ⟨t,ht,rfl⟩:=List.getElem_of_mem hx;have he:ps[t].key=key:=by simpa using he
  have htk:¬t<k:=fun h=>by have:=h1 t ht h;omega
  have hkl:k<ps.length:=by omega
  refine ⟨hkl,?_⟩;by_cases e:t=k
  ·subst e;exact he
  ·have hlt:ps[k].key<ps[t].key:=jF.1 hs k t hkl ht (by omega)
   have:=h2 k hkl (dn _);omega
 ·rintro ⟨h,he⟩
  exact ⟨ps[k],kN _,by simp[he]⟩
theorem Hr{ps:List Pr}(h:QJ ps=aC):ps.Pairwise fun a b=>a.key<b.key:=by
 simp only[QJ,aI] at h;exact of_decide_eq_true h.1
theorem aom{ps:List Pr}(h:QJ ps=aC){t:Nat}(ht:t<ps.length):0<=ps[t].key/\ps[t].key<=1000:=by
 simp only[QJ,aI] at h;have:=dF.1 h.2 ps[t] (kN _);exact of_decide_eq_true this
theorem arD{i j:Nat}(h:i+j<=1000000):Ai.conv .i64 (Ai.bin .shr .u64 (Ai.conv .u64 (Ai.add .i64 i j)) (ah 1))=(((i+j) / 2:Nat):Int):=by
 have e1:Ai.add .i64 i j=((i+j:Nat):Int):=by rw[Dq,Cj (by omega) (by omega)];omega
 rw[e1];have e2:Ai.conv .u64 ((i+j:Nat):Int)=((i+j:Nat):Int):=by
  show l7.wrap _=_;rw[IntKind.wrap_u64];omega
 rw[e2];have e3:Ai.bin .shr .u64 ((i+j:Nat):Int) (ah 1)=(((i+j) / 2:Nat):Int):=by
  show Int.fdiv ((i+j:Nat):Int) (2^(min 1 64))=_;rw[show (min 1 64)=1 from rfl,Int.fdiv_eq_ediv_of_nonneg _ (by decide)];omega
 rw[e3];show aW.wrap _=_;exact Cj (by omega) (by omega)
end Go.Pl
namespace Go.Proofs
open Go Go.Sx Go.Pl
def aon:List Sh->Tree Sh
 |[.sl 2 n g,.i .i64 key,.fn 205 []]=>.need (okB Pr n g) (.need (decide (n<=100000)) (.need (QJ (lst Pr n g)) (.need (EF key) (.leaf (.AQ [.i .i64 (Ce (lst Pr n g) key),.b (En (lst Pr n g) key)]))))) |_=>.fail
theorem abJ{H0:Mem}{w0:World}{n:Nat}{p:Nat->Pr}{key:Int}{φ:Sh->Prop}(hn:n<=100000)(hs:QJ ((aZ n).map p)=aC)(hk:EF key=aC)
  (hφ:φ (.AQ [.i .i64 (Ce ((aZ n).map p) key),.b (En ((aZ n).map p) key)])) :
  ∀m i j,j - i<=m->i<=j->j<=n->(∀t,t<i->(p t).key<key)->(∀t,t<n->j<=t->key<=(p t).key)->Bz aA (C7 Ai W7 noSpec AU) (K0 H0 w0) 204 Tc (Td n p key i j) [] emp φ
 |m,i,j,hm,hij,hjn,h1,h2=>by
  have hkey:0<=key/\key<=1000:=of_decide_eq_true hk;have hp:∀t,t<n->0<=(p t).key/\(p t).key<=1000:=fun t ht=>by
   have:=aom hs (t:=t) (by simpa using ht);simpa using this
  have hso:=Hr hs;have hlt:∀a b,a<b->b<n->(p a).key<(p b).key:=fun a b hab hb=>by
   have:=jF.1 hso a b (by simp;omega) (by simpa using hb) hab;simpa using this
  have sub_eq:∀t,t<n->Ai.sub .i64 (p t).key key=(p t).key - key:=fun t ht=>by
   have:=hp t ht;rw[Na,Cj (by omega) (by omega)]
  have hfin:i=j->(i<n->(p i).key=key->φ (.AQ [.i .i64 i,.b aC]))/\((i<n->(p i).key≠key)->φ (.AQ [.i .i64 i,.b ay])):=fun e=>by
   subst e;have hl:((aZ n).map p).length=n:=by simp
   have q1:∀t (h:t<((aZ n).map p).length),t<i->((aZ n).map p)[t].key<key:=fun t ht hlt=>by simpa using h1 t hlt
   have q2:∀t (h:t<((aZ n).map p).length),i<=t->key<=((aZ n).map p)[t].key:=fun t ht hle=>by simpa using h2 t (by simpa using ht) hle
   rw[ag1 (k:=i) (by rw[hl];exact hjn) q1 q2] at hφ;have hh:=ag2 hso q1 q2;constructor
   ·intro a b
    have:En ((aZ n).map p) key=aC:=hh.2 ⟨by rw[hl];exact a,by simpa using b⟩;rwa[this] at hφ
   ·intro a
    have:En ((aZ n).map p) key=ay:=by
     cases hx:En ((aZ n).map p) key with
     |false=>rfl |true=>
      obtain ⟨b,c⟩:=hh.1 hx;exact (a (by rw[hl] at b;exact b) (by simpa using c)).elim
    rwa[this] at hφ
  have hmid:=arD (i:=i) (j:=j) (by omega);refine GK (fn:=vI) (tb:=aok) (by kernel_rfl) (by kernel_rfl) ?_;by_cases hlt2:i<j
  ·by_cases hcmp:(p ((i+j) / 2)).key<key
   ·refine G5 (dD _ _) (MC _) (hold:=D5) (m:=300) (n:=400) (ts:=[⟨204,Tc,Td n p key ((i+j) / 2+1:Nat) j,[]⟩]) ?_
    rw[show D5=BL from rfl,aol Ai W7 n p key i j ((i+j) / 2+1:Nat) j,hmid];refine ⟨fun _=>⟨by simp[BJ];omega,fun _=>⟨⟨rfl,rfl,rfl,?_,rfl,trivial⟩,_,rfl,?_⟩,fun h=>?_⟩,fun h=>?_⟩
    ·simp only[iO,Dq,GR]
     rw[Cj (by omega) (by omega)];rfl
    ·match m,hm with
     |0,hm=>omega |m+1,hm=>
      refine abJ hn hs hk hφ m ((i+j) / 2+1) j (by omega) (by omega) hjn (fun t ht=>?_) h2;by_cases e:t=(i+j) / 2
      ·subst e;exact hcmp
      ·have:=hlt t ((i+j) / 2) (by omega) (by omega);omega
    ·have e:Ai.toN (((i+j) / 2:Nat):Int)=(i+j) / 2:=rfl
     rw[e,sub_eq _ (by omega)] at h;simp[Aq] at h;omega
    ·simp[Aq] at h;omega
   ·refine G5 (dD _ _) (MC _) (hold:=D5) (m:=300) (n:=400) (ts:=[⟨204,Tc,Td n p key i ((i+j) / 2:Nat),[]⟩]) ?_
    rw[show D5=BL from rfl,aol Ai W7 n p key i j i ((i+j) / 2:Nat),hmid];refine ⟨fun _=>⟨by simp[BJ];omega,fun h=>?_,fun _=>⟨⟨rfl,rfl,rfl,rfl,rfl,trivial⟩,_,rfl,?_⟩⟩,fun h=>?_⟩
    ·have e:Ai.toN (((i+j) / 2:Nat):Int)=(i+j) / 2:=rfl
     rw[e,sub_eq _ (by omega)] at h;simp[Aq] at h;omega
    ·match m,hm with
     |0,hm=>omega |m+1,hm=>
      refine abJ hn hs hk hφ m i ((i+j) / 2) (by omega) (by omega) (by omega) h1 (fun t ht hle=>?_);by_cases e:t=(i+j) / 2
      ·subst e;omega
      ·have:=hlt ((i+j) / 2) t (by omega) ht;omega
    ·simp[Aq] at h;omega
  ·have e:i=j:=by omega
   obtain ⟨f1,f2⟩:=hfin e;refine G5 (dD _ _) (MC _) (hold:=D5) (m:=300) (n:=400) (ts:=[⟨204,Tc,Td n p key i j,[]⟩]) ?_;rw[show D5=BL from rfl,aol Ai W7 n p key i j i j];refine ⟨fun h=>?_,fun _=>⟨fun h=>⟨?_,?_⟩,fun h=>?_⟩⟩
   ·simp[Aq] at h;omega
   ·simp[Aq] at h;simp[BJ];omega
   ·have hi:i<n:=by simp[Aq] at h;omega
    show φ _;have e1:Ai.toN (i:Int)=i:=rfl;rw[e1,sub_eq i hi];by_cases he:(p i).key=key
    ·have:Ai.eq ((p i).key - key) (ah 0)=aC:=by simp[AX];omega
     rw[this];exact f1 hi he
    ·have:Ai.eq ((p i).key - key) (ah 0)=ay:=by simp[AX];omega
     rw[this];exact f2 fun _=>he
   ·exact f2 fun hi=>by simp[Aq] at h;omega
theorem av3:AV aA (Bq W7) 204 aon:=by
 refine JX (C:=C7 Ai W7 noSpec AU) (dD _ _) (fn:=vI) (by kernel_rfl) (by kernel_rfl) fun H w Bv args φ hrep h=>?_
 unfold aon at h;split at h
 ·rename_i n g key
  obtain ⟨h1,h2,h3,h4,hφ⟩:=h;match args,hrep with
  |[v,u1,u2],⟨hv,r1,r2,_⟩=>
   refine ⟨[.sl 2 n (Aj (Am (α:=Pr) g)),.i .i64 key,.fn 205 []],⟨Ez hv h1,r1,r2,trivial⟩,L0,?_⟩;have e:lst Pr n g=(aZ n).map (Am g):=rfl;rw[e] at h3 hφ;generalize Am (α:=Pr) g=p at *;have h2:=of_decide_eq_true h2;have hn:vI.ntmps=49:=by kernel_rfl
   refine G5 (dD _ _) (MC _) (hold:=D5) (m:=300) (n:=400) (ts:=[⟨204,Tc,Td n p key (0:Nat) n,[]⟩]) ?_;rw[show D5=BL from rfl,hn,av2 Ai W7 n p key (0:Nat) n];exact ⟨⟨rfl,rfl,rfl,rfl,rfl,trivial⟩,_,rfl,abJ h2 h3 h4 hφ n 0 n (by omega) (gV _) (dn _) (fun t ht=>by omega) (fun t ht hle=>by omega)⟩
 ·exact h.elim
end Go.Proofs
namespace Go.Pl
open Go Go.Sx
def BO(n:Nat)(g:Nat->List Sh)(key:Int):Int:=(Ce (lst Pr n g) key:Int)
def GH(n:Nat)(g:Nat->List Sh)(key:Int):Bool:=En (lst Pr n g) key
def Ia(n:Nat)(g:Nat->List Sh):Bool:=okB Pr n g&&decide (n<=100000)&&QJ (lst Pr n g)
def PW(n:Nat)(g:Nat->List Sh)(key:Int):Int:=if GH n g key=aC then (Am (α:=Pr) g (Ce (lst Pr n g) key)).val else 0
def Rk(n:Nat)(g:Nat->List Sh)(key:Int):Int:=if GH n g key=aC then 3 else 2
def Ov(n m:Nat):Nat:=n+m
def adV(g:Nat->List Sh)(n:Nat)(h:Nat->List Sh):Nat->List Sh:=Ai.snoc g n h
end Go.Pl
namespace Go.Proofs
open Go Go.Sx Go.Pl
def ai7:List Sh->Tree Sh
 |[.sl 2 n g,.i .i64 key,.fn 205 []]=>.need (Ia n g) (.need (EF key) (.leaf (.AQ [.i .i64 (BO n g key),.b (GH n g key)]))) |_=>.fail
def PX:Nat->Option (List Sh->Tree Sh)
 |204=>ak ai7 |_=>aK
def akD:List Sh->Tree Sh
 |[.agg [.i .i64 _,.i .i64 _,s2,s3],.i .i64 key]=>match D9 1 s2,D9 2 s3 with
  |some _,ak (n,g)=>.need (Ia n g) (.need (EF key) (.leaf (.AQ [.i .i64 (BO n g key),.b (GH n g key)]))) |_,_=>.fail
 |_=>.fail
def Jf:Nat->Option (List Sh->Tree Sh)
 |181=>ak akD |182=>ak (fun _=>.fail) |_=>aK
def aoo:List Sh->Tree Sh
 |[.agg [.i .i64 _,.i .i64 _,s2,s3],.i .i64 key]=>match D9 1 s2,D9 2 s3 with
  |some _,ak (n,g)=>.need (Ia n g) (.need (EF key) (.leaf (.AQ [.i .i64 (Rk n g key),.i .i64 (PW n g key)]))) |_,_=>.fail
 |_=>.fail
def Tf:Nat->Option (List Sh->Tree Sh)
 |208=>ak (fun _=>.fail) |_=>aK
def aop:List Sh->Tree Sh
 |[.sl 1 2 g]=>match g 0,g 1 with
  |[.sl 2 n g1],[.sl 2 m g2]=>.need (BM (Ov n m) 16) (.leaf (.sl 2 (Ov n m) (adV g1 n g2))) |_,_=>.fail
 |_=>.fail
def Fb:Nat->Option (List Sh->Tree Sh)
 |181=>ak akD |184=>ak aoo |186=>ak aop |_=>aK
theorem av4(A:Prim)(W:Wd)(x y:Int)(a b:Nat)(h:Nat->List Sh)(p:Nat->Pr)(key:Int):Bj (C7 A W PX AU) BL 300 400 181 [.code []] (Ap 12 [.agg [.i .i64 x,.i .i64 y,.sl 1 a h,.sl 2 b (Aj p)],.i .i64 key] L0) [] []=aH (Ia b (Aj p)) (aH (EF key) (aB (aT (cZ [aY .i64 (BO b (Aj p) key),Sh.b (GH b (Aj p) key)])))):=by kernel_rfl
theorem a105(A:Prim)(W:Wd)(x y:Int)(a b:Nat)(h:Nat->List Sh)(p:Nat->Pr)(key:Int):Bj (C7 A W Jf AU) BL 300 400 184 [.code []] (Ap 21 [.agg [.i .i64 x,.i .i64 y,.sl 1 a h,.sl 2 b (Aj p)],.i .i64 key] L0) [] []=aH (Ia b (Aj p)) (aH (EF key) (aF (GH b (Aj p) key) (aH (A.inB (BO b (Aj p) key) b) (aB (aT (cZ [aY .i64 (ah 3),aY .i64 (p (A.toN (BO b (Aj p) key))).val])))) (aB (aT (cZ [aY .i64 (ah 2),aY .i64 (ah 0)]))))):=by kernel_rfl
theorem av5(A:Prim)(W:Wd)(x y:Int)(a b:Nat)(h:Nat->List Sh)(p:Nat->Pr)(key v:Int):Bj (C7 A W Fb AU) BL 300 400 183 [.code []] (Ap 20 [.agg [.i .i64 x,.i .i64 y,.sl 1 a h,.sl 2 b (Aj p)],.i .i64 key,.i .i64 v] L0) [] []=aH (Ia b (Aj p)) (aH (EF key) (aB (aT (cZ [cO [aY .i64 x,aY .i64 y,aG 1 a h,aG 2 b (Aj p)],aY .i64 (Rk b (Aj p) key),aY .i64 (PW b (Aj p) key)])))):=by kernel_rfl
theorem av6(A:Prim)(W:Wd)(x y:Int)(a b:Nat)(h:Nat->List Sh)(p:Nat->Pr)(key v:Int):Bj (Yf A W Jf AU) BL 300 400 179 [.code []] (Ap 38 [.agg [.i .i64 x,.i .i64 y,.sl 1 a h,.sl 2 b (Aj p)],.i .i64 key,.i .i64 v] L0) [] []=aF (A.ZN b 0) ((aH (Ia 0 fun _=>[]) (aH (EF key) (aF (GH 0 (fun _=>[]) key) dL (aH (A.upTo (BO 0 (fun _=>[]) key) 0) (aH (A.room (A.addN 0 1) 16) (aB (aT (cZ [cO [aY .i64 x,aY .i64 y,aG 1 a h,jw 272 2 (A.addN 0 1) (A.ins (fun _=>[]) (A.toN (BO 0 (fun _=>[]) key)) [aY .i64 key,aY .i64 v])],aY .i64 (ah 1),aY .i64 (ah 0)])))))))).both (aH (A.room (A.addN 0 b) 16) (aH (Ia (A.addN 0 b) (A.snoc (Bh []) 0 (Aj p))) (aH (EF key) (aF (GH (A.addN 0 b) (A.snoc (Bh []) 0 (Aj p)) key) (aH (A.inB (BO (A.addN 0 b) (A.snoc (Bh []) 0 (Aj p)) key) (A.addN 0 b)) (aB (aT (cZ [cO [aY .i64 x,aY .i64 y,aG 1 a h,jw 272 2 (A.addN 0 b) (A.upd (A.snoc (Bh []) 0 (Aj p)) (A.toN (BO (A.addN 0 b) (A.snoc (Bh []) 0 (Aj p)) key)) 1 [aY .i64 v])],aY .i64 (ah 1),aY .i64 (ah 0)])))) (aH (A.upTo (BO (A.addN 0 b) (A.snoc (Bh []) 0 (Aj p)) key) (A.addN 0 b)) (aH (A.room (A.addN (A.addN 0 b) 1) 16) (aB (aT (cZ [cO [aY .i64 x,aY .i64 y,aG 1 a h,jw 272 2 (A.addN (A.addN 0 b) 1) (A.ins (A.snoc (Bh []) 0 (Aj p)) (A.toN (BO (A.addN 0 b) (A.snoc (Bh []) 0 (Aj p)) key)) [aY .i64 key,aY .i64 v])],aY .i64 (ah 1),aY .i64 (ah 0)])))))))))) (aH (A.room (A.addN 0 b) 16) (aH (Ia (A.addN 0 b) (A.snoc (Bh []) 0 (Aj p))) (aH (EF key) (aF (GH (A.addN 0 b) (A.snoc (Bh []) 0 (Aj p)) key) (aH (A.inB (BO (A.addN 0 b) (A.snoc (Bh []) 0 (Aj p)) key) (A.addN 0 b)) (aB (aT (cZ [cO [aY .i64 x,aY .i64 y,aG 1 a h,jw 272 2 (A.addN 0 b) (A.upd (A.snoc (Bh []) 0 (Aj p)) (A.toN (BO (A.addN 0 b) (A.snoc (Bh []) 0 (Aj p)) key)) 1 [aY .i64 v])],aY .i64 (ah 1),aY .i64 (ah 0)])))) (aH (A.upTo (BO (A.addN 0 b) (A.snoc (Bh []) 0 (Aj p)) key) (A.addN 0 b)) (aH (A.room (A.addN (A.addN 0 b) 1) 16) (aB (aT (cZ [cO [aY .i64 x,aY .i64 y,aG 1 a h,jw 272 2 (A.addN (A.addN 0 b) 1) (A.ins (A.snoc (Bh []) 0 (Aj p)) (A.toN (BO (A.addN 0 b) (A.snoc (Bh []) 0 (Aj p)) key)) [aY .i64 key,aY .i64 v])],aY .i64 (ah 1),aY .i64 (ah 0)]))))))))):=by kernel_rfl
theorem a107(A:Prim)(W:Wd)(n m:Nat)(g1 g2:Nat->List Sh):Bj (Yf A W Tf AP) BL 300 400 186 [.code []] (Ap 36 [.sl 1 2 (Bh [[.sl 2 n g1],[.sl 2 m g2]])] L0) [] []=aF (A.lt (ah 0) (A.AZ 2)) (aH (A.inB (ah 0) 2) (aF (A.lt (A.add .i64 (ah 0) (A.AZ n)) (ah 0)) dL (aF (A.lt (ah 1) (A.AZ 2)) (aH (A.inB (ah 1) 2) (aF (A.lt (A.add .i64 (A.add .i64 (ah 0) (A.AZ n)) (A.AZ m)) (ah 0)) dL (aF (A.lt (ah 2) (A.AZ 2)) (aH (A.inB (ah 2) 2) dL) (aH (A.le (ah 0) (A.add .i64 (A.add .i64 (ah 0) (A.AZ n)) (A.AZ m))) (aH (A.room (A.toN (A.add .i64 (A.add .i64 (ah 0) (A.AZ n)) (A.AZ m))) 16) (aF (A.lt (ah 0) (A.AZ 2)) (aH (A.inB (ah 0) 2) (aH (A.room (A.addN 0 n) 16) (aF (A.lt (ah 1) (A.AZ 2)) (aH (A.inB (ah 1) 2) (aH (A.room (A.addN (A.addN 0 n) m) 16) (aF (A.lt (ah 2) (A.AZ 2)) (aH (A.inB (ah 2) 2) dL) (aB (aT (jw 272 2 (A.addN (A.addN 0 n) m) (A.snoc (A.snoc (fun _=>[]) 0 g1) (A.addN 0 n) g2))))))) (aB (aT (jw 272 2 (A.addN 0 n) (A.snoc (fun _=>[]) 0 g1))))))) (aB (aT (jw 272 2 0 fun _=>[]))))))))) (aH (A.le (ah 0) (A.add .i64 (ah 0) (A.AZ n))) (aH (A.room (A.toN (A.add .i64 (ah 0) (A.AZ n))) 16) (aF (A.lt (ah 0) (A.AZ 2)) (aH (A.inB (ah 0) 2) (aH (A.room (A.addN 0 n) 16) (aF (A.lt (ah 1) (A.AZ 2)) (aH (A.inB (ah 1) 2) (aH (A.room (A.addN (A.addN 0 n) m) 16) (aF (A.lt (ah 2) (A.AZ 2)) (aH (A.inB (ah 2) 2) dL) (aB (aT (jw 272 2 (A.addN (A.addN 0 n) m) (A.snoc (A.snoc (fun _=>[]) 0 g1) (A.addN 0 n) g2))))))) (aB (aT (jw 272 2 (A.addN 0 n) (A.snoc (fun _=>[]) 0 g1))))))) (aB (aT (jw 272 2 0 fun _=>[]))))))))) (aH (A.le (ah 0) (ah 0)) (aH (A.room 0 16) (aF (A.lt (ah 0) (A.AZ 2)) (aH (A.inB (ah 0) 2) (aH (A.room (A.addN 0 n) 16) (aF (A.lt (ah 1) (A.AZ 2)) (aH (A.inB (ah 1) 2) (aH (A.room (A.addN (A.addN 0 n) m) 16) (aF (A.lt (ah 2) (A.AZ 2)) (aH (A.inB (ah 2) 2) dL) (aB (aT (jw 272 2 (A.addN (A.addN 0 n) m) (A.snoc (A.snoc (fun _=>[]) 0 g1) (A.addN 0 n) g2))))))) (aB (aT (jw 272 2 (A.addN 0 n) (A.snoc (fun _=>[]) 0 g1))))))) (aB (aT (jw 272 2 0 fun _=>[])))))):=by kernel_rfl
noncomputable def Ti(A:Prim)(W:Wd)(x y:Int)(a b:Nat)(h:Nat->List Sh)(p:Nat->Pr)(key:Int):List BK:=[aj x x,aj y y,aO (aG 1 a h) (aG 1 a h),aO (aG 2 b (Aj p)) (aG 2 b (Aj p)),aj key key,aj (Rk b (Aj p) key) (Rk b (Aj p) key),aj (PW b (Aj p) key) (PW b (Aj p) key),aj (BO b (Aj p) key) (BO b (Aj p) key),BK.bool (GH b (Aj p) key) (GH b (Aj p) key),aj x x,aj y y,aO (aG 1 a h) (aG 1 a h),aO (aG 2 (Ov (A.toN (BO b (Aj p) key)) (A.JK b (A.toN (A.add .i64 (BO b (Aj p) key) (ah 1))))) (adV (Aj p) (A.toN (BO b (Aj p) key)) fun (j:Nat)=>Aj p ((C7 A W Fb AU).A.addN ((C7 A W Fb AU).A.toN ((C7 A W Fb AU).A.add .i64 (BO b (Aj p) key) 1)) j))) (aG 2 (Ov (A.toN (BO b (Aj p) key)) (A.JK b (A.toN (A.add .i64 (BO b (Aj p) key) (ah 1))))) (adV (Aj p) (A.toN (BO b (Aj p) key)) fun (j:Nat)=>Aj p ((C7 A W Fb AU).A.addN ((C7 A W Fb AU).A.toN ((C7 A W Fb AU).A.add .i64 (BO b (Aj p) key) 1)) j))),BK.nat 2 2,BK.Mc (Bh [[aG 2 (A.toN (BO b (Aj p) key)) (Aj p)],[aG 2 (A.JK b (A.toN (A.add .i64 (BO b (Aj p) key) (ah 1)))) fun (j:Nat)=>Aj p (A.addN (A.toN (A.add .i64 (BO b (Aj p) key) (ah 1))) j)]]) (Bh [[aG 2 (A.toN (BO b (Aj p) key)) (Aj p)],[aG 2 (A.JK b (A.toN (A.add .i64 (BO b (Aj p) key) (ah 1)))) fun (j:Nat)=>Aj p (A.addN (A.toN (A.add .i64 (BO b (Aj p) key) (ah 1))) j)]])]
theorem av7(A:Prim)(W:Wd)(x y:Int)(a b:Nat)(h:Nat->List Sh)(p:Nat->Pr)(key v:Int):Bj (C7 A W Fb AU) BL 600 800 185 [.code []] (Ap 41 [.agg [.i .i64 x,.i .i64 y,.sl 1 a h,.sl 2 b (Aj p)],.i .i64 key,.i .i64 v] L0) [] []=aH (Ia b (Aj p)) (aH (EF key) (aH (Ia b (Aj p)) (aH (EF key) (aF (GH b (Aj p) key) (aH (A.upTo (BO b (Aj p) key) b) (aH (A.upTo (A.add .i64 (BO b (Aj p) key) (ah 1)) b) (aH (BM (Ov (A.toN (BO b (Aj p) key)) (A.JK b (A.toN (A.add .i64 (BO b (Aj p) key) (ah 1))))) 16) (aH (A.upTo (BO b (Aj p) key) b) (aH (A.upTo (A.add .i64 (BO b (Aj p) key) (ah 1)) b) (aH (BM (Ov (A.toN (BO b (Aj p) key)) (A.JK b (A.toN (A.add .i64 (BO b (Aj p) key) (ah 1))))) 16) (aH (A.upTo (A.add .i64 (BO b (Aj p) key) (ah 1)) b) (aH (A.upTo (BO b (Aj p) key) b) (aH (BM (Ov (A.toN (BO b (Aj p) key)) (A.JK b (A.toN (A.add .i64 (BO b (Aj p) key) (ah 1))))) 16) (aQ (Ti A W x y a b h p key) (aQ (Ti A W x y a b h p key) (aH (A.upTo (BO b (Aj p) key) b) (aH (A.upTo (A.add .i64 (BO b (Aj p) key) (ah 1)) b) (aH (BM (Ov (A.toN (BO b (Aj p) key)) (A.JK b (A.toN (A.add .i64 (BO b (Aj p) key) (ah 1))))) 16) (aH (A.upTo (A.add .i64 (BO b (Aj p) key) (ah 1)) b) (aH (A.upTo (BO b (Aj p) key) b) (aH (BM (Ov (A.toN (BO b (Aj p) key)) (A.JK b (A.toN (A.add .i64 (BO b (Aj p) key) (ah 1))))) 16) (aQ (Ti A W x y a b h p key) (aH (A.upTo (A.add .i64 (BO b (Aj p) key) (ah 1)) b) (aH (A.upTo (BO b (Aj p) key) b) (aH (BM (Ov (A.toN (BO b (Aj p) key)) (A.JK b (A.toN (A.add .i64 (BO b (Aj p) key) (ah 1))))) 16) (aQ (Ti A W x y a b h p key) (aQ (Ti A W x y a b h p key) (aB (aT (cZ [cO [aY .i64 x,aY .i64 y,aG 1 a h,aG 2 (Ov (A.toN (BO b (Aj p) key)) (A.JK b (A.toN (A.add .i64 (BO b (Aj p) key) (ah 1))))) (adV (Aj p) (A.toN (BO b (Aj p) key)) fun (j:Nat)=>Aj p ((C7 A W Fb AU).A.addN ((C7 A W Fb AU).A.toN ((C7 A W Fb AU).A.add .i64 (BO b (Aj p) key) 1)) j))],aY .i64 (Rk b (Aj p) key),aY .i64 (PW b (Aj p) key)])))))))))))))))))))))))))) (aB (aT (cZ [cO [aY .i64 x,aY .i64 y,aG 1 a h,aG 2 b (Aj p)],aY .i64 (Rk b (Aj p) key),aY .i64 (PW b (Aj p) key)]))))))):=by kernel_rfl
end Go.Proofs
namespace Go.Pl
open Go Go.Sx Go.Proofs
def Fp(ps:List Pr)(key v:Int):List Pr:=if En ps key=aC then ps.set (Ce ps key) ⟨key,v⟩ else ps.take (Ce ps key)++⟨key,v⟩::ps.drop (Ce ps key)
def Gn(ps:List Pr)(key:Int):List Pr:=if En ps key=aC then ps.take (Ce ps key)++ps.drop (Ce ps key+1) else ps
def Lp(ps:List Pr)(key:Int):Int:=if En ps key=aC then (nth ps (Ce ps key)).val else 0
def MH(ps:List Pr)(key:Int):Int:=if En ps key=aC then 3 else 2
theorem Tj(ps:List Pr)(key:Int):Ce ps key<=ps.length:=by unfold Ce;exact (rO _).length_le
theorem akE{α:Type}{p:α->Bool}{x:α}:∀{l:List α},x∈l.takeWhile p->p x=aC
 |[],h=>by simp at h |a::l,h=>by
  cases ha:p a with
  |false=>simp[jA,ha] at h |true=>
   simp only[jA,ha,iy] at h;rcases h with rfl|h
   ·exact ha
   ·exact akE h
theorem ag3(ps:List Pr)(key:Int):∀t (h:t<ps.length),t<Ce ps key->ps[t].key<key:=by
 intro t h ht;have h2:(ps.takeWhile fun p=>decide (p.key<key))[t]?=ps[t]?:=by
  have:=rO (p:=fun p:Pr=>decide (p.key<key)) (l:=ps);obtain ⟨r,hr⟩:=this;conv=>rhs;rw[<-hr]
  rw[dN ht]
 have h3:ps[t]∈ps.takeWhile fun p=>decide (p.key<key):=by
  rw[List.getElem?_eq_getElem h] at h2;exact List.mem_of_getElem? h2
 have:=akE h3;simpa using this
theorem ag4{ps:List Pr}{key:Int}(hs:ps.Pairwise fun a b=>a.key<b.key):∀t (h:t<ps.length),Ce ps key<=t->key<=ps[t].key:=by
 intro t h ht;have hk:Ce ps key<ps.length:=by omega
 have h0:¬ps[Ce ps key].key<key:=by
  intro hlt;have:Ce ps key<(ps.takeWhile fun p=>decide (p.key<key)).length:=by
   have key2:∀(l:List Pr),(h:(l.takeWhile fun p=>decide (p.key<key)).length<l.length)->¬(l[(l.takeWhile fun p=>decide (p.key<key)).length].key<key):=by
    intro l;induction l with
    |nil=>intro h;simp at h |cons a l ih=>
     intro h;by_cases ha:a.key<key
     ·have hd:decide (a.key<key)=aC:=decide_eq_true ha
      simp only[jA,hd,iU] at h ⊢;exact ih (by omega)
     ·have hd:decide (a.key<key)=ay:=decide_eq_false ha
      simp only[jA,hd,qE] at h ⊢;exact ha
   exact (key2 ps hk hlt).elim
  unfold Ce at this;omega
 by_cases e:t=Ce ps key
 ·subst e;omega
 ·have:=jF.1 hs (Ce ps key) t hk h (by omega)
  omega
theorem PY{ps:List Pr}{key:Int}(hs:ps.Pairwise fun a b=>a.key<b.key)(h:En ps key=aC):∃h:Ce ps key<ps.length,ps[Ce ps key].key=key:=(ag2 hs (ag3 ps key) (ag4 hs)).1 h
theorem abK{α:Type}[Row α]{l:List α}{j:Nat}(h:j<l.length):nth l j=l[j]:=by simp[nth,h]
theorem aoq{α:Type}[Row α]{l:List α}{k j:Nat}{a:α}(hk:k<l.length)(hj:j<l.length):nth (l.set k a) j=if j=k then a else nth l j:=by
 rw[abK (by simpa using hj),abK hj,List.getElem_set];by_cases e:k=j
 ·subst e;simp
 ·rw[if_neg e,if_neg (Ne.symm e)]
theorem aor{α:Type}[Row α]{l:List α}{k j:Nat}{a:α}(hk:k<=l.length)(hj:j<l.length+1):nth (l.take k++a::l.drop k) j=if j<k then nth l j else if j=k then a else nth l (j - 1):=by
 have hlen:(l.take k++a::l.drop k).length=l.length+1:=by simp;omega
 have ht:(l.take k).length=k:=by simp;omega
 unfold nth;split
 ·rename_i h
  simp only[aX];rw[dN (by omega),bY,if_pos h]
 ·split
  ·rename_i h
   subst h;simp only[aX];rw[fF (by omega),ht,qV];rfl
  ·rename_i h1 h2
   simp only[aX];rw[fF (by omega),ht];obtain ⟨m,hm⟩:∃m,j - k=m+1:=⟨j - k - 1,by omega⟩;rw[hm,List.getElem?_cons_succ,eP];congr 2;omega
theorem aos{α:Type}[Row α]{l:List α}{k j:Nat}(hk:k<l.length)(hj:j<l.length - 1):nth (l.take k++l.drop (k+1)) j=if j<k then nth l j else nth l (j+1):=by
 have ht:(l.take k).length=k:=by simp;omega
 unfold nth;split
 ·rename_i h
  simp only[aX];rw[dN (by omega),bY,if_pos h]
 ·simp only[aX]
  rw[fF (by omega),ht,eP];congr 2;omega
theorem afd{ps:List Pr}{key v:Int}(h:En ps key=ay):Fp ps key v=ps.take (Ce ps key)++⟨key,v⟩::ps.drop (Ce ps key):=if_neg (by rw[h];simp)
theorem afe{ps:List Pr}{key v:Int}(h:En ps key=aC):Fp ps key v=ps.set (Ce ps key) ⟨key,v⟩:=if_pos h
theorem aff{ps:List Pr}{key:Int}(h:En ps key=ay):Gn ps key=ps:=if_neg (by rw[h];simp)
theorem afg{ps:List Pr}{key:Int}(h:En ps key=aC):Gn ps key=ps.take (Ce ps key)++ps.drop (Ce ps key+1):=if_pos h
theorem abL{ps:List Pr}{key v:Int}:(Fp ps key v).length=if En ps key=aC then ps.length else ps.length+1:=by
 have:=Tj ps key;unfold Fp;split
 ·simp
 ·simp;omega
theorem ag5{ps:List Pr}{key:Int}(hs:QJ ps=aC):(Gn ps key).length=if En ps key=aC then ps.length - 1 else ps.length:=by
 have:=Tj ps key;unfold Gn;split
 ·rename_i h
  obtain ⟨h1,_⟩:=PY (Hr hs) h;simp;omega
 ·rfl
theorem aot{n:Nat}{g:Nat->List Sh}{key:Int}(hs:QJ (lst Pr n g)=aC):PW n g key=Lp (lst Pr n g) key:=by
 unfold PW Lp GH;split
 ·rename_i h
  obtain ⟨h1,_⟩:=PY (Hr hs) h;rw[SQ (by simpa using h1)]
 ·rfl
theorem Ib{n:Nat}{g:Nat->List Sh}:Ia n g=aC↔okB Pr n g=aC/\n<=100000/\QJ (lst Pr n g)=aC:=by
 simp[Ia,and_assoc]
end Go.Pl
namespace Go.Proofs
open Go Go.Sx Go.Pl Go.Lib
theorem atp:AV aA (Bq W7) 204 ai7:=av3.mono fun H Bv args φ hr h=>by
 unfold ai7 at h;split at h
 ·rename_i n g key
  obtain ⟨h1,h2,hφ⟩:=h;obtain ⟨q1,q2,q3⟩:=Ib.1 h1;simp only[aon];exact ⟨q1,decide_eq_true q2,q3,h2,hφ⟩
 ·exact h.elim
theorem atq:∀g F,PX g=ak F->AV aA (Bq W7) g F:=fun g F h=>by
 unfold PX at h;split at h
 ·cases h;exact atp
 ·cases h
theorem arE(stop:Nat->List Nat->Bool):BP aA (C7 Ai W7 PX stop):=nT atq fun g h=>by
 unfold PX at h;split at h;all_goals first|(cases h;done) |kernel_rfl
theorem Tm{H:Mem}{x y:Int}{s2 s3:Sh}{n b:Nat}{g l:Nat->List Sh}{v:Value}(hs2:D9 1 s2=ak (n,g))(hs:D9 2 s3=ak (b,l))(hw:okB Pr b l=aC)(r:Rep H (.agg [.i .i64 x,.i .i64 y,s2,s3]) v):
  Rep H (.agg [.i .i64 x,.i .i64 y,.sl 1 n g,.sl 2 b (Aj (Am (α:=Pr) l))]) v:=Ij r (fun _ hu=>BQ hs2 hu) fun _ hu=>Ez (BQ hs hu) hw
theorem Tn{b:Nat}{l:Nat->List Sh}(h:Ia b l=aC):Ia b (Aj (Am (α:=Pr) l))=aC/\∀key,GH b (Aj (Am (α:=Pr) l)) key=GH b l key/\BO b (Aj (Am (α:=Pr) l)) key=BO b l key:=by
 have e:lst Pr b (Aj (Am (α:=Pr) l))=lst Pr b l:=by rw[SS];rfl
 obtain ⟨h1,h2,h3⟩:=Ib.1 h;exact ⟨Ib.2 ⟨DI _ _,h2,by rw[e];exact h3⟩,fun key=>⟨by unfold GH;rw[e],by unfold BO;rw[e]⟩⟩
theorem asF:AV aA (Bq W7) 181 akD:=by
 refine D8 (C:=C7 Ai W7 PX AU) (dD _ _) (arE _) (m:=300) (n:=400) (L:=L0) (fn:=zL) (by kernel_rfl) (by kernel_rfl) fun H w Bv args φ hrep h=>?_
 have hn:zL.ntmps=12:=by kernel_rfl
 unfold akD at h;split at h
 ·rename_i x y s2 s3 key
  split at h
  ·rename_i z b l hs2 hs
   obtain ⟨a,hh⟩:=z;obtain ⟨h1,h2,hφ⟩:=h;match args,hrep with
   |[v,u1],⟨hv,r1,_⟩=>
    obtain ⟨q1,q2⟩:=Tn h1;refine ⟨[.agg [.i .i64 x,.i .i64 y,.sl 1 a hh,.sl 2 b (Aj (Am (α:=Pr) l))],.i .i64 key],⟨Tm hs2 hs (Ib.1 h1).1 hv,r1,trivial⟩,?_⟩;rw[hn,av4 Ai W7 x y a b hh (Am l) key,(q2 key).1,(q2 key).2];exact ⟨q1,h2,BX (s':=.AQ [.i .i64 (BO b l key),.b (GH b l key)]) ⟨rfl,.inl rfl,trivial⟩ hφ⟩
  ·exact h.elim
 ·exact h.elim
theorem aou:∀g F,Jf g=ak F->AV aA (Bq W7) g F:=fun g F h=>by
 unfold Jf at h;split at h
 ·cases h;exact asF
 ·cases h;exact fun H w Bv args φ _ _ _ h=>h.elim
 ·cases h
theorem arF(stop:Nat->List Nat->Bool):BP aA (C7 Ai W7 Jf stop):=nT aou fun g h=>by
 unfold Jf at h;split at h;all_goals first|(cases h;done) |kernel_rfl
theorem aov:mZ.get 272=ak ⟨.struct [(0,1,ay),(1,1,ay)],2,16,[.int .i64 0,.int .i64 0]⟩:=by kernel_rfl
set_option maxHeartbeats 4000000 in
set_option maxRecDepth 100000 in
theorem aow:aeP aA 208 272 2 16:=by
 intro w k hk hb;obtain ⟨inf,z,i1,i2,i3,i4,i5,zs,hz⟩:=info116;have hsmall:k<=9223372036854775807:=by simp only[maxLen] at hk;omega
 have hse:∀w,(nJ 272).run aA w=.ok 2 w:=fun w=>by simp[nJ,typeInfo,i1,i2]
 by_cases h0:k=0
 ·subst h0
  go_enter yL,xG
  go_wp2
  go_ret
  exact ⟨_,rfl,PG _ _ _,⟨rfl,rfl,rfl,dn _,fun _ _ _=>rfl⟩,fun b hb=>by simp[AL] at hb⟩
 ·obtain ⟨G,hG⟩:∃G,G=grownCap w (0+k) 0 272:=⟨_,rfl⟩
  have hGn:k<=G:=by rw[hG];have:=grownCap_ge w (0+k) 0 272;omega
  have hGm:G<=maxLen:=by rw[hG];exact grownCap_le_maxLen w (0+k) 0 272 (by omega)
  have hG63:G<=9223372036854775807:=by simp only[maxLen] at hGm;omega
  obtain ⟨ROW,hROW⟩:∃ROW:Array Value,ROW=([]:List Value).toArray++jk z.cells k++jk z.cells (G - (0+k)):=⟨_,rfl⟩;have hRs:ROW.size=G*2:=by
   rw[hROW];simp only[oq,gW,size_zeroCells,i5,qE];omega
  have hr:∀ty,(eG #[209,3] ty #[.slice aK 0 0,.int .i64 k]).run aA w=.ok (.slice (ak ⟨w.heap.size,0,aK⟩) k G) (w.drew.alloc (.cells ROW 272)):=fun ty=>by
   have h:=qN w 209 3 ty 272 inf z .i64 .i64 iC pO i1 i4 aK 0 0 [] (by simp[gJ]) k (by omega) (by omega) (by omega) (by omega) (by rw[i3];omega) (by rw[i3];exact growslice_fits (by omega) (by omega));rw[<-hG,<-hROW,Nat.zero_add] at h;exact h
  obtain ⟨W1,hW1⟩:∃W1,W1=w.drew.alloc (.cells ROW 272):=⟨_,rfl⟩;have f1:W1.heap[w.heap.size]?=ak (.cells ROW 272 (0,0)):=by rw[hW1];exact heap_alloc_new w.drew _
  have f2:w.grownBy W1 aK:=⟨by rw[hW1];rfl,by rw[hW1];rfl,by rw[hW1];rfl,by rw[hW1];simp,fun j hj _=>by rw[hW1];first|exact wE w.drew _ j hj|exact heap_alloc_old w.drew _ hj⟩
  have hr1:=hr 209;rw[<-hW1] at hr1;have hk0:¬((k:Int)=0):=by omega
  have hk1:(0:Int)<k:=by omega
  clear hROW hr hG hW1;go_enter yL,xG
  go_wp2_with (first
   |(at_builtin;refine kF _ rfl _ _ _ _ rfl _ _ rfl rfl _ _ hr1 ?_))
  go_ret
  exact ⟨_,rfl,⟨by simp,.inr ⟨w.heap.size,G,ROW,rfl,gV _,f1,gV _,hGm,hRs,by simp⟩⟩,f2,fun b hb=>by simp[AL] at hb;omega⟩
theorem atr:∀g e te,an6 g=ak e->mZ.get e=ak te->xH aA g/\aiH aA g e te.size te.bytes:=fun g e te h ht=>by
 unfold an6 at h;split at h
 ·cases h
  rw[aov] at ht;cases ht;exact ⟨Hq jl jP 182 (by kernel_rfl),arC⟩
 ·cases h
theorem att:∀g e te,ai1 g=ak e->mZ.get e=ak te->xH aA g/\aeP aA g e te.size te.bytes:=fun g e te h ht=>by
 unfold ai1 at h;split at h
 ·cases h
  rw[aov] at ht;cases ht;exact ⟨Hq jl jP 208 (by kernel_rfl),aow⟩
 ·cases h
theorem Yf.Vo{spec:Nat->Option (List Sh->Tree Sh)}{stop:Nat->List Nat->Bool}(hs:∀g F,spec g=ak F->AV aA (Bq W7) g F)(he:∀g,(spec g).isSome=aC->(Tryz.fns.get g).isSome=aC):BP aA (Yf Ai W7 spec stop):=⟨hs,(fun g h=>by
  rcases h with h|h
  ·exact Hq jl jP g (he g h)
  ·exact Hq jl jP g h),atr,att⟩
theorem aox(stop:Nat->List Nat->Bool):BP aA (Yf Ai W7 Jf stop):=Yf.Vo aou fun g h=>by
 unfold Jf at h;split at h;all_goals first|(cases h;done) |kernel_rfl
theorem Xm{b:Nat}{l:Nat->List Sh}{key:Int}(h1:Ia b l=aC)(h:GH b l key=aC):Ce (lst Pr b l) key<b:=by
 obtain ⟨_,_,h3⟩:=Ib.1 h1;obtain ⟨h4,_⟩:=PY (Hr h3) h;simpa using h4
theorem av8:AV aA (Bq W7) 184 aoo:=by
 refine D8 (C:=C7 Ai W7 Jf AU) (dD _ _) (arF _) (m:=300) (n:=400) (L:=L0) (fn:=zM) (by kernel_rfl) (by kernel_rfl) fun H w Bv args φ hrep h=>?_
 have hn:zM.ntmps=21:=by kernel_rfl
 unfold aoo at h;split at h
 ·rename_i x y s2 s3 key
  split at h
  ·rename_i z b l hs2 hs
   obtain ⟨a,hh⟩:=z;obtain ⟨h1,h2,hφ⟩:=h;match args,hrep with
   |[v,u1],⟨hv,r1,_⟩=>
    obtain ⟨q1,q2⟩:=Tn h1;refine ⟨[.agg [.i .i64 x,.i .i64 y,.sl 1 a hh,.sl 2 b (Aj (Am (α:=Pr) l))],.i .i64 key],⟨Tm hs2 hs (Ib.1 h1).1 hv,r1,trivial⟩,?_⟩;rw[hn,a105 Ai W7 x y a b hh (Am l) key,(q2 key).1,(q2 key).2];have e:Ai.toN (BO b l key)=Ce (lst Pr b l) key:=rfl;refine ⟨q1,h2,fun h=>⟨?_,BX (s':=.AQ [.i .i64 (Rk b l key),.i .i64 (PW b l key)]) ⟨?_,?_,trivial⟩ hφ⟩,fun h=>BX (s':=.AQ [.i .i64 (Rk b l key),.i .i64 (PW b l key)]) ⟨?_,?_,trivial⟩ hφ⟩
    ·have:=Xm h1 h
     simp[BJ,BO];exact this
    ·show aY _ _=_;simp[Rk,h]
    ·show aY _ _=_;rw[e];simp[PW,h]
    ·show aY _ _=_;simp[Rk,h]
    ·show aY _ _=_;simp[PW,h]
  ·exact h.elim
 ·exact h.elim
def aoy:List Sh->Tree Sh
 |[.agg [.i .i64 x,.i .i64 y,s2,s3],u,t]=>match D9 1 s2,D9 2 s3,BF u,BF t with
  |some (a,h),ak (b,l),ak key,ak _=>.need (Ia b l) (.need (EF key) (.leaf (.AQ [.agg [.i .i64 x,.i .i64 y,.sl 1 a h,.sl 2 b l],.i .i64 (MH (lst Pr b l) key),.i .i64 (Lp (lst Pr b l) key)]))) |_,_,_,_=>.fail
 |_=>.fail
def aoz:List Sh->Tree Sh
 |[.agg [.i .i64 x,.i .i64 y,s2,s3],u,t]=>match D9 1 s2,D9 2 s3,BF u,BF t with
  |some (a,h),ak (b,l),ak key,ak v=>.need (Ia b l) (.need (EF key) (.need (BM (b+1) 16) (.leaf (.AQ [.agg [.i .i64 x,.i .i64 y,.sl 1 a h,.sl 2 (len (Fp (lst Pr b l) key v)) (Aj (nth (Fp (lst Pr b l) key v)))],.i .i64 1,.i .i64 0])))) |_,_,_,_=>.fail
 |_=>.fail
def aoA:List Sh->Tree Sh
 |[.agg [.i .i64 x,.i .i64 y,s2,s3],u,t]=>match D9 1 s2,D9 2 s3,BF u,BF t with
  |some (a,h),ak (b,l),ak key,ak _=>.need (Ia b l) (.need (EF key) (.need (BM (b+1) 16) (.leaf (.AQ [.agg [.i .i64 x,.i .i64 y,.sl 1 a h,.sl 2 (len (Gn (lst Pr b l) key)) (Aj (nth (Gn (lst Pr b l) key)))],.i .i64 (MH (lst Pr b l) key),.i .i64 (Lp (lst Pr b l) key)])))) |_,_,_,_=>.fail
 |_=>.fail
theorem av9:AV aA (Bq W7) 179 aoz:=by
 refine D8 (C:=Yf Ai W7 Jf AU) (zN _ _) (aox _) (m:=300) (n:=400) (L:=L0) (fn:=zO) (by kernel_rfl) (by kernel_rfl) fun H w Bv args φ hrep h=>?_
 have hn:zO.ntmps=38:=by kernel_rfl
 unfold aoz at h;split at h
 ·rename_i x y s2 s3 u t
  split at h
  ·rename_i a hh b l key vv hs2 hs hu ht
   obtain ⟨h1,h2,h3,hφ⟩:=h;match args,hrep with
   |[v,u1,u2],⟨hv,r1,r2,_⟩=>
    obtain ⟨q1,q2⟩:=Tn h1;obtain ⟨w1,w2,w3⟩:=Ib.1 h1;have hso:=Hr w3;refine ⟨[.agg [.i .i64 x,.i .i64 y,.sl 1 a hh,.sl 2 b (Aj (Am (α:=Pr) l))],.i .i64 key,.i .i64 vv],⟨Tm hs2 hs w1 hv,EJ hu r1,EJ ht r2,trivial⟩,?_⟩;rw[hn,av6 Ai W7 x y a b hh (Am l) key vv,KI b,NM,(q2 key).1,(q2 key).2];have hll:(lst Pr b l).length=b:=FK b l;have hat:∀j (hj:j<b),nth (lst Pr b l) j=Am (α:=Pr) l j:=fun j hj=>SQ hj
    have e:Ai.toN (BO b l key)=Ce (lst Pr b l) key:=rfl;have awc:Ce (lst Pr b l) key<=b:=by have:=Tj (lst Pr b l) key;rw[hll] at this;exact this
    have hup:Ai.upTo (BO b l key) b=aC:=by simp[Jp,BO];omega
    have r0:Ai.room b 16=aC:=Ll h3 (vY b);have fin (n':Nat) (g':Nat->List Sh) (hn':n'=len (Fp (lst Pr b l) key vv)) (hg:∀j,j<n'->g' j=Aj (nth (Fp (lst Pr b l) key vv)) j) :
      up φ (.AQ [.agg [.i .i64 x,.i .i64 y,.sl 1 a hh,.os 272 2 n' g'],.i .i64 (ah 1),.i .i64 (ah 0)]):=
     BX (s':=.AQ [.agg [.i .i64 x,.i .i64 y,.sl 1 a hh,.sl 2 (len (Fp (lst Pr b l) key vv)) (Aj (nth (Fp (lst Pr b l) key vv)))],.i .i64 1,.i .i64 0]) ⟨⟨rfl,rfl,.inr ⟨rfl,rfl,fun _ _=>rfl⟩,.inr ⟨rfl,hn',hg⟩,trivial⟩,rfl,rfl,trivial⟩ hφ
    have hput (hb:GH b l key=aC):len (Fp (lst Pr b l) key vv)=b:=by
     have hb:En (lst Pr b l) key=aC:=hb;show (Fp (lst Pr b l) key vv).length=b;rw[abL,if_pos hb,hll]
    have aoB (hb:GH b l key=ay):len (Fp (lst Pr b l) key vv)=b+1:=by
     have hb:En (lst Pr b l) key=ay:=hb;show (Fp (lst Pr b l) key vv).length=b+1;rw[abL,if_neg (by rw[hb];simp),hll]
    have yes (hb:GH b l key=aC):Ai.inB (BO b l key) b=aC/\up φ (.AQ [.agg [.i .i64 x,.i .i64 y,.sl 1 a hh,.os 272 2 b (Ai.upd (Aj (Am (α:=Pr) l)) (Ai.toN (BO b l key)) 1 [.i .i64 vv])],.i .i64 (ah 1),.i .i64 (ah 0)]):=by
     have hlt:=Xm h1 hb;refine ⟨by simp[BJ,BO];omega,fin b _ (hput hb).symm fun j hj=>?_⟩;have hb':En (lst Pr b l) key=aC:=hb;obtain ⟨k1,k2⟩:=PY hso hb';rw[adS,e];show _=prR (nth (Fp (lst Pr b l) key vv) j);rw[afe hb',aoq k1 (by rw[hll];exact hj)];by_cases ej:j=Ce (lst Pr b l) key
     ·rw[if_pos ej,if_pos ej]
      have hk:(Am (α:=Pr) l (Ce (lst Pr b l) key)).key=key:=by rw[<-hat _ hlt,abK k1];exact k2
      subst ej;simp[Aj,Row.put,prR,hk]
     ·rw[if_neg ej,if_neg ej,hat j hj];rfl
    have no (hb:GH b l key=ay):up φ (.AQ [.agg [.i .i64 x,.i .i64 y,.sl 1 a hh,.os 272 2 (Ai.addN b 1) (Ai.ins (Aj (Am (α:=Pr) l)) (Ai.toN (BO b l key)) [.i .i64 key,.i .i64 vv])],.i .i64 (ah 1),.i .i64 (ah 0)]):=by
     refine fin (b+1) _ (aoB hb).symm fun j hj=>?_
     have hb':En (lst Pr b l) key=ay:=hb;rw[e];show (if j<_ then _ else if j=_ then _ else _)=prR (nth (Fp (lst Pr b l) key vv) j);rw[afd hb',aor (by rw[hll];exact awc) (by rw[hll];exact hj)];split
     ·rw[hat j (by omega)];rfl
     ·split
      ·rfl
      ·rw[hat (j - 1) (by omega)];rfl
    refine ⟨fun h0=>⟨?_,?_⟩,fun _=>?_⟩
    ·
     have hb0:b=0:=by simp[Ud] at h0;exact h0
     subst hb0;have hnil:∀g':Nat->List Sh,lst Pr 0 g'=[]:=fun _=>rfl
     have wf0:Ia 0 (fun _=>[])=aC:=by unfold Ia;rw[hnil];rfl
     have hh0:GH 0 (fun _=>[]) key=ay:=by unfold GH;rw[hnil];rfl
     have hh1:GH 0 l key=ay:=by unfold GH;rw[hnil];rfl
     have hp0:BO 0 (fun _=>[]) key=0:=by unfold BO;rw[hnil];rfl
     refine ⟨wf0,h2,fun hx=>(by rw[hh0] at hx;cases hx),fun _=>⟨by rw[hp0];rfl,h3,?_⟩⟩;refine fin 1 _ (aoB hh1).symm fun j hj=>?_
     obtain rfl:j=0:=by omega
     rw[hp0];show [aY .i64 key,.i .i64 vv]=prR (nth (Fp [] key vv) 0);rfl
    all_goals exact ⟨r0,q1,h2,fun hb=>yes hb,fun hb=>⟨hup,h3,no hb⟩⟩
  ·exact h.elim
 ·exact h.elim
theorem arG(stop:Nat->List Nat->Bool):BP aA (Yf Ai W7 Tf stop):=Yf.Vo (fun g F h=>by
  unfold Tf at h;split at h
  ·cases h;exact fun H w Bv args φ _ _ _ h=>h.elim
  ·cases h) fun g h=>by
 unfold Tf at h;split at h;all_goals first|(cases h;done) |kernel_rfl
theorem awd:AV aA (Bq W7) 186 aop:=by
 refine FT (C:=Yf Ai W7 Tf AP) (zN _ _) (fn:=zQ) (by kernel_rfl) (by kernel_rfl) fun H w Bv args φ hrep h=>?_
 have hn:zQ.ntmps=36:=by kernel_rfl
 unfold aop at h;split at h
 ·rename_i g
  split at h
  ·rename_i n g1 m g2 h0 h1
   obtain ⟨hr,hφ⟩:=h;match args,hrep with
   |[v],⟨hv,_⟩=>
    refine ⟨[.sl 1 2 (Bh [[.sl 2 n g1],[.sl 2 m g2]])],⟨EK hv fun j hj=>?_,trivial⟩,L0,G5 (zN _ _) (arG _) (hold:=BL) (m:=300) (n:=400) (ts:=[]) ?_⟩
    ·have:j=0\/j=1:=by omega
     rcases this with rfl|rfl
     ·rw[h0];rfl
     ·rw[h1];rfl
    ·rw[hn,a107 Ai W7 n m g1 g2]
     have hr:Ai.room (n+m) 16=aC:=hr;obtain ⟨hr1,hr2⟩:=FQ hr;rw[maxLen_eq] at hr2;have e0:Ai.add .i64 (ah 0) (Ai.AZ n)=(n:Int):=by
      rw[Dq,AY];show aW.wrap (0+(n:Int))=n;rw[Int.zero_add];exact Cj (by omega) (by omega)
     have e1:Ai.add .i64 (n:Int) (Ai.AZ m)=((n+m:Nat):Int):=by
      rw[Dq,AY,Cj (by omega) (by omega)];omega
     rw[e0,e1];have ng (k:Nat):Ai.lt (k:Int) (ah 0)=ay:=by simp[Aq]
     have r0:Ai.room (Ai.addN 0 n) 16=aC:=by rw[KI];exact Ll hr (Nat.le_add_right n m)
     have r1:Ai.room (Ai.addN (Ai.addN 0 n) m) 16=aC:=by rw[KI];exact hr
     have le:Ai.le (ah 0) ((n+m:Nat):Int)=aC:=by simp[DJ];omega
     have fin:=BX (φ:=φ) (s:=.os 272 2 (Ai.addN (Ai.addN 0 n) m) (Ai.snoc (Ai.snoc (fun (x:Nat)=>[]) 0 g1) (Ai.addN 0 n) g2)) (s':=.sl 2 (Ov n m) (adV g1 n g2)) (.inr ⟨rfl,by rw[KI];rfl,fun j hj=>by rw[KI,NM];rfl⟩);exact ⟨fun _=>⟨rfl,fun h=>(by rw[ng] at h;cases h),fun _=>⟨fun _=>⟨rfl,fun h=>(by rw[ng] at h;cases h),fun _=>⟨fun h=>(by cases h),fun _=>⟨le,hr,fun _=>⟨rfl,r0,fun _=>⟨rfl,r1,fun h=>(by cases h),fun _=>fin hφ⟩,fun h=>(by cases h)⟩,fun h=>(by cases h)⟩⟩⟩,fun h=>(by cases h)⟩⟩,fun h=>(by cases h)⟩
  ·exact h.elim
 ·exact h.elim
end Go.Proofs
namespace Go.Pl
open Go Go.Sx Go.Proofs
def KJ(op:Int)(b:Nat)(l:Nat->List Sh):Bool:=!decide (MF op=4)||(Ia b l&&BM (b+1) 16)
end Go.Pl
namespace Go.Proofs
open Go Go.Sx Go.Pl
theorem atu:∀g F,Fb g=ak F->AV aA (Bq W7) g F:=fun g F h=>by
 unfold Fb at h;split at h
 ·cases h;exact asF
 ·cases h;exact av8
 ·cases h;exact awd
 ·cases h
theorem akF(stop:Nat->List Nat->Bool):BP aA (C7 Ai W7 Fb stop):=nT atu fun g h=>by
 unfold Fb at h;split at h;all_goals first|(cases h;done) |kernel_rfl
theorem adW{b:Nat}{l:Nat->List Sh}(h:Ia b l=aC)(key:Int):Rk b (Aj (Am (α:=Pr) l)) key=MH (lst Pr b l) key/\PW b (Aj (Am (α:=Pr) l)) key=Lp (lst Pr b l) key:=by
 have e:lst Pr b (Aj (Am (α:=Pr) l))=lst Pr b l:=by rw[SS];rfl
 obtain ⟨h1,h2,h3⟩:=Ib.1 h;refine ⟨by unfold Rk MH GH;rw[e],?_⟩;rw[aot (by rw[e];exact h3),e]
theorem awe:AV aA (Bq W7) 183 aoy:=by
 refine D8 (C:=C7 Ai W7 Fb AU) (dD _ _) (akF _) (m:=300) (n:=400) (L:=L0) (fn:=zS) (by kernel_rfl) (by kernel_rfl) fun H w Bv args φ hrep h=>?_
 have hn:zS.ntmps=20:=by kernel_rfl
 unfold aoy at h;split at h
 ·rename_i x y s2 s3 u t
  split at h
  ·rename_i a hh b l key vv hs2 hs hu ht
   obtain ⟨h1,h2,hφ⟩:=h;match args,hrep with
   |[v,u1,u2],⟨hv,r1,r2,_⟩=>
    obtain ⟨q1,q2⟩:=Tn h1;obtain ⟨e1,e2⟩:=adW h1 key;refine ⟨[.agg [.i .i64 x,.i .i64 y,.sl 1 a hh,.sl 2 b (Aj (Am (α:=Pr) l))],.i .i64 key,.i .i64 vv],⟨Tm hs2 hs (Ib.1 h1).1 hv,EJ hu r1,EJ ht r2,trivial⟩,?_⟩;rw[hn,av5 Ai W7 x y a b hh (Am l) key vv,e1,e2];exact ⟨q1,h2,BX (s':=.AQ [.agg [.i .i64 x,.i .i64 y,.sl 1 a hh,.sl 2 b l],.i .i64 (MH (lst Pr b l) key),.i .i64 (Lp (lst Pr b l) key)]) ⟨⟨rfl,rfl,.inr ⟨rfl,rfl,fun _ _=>rfl⟩,.inr ⟨rfl,rfl,fun j hj=>(Jh (Ib.1 h1).1 j hj).symm⟩,trivial⟩,rfl,rfl,trivial⟩ hφ⟩
  ·exact h.elim
 ·exact h.elim
theorem awf:AV aA (Bq W7) 185 aoA:=by
 refine D8 (C:=C7 Ai W7 Fb AU) (dD _ _) (akF _) (m:=600) (n:=800) (L:=L0) (fn:=zT) (by kernel_rfl) (by kernel_rfl) fun H w Bv args φ hrep h=>?_
 have hn:zT.ntmps=41:=by kernel_rfl
 unfold aoA at h;split at h
 ·rename_i x y s2 s3 u t
  split at h
  ·rename_i a hh b l key vv hs2 hs hu ht
   obtain ⟨h1,h2,h3,hφ⟩:=h;match args,hrep with
   |[v,u1,u2],⟨hv,r1,r2,_⟩=>
    obtain ⟨q1,q2⟩:=Tn h1;obtain ⟨e1,e2⟩:=adW h1 key;obtain ⟨w1,w2,w3⟩:=Ib.1 h1;refine ⟨[.agg [.i .i64 x,.i .i64 y,.sl 1 a hh,.sl 2 b (Aj (Am (α:=Pr) l))],.i .i64 key,.i .i64 vv],⟨Tm hs2 hs w1 hv,EJ hu r1,EJ ht r2,trivial⟩,?_⟩;have hll:(lst Pr b l).length=b:=FK b l;have hat:∀j (hj:j<b),nth (lst Pr b l) j=Am (α:=Pr) l j:=fun j hj=>SQ hj
    have e:Ai.toN (BO b l key)=Ce (lst Pr b l) key:=rfl;have e1':Ai.toN (Ai.add .i64 (BO b l key) (ah 1))=Ce (lst Pr b l) key+1:=by
     have:Ce (lst Pr b l) key<=b:=by have:=Tj (lst Pr b l) key;rw[hll] at this;exact this
     rw[Dq];show (aW.wrap ((Ce (lst Pr b l) key:Int)+1)).toNat=_;rw[Cj (by omega) (by omega)];omega
    have e1i:GH b l key=aC->Ai.upTo (Ai.add .i64 (BO b l key) (ah 1)) b=aC:=fun hb=>by
     have:=Xm h1 hb;rw[Dq];show Ai.upTo (aW.wrap ((Ce (lst Pr b l) key:Int)+1)) b=aC;rw[Cj (by omega) (by omega)];simp[Jp];omega
    have hup:Ai.upTo (BO b l key) b=aC:=by
     have:Ce (lst Pr b l) key<=b:=by have:=Tj (lst Pr b l) key;rw[hll] at this;exact this
     simp[Jp,BO];omega
    rw[hn,av7 Ai W7 x y a b hh (Am l) key vv,e1,e2,(q2 key).1,(q2 key).2];have fin (n':Nat) (g':Nat->List Sh) (hn':n'=len (Gn (lst Pr b l) key)) (hg:∀j,j<n'->g' j=Aj (nth (Gn (lst Pr b l) key)) j) :
      up φ (.AQ [.agg [.i .i64 x,.i .i64 y,.sl 1 a hh,.sl 2 n' g'],.i .i64 (MH (lst Pr b l) key),.i .i64 (Lp (lst Pr b l) key)]):=
     BX (s':=.AQ [.agg [.i .i64 x,.i .i64 y,.sl 1 a hh,.sl 2 (len (Gn (lst Pr b l) key)) (Aj (nth (Gn (lst Pr b l) key)))],.i .i64 (MH (lst Pr b l) key),.i .i64 (Lp (lst Pr b l) key)]) ⟨⟨rfl,rfl,.inr ⟨rfl,rfl,fun _ _=>rfl⟩,.inr ⟨rfl,hn',hg⟩,trivial⟩,rfl,rfl,trivial⟩ hφ
    have hdl:len (Gn (lst Pr b l) key)=if En (lst Pr b l) key=aC then b - 1 else b:=by
     show (Gn (lst Pr b l) key).length=_;rw[ag5 w3,hll]
    refine ⟨q1,h2,q1,h2,fun hb=>?_,fun hb=>?_⟩
    ·have awg:=e1i hb
     have hlt:=Xm h1 hb;have hb':En (lst Pr b l) key=aC:=hb;have rr:BM (Ov (Ai.toN (BO b l key)) (Ai.JK b (Ai.toN (Ai.add .i64 (BO b l key) (ah 1))))) 16=aC:=by
      rw[e,e1',abC];exact Ll h3 (by show Ce (lst Pr b l) key+(b - (Ce (lst Pr b l) key+1))<=b+1;omega)
     have last:up φ (.AQ [.agg [.i .i64 x,.i .i64 y,.sl 1 a hh,.sl 2 (Ov (Ai.toN (BO b l key)) (Ai.JK b (Ai.toN (Ai.add .i64 (BO b l key) (ah 1))))) (adV (Aj (Am (α:=Pr) l)) (Ai.toN (BO b l key)) fun (j:Nat)=>Aj (Am (α:=Pr) l) (Ai.addN (Ai.toN (Ai.add .i64 (BO b l key) 1)) j))],.i .i64 (MH (lst Pr b l) key),.i .i64 (Lp (lst Pr b l) key)]):=by
      have e2':Ai.toN (Ai.add .i64 (BO b l key) 1)=Ce (lst Pr b l) key+1:=e1';rw[e1',e2',e,abC];refine fin _ _ (by rw[hdl,if_pos hb'];show Ce (lst Pr b l) key+(b - (Ce (lst Pr b l) key+1))=_;omega) fun j hj=>?_
      have hj:j<Ce (lst Pr b l) key+(b - (Ce (lst Pr b l) key+1)):=hj;obtain ⟨k1,_⟩:=PY (Hr w3) hb';show Ai.snoc _ _ _ j=prR (nth (Gn (lst Pr b l) key) j);rw[afg hb',aos k1 (by rw[hll];omega),Ec];split
      ·rw[hat j (by omega)];rfl
      ·rw[hat (j+1) (by omega),Du]
       show prR (Am l (Ce (lst Pr b l) key+1+(j - Ce (lst Pr b l) key)))=_;rw[show Ce (lst Pr b l) key+1+(j - Ce (lst Pr b l) key)=j+1 by omega]
     clear hφ fin hat;rw[hup,awg,rr];generalize Ai.toN (BO b l key)=n1 at *;generalize Ai.JK b (Ai.toN (Ai.add .i64 (BO b l key) (ah 1)))=n2 at *;repeat' (first|exact rfl|exact trivial|exact last|refine And.intro ?_ ?_)
    ·have hb':En (lst Pr b l) key=ay:=hb
     exact fin b _ (by rw[hdl,if_neg (by rw[hb'];simp)]) fun j hj=>by
      show prR (Am l j)=prR (nth (Gn (lst Pr b l) key) j);rw[aff hb',hat j hj]
  ·exact h.elim
 ·exact h.elim
end Go.Proofs
namespace Go.Sx
section
variable{P:Program}{C:Ctx}{K:Kx}
theorem alY{g:Nat}{td:List It}{c:Core}{stk:List Fr}{R:Hp->Prop}{φ:Sh->Prop}(tm':List SV)(h:∀(H:Mem) (E:Env) (vs:List Value),AA H E c.tm vs->AA H E tm' vs)(hgo:Bz P C K g td {c with tm:=tm'} stk R φ):Bz P C K g td c stk R φ:=by
 intro H E w a items ms cs fn hfn st hi hs hx;exact hgo H E w a items ms cs fn hfn ⟨h H E _ st.den,st.hp,st.BZ,st.free,st.gl,st.defers⟩ hi hs hx
theorem ag6{H:Mem}{E:Env}{k:IntKind}{n:Int}:∀(i:Nat) {l:List SV} {vs:List Value},l[i]?=ak (.sym k n)->AA H E l vs->AA H E (l.set i (.int k n)) vs
 |_,[],_,h,_=>by simp at h |_,_::_,[],_,h=>h.elim |0,x::l,v::vs,h,⟨h1,h2⟩=>by
  simp at h;subst h;exact ⟨h1,h2⟩
 |i+1,x::l,v::vs,h,⟨h1,h2⟩=>⟨h1,ag6 i (by simpa using h) h2⟩
end
end Go.Sx
namespace Go.Pl
open Go Go.Sx
def Kr(a b:Int):Int:=aW.wrap (a+b)
def Ox(h:Nat->List Sh):Nat->List Sh:=fun j=>h (1+j)
def QK(a:Nat):Nat:=a - 1
def UD(a:Nat):Int:=if a=0 then 2 else 3
def QL(a:Nat)(o:Nat->Int):Int:=if a=0 then 0 else o 0
end Go.Pl
namespace Go.Proofs
open Go Go.Sx Go.Pl
def F66:List Sh->Tree Sh
 |[t]=>match BF t with
  |some op=>.leaf (.i .i64 (MF op)) |none=>.fail
 |_=>.fail
def F67:List Sh->Tree Sh
 |[t]=>match BF t with
  |some op=>.leaf (.b (keyed op)) |none=>.fail
 |_=>.fail
def F68:List Sh->Tree Sh
 |[t]=>match BF t with
  |some op=>.leaf (.b (valued op)) |none=>.fail
 |_=>.fail
def F69:List Sh->Tree Sh
 |[t,u,v]=>match BF t,BF u,BF v with
  |some k,ak x,ak y=>.leaf (.b (Je k x y)) |_,_,_=>.fail
 |_=>.fail
def F94:List Sh->Tree Sh
 |[.agg [.i .i64 x,.i .i64 y,s2,s3],u,t]=>match D9 1 s2,D9 2 s3,BF u,BF t with
  |some (a,h),ak (b,l),ak _,ak _=>.leaf (.AQ [.agg [.i .i64 x,.i .i64 y,.sl 1 a h,.sl 2 b l],.i .i64 3,.i .i64 y]) |_,_,_,_=>.fail
 |_=>.fail
def F95:List Sh->Tree Sh
 |[.agg [.i .i64 x,.i .i64 _,s2,s3],u,t]=>match D9 1 s2,D9 2 s3,BF u,BF t with
  |some (a,h),ak (b,l),ak _,ak v=>.leaf (.AQ [.agg [.i .i64 x,.i .i64 v,.sl 1 a h,.sl 2 b l],.i .i64 1,.i .i64 0]) |_,_,_,_=>.fail
 |_=>.fail
def F96:List Sh->Tree Sh
 |[.agg [.i .i64 x,.i .i64 y,s2,s3],u,t]=>match D9 1 s2,D9 2 s3,BF u,BF t with
  |some (a,h),ak (b,l),ak _,ak v=>.leaf (.AQ [.agg [.i .i64 x,.i .i64 (Kr y v),.sl 1 a h,.sl 2 b l],.i .i64 1,.i .i64 0]) |_,_,_,_=>.fail
 |_=>.fail
def F97:List Sh->Tree Sh
 |[.agg [.i .i64 x,.i .i64 y,s2,s3],u,t]=>match D9 1 s2,D9 2 s3,BF u,BF t with
  |some (a,h),ak (b,l),ak _,ak v=>.need (BM (a+1) 8) (.leaf (.AQ [.agg [.i .i64 x,.i .i64 y,.sl 1 (a+1) (Gw a h [.i .i64 v]),.sl 2 b l],.i .i64 1,.i .i64 0])) |_,_,_,_=>.fail
 |_=>.fail
def F99:List Sh->Tree Sh
 |[.agg [.i .i64 x,.i .i64 y,s2,s3],u,t]=>match D9 1 s2,D9 2 s3,BF u,BF t with
  |some (a,h),ak (b,l),ak _,ak _=>.need (okB Int a h) (.leaf (.AQ [.agg [.i .i64 x,.i .i64 y,.sl 1 (QK a) (Ox h),.sl 2 b l],.i .i64 (UD a),.i .i64 (QL a (Am h))])) |_,_,_,_=>.fail
 |_=>.fail
def Hy:Nat->Option (List Sh->Tree Sh)
 |102=>ak F66 |151=>ak F67 |152=>ak F68 |153=>ak F69 |173=>ak F94 |174=>ak F95 |175=>ak F96 |176=>ak F97 |178=>ak F99 |179=>ak aoz |183=>ak aoy |185=>ak aoA |_=>aK
def akG:List Nat->List Nat->Bool
 |[],[]=>aC |x::l,y::r=>fC x y&&akG l r |_,_=>ay
def aoC(f:Nat)(ps:List (List Nat))(g:Nat)(td:List It):Bool:=fC g f&&match td with
 | .code r::_=>ps.any (akG r) |_=>ay
def ag7:Nat->List It->Bool:=aoC 120 [[0,1,1,1,1]]
def L42(x y:Int)(a b:Nat)(h l:Nat->List Sh)(op k v:Int):Core:={tm:=G6 88 [(1,.sym .i64 op),(2,.sym .i64 k),(3,.sym .i64 v),(4,.ptr 0 0),(8,.ptr 1 0)],hp:=[(0,.box [.sym .i64 x,.sym .i64 y,.sh (.sl 1 a h),.sh (.sl 2 b l)] 211),(1,.box [.int .i64 0,.int .i64 0,.A8,.A8] 211)],nx:=2,lim:=L0,tc:=[]}
def UE(x y:Int)(a b:Nat)(h l:Nat->List Sh)(n:Int)(k v:Int):Core:={tm:=(L42 x y a b h l n k v).tm.set 1 (.int .i64 n),hp:=(L42 x y a b h l n k v).hp,nx:=2,lim:=L0,tc:=[]}
def NS:List It:=[bD [0,1,1,1,1],bD [1,1,1,1,1]]
noncomputable def QM:Nat->Option (List Sh->Tree Sh)
 |119=>ak F33 |116=>ak F35 |95=>ak F41 |77=>ak F49 |96=>ak F50 |121=>ak F54 |117=>ak F56 |_=>aK
def Zp:List It:=[bD [0,1,0,1,1,1],dw 0,bD [1,1,1,1]]
def akH:List It:=bD [0,0,1,0,1,1,1]::Zp
def awh(k:Nat)(gg:Nat->List Sh):Bool->SV
 |true=>.A8 |false=>.sh (.sl 4 k gg)
def Xn(n:Nat)(o:Nat->Oj)(i:Int)(k:Nat)(gg:Nat->List Sh)(v:Bool):Core:={tm:=G6 38 [(2,.ptr 0 0),(5,.ptr 1 0),(17,.sh (.sl 2 n (Aj o))),(18,.sym .i64 (n:Int)),(19,.sym .i64 i)],hp:=[(0,.box [.A8] 100),(1,.box [awh k gg v] 98)],nx:=2,lim:=L0,tc:=[]}
theorem a25(A:Prim)(W:Wd)(n:Nat)(o:Nat->Oj)(i':Int)(k':Nat)(Iu:Nat->List Sh):Bj (C7 A W QM AU) BL 300 400 75 [.code []] (Ap 38 [.sl 2 n (Aj o)] L0) [] [⟨75,Zp,Xn n o i' k' Iu aC,[]⟩]=aH (okB Oj n (Aj o)) (aH (QH n (Am (Aj o))) (aF (S9 n) (aB (aT (cZ [cO [aG 0 0 fun _=>[]],bf 6 329]))) (aF (NQ n (Am (Aj o))) (aB (bK 0 [aO (aG 2 n (Aj o)) (aG 2 n (Aj o)),aj (A.AZ n) (ah n),aj (ah 0) i'])) (aB (aT (cZ [cO [aG 0 0 fun _=>[]],Sh.C9 109 (Sh.pt [aY .i64 (ah (Lm n (Am (Aj o)))),bf 7 329])])))))):=by kernel_rfl
theorem b25(A:Prim)(W:Wd)(n:Nat)(o:Nat->Oj)(i i':Int)(k k':Nat)(gg Iu:Nat->List Sh):Bj (C7 A W QM AU) BL 300 400 75 akH (Xn n o i k gg ay) [] [⟨75,Zp,Xn n o i' k' Iu ay,[]⟩]=aF (A.lt i (ah n)) (aH (A.inB i n) (aH (Di (o (A.toN i)).kind) (aF (Fa (o (A.toN i)).kind (o (A.toN i)).init) (aB (aT (cZ [cO [aG 0 0 fun _=>[]],bf 7 329]))) (aH (BM k.succ 64) (aB (bK 0 [aO (aG 2 n (Aj o)) (aG 2 n (Aj o)),aj (ah n) (ah n),aj (A.add .i64 i (ah 1)) i',aO (aG 4 k.succ (Gw k gg [aY .i64 (o (A.toN i)).kind,aY .i64 (o (A.toN i)).init,aG 1 0 noI,aG 2 0 noP])) (aG 4 k' Iu)])))))) (aB (aT (cZ [cO [aG 4 k gg],jG bJ]))):=by kernel_rfl
theorem c25(A:Prim)(W:Wd)(n:Nat)(o:Nat->Oj)(i i':Int)(k k':Nat)(gg Iu:Nat->List Sh):Bj (C7 A W QM AU) BL 300 400 75 akH (Xn n o i k gg aC) [] [⟨75,Zp,Xn n o i' k' Iu ay,[]⟩]=aF (A.lt i (ah n)) (aH (A.inB i n) (aH (Di (o (A.toN i)).kind) (aF (Fa (o (A.toN i)).kind (o (A.toN i)).init) (aB (aT (cZ [cO [aG 0 0 fun _=>[]],bf 7 329]))) (aH (BM 1 64) (aB (bK 0 [aO (aG 2 n (Aj o)) (aG 2 n (Aj o)),aj (ah n) (ah n),aj (A.add .i64 i (ah 1)) i',aO (aG 4 1 (Gw 0 (fun _=>[]) [aY .i64 (o (A.toN i)).kind,aY .i64 (o (A.toN i)).init,aG 1 0 noI,aG 2 0 noP])) (aG 4 k' Iu)])))))) (aB (aT (cZ [cO [aG 0 0 fun _=>[]],jG bJ]))):=by kernel_rfl
theorem a94(A:Prim)(W:Wd)(x y:Int)(a b:Nat)(h l:Nat->List Sh)(k v:Int):Bj (C7 A W DL AU) BL 300 400 173 [.code []] (Ap 12 [.agg [.i .i64 x,.i .i64 y,.sl 1 a h,.sl 2 b l],.i .i64 k,.i .i64 v] L0) [] []=aB (aT (cZ [cO [aY .i64 x,aY .i64 y,aG 1 a h,aG 2 b l],aY .i64 (ah 3),aY .i64 y])):=by kernel_rfl
theorem a95(A:Prim)(W:Wd)(x y:Int)(a b:Nat)(h l:Nat->List Sh)(k v:Int):Bj (C7 A W DL AU) BL 300 400 174 [.code []] (Ap 12 [.agg [.i .i64 x,.i .i64 y,.sl 1 a h,.sl 2 b l],.i .i64 k,.i .i64 v] L0) [] []=aB (aT (cZ [cO [aY .i64 x,aY .i64 v,aG 1 a h,aG 2 b l],aY .i64 (ah 1),aY .i64 (ah 0)])):=by kernel_rfl
theorem a96(A:Prim)(W:Wd)(x y:Int)(a b:Nat)(h l:Nat->List Sh)(k v:Int):Bj (C7 A W DL AU) BL 300 400 175 [.code []] (Ap 15 [.agg [.i .i64 x,.i .i64 y,.sl 1 a h,.sl 2 b l],.i .i64 k,.i .i64 v] L0) [] []=aB (aT (cZ [cO [aY .i64 x,aY .i64 (A.add .i64 y v),aG 1 a h,aG 2 b l],aY .i64 (ah 1),aY .i64 (ah 0)])):=by kernel_rfl
theorem a97(A:Prim)(W:Wd)(x y:Int)(a b:Nat)(h l:Nat->List Sh)(k v:Int):Bj (C7 A W DL AU) BL 300 400 176 [.code []] (Ap 17 [.agg [.i .i64 x,.i .i64 y,.sl 1 a h,.sl 2 b l],.i .i64 k,.i .i64 v] L0) [] []=aF (A.ZN a 0) ((aB (aT (cZ [cO [aY .i64 x,aY .i64 y,jw 3 1 1 (Bh [[aY .i64 v]]),aG 2 b l],aY .i64 (ah 1),aY .i64 (ah 0)]))).both (aH (A.room (A.addN 0 a) 8) (aH (A.room (A.addN (A.addN 0 a) 1) 8) (aB (aT (cZ [cO [aY .i64 x,aY .i64 y,jw 3 1 (A.addN (A.addN 0 a) 1) (A.snoc (A.snoc (Bh []) 0 h) (A.addN 0 a) (Bh [[aY .i64 v]])),aG 2 b l],aY .i64 (ah 1),aY .i64 (ah 0)])))))) (aH (A.room (A.addN 0 a) 8) (aH (A.room (A.addN (A.addN 0 a) 1) 8) (aB (aT (cZ [cO [aY .i64 x,aY .i64 y,jw 3 1 (A.addN (A.addN 0 a) 1) (A.snoc (A.snoc (Bh []) 0 h) (A.addN 0 a) (Bh [[aY .i64 v]])),aG 2 b l],aY .i64 (ah 1),aY .i64 (ah 0)]))))):=by kernel_rfl
theorem a99(A:Prim)(W:Wd)(x y:Int)(a b:Nat)(o:Nat->Int)(l:Nat->List Sh)(k v:Int):Bj (C7 A W DL AU) BL 300 400 178 [.code []] (Ap 25 [.agg [.i .i64 x,.i .i64 y,.sl 1 a (Aj o),.sl 2 b l],.i .i64 k,.i .i64 v] L0) [] []=aF (A.eq (A.AZ a) (ah 0)) (aB (aT (cZ [cO [aY .i64 x,aY .i64 y,aG 1 a (Aj o),aG 2 b l],aY .i64 (ah 2),aY .i64 (ah 0)]))) (aH (A.inB (ah 0) a) (aH (A.upTo (ah 1) a) (aB (aT (cZ [cO [aY .i64 x,aY .i64 y,aG 1 (A.JK a 1) fun (j:Nat)=>Aj o (A.addN 1 j),aG 2 b l],aY .i64 (ah 3),aY .i64 (o 0)]))))):=by kernel_rfl
theorem a42(A:Prim)(W:Wd)(x y:Int)(a b:Nat)(h l:Nat->List Sh)(op k v:Int):asx (C7 A W Hy AU) ag7 300 400 120 [.code []] (Ap 88 [.agg [.i .i64 x,.i .i64 y,.sl 1 a h,.sl 2 b l],.i .i64 op,.i .i64 k,.i .i64 v] L0) [] [⟨120,NS,L42 x y a b h l op k v,[]⟩]=aF (A.eq x (ah 0)) (aB (aT (cZ [cO [aY .i64 (ah 0),aY .i64 (ah 0),aG 0 0 fun _=>[],aG 0 0 fun _=>[]],aY .i64 (ah 0),aY .i64 (ah 0),bf 8 329]))) (aF (A.nt (A.eq (MF op) x)) (aB (aT (cZ [cO [aY .i64 (ah 0),aY .i64 (ah 0),aG 0 0 fun _=>[],aG 0 0 fun _=>[]],aY .i64 (ah 0),aY .i64 (ah 0),bf 8 329]))) (aF (A.nt (A.eq k (ah 0))) (aF (A.nt (keyed op)) (aB (aT (cZ [cO [aY .i64 (ah 0),aY .i64 (ah 0),aG 0 0 fun _=>[],aG 0 0 fun _=>[]],aY .i64 (ah 0),aY .i64 (ah 0),bf 15 329]))) (aF (A.lt k (ah 0)) (aB (aT (cZ [cO [aY .i64 (ah 0),aY .i64 (ah 0),aG 0 0 fun _=>[],aG 0 0 fun _=>[]],aY .i64 (ah 0),aY .i64 (ah 0),bf 15 329]))) (aF (A.lt (ah 1000) k) (aB (aT (cZ [cO [aY .i64 (ah 0),aY .i64 (ah 0),aG 0 0 fun _=>[],aG 0 0 fun _=>[]],aY .i64 (ah 0),aY .i64 (ah 0),bf 15 329]))) (aF (A.nt (A.eq v (ah 0))) (aF (A.nt (valued op)) (aB (aT (cZ [cO [aY .i64 (ah 0),aY .i64 (ah 0),aG 0 0 fun _=>[],aG 0 0 fun _=>[]],aY .i64 (ah 0),aY .i64 (ah 0),bf 15 329]))) (aF (A.lt v (fJ 999999999)) (aB (aT (cZ [cO [aY .i64 (ah 0),aY .i64 (ah 0),aG 0 0 fun _=>[],aG 0 0 fun _=>[]],aY .i64 (ah 0),aY .i64 (ah 0),bf 15 329]))) (aF (A.lt (ah 1000000000) v) (aB (aT (cZ [cO [aY .i64 (ah 0),aY .i64 (ah 0),aG 0 0 fun _=>[],aG 0 0 fun _=>[]],aY .i64 (ah 0),aY .i64 (ah 0),bf 15 329]))) (aF (A.eq op (ah 3)) (aF (Je x (ah 0) (A.add .i64 y v)) (aB (aT (cZ [cO [aY .i64 (ah 0),aY .i64 (ah 0),aG 0 0 fun _=>[],aG 0 0 fun _=>[]],aY .i64 (ah 0),aY .i64 (ah 0),bf 15 329]))) (aB (bK 0 [aj op op,aj k k,aj v v,aj x x,aj y y,aO (aG 1 a h) (aG 1 a h),aO (aG 2 b l) (aG 2 b l),aj (ah 0) (ah 0),aj (ah 0) (ah 0)]))) (aB (bK 0 [aj op op,aj k k,aj v v,aj x x,aj y y,aO (aG 1 a h) (aG 1 a h),aO (aG 2 b l) (aG 2 b l),aj (ah 0) (ah 0),aj (ah 0) (ah 0)])))))) (aF (A.lt v (fJ 999999999)) (aB (aT (cZ [cO [aY .i64 (ah 0),aY .i64 (ah 0),aG 0 0 fun _=>[],aG 0 0 fun _=>[]],aY .i64 (ah 0),aY .i64 (ah 0),bf 15 329]))) (aF (A.lt (ah 1000000000) v) (aB (aT (cZ [cO [aY .i64 (ah 0),aY .i64 (ah 0),aG 0 0 fun _=>[],aG 0 0 fun _=>[]],aY .i64 (ah 0),aY .i64 (ah 0),bf 15 329]))) (aF (A.eq op (ah 3)) (aF (Je x (ah 0) (A.add .i64 y v)) (aB (aT (cZ [cO [aY .i64 (ah 0),aY .i64 (ah 0),aG 0 0 fun _=>[],aG 0 0 fun _=>[]],aY .i64 (ah 0),aY .i64 (ah 0),bf 15 329]))) (aB (bK 0 [aj op op,aj k k,aj v v,aj x x,aj y y,aO (aG 1 a h) (aG 1 a h),aO (aG 2 b l) (aG 2 b l),aj (ah 0) (ah 0),aj (ah 0) (ah 0)]))) (aB (bK 0 [aj op op,aj k k,aj v v,aj x x,aj y y,aO (aG 1 a h) (aG 1 a h),aO (aG 2 b l) (aG 2 b l),aj (ah 0) (ah 0),aj (ah 0) (ah 0)]))))))))) (aF (A.lt k (ah 0)) (aB (aT (cZ [cO [aY .i64 (ah 0),aY .i64 (ah 0),aG 0 0 fun _=>[],aG 0 0 fun _=>[]],aY .i64 (ah 0),aY .i64 (ah 0),bf 15 329]))) (aF (A.lt (ah 1000) k) (aB (aT (cZ [cO [aY .i64 (ah 0),aY .i64 (ah 0),aG 0 0 fun _=>[],aG 0 0 fun _=>[]],aY .i64 (ah 0),aY .i64 (ah 0),bf 15 329]))) (aF (A.nt (A.eq v (ah 0))) (aF (A.nt (valued op)) (aB (aT (cZ [cO [aY .i64 (ah 0),aY .i64 (ah 0),aG 0 0 fun _=>[],aG 0 0 fun _=>[]],aY .i64 (ah 0),aY .i64 (ah 0),bf 15 329]))) (aF (A.lt v (fJ 999999999)) (aB (aT (cZ [cO [aY .i64 (ah 0),aY .i64 (ah 0),aG 0 0 fun _=>[],aG 0 0 fun _=>[]],aY .i64 (ah 0),aY .i64 (ah 0),bf 15 329]))) (aF (A.lt (ah 1000000000) v) (aB (aT (cZ [cO [aY .i64 (ah 0),aY .i64 (ah 0),aG 0 0 fun _=>[],aG 0 0 fun _=>[]],aY .i64 (ah 0),aY .i64 (ah 0),bf 15 329]))) (aF (A.eq op (ah 3)) (aF (Je x (ah 0) (A.add .i64 y v)) (aB (aT (cZ [cO [aY .i64 (ah 0),aY .i64 (ah 0),aG 0 0 fun _=>[],aG 0 0 fun _=>[]],aY .i64 (ah 0),aY .i64 (ah 0),bf 15 329]))) (aB (bK 0 [aj op op,aj k k,aj v v,aj x x,aj y y,aO (aG 1 a h) (aG 1 a h),aO (aG 2 b l) (aG 2 b l),aj (ah 0) (ah 0),aj (ah 0) (ah 0)]))) (aB (bK 0 [aj op op,aj k k,aj v v,aj x x,aj y y,aO (aG 1 a h) (aG 1 a h),aO (aG 2 b l) (aG 2 b l),aj (ah 0) (ah 0),aj (ah 0) (ah 0)])))))) (aF (A.lt v (fJ 999999999)) (aB (aT (cZ [cO [aY .i64 (ah 0),aY .i64 (ah 0),aG 0 0 fun _=>[],aG 0 0 fun _=>[]],aY .i64 (ah 0),aY .i64 (ah 0),bf 15 329]))) (aF (A.lt (ah 1000000000) v) (aB (aT (cZ [cO [aY .i64 (ah 0),aY .i64 (ah 0),aG 0 0 fun _=>[],aG 0 0 fun _=>[]],aY .i64 (ah 0),aY .i64 (ah 0),bf 15 329]))) (aF (A.eq op (ah 3)) (aF (Je x (ah 0) (A.add .i64 y v)) (aB (aT (cZ [cO [aY .i64 (ah 0),aY .i64 (ah 0),aG 0 0 fun _=>[],aG 0 0 fun _=>[]],aY .i64 (ah 0),aY .i64 (ah 0),bf 15 329]))) (aB (bK 0 [aj op op,aj k k,aj v v,aj x x,aj y y,aO (aG 1 a h) (aG 1 a h),aO (aG 2 b l) (aG 2 b l),aj (ah 0) (ah 0),aj (ah 0) (ah 0)]))) (aB (bK 0 [aj op op,aj k k,aj v v,aj x x,aj y y,aO (aG 1 a h) (aG 1 a h),aO (aG 2 b l) (aG 2 b l),aj (ah 0) (ah 0),aj (ah 0) (ah 0)])))))))))):=by kernel_rfl
noncomputable def Yp(x y:Int)(a b:Nat)(h l:Nat->List Sh)(k v:Int):List BK:=[aj k k,aj v v,aj (ah 3) (ah 3),aj y y,aj x x,aj y y,aO (aG 1 a h) (aG 1 a h),aO (aG 2 b l) (aG 2 b l),aj x x,aj y y,aO (aG 1 a h) (aG 1 a h),aO (aG 2 b l) (aG 2 b l)]
theorem atD(A:Prim)(W:Wd)(x y:Int)(a b:Nat)(h l:Nat->List Sh)(k v:Int):Bj (C7 A W Hy AU) BL 300 400 120 NS (UE x y a b h l 1 k v) [] []=aQ (Yp x y a b h l k v) (aQ (Yp x y a b h l k v) (aQ (Yp x y a b h l k v) (aB (aT (cZ [cO [aY .i64 x,aY .i64 y,aG 1 a h,aG 2 b l],aY .i64 (ah 3),aY .i64 y,jG bJ]))))):=by kernel_rfl
noncomputable def Yq(x y:Int)(a b:Nat)(h l:Nat->List Sh)(k v:Int):List BK:=[aj k k,aj v v,aj (ah 1) (ah 1),aj (ah 0) (ah 0),aj x x,aj y y,aO (aG 1 a h) (aG 1 a h),aO (aG 2 b l) (aG 2 b l),aj x x,aj v v,aO (aG 1 a h) (aG 1 a h),aO (aG 2 b l) (aG 2 b l)]
theorem atE(A:Prim)(W:Wd)(x y:Int)(a b:Nat)(h l:Nat->List Sh)(k v:Int):Bj (C7 A W Hy AU) BL 300 400 120 NS (UE x y a b h l 2 k v) [] []=aQ (Yq x y a b h l k v) (aQ (Yq x y a b h l k v) (aQ (Yq x y a b h l k v) (aB (aT (cZ [cO [aY .i64 x,aY .i64 v,aG 1 a h,aG 2 b l],aY .i64 (ah 1),aY .i64 (ah 0),jG bJ]))))):=by kernel_rfl
noncomputable def Yr(x y:Int)(a b:Nat)(h l:Nat->List Sh)(k v:Int):List BK:=[aj k k,aj v v,aj (ah 1) (ah 1),aj (ah 0) (ah 0),aj x x,aj y y,aO (aG 1 a h) (aG 1 a h),aO (aG 2 b l) (aG 2 b l),aj x x,aj (Kr y v) (Kr y v),aO (aG 1 a h) (aG 1 a h),aO (aG 2 b l) (aG 2 b l)]
theorem atF(A:Prim)(W:Wd)(x y:Int)(a b:Nat)(h l:Nat->List Sh)(k v:Int):Bj (C7 A W Hy AU) BL 300 400 120 NS (UE x y a b h l 3 k v) [] []=aQ (Yr x y a b h l k v) (aQ (Yr x y a b h l k v) (aQ (Yr x y a b h l k v) (aB (aT (cZ [cO [aY .i64 x,aY .i64 (Kr y v),aG 1 a h,aG 2 b l],aY .i64 (ah 1),aY .i64 (ah 0),jG bJ]))))):=by kernel_rfl
noncomputable def Yt(x y:Int)(a b:Nat)(h l:Nat->List Sh)(k v:Int):List BK:=[aj k k,aj v v,aj (ah 3) (ah 3),aj y y,aj x x,aj y y,aO (aG 1 a h) (aG 1 a h),aO (aG 2 b l) (aG 2 b l),aj x x,aj y y,aO (aG 1 a h) (aG 1 a h),aO (aG 2 b l) (aG 2 b l)]
theorem atG(A:Prim)(W:Wd)(x y:Int)(a b:Nat)(h l:Nat->List Sh)(k v:Int):Bj (C7 A W Hy AU) BL 300 400 120 NS (UE x y a b h l 4 k v) [] []=aQ (Yt x y a b h l k v) (aQ (Yt x y a b h l k v) (aQ (Yt x y a b h l k v) (aB (aT (cZ [cO [aY .i64 x,aY .i64 y,aG 1 a h,aG 2 b l],aY .i64 (ah 3),aY .i64 y,jG bJ]))))):=by kernel_rfl
noncomputable def Yu(x y:Int)(a b:Nat)(h l:Nat->List Sh)(k v:Int):List BK:=[aj k k,aj v v,aj (ah 1) (ah 1),aj (ah 0) (ah 0),aj x x,aj y y,aO (aG 1 a h) (aG 1 a h),aO (aG 2 b l) (aG 2 b l),aj x x,aj y y,aO (aG 1 a.succ (Gw a h [aY .i64 v])) (aG 1 a.succ (Gw a h [aY .i64 v])),aO (aG 2 b l) (aG 2 b l)]
theorem atH(A:Prim)(W:Wd)(x y:Int)(a b:Nat)(h l:Nat->List Sh)(k v:Int):Bj (C7 A W Hy AU) BL 300 400 120 NS (UE x y a b h l 5 k v) [] []=aH (BM a.succ 8) (aH (BM a.succ 8) (aQ (Yu x y a b h l k v) (aH (BM a.succ 8) (aQ (Yu x y a b h l k v) (aH (BM a.succ 8) (aQ (Yu x y a b h l k v) (aB (aT (cZ [cO [aY .i64 x,aY .i64 y,aG 1 a.succ (Gw a h [aY .i64 v]),aG 2 b l],aY .i64 (ah 1),aY .i64 (ah 0),jG bJ]))))))))):=by kernel_rfl
noncomputable def Yv(x y:Int)(a b:Nat)(h l:Nat->List Sh)(k v:Int):List BK:=[aj k k,aj v v,aj (UD a) (UD a),aj (QL a (Am h)) (QL a (Am h)),aj x x,aj y y,aO (aG 1 a h) (aG 1 a h),aO (aG 2 b l) (aG 2 b l),aj x x,aj y y,aO (aG 1 (QK a) (Ox h)) (aG 1 (QK a) (Ox h)),aO (aG 2 b l) (aG 2 b l)]
theorem atI(A:Prim)(W:Wd)(x y:Int)(a b:Nat)(h l:Nat->List Sh)(k v:Int):Bj (C7 A W Hy AU) BL 300 400 120 NS (UE x y a b h l 6 k v) [] []=aH (okB Int a h) (aH (okB Int a h) (aQ (Yv x y a b h l k v) (aH (okB Int a h) (aQ (Yv x y a b h l k v) (aH (okB Int a h) (aQ (Yv x y a b h l k v) (aB (aT (cZ [cO [aY .i64 x,aY .i64 y,aG 1 (QK a) (Ox h),aG 2 b l],aY .i64 (UD a),aY .i64 (QL a (Am h)),jG bJ]))))))))):=by kernel_rfl
noncomputable def Yw(x y:Int)(a b:Nat)(h:Nat->List Sh)(p:Nat->Pr)(k v:Int):List BK:=[aj k k,aj v v,aj (ah 1) (ah 1),aj (ah 0) (ah 0),aj x x,aj y y,aO (aG 1 a h) (aG 1 a h),aO (aG 2 b (Aj p)) (aG 2 b (Aj p)),aj x x,aj y y,aO (aG 1 a h) (aG 1 a h),aO (aG 2 (len (Fp (lst Pr b (Aj p)) k v)) (Aj (nth (Fp (lst Pr b (Aj p)) k v)))) (aG 2 (len (Fp (lst Pr b (Aj p)) k v)) (Aj (nth (Fp (lst Pr b (Aj p)) k v))))]
theorem atJ(A:Prim)(W:Wd)(x y:Int)(a b:Nat)(h:Nat->List Sh)(p:Nat->Pr)(k v:Int):Bj (C7 A W Hy AU) BL 300 400 120 NS (UE x y a b h (Aj p) 7 k v) [] []=aH (Ia b (Aj p)) (aH (EF k) (aH (BM b.succ 16) (aH (Ia b (Aj p)) (aH (EF k) (aH (BM b.succ 16) (aQ (Yw x y a b h p k v) (aH (Ia b (Aj p)) (aH (EF k) (aH (BM b.succ 16) (aQ (Yw x y a b h p k v) (aH (Ia b (Aj p)) (aH (EF k) (aH (BM b.succ 16) (aQ (Yw x y a b h p k v) (aB (aT (cZ [cO [aY .i64 x,aY .i64 y,aG 1 a h,aG 2 (len (Fp (lst Pr b (Aj p)) k v)) (Aj (nth (Fp (lst Pr b (Aj p)) k v)))],aY .i64 (ah 1),aY .i64 (ah 0),jG bJ]))))))))))))))))):=by kernel_rfl
noncomputable def Yx(x y:Int)(a b:Nat)(h:Nat->List Sh)(p:Nat->Pr)(k v:Int):List BK:=[aj k k,aj v v,aj (MH (lst Pr b (Aj p)) k) (MH (lst Pr b (Aj p)) k),aj (Lp (lst Pr b (Aj p)) k) (Lp (lst Pr b (Aj p)) k),aj x x,aj y y,aO (aG 1 a h) (aG 1 a h),aO (aG 2 b (Aj p)) (aG 2 b (Aj p)),aj x x,aj y y,aO (aG 1 a h) (aG 1 a h),aO (aG 2 b (Aj p)) (aG 2 b (Aj p))]
theorem atK(A:Prim)(W:Wd)(x y:Int)(a b:Nat)(h:Nat->List Sh)(p:Nat->Pr)(k v:Int):Bj (C7 A W Hy AU) BL 300 400 120 NS (UE x y a b h (Aj p) 8 k v) [] []=aH (Ia b (Aj p)) (aH (EF k) (aH (Ia b (Aj p)) (aH (EF k) (aQ (Yx x y a b h p k v) (aH (Ia b (Aj p)) (aH (EF k) (aQ (Yx x y a b h p k v) (aH (Ia b (Aj p)) (aH (EF k) (aQ (Yx x y a b h p k v) (aB (aT (cZ [cO [aY .i64 x,aY .i64 y,aG 1 a h,aG 2 b (Aj p)],aY .i64 (MH (lst Pr b (Aj p)) k),aY .i64 (Lp (lst Pr b (Aj p)) k),jG bJ]))))))))))))):=by kernel_rfl
noncomputable def Yy(x y:Int)(a b:Nat)(h:Nat->List Sh)(p:Nat->Pr)(k v:Int):List BK:=[aj k k,aj v v,aj (MH (lst Pr b (Aj p)) k) (MH (lst Pr b (Aj p)) k),aj (Lp (lst Pr b (Aj p)) k) (Lp (lst Pr b (Aj p)) k),aj x x,aj y y,aO (aG 1 a h) (aG 1 a h),aO (aG 2 b (Aj p)) (aG 2 b (Aj p)),aj x x,aj y y,aO (aG 1 a h) (aG 1 a h),aO (aG 2 (len (Gn (lst Pr b (Aj p)) k)) (Aj (nth (Gn (lst Pr b (Aj p)) k)))) (aG 2 (len (Gn (lst Pr b (Aj p)) k)) (Aj (nth (Gn (lst Pr b (Aj p)) k))))]
theorem atL(A:Prim)(W:Wd)(x y:Int)(a b:Nat)(h:Nat->List Sh)(p:Nat->Pr)(k v:Int):Bj (C7 A W Hy AU) BL 300 400 120 NS (UE x y a b h (Aj p) 9 k v) [] []=aH (Ia b (Aj p)) (aH (EF k) (aH (BM b.succ 16) (aH (Ia b (Aj p)) (aH (EF k) (aH (BM b.succ 16) (aQ (Yy x y a b h p k v) (aH (Ia b (Aj p)) (aH (EF k) (aH (BM b.succ 16) (aQ (Yy x y a b h p k v) (aH (Ia b (Aj p)) (aH (EF k) (aH (BM b.succ 16) (aQ (Yy x y a b h p k v) (aB (aT (cZ [cO [aY .i64 x,aY .i64 y,aG 1 a h,aG 2 (len (Gn (lst Pr b (Aj p)) k)) (Aj (nth (Gn (lst Pr b (Aj p)) k)))],aY .i64 (MH (lst Pr b (Aj p)) k),aY .i64 (Lp (lst Pr b (Aj p)) k),jG bJ]))))))))))))))))):=by kernel_rfl
end Go.Proofs
namespace Go.Pl
open Go Go.Sx
def G7(x op:Int):Bool:=decide (x=0) || !decide (MF op=x)
def IG(x y op k v:Int):Bool:=
 (!decide (k=0) && !keyed op)||decide (k<0)||decide (1000<k)||(!decide (v=0) && !valued op)||decide (v < -1000000000)||decide (1000000000<v)||(decide (op=3)&&Je x 0 (Kr y v))
end Go.Pl
namespace Go.Proofs
open Go Go.Sx Go.Pl
theorem O66:AV aA (Bq W7) 102 F66:=by
 refine D8 (C:=C7 Ai W7 DL AU) (dD _ _) (MG _) (m:=300) (n:=400) (L:=L0) (fn:=nU) (by kernel_rfl) (by kernel_rfl) fun H w Bv args φ hrep h=>?_
 have hn:nU.ntmps=17:=by kernel_rfl
 unfold F66 at h;split at h
 ·rename_i t
  split at h
  ·rename_i op ht
   match args,hrep with
   |[v],⟨hv,_⟩=>
    refine ⟨[.i .i64 op],⟨EJ ht hv,trivial⟩,?_⟩;rw[hn,a66 Ai W7 op];have key (n:Int) (e:MF op=n):up φ (.i .i64 n):=BX (s':=.i .i64 (MF op)) (by rw[e];rfl) h;have q1:ah 1=1:=rfl;have q2:ah 2=2:=rfl;have q3:ah 3=3:=rfl;have q4:ah 4=4:=rfl;have q5:ah 5=5:=rfl;have q6:ah 6=6:=rfl;have q7:ah 7=7:=rfl;have q8:ah 8=8:=rfl;have q9:ah 9=9:=rfl;have q0:ah 0=0:=rfl;simp only[AX,q0,q1,q2,q3,q4,q5,q6,q7,q8,q9];refine ⟨fun _=>key _ ?_,fun _=>⟨fun _=>key _ ?_,fun _=>⟨fun _=>key _ ?_,fun _=>⟨fun _=>key _ ?_,fun _=>⟨fun _=>key _ ?_,fun _=>⟨fun _=>key _ ?_,fun _=>⟨fun _=>key _ ?_,fun _=>⟨fun _=>key _ ?_,fun _=>⟨fun _=>key _ ?_,fun _=>key _ ?_⟩⟩⟩⟩⟩⟩⟩⟩⟩;all_goals (simp_all [MF])
  ·exact h.elim
 ·exact h.elim
theorem O67:AV aA (Bq W7) 151 F67:=by
 refine D8 (C:=C7 Ai W7 DL AU) (dD _ _) (MG _) (m:=300) (n:=400) (L:=L0) (fn:=zU) (by kernel_rfl) (by kernel_rfl) fun H w Bv args φ hrep h=>?_
 have hn:zU.ntmps=13:=by kernel_rfl
 unfold F67 at h;split at h
 ·rename_i t
  split at h
  ·rename_i op ht
   match args,hrep with
   |[v],⟨hv,_⟩=>
    refine ⟨[.i .i64 op],⟨EJ ht hv,trivial⟩,?_⟩;rw[hn,a67 Ai W7 op];have key (n:Bool) (e:keyed op=n):up φ (.b n):=BX (s':=.b (keyed op)) (by rw[e];exact .inl rfl) h;have q7:ah 7=7:=rfl;have q8:ah 8=8:=rfl;have q9:ah 9=9:=rfl;simp only[AX,q7,q8,q9];refine ⟨fun _=>key _ ?_,fun _=>⟨fun _=>key _ ?_,fun _=>key _ ?_⟩⟩;all_goals (simp_all [keyed]<;>rfl)
  ·exact h.elim
 ·exact h.elim
theorem O68:AV aA (Bq W7) 152 F68:=by
 refine D8 (C:=C7 Ai W7 DL AU) (dD _ _) (MG _) (m:=300) (n:=400) (L:=L0) (fn:=zV) (by kernel_rfl) (by kernel_rfl) fun H w Bv args φ hrep h=>?_
 have hn:zV.ntmps=17:=by kernel_rfl
 unfold F68 at h;split at h
 ·rename_i t
  split at h
  ·rename_i op ht
   match args,hrep with
   |[v],⟨hv,_⟩=>
    refine ⟨[.i .i64 op],⟨EJ ht hv,trivial⟩,?_⟩;rw[hn,a68 Ai W7 op];have key (n:Bool) (e:valued op=n):up φ (.b n):=BX (s':=.b (valued op)) (by rw[e];exact .inl rfl) h;have q2:ah 2=2:=rfl;have q3:ah 3=3:=rfl;have q5:ah 5=5:=rfl;have q7:ah 7=7:=rfl;simp only[AX,q2,q3,q5,q7];refine ⟨fun _=>key _ ?_,fun _=>⟨fun _=>key _ ?_,fun _=>⟨fun _=>key _ ?_,fun _=>key _ ?_⟩⟩⟩;all_goals (simp_all [valued]<;>rfl)
  ·exact h.elim
 ·exact h.elim
theorem O69:AV aA (Bq W7) 153 F69:=by
 refine D8 (C:=C7 Ai W7 DL AU) (dD _ _) (MG _) (m:=300) (n:=400) (L:=L0) (fn:=zW) (by kernel_rfl) (by kernel_rfl) fun H w Bv args φ hrep h=>?_
 have hn:zW.ntmps=27:=by kernel_rfl
 unfold F69 at h;split at h
 ·rename_i t u v
  split at h
  ·rename_i k x y ht hu hv
   match args,hrep with
   |[v1,v2,v3],⟨r1,r2,r3,_⟩=>
    refine ⟨[.i .i64 k,.i .i64 x,.i .i64 y],⟨EJ ht r1,EJ hu r2,EJ hv r3,trivial⟩,?_⟩;rw[hn,a69 Ai W7 k x y];have key (n:Bool) (e:Je k x y=n):up φ (.b n):=BX (s':=.b (Je k x y)) (by rw[e];exact .inl rfl) h;have q0:ah 0=0:=rfl;have q2:ah 2=2:=rfl;have q3:ah 1000=1000:=rfl;have q4:ah 1000000000=1000000000:=rfl;have q5:ah 1000000000000000=1000000000000000:=rfl;have q6:fJ 999999999=-1000000000:=rfl;have q7:fJ 999999999999999=-1000000000000000:=rfl;simp only[AX,Aq,q0,q2,q3,q4,q5,q6,q7];refine ⟨fun e=>⟨fun _=>key _ ?_,fun _=>⟨fun _=>key _ ?_,fun _=>⟨fun _=>key _ ?_,fun _=>key _ ?_⟩⟩⟩,fun e=>⟨fun _=>key _ ?_,fun _=>⟨fun _=>key _ ?_,fun _=>⟨fun _=>key _ ?_,fun _=>key _ ?_⟩⟩⟩⟩;all_goals (simp_all [Je]<;>omega)
  ·exact h.elim
 ·exact h.elim
theorem O94:AV aA (Bq W7) 173 F94:=by
 refine D8 (C:=C7 Ai W7 DL AU) (dD _ _) (MG _) (m:=300) (n:=400) (L:=L0) (fn:=zX) (by kernel_rfl) (by kernel_rfl) fun H w Bv args φ hrep h=>?_
 have hn:zX.ntmps=12:=by kernel_rfl
 unfold F94 at h;split at h
 ·rename_i x y s2 s3 t u
  split at h
  ·rename_i a hh b l p q hs2 hs3 ht hu
   match args,hrep with
   |[v,v1,v2],⟨hv,r1,r2,_⟩=>
    refine ⟨[.agg [.i .i64 x,.i .i64 y,.sl 1 a hh,.sl 2 b l],.i .i64 p,.i .i64 q],⟨Ij hv (fun u hu=>BQ hs2 hu) (fun u hu=>BQ hs3 hu),EJ ht r1,EJ hu r2,trivial⟩,?_⟩;rw[hn,a94 Ai W7 x y a b hh l p q];exact BX (s':=.AQ [.agg [.i .i64 x,.i .i64 y,.sl 1 a hh,.sl 2 b l],.i .i64 3,.i .i64 y]) (by simp[Wk,Oa]) h
  ·exact h.elim
 ·exact h.elim
theorem O95:AV aA (Bq W7) 174 F95:=by
 refine D8 (C:=C7 Ai W7 DL AU) (dD _ _) (MG _) (m:=300) (n:=400) (L:=L0) (fn:=zY) (by kernel_rfl) (by kernel_rfl) fun H w Bv args φ hrep h=>?_
 have hn:zY.ntmps=12:=by kernel_rfl
 unfold F95 at h;split at h
 ·rename_i x y s2 s3 t u
  split at h
  ·rename_i a hh b l p q hs2 hs3 ht hu
   match args,hrep with
   |[v,v1,v2],⟨hv,r1,r2,_⟩=>
    refine ⟨[.agg [.i .i64 x,.i .i64 y,.sl 1 a hh,.sl 2 b l],.i .i64 p,.i .i64 q],⟨Ij hv (fun u hu=>BQ hs2 hu) (fun u hu=>BQ hs3 hu),EJ ht r1,EJ hu r2,trivial⟩,?_⟩;rw[hn,a95 Ai W7 x y a b hh l p q];exact BX (s':=.AQ [.agg [.i .i64 x,.i .i64 q,.sl 1 a hh,.sl 2 b l],.i .i64 1,.i .i64 0]) (by simp[Wk,Oa]) h
  ·exact h.elim
 ·exact h.elim
theorem O96:AV aA (Bq W7) 175 F96:=by
 refine D8 (C:=C7 Ai W7 DL AU) (dD _ _) (MG _) (m:=300) (n:=400) (L:=L0) (fn:=zZ) (by kernel_rfl) (by kernel_rfl) fun H w Bv args φ hrep h=>?_
 have hn:zZ.ntmps=15:=by kernel_rfl
 unfold F96 at h;split at h
 ·rename_i x y s2 s3 t u
  split at h
  ·rename_i a hh b l p q hs2 hs3 ht hu
   match args,hrep with
   |[v,v1,v2],⟨hv,r1,r2,_⟩=>
    refine ⟨[.agg [.i .i64 x,.i .i64 y,.sl 1 a hh,.sl 2 b l],.i .i64 p,.i .i64 q],⟨Ij hv (fun u hu=>BQ hs2 hu) (fun u hu=>BQ hs3 hu),EJ ht r1,EJ hu r2,trivial⟩,?_⟩;rw[hn,a96 Ai W7 x y a b hh l p q];exact BX (s':=.AQ [.agg [.i .i64 x,.i .i64 (Kr y q),.sl 1 a hh,.sl 2 b l],.i .i64 1,.i .i64 0]) (by simp[Wk,Oa];rfl) h
  ·exact h.elim
 ·exact h.elim
theorem O97:AV aA (Bq W7) 176 F97:=by
 refine D8 (C:=C7 Ai W7 DL AU) (dD _ _) (MG _) (m:=300) (n:=400) (L:=L0) (fn:=Aa) (by kernel_rfl) (by kernel_rfl) fun H w Bv args φ hrep h=>?_
 have hn:Aa.ntmps=17:=by kernel_rfl
 unfold F97 at h;split at h
 ·rename_i x y s2 s3 t u
  split at h
  ·rename_i a hh b l p q hs2 hs3 ht hu
   obtain ⟨h1,hφ⟩:=h;match args,hrep with
   |[v,v1,v2],⟨hv,r1,r2,_⟩=>
    refine ⟨[.agg [.i .i64 x,.i .i64 y,.sl 1 a hh,.sl 2 b l],.i .i64 p,.i .i64 q],⟨Ij hv (fun u hu=>BQ hs2 hu) (fun u hu=>BQ hs3 hu),EJ ht r1,EJ hu r2,trivial⟩,?_⟩;have h0:=Ll h1 (vY a);rw[hn,a97 Ai W7 x y a b hh l p q,KI,NM,abE];have fin:up φ (.AQ [.agg [.i .i64 x,.i .i64 y,.os 3 1 (a+1) (Ai.snoc hh a (Bh [[.i .i64 q]])),.sl 2 b l],.i .i64 (ah 1),.i .i64 (ah 0)]):=
     BX (s':=.AQ [.agg [.i .i64 x,.i .i64 y,.sl 1 (a+1) (Gw a hh [.i .i64 q]),.sl 2 b l],.i .i64 1,.i .i64 0]) ⟨⟨rfl,rfl,.inr ⟨rfl,rfl,adQ⟩,.inr ⟨rfl,rfl,fun _ _=>rfl⟩,trivial⟩,rfl,rfl,trivial⟩ hφ
    refine ⟨fun e=>⟨?_,h0,h1,fin⟩,fun _=>⟨h0,h1,fin⟩⟩;have e:a=0:=by have:=of_decide_eq_true (show decide (a<=0)=aC from e);omega
    subst e;exact BX (s':=.AQ [.agg [.i .i64 x,.i .i64 y,.sl 1 (0+1) (Gw 0 hh [.i .i64 q]),.sl 2 b l],.i .i64 1,.i .i64 0]) ⟨⟨rfl,rfl,.inr ⟨rfl,rfl,fun j hj=>by
     obtain rfl:j=0:=by omega
     rfl⟩,.inr ⟨rfl,rfl,fun _ _=>rfl⟩,trivial⟩,rfl,rfl,trivial⟩ hφ
  ·exact h.elim
 ·exact h.elim
theorem O99:AV aA (Bq W7) 178 F99:=by
 refine D8 (C:=C7 Ai W7 DL AU) (dD _ _) (MG _) (m:=300) (n:=400) (L:=L0) (fn:=Ac) (by kernel_rfl) (by kernel_rfl) fun H w Bv args φ hrep h=>?_
 have hn:Ac.ntmps=25:=by kernel_rfl
 unfold F99 at h;split at h
 ·rename_i x y s2 s3 t u
  split at h
  ·rename_i a hh b l p q hs2 hs3 ht hu
   obtain ⟨h1,hφ⟩:=h;match args,hrep with
   |[v,v1,v2],⟨hv,r1,r2,_⟩=>
    refine ⟨[.agg [.i .i64 x,.i .i64 y,.sl 1 a (Aj (Am (α:=Int) hh)),.sl 2 b l],.i .i64 p,.i .i64 q],⟨Ij hv (fun u hu=>Ez (BQ hs2 hu) h1) (fun u hu=>BQ hs3 hu),EJ ht r1,EJ hu r2,trivial⟩,?_⟩;have hrow:=Jh h1;generalize Am (α:=Int) hh=o at *;have hφ:φ (.AQ [.agg [.i .i64 x,.i .i64 y,.sl 1 (QK a) (Ox hh),.sl 2 b l],.i .i64 (UD a),.i .i64 (QL a o)]):=hφ;rw[hn,a99 Ai W7 x y a b o l p q];refine ⟨fun e=>?_,fun e=>?_⟩
    ·have e:a=0:=by simpa[AX,AY] using e
     subst e;exact BX (s':=.AQ [.agg [.i .i64 x,.i .i64 y,.sl 1 (QK 0) (Ox hh),.sl 2 b l],.i .i64 (UD 0),.i .i64 (QL 0 o)]) ⟨⟨rfl,rfl,.inl ⟨rfl,rfl⟩,.inr ⟨rfl,rfl,fun _ _=>rfl⟩,trivial⟩,rfl,rfl,trivial⟩ hφ
    ·have e:¬a=0:=by simpa[AX,AY] using e
     refine ⟨by simp[BJ];omega,by simp[Jp];omega,?_⟩;refine BX (s':=.AQ [.agg [.i .i64 x,.i .i64 y,.sl 1 (QK a) (Ox hh),.sl 2 b l],.i .i64 (UD a),.i .i64 (QL a o)]) ⟨⟨rfl,rfl,.inr ⟨rfl,rfl,fun j hj=>?_⟩,.inr ⟨rfl,rfl,fun _ _=>rfl⟩,trivial⟩,?_,?_,trivial⟩ hφ
     ·have hj:j<a - 1:=hj
      show Aj o (1+j)=hh (1+j);rw[hrow (1+j) (by omega)];rfl
     ·simp[Wk,UD,e]
     ·simp[Wk,QL,e]
  ·exact h.elim
 ·exact h.elim
end Go.Proofs
