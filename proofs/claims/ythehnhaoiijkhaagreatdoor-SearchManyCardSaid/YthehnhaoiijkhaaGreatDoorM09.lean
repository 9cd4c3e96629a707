/- Own work. -/
import Derived.Test.YthehnhaoiijkhaaGreatDoorM08
import Derived.Lib.ItoaLen
import Derived.Shelf.Spec.SlicesInsert
import Derived.Lib.AppendZerosOnto
import Derived.Laws.NewBlocks
open Int (ofNat)
open Array renaming length_toList->bU,getElem?_eq_some_iff->bG,size_append->nS
open Bool renaming true->aC,false->ak,and_eq_true->aH
open Go renaming sizeOf->ni,heap_alloc_old->vW
open Go.Act renaming eval->sF,put->uh
open Go.Addr renaming add_lit->eX
open Go.BinOp renaming shr->qo
open Go.Builtin renaming copy_->jP,firstCells->gu,zeroCells->jd,append_->eF
open Go.Extern.SlicesOverlaps renaming overlaps->su
open Go.IntKind renaming i64->aT,wrap_i64->iR,u64->lS
open Go.Lib renaming joinTail->ku,wpList_append_run->jT,run_append_grow_zeros->qm
open Go.Proofs.C7 renaming ok->cZ,UK->lQ
open Go.Proofs.XK renaming ok->zA
open Go.Proofs.Tryz renaming prog->aB,f145->zq,f146->zu,f77->ji,f116->qA,underlying209->gZ,mixed_->sS,func182->nN,ntmps182->ny,underlying3->l9,f204->uV,f181->zx,tys->mM,func208->yA,ntmps208->wY,fnsAre_->jf,entersB_->jH,f184->zy,f179->zB,f186->zC,f183->zD,f185->zF,f102->nJ,f151->zG,f152->zH,f153->zI,f173->zJ,f174->zK,f175->zL,f176->zM,f178->zN
open Go.Sx renaming Enters->wZ
open Go.Sx.Bh renaming ok->iI,sh->aP,int->aj
open Go.Sx.D7 renaming at_->bJ,ret->aO
open Go.Sx.It renaming code->bF,inBlock->dA
open Go.Sx.Sh renaming str->dn,sl->aG,Aj->cO,i->aW,agg->bM,os->jm,er->aZ,v->jB
open Go.Sx.Tree renaming leaf->aA,node->aF,need->aI,fail->dG,must->aQ
open Go.Value renaming nilIface->bI
open Go.World renaming shape?->wW,frozen?->wJ,setRow->wX
open Int renaming toNat_natCast->fJ,ofNat->ah,negSucc->fF
open List renaming range->aX,all_eq_true->dK,mem_range->dN,getD_eq_getElem?_getD->aY,getElem?_append_left->dI,mem_cons->gY,length_append->bf,length_cons->iP,getElem_mem->kC,take_succ_eq_append_getElem->nM,map_append->iL,take_length->uU,mem_map->dJ,length_take->bZ,length_drop->dQ,size_toArray->gK,getElem?_take->bY,getElem?_drop->eH,mem_of_mem_drop->jo,append_assoc->dS,take_take->wK,take_left->kX,getElem_cons_zero->qK,takeWhile->jq,pairwise_iff_getElem->jA,takeWhile_prefix->qV,length_nil->pX,getElem?_append_right->fC
open Nat renaming sub_self->qw,add_mul->gq,one_mul->iF,min->pz,min_def->sD,le_refl->dh,zero_le->gX,le_succ->vN,beq->fB
open Option renaming some->ay,none->aK
namespace Go.Pl
open Go Go.Sx
def JA(s:Cj):List (List UInt8):=Ew s.kind::(if s.kind=1\/s.kind=2 then [AU s.num] else if s.kind=3 then s.q.map AU else if s.kind=4 then s.ps.map (fun p=>AU p.key++[58]++AU p.val) else [])
def noI:Nat->List Sh:=zW (nth ([]:List Int))
def noP:Nat->List Sh:=zW (nth ([]:List Pr))
def keyS(s:Cj):List UInt8:=Dj (JA s) [32]
def RI(n:Nat):Bool:=decide (8<n)
def Nh(n:Nat)(o:Nat->Oj):Bool:=(aX n).all fun j=>!EM (o j).kind (o j).init
def KL(n:Nat)(o:Nat->Oj):Nat:=((aX n).find? fun j=>EM (o j).kind (o j).init).getD 0
def Qd(n:Nat)(o:Nat->Oj):Bool:=(aX n).all fun j=>CQ (o j).kind
theorem Ie{n:Nat}{p:Nat->Bool}(h:(aX n).all p=aC):∀j,j<n->p j=aC:=fun j hj=>dK.1 h j (dN.2 hj)
theorem agE{n:Nat}{o:Nat->Oj}(h:∀j,j<n->EM (o j).kind (o j).init=ak):Nh n o=aC:=dK.2 fun j hj=>by simp[h j (dN.1 hj)]
theorem anL{n k:Nat}{o:Nat->Oj}(hk:k<n)(h:EM (o k).kind (o k).init=aC):Nh n o=ak:=by
 unfold Nh;rw[List.all_eq_false];exact ⟨k,dN.2 hk,by simp[h]⟩
theorem find_range{n k:Nat}{p:Nat->Bool}(hk:k<n)(h:p k=aC)(hb:∀j,j<k->p j=ak):(aX n).find? p=ay k:=by
 rw[List.find?_range_eq_some];exact ⟨h,dN.2 hk,fun j hj=>by simp[hb j hj]⟩
theorem agF{n k:Nat}{o:Nat->Oj}(hk:k<n)(h:EM (o k).kind (o k).init=aC)(hb:∀j,j<k->EM (o j).kind (o j).init=ak):KL n o=k:=by
 unfold KL;rw[find_range hk h hb];rfl
def anM(n:Nat)(o:Nat->Int):Bool:=(aX n).all fun j=>CQ (o j)
def arW(n:Nat)(o:Nat->Pr):Bool:=(aX n).all fun j=>CQ (o j).key&&CQ (o j).val
end Go.Pl
namespace Go.Proofs
open Go Go.Sx Go.Pl
theorem O59:Aq aB (AY W7) 145 F92:=by
 refine DT (C:=C7 zV W7 Dp Am) (cZ _ _) (Lp _) (m:=300) (n:=400) (L:=L0) (fn:=zq) (by kernel_rfl) (by kernel_rfl) fun H w AX args φ hrep h=>?_
 have hn:zq.ntmps=5:=by kernel_rfl
 unfold F92 at h;split at h
 ·obtain ⟨h1,hφ⟩:=h
  refine ⟨_,hrep,?_⟩;rw[hn,a59 zV W7];exact ⟨h1,BH (s':=.str _) rfl hφ⟩
 ·exact h.elim
theorem O60:Aq aB (AY W7) 146 F60:=by
 refine DT (C:=C7 zV W7 Dp Am) (cZ _ _) (Lp _) (m:=300) (n:=400) (L:=L0) (fn:=zu) (by kernel_rfl) (by kernel_rfl) fun H w AX args φ hrep h=>?_
 have hn:zu.ntmps=5:=by kernel_rfl
 unfold F60 at h;split at h
 ·obtain ⟨h1,h2,h3,hφ⟩:=h
  refine ⟨_,hrep,?_⟩;rw[hn,a60 zV W7];exact ⟨h1,h2,h3,BH (s':=.str _) rfl hφ⟩
 ·exact h.elim
theorem OBs:∀g F,Ic g=ay F->Aq aB (AY W7) g F:=fun g F h=>by
 unfold Ic at h;split at h
 ·cases h;exact O58
 ·cases h;exact O59
 ·cases h;exact O60
 ·cases h;exact O65
 ·cases h
theorem aa9(stop:Nat->List Nat->Bool):Bz aB (C7 zV W7 Ic stop):=lQ OBs fun g h=>by
 unfold Ic at h;split at h;all_goals first|(cases h;done) |kernel_rfl
def F41:List Sh->Tree Sh
 |[.agg [.i .i64 k,.i .i64 i]]=>.need (CQ k) (.node (EM k i) (.leaf (.Aj [.agg (CY Nc),.er 7 329])) (.leaf (.Aj [.agg [.i .i64 k,.i .i64 i,.sl 1 0 noI,.sl 2 0 noP],.v .nilIface]))) |_=>.fail
theorem O41:Aq aB (AY W7) 95 F41:=by
 refine DT (C:=C7 zV W7 Ic Am) (cZ _ _) (aa9 _) (m:=300) (n:=400) (L:=L0) (fn:=Tryz.f95) (by kernel_rfl) (by kernel_rfl) fun H w AX args φ hrep h=>?_
 have hn:Tryz.f95.ntmps=16:=by kernel_rfl
 unfold F41 at h;split at h
 ·rename_i k i
  obtain ⟨h1,hb,hg⟩:=h;refine ⟨_,hrep,?_⟩;rw[hn,a41 zV W7 k i];refine ⟨h1,fun e=>BH (s':=.Aj [.agg (CY Nc),.er 7 329]) ?_ (hb e),fun e=>BH (s':=.Aj [.agg [.i .i64 k,.i .i64 i,.sl 1 0 noI,.sl 2 0 noP],.v .nilIface]) ?_ (hg e)⟩
  ·simp[CY,Nc,Wk,Nu,len]
  ·simp[CY,Wk,Nu,len]
 ·exact h.elim
def F49:List Sh->Tree Sh
 |[.agg [s0,s1]]=>match DJ 2 s0,DJ 8 s1 with
  |some (n,g),ay (0,_)=>.need (okB Oj n g) (.need (Qd n (zY g)) (.node (RI n) (.leaf (.er 6 329)) (.node (Nh n (zY g)) (.leaf (.v .nilIface)) (.leaf (.CG 109 (.pt [.i .i64 (KL n (zY g)),.er 7 329])))))) |_,_=>.fail
 |_=>.fail
theorem akg{H0:Mem}{w0:World}{n:Nat}{o:Nat->Oj}{e:Nat->List Sh}{φ:Sh->Prop}(hn:n<=8)(hk:∀j,j<n->CQ (o j).kind=aC)(hT:(∀j,j<n->EM (o j).kind (o j).init=ak)->φ (.v .nilIface))
  (hF:∀k,k<n->EM (o k).kind (o k).init=aC->(∀j,j<k->EM (o j).kind (o j).init=ak)->φ (.CG 109 (.pt [.i .i64 k,.er 7 329]))) :
  ∀r k,k+r=n->(∀j,j<k->EM (o j).kind (o j).init=ak)->Bc aB (C7 zV W7 Ic Am) (K0 H0 w0) 77 IJ (adt n o e (k:Int)) [] emp φ
 |r,k,hkr,hE=>by
  refine Gq (fn:=ji) (tb:=WB) (by kernel_rfl) (by kernel_rfl) ?_;refine G9 (cZ _ _) (aa9 _) (hold:=Tm) (m:=300) (n:=400) (ts:=[⟨77,IJ,adt n o e (k+1:Nat),[]⟩,⟨77,aiI,aiH n o e,[]⟩]) ?_;rw[b49 zV W7 n o e k (k+1:Nat)];simp only[Aa,Bj,CJ,Df,GU,fJ];refine ⟨fun h=>?_,fun h=>?_⟩
  ·have hlt:k<n:=by simp at h;omega
   refine ⟨by simp;omega,hk k hlt,fun hb=>hF k hlt hb hE,fun hb=>⟨⟨rfl,rfl,?_,rfl,rfl,trivial⟩,_,rfl,?_⟩⟩
   ·simp only[iI];rw[BL (by omega) (by omega)];rfl
   ·match r,hkr with
    |0,hkr=>omega |r+1,hkr=>
     refine akg hn hk hT hF r (k+1) (by omega) fun j hj=>?_
     by_cases e:j=k
     ·subst e;exact hb
     ·exact hE j (by omega)
  ·have:k=n:=by simp at h;omega
   subst this;refine ⟨⟨rfl,rfl,trivial⟩,_,rfl,?_⟩;refine Gq (fn:=ji) (tb:=anI) (by kernel_rfl) (by kernel_rfl) ?_;refine G9 (cZ _ _) (aa9 _) (hold:=Tm) (m:=300) (n:=400) (ts:=[]) ?_;rw[c49 zV W7 k o e];exact ⟨fun h=>by simp[Aa] at h,fun _=>hT hE⟩
theorem O49:Aq aB (AY W7) 77 F49:=by
 refine KA (C:=C7 zV W7 Ic Am) (cZ _ _) (fn:=ji) (by kernel_rfl) (by kernel_rfl) fun H w AX args φ hrep h=>?_
 have hn:ji.ntmps=78:=by kernel_rfl
 unfold F49 at h;split at h
 ·rename_i s0 s1
  split at h
  ·rename_i n g e hs0 hs1
   obtain ⟨h1,h2,hbig,hsm⟩:=h;have hbig:RI n=aC->φ (.er 6 329):=hbig;have hsm:RI n=ak->(Nh n (zY g)=aC->φ (.v .nilIface))/\(Nh n (zY g)=ak->φ (.CG 109 (.pt [.i .i64 (KL n (zY g)),.er 7 329]))):=hsm;match args,hrep with
   |[v],⟨hv,_⟩=>
    refine ⟨[.agg [.sl 2 n (zW (zY (α:=Oj) g)),.sl 8 0 e]],⟨XR hv (fun u hu=>DV (BD hs0 hu) h1) (fun u hu=>BD hs1 hu),trivial⟩,L0,?_⟩;generalize zY (α:=Oj) g=o at *;refine G9 (cZ _ _) (aa9 _) (hold:=Tm) (m:=300) (n:=400) (ts:=[⟨77,IJ,adt n o e (0:Nat),[]⟩]) ?_;rw[hn,a49 zV W7 n o e (0:Nat)];refine ⟨fun h=>hbig ?_,fun h=>⟨fun h=>?_,fun _=>⟨⟨rfl,rfl,rfl,rfl,rfl,trivial⟩,_,rfl,?_⟩⟩⟩
    ·simp[Aa,Ar] at h;simp[RI];omega
    ·simp[Aa,Ar] at h
    ·have hn8:n<=8:=by simp[Aa,Ar] at h;omega
     obtain ⟨q1,q2⟩:=hsm (by simp[RI];omega);refine akg hn8 (Ie h2) (fun hE=>q1 (agE hE)) (fun k hk hb hE=>?_) n 0 (by omega) fun j hj=>by omega
     have:=q2 (anL hk hb);rwa[agF hk hb hE] at this
  ·exact h.elim
 ·exact h.elim
end Go.Proofs
namespace Go.Pl
open Go Go.Sx Go.Proofs
theorem anN{a b:List UInt8}:lst (List UInt8) 2 (AQ (chunks 1 (1+1) [dn a,dn b]))=[a,b]:=rfl
theorem anO{a:List UInt8}:lst (List UInt8) 1 (AQ (chunks 1 1 [dn a]))=[a]:=rfl
theorem Jh{n:Int}(h:CQ n=aC):(AU n).length<=21:=by
 have h:=of_decide_eq_true h;exact Go.Lib.itoa_length_le n h.1 h.2
theorem aeL{α:Type}[Row α](l:List α){k:Nat}(h:l.length=k):lst α k (zW (nth l))=l:=by subst h;exact KI l
theorem OT{α:Type}[Row α](l:List α)(a:α){r:List (List Sh)}(h:AQ r 0=Row.put a):∀i,i<l.length+1->zV.snoc (zW (nth l)) l.length (AQ r) i=zW (nth (l++[a])) i:=fun i hi=>by
 rw[Ed];split
 ·rename_i h1
  simp only[zW,nth];rw[aY,aY,dI h1]
 ·have:i=l.length:=by omega
  subst this;rw[qw,h];simp[zW,nth]
end Go.Pl
namespace Go.Proofs
open Go Go.Sx Go.Pl
def F35:List Sh->Tree Sh
 |[.agg [.i .i64 x,.i .i64 y,s2,s3]]=>match DJ 1 s2,DJ 2 s3 with
  |some (a,h),ay (b,l)=>.need (okB Int a h) (.need (okB Pr b l) (.need (CQ x) (.need (CQ y) (.need (anM a (zY h)) (.need (arW b (zY l)) (.need (decide (a<=100000/\b<=100000)) (.leaf (.str (keyS ⟨x,y,lst Int a h,lst Pr b l⟩))))))))) |_,_=>.fail
 |_=>.fail
theorem XY(l:List (List UInt8))(sep:List UInt8){m:Nat}(h:∀x∈l,x.length<=m):(Dj l sep).length<=l.length*(m+sep.length):=by
 induction l with
 |nil=>simp[Dj,Go.Lib.join_nil] |cons x r ih=>
  have h1:=h x (by simp);have h2:(ku sep r).length<=r.length*(m+sep.length):=by
   clear ih;induction r with
   |nil=>simp[ku] |cons y r ih2=>
    have h3:=ih2 fun z hz=>h z (by
     rcases gY.1 hz with rfl|hz
     ·simp
     ·simp[hz])
    have h4:=h y (by simp);simp only[ku,List.map_cons,List.flatten_cons,bf,iP,gq,iF] at h3 ⊢;omega
  unfold Dj;rw[Go.Lib.join_cons,bf,iP,gq,iF];omega
theorem NJ{l:List (List UInt8)}(hl:l.length<=200000)(h:∀x∈l,x.length<=50):Ik (Dj l [32])=aC:=by
 have:=XY l [32] h;have h2:l.length*(50+[(32:UInt8)].length)<=200000*51:=Nat.mul_le_mul_right _ hl;exact decide_eq_true (by omega)
theorem room_le{n b:Nat}(h:n<=1000000)(hb:b<=1000):Bo n b=aC:=by
 show decide (n*b<=140737488355328/\n<=maxLen)=aC;rw[maxLen_eq];have:n*b<=1000000*1000:=Nat.mul_le_mul h hb;exact decide_eq_true ⟨by omega,by omega⟩
theorem abb(k:Int):(Ew k).length<=50:=by
 unfold Ew;repeat' split
 all_goals decide
theorem agG{H0:Mem}{w0:World}{q:List Int}{W:List UInt8}{φ:Sh->Prop}(hq:q.length<=100000)(h64:∀x∈q,CQ x=aC)(hW:W.length<=50)(hφ:φ (.str (Dj (W::q.map AU) [32]))):
  ∀r k,k+r=q.length->Bc aB (C7 zV W7 Ic Am) (K0 H0 w0) 116 XV (XT q.length (nth q) (k:Int) (k+1) (zW (nth (W::(q.take k).map AU)))) [] emp φ
 |r,k,hkr=>by
  refine Gq (fn:=qA) (tb:=anJ) (by kernel_rfl) (by kernel_rfl) ?_;refine G9 (cZ _ _) (aa9 _) (hold:=Bg) (m:=300) (n:=400) (ts:=[⟨116,XV,XT q.length (nth q) (k+1:Nat) (k+1+1) (zW (nth (W::(q.take (k+1)).map AU))),[]⟩]) ?_;rw[avg zV W7 q.length (nth q) k (k+1:Nat) (k+1) (k+1+1) (zW (nth (W::(q.take k).map AU))) (zW (nth (W::(q.take (k+1)).map AU)))];have hlen:(W::(q.take k).map AU).length=k+1:=by simp;omega
  simp only[Aa,Bj,CJ,Df,GU,fJ,aa7];refine ⟨fun h=>?_,fun h=>?_⟩
  ·have hlt:k<q.length:=by simp at h;omega
   have hx:nth q k=q[k]:=by simp[nth,hlt]
   refine ⟨by simp;omega,by rw[hx];exact h64 _ (kC hlt),room_le (by omega) (by omega),⟨rfl,rfl,?_,rfl,?_,trivial⟩,_,rfl,?_⟩
   ·simp only[iI];rw[BL (by omega) (by omega)];rfl
   ·have e:W::(q.take (k+1)).map AU=(W::(q.take k).map AU)++[AU (nth q k)]:=by
     rw[hx,nM hlt,iL];rfl
    have:=OT (W::(q.take k).map AU) (AU (nth q k)) (r:=[[.str (AU (nth q k))]]) rfl;rw[hlen] at this;rw[e];exact this
   ·match r,hkr with
    |0,hkr=>omega |r+1,hkr=>exact agG hq h64 hW hφ r (k+1) (by omega)
  ·have hk:k=q.length:=by simp at h;omega
   subst hk;rw[uU] at hlen ⊢;rw[aeL _ hlen];refine ⟨D5 _ _,room_le (by omega) (by omega),NJ (by simp;omega) fun x hx=>?_,hφ⟩;rcases gY.1 hx with rfl|hx
   ·exact hW
   ·obtain ⟨y,hy,rfl⟩:=dJ.1 hx
    have:=Jh (h64 y hy);omega
theorem adu{p:Pr}(h1:CQ p.key=aC)(h2:CQ p.val=aC):(AU p.key++[58]++AU p.val).length<=50:=by
 have:=Jh h1;have:=Jh h2;simp;omega
theorem agH{H0:Mem}{w0:World}{q:List Pr}{W:List UInt8}{φ:Sh->Prop}(hq:q.length<=100000)(h64:∀x∈q,CQ x.key=aC/\CQ x.val=aC)(hW:W.length<=50)(hφ:φ (.str (Dj (W::q.map (fun p=>AU p.key++[58]++AU p.val)) [32]))):
  ∀r k,k+r=q.length->Bc aB (C7 zV W7 Ic Am) (K0 H0 w0) 116 XW (XU q.length (nth q) (k:Int) (k+1) (zW (nth (W::(q.take k).map (fun p=>AU p.key++[58]++AU p.val))))) [] emp φ
 |r,k,hkr=>by
  refine Gq (fn:=qA) (tb:=anK) (by kernel_rfl) (by kernel_rfl) ?_;refine G9 (cZ _ _) (aa9 _) (hold:=Bg) (m:=300) (n:=400) (ts:=[⟨116,XW,XU q.length (nth q) (k+1:Nat) (k+1+1) (zW (nth (W::(q.take (k+1)).map (fun p=>AU p.key++[58]++AU p.val)))),[]⟩]) ?_;rw[avh zV W7 q.length (nth q) k (k+1:Nat) (k+1) (k+1+1) (zW (nth (W::(q.take k).map (fun p=>AU p.key++[58]++AU p.val)))) (zW (nth (W::(q.take (k+1)).map (fun p=>AU p.key++[58]++AU p.val))))];have hlen:(W::(q.take k).map (fun p=>AU p.key++[58]++AU p.val)).length=k+1:=by simp;omega
  simp only[Aa,Bj,CJ,Df,GU,fJ,aa7];refine ⟨fun h=>?_,fun h=>?_⟩
  ·have hlt:k<q.length:=by simp at h;omega
   have hx:nth q k=q[k]:=by simp[nth,hlt]
   obtain ⟨p1,p2⟩:=h64 _ (kC hlt);rw[<-hx] at p1 p2;have l1:=Jh p1;have l2:=Jh p2;refine ⟨by simp;omega,p1,?_,p2,?_,room_le (by omega) (by omega),⟨rfl,rfl,?_,rfl,?_,trivial⟩,_,rfl,?_⟩
   ·show decide ((AU (nth q k).key).length+1<=9223372036854775807)=aC
    exact decide_eq_true (by omega)
   ·show decide ((AU (nth q k).key++[58]).length+(AU (nth q k).val).length<=9223372036854775807)=aC
    exact decide_eq_true (by rw[bf];simp;omega)
   ·simp only[iI];rw[BL (by omega) (by omega)];rfl
   ·have e:W::(q.take (k+1)).map (fun p=>AU p.key++[58]++AU p.val)=(W::(q.take k).map (fun p=>AU p.key++[58]++AU p.val))++[AU (nth q k).key++[58]++AU (nth q k).val]:=by
     rw[hx,nM hlt,iL];rfl
    have:=OT (W::(q.take k).map (fun p=>AU p.key++[58]++AU p.val)) (AU (nth q k).key++[58]++AU (nth q k).val) (r:=[[.str (AU (nth q k).key++[58]++AU (nth q k).val)]]) rfl;rw[hlen] at this;rw[e];exact this
   ·match r,hkr with
    |0,hkr=>omega |r+1,hkr=>exact agH hq h64 hW hφ r (k+1) (by omega)
  ·have hk:k=q.length:=by simp at h;omega
   subst hk;rw[uU] at hlen ⊢;rw[aeL _ hlen];refine ⟨D5 _ _,room_le (by omega) (by omega),NJ (by simp;omega) fun x hx=>?_,hφ⟩;rcases gY.1 hx with rfl|hx
   ·exact hW
   ·obtain ⟨y,hy,rfl⟩:=dJ.1 hx
    exact adu (h64 y hy).1 (h64 y hy).2
theorem agI{α:Type}[Row α]{n:Nat}{g:Nat->List Sh}{x:α}(h:x∈lst α n g):∃j,j<n/\x=zY g j:=by
 obtain ⟨j,hj,rfl⟩:=dJ.1 h;exact ⟨j,dN.1 hj,rfl⟩
theorem KC{α:Type}[Row α]{H:Mem}{st n:Nat}{g:Nat->List Sh}{v:Value}(h:Rep H (.sl st n g) v)(hg:okB α n g=aC):Rep H (.sl st (lst α n g).length (zW (nth (lst α n g)))) v:=by
 rw[E5];refine Ep h fun j hj=>?_
 rw[IU hg j hj];simp only[zW,RF hj]
theorem O35:Aq aB (AY W7) 116 F35:=by
 refine KA (C:=C7 zV W7 Ic Am) (cZ _ _) (fn:=qA) (by kernel_rfl) (by kernel_rfl) fun H w AX args φ hrep h=>?_
 have hn:qA.ntmps=61:=by kernel_rfl
 unfold F35 at h;split at h
 ·rename_i x y s2 s3
  split at h
  ·rename_i a hh b l hs2 hs3
   obtain ⟨h1,h2,h3,h4,h5,h6,h7,hφ⟩:=h;have h7:=of_decide_eq_true h7;match args,hrep with
   |[v],⟨hv,_⟩=>
    have l1:(lst Int a hh).length=a:=E5 _ _;have l2:(lst Pr b l).length=b:=E5 _ _;have m1:∀z∈lst Int a hh,CQ z=aC:=fun z hz=>by
     obtain ⟨j,hj,rfl⟩:=agI hz;exact Ie h5 j hj
    have m2:∀z∈lst Pr b l,CQ z.key=aC/\CQ z.val=aC:=fun z hz=>by
     obtain ⟨j,hj,rfl⟩:=agI hz;simpa using Ie h6 j hj
    refine ⟨[.agg [.i .i64 x,.i .i64 y,.sl 1 (lst Int a hh).length (zW (nth (lst Int a hh))),.sl 2 (lst Pr b l).length (zW (nth (lst Pr b l)))]],⟨Hw hv (fun u hu=>KC (BD hs2 hu) h1) (fun u hu=>KC (BD hs3 hu) h2),trivial⟩,L0,?_⟩;generalize lst Int a hh=q at *;generalize lst Pr b l=ps at *;have hφ:φ (.str (Dj (JA ⟨x,y,q,ps⟩) [32])):=hφ;refine G9 (cZ _ _) (aa9 _) (hold:=Bg) (m:=300) (n:=400) (ts:=[⟨116,XV,XT q.length (nth q) (0:Nat) 1 (zW (nth [Ew x])),[]⟩,⟨116,XW,XU ps.length (nth ps) (0:Nat) 1 (zW (nth [Ew x])),[]⟩]) ?_;rw[hn,a35 zV W7 x y q.length ps.length (nth q) (nth ps) (0:Nat) 1 (zW (nth [Ew x])),anN,anO];have hw:=abb x;have hy:=Jh h4;have two:Ik (Dj [Ew x,AU y] [32])=aC:=NJ (by simp) fun z hz=>by
     simp at hz;rcases hz with rfl|rfl
     ·exact hw
     ·omega
    refine ⟨rfl,h3,fun e=>⟨h4,rfl,room_le (by omega) (by omega),two,?_⟩,fun e1=>⟨fun e=>⟨h4,rfl,room_le (by omega) (by omega),two,?_⟩,fun e2=>⟨fun e=>⟨⟨rfl,rfl,rfl,rfl,fun j hj=>?_,trivial⟩,_,rfl,?_⟩,fun e3=>⟨fun e=>⟨⟨rfl,rfl,rfl,rfl,fun j hj=>?_,trivial⟩,_,rfl,?_⟩,fun e4=>⟨rfl,room_le (by omega) (by omega),NJ (by simp) fun z hz=>?_,?_⟩⟩⟩⟩⟩
    ·have e:x=1:=by simpa[Ap] using e
     subst e;exact hφ
    ·have e:x=2:=by simpa[Ap] using e
     subst e;exact hφ
    ·obtain rfl:j=0:=by omega
     rfl
    ·have e:x=3:=by simpa[Ap] using e
     subst e;exact agG (by omega) m1 hw hφ q.length 0 (by omega)
    ·obtain rfl:j=0:=by omega
     rfl
    ·have e:x=4:=by simpa[Ap] using e
     subst e;exact agH (by omega) m2 hw hφ ps.length 0 (by omega)
    ·simp at hz;subst hz;exact hw
    ·have e1:¬x=1:=by simpa[Ap] using e1
     have e2:¬x=2:=by simpa[Ap] using e2
     have e3:¬x=3:=by simpa[Ap] using e3
     have e4:¬x=4:=by simpa[Ap] using e4
     have e:JA ⟨x,y,q,ps⟩=[Ew x]:=by simp[JA,e1,e2,e3,e4]
     rw[e] at hφ;exact hφ
  ·exact h.elim
 ·exact h.elim
end Go.Proofs
namespace Go.Sx
open Go.RowKit Go.Lib
section
variable{P:Program}
theorem Qe(w:World)(dT sT ty elem:TypeId)(sz g o dLen dCap:Nat)(a:Addr)(sLen sCap:Nat)(cur:Array Value)(t:TypeId)(cs:List Value)
  (hu:P.underlying dT=ay (.slice elem)) (hs:(P.info? elem).map (·.size)=ay sz)
  (hg:w.heap[g]?=ay (.cells cur t (0,0))) (hn:cs.length=pz sLen dLen*sz)
  (hsrc:∀j v,cs[j]?=ay v->w.cell? (a.add j)=ay v) (hfit:o+cs.length<=cur.size) (h1:∀v∈cs,v.oneCell'=aC) :
  (jP #[dT,sT] ty #[.slice (ay ⟨g,o,aK⟩) dLen dCap,.slice (ay a) sLen sCap]).run P w =
   .ok (goInt (pz sLen dLen)) (w.setRow g (cur.toList.take o++cs++cur.toList.drop (o+cs.length)).toArray):=by
 have hl:=run_loadCells_list (P:=P) w a cs hsrc;have hst:=run_storeCells_at P g o t cs 0 cur w hg (by simpa using hfit) h1;cases hq:P.info? elem with
 |none=>simp[hq] at hs |some i=>
  have hi:i.size=sz:=by simpa[hq] using hs
  simp[jP,run_underlying hu,Builtin.lenOf,gu,sizeOf,typeInfo,hq,hi,<-hn,hl,hst]
end
end Go.Sx
namespace Go.Proofs
open Go Go.Sx Go.RowKit Go.Lib
theorem info116:∃(i:TypeInfo) (z:Value),aB.info? 272=ay i/\i.size=2/\i.bytes=16/\i.zero=ay z/\z.cells.size=2/\∃cs,z=.agg cs:=by
 obtain ⟨inf,z,h1,h2,h3,h4,_,h6,h7,_⟩:=((cZ noSpec Ak).ty 272 ⟨.struct [(0,1,ak),(1,1,ak)],2,16,[.int .i64 0,.int .i64 0]⟩ (by kernel_rfl)).info;exact ⟨inf,z,h1,h2,h3,h4,h6,h7 rfl⟩
set_option maxHeartbeats 4000000 in
set_option maxRecDepth 100000 in
theorem aiJ(w:World)(g n c i vb vc:Nat)(cur:Array Value)(cs vs:List Value)(hg:w.heap[g]?=ay (.cells cur 272 (0,0)))(Nj:Array Value)(hgb:w.heap[vb]?=ay (.cells Nj 272 (0,0)))
  (hi:i<n) (hroom:n+1<=c) (hc63:c<=9223372036854775807) (hvb:vb≠g) (hcap:cur.size=c*2) (hcs:cur.toList.take (n*2)=cs) (hvs:Nj.toList.take 2=vs) (hvl:vs.length=2) (hv2:2<=Nj.size)
  (h1c:∀v∈cs,v.oneCell'=aC) (h1v:∀v∈vs,v.oneCell'=aC) :
  Calls aB 182 #[.slice (ay ⟨g,0,aK⟩) n c,.int .i64 i,.slice (ay ⟨vb,0,aK⟩) 1 vc] w fun e w'=>
   e=.returned (.slice (ay ⟨g,0,aK⟩) (n+1) c)/\∃cur',w'.heap[g]?=ay (.cells cur' 272 (0,0))/\cur'.size=c*2/\cur'.toList.take ((n+1)*2)=cs.take (i*2)++vs++cs.drop (i*2)/\w.grownBy w' (ay g):=by
 obtain ⟨inf,z,i1,i2,i3,i4,i5,_⟩:=info116;have hsz:(aB.info? 272).map (·.size)=ay 2:=by rw[i1];simp[i2]
 have hse:∀w,(ni 272).run aB w=.ok 2 w:=fun w=>by simp[ni,typeInfo,i1,i2]
 have hov:∀lb cb,(callFunc 206 #[.slice (ay ⟨vb,0,aK⟩) 1 vc,.slice (ay ⟨g,(i+1)*2,aK⟩) lb cb]).run aB w=.ok (.value (.bool ak)) w:=fun lb cb=>by
  rw[run_callFunc_extern Tryz.func206 (by kernel_rfl) (by kernel_rfl) (by kernel_rfl) (e:=su #[209,209] #[4]) (by kernel_rfl),
   Lib.run_overlaps_apart w 209 4 272 gZ 2 hse ⟨vb,0,aK⟩ ⟨g,(i+1)*2,aK⟩ 1 vc lb cb hvb 272 272 Nj.size cur.size (by simp[wW,hgb]) (by simp[wW,hg]) (by omega) (by simp[wJ,hgb]) (by simp[wJ,hgb])]
  rfl
 have hw1:aT.wrap ((i:Int)+1)=(i:Int)+1:=by rw[iR];omega
 have hw2:aT.wrap ((n:Int)+1)=(n:Int)+1:=by rw[iR];omega
 have hcl:cs.length=n*2:=by rw[<-hcs,bZ,bU];omega
 have hdl:(cs.drop (i*2)).length=(n - i)*2:=by rw[dQ,hcl];omega
 obtain ⟨R1,hR1⟩:∃R1,R1=(cur.toList.take ((i+1)*2)++cs.drop (i*2)++cur.toList.drop ((i+1)*2+(cs.drop (i*2)).length)).toArray:=⟨_,rfl⟩;have agJ:R1.size=c*2:=by rw[hR1];simp only[gK,bf,bZ,dQ,bU,hcl];omega
 obtain ⟨R2,hR2⟩:∃R2,R2=(R1.toList.take (i*2)++vs++R1.toList.drop (i*2+vs.length)).toArray:=⟨_,rfl⟩;have hcur:∀j v,cs[j]?=ay v->cur.toList[j]?=ay v:=fun j v hj=>by
  rw[<-hcs,bY] at hj;split at hj
  ·exact hj
  ·cases hj
 have hcp1:∀(W:World),W.heap[g]?=ay (.cells cur 272 (0,0))->∀ty dc sc,(jP #[209,209] ty #[.slice (ay ⟨g,(i+1)*2,aK⟩) (n - i) dc,.slice (ay ⟨g,i*2,aK⟩) (n+1 - i) sc]).run aB W=.ok (goInt ((n - i:Nat):Int)) (W.setRow g R1):=fun W hW ty dc sc=>by
  have hmin:pz (n+1 - i) (n - i)=n - i:=by simp only[sD];split<;>omega
  have:=Qe W 209 209 ty 272 2 g ((i+1)*2) (n - i) dc ⟨g,i*2,aK⟩ (n+1 - i) sc cur 272 (cs.drop (i*2)) gZ hsz hW (by rw[hmin,hdl]) (fun j v hj=>by
    rw[eX,cell_of_row W g _ cur 272 (0,0) hW];rw[eH] at hj;have:=hcur _ _ hj;simpa using this) (by rw[hdl,hcap];omega) (fun v hv=>h1c v (jo hv))
  rw[hmin,<-hR1] at this;exact this
 have hcp2:∀(W:World),W.heap[g]?=ay (.cells R1 272 (0,0))->W.heap[vb]?=ay (.cells Nj 272 (0,0))->∀ty dc,(jP #[209,209] ty #[.slice (ay ⟨g,i*2,aK⟩) (n+1 - i) dc,.slice (ay ⟨vb,0,aK⟩) 1 vc]).run aB W=.ok (goInt 1) (W.setRow g R2):=fun W hW hW2 ty dc=>by
  have hmin:pz 1 (n+1 - i)=1:=by simp only[sD];split<;>omega
  have:=Qe W 209 209 ty 272 2 g (i*2) (n+1 - i) dc ⟨vb,0,aK⟩ 1 vc R1 272 vs gZ hsz hW (by rw[hmin,hvl]) (fun j v hj=>by
    rw[eX,cell_of_row W vb _ Nj 272 (0,0) hW2];rw[<-hvs,bY] at hj;split at hj
    ·simpa using hj
    ·cases hj) (by rw[hvl,agJ];omega) h1v
  rw[hmin,<-hR2] at this;exact this
 have hfin:R2.size=c*2/\R2.toList.take ((n+1)*2)=cs.take (i*2)++vs++cs.drop (i*2):=by
  have hl1:R1.toList.length=c*2:=by rw[bU,agJ]
  refine ⟨by rw[hR2];simp only[gK,bf,bZ,dQ,hl1,hvl];omega,?_⟩;have ht1:R1.toList.take (i*2)=cs.take (i*2):=by
   rw[hR1];simp only[dS];rw[List.take_append_of_le_length (by rw[bZ,bU];omega),wK,<-hcs,wK];congr 1;omega
  have hd1:R1.toList.drop (i*2+2)=cs.drop (i*2)++cur.toList.drop ((n+1)*2):=by
   rw[hR1];have e1:(cur.toList.take ((i+1)*2)).length=i*2+2:=by rw[bZ,bU];omega
   simp only[dS];have e3:List.drop (i*2+2) (cur.toList.take ((i+1)*2)++(cs.drop (i*2)++cur.toList.drop ((i+1)*2+(cs.drop (i*2)).length)))=cs.drop (i*2)++cur.toList.drop ((i+1)*2+(cs.drop (i*2)).length):=by
    conv=>lhs;rw[<-e1]
    exact List.drop_left
   rw[e3,hdl];congr 2;omega
  rw[hR2,hvl,hd1,ht1];simp only[<-dS];have e2:(cs.take (i*2)++vs++cs.drop (i*2)).length=(n+1)*2:=by
   rw[bf,bf,bZ,hvl,hdl,hcl];omega
  rw[<-e2];exact kX
 have hgl:g<w.heap.size:=(bG.1 hg).1;have mixed:aB.follows .mixedOrders=aC:=sS;have hb1:(0:Int)<=(i:Int)+1:=by omega
 have hin:i<=n:=by omega
 have htn:((i:Int)+1).toNat=i+1:=by omega
 have hb2:¬(c=i+1):=by omega
 have hb3:(i:Int)<=(n:Int)+1:=by omega
 have hb4:¬(c=i):=by omega
 clear hcs hvs h1c h1v hcur hR1 hR2;have hc2:=hcp2 (w.drew.setRow g R1) (setRow_heap w.drew g cur R1 272 (0,0) hg) (by rw[setRow_other _ _ _ _ hvb];exact hgb) 3 (c - i);go_enter nN,ny
 go_wp2_with (simp only[hov])
 go_region_law_o (refine step_copy_runI rfl (.tmp 73) (.tmp 76) 209 209 rfl (.slice (ay ⟨g,(i+1)*2,aK⟩) (n - i) (c - (i+1))) (.slice (ay ⟨g,i*2,aK⟩) (n+1 - i) (c - i)) (by simp[sF,uh]) (by simp[sF,uh]) (hcp1 w.drew hg 3 (c - (i+1)) (c - i)) ?_)
 go_wp2
 go_ret
 refine ⟨rfl,R2,setRow_heap _ g R1 R2 272 (0,0) (setRow_heap w.drew g cur R1 272 (0,0) hg),hfin.1,hfin.2,⟨rfl,rfl,rfl,by simp[wX],fun k hk hne=>?_⟩⟩;have hkg:k≠g:=fun e=>hne (by rw[e]);rw[setRow_other _ _ _ _ hkg,setRow_other _ _ _ _ hkg];rfl
set_option maxHeartbeats 4000000 in
set_option maxRecDepth 100000 in
theorem anQ(w:World)(v x:Value)(n vc:Nat)(xs news:List Value)(vb:Nat)(hv:w.ownsRow 0 272 2 v n xs)(hx:x=.slice (ay ⟨vb,0,aK⟩) 1 vc)(hnews:∀j u,news[j]?=ay u->w.cell? ((⟨vb,0,aK⟩:Addr).add j)=ay u)(hl:news.length=2)(h1:∀u∈news,u.oneCell'=aC)
  (h63:n+1<=maxLen) (hbytes:(n+1)*16<=140737488355328) :
  Calls aB 182 #[v,.int .i64 n,x] w fun e w'=>∃v',e=.returned v'/\w'.ownsRow 0 272 2 v' (n+1) (xs++news)/\w.grownBy w' (Ah v)/\∀b,Ah v'=ay b->Ah v=ay b\/w.heap.size<=b:=by
 obtain ⟨inf,z,i1,i2,i3,i4,i5,_⟩:=info116;obtain ⟨v',w',hr,h2,h3,h4⟩:=Q5 (P:=aB) (w:=w) 209 209 272 inf z 2 16 gZ i1 i4 i2 i3 i5 (by decide) v n xs hv ⟨vb,0,aK⟩ 1 vc news (by rw[hl]) hnews h1 h63 hbytes;subst hx;have hsmall:n+1<=9223372036854775807:=by simp only[maxLen] at h63;omega
 have avj:v=.slice aK 0 0/\n=0\/∃g c,v=.slice (ay ⟨g,0,aK⟩) n c/\n<=c/\c<=9223372036854775807:=by
  rcases hv.2 with ⟨e1,e2⟩ |⟨g,c,cur,e1,_,_,e2,e3,_⟩
  ·exact .inl ⟨e1,e2⟩
  ·exact .inr ⟨g,c,e1,e2,by simp only[maxLen] at e3;omega⟩
 clear hv hnews h1;rcases avj with ⟨rfl,rfl⟩ |⟨g,c,rfl,hnc,hc63⟩
 ·go_enter nN,ny
  go_wp2_with (at_builtin;refine jT _ rfl _ _ _ _ rfl _ _ rfl rfl _ _ hr ?_)
  go_ret
  exact ⟨v',rfl,h2,h3,h4⟩
 ·go_enter nN,ny
  go_wp2_with (at_builtin;refine jT _ rfl _ _ _ _ rfl _ _ rfl rfl _ _ hr ?_)
  all_goals
   go_ret
   exact ⟨v',rfl,h2,h3,h4⟩
set_option maxHeartbeats 4000000 in
set_option maxRecDepth 100000 in
theorem alv(w:World)(g n c i vb vc:Nat)(cur:Array Value)(cs vs:List Value)(hg:w.heap[g]?=ay (.cells cur 272 (0,0)))(Nj:Array Value)(hgb:w.heap[vb]?=ay (.cells Nj 272 (0,0)))
  (hi:i<n) (hnc:n<=c) (hroom:c<n+1) (hn63:n+1<=maxLen) (hbig:(n+1)*16<=140737488355328) (hcap:cur.size=c*2) (hcs:cur.toList.take (n*2)=cs) (hvs:Nj.toList.take 2=vs) (hvl:vs.length=2)
  (h1c:∀v∈cs,v.oneCell'=aC) (h1v:∀v∈vs,v.oneCell'=aC) :
  Calls aB 182 #[.slice (ay ⟨g,0,aK⟩) n c,.int .i64 i,.slice (ay ⟨vb,0,aK⟩) 1 vc] w fun e w'=>
   ∃G cur',e=.returned (.slice (ay ⟨w.heap.size,0,aK⟩) (n+1) G)/\w'.heap[w.heap.size]?=ay (.cells cur' 272 (0,0))/\n+1<=G/\G<=maxLen/\cur'.size=G*2/\cur'.toList.take ((n+1)*2)=cs.take (i*2)++vs++cs.drop (i*2)/\w.grownBy w' (ay g):=by
 obtain ⟨inf,z,i1,i2,i3,i4,i5,zs,hz⟩:=info116;have hsz:(aB.info? 272).map (·.size)=ay 2:=by rw[i1];simp[i2]
 have hse:∀w,(ni 272).run aB w=.ok 2 w:=fun w=>by simp[ni,typeInfo,i1,i2]
 have hsmall:n+1<=9223372036854775807:=by simp only[maxLen] at hn63;omega
 have hw1:aT.wrap ((i:Int)+1)=(i:Int)+1:=by rw[iR];omega
 have hw2:aT.wrap ((n:Int)+1)=(n:Int)+1:=by rw[iR];omega
 have hw3:aT.wrap ((n:Int)+1 - (i:Int))=(n:Int)+1 - (i:Int):=by rw[iR];omega
 have hcl:cs.length=n*2:=by rw[<-hcs,bZ,bU];omega
 have hdl:(cs.drop (i*2)).length=(n - i)*2:=by rw[dQ,hcl];omega
 have htl:(cs.take (i*2)).length=i*2:=by rw[bZ,hcl];omega
 have hcur:∀j v,cs[j]?=ay v->cur.toList[j]?=ay v:=fun j v hj=>by
  rw[<-hcs,bY] at hj;split at hj
  ·exact hj
  ·cases hj
 have hgl:g<w.heap.size:=(bG.1 hg).1;have avk:vb<w.heap.size:=(bG.1 hgb).1;have hold:(gu inf.size i (.slice (ay ⟨g,0,aK⟩) i c)).run aB w.drew=.ok (cs.take (i*2)).toArray w.drew:=by
  rw[i2];exact run_firstCells_some w.drew 2 i ⟨g,0,aK⟩ i c (cs.take (i*2)) htl (fun j v hj=>by
   rw[eX,cell_of_row w.drew g _ cur 272 (0,0) hg];rw[bY] at hj;split at hj
   ·have:=hcur _ _ hj
    simpa using this
   ·cases hj)
 obtain ⟨G,hG⟩:∃G,G=grownCap w (n+1) c 272:=⟨_,rfl⟩;obtain ⟨ROW,hROW⟩:∃ROW:Array Value,ROW=(cs.take (i*2)).toArray++jd z.cells (n+1 - i)++jd z.cells (G - (n+1)):=⟨_,rfl⟩;have hGn:n+1<=G:=by rw[hG];exact grownCap_ge w _ _ _
 have hGm:G<=maxLen:=by rw[hG];exact grownCap_le_maxLen w (n+1) c 272 hn63
 have hG63:G<=9223372036854775807:=by simp only[maxLen] at hGm;omega
 have hrz:∀ty,(eF #[209,3] ty #[.slice (ay ⟨g,0,aK⟩) i c,.int .i64 ((n:Int)+1 - (i:Int))]).run aB w =
   .ok (.slice (ay ⟨w.heap.size,0,aK⟩) (n+1) G) (w.drew.alloc (.cells ROW 272)):=fun ty=>by
  have h:=qm w 209 3 ty 272 inf z .i64 .i64 gZ l9 i1 i4 (ay ⟨g,0,aK⟩) i c (cs.take (i*2)) hold (n+1 - i) (by omega) (by omega) (by omega) (by omega) (by rw[i3];omega) (by rw[i3,show i+(n+1 - i)=n+1 by omega];exact growslice_fits (by omega) hbig);rw[show i+(n+1 - i)=n+1 by omega,show (((n+1 - i:Nat)):Int)=(n:Int)+1 - (i:Int) by omega,<-hG,<-hROW] at h;exact h
 have hRs:ROW.size=G*2:=by
  rw[hROW];simp only[nS,gK,size_zeroCells,i5,htl];omega
 obtain ⟨R1,hR1⟩:∃R1,R1=(ROW.toList.take (i*2)++vs++ROW.toList.drop (i*2+vs.length)).toArray:=⟨_,rfl⟩;have agJ:R1.size=G*2:=by rw[hR1];simp only[gK,bf,bZ,dQ,bU,hvl];omega
 obtain ⟨R2,hR2⟩:∃R2,R2=(R1.toList.take ((i+1)*2)++cs.drop (i*2)++R1.toList.drop ((i+1)*2+(cs.drop (i*2)).length)).toArray:=⟨_,rfl⟩;obtain ⟨W1,hW1⟩:∃W1,W1=w.drew.alloc (.cells ROW 272):=⟨_,rfl⟩;rw[<-hW1] at hrz;have arX:W1.heap[w.heap.size]?=ay (.cells ROW 272 (0,0)):=by rw[hW1];exact heap_alloc_new w.drew _
 have anS:∀k,k<w.heap.size->W1.heap[k]?=w.heap[k]?:=fun k hk=>by rw[hW1];first|exact vW w.drew _ k hk|exact heap_alloc_old w.drew _ hk
 have hcp1:(jP #[209,209] 3 #[.slice (ay ⟨w.heap.size,i*2,aK⟩) (n+1 - i) (G - i),.slice (ay ⟨vb,0,aK⟩) 1 vc]).run aB W1=.ok (goInt 1) (W1.setRow w.heap.size R1):=by
  have hmin:pz 1 (n+1 - i)=1:=by simp only[sD];split<;>omega
  have:=Qe W1 209 209 3 272 2 w.heap.size (i*2) (n+1 - i) (G - i) ⟨vb,0,aK⟩ 1 vc ROW 272 vs gZ hsz arX (by rw[hmin,hvl]) (fun j v hj=>by
    rw[eX,cell_of_row W1 vb _ Nj 272 (0,0) (by rw[anS vb avk];exact hgb)];rw[<-hvs,bY] at hj;split at hj
    ·simpa using hj
    ·cases hj) (by rw[hvl,hRs];omega) h1v
  rw[hmin,<-hR1] at this;exact this
 have arY:(W1.setRow w.heap.size R1).drew.heap[w.heap.size]?=ay (.cells R1 272 (0,0)):=setRow_heap W1 w.heap.size ROW R1 272 (0,0) arX;have hcp2:(jP #[209,209] 3 #[.slice (ay ⟨w.heap.size,(i+1)*2,aK⟩) (n - i) (G - (i+1)),.slice (ay ⟨g,i*2,aK⟩) (n - i) (c - i)]).run aB (W1.setRow w.heap.size R1).drew=.ok (goInt ((n - i:Nat):Int)) ((W1.setRow w.heap.size R1).drew.setRow w.heap.size R2):=by
  have hmin:pz (n - i) (n - i)=n - i:=Nat.min_self _;have:=Qe (W1.setRow w.heap.size R1).drew 209 209 3 272 2 w.heap.size ((i+1)*2) (n - i) (G - (i+1)) ⟨g,i*2,aK⟩ (n - i) (c - i) R1 272 (cs.drop (i*2)) gZ hsz arY (by rw[hmin,hdl]) (fun j v hj=>by
    rw[eX,cell_of_row (W1.setRow w.heap.size R1).drew g _ cur 272 (0,0) (by
     show (W1.setRow w.heap.size R1).heap[g]?=_;rw[setRow_other _ _ _ _ (by omega),anS g hgl];exact hg)]
    rw[eH] at hj;have:=hcur _ _ hj;simpa using this) (by rw[hdl,agJ];omega) (fun v hv=>h1c v (jo hv))
  rw[hmin,<-hR2] at this;exact this
 have hfin:R2.size=G*2/\R2.toList.take ((n+1)*2)=cs.take (i*2)++vs++cs.drop (i*2):=by
  have hl1:R1.toList.length=G*2:=by rw[bU,agJ]
  refine ⟨by rw[hR2];simp only[gK,bf,bZ,dQ,hl1,hdl];omega,?_⟩;have ht0:ROW.toList.take (i*2)=cs.take (i*2):=by
   rw[hROW];simp only[Array.toList_append,dS];exact List.take_left' htl
  have ht1:R1.toList.take ((i+1)*2)=cs.take (i*2)++vs:=by
   rw[hR1,ht0];have e1:(cs.take (i*2)++vs).length=(i+1)*2:=by rw[bf,htl,hvl];omega
   rw[<-e1];exact kX
  rw[hR2,ht1];have e2:(cs.take (i*2)++vs++cs.drop (i*2)).length=(n+1)*2:=by
   rw[bf,bf,htl,hvl,hdl];omega
  rw[<-e2];exact kX
 have mixed:aB.follows .mixedOrders=aC:=sS;have hb1:(0:Int)<=(i:Int)+1:=by omega
 have hin:i<=n:=by omega
 have htn:((i:Int)+1).toNat=i+1:=by omega
 have hb2:¬(c=i+1)\/c=i+1:=by omega
 have hb3:(i:Int)<=(n:Int)+1:=by omega
 have hb4:¬(c=i):=by omega
 have hGi:¬(G=i):=by omega
 have hGim:¬(G=i+1):=by omega
 have hz1:¬((i:Int)=(n:Int)):=by omega
 have hz3:(c:Int)<(n:Int)+1:=by omega
 have hr1:=hrz 209;have hsz1:W1.heap.size=w.heap.size+1:=by rw[hW1];simp
 have hos:W1.os=w.os/\W1.tape=w.tape/\W1.output=w.output:=by rw[hW1];exact ⟨rfl,rfl,rfl⟩
 clear hcs hvs h1c h1v hcur hR1 hR2 hROW hG hold hrz hb2 hW1;go_enter nN,ny
 go_wp2_with (first
  |(at_builtin;refine jT _ rfl _ _ _ _ rfl _ _ rfl rfl _ _ hr1 ?_))
 go_region_law_o (refine step_copy_runI rfl (.tmp 50) (.tmp 53) 209 209 rfl (.slice (ay ⟨w.heap.size,(i+1)*2,aK⟩) (n - i) (G - (i+1))) (.slice (ay ⟨g,i*2,aK⟩) (n - i) (c - i)) (by simp[sF,uh]) (by simp[sF,uh]) hcp2 ?_)
 go_wp2
 go_ret
 refine ⟨G,R2,rfl,setRow_heap _ w.heap.size R1 R2 272 (0,0) arY,hGn,hGm,hfin.1,hfin.2,⟨hos.1,hos.2.1,hos.2.2,?_,fun k hk hne=>?_⟩⟩
 ·have:((W1.setRow w.heap.size R1).drew.setRow w.heap.size R2).heap.size=W1.heap.size:=by simp[wX,World.drew]
  rw[this,hsz1];omega
 ·have hkg:k≠w.heap.size:=by omega
  rw[setRow_other _ _ _ _ hkg];show (W1.setRow w.heap.size R1).heap[k]?=_;rw[setRow_other _ _ _ _ hkg,anS k hk]
theorem aq0:aij aB 182 272 2 16:=by
 intro w v x n i xs news hv hx hne h1 h1n hi h63 hbytes;have hl:news.length=2:=by rw[hx.1]
 rcases hx.2 with ⟨_,h0⟩ |⟨vb,vc,Nj,ex,_,hgb,hvc,hvm,hvs,hvt⟩
 ·omega
 have hb2:Ah x=ay vb:=by rw[ex];rfl
 have hcell:∀j u,news[j]?=ay u->w.cell? ((⟨vb,0,aK⟩:Addr).add j)=ay u:=fun j u hj=>by
  rw[eX,cell_of_row w vb _ Nj 272 (0,0) hgb];rw[<-hvt,bY] at hj;split at hj
  ·simpa using hj
  ·cases hj
 by_cases hin:i=n
 ·subst hin
  refine (anQ w v x i vc xs news vb hv ex hcell hl h1n h63 hbytes).mono fun e w' ⟨v',e1,e2,e3,e4⟩=>⟨v',e1,?_,e3,e4⟩;rw[List.take_of_length_le (by rw[hv.1];exact dh _),List.drop_of_length_le (by rw[hv.1];exact dh _),List.append_nil];exact e2
 rcases hv.2 with ⟨_,h0⟩ |⟨g,c,cur,ev,_,hg,hnc,hcm,hcs,hct⟩
 ·omega
 have hb:Ah v=ay g:=by rw[ev];rfl
 have hvg:vb≠g:=fun e=>hne g hb (by rw[hb2,e]);have hlen:(xs.take (i*2)++news++xs.drop (i*2)).length=(n+1)*2:=by
  rw[bf,bf,bZ,dQ,hl,hv.1];omega
 have arZ:Nj.toList.take 2=news:=by simpa using hvt
 by_cases hroom:n+1<=c
 ·rw[hb,ev,ex]
  refine (aiJ w g n c i vb vc cur xs news hg Nj hgb (by omega) hroom (by simp only[maxLen] at hcm;omega) hvg hcs hct arZ hl (by omega) h1 h1n).mono fun e w' ⟨e1,cur',e2,e3,e4,e5⟩=>⟨_,e1,⟨hlen,.inr ⟨g,c,cur',rfl,gX _,e2,hroom,hcm,e3,e4⟩⟩,e5,fun b hb'=>.inl hb'⟩
 ·rw[hb,ev,ex]
  refine (alv w g n c i vb vc cur xs news hg Nj hgb (by omega) hnc (by omega) h63 hbytes hcs hct arZ hl h1 h1n).mono fun e w' ⟨G,cur',e1,e2,e3,e4,e5,e6,e7⟩=>⟨_,e1,⟨hlen,.inr ⟨w.heap.size,G,cur',rfl,gX _,e2,e3,e4,e5,e6⟩⟩,e7,fun b hb'=>.inr (by simp[Ah] at hb';omega)⟩
end Go.Proofs
namespace Go.Pl
open Go Go.Sx
structure Lm7 where
 pos:Nat->(Nat->List Sh)->Int->Nat
 has:Nat->(Nat->List Sh)->Int->Bool
 wf:Nat->(Nat->List Sh)->Int->Bool
end Go.Pl
namespace Go.Proofs
open Go Go.Sx Go.Pl
def RJ:List It:=[bF [0,0,1,1,1],dA 0,bF [1,1,1,1]]
def anT:List It:=bF [0,0,0,1,1,1]::RJ
def RN(n:Nat)(p:Nat->Pr)(key i j:Int):Core:={tm:=Gs 49 [(0,.sh (.sl 2 n (zW p))),(1,.sym .i64 key),(2,.fn 205 []),(8,.sym .i64 (n:Int)),(9,.sym .i64 i),(10,.sym .i64 j)],hp:=[],nx:=0,lim:=L0,tc:=[]}
theorem avl(A:Prim)(W:Wd)(n:Nat)(p:Nat->Pr)(key i' j':Int):AP (C7 A W noSpec Am) Bg 300 400 204 [.code []] (zZ 49 [.sl 2 n (zW p),.i .i64 key,.fn 205 []] L0) [] [⟨204,RJ,RN n p key i' j',[]⟩]=aA (bJ 0 [aP (aG 2 n (zW p)) (aG 2 n (zW p)),aj key key,aj (A.Az n) (ah n),aj (ah 0) i',aj (A.Az n) j']):=by kernel_rfl
theorem anU(A:Prim)(W:Wd)(n:Nat)(p:Nat->Pr)(key i j i' j':Int):AP (C7 A W noSpec Am) Bg 300 400 204 anT (RN n p key i j) [] [⟨204,RJ,RN n p key i' j',[]⟩]=aF (A.lt i j) (aI (A.inB (A.conv .i64 (A.bin qo lS (A.conv .u64 (A.add .i64 i j)) (ah 1))) n) (aF (A.lt (A.sub .i64 (p (A.toN (A.conv .i64 (A.bin qo lS (A.conv .u64 (A.add .i64 i j)) (ah 1))))).key key) (ah 0)) (aA (bJ 0 [aP (aG 2 n (zW p)) (aG 2 n (zW p)),aj key key,aj (ah n) (ah n),aj (A.add .i64 (A.conv .i64 (A.bin qo lS (A.conv .u64 (A.add .i64 i j)) (ah 1))) (ah 1)) i',aj j j'])) (aA (bJ 0 [aP (aG 2 n (zW p)) (aG 2 n (zW p)),aj key key,aj (ah n) (ah n),aj i i',aj (A.conv .i64 (A.bin qo lS (A.conv .u64 (A.add .i64 i j)) (ah 1))) j'])))) (aF (A.lt i (ah n)) (aI (A.inB i n) (aA (aO (cO [aW .i64 i,Sh.b (A.eq (A.sub .i64 (p (A.toN i)).key key) (ah 0))])))) (aA (aO (cO [aW .i64 i,Sh.b ak])))):=by kernel_rfl
end Go.Proofs
namespace Go.Pl
open Go Go.Sx Go.Proofs
def Qg(ps:List Pr):Bool:=decide (ps.Pairwise fun a b=>a.key<b.key)&&ps.all fun p=>decide (0<=p.key/\p.key<=1000)
def Em(key:Int):Bool:=decide (0<=key/\key<=1000)
def BM(ps:List Pr)(key:Int):Nat:=(ps.takeWhile fun p=>decide (p.key<key)).length
def D9(ps:List Pr)(key:Int):Bool:=ps.any fun p=>p.key==key
theorem agK:∀{ps:List Pr} {key:Int} {k:Nat},k<=ps.length->(∀t (h:t<ps.length),t<k->ps[t].key<key)->(∀t (h:t<ps.length),k<=t->key<=ps[t].key)->BM ps key=k
 |[],key,k,hk,_,_=>by simp at hk;subst hk;rfl |a::ps,key,0,_,_,h2=>by
  have:=h2 0 (by simp) (dh _);simp only[qK] at this;have hd:decide (a.key<key)=ak:=decide_eq_false (by omega);simp[BM,jq,hd]
 |a::ps,key,k+1,hk,h1,h2=>by
  have ha:=h1 0 (by simp) (by omega);simp only[qK] at ha;have hd:decide (a.key<key)=aC:=decide_eq_true ha;have ih:=agK (ps:=ps) (key:=key) (k:=k) (by simpa using hk) (fun t ht hlt=>h1 (t+1) (by simp;omega) (by omega)) (fun t ht hle=>h2 (t+1) (by simp;omega) (by omega));unfold BM at ih ⊢;simp only[jq,hd,iP,ih]
theorem agL{ps:List Pr}{key:Int}{k:Nat}(hs:ps.Pairwise fun a b=>a.key<b.key)(h1:∀t (h:t<ps.length),t<k->ps[t].key<key)(h2:∀t (h:t<ps.length),k<=t->key<=ps[t].key):
  D9 ps key=aC↔∃h:k<ps.length,ps[k].key=key:=by
 unfold D9;rw[List.any_eq_true];constructor
 ·rintro ⟨x,hx,he⟩
  obtain ⟨t,ht,rfl⟩:=List.getElem_of_mem hx;have he:ps[t].key=key:=by simpa using he
  have htk:¬t<k:=fun h=>by have:=h1 t ht h;omega
  have hkl:k<ps.length:=by omega
  refine ⟨hkl,?_⟩;by_cases e:t=k
  ·subst e;exact he
  ·have hlt:ps[k].key<ps[t].key:=jA.1 hs k t hkl ht (by omega)
   have:=h2 k hkl (dh _);omega
 ·rintro ⟨h,he⟩
  exact ⟨ps[k],kC _,by simp[he]⟩
theorem GK{ps:List Pr}(h:Qg ps=aC):ps.Pairwise fun a b=>a.key<b.key:=by
 simp only[Qg,aH] at h;exact of_decide_eq_true h.1
theorem anV{ps:List Pr}(h:Qg ps=aC){t:Nat}(ht:t<ps.length):0<=ps[t].key/\ps[t].key<=1000:=by
 simp only[Qg,aH] at h;have:=dK.1 h.2 ps[t] (kC _);exact of_decide_eq_true this
theorem aq1{i j:Nat}(h:i+j<=1000000):zV.conv .i64 (zV.bin .shr .u64 (zV.conv .u64 (zV.add .i64 i j)) (ah 1))=(((i+j) / 2:Nat):Int):=by
 have e1:zV.add .i64 i j=((i+j:Nat):Int):=by rw[Df,BL (by omega) (by omega)];omega
 rw[e1];have e2:zV.conv .u64 ((i+j:Nat):Int)=((i+j:Nat):Int):=by
  show lS.wrap _=_;rw[IntKind.wrap_u64];omega
 rw[e2];have e3:zV.bin .shr .u64 ((i+j:Nat):Int) (ah 1)=(((i+j) / 2:Nat):Int):=by
  show Int.fdiv ((i+j:Nat):Int) (2^(min 1 64))=_;rw[show (min 1 64)=1 from rfl,Int.fdiv_eq_ediv_of_nonneg _ (by decide)];omega
 rw[e3];show aT.wrap _=_;exact BL (by omega) (by omega)
end Go.Pl
namespace Go.Proofs
open Go Go.Sx Go.Pl
def anW:List Sh->Tree Sh
 |[.sl 2 n g,.i .i64 key,.fn 205 []]=>.need (okB Pr n g) (.need (decide (n<=100000)) (.need (Qg (lst Pr n g)) (.need (Em key) (.leaf (.Aj [.i .i64 (BM (lst Pr n g) key),.b (D9 (lst Pr n g) key)]))))) |_=>.fail
theorem abd{H0:Mem}{w0:World}{n:Nat}{p:Nat->Pr}{key:Int}{φ:Sh->Prop}(hn:n<=100000)(hs:Qg ((aX n).map p)=aC)(hk:Em key=aC)
  (hφ:φ (.Aj [.i .i64 (BM ((aX n).map p) key),.b (D9 ((aX n).map p) key)])) :
  ∀m i j,j - i<=m->i<=j->j<=n->(∀t,t<i->(p t).key<key)->(∀t,t<n->j<=t->key<=(p t).key)->Bc aB (C7 zV W7 noSpec Am) (K0 H0 w0) 204 RJ (RN n p key i j) [] emp φ
 |m,i,j,hm,hij,hjn,h1,h2=>by
  have hkey:0<=key/\key<=1000:=of_decide_eq_true hk;have hp:∀t,t<n->0<=(p t).key/\(p t).key<=1000:=fun t ht=>by
   have:=anV hs (t:=t) (by simpa using ht);simpa using this
  have hso:=GK hs;have hlt:∀a b,a<b->b<n->(p a).key<(p b).key:=fun a b hab hb=>by
   have:=jA.1 hso a b (by simp;omega) (by simpa using hb) hab;simpa using this
  have sub_eq:∀t,t<n->zV.sub .i64 (p t).key key=(p t).key - key:=fun t ht=>by
   have:=hp t ht;rw[L9,BL (by omega) (by omega)]
  have hfin:i=j->(i<n->(p i).key=key->φ (.Aj [.i .i64 i,.b aC]))/\((i<n->(p i).key≠key)->φ (.Aj [.i .i64 i,.b ak])):=fun e=>by
   subst e;have hl:((aX n).map p).length=n:=by simp
   have q1:∀t (h:t<((aX n).map p).length),t<i->((aX n).map p)[t].key<key:=fun t ht hlt=>by simpa using h1 t hlt
   have q2:∀t (h:t<((aX n).map p).length),i<=t->key<=((aX n).map p)[t].key:=fun t ht hle=>by simpa using h2 t (by simpa using ht) hle
   rw[agK (k:=i) (by rw[hl];exact hjn) q1 q2] at hφ;have hh:=agL hso q1 q2;constructor
   ·intro a b
    have:D9 ((aX n).map p) key=aC:=hh.2 ⟨by rw[hl];exact a,by simpa using b⟩;rwa[this] at hφ
   ·intro a
    have:D9 ((aX n).map p) key=ak:=by
     cases hx:D9 ((aX n).map p) key with
     |false=>rfl |true=>
      obtain ⟨b,c⟩:=hh.1 hx;exact (a (by rw[hl] at b;exact b) (by simpa using c)).elim
    rwa[this] at hφ
  have hmid:=aq1 (i:=i) (j:=j) (by omega);refine Gq (fn:=uV) (tb:=anT) (by kernel_rfl) (by kernel_rfl) ?_;by_cases hlt2:i<j
  ·by_cases hcmp:(p ((i+j) / 2)).key<key
   ·refine G9 (cZ _ _) (MZ _) (hold:=DI) (m:=300) (n:=400) (ts:=[⟨204,RJ,RN n p key ((i+j) / 2+1:Nat) j,[]⟩]) ?_
    rw[show DI=Bg from rfl,anU zV W7 n p key i j ((i+j) / 2+1:Nat) j,hmid];refine ⟨fun _=>⟨by simp[Bj];omega,fun _=>⟨⟨rfl,rfl,rfl,?_,rfl,trivial⟩,_,rfl,?_⟩,fun h=>?_⟩,fun h=>?_⟩
    ·simp only[iI,Df,GU]
     rw[BL (by omega) (by omega)];rfl
    ·match m,hm with
     |0,hm=>omega |m+1,hm=>
      refine abd hn hs hk hφ m ((i+j) / 2+1) j (by omega) (by omega) hjn (fun t ht=>?_) h2;by_cases e:t=(i+j) / 2
      ·subst e;exact hcmp
      ·have:=hlt t ((i+j) / 2) (by omega) (by omega);omega
    ·have e:zV.toN (((i+j) / 2:Nat):Int)=(i+j) / 2:=rfl
     rw[e,sub_eq _ (by omega)] at h;simp[Aa] at h;omega
    ·simp[Aa] at h;omega
   ·refine G9 (cZ _ _) (MZ _) (hold:=DI) (m:=300) (n:=400) (ts:=[⟨204,RJ,RN n p key i ((i+j) / 2:Nat),[]⟩]) ?_
    rw[show DI=Bg from rfl,anU zV W7 n p key i j i ((i+j) / 2:Nat),hmid];refine ⟨fun _=>⟨by simp[Bj];omega,fun h=>?_,fun _=>⟨⟨rfl,rfl,rfl,rfl,rfl,trivial⟩,_,rfl,?_⟩⟩,fun h=>?_⟩
    ·have e:zV.toN (((i+j) / 2:Nat):Int)=(i+j) / 2:=rfl
     rw[e,sub_eq _ (by omega)] at h;simp[Aa] at h;omega
    ·match m,hm with
     |0,hm=>omega |m+1,hm=>
      refine abd hn hs hk hφ m i ((i+j) / 2) (by omega) (by omega) (by omega) h1 (fun t ht hle=>?_);by_cases e:t=(i+j) / 2
      ·subst e;omega
      ·have:=hlt ((i+j) / 2) t (by omega) ht;omega
    ·simp[Aa] at h;omega
  ·have e:i=j:=by omega
   obtain ⟨f1,f2⟩:=hfin e;refine G9 (cZ _ _) (MZ _) (hold:=DI) (m:=300) (n:=400) (ts:=[⟨204,RJ,RN n p key i j,[]⟩]) ?_;rw[show DI=Bg from rfl,anU zV W7 n p key i j i j];refine ⟨fun h=>?_,fun _=>⟨fun h=>⟨?_,?_⟩,fun h=>?_⟩⟩
   ·simp[Aa] at h;omega
   ·simp[Aa] at h;simp[Bj];omega
   ·have hi:i<n:=by simp[Aa] at h;omega
    show φ _;have e1:zV.toN (i:Int)=i:=rfl;rw[e1,sub_eq i hi];by_cases he:(p i).key=key
    ·have:zV.eq ((p i).key - key) (ah 0)=aC:=by simp[Ap];omega
     rw[this];exact f1 hi he
    ·have:zV.eq ((p i).key - key) (ah 0)=ak:=by simp[Ap];omega
     rw[this];exact f2 fun _=>he
   ·exact f2 fun hi=>by simp[Aa] at h;omega
theorem avm:Aq aB (AY W7) 204 anW:=by
 refine KA (C:=C7 zV W7 noSpec Am) (cZ _ _) (fn:=uV) (by kernel_rfl) (by kernel_rfl) fun H w AX args φ hrep h=>?_
 unfold anW at h;split at h
 ·rename_i n g key
  obtain ⟨h1,h2,h3,h4,hφ⟩:=h;match args,hrep with
  |[v,u1,u2],⟨hv,r1,r2,_⟩=>
   refine ⟨[.sl 2 n (zW (zY (α:=Pr) g)),.i .i64 key,.fn 205 []],⟨DV hv h1,r1,r2,trivial⟩,L0,?_⟩;have e:lst Pr n g=(aX n).map (zY g):=rfl;rw[e] at h3 hφ;generalize zY (α:=Pr) g=p at *;have h2:=of_decide_eq_true h2;have hn:uV.ntmps=49:=by kernel_rfl
   refine G9 (cZ _ _) (MZ _) (hold:=DI) (m:=300) (n:=400) (ts:=[⟨204,RJ,RN n p key (0:Nat) n,[]⟩]) ?_;rw[show DI=Bg from rfl,hn,avl zV W7 n p key (0:Nat) n];exact ⟨⟨rfl,rfl,rfl,rfl,rfl,trivial⟩,_,rfl,abd h2 h3 h4 hφ n 0 n (by omega) (gX _) (dh _) (fun t ht=>by omega) (fun t ht hle=>by omega)⟩
 ·exact h.elim
end Go.Proofs
namespace Go.Pl
open Go Go.Sx
def BA(n:Nat)(g:Nat->List Sh)(key:Int):Int:=(BM (lst Pr n g) key:Int)
def F9(n:Nat)(g:Nat->List Sh)(key:Int):Bool:=D9 (lst Pr n g) key
def Hf(n:Nat)(g:Nat->List Sh):Bool:=okB Pr n g&&decide (n<=100000)&&Qg (lst Pr n g)
def OU(n:Nat)(g:Nat->List Sh)(key:Int):Int:=if F9 n g key=aC then (zY (α:=Pr) g (BM (lst Pr n g) key)).val else 0
def QE(n:Nat)(g:Nat->List Sh)(key:Int):Int:=if F9 n g key=aC then 3 else 2
def NK(n m:Nat):Nat:=n+m
def adv(g:Nat->List Sh)(n:Nat)(h:Nat->List Sh):Nat->List Sh:=zV.snoc g n h
end Go.Pl
namespace Go.Proofs
open Go Go.Sx Go.Pl
def aiK:List Sh->Tree Sh
 |[.sl 2 n g,.i .i64 key,.fn 205 []]=>.need (Hf n g) (.need (Em key) (.leaf (.Aj [.i .i64 (BA n g key),.b (F9 n g key)]))) |_=>.fail
def OV:Nat->Option (List Sh->Tree Sh)
 |204=>ay aiK |_=>aK
def akh:List Sh->Tree Sh
 |[.agg [.i .i64 _,.i .i64 _,s2,s3],.i .i64 key]=>match DJ 1 s2,DJ 2 s3 with
  |some _,ay (n,g)=>.need (Hf n g) (.need (Em key) (.leaf (.Aj [.i .i64 (BA n g key),.b (F9 n g key)]))) |_,_=>.fail
 |_=>.fail
def IL:Nat->Option (List Sh->Tree Sh)
 |181=>ay akh |182=>ay (fun _=>.fail) |_=>aK
def anX:List Sh->Tree Sh
 |[.agg [.i .i64 _,.i .i64 _,s2,s3],.i .i64 key]=>match DJ 1 s2,DJ 2 s3 with
  |some _,ay (n,g)=>.need (Hf n g) (.need (Em key) (.leaf (.Aj [.i .i64 (QE n g key),.i .i64 (OU n g key)]))) |_,_=>.fail
 |_=>.fail
def RP:Nat->Option (List Sh->Tree Sh)
 |208=>ay (fun _=>.fail) |_=>aK
def anY:List Sh->Tree Sh
 |[.sl 1 2 g]=>match g 0,g 1 with
  |[.sl 2 n g1],[.sl 2 m g2]=>.need (Bo (NK n m) 16) (.leaf (.sl 2 (NK n m) (adv g1 n g2))) |_,_=>.fail
 |_=>.fail
def EN:Nat->Option (List Sh->Tree Sh)
 |181=>ay akh |184=>ay anX |186=>ay anY |_=>aK
theorem avn(A:Prim)(W:Wd)(x y:Int)(a b:Nat)(h:Nat->List Sh)(p:Nat->Pr)(key:Int):AP (C7 A W OV Am) Bg 300 400 181 [.code []] (zZ 12 [.agg [.i .i64 x,.i .i64 y,.sl 1 a h,.sl 2 b (zW p)],.i .i64 key] L0) [] []=aI (Hf b (zW p)) (aI (Em key) (aA (aO (cO [aW .i64 (BA b (zW p) key),Sh.b (F9 b (zW p) key)])))):=by kernel_rfl
theorem a105(A:Prim)(W:Wd)(x y:Int)(a b:Nat)(h:Nat->List Sh)(p:Nat->Pr)(key:Int):AP (C7 A W IL Am) Bg 300 400 184 [.code []] (zZ 21 [.agg [.i .i64 x,.i .i64 y,.sl 1 a h,.sl 2 b (zW p)],.i .i64 key] L0) [] []=aI (Hf b (zW p)) (aI (Em key) (aF (F9 b (zW p) key) (aI (A.inB (BA b (zW p) key) b) (aA (aO (cO [aW .i64 (ah 3),aW .i64 (p (A.toN (BA b (zW p) key))).val])))) (aA (aO (cO [aW .i64 (ah 2),aW .i64 (ah 0)]))))):=by kernel_rfl
theorem avo(A:Prim)(W:Wd)(x y:Int)(a b:Nat)(h:Nat->List Sh)(p:Nat->Pr)(key v:Int):AP (C7 A W EN Am) Bg 300 400 183 [.code []] (zZ 20 [.agg [.i .i64 x,.i .i64 y,.sl 1 a h,.sl 2 b (zW p)],.i .i64 key,.i .i64 v] L0) [] []=aI (Hf b (zW p)) (aI (Em key) (aA (aO (cO [bM [aW .i64 x,aW .i64 y,aG 1 a h,aG 2 b (zW p)],aW .i64 (QE b (zW p) key),aW .i64 (OU b (zW p) key)])))):=by kernel_rfl
theorem avp(A:Prim)(W:Wd)(x y:Int)(a b:Nat)(h:Nat->List Sh)(p:Nat->Pr)(key v:Int):AP (XK A W IL Am) Bg 300 400 179 [.code []] (zZ 38 [.agg [.i .i64 x,.i .i64 y,.sl 1 a h,.sl 2 b (zW p)],.i .i64 key,.i .i64 v] L0) [] []=aF (A.ZU b 0) ((aI (Hf 0 fun (x:Nat)=>[]) (aI (Em key) (aF (F9 0 (fun (x:Nat)=>[]) key) dG (aI (A.upTo (BA 0 (fun (x:Nat)=>[]) key) 0) (aI (A.room (A.addN 0 1) 16) (aA (aO (cO [bM [aW .i64 x,aW .i64 y,aG 1 a h,jm 272 2 (A.addN 0 1) (A.ins (fun (x:Nat)=>[]) (A.toN (BA 0 (fun (x:Nat)=>[]) key)) [aW .i64 key,aW .i64 v])],aW .i64 (ah 1),aW .i64 (ah 0)])))))))).both (aI (A.room (A.addN 0 b) 16) (aI (Hf (A.addN 0 b) (A.snoc (AQ []) 0 (zW p))) (aI (Em key) (aF (F9 (A.addN 0 b) (A.snoc (AQ []) 0 (zW p)) key) (aI (A.inB (BA (A.addN 0 b) (A.snoc (AQ []) 0 (zW p)) key) (A.addN 0 b)) (aA (aO (cO [bM [aW .i64 x,aW .i64 y,aG 1 a h,jm 272 2 (A.addN 0 b) (A.upd (A.snoc (AQ []) 0 (zW p)) (A.toN (BA (A.addN 0 b) (A.snoc (AQ []) 0 (zW p)) key)) 1 [aW .i64 v])],aW .i64 (ah 1),aW .i64 (ah 0)])))) (aI (A.upTo (BA (A.addN 0 b) (A.snoc (AQ []) 0 (zW p)) key) (A.addN 0 b)) (aI (A.room (A.addN (A.addN 0 b) 1) 16) (aA (aO (cO [bM [aW .i64 x,aW .i64 y,aG 1 a h,jm 272 2 (A.addN (A.addN 0 b) 1) (A.ins (A.snoc (AQ []) 0 (zW p)) (A.toN (BA (A.addN 0 b) (A.snoc (AQ []) 0 (zW p)) key)) [aW .i64 key,aW .i64 v])],aW .i64 (ah 1),aW .i64 (ah 0)])))))))))) (aI (A.room (A.addN 0 b) 16) (aI (Hf (A.addN 0 b) (A.snoc (AQ []) 0 (zW p))) (aI (Em key) (aF (F9 (A.addN 0 b) (A.snoc (AQ []) 0 (zW p)) key) (aI (A.inB (BA (A.addN 0 b) (A.snoc (AQ []) 0 (zW p)) key) (A.addN 0 b)) (aA (aO (cO [bM [aW .i64 x,aW .i64 y,aG 1 a h,jm 272 2 (A.addN 0 b) (A.upd (A.snoc (AQ []) 0 (zW p)) (A.toN (BA (A.addN 0 b) (A.snoc (AQ []) 0 (zW p)) key)) 1 [aW .i64 v])],aW .i64 (ah 1),aW .i64 (ah 0)])))) (aI (A.upTo (BA (A.addN 0 b) (A.snoc (AQ []) 0 (zW p)) key) (A.addN 0 b)) (aI (A.room (A.addN (A.addN 0 b) 1) 16) (aA (aO (cO [bM [aW .i64 x,aW .i64 y,aG 1 a h,jm 272 2 (A.addN (A.addN 0 b) 1) (A.ins (A.snoc (AQ []) 0 (zW p)) (A.toN (BA (A.addN 0 b) (A.snoc (AQ []) 0 (zW p)) key)) [aW .i64 key,aW .i64 v])],aW .i64 (ah 1),aW .i64 (ah 0)]))))))))):=by kernel_rfl
theorem a107(A:Prim)(W:Wd)(n m:Nat)(g1 g2:Nat->List Sh):AP (XK A W RP Ak) Bg 300 400 186 [.code []] (zZ 36 [.sl 1 2 (AQ [[.sl 2 n g1],[.sl 2 m g2]])] L0) [] []=aF (A.lt (ah 0) (A.Az 2)) (aI (A.inB (ah 0) 2) (aF (A.lt (A.add .i64 (ah 0) (A.Az n)) (ah 0)) dG (aF (A.lt (ah 1) (A.Az 2)) (aI (A.inB (ah 1) 2) (aF (A.lt (A.add .i64 (A.add .i64 (ah 0) (A.Az n)) (A.Az m)) (ah 0)) dG (aF (A.lt (ah 2) (A.Az 2)) (aI (A.inB (ah 2) 2) dG) (aI (A.le (ah 0) (A.add .i64 (A.add .i64 (ah 0) (A.Az n)) (A.Az m))) (aI (A.room (A.toN (A.add .i64 (A.add .i64 (ah 0) (A.Az n)) (A.Az m))) 16) (aF (A.lt (ah 0) (A.Az 2)) (aI (A.inB (ah 0) 2) (aI (A.room (A.addN 0 n) 16) (aF (A.lt (ah 1) (A.Az 2)) (aI (A.inB (ah 1) 2) (aI (A.room (A.addN (A.addN 0 n) m) 16) (aF (A.lt (ah 2) (A.Az 2)) (aI (A.inB (ah 2) 2) dG) (aA (aO (jm 272 2 (A.addN (A.addN 0 n) m) (A.snoc (A.snoc (fun (x:Nat)=>[]) 0 g1) (A.addN 0 n) g2))))))) (aA (aO (jm 272 2 (A.addN 0 n) (A.snoc (fun (x:Nat)=>[]) 0 g1))))))) (aA (aO (jm 272 2 0 fun (x:Nat)=>[]))))))))) (aI (A.le (ah 0) (A.add .i64 (ah 0) (A.Az n))) (aI (A.room (A.toN (A.add .i64 (ah 0) (A.Az n))) 16) (aF (A.lt (ah 0) (A.Az 2)) (aI (A.inB (ah 0) 2) (aI (A.room (A.addN 0 n) 16) (aF (A.lt (ah 1) (A.Az 2)) (aI (A.inB (ah 1) 2) (aI (A.room (A.addN (A.addN 0 n) m) 16) (aF (A.lt (ah 2) (A.Az 2)) (aI (A.inB (ah 2) 2) dG) (aA (aO (jm 272 2 (A.addN (A.addN 0 n) m) (A.snoc (A.snoc (fun (x:Nat)=>[]) 0 g1) (A.addN 0 n) g2))))))) (aA (aO (jm 272 2 (A.addN 0 n) (A.snoc (fun (x:Nat)=>[]) 0 g1))))))) (aA (aO (jm 272 2 0 fun (x:Nat)=>[]))))))))) (aI (A.le (ah 0) (ah 0)) (aI (A.room 0 16) (aF (A.lt (ah 0) (A.Az 2)) (aI (A.inB (ah 0) 2) (aI (A.room (A.addN 0 n) 16) (aF (A.lt (ah 1) (A.Az 2)) (aI (A.inB (ah 1) 2) (aI (A.room (A.addN (A.addN 0 n) m) 16) (aF (A.lt (ah 2) (A.Az 2)) (aI (A.inB (ah 2) 2) dG) (aA (aO (jm 272 2 (A.addN (A.addN 0 n) m) (A.snoc (A.snoc (fun (x:Nat)=>[]) 0 g1) (A.addN 0 n) g2))))))) (aA (aO (jm 272 2 (A.addN 0 n) (A.snoc (fun (x:Nat)=>[]) 0 g1))))))) (aA (aO (jm 272 2 0 fun (x:Nat)=>[])))))):=by kernel_rfl
noncomputable def RQ(A:Prim)(W:Wd)(x y:Int)(a b:Nat)(h:Nat->List Sh)(p:Nat->Pr)(key:Int):List Bh:=[aj x x,aj y y,aP (aG 1 a h) (aG 1 a h),aP (aG 2 b (zW p)) (aG 2 b (zW p)),aj key key,aj (QE b (zW p) key) (QE b (zW p) key),aj (OU b (zW p) key) (OU b (zW p) key),aj (BA b (zW p) key) (BA b (zW p) key),Bh.bool (F9 b (zW p) key) (F9 b (zW p) key),aj x x,aj y y,aP (aG 1 a h) (aG 1 a h),aP (aG 2 (NK (A.toN (BA b (zW p) key)) (A.Jm b (A.toN (A.add .i64 (BA b (zW p) key) (ah 1))))) (adv (zW p) (A.toN (BA b (zW p) key)) fun (j:Nat)=>zW p ((C7 A W EN Am).A.addN ((C7 A W EN Am).A.toN ((C7 A W EN Am).A.add .i64 (BA b (zW p) key) 1)) j))) (aG 2 (NK (A.toN (BA b (zW p) key)) (A.Jm b (A.toN (A.add .i64 (BA b (zW p) key) (ah 1))))) (adv (zW p) (A.toN (BA b (zW p) key)) fun (j:Nat)=>zW p ((C7 A W EN Am).A.addN ((C7 A W EN Am).A.toN ((C7 A W EN Am).A.add .i64 (BA b (zW p) key) 1)) j))),Bh.nat 2 2,Bh.Le (AQ [[aG 2 (A.toN (BA b (zW p) key)) (zW p)],[aG 2 (A.Jm b (A.toN (A.add .i64 (BA b (zW p) key) (ah 1)))) fun (j:Nat)=>zW p (A.addN (A.toN (A.add .i64 (BA b (zW p) key) (ah 1))) j)]]) (AQ [[aG 2 (A.toN (BA b (zW p) key)) (zW p)],[aG 2 (A.Jm b (A.toN (A.add .i64 (BA b (zW p) key) (ah 1)))) fun (j:Nat)=>zW p (A.addN (A.toN (A.add .i64 (BA b (zW p) key) (ah 1))) j)]])]
theorem avq(A:Prim)(W:Wd)(x y:Int)(a b:Nat)(h:Nat->List Sh)(p:Nat->Pr)(key v:Int):AP (C7 A W EN Am) Bg 600 800 185 [.code []] (zZ 41 [.agg [.i .i64 x,.i .i64 y,.sl 1 a h,.sl 2 b (zW p)],.i .i64 key,.i .i64 v] L0) [] []=aI (Hf b (zW p)) (aI (Em key) (aI (Hf b (zW p)) (aI (Em key) (aF (F9 b (zW p) key) (aI (A.upTo (BA b (zW p) key) b) (aI (A.upTo (A.add .i64 (BA b (zW p) key) (ah 1)) b) (aI (Bo (NK (A.toN (BA b (zW p) key)) (A.Jm b (A.toN (A.add .i64 (BA b (zW p) key) (ah 1))))) 16) (aI (A.upTo (BA b (zW p) key) b) (aI (A.upTo (A.add .i64 (BA b (zW p) key) (ah 1)) b) (aI (Bo (NK (A.toN (BA b (zW p) key)) (A.Jm b (A.toN (A.add .i64 (BA b (zW p) key) (ah 1))))) 16) (aI (A.upTo (A.add .i64 (BA b (zW p) key) (ah 1)) b) (aI (A.upTo (BA b (zW p) key) b) (aI (Bo (NK (A.toN (BA b (zW p) key)) (A.Jm b (A.toN (A.add .i64 (BA b (zW p) key) (ah 1))))) 16) (aQ (RQ A W x y a b h p key) (aQ (RQ A W x y a b h p key) (aI (A.upTo (BA b (zW p) key) b) (aI (A.upTo (A.add .i64 (BA b (zW p) key) (ah 1)) b) (aI (Bo (NK (A.toN (BA b (zW p) key)) (A.Jm b (A.toN (A.add .i64 (BA b (zW p) key) (ah 1))))) 16) (aI (A.upTo (A.add .i64 (BA b (zW p) key) (ah 1)) b) (aI (A.upTo (BA b (zW p) key) b) (aI (Bo (NK (A.toN (BA b (zW p) key)) (A.Jm b (A.toN (A.add .i64 (BA b (zW p) key) (ah 1))))) 16) (aQ (RQ A W x y a b h p key) (aI (A.upTo (A.add .i64 (BA b (zW p) key) (ah 1)) b) (aI (A.upTo (BA b (zW p) key) b) (aI (Bo (NK (A.toN (BA b (zW p) key)) (A.Jm b (A.toN (A.add .i64 (BA b (zW p) key) (ah 1))))) 16) (aQ (RQ A W x y a b h p key) (aQ (RQ A W x y a b h p key) (aA (aO (cO [bM [aW .i64 x,aW .i64 y,aG 1 a h,aG 2 (NK (A.toN (BA b (zW p) key)) (A.Jm b (A.toN (A.add .i64 (BA b (zW p) key) (ah 1))))) (adv (zW p) (A.toN (BA b (zW p) key)) fun (j:Nat)=>zW p ((C7 A W EN Am).A.addN ((C7 A W EN Am).A.toN ((C7 A W EN Am).A.add .i64 (BA b (zW p) key) 1)) j))],aW .i64 (QE b (zW p) key),aW .i64 (OU b (zW p) key)])))))))))))))))))))))))))) (aA (aO (cO [bM [aW .i64 x,aW .i64 y,aG 1 a h,aG 2 b (zW p)],aW .i64 (QE b (zW p) key),aW .i64 (OU b (zW p) key)]))))))):=by kernel_rfl
end Go.Proofs
namespace Go.Pl
open Go Go.Sx Go.Proofs
def EP(ps:List Pr)(key v:Int):List Pr:=if D9 ps key=aC then ps.set (BM ps key) ⟨key,v⟩ else ps.take (BM ps key)++⟨key,v⟩::ps.drop (BM ps key)
def FN(ps:List Pr)(key:Int):List Pr:=if D9 ps key=aC then ps.take (BM ps key)++ps.drop (BM ps key+1) else ps
def KN(ps:List Pr)(key:Int):Int:=if D9 ps key=aC then (nth ps (BM ps key)).val else 0
def Lr(ps:List Pr)(key:Int):Int:=if D9 ps key=aC then 3 else 2
theorem RS(ps:List Pr)(key:Int):BM ps key<=ps.length:=by unfold BM;exact (qV _).length_le
theorem aki{α:Type}{p:α->Bool}{x:α}:∀{l:List α},x∈l.takeWhile p->p x=aC
 |[],h=>by simp at h |a::l,h=>by
  cases ha:p a with
  |false=>simp[jq,ha] at h |true=>
   simp only[jq,ha,gY] at h;rcases h with rfl|h
   ·exact ha
   ·exact aki h
theorem agM(ps:List Pr)(key:Int):∀t (h:t<ps.length),t<BM ps key->ps[t].key<key:=by
 intro t h ht;have h2:(ps.takeWhile fun p=>decide (p.key<key))[t]?=ps[t]?:=by
  have:=qV (p:=fun p:Pr=>decide (p.key<key)) (l:=ps);obtain ⟨r,hr⟩:=this;conv=>rhs;rw[<-hr]
  rw[dI ht]
 have h3:ps[t]∈ps.takeWhile fun p=>decide (p.key<key):=by
  rw[List.getElem?_eq_getElem h] at h2;exact List.mem_of_getElem? h2
 have:=aki h3;simpa using this
theorem agN{ps:List Pr}{key:Int}(hs:ps.Pairwise fun a b=>a.key<b.key):∀t (h:t<ps.length),BM ps key<=t->key<=ps[t].key:=by
 intro t h ht;have hk:BM ps key<ps.length:=by omega
 have h0:¬ps[BM ps key].key<key:=by
  intro hlt;have:BM ps key<(ps.takeWhile fun p=>decide (p.key<key)).length:=by
   have key2:∀(l:List Pr),(h:(l.takeWhile fun p=>decide (p.key<key)).length<l.length)->¬(l[(l.takeWhile fun p=>decide (p.key<key)).length].key<key):=by
    intro l;induction l with
    |nil=>intro h;simp at h |cons a l ih=>
     intro h;by_cases ha:a.key<key
     ·have hd:decide (a.key<key)=aC:=decide_eq_true ha
      simp only[jq,hd,iP] at h ⊢;exact ih (by omega)
     ·have hd:decide (a.key<key)=ak:=decide_eq_false ha
      simp only[jq,hd,pX] at h ⊢;exact ha
   exact (key2 ps hk hlt).elim
  unfold BM at this;omega
 by_cases e:t=BM ps key
 ·subst e;omega
 ·have:=jA.1 hs (BM ps key) t hk h (by omega)
  omega
theorem OW{ps:List Pr}{key:Int}(hs:ps.Pairwise fun a b=>a.key<b.key)(h:D9 ps key=aC):∃h:BM ps key<ps.length,ps[BM ps key].key=key:=(agL hs (agM ps key) (agN hs)).1 h
theorem abe{α:Type}[Row α]{l:List α}{j:Nat}(h:j<l.length):nth l j=l[j]:=by simp[nth,h]
theorem anZ{α:Type}[Row α]{l:List α}{k j:Nat}{a:α}(hk:k<l.length)(hj:j<l.length):nth (l.set k a) j=if j=k then a else nth l j:=by
 rw[abe (by simpa using hj),abe hj,List.getElem_set];by_cases e:k=j
 ·subst e;simp
 ·rw[if_neg e,if_neg (Ne.symm e)]
theorem an0{α:Type}[Row α]{l:List α}{k j:Nat}{a:α}(hk:k<=l.length)(hj:j<l.length+1):nth (l.take k++a::l.drop k) j=if j<k then nth l j else if j=k then a else nth l (j - 1):=by
 have hlen:(l.take k++a::l.drop k).length=l.length+1:=by simp;omega
 have ht:(l.take k).length=k:=by simp;omega
 unfold nth;split
 ·rename_i h
  simp only[aY];rw[dI (by omega),bY,if_pos h]
 ·split
  ·rename_i h
   subst h;simp only[aY];rw[fC (by omega),ht,qw];rfl
  ·rename_i h1 h2
   simp only[aY];rw[fC (by omega),ht];obtain ⟨m,hm⟩:∃m,j - k=m+1:=⟨j - k - 1,by omega⟩;rw[hm,List.getElem?_cons_succ,eH];congr 2;omega
theorem an1{α:Type}[Row α]{l:List α}{k j:Nat}(hk:k<l.length)(hj:j<l.length - 1):nth (l.take k++l.drop (k+1)) j=if j<k then nth l j else nth l (j+1):=by
 have ht:(l.take k).length=k:=by simp;omega
 unfold nth;split
 ·rename_i h
  simp only[aY];rw[dI (by omega),bY,if_pos h]
 ·simp only[aY]
  rw[fC (by omega),ht,eH];congr 2;omega
theorem aeM{ps:List Pr}{key v:Int}(h:D9 ps key=ak):EP ps key v=ps.take (BM ps key)++⟨key,v⟩::ps.drop (BM ps key):=if_neg (by rw[h];simp)
theorem aeN{ps:List Pr}{key v:Int}(h:D9 ps key=aC):EP ps key v=ps.set (BM ps key) ⟨key,v⟩:=if_pos h
theorem aeO{ps:List Pr}{key:Int}(h:D9 ps key=ak):FN ps key=ps:=if_neg (by rw[h];simp)
theorem aeP{ps:List Pr}{key:Int}(h:D9 ps key=aC):FN ps key=ps.take (BM ps key)++ps.drop (BM ps key+1):=if_pos h
theorem abf{ps:List Pr}{key v:Int}:(EP ps key v).length=if D9 ps key=aC then ps.length else ps.length+1:=by
 have:=RS ps key;unfold EP;split
 ·simp
 ·simp;omega
theorem agO{ps:List Pr}{key:Int}(hs:Qg ps=aC):(FN ps key).length=if D9 ps key=aC then ps.length - 1 else ps.length:=by
 have:=RS ps key;unfold FN;split
 ·rename_i h
  obtain ⟨h1,_⟩:=OW (GK hs) h;simp;omega
 ·rfl
theorem an2{n:Nat}{g:Nat->List Sh}{key:Int}(hs:Qg (lst Pr n g)=aC):OU n g key=KN (lst Pr n g) key:=by
 unfold OU KN F9;split
 ·rename_i h
  obtain ⟨h1,_⟩:=OW (GK hs) h;rw[RF (by simpa using h1)]
 ·rfl
theorem Hg{n:Nat}{g:Nat->List Sh}:Hf n g=aC↔okB Pr n g=aC/\n<=100000/\Qg (lst Pr n g)=aC:=by
 simp[Hf,and_assoc]
end Go.Pl
namespace Go.Proofs
open Go Go.Sx Go.Pl Go.Lib
theorem asJ:Aq aB (AY W7) 204 aiK:=avm.mono fun H AX args φ hr h=>by
 unfold aiK at h;split at h
 ·rename_i n g key
  obtain ⟨h1,h2,hφ⟩:=h;obtain ⟨q1,q2,q3⟩:=Hg.1 h1;simp only[anW];exact ⟨q1,decide_eq_true q2,q3,h2,hφ⟩
 ·exact h.elim
theorem asK:∀g F,OV g=ay F->Aq aB (AY W7) g F:=fun g F h=>by
 unfold OV at h;split at h
 ·cases h;exact asJ
 ·cases h
theorem aq2(stop:Nat->List Nat->Bool):Bz aB (C7 zV W7 OV stop):=lQ asK fun g h=>by
 unfold OV at h;split at h;all_goals first|(cases h;done) |kernel_rfl
theorem RU{H:Mem}{x y:Int}{s2 s3:Sh}{n b:Nat}{g l:Nat->List Sh}{v:Value}(hs2:DJ 1 s2=ay (n,g))(hs:DJ 2 s3=ay (b,l))(hw:okB Pr b l=aC)(r:Rep H (.agg [.i .i64 x,.i .i64 y,s2,s3]) v):
  Rep H (.agg [.i .i64 x,.i .i64 y,.sl 1 n g,.sl 2 b (zW (zY (α:=Pr) l))]) v:=Hw r (fun u hu=>BD hs2 hu) fun u hu=>DV (BD hs hu) hw
theorem RV{b:Nat}{l:Nat->List Sh}(h:Hf b l=aC):Hf b (zW (zY (α:=Pr) l))=aC/\∀key,F9 b (zW (zY (α:=Pr) l)) key=F9 b l key/\BA b (zW (zY (α:=Pr) l)) key=BA b l key:=by
 have e:lst Pr b (zW (zY (α:=Pr) l))=lst Pr b l:=by rw[RG];rfl
 obtain ⟨h1,h2,h3⟩:=Hg.1 h;exact ⟨Hg.2 ⟨D5 _ _,h2,by rw[e];exact h3⟩,fun key=>⟨by unfold F9;rw[e],by unfold BA;rw[e]⟩⟩
theorem ar0:Aq aB (AY W7) 181 akh:=by
 refine DT (C:=C7 zV W7 OV Am) (cZ _ _) (aq2 _) (m:=300) (n:=400) (L:=L0) (fn:=zx) (by kernel_rfl) (by kernel_rfl) fun H w AX args φ hrep h=>?_
 have hn:zx.ntmps=12:=by kernel_rfl
 unfold akh at h;split at h
 ·rename_i x y s2 s3 key
  split at h
  ·rename_i z b l hs2 hs
   obtain ⟨a,hh⟩:=z;obtain ⟨h1,h2,hφ⟩:=h;match args,hrep with
   |[v,u1],⟨hv,r1,_⟩=>
    obtain ⟨q1,q2⟩:=RV h1;refine ⟨[.agg [.i .i64 x,.i .i64 y,.sl 1 a hh,.sl 2 b (zW (zY (α:=Pr) l))],.i .i64 key],⟨RU hs2 hs (Hg.1 h1).1 hv,r1,trivial⟩,?_⟩;rw[hn,avn zV W7 x y a b hh (zY l) key,(q2 key).1,(q2 key).2];exact ⟨q1,h2,BH (s':=.Aj [.i .i64 (BA b l key),.b (F9 b l key)]) ⟨rfl,.inl rfl,trivial⟩ hφ⟩
  ·exact h.elim
 ·exact h.elim
theorem an3:∀g F,IL g=ay F->Aq aB (AY W7) g F:=fun g F h=>by
 unfold IL at h;split at h
 ·cases h;exact ar0
 ·cases h;exact fun H w AX args φ _ _ _ h=>h.elim
 ·cases h
theorem aq3(stop:Nat->List Nat->Bool):Bz aB (C7 zV W7 IL stop):=lQ an3 fun g h=>by
 unfold IL at h;split at h;all_goals first|(cases h;done) |kernel_rfl
theorem an4:mM.get 272=ay ⟨.struct [(0,1,ak),(1,1,ak)],2,16,[.int .i64 0,.int .i64 0]⟩:=by kernel_rfl
set_option maxHeartbeats 4000000 in
set_option maxRecDepth 100000 in
theorem an5:aem aB 208 272 2 16:=by
 intro w k hk hb;obtain ⟨inf,z,i1,i2,i3,i4,i5,zs,hz⟩:=info116;have hsmall:k<=9223372036854775807:=by simp only[maxLen] at hk;omega
 have hse:∀w,(ni 272).run aB w=.ok 2 w:=fun w=>by simp[ni,typeInfo,i1,i2]
 by_cases h0:k=0
 ·subst h0
  go_enter yA,wY
  go_wp2
  go_ret
  exact ⟨_,rfl,OI _ _ _,⟨rfl,rfl,rfl,dh _,fun _ _ _=>rfl⟩,fun b hb=>by simp[Ah] at hb⟩
 ·obtain ⟨G,hG⟩:∃G,G=grownCap w (0+k) 0 272:=⟨_,rfl⟩
  have hGn:k<=G:=by rw[hG];have:=grownCap_ge w (0+k) 0 272;omega
  have hGm:G<=maxLen:=by rw[hG];exact grownCap_le_maxLen w (0+k) 0 272 (by omega)
  have hG63:G<=9223372036854775807:=by simp only[maxLen] at hGm;omega
  obtain ⟨ROW,hROW⟩:∃ROW:Array Value,ROW=([]:List Value).toArray++jd z.cells k++jd z.cells (G - (0+k)):=⟨_,rfl⟩;have hRs:ROW.size=G*2:=by
   rw[hROW];simp only[nS,gK,size_zeroCells,i5,pX];omega
  have hr:∀ty,(eF #[209,3] ty #[.slice aK 0 0,.int .i64 k]).run aB w=.ok (.slice (ay ⟨w.heap.size,0,aK⟩) k G) (w.drew.alloc (.cells ROW 272)):=fun ty=>by
   have h:=qm w 209 3 ty 272 inf z .i64 .i64 gZ l9 i1 i4 aK 0 0 [] (by simp[gu]) k (by omega) (by omega) (by omega) (by omega) (by rw[i3];omega) (by rw[i3];exact growslice_fits (by omega) (by omega));rw[<-hG,<-hROW,Nat.zero_add] at h;exact h
  obtain ⟨W1,hW1⟩:∃W1,W1=w.drew.alloc (.cells ROW 272):=⟨_,rfl⟩;have f1:W1.heap[w.heap.size]?=ay (.cells ROW 272 (0,0)):=by rw[hW1];exact heap_alloc_new w.drew _
  have f2:w.grownBy W1 aK:=⟨by rw[hW1];rfl,by rw[hW1];rfl,by rw[hW1];rfl,by rw[hW1];simp,fun j hj _=>by rw[hW1];first|exact vW w.drew _ j hj|exact heap_alloc_old w.drew _ hj⟩
  have hr1:=hr 209;rw[<-hW1] at hr1;have hk0:¬((k:Int)=0):=by omega
  have hk1:(0:Int)<k:=by omega
  clear hROW hr hG hW1;go_enter yA,wY
  go_wp2_with (first
   |(at_builtin;refine jT _ rfl _ _ _ _ rfl _ _ rfl rfl _ _ hr1 ?_))
  go_ret
  exact ⟨_,rfl,⟨by simp,.inr ⟨w.heap.size,G,ROW,rfl,gX _,f1,gX _,hGm,hRs,by simp⟩⟩,f2,fun b hb=>by simp[Ah] at hb;omega⟩
theorem asL:∀g e te,anF g=ay e->mM.get e=ay te->wZ aB g/\aij aB g e te.size te.bytes:=fun g e te h ht=>by
 unfold anF at h;split at h
 ·cases h
  rw[an4] at ht;cases ht;exact ⟨GI jf jH 182 (by kernel_rfl),aq0⟩
 ·cases h
theorem asM:∀g e te,aiE g=ay e->mM.get e=ay te->wZ aB g/\aem aB g e te.size te.bytes:=fun g e te h ht=>by
 unfold aiE at h;split at h
 ·cases h
  rw[an4] at ht;cases ht;exact ⟨GI jf jH 208 (by kernel_rfl),an5⟩
 ·cases h
theorem XK.UK{spec:Nat->Option (List Sh->Tree Sh)}{stop:Nat->List Nat->Bool}(hs:∀g F,spec g=ay F->Aq aB (AY W7) g F)(he:∀g,(spec g).isSome=aC->(Tryz.fns.get g).isSome=aC):Bz aB (XK zV W7 spec stop):=⟨hs,(fun g h=>by
  rcases h with h|h
  ·exact GI jf jH g (he g h)
  ·exact GI jf jH g h),asL,asM⟩
theorem an6(stop:Nat->List Nat->Bool):Bz aB (XK zV W7 IL stop):=XK.UK an3 fun g h=>by
 unfold IL at h;split at h;all_goals first|(cases h;done) |kernel_rfl
theorem WC{b:Nat}{l:Nat->List Sh}{key:Int}(h1:Hf b l=aC)(h:F9 b l key=aC):BM (lst Pr b l) key<b:=by
 obtain ⟨_,_,h3⟩:=Hg.1 h1;obtain ⟨h4,_⟩:=OW (GK h3) h;simpa using h4
theorem avr:Aq aB (AY W7) 184 anX:=by
 refine DT (C:=C7 zV W7 IL Am) (cZ _ _) (aq3 _) (m:=300) (n:=400) (L:=L0) (fn:=zy) (by kernel_rfl) (by kernel_rfl) fun H w AX args φ hrep h=>?_
 have hn:zy.ntmps=21:=by kernel_rfl
 unfold anX at h;split at h
 ·rename_i x y s2 s3 key
  split at h
  ·rename_i z b l hs2 hs
   obtain ⟨a,hh⟩:=z;obtain ⟨h1,h2,hφ⟩:=h;match args,hrep with
   |[v,u1],⟨hv,r1,_⟩=>
    obtain ⟨q1,q2⟩:=RV h1;refine ⟨[.agg [.i .i64 x,.i .i64 y,.sl 1 a hh,.sl 2 b (zW (zY (α:=Pr) l))],.i .i64 key],⟨RU hs2 hs (Hg.1 h1).1 hv,r1,trivial⟩,?_⟩;rw[hn,a105 zV W7 x y a b hh (zY l) key,(q2 key).1,(q2 key).2];have e:zV.toN (BA b l key)=BM (lst Pr b l) key:=rfl;refine ⟨q1,h2,fun h=>⟨?_,BH (s':=.Aj [.i .i64 (QE b l key),.i .i64 (OU b l key)]) ⟨?_,?_,trivial⟩ hφ⟩,fun h=>BH (s':=.Aj [.i .i64 (QE b l key),.i .i64 (OU b l key)]) ⟨?_,?_,trivial⟩ hφ⟩
    ·have:=WC h1 h
     simp[Bj,BA];exact this
    ·show aW _ _=_;simp[QE,h]
    ·show aW _ _=_;rw[e];simp[OU,h]
    ·show aW _ _=_;simp[QE,h]
    ·show aW _ _=_;simp[OU,h]
  ·exact h.elim
 ·exact h.elim
def an7:List Sh->Tree Sh
 |[.agg [.i .i64 x,.i .i64 y,s2,s3],u,t]=>match DJ 1 s2,DJ 2 s3,AZ u,AZ t with
  |some (a,h),ay (b,l),ay key,ay _=>.need (Hf b l) (.need (Em key) (.leaf (.Aj [.agg [.i .i64 x,.i .i64 y,.sl 1 a h,.sl 2 b l],.i .i64 (Lr (lst Pr b l) key),.i .i64 (KN (lst Pr b l) key)]))) |_,_,_,_=>.fail
 |_=>.fail
def an8:List Sh->Tree Sh
 |[.agg [.i .i64 x,.i .i64 y,s2,s3],u,t]=>match DJ 1 s2,DJ 2 s3,AZ u,AZ t with
  |some (a,h),ay (b,l),ay key,ay v=>.need (Hf b l) (.need (Em key) (.need (Bo (b+1) 16) (.leaf (.Aj [.agg [.i .i64 x,.i .i64 y,.sl 1 a h,.sl 2 (len (EP (lst Pr b l) key v)) (zW (nth (EP (lst Pr b l) key v)))],.i .i64 1,.i .i64 0])))) |_,_,_,_=>.fail
 |_=>.fail
def an9:List Sh->Tree Sh
 |[.agg [.i .i64 x,.i .i64 y,s2,s3],u,t]=>match DJ 1 s2,DJ 2 s3,AZ u,AZ t with
  |some (a,h),ay (b,l),ay key,ay v=>.need (Hf b l) (.need (Em key) (.need (Bo (b+1) 16) (.leaf (.Aj [.agg [.i .i64 x,.i .i64 y,.sl 1 a h,.sl 2 (len (FN (lst Pr b l) key)) (zW (nth (FN (lst Pr b l) key)))],.i .i64 (Lr (lst Pr b l) key),.i .i64 (KN (lst Pr b l) key)])))) |_,_,_,_=>.fail
 |_=>.fail
theorem avs:Aq aB (AY W7) 179 an8:=by
 refine DT (C:=XK zV W7 IL Am) (zA _ _) (an6 _) (m:=300) (n:=400) (L:=L0) (fn:=zB) (by kernel_rfl) (by kernel_rfl) fun H w AX args φ hrep h=>?_
 have hn:zB.ntmps=38:=by kernel_rfl
 unfold an8 at h;split at h
 ·rename_i x y s2 s3 u t
  split at h
  ·rename_i a hh b l key vv hs2 hs hu ht
   obtain ⟨h1,h2,h3,hφ⟩:=h;match args,hrep with
   |[v,u1,u2],⟨hv,r1,r2,_⟩=>
    obtain ⟨q1,q2⟩:=RV h1;obtain ⟨w1,w2,w3⟩:=Hg.1 h1;have hso:=GK w3;refine ⟨[.agg [.i .i64 x,.i .i64 y,.sl 1 a hh,.sl 2 b (zW (zY (α:=Pr) l))],.i .i64 key,.i .i64 vv],⟨RU hs2 hs w1 hv,Ei hu r1,Ei ht r2,trivial⟩,?_⟩;rw[hn,avp zV W7 x y a b hh (zY l) key vv,Qa b,Qb,(q2 key).1,(q2 key).2];have hll:(lst Pr b l).length=b:=E5 b l;have hat:∀j (hj:j<b),nth (lst Pr b l) j=zY (α:=Pr) l j:=fun j hj=>RF hj
    have e:zV.toN (BA b l key)=BM (lst Pr b l) key:=rfl;have avt:BM (lst Pr b l) key<=b:=by have:=RS (lst Pr b l) key;rw[hll] at this;exact this
    have hup:zV.upTo (BA b l key) b=aC:=by simp[J5,BA];omega
    have r0:zV.room b 16=aC:=KJ h3 (vN b);have fin (n':Nat) (g':Nat->List Sh) (hn':n'=len (EP (lst Pr b l) key vv)) (hg:∀j,j<n'->g' j=zW (nth (EP (lst Pr b l) key vv)) j) :
      up φ (.Aj [.agg [.i .i64 x,.i .i64 y,.sl 1 a hh,.os 272 2 n' g'],.i .i64 (ah 1),.i .i64 (ah 0)]):=
     BH (s':=.Aj [.agg [.i .i64 x,.i .i64 y,.sl 1 a hh,.sl 2 (len (EP (lst Pr b l) key vv)) (zW (nth (EP (lst Pr b l) key vv)))],.i .i64 1,.i .i64 0]) ⟨⟨rfl,rfl,.inr ⟨rfl,rfl,fun _ _=>rfl⟩,.inr ⟨rfl,hn',hg⟩,trivial⟩,rfl,rfl,trivial⟩ hφ
    have hput (hb:F9 b l key=aC):len (EP (lst Pr b l) key vv)=b:=by
     have hb:D9 (lst Pr b l) key=aC:=hb;show (EP (lst Pr b l) key vv).length=b;rw[abf,if_pos hb,hll]
    have aoa (hb:F9 b l key=ak):len (EP (lst Pr b l) key vv)=b+1:=by
     have hb:D9 (lst Pr b l) key=ak:=hb;show (EP (lst Pr b l) key vv).length=b+1;rw[abf,if_neg (by rw[hb];simp),hll]
    have yes (hb:F9 b l key=aC):zV.inB (BA b l key) b=aC/\up φ (.Aj [.agg [.i .i64 x,.i .i64 y,.sl 1 a hh,.os 272 2 b (zV.upd (zW (zY (α:=Pr) l)) (zV.toN (BA b l key)) 1 [.i .i64 vv])],.i .i64 (ah 1),.i .i64 (ah 0)]):=by
     have hlt:=WC h1 hb;refine ⟨by simp[Bj,BA];omega,fin b _ (hput hb).symm fun j hj=>?_⟩;have hb':D9 (lst Pr b l) key=aC:=hb;obtain ⟨k1,k2⟩:=OW hso hb';rw[ads,e];show _=prR (nth (EP (lst Pr b l) key vv) j);rw[aeN hb',anZ k1 (by rw[hll];exact hj)];by_cases ej:j=BM (lst Pr b l) key
     ·rw[if_pos ej,if_pos ej]
      have hk:(zY (α:=Pr) l (BM (lst Pr b l) key)).key=key:=by rw[<-hat _ hlt,abe k1];exact k2
      subst ej;simp[zW,Row.put,prR,hk]
     ·rw[if_neg ej,if_neg ej,hat j hj];rfl
    have no (hb:F9 b l key=ak):up φ (.Aj [.agg [.i .i64 x,.i .i64 y,.sl 1 a hh,.os 272 2 (zV.addN b 1) (zV.ins (zW (zY (α:=Pr) l)) (zV.toN (BA b l key)) [.i .i64 key,.i .i64 vv])],.i .i64 (ah 1),.i .i64 (ah 0)]):=by
     refine fin (b+1) _ (aoa hb).symm fun j hj=>?_
     have hb':D9 (lst Pr b l) key=ak:=hb;rw[e];show (if j<_ then _ else if j=_ then _ else _)=prR (nth (EP (lst Pr b l) key vv) j);rw[aeM hb',an0 (by rw[hll];exact avt) (by rw[hll];exact hj)];split
     ·rw[hat j (by omega)];rfl
     ·split
      ·rfl
      ·rw[hat (j - 1) (by omega)];rfl
    refine ⟨fun h0=>⟨?_,?_⟩,fun _=>?_⟩
    ·
     have hb0:b=0:=by simp[XO] at h0;exact h0
     subst hb0;have hnil:∀g':Nat->List Sh,lst Pr 0 g'=[]:=fun _=>rfl
     have wf0:Hf 0 (fun _=>[])=aC:=by unfold Hf;rw[hnil];rfl
     have hh0:F9 0 (fun _=>[]) key=ak:=by unfold F9;rw[hnil];rfl
     have hh1:F9 0 l key=ak:=by unfold F9;rw[hnil];rfl
     have hp0:BA 0 (fun _=>[]) key=0:=by unfold BA;rw[hnil];rfl
     refine ⟨wf0,h2,fun hx=>(by rw[hh0] at hx;cases hx),fun _=>⟨by rw[hp0];rfl,h3,?_⟩⟩;refine fin 1 _ (aoa hh1).symm fun j hj=>?_
     obtain rfl:j=0:=by omega
     rw[hp0];show [aW .i64 key,.i .i64 vv]=prR (nth (EP [] key vv) 0);rfl
    all_goals exact ⟨r0,q1,h2,fun hb=>yes hb,fun hb=>⟨hup,h3,no hb⟩⟩
  ·exact h.elim
 ·exact h.elim
theorem aq4(stop:Nat->List Nat->Bool):Bz aB (XK zV W7 RP stop):=XK.UK (fun g F h=>by
  unfold RP at h;split at h
  ·cases h;exact fun H w AX args φ _ _ _ h=>h.elim
  ·cases h) fun g h=>by
 unfold RP at h;split at h;all_goals first|(cases h;done) |kernel_rfl
theorem avu:Aq aB (AY W7) 186 anY:=by
 refine FM (C:=XK zV W7 RP Ak) (zA _ _) (fn:=zC) (by kernel_rfl) (by kernel_rfl) fun H w AX args φ hrep h=>?_
 have hn:zC.ntmps=36:=by kernel_rfl
 unfold anY at h;split at h
 ·rename_i g
  split at h
  ·rename_i n g1 m g2 h0 h1
   obtain ⟨hr,hφ⟩:=h;match args,hrep with
   |[v],⟨hv,_⟩=>
    refine ⟨[.sl 1 2 (AQ [[.sl 2 n g1],[.sl 2 m g2]])],⟨Ep hv fun j hj=>?_,trivial⟩,L0,G9 (zA _ _) (aq4 _) (hold:=Bg) (m:=300) (n:=400) (ts:=[]) ?_⟩
    ·have:j=0\/j=1:=by omega
     rcases this with rfl|rfl
     ·rw[h0];rfl
     ·rw[h1];rfl
    ·rw[hn,a107 zV W7 n m g1 g2]
     have hr:zV.room (n+m) 16=aC:=hr;obtain ⟨hr1,hr2⟩:=Fa hr;rw[maxLen_eq] at hr2;have e0:zV.add .i64 (ah 0) (zV.Az n)=(n:Int):=by
      rw[Df,Ar];show aT.wrap (0+(n:Int))=n;rw[Int.zero_add];exact BL (by omega) (by omega)
     have e1:zV.add .i64 (n:Int) (zV.Az m)=((n+m:Nat):Int):=by
      rw[Df,Ar,BL (by omega) (by omega)];omega
     rw[e0,e1];have ng (k:Nat):zV.lt (k:Int) (ah 0)=ak:=by simp[Aa]
     have r0:zV.room (zV.addN 0 n) 16=aC:=by rw[Qa];exact KJ hr (Nat.le_add_right n m)
     have r1:zV.room (zV.addN (zV.addN 0 n) m) 16=aC:=by rw[Qa];exact hr
     have le:zV.le (ah 0) ((n+m:Nat):Int)=aC:=by simp[Dw];omega
     have fin:=BH (φ:=φ) (s:=.os 272 2 (zV.addN (zV.addN 0 n) m) (zV.snoc (zV.snoc (fun (x:Nat)=>[]) 0 g1) (zV.addN 0 n) g2)) (s':=.sl 2 (NK n m) (adv g1 n g2)) (.inr ⟨rfl,by rw[Qa];rfl,fun j hj=>by rw[Qa,Qb];rfl⟩);exact ⟨fun _=>⟨rfl,fun h=>(by rw[ng] at h;cases h),fun _=>⟨fun _=>⟨rfl,fun h=>(by rw[ng] at h;cases h),fun _=>⟨fun h=>(by cases h),fun _=>⟨le,hr,fun _=>⟨rfl,r0,fun _=>⟨rfl,r1,fun h=>(by cases h),fun _=>fin hφ⟩,fun h=>(by cases h)⟩,fun h=>(by cases h)⟩⟩⟩,fun h=>(by cases h)⟩⟩,fun h=>(by cases h)⟩
  ·exact h.elim
 ·exact h.elim
end Go.Proofs
namespace Go.Pl
open Go Go.Sx Go.Proofs
def J6(op:Int)(b:Nat)(l:Nat->List Sh):Bool:=!decide (Lm op=4)||(Hf b l&&Bo (b+1) 16)
end Go.Pl
namespace Go.Proofs
open Go Go.Sx Go.Pl
theorem asN:∀g F,EN g=ay F->Aq aB (AY W7) g F:=fun g F h=>by
 unfold EN at h;split at h
 ·cases h;exact ar0
 ·cases h;exact avr
 ·cases h;exact avu
 ·cases h
theorem akj(stop:Nat->List Nat->Bool):Bz aB (C7 zV W7 EN stop):=lQ asN fun g h=>by
 unfold EN at h;split at h;all_goals first|(cases h;done) |kernel_rfl
theorem adw{b:Nat}{l:Nat->List Sh}(h:Hf b l=aC)(key:Int):QE b (zW (zY (α:=Pr) l)) key=Lr (lst Pr b l) key/\OU b (zW (zY (α:=Pr) l)) key=KN (lst Pr b l) key:=by
 have e:lst Pr b (zW (zY (α:=Pr) l))=lst Pr b l:=by rw[RG];rfl
 obtain ⟨h1,h2,h3⟩:=Hg.1 h;refine ⟨by unfold QE Lr F9;rw[e],?_⟩;rw[an2 (by rw[e];exact h3),e]
theorem avv:Aq aB (AY W7) 183 an7:=by
 refine DT (C:=C7 zV W7 EN Am) (cZ _ _) (akj _) (m:=300) (n:=400) (L:=L0) (fn:=zD) (by kernel_rfl) (by kernel_rfl) fun H w AX args φ hrep h=>?_
 have hn:zD.ntmps=20:=by kernel_rfl
 unfold an7 at h;split at h
 ·rename_i x y s2 s3 u t
  split at h
  ·rename_i a hh b l key vv hs2 hs hu ht
   obtain ⟨h1,h2,hφ⟩:=h;match args,hrep with
   |[v,u1,u2],⟨hv,r1,r2,_⟩=>
    obtain ⟨q1,q2⟩:=RV h1;obtain ⟨e1,e2⟩:=adw h1 key;refine ⟨[.agg [.i .i64 x,.i .i64 y,.sl 1 a hh,.sl 2 b (zW (zY (α:=Pr) l))],.i .i64 key,.i .i64 vv],⟨RU hs2 hs (Hg.1 h1).1 hv,Ei hu r1,Ei ht r2,trivial⟩,?_⟩;rw[hn,avo zV W7 x y a b hh (zY l) key vv,e1,e2];exact ⟨q1,h2,BH (s':=.Aj [.agg [.i .i64 x,.i .i64 y,.sl 1 a hh,.sl 2 b l],.i .i64 (Lr (lst Pr b l) key),.i .i64 (KN (lst Pr b l) key)]) ⟨⟨rfl,rfl,.inr ⟨rfl,rfl,fun _ _=>rfl⟩,.inr ⟨rfl,rfl,fun j hj=>(IU (Hg.1 h1).1 j hj).symm⟩,trivial⟩,rfl,rfl,trivial⟩ hφ⟩
  ·exact h.elim
 ·exact h.elim
theorem avw:Aq aB (AY W7) 185 an9:=by
 refine DT (C:=C7 zV W7 EN Am) (cZ _ _) (akj _) (m:=600) (n:=800) (L:=L0) (fn:=zF) (by kernel_rfl) (by kernel_rfl) fun H w AX args φ hrep h=>?_
 have hn:zF.ntmps=41:=by kernel_rfl
 unfold an9 at h;split at h
 ·rename_i x y s2 s3 u t
  split at h
  ·rename_i a hh b l key vv hs2 hs hu ht
   obtain ⟨h1,h2,h3,hφ⟩:=h;match args,hrep with
   |[v,u1,u2],⟨hv,r1,r2,_⟩=>
    obtain ⟨q1,q2⟩:=RV h1;obtain ⟨e1,e2⟩:=adw h1 key;obtain ⟨w1,w2,w3⟩:=Hg.1 h1;refine ⟨[.agg [.i .i64 x,.i .i64 y,.sl 1 a hh,.sl 2 b (zW (zY (α:=Pr) l))],.i .i64 key,.i .i64 vv],⟨RU hs2 hs w1 hv,Ei hu r1,Ei ht r2,trivial⟩,?_⟩;have hll:(lst Pr b l).length=b:=E5 b l;have hat:∀j (hj:j<b),nth (lst Pr b l) j=zY (α:=Pr) l j:=fun j hj=>RF hj
    have e:zV.toN (BA b l key)=BM (lst Pr b l) key:=rfl;have e1':zV.toN (zV.add .i64 (BA b l key) (ah 1))=BM (lst Pr b l) key+1:=by
     have:BM (lst Pr b l) key<=b:=by have:=RS (lst Pr b l) key;rw[hll] at this;exact this
     rw[Df];show (aT.wrap ((BM (lst Pr b l) key:Int)+1)).toNat=_;rw[BL (by omega) (by omega)];omega
    have e1i:F9 b l key=aC->zV.upTo (zV.add .i64 (BA b l key) (ah 1)) b=aC:=fun hb=>by
     have:=WC h1 hb;rw[Df];show zV.upTo (aT.wrap ((BM (lst Pr b l) key:Int)+1)) b=aC;rw[BL (by omega) (by omega)];simp[J5];omega
    have hup:zV.upTo (BA b l key) b=aC:=by
     have:BM (lst Pr b l) key<=b:=by have:=RS (lst Pr b l) key;rw[hll] at this;exact this
     simp[J5,BA];omega
    rw[hn,avq zV W7 x y a b hh (zY l) key vv,e1,e2,(q2 key).1,(q2 key).2];have fin (n':Nat) (g':Nat->List Sh) (hn':n'=len (FN (lst Pr b l) key)) (hg:∀j,j<n'->g' j=zW (nth (FN (lst Pr b l) key)) j) :
      up φ (.Aj [.agg [.i .i64 x,.i .i64 y,.sl 1 a hh,.sl 2 n' g'],.i .i64 (Lr (lst Pr b l) key),.i .i64 (KN (lst Pr b l) key)]):=
     BH (s':=.Aj [.agg [.i .i64 x,.i .i64 y,.sl 1 a hh,.sl 2 (len (FN (lst Pr b l) key)) (zW (nth (FN (lst Pr b l) key)))],.i .i64 (Lr (lst Pr b l) key),.i .i64 (KN (lst Pr b l) key)]) ⟨⟨rfl,rfl,.inr ⟨rfl,rfl,fun _ _=>rfl⟩,.inr ⟨rfl,hn',hg⟩,trivial⟩,rfl,rfl,trivial⟩ hφ
    have hdl:len (FN (lst Pr b l) key)=if D9 (lst Pr b l) key=aC then b - 1 else b:=by
     show (FN (lst Pr b l) key).length=_;rw[agO w3,hll]
    refine ⟨q1,h2,q1,h2,fun hb=>?_,fun hb=>?_⟩
    ·have avx:=e1i hb
     have hlt:=WC h1 hb;have hb':D9 (lst Pr b l) key=aC:=hb;have rr:Bo (NK (zV.toN (BA b l key)) (zV.Jm b (zV.toN (zV.add .i64 (BA b l key) (ah 1))))) 16=aC:=by
      rw[e,e1',aa4];exact KJ h3 (by show BM (lst Pr b l) key+(b - (BM (lst Pr b l) key+1))<=b+1;omega)
     have last:up φ (.Aj [.agg [.i .i64 x,.i .i64 y,.sl 1 a hh,.sl 2 (NK (zV.toN (BA b l key)) (zV.Jm b (zV.toN (zV.add .i64 (BA b l key) (ah 1))))) (adv (zW (zY (α:=Pr) l)) (zV.toN (BA b l key)) fun (j:Nat)=>zW (zY (α:=Pr) l) (zV.addN (zV.toN (zV.add .i64 (BA b l key) 1)) j))],.i .i64 (Lr (lst Pr b l) key),.i .i64 (KN (lst Pr b l) key)]):=by
      have e2':zV.toN (zV.add .i64 (BA b l key) 1)=BM (lst Pr b l) key+1:=e1';rw[e1',e2',e,aa4];refine fin _ _ (by rw[hdl,if_pos hb'];show BM (lst Pr b l) key+(b - (BM (lst Pr b l) key+1))=_;omega) fun j hj=>?_
      have hj:j<BM (lst Pr b l) key+(b - (BM (lst Pr b l) key+1)):=hj;obtain ⟨k1,_⟩:=OW (GK w3) hb';show zV.snoc _ _ _ j=prR (nth (FN (lst Pr b l) key) j);rw[aeP hb',an1 k1 (by rw[hll];omega),Ed];split
      ·rw[hat j (by omega)];rfl
      ·rw[hat (j+1) (by omega),Di]
       show prR (zY l (BM (lst Pr b l) key+1+(j - BM (lst Pr b l) key)))=_;rw[show BM (lst Pr b l) key+1+(j - BM (lst Pr b l) key)=j+1 by omega]
     clear hφ fin hat;rw[hup,avx,rr];generalize zV.toN (BA b l key)=n1 at *;generalize zV.Jm b (zV.toN (zV.add .i64 (BA b l key) (ah 1)))=n2 at *;repeat' (first|exact rfl|exact trivial|exact last|refine And.intro ?_ ?_)
    ·have hb':D9 (lst Pr b l) key=ak:=hb
     exact fin b _ (by rw[hdl,if_neg (by rw[hb'];simp)]) fun j hj=>by
      show prR (zY l j)=prR (nth (FN (lst Pr b l) key) j);rw[aeO hb',hat j hj]
  ·exact h.elim
 ·exact h.elim
end Go.Proofs
namespace Go.Sx
section
variable{P:Program}{C:Ctx}{K:Kx}
theorem alx{g:Nat}{td:List It}{c:Core}{stk:List Fr}{R:Hp->Prop}{φ:Sh->Prop}(tm':List SV)(h:∀(H:Mem) (E:Env) (vs:List Value),Af H E c.tm vs->Af H E tm' vs)(hgo:Bc P C K g td {c with tm:=tm'} stk R φ):Bc P C K g td c stk R φ:=by
 intro H E w a items ms cs fn hfn st hi hs hx;exact hgo H E w a items ms cs fn hfn ⟨h H E _ st.den,st.hp,st.BI,st.free,st.gl,st.defers⟩ hi hs hx
theorem agP{H:Mem}{E:Env}{k:IntKind}{n:Int}:∀(i:Nat) {l:List SV} {vs:List Value},l[i]?=ay (.sym k n)->Af H E l vs->Af H E (l.set i (.int k n)) vs
 |_,[],_,h,_=>by simp at h |_,_::_,[],_,h=>h.elim |0,x::l,v::vs,h,⟨h1,h2⟩=>by
  simp at h;subst h;exact ⟨h1,h2⟩
 |i+1,x::l,v::vs,h,⟨h1,h2⟩=>⟨h1,agP i (by simpa using h) h2⟩
end
end Go.Sx
namespace Go.Pl
open Go Go.Sx
def JL(a b:Int):Int:=aT.wrap (a+b)
def NM(h:Nat->List Sh):Nat->List Sh:=fun j=>h (1+j)
def Qh(a:Nat):Nat:=a - 1
def TT(a:Nat):Int:=if a=0 then 2 else 3
def Qi(a:Nat)(o:Nat->Int):Int:=if a=0 then 0 else o 0
end Go.Pl
namespace Go.Proofs
open Go Go.Sx Go.Pl
def F66:List Sh->Tree Sh
 |[t]=>match AZ t with
  |some op=>.leaf (.i .i64 (Lm op)) |none=>.fail
 |_=>.fail
def F67:List Sh->Tree Sh
 |[t]=>match AZ t with
  |some op=>.leaf (.b (keyed op)) |none=>.fail
 |_=>.fail
def F68:List Sh->Tree Sh
 |[t]=>match AZ t with
  |some op=>.leaf (.b (valued op)) |none=>.fail
 |_=>.fail
def F69:List Sh->Tree Sh
 |[t,u,v]=>match AZ t,AZ u,AZ v with
  |some k,ay x,ay y=>.leaf (.b (IK k x y)) |_,_,_=>.fail
 |_=>.fail
def F94:List Sh->Tree Sh
 |[.agg [.i .i64 x,.i .i64 y,s2,s3],u,t]=>match DJ 1 s2,DJ 2 s3,AZ u,AZ t with
  |some (a,h),ay (b,l),ay _,ay _=>.leaf (.Aj [.agg [.i .i64 x,.i .i64 y,.sl 1 a h,.sl 2 b l],.i .i64 3,.i .i64 y]) |_,_,_,_=>.fail
 |_=>.fail
def F95:List Sh->Tree Sh
 |[.agg [.i .i64 x,.i .i64 _,s2,s3],u,t]=>match DJ 1 s2,DJ 2 s3,AZ u,AZ t with
  |some (a,h),ay (b,l),ay _,ay v=>.leaf (.Aj [.agg [.i .i64 x,.i .i64 v,.sl 1 a h,.sl 2 b l],.i .i64 1,.i .i64 0]) |_,_,_,_=>.fail
 |_=>.fail
def F96:List Sh->Tree Sh
 |[.agg [.i .i64 x,.i .i64 y,s2,s3],u,t]=>match DJ 1 s2,DJ 2 s3,AZ u,AZ t with
  |some (a,h),ay (b,l),ay _,ay v=>.leaf (.Aj [.agg [.i .i64 x,.i .i64 (JL y v),.sl 1 a h,.sl 2 b l],.i .i64 1,.i .i64 0]) |_,_,_,_=>.fail
 |_=>.fail
def F97:List Sh->Tree Sh
 |[.agg [.i .i64 x,.i .i64 y,s2,s3],u,t]=>match DJ 1 s2,DJ 2 s3,AZ u,AZ t with
  |some (a,h),ay (b,l),ay _,ay v=>.need (Bo (a+1) 8) (.leaf (.Aj [.agg [.i .i64 x,.i .i64 y,.sl 1 (a+1) (FY a h [.i .i64 v]),.sl 2 b l],.i .i64 1,.i .i64 0])) |_,_,_,_=>.fail
 |_=>.fail
def F99:List Sh->Tree Sh
 |[.agg [.i .i64 x,.i .i64 y,s2,s3],u,t]=>match DJ 1 s2,DJ 2 s3,AZ u,AZ t with
  |some (a,h),ay (b,l),ay _,ay _=>.need (okB Int a h) (.leaf (.Aj [.agg [.i .i64 x,.i .i64 y,.sl 1 (Qh a) (NM h),.sl 2 b l],.i .i64 (TT a),.i .i64 (Qi a (zY h))])) |_,_,_,_=>.fail
 |_=>.fail
def GV:Nat->Option (List Sh->Tree Sh)
 |102=>ay F66 |151=>ay F67 |152=>ay F68 |153=>ay F69 |173=>ay F94 |174=>ay F95 |175=>ay F96 |176=>ay F97 |178=>ay F99 |179=>ay an8 |183=>ay an7 |185=>ay an9 |_=>aK
def akk:List Nat->List Nat->Bool
 |[],[]=>aC |x::l,y::r=>fB x y&&akk l r |_,_=>ak
def aob(f:Nat)(ps:List (List Nat))(g:Nat)(td:List It):Bool:=fB g f&&match td with
 | .code r::_=>ps.any (akk r) |_=>ak
def agQ:Nat->List It->Bool:=aob 120 [[0,1,1,1,1]]
def L42(x y:Int)(a b:Nat)(h l:Nat->List Sh)(op k v:Int):Core:={tm:=Gs 88 [(1,.sym .i64 op),(2,.sym .i64 k),(3,.sym .i64 v),(4,.ptr 0 0),(8,.ptr 1 0)],hp:=[(0,.box [.sym .i64 x,.sym .i64 y,.sh (.sl 1 a h),.sh (.sl 2 b l)] 211),(1,.box [.int .i64 0,.int .i64 0,.Aw,.Aw] 211)],nx:=2,lim:=L0,tc:=[]}
def TU(x y:Int)(a b:Nat)(h l:Nat->List Sh)(n:Int)(k v:Int):Core:={tm:=(L42 x y a b h l n k v).tm.set 1 (.int .i64 n),hp:=(L42 x y a b h l n k v).hp,nx:=2,lim:=L0,tc:=[]}
def Nk:List It:=[bF [0,1,1,1,1],bF [1,1,1,1,1]]
noncomputable def Qj:Nat->Option (List Sh->Tree Sh)
 |119=>ay F33 |116=>ay F35 |95=>ay F41 |77=>ay F49 |96=>ay F50 |121=>ay F54 |117=>ay F56 |_=>aK
def YV:List It:=[bF [0,1,0,1,1,1],dA 0,bF [1,1,1,1]]
def akl:List It:=bF [0,0,1,0,1,1,1]::YV
def avy(k:Nat)(gg:Nat->List Sh):Bool->SV
 |true=>.Aw |false=>.sh (.sl 4 k gg)
def WE(n:Nat)(o:Nat->Oj)(i:Int)(k:Nat)(gg:Nat->List Sh)(v:Bool):Core:={tm:=Gs 38 [(2,.ptr 0 0),(5,.ptr 1 0),(17,.sh (.sl 2 n (zW o))),(18,.sym .i64 (n:Int)),(19,.sym .i64 i)],hp:=[(0,.box [.Aw] 100),(1,.box [avy k gg v] 98)],nx:=2,lim:=L0,tc:=[]}
theorem a25(A:Prim)(W:Wd)(n:Nat)(o:Nat->Oj)(i':Int)(k':Nat)(H7:Nat->List Sh):AP (C7 A W Qj Am) Bg 300 400 75 [.code []] (zZ 38 [.sl 2 n (zW o)] L0) [] [⟨75,YV,WE n o i' k' H7 aC,[]⟩]=aI (okB Oj n (zW o)) (aI (Qd n (zY (zW o))) (aF (RI n) (aA (aO (cO [bM [aG 0 0 fun (x:Nat)=>[]],aZ 6 329]))) (aF (Nh n (zY (zW o))) (aA (bJ 0 [aP (aG 2 n (zW o)) (aG 2 n (zW o)),aj (A.Az n) (ah n),aj (ah 0) i'])) (aA (aO (cO [bM [aG 0 0 fun (x:Nat)=>[]],Sh.CG 109 (Sh.pt [aW .i64 (ah (KL n (zY (zW o)))),aZ 7 329])])))))):=by kernel_rfl
theorem b25(A:Prim)(W:Wd)(n:Nat)(o:Nat->Oj)(i i':Int)(k k':Nat)(gg H7:Nat->List Sh):AP (C7 A W Qj Am) Bg 300 400 75 akl (WE n o i k gg ak) [] [⟨75,YV,WE n o i' k' H7 ak,[]⟩]=aF (A.lt i (ah n)) (aI (A.inB i n) (aI (CQ (o (A.toN i)).kind) (aF (EM (o (A.toN i)).kind (o (A.toN i)).init) (aA (aO (cO [bM [aG 0 0 fun (x:Nat)=>[]],aZ 7 329]))) (aI (Bo k.succ 64) (aA (bJ 0 [aP (aG 2 n (zW o)) (aG 2 n (zW o)),aj (ah n) (ah n),aj (A.add .i64 i (ah 1)) i',aP (aG 4 k.succ (FY k gg [aW .i64 (o (A.toN i)).kind,aW .i64 (o (A.toN i)).init,aG 1 0 noI,aG 2 0 noP])) (aG 4 k' H7)])))))) (aA (aO (cO [bM [aG 4 k gg],jB bI]))):=by kernel_rfl
theorem c25(A:Prim)(W:Wd)(n:Nat)(o:Nat->Oj)(i i':Int)(k k':Nat)(gg H7:Nat->List Sh):AP (C7 A W Qj Am) Bg 300 400 75 akl (WE n o i k gg aC) [] [⟨75,YV,WE n o i' k' H7 ak,[]⟩]=aF (A.lt i (ah n)) (aI (A.inB i n) (aI (CQ (o (A.toN i)).kind) (aF (EM (o (A.toN i)).kind (o (A.toN i)).init) (aA (aO (cO [bM [aG 0 0 fun (x:Nat)=>[]],aZ 7 329]))) (aI (Bo 1 64) (aA (bJ 0 [aP (aG 2 n (zW o)) (aG 2 n (zW o)),aj (ah n) (ah n),aj (A.add .i64 i (ah 1)) i',aP (aG 4 1 (FY 0 (fun (x:Nat)=>[]) [aW .i64 (o (A.toN i)).kind,aW .i64 (o (A.toN i)).init,aG 1 0 noI,aG 2 0 noP])) (aG 4 k' H7)])))))) (aA (aO (cO [bM [aG 0 0 fun (x:Nat)=>[]],jB bI]))):=by kernel_rfl
theorem a94(A:Prim)(W:Wd)(x y:Int)(a b:Nat)(h l:Nat->List Sh)(k v:Int):AP (C7 A W Dp Am) Bg 300 400 173 [.code []] (zZ 12 [.agg [.i .i64 x,.i .i64 y,.sl 1 a h,.sl 2 b l],.i .i64 k,.i .i64 v] L0) [] []=aA (aO (cO [bM [aW .i64 x,aW .i64 y,aG 1 a h,aG 2 b l],aW .i64 (ah 3),aW .i64 y])):=by kernel_rfl
theorem a95(A:Prim)(W:Wd)(x y:Int)(a b:Nat)(h l:Nat->List Sh)(k v:Int):AP (C7 A W Dp Am) Bg 300 400 174 [.code []] (zZ 12 [.agg [.i .i64 x,.i .i64 y,.sl 1 a h,.sl 2 b l],.i .i64 k,.i .i64 v] L0) [] []=aA (aO (cO [bM [aW .i64 x,aW .i64 v,aG 1 a h,aG 2 b l],aW .i64 (ah 1),aW .i64 (ah 0)])):=by kernel_rfl
theorem a96(A:Prim)(W:Wd)(x y:Int)(a b:Nat)(h l:Nat->List Sh)(k v:Int):AP (C7 A W Dp Am) Bg 300 400 175 [.code []] (zZ 15 [.agg [.i .i64 x,.i .i64 y,.sl 1 a h,.sl 2 b l],.i .i64 k,.i .i64 v] L0) [] []=aA (aO (cO [bM [aW .i64 x,aW .i64 (A.add .i64 y v),aG 1 a h,aG 2 b l],aW .i64 (ah 1),aW .i64 (ah 0)])):=by kernel_rfl
theorem a97(A:Prim)(W:Wd)(x y:Int)(a b:Nat)(h l:Nat->List Sh)(k v:Int):AP (C7 A W Dp Am) Bg 300 400 176 [.code []] (zZ 17 [.agg [.i .i64 x,.i .i64 y,.sl 1 a h,.sl 2 b l],.i .i64 k,.i .i64 v] L0) [] []=aF (A.ZU a 0) ((aA (aO (cO [bM [aW .i64 x,aW .i64 y,jm 3 1 1 (AQ [[aW .i64 v]]),aG 2 b l],aW .i64 (ah 1),aW .i64 (ah 0)]))).both (aI (A.room (A.addN 0 a) 8) (aI (A.room (A.addN (A.addN 0 a) 1) 8) (aA (aO (cO [bM [aW .i64 x,aW .i64 y,jm 3 1 (A.addN (A.addN 0 a) 1) (A.snoc (A.snoc (AQ []) 0 h) (A.addN 0 a) (AQ [[aW .i64 v]])),aG 2 b l],aW .i64 (ah 1),aW .i64 (ah 0)])))))) (aI (A.room (A.addN 0 a) 8) (aI (A.room (A.addN (A.addN 0 a) 1) 8) (aA (aO (cO [bM [aW .i64 x,aW .i64 y,jm 3 1 (A.addN (A.addN 0 a) 1) (A.snoc (A.snoc (AQ []) 0 h) (A.addN 0 a) (AQ [[aW .i64 v]])),aG 2 b l],aW .i64 (ah 1),aW .i64 (ah 0)]))))):=by kernel_rfl
theorem a99(A:Prim)(W:Wd)(x y:Int)(a b:Nat)(o:Nat->Int)(l:Nat->List Sh)(k v:Int):AP (C7 A W Dp Am) Bg 300 400 178 [.code []] (zZ 25 [.agg [.i .i64 x,.i .i64 y,.sl 1 a (zW o),.sl 2 b l],.i .i64 k,.i .i64 v] L0) [] []=aF (A.eq (A.Az a) (ah 0)) (aA (aO (cO [bM [aW .i64 x,aW .i64 y,aG 1 a (zW o),aG 2 b l],aW .i64 (ah 2),aW .i64 (ah 0)]))) (aI (A.inB (ah 0) a) (aI (A.upTo (ah 1) a) (aA (aO (cO [bM [aW .i64 x,aW .i64 y,aG 1 (A.Jm a 1) fun (j:Nat)=>zW o (A.addN 1 j),aG 2 b l],aW .i64 (ah 3),aW .i64 (o 0)]))))):=by kernel_rfl
theorem a42(A:Prim)(W:Wd)(x y:Int)(a b:Nat)(h l:Nat->List Sh)(op k v:Int):arS (C7 A W GV Am) agQ 300 400 120 [.code []] (zZ 88 [.agg [.i .i64 x,.i .i64 y,.sl 1 a h,.sl 2 b l],.i .i64 op,.i .i64 k,.i .i64 v] L0) [] [⟨120,Nk,L42 x y a b h l op k v,[]⟩]=aF (A.eq x (ah 0)) (aA (aO (cO [bM [aW .i64 (ah 0),aW .i64 (ah 0),aG 0 0 fun (x:Nat)=>[],aG 0 0 fun (x:Nat)=>[]],aW .i64 (ah 0),aW .i64 (ah 0),aZ 8 329]))) (aF (A.nt (A.eq (Lm op) x)) (aA (aO (cO [bM [aW .i64 (ah 0),aW .i64 (ah 0),aG 0 0 fun (x:Nat)=>[],aG 0 0 fun (x:Nat)=>[]],aW .i64 (ah 0),aW .i64 (ah 0),aZ 8 329]))) (aF (A.nt (A.eq k (ah 0))) (aF (A.nt (keyed op)) (aA (aO (cO [bM [aW .i64 (ah 0),aW .i64 (ah 0),aG 0 0 fun (x:Nat)=>[],aG 0 0 fun (x:Nat)=>[]],aW .i64 (ah 0),aW .i64 (ah 0),aZ 15 329]))) (aF (A.lt k (ah 0)) (aA (aO (cO [bM [aW .i64 (ah 0),aW .i64 (ah 0),aG 0 0 fun (x:Nat)=>[],aG 0 0 fun (x:Nat)=>[]],aW .i64 (ah 0),aW .i64 (ah 0),aZ 15 329]))) (aF (A.lt (ah 1000) k) (aA (aO (cO [bM [aW .i64 (ah 0),aW .i64 (ah 0),aG 0 0 fun (x:Nat)=>[],aG 0 0 fun (x:Nat)=>[]],aW .i64 (ah 0),aW .i64 (ah 0),aZ 15 329]))) (aF (A.nt (A.eq v (ah 0))) (aF (A.nt (valued op)) (aA (aO (cO [bM [aW .i64 (ah 0),aW .i64 (ah 0),aG 0 0 fun (x:Nat)=>[],aG 0 0 fun (x:Nat)=>[]],aW .i64 (ah 0),aW .i64 (ah 0),aZ 15 329]))) (aF (A.lt v (fF 999999999)) (aA (aO (cO [bM [aW .i64 (ah 0),aW .i64 (ah 0),aG 0 0 fun (x:Nat)=>[],aG 0 0 fun (x:Nat)=>[]],aW .i64 (ah 0),aW .i64 (ah 0),aZ 15 329]))) (aF (A.lt (ah 1000000000) v) (aA (aO (cO [bM [aW .i64 (ah 0),aW .i64 (ah 0),aG 0 0 fun (x:Nat)=>[],aG 0 0 fun (x:Nat)=>[]],aW .i64 (ah 0),aW .i64 (ah 0),aZ 15 329]))) (aF (A.eq op (ah 3)) (aF (IK x (ah 0) (A.add .i64 y v)) (aA (aO (cO [bM [aW .i64 (ah 0),aW .i64 (ah 0),aG 0 0 fun (x:Nat)=>[],aG 0 0 fun (x:Nat)=>[]],aW .i64 (ah 0),aW .i64 (ah 0),aZ 15 329]))) (aA (bJ 0 [aj op op,aj k k,aj v v,aj x x,aj y y,aP (aG 1 a h) (aG 1 a h),aP (aG 2 b l) (aG 2 b l),aj (ah 0) (ah 0),aj (ah 0) (ah 0)]))) (aA (bJ 0 [aj op op,aj k k,aj v v,aj x x,aj y y,aP (aG 1 a h) (aG 1 a h),aP (aG 2 b l) (aG 2 b l),aj (ah 0) (ah 0),aj (ah 0) (ah 0)])))))) (aF (A.lt v (fF 999999999)) (aA (aO (cO [bM [aW .i64 (ah 0),aW .i64 (ah 0),aG 0 0 fun (x:Nat)=>[],aG 0 0 fun (x:Nat)=>[]],aW .i64 (ah 0),aW .i64 (ah 0),aZ 15 329]))) (aF (A.lt (ah 1000000000) v) (aA (aO (cO [bM [aW .i64 (ah 0),aW .i64 (ah 0),aG 0 0 fun (x:Nat)=>[],aG 0 0 fun (x:Nat)=>[]],aW .i64 (ah 0),aW .i64 (ah 0),aZ 15 329]))) (aF (A.eq op (ah 3)) (aF (IK x (ah 0) (A.add .i64 y v)) (aA (aO (cO [bM [aW .i64 (ah 0),aW .i64 (ah 0),aG 0 0 fun (x:Nat)=>[],aG 0 0 fun (x:Nat)=>[]],aW .i64 (ah 0),aW .i64 (ah 0),aZ 15 329]))) (aA (bJ 0 [aj op op,aj k k,aj v v,aj x x,aj y y,aP (aG 1 a h) (aG 1 a h),aP (aG 2 b l) (aG 2 b l),aj (ah 0) (ah 0),aj (ah 0) (ah 0)]))) (aA (bJ 0 [aj op op,aj k k,aj v v,aj x x,aj y y,aP (aG 1 a h) (aG 1 a h),aP (aG 2 b l) (aG 2 b l),aj (ah 0) (ah 0),aj (ah 0) (ah 0)]))))))))) (aF (A.lt k (ah 0)) (aA (aO (cO [bM [aW .i64 (ah 0),aW .i64 (ah 0),aG 0 0 fun (x:Nat)=>[],aG 0 0 fun (x:Nat)=>[]],aW .i64 (ah 0),aW .i64 (ah 0),aZ 15 329]))) (aF (A.lt (ah 1000) k) (aA (aO (cO [bM [aW .i64 (ah 0),aW .i64 (ah 0),aG 0 0 fun (x:Nat)=>[],aG 0 0 fun (x:Nat)=>[]],aW .i64 (ah 0),aW .i64 (ah 0),aZ 15 329]))) (aF (A.nt (A.eq v (ah 0))) (aF (A.nt (valued op)) (aA (aO (cO [bM [aW .i64 (ah 0),aW .i64 (ah 0),aG 0 0 fun (x:Nat)=>[],aG 0 0 fun (x:Nat)=>[]],aW .i64 (ah 0),aW .i64 (ah 0),aZ 15 329]))) (aF (A.lt v (fF 999999999)) (aA (aO (cO [bM [aW .i64 (ah 0),aW .i64 (ah 0),aG 0 0 fun (x:Nat)=>[],aG 0 0 fun (x:Nat)=>[]],aW .i64 (ah 0),aW .i64 (ah 0),aZ 15 329]))) (aF (A.lt (ah 1000000000) v) (aA (aO (cO [bM [aW .i64 (ah 0),aW .i64 (ah 0),aG 0 0 fun (x:Nat)=>[],aG 0 0 fun (x:Nat)=>[]],aW .i64 (ah 0),aW .i64 (ah 0),aZ 15 329]))) (aF (A.eq op (ah 3)) (aF (IK x (ah 0) (A.add .i64 y v)) (aA (aO (cO [bM [aW .i64 (ah 0),aW .i64 (ah 0),aG 0 0 fun (x:Nat)=>[],aG 0 0 fun (x:Nat)=>[]],aW .i64 (ah 0),aW .i64 (ah 0),aZ 15 329]))) (aA (bJ 0 [aj op op,aj k k,aj v v,aj x x,aj y y,aP (aG 1 a h) (aG 1 a h),aP (aG 2 b l) (aG 2 b l),aj (ah 0) (ah 0),aj (ah 0) (ah 0)]))) (aA (bJ 0 [aj op op,aj k k,aj v v,aj x x,aj y y,aP (aG 1 a h) (aG 1 a h),aP (aG 2 b l) (aG 2 b l),aj (ah 0) (ah 0),aj (ah 0) (ah 0)])))))) (aF (A.lt v (fF 999999999)) (aA (aO (cO [bM [aW .i64 (ah 0),aW .i64 (ah 0),aG 0 0 fun (x:Nat)=>[],aG 0 0 fun (x:Nat)=>[]],aW .i64 (ah 0),aW .i64 (ah 0),aZ 15 329]))) (aF (A.lt (ah 1000000000) v) (aA (aO (cO [bM [aW .i64 (ah 0),aW .i64 (ah 0),aG 0 0 fun (x:Nat)=>[],aG 0 0 fun (x:Nat)=>[]],aW .i64 (ah 0),aW .i64 (ah 0),aZ 15 329]))) (aF (A.eq op (ah 3)) (aF (IK x (ah 0) (A.add .i64 y v)) (aA (aO (cO [bM [aW .i64 (ah 0),aW .i64 (ah 0),aG 0 0 fun (x:Nat)=>[],aG 0 0 fun (x:Nat)=>[]],aW .i64 (ah 0),aW .i64 (ah 0),aZ 15 329]))) (aA (bJ 0 [aj op op,aj k k,aj v v,aj x x,aj y y,aP (aG 1 a h) (aG 1 a h),aP (aG 2 b l) (aG 2 b l),aj (ah 0) (ah 0),aj (ah 0) (ah 0)]))) (aA (bJ 0 [aj op op,aj k k,aj v v,aj x x,aj y y,aP (aG 1 a h) (aG 1 a h),aP (aG 2 b l) (aG 2 b l),aj (ah 0) (ah 0),aj (ah 0) (ah 0)])))))))))):=by kernel_rfl
noncomputable def XZ(x y:Int)(a b:Nat)(h l:Nat->List Sh)(k v:Int):List Bh:=[aj k k,aj v v,aj (ah 3) (ah 3),aj y y,aj x x,aj y y,aP (aG 1 a h) (aG 1 a h),aP (aG 2 b l) (aG 2 b l),aj x x,aj y y,aP (aG 1 a h) (aG 1 a h),aP (aG 2 b l) (aG 2 b l)]
theorem asX(A:Prim)(W:Wd)(x y:Int)(a b:Nat)(h l:Nat->List Sh)(k v:Int):AP (C7 A W GV Am) Bg 300 400 120 Nk (TU x y a b h l 1 k v) [] []=aQ (XZ x y a b h l k v) (aQ (XZ x y a b h l k v) (aQ (XZ x y a b h l k v) (aA (aO (cO [bM [aW .i64 x,aW .i64 y,aG 1 a h,aG 2 b l],aW .i64 (ah 3),aW .i64 y,jB bI]))))):=by kernel_rfl
noncomputable def X0(x y:Int)(a b:Nat)(h l:Nat->List Sh)(k v:Int):List Bh:=[aj k k,aj v v,aj (ah 1) (ah 1),aj (ah 0) (ah 0),aj x x,aj y y,aP (aG 1 a h) (aG 1 a h),aP (aG 2 b l) (aG 2 b l),aj x x,aj v v,aP (aG 1 a h) (aG 1 a h),aP (aG 2 b l) (aG 2 b l)]
theorem asY(A:Prim)(W:Wd)(x y:Int)(a b:Nat)(h l:Nat->List Sh)(k v:Int):AP (C7 A W GV Am) Bg 300 400 120 Nk (TU x y a b h l 2 k v) [] []=aQ (X0 x y a b h l k v) (aQ (X0 x y a b h l k v) (aQ (X0 x y a b h l k v) (aA (aO (cO [bM [aW .i64 x,aW .i64 v,aG 1 a h,aG 2 b l],aW .i64 (ah 1),aW .i64 (ah 0),jB bI]))))):=by kernel_rfl
noncomputable def X3(x y:Int)(a b:Nat)(h l:Nat->List Sh)(k v:Int):List Bh:=[aj k k,aj v v,aj (ah 1) (ah 1),aj (ah 0) (ah 0),aj x x,aj y y,aP (aG 1 a h) (aG 1 a h),aP (aG 2 b l) (aG 2 b l),aj x x,aj (JL y v) (JL y v),aP (aG 1 a h) (aG 1 a h),aP (aG 2 b l) (aG 2 b l)]
theorem asZ(A:Prim)(W:Wd)(x y:Int)(a b:Nat)(h l:Nat->List Sh)(k v:Int):AP (C7 A W GV Am) Bg 300 400 120 Nk (TU x y a b h l 3 k v) [] []=aQ (X3 x y a b h l k v) (aQ (X3 x y a b h l k v) (aQ (X3 x y a b h l k v) (aA (aO (cO [bM [aW .i64 x,aW .i64 (JL y v),aG 1 a h,aG 2 b l],aW .i64 (ah 1),aW .i64 (ah 0),jB bI]))))):=by kernel_rfl
noncomputable def X4(x y:Int)(a b:Nat)(h l:Nat->List Sh)(k v:Int):List Bh:=[aj k k,aj v v,aj (ah 3) (ah 3),aj y y,aj x x,aj y y,aP (aG 1 a h) (aG 1 a h),aP (aG 2 b l) (aG 2 b l),aj x x,aj y y,aP (aG 1 a h) (aG 1 a h),aP (aG 2 b l) (aG 2 b l)]
theorem as1(A:Prim)(W:Wd)(x y:Int)(a b:Nat)(h l:Nat->List Sh)(k v:Int):AP (C7 A W GV Am) Bg 300 400 120 Nk (TU x y a b h l 4 k v) [] []=aQ (X4 x y a b h l k v) (aQ (X4 x y a b h l k v) (aQ (X4 x y a b h l k v) (aA (aO (cO [bM [aW .i64 x,aW .i64 y,aG 1 a h,aG 2 b l],aW .i64 (ah 3),aW .i64 y,jB bI]))))):=by kernel_rfl
noncomputable def X5(x y:Int)(a b:Nat)(h l:Nat->List Sh)(k v:Int):List Bh:=[aj k k,aj v v,aj (ah 1) (ah 1),aj (ah 0) (ah 0),aj x x,aj y y,aP (aG 1 a h) (aG 1 a h),aP (aG 2 b l) (aG 2 b l),aj x x,aj y y,aP (aG 1 a.succ (FY a h [aW .i64 v])) (aG 1 a.succ (FY a h [aW .i64 v])),aP (aG 2 b l) (aG 2 b l)]
theorem as2(A:Prim)(W:Wd)(x y:Int)(a b:Nat)(h l:Nat->List Sh)(k v:Int):AP (C7 A W GV Am) Bg 300 400 120 Nk (TU x y a b h l 5 k v) [] []=aI (Bo a.succ 8) (aI (Bo a.succ 8) (aQ (X5 x y a b h l k v) (aI (Bo a.succ 8) (aQ (X5 x y a b h l k v) (aI (Bo a.succ 8) (aQ (X5 x y a b h l k v) (aA (aO (cO [bM [aW .i64 x,aW .i64 y,aG 1 a.succ (FY a h [aW .i64 v]),aG 2 b l],aW .i64 (ah 1),aW .i64 (ah 0),jB bI]))))))))):=by kernel_rfl
noncomputable def X6(x y:Int)(a b:Nat)(h l:Nat->List Sh)(k v:Int):List Bh:=[aj k k,aj v v,aj (TT a) (TT a),aj (Qi a (zY h)) (Qi a (zY h)),aj x x,aj y y,aP (aG 1 a h) (aG 1 a h),aP (aG 2 b l) (aG 2 b l),aj x x,aj y y,aP (aG 1 (Qh a) (NM h)) (aG 1 (Qh a) (NM h)),aP (aG 2 b l) (aG 2 b l)]
theorem as3(A:Prim)(W:Wd)(x y:Int)(a b:Nat)(h l:Nat->List Sh)(k v:Int):AP (C7 A W GV Am) Bg 300 400 120 Nk (TU x y a b h l 6 k v) [] []=aI (okB Int a h) (aI (okB Int a h) (aQ (X6 x y a b h l k v) (aI (okB Int a h) (aQ (X6 x y a b h l k v) (aI (okB Int a h) (aQ (X6 x y a b h l k v) (aA (aO (cO [bM [aW .i64 x,aW .i64 y,aG 1 (Qh a) (NM h),aG 2 b l],aW .i64 (TT a),aW .i64 (Qi a (zY h)),jB bI]))))))))):=by kernel_rfl
noncomputable def X7(x y:Int)(a b:Nat)(h:Nat->List Sh)(p:Nat->Pr)(k v:Int):List Bh:=[aj k k,aj v v,aj (ah 1) (ah 1),aj (ah 0) (ah 0),aj x x,aj y y,aP (aG 1 a h) (aG 1 a h),aP (aG 2 b (zW p)) (aG 2 b (zW p)),aj x x,aj y y,aP (aG 1 a h) (aG 1 a h),aP (aG 2 (len (EP (lst Pr b (zW p)) k v)) (zW (nth (EP (lst Pr b (zW p)) k v)))) (aG 2 (len (EP (lst Pr b (zW p)) k v)) (zW (nth (EP (lst Pr b (zW p)) k v))))]
theorem as4(A:Prim)(W:Wd)(x y:Int)(a b:Nat)(h:Nat->List Sh)(p:Nat->Pr)(k v:Int):AP (C7 A W GV Am) Bg 300 400 120 Nk (TU x y a b h (zW p) 7 k v) [] []=aI (Hf b (zW p)) (aI (Em k) (aI (Bo b.succ 16) (aI (Hf b (zW p)) (aI (Em k) (aI (Bo b.succ 16) (aQ (X7 x y a b h p k v) (aI (Hf b (zW p)) (aI (Em k) (aI (Bo b.succ 16) (aQ (X7 x y a b h p k v) (aI (Hf b (zW p)) (aI (Em k) (aI (Bo b.succ 16) (aQ (X7 x y a b h p k v) (aA (aO (cO [bM [aW .i64 x,aW .i64 y,aG 1 a h,aG 2 (len (EP (lst Pr b (zW p)) k v)) (zW (nth (EP (lst Pr b (zW p)) k v)))],aW .i64 (ah 1),aW .i64 (ah 0),jB bI]))))))))))))))))):=by kernel_rfl
noncomputable def X8(x y:Int)(a b:Nat)(h:Nat->List Sh)(p:Nat->Pr)(k v:Int):List Bh:=[aj k k,aj v v,aj (Lr (lst Pr b (zW p)) k) (Lr (lst Pr b (zW p)) k),aj (KN (lst Pr b (zW p)) k) (KN (lst Pr b (zW p)) k),aj x x,aj y y,aP (aG 1 a h) (aG 1 a h),aP (aG 2 b (zW p)) (aG 2 b (zW p)),aj x x,aj y y,aP (aG 1 a h) (aG 1 a h),aP (aG 2 b (zW p)) (aG 2 b (zW p))]
theorem as5(A:Prim)(W:Wd)(x y:Int)(a b:Nat)(h:Nat->List Sh)(p:Nat->Pr)(k v:Int):AP (C7 A W GV Am) Bg 300 400 120 Nk (TU x y a b h (zW p) 8 k v) [] []=aI (Hf b (zW p)) (aI (Em k) (aI (Hf b (zW p)) (aI (Em k) (aQ (X8 x y a b h p k v) (aI (Hf b (zW p)) (aI (Em k) (aQ (X8 x y a b h p k v) (aI (Hf b (zW p)) (aI (Em k) (aQ (X8 x y a b h p k v) (aA (aO (cO [bM [aW .i64 x,aW .i64 y,aG 1 a h,aG 2 b (zW p)],aW .i64 (Lr (lst Pr b (zW p)) k),aW .i64 (KN (lst Pr b (zW p)) k),jB bI]))))))))))))):=by kernel_rfl
noncomputable def X9(x y:Int)(a b:Nat)(h:Nat->List Sh)(p:Nat->Pr)(k v:Int):List Bh:=[aj k k,aj v v,aj (Lr (lst Pr b (zW p)) k) (Lr (lst Pr b (zW p)) k),aj (KN (lst Pr b (zW p)) k) (KN (lst Pr b (zW p)) k),aj x x,aj y y,aP (aG 1 a h) (aG 1 a h),aP (aG 2 b (zW p)) (aG 2 b (zW p)),aj x x,aj y y,aP (aG 1 a h) (aG 1 a h),aP (aG 2 (len (FN (lst Pr b (zW p)) k)) (zW (nth (FN (lst Pr b (zW p)) k)))) (aG 2 (len (FN (lst Pr b (zW p)) k)) (zW (nth (FN (lst Pr b (zW p)) k))))]
theorem as6(A:Prim)(W:Wd)(x y:Int)(a b:Nat)(h:Nat->List Sh)(p:Nat->Pr)(k v:Int):AP (C7 A W GV Am) Bg 300 400 120 Nk (TU x y a b h (zW p) 9 k v) [] []=aI (Hf b (zW p)) (aI (Em k) (aI (Bo b.succ 16) (aI (Hf b (zW p)) (aI (Em k) (aI (Bo b.succ 16) (aQ (X9 x y a b h p k v) (aI (Hf b (zW p)) (aI (Em k) (aI (Bo b.succ 16) (aQ (X9 x y a b h p k v) (aI (Hf b (zW p)) (aI (Em k) (aI (Bo b.succ 16) (aQ (X9 x y a b h p k v) (aA (aO (cO [bM [aW .i64 x,aW .i64 y,aG 1 a h,aG 2 (len (FN (lst Pr b (zW p)) k)) (zW (nth (FN (lst Pr b (zW p)) k)))],aW .i64 (Lr (lst Pr b (zW p)) k),aW .i64 (KN (lst Pr b (zW p)) k),jB bI]))))))))))))))))):=by kernel_rfl
end Go.Proofs
namespace Go.Pl
open Go Go.Sx
def Gt(x op:Int):Bool:=decide (x=0) || !decide (Lm op=x)
def Ig(x y op k v:Int):Bool:=
 (!decide (k=0) && !keyed op)||decide (k<0)||decide (1000<k)||(!decide (v=0) && !valued op)||decide (v < -1000000000)||decide (1000000000<v)||(decide (op=3)&&IK x 0 (JL y v))
end Go.Pl
namespace Go.Proofs
open Go Go.Sx Go.Pl
theorem O66:Aq aB (AY W7) 102 F66:=by
 refine DT (C:=C7 zV W7 Dp Am) (cZ _ _) (Lp _) (m:=300) (n:=400) (L:=L0) (fn:=nJ) (by kernel_rfl) (by kernel_rfl) fun H w AX args φ hrep h=>?_
 have hn:nJ.ntmps=17:=by kernel_rfl
 unfold F66 at h;split at h
 ·rename_i t
  split at h
  ·rename_i op ht
   match args,hrep with
   |[v],⟨hv,_⟩=>
    refine ⟨[.i .i64 op],⟨Ei ht hv,trivial⟩,?_⟩;rw[hn,a66 zV W7 op];have key (n:Int) (e:Lm op=n):up φ (.i .i64 n):=BH (s':=.i .i64 (Lm op)) (by rw[e];rfl) h;have q1:ah 1=1:=rfl;have q2:ah 2=2:=rfl;have q3:ah 3=3:=rfl;have q4:ah 4=4:=rfl;have q5:ah 5=5:=rfl;have q6:ah 6=6:=rfl;have q7:ah 7=7:=rfl;have q8:ah 8=8:=rfl;have q9:ah 9=9:=rfl;have q0:ah 0=0:=rfl;simp only[Ap,q0,q1,q2,q3,q4,q5,q6,q7,q8,q9];refine ⟨fun _=>key _ ?_,fun _=>⟨fun _=>key _ ?_,fun _=>⟨fun _=>key _ ?_,fun _=>⟨fun _=>key _ ?_,fun _=>⟨fun _=>key _ ?_,fun _=>⟨fun _=>key _ ?_,fun _=>⟨fun _=>key _ ?_,fun _=>⟨fun _=>key _ ?_,fun _=>⟨fun _=>key _ ?_,fun _=>key _ ?_⟩⟩⟩⟩⟩⟩⟩⟩⟩;all_goals (simp_all [Lm])
  ·exact h.elim
 ·exact h.elim
theorem O67:Aq aB (AY W7) 151 F67:=by
 refine DT (C:=C7 zV W7 Dp Am) (cZ _ _) (Lp _) (m:=300) (n:=400) (L:=L0) (fn:=zG) (by kernel_rfl) (by kernel_rfl) fun H w AX args φ hrep h=>?_
 have hn:zG.ntmps=13:=by kernel_rfl
 unfold F67 at h;split at h
 ·rename_i t
  split at h
  ·rename_i op ht
   match args,hrep with
   |[v],⟨hv,_⟩=>
    refine ⟨[.i .i64 op],⟨Ei ht hv,trivial⟩,?_⟩;rw[hn,a67 zV W7 op];have key (n:Bool) (e:keyed op=n):up φ (.b n):=BH (s':=.b (keyed op)) (by rw[e];exact .inl rfl) h;have q7:ah 7=7:=rfl;have q8:ah 8=8:=rfl;have q9:ah 9=9:=rfl;simp only[Ap,q7,q8,q9];refine ⟨fun _=>key _ ?_,fun _=>⟨fun _=>key _ ?_,fun _=>key _ ?_⟩⟩;all_goals (simp_all [keyed]<;>rfl)
  ·exact h.elim
 ·exact h.elim
theorem O68:Aq aB (AY W7) 152 F68:=by
 refine DT (C:=C7 zV W7 Dp Am) (cZ _ _) (Lp _) (m:=300) (n:=400) (L:=L0) (fn:=zH) (by kernel_rfl) (by kernel_rfl) fun H w AX args φ hrep h=>?_
 have hn:zH.ntmps=17:=by kernel_rfl
 unfold F68 at h;split at h
 ·rename_i t
  split at h
  ·rename_i op ht
   match args,hrep with
   |[v],⟨hv,_⟩=>
    refine ⟨[.i .i64 op],⟨Ei ht hv,trivial⟩,?_⟩;rw[hn,a68 zV W7 op];have key (n:Bool) (e:valued op=n):up φ (.b n):=BH (s':=.b (valued op)) (by rw[e];exact .inl rfl) h;have q2:ah 2=2:=rfl;have q3:ah 3=3:=rfl;have q5:ah 5=5:=rfl;have q7:ah 7=7:=rfl;simp only[Ap,q2,q3,q5,q7];refine ⟨fun _=>key _ ?_,fun _=>⟨fun _=>key _ ?_,fun _=>⟨fun _=>key _ ?_,fun _=>key _ ?_⟩⟩⟩;all_goals (simp_all [valued]<;>rfl)
  ·exact h.elim
 ·exact h.elim
theorem O69:Aq aB (AY W7) 153 F69:=by
 refine DT (C:=C7 zV W7 Dp Am) (cZ _ _) (Lp _) (m:=300) (n:=400) (L:=L0) (fn:=zI) (by kernel_rfl) (by kernel_rfl) fun H w AX args φ hrep h=>?_
 have hn:zI.ntmps=27:=by kernel_rfl
 unfold F69 at h;split at h
 ·rename_i t u v
  split at h
  ·rename_i k x y ht hu hv
   match args,hrep with
   |[v1,v2,v3],⟨r1,r2,r3,_⟩=>
    refine ⟨[.i .i64 k,.i .i64 x,.i .i64 y],⟨Ei ht r1,Ei hu r2,Ei hv r3,trivial⟩,?_⟩;rw[hn,a69 zV W7 k x y];have key (n:Bool) (e:IK k x y=n):up φ (.b n):=BH (s':=.b (IK k x y)) (by rw[e];exact .inl rfl) h;have q0:ah 0=0:=rfl;have q2:ah 2=2:=rfl;have q3:ah 1000=1000:=rfl;have q4:ah 1000000000=1000000000:=rfl;have q5:ah 1000000000000000=1000000000000000:=rfl;have q6:fF 999999999=-1000000000:=rfl;have q7:fF 999999999999999=-1000000000000000:=rfl;simp only[Ap,Aa,q0,q2,q3,q4,q5,q6,q7];refine ⟨fun e=>⟨fun _=>key _ ?_,fun _=>⟨fun _=>key _ ?_,fun _=>⟨fun _=>key _ ?_,fun _=>key _ ?_⟩⟩⟩,fun e=>⟨fun _=>key _ ?_,fun _=>⟨fun _=>key _ ?_,fun _=>⟨fun _=>key _ ?_,fun _=>key _ ?_⟩⟩⟩⟩;all_goals (simp_all [IK]<;>omega)
  ·exact h.elim
 ·exact h.elim
theorem O94:Aq aB (AY W7) 173 F94:=by
 refine DT (C:=C7 zV W7 Dp Am) (cZ _ _) (Lp _) (m:=300) (n:=400) (L:=L0) (fn:=zJ) (by kernel_rfl) (by kernel_rfl) fun H w AX args φ hrep h=>?_
 have hn:zJ.ntmps=12:=by kernel_rfl
 unfold F94 at h;split at h
 ·rename_i x y s2 s3 t u
  split at h
  ·rename_i a hh b l p q hs2 hs3 ht hu
   match args,hrep with
   |[v,v1,v2],⟨hv,r1,r2,_⟩=>
    refine ⟨[.agg [.i .i64 x,.i .i64 y,.sl 1 a hh,.sl 2 b l],.i .i64 p,.i .i64 q],⟨Hw hv (fun u hu=>BD hs2 hu) (fun u hu=>BD hs3 hu),Ei ht r1,Ei hu r2,trivial⟩,?_⟩;rw[hn,a94 zV W7 x y a b hh l p q];exact BH (s':=.Aj [.agg [.i .i64 x,.i .i64 y,.sl 1 a hh,.sl 2 b l],.i .i64 3,.i .i64 y]) (by simp[Wk,Nu]) h
  ·exact h.elim
 ·exact h.elim
theorem O95:Aq aB (AY W7) 174 F95:=by
 refine DT (C:=C7 zV W7 Dp Am) (cZ _ _) (Lp _) (m:=300) (n:=400) (L:=L0) (fn:=zK) (by kernel_rfl) (by kernel_rfl) fun H w AX args φ hrep h=>?_
 have hn:zK.ntmps=12:=by kernel_rfl
 unfold F95 at h;split at h
 ·rename_i x y s2 s3 t u
  split at h
  ·rename_i a hh b l p q hs2 hs3 ht hu
   match args,hrep with
   |[v,v1,v2],⟨hv,r1,r2,_⟩=>
    refine ⟨[.agg [.i .i64 x,.i .i64 y,.sl 1 a hh,.sl 2 b l],.i .i64 p,.i .i64 q],⟨Hw hv (fun u hu=>BD hs2 hu) (fun u hu=>BD hs3 hu),Ei ht r1,Ei hu r2,trivial⟩,?_⟩;rw[hn,a95 zV W7 x y a b hh l p q];exact BH (s':=.Aj [.agg [.i .i64 x,.i .i64 q,.sl 1 a hh,.sl 2 b l],.i .i64 1,.i .i64 0]) (by simp[Wk,Nu]) h
  ·exact h.elim
 ·exact h.elim
theorem O96:Aq aB (AY W7) 175 F96:=by
 refine DT (C:=C7 zV W7 Dp Am) (cZ _ _) (Lp _) (m:=300) (n:=400) (L:=L0) (fn:=zL) (by kernel_rfl) (by kernel_rfl) fun H w AX args φ hrep h=>?_
 have hn:zL.ntmps=15:=by kernel_rfl
 unfold F96 at h;split at h
 ·rename_i x y s2 s3 t u
  split at h
  ·rename_i a hh b l p q hs2 hs3 ht hu
   match args,hrep with
   |[v,v1,v2],⟨hv,r1,r2,_⟩=>
    refine ⟨[.agg [.i .i64 x,.i .i64 y,.sl 1 a hh,.sl 2 b l],.i .i64 p,.i .i64 q],⟨Hw hv (fun u hu=>BD hs2 hu) (fun u hu=>BD hs3 hu),Ei ht r1,Ei hu r2,trivial⟩,?_⟩;rw[hn,a96 zV W7 x y a b hh l p q];exact BH (s':=.Aj [.agg [.i .i64 x,.i .i64 (JL y q),.sl 1 a hh,.sl 2 b l],.i .i64 1,.i .i64 0]) (by simp[Wk,Nu];rfl) h
  ·exact h.elim
 ·exact h.elim
theorem O97:Aq aB (AY W7) 176 F97:=by
 refine DT (C:=C7 zV W7 Dp Am) (cZ _ _) (Lp _) (m:=300) (n:=400) (L:=L0) (fn:=zM) (by kernel_rfl) (by kernel_rfl) fun H w AX args φ hrep h=>?_
 have hn:zM.ntmps=17:=by kernel_rfl
 unfold F97 at h;split at h
 ·rename_i x y s2 s3 t u
  split at h
  ·rename_i a hh b l p q hs2 hs3 ht hu
   obtain ⟨h1,hφ⟩:=h;match args,hrep with
   |[v,v1,v2],⟨hv,r1,r2,_⟩=>
    refine ⟨[.agg [.i .i64 x,.i .i64 y,.sl 1 a hh,.sl 2 b l],.i .i64 p,.i .i64 q],⟨Hw hv (fun u hu=>BD hs2 hu) (fun u hu=>BD hs3 hu),Ei ht r1,Ei hu r2,trivial⟩,?_⟩;have h0:=KJ h1 (vN a);rw[hn,a97 zV W7 x y a b hh l p q,Qa,Qb,aa7];have fin:up φ (.Aj [.agg [.i .i64 x,.i .i64 y,.os 3 1 (a+1) (zV.snoc hh a (AQ [[.i .i64 q]])),.sl 2 b l],.i .i64 (ah 1),.i .i64 (ah 0)]):=
     BH (s':=.Aj [.agg [.i .i64 x,.i .i64 y,.sl 1 (a+1) (FY a hh [.i .i64 q]),.sl 2 b l],.i .i64 1,.i .i64 0]) ⟨⟨rfl,rfl,.inr ⟨rfl,rfl,adq⟩,.inr ⟨rfl,rfl,fun _ _=>rfl⟩,trivial⟩,rfl,rfl,trivial⟩ hφ
    refine ⟨fun e=>⟨?_,h0,h1,fin⟩,fun _=>⟨h0,h1,fin⟩⟩;have e:a=0:=by have:=of_decide_eq_true (show decide (a<=0)=aC from e);omega
    subst e;exact BH (s':=.Aj [.agg [.i .i64 x,.i .i64 y,.sl 1 (0+1) (FY 0 hh [.i .i64 q]),.sl 2 b l],.i .i64 1,.i .i64 0]) ⟨⟨rfl,rfl,.inr ⟨rfl,rfl,fun j hj=>by
     obtain rfl:j=0:=by omega
     rfl⟩,.inr ⟨rfl,rfl,fun _ _=>rfl⟩,trivial⟩,rfl,rfl,trivial⟩ hφ
  ·exact h.elim
 ·exact h.elim
theorem O99:Aq aB (AY W7) 178 F99:=by
 refine DT (C:=C7 zV W7 Dp Am) (cZ _ _) (Lp _) (m:=300) (n:=400) (L:=L0) (fn:=zN) (by kernel_rfl) (by kernel_rfl) fun H w AX args φ hrep h=>?_
 have hn:zN.ntmps=25:=by kernel_rfl
 unfold F99 at h;split at h
 ·rename_i x y s2 s3 t u
  split at h
  ·rename_i a hh b l p q hs2 hs3 ht hu
   obtain ⟨h1,hφ⟩:=h;match args,hrep with
   |[v,v1,v2],⟨hv,r1,r2,_⟩=>
    refine ⟨[.agg [.i .i64 x,.i .i64 y,.sl 1 a (zW (zY (α:=Int) hh)),.sl 2 b l],.i .i64 p,.i .i64 q],⟨Hw hv (fun u hu=>DV (BD hs2 hu) h1) (fun u hu=>BD hs3 hu),Ei ht r1,Ei hu r2,trivial⟩,?_⟩;have hrow:=IU h1;generalize zY (α:=Int) hh=o at *;have hφ:φ (.Aj [.agg [.i .i64 x,.i .i64 y,.sl 1 (Qh a) (NM hh),.sl 2 b l],.i .i64 (TT a),.i .i64 (Qi a o)]):=hφ;rw[hn,a99 zV W7 x y a b o l p q];refine ⟨fun e=>?_,fun e=>?_⟩
    ·have e:a=0:=by simpa[Ap,Ar] using e
     subst e;exact BH (s':=.Aj [.agg [.i .i64 x,.i .i64 y,.sl 1 (Qh 0) (NM hh),.sl 2 b l],.i .i64 (TT 0),.i .i64 (Qi 0 o)]) ⟨⟨rfl,rfl,.inl ⟨rfl,rfl⟩,.inr ⟨rfl,rfl,fun _ _=>rfl⟩,trivial⟩,rfl,rfl,trivial⟩ hφ
    ·have e:¬a=0:=by simpa[Ap,Ar] using e
     refine ⟨by simp[Bj];omega,by simp[J5];omega,?_⟩;refine BH (s':=.Aj [.agg [.i .i64 x,.i .i64 y,.sl 1 (Qh a) (NM hh),.sl 2 b l],.i .i64 (TT a),.i .i64 (Qi a o)]) ⟨⟨rfl,rfl,.inr ⟨rfl,rfl,fun j hj=>?_⟩,.inr ⟨rfl,rfl,fun _ _=>rfl⟩,trivial⟩,?_,?_,trivial⟩ hφ
     ·have hj:j<a - 1:=hj
      show zW o (1+j)=hh (1+j);rw[hrow (1+j) (by omega)];rfl
     ·simp[Wk,TT,e]
     ·simp[Wk,Qi,e]
  ·exact h.elim
 ·exact h.elim
end Go.Proofs
