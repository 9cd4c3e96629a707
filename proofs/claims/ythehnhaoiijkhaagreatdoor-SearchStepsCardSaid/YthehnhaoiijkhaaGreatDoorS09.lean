/- Own work. -/
import Derived.Test.YthehnhaoiijkhaaGreatDoorS08
import Derived.Lib.ItoaLen
import Derived.Shelf.Spec.SlicesInsert
import Derived.Lib.AppendZerosOnto
import Derived.Laws.NewBlocks
open Int (ofNat)
open Array renaming length_toList->bV,getElem?_eq_some_iff->bH,size_append->oC
open Bool renaming true->aF,false->aA,and_eq_true->aJ
open Go renaming sizeOf->nK,heap_alloc_old->wL
open Go.Act renaming eval->tC,put->uK
open Go.Addr renaming add_lit->eU
open Go.BinOp renaming shr->qO
open Go.Builtin renaming copy_->jV,firstCells->gG,zeroCells->jh,append_->eF
open Go.Extern.SlicesOverlaps renaming overlaps->sZ
open Go.IntKind renaming i64->aW,wrap_i64->iV,u64->lZ
open Go.Lib renaming joinTail->kH,wpList_append_run->jZ,run_append_grow_zeros->qN
open Go.Proofs.C7 renaming ok->dn,Um->nU
open Go.Proofs.Yg renaming ok->zW
open Go.Proofs.Tryz renaming prog->aB,f145->zS,f146->zT,f77->jq,f116->qX,underlying209->iq,mixed_->tY,func182->nZ,ntmps182->nM,underlying3->mQ,f204->vN,f181->zU,tys->ni,func208->yR,ntmps208->xO,fnsAre_->jl,entersB_->jM,f184->zV,f179->zX,f186->zY,f183->zZ,f185->Aa,f102->nV,f151->Ac,f152->Ad,f153->Ae,f173->Af,f174->Ag,f175->Ah,f176->Ai,f178->Aj
open Go.Sx renaming Enters->xP
open Go.Sx.BQ renaming ok->iL,sh->aP,int->ak
open Go.Sx.Eo renaming at_->bJ,ret->aU
open Go.Sx.It renaming code->bD,inBlock->dh
open Go.Sx.Sh renaming str->dA,sl->aH,Ba->cZ,i->aZ,agg->bU,os->jv,er->bC,v->jF
open Go.Sx.Tree renaming leaf->aC,node->aG,need->aI,fail->dJ,must->aT
open Go.Value renaming nilIface->bM
open Go.World renaming shape?->xK,frozen?->xk,setRow->xM
open Int renaming toNat_natCast->fK,ofNat->ah,negSucc->fG
open List renaming range->aY,all_eq_true->dN,mem_range->dD,getD_eq_getElem?_getD->aX,getElem?_append_left->dM,mem_cons->ig,length_append->bf,length_cons->iT,getElem_mem->kJ,take_succ_eq_append_getElem->nY,map_append->iO,take_length->vM,mem_map->dL,length_take->cu,length_drop->dS,size_toArray->gW,getElem?_take->bZ,getElem?_drop->eH,mem_of_mem_drop->jw,append_assoc->dV,take_take->xq,take_left->lD,getElem_cons_zero->rD,takeWhile->jy,pairwise_iff_getElem->jE,takeWhile_prefix->rM,length_nil->qE,getElem?_append_right->fD
open Nat renaming sub_self->qR,add_mul->gB,one_mul->iI,min->qg,min_def->tq,le_refl->dw,zero_le->gV,le_succ->wE,beq->fC
open Option renaming some->ay,none->aN
namespace Go.Pl
open Go Go.Sx
def J4(s:Di):List (List UInt8):=EX s.kind::(if s.kind=1\/s.kind=2 then [BF s.num] else if s.kind=3 then s.q.map BF else if s.kind=4 then s.ps.map (fun p=>BF p.key++[58]++BF p.val) else [])
def noI:Nat->List Sh:=Az (nth ([]:List Int))
def noP:Nat->List Sh:=Az (nth ([]:List Pr))
def keyS(s:Di):List UInt8:=DV (J4 s) [32]
def SL(n:Nat):Bool:=decide (8<n)
def NR(n:Nat)(o:Nat->Oj):Bool:=(aY n).all fun j=>!Fp (o j).kind (o j).init
def Lp(n:Nat)(o:Nat->Oj):Nat:=((aY n).find? fun j=>Fp (o j).kind (o j).init).getD 0
def QF(n:Nat)(o:Nat->Oj):Bool:=(aY n).all fun j=>Dq (o j).kind
theorem IK{n:Nat}{p:Nat->Bool}(h:(aY n).all p=aF):∀j,j<n->p j=aF:=fun j hj=>dN.1 h j (dD.2 hj)
theorem ahk{n:Nat}{o:Nat->Oj}(h:∀j,j<n->Fp (o j).kind (o j).init=aA):NR n o=aF:=dN.2 fun j hj=>by simp[h j (dD.1 hj)]
theorem aos{n k:Nat}{o:Nat->Oj}(hk:k<n)(h:Fp (o k).kind (o k).init=aF):NR n o=aA:=by
 unfold NR;rw[List.all_eq_false];exact ⟨k,dD.2 hk,by simp[h]⟩
theorem find_range{n k:Nat}{p:Nat->Bool}(hk:k<n)(h:p k=aF)(hb:∀j,j<k->p j=aA):(aY n).find? p=ay k:=by
 rw[List.find?_range_eq_some];exact ⟨h,dD.2 hk,fun j hj=>by simp[hb j hj]⟩
theorem ahl{n k:Nat}{o:Nat->Oj}(hk:k<n)(h:Fp (o k).kind (o k).init=aF)(hb:∀j,j<k->Fp (o j).kind (o j).init=aA):Lp n o=k:=by
 unfold Lp;rw[find_range hk h hb];rfl
def aot(n:Nat)(o:Nat->Int):Bool:=(aY n).all fun j=>Dq (o j)
def asT(n:Nat)(o:Nat->Pr):Bool:=(aY n).all fun j=>Dq (o j).key&&Dq (o j).val
end Go.Pl
namespace Go.Proofs
open Go Go.Sx Go.Pl
theorem O59:Bh aB (BG W7) 145 F92:=by
 refine Ei (C:=C7 Aw W7 DX Bc) (dn _ _) (MF _) (m:=300) (n:=400) (L:=L0) (fn:=zS) (by kernel_rfl) (by kernel_rfl) fun H w BI args φ hrep h=>?_
 have hn:zS.ntmps=5:=by kernel_rfl
 unfold F92 at h;split at h
 ·obtain ⟨h1,hφ⟩:=h
  refine ⟨_,hrep,?_⟩;rw[hn,a59 Aw W7];exact ⟨h1,Cj (s':=.str _) rfl hφ⟩
 ·exact h.elim
theorem O60:Bh aB (BG W7) 146 F60:=by
 refine Ei (C:=C7 Aw W7 DX Bc) (dn _ _) (MF _) (m:=300) (n:=400) (L:=L0) (fn:=zT) (by kernel_rfl) (by kernel_rfl) fun H w BI args φ hrep h=>?_
 have hn:zT.ntmps=5:=by kernel_rfl
 unfold F60 at h;split at h
 ·obtain ⟨h1,h2,h3,hφ⟩:=h
  refine ⟨_,hrep,?_⟩;rw[hn,a60 Aw W7];exact ⟨h1,h2,h3,Cj (s':=.str _) rfl hφ⟩
 ·exact h.elim
theorem OBs:∀g F,IJ g=ay F->Bh aB (BG W7) g F:=fun g F h=>by
 unfold IJ at h;split at h
 ·cases h;exact O58
 ·cases h;exact O59
 ·cases h;exact O60
 ·cases h;exact O65
 ·cases h
theorem abN(stop:Nat->List Nat->Bool):Cb aB (C7 Aw W7 IJ stop):=nU OBs fun g h=>by
 unfold IJ at h;split at h;all_goals first|(cases h;done) |kernel_rfl
def F41:List Sh->Tree Sh
 |[.agg [.i .i64 k,.i .i64 i]]=>.need (Dq k) (.node (Fp k i) (.leaf (.Ba [.agg (Dy NQ),.er 7 329])) (.leaf (.Ba [.agg [.i .i64 k,.i .i64 i,.sl 1 0 noI,.sl 2 0 noP],.v .nilIface]))) |_=>.fail
theorem O41:Bh aB (BG W7) 95 F41:=by
 refine Ei (C:=C7 Aw W7 IJ Bc) (dn _ _) (abN _) (m:=300) (n:=400) (L:=L0) (fn:=Tryz.f95) (by kernel_rfl) (by kernel_rfl) fun H w BI args φ hrep h=>?_
 have hn:Tryz.f95.ntmps=16:=by kernel_rfl
 unfold F41 at h;split at h
 ·rename_i k i
  obtain ⟨h1,hb,hg⟩:=h;refine ⟨_,hrep,?_⟩;rw[hn,a41 Aw W7 k i];refine ⟨h1,fun e=>Cj (s':=.Ba [.agg (Dy NQ),.er 7 329]) ?_ (hb e),fun e=>Cj (s':=.Ba [.agg [.i .i64 k,.i .i64 i,.sl 1 0 noI,.sl 2 0 noP],.v .nilIface]) ?_ (hg e)⟩
  ·simp[Dy,NQ,Wk,N7,len]
  ·simp[Wk,N7]
 ·exact h.elim
def F49:List Sh->Tree Sh
 |[.agg [s0,s1]]=>match Ej 2 s0,Ej 8 s1 with
  |some (n,g),ay (0,_)=>.need (okB Oj n g) (.need (QF n (AB g)) (.node (SL n) (.leaf (.er 6 329)) (.node (NR n (AB g)) (.leaf (.v .nilIface)) (.leaf (.Dv 109 (.pt [.i .i64 (Lp n (AB g)),.er 7 329])))))) |_,_=>.fail
 |_=>.fail
theorem akY{H0:Mem}{w0:World}{n:Nat}{o:Nat->Oj}{e:Nat->List Sh}{φ:Sh->Prop}(hn:n<=8)(hk:∀j,j<n->Dq (o j).kind=aF)(hT:(∀j,j<n->Fp (o j).kind (o j).init=aA)->φ (.v .nilIface))
  (hF:∀k,k<n->Fp (o k).kind (o k).init=aF->(∀j,j<k->Fp (o j).kind (o j).init=aA)->φ (.Dv 109 (.pt [.i .i64 k,.er 7 329]))) :
  ∀r k,k+r=n->(∀j,j<k->Fp (o j).kind (o j).init=aA)->BK aB (C7 Aw W7 IJ Bc) (K0 H0 w0) 77 Jf (ad7 n o e (k:Int)) [] emp φ
 |r,k,hkr,hE=>by
  refine FW (fn:=jq) (tb:=Xj) (by kernel_rfl) (by kernel_rfl) ?_;refine Ic (dn _ _) (abN _) (hold:=TV) (m:=300) (n:=400) (ts:=[⟨77,Jf,ad7 n o e (k+1:Nat),[]⟩,⟨77,ajt,ajs n o e,[]⟩]) ?_;rw[b49 Aw W7 n o e k (k+1:Nat)];simp only[AO,BO,Dn,DR,Hz,fK];refine ⟨fun h=>?_,fun h=>?_⟩
  ·have hlt:k<n:=by simp at h;omega
   refine ⟨by simp;omega,hk k hlt,fun hb=>hF k hlt hb hE,fun hb=>⟨⟨rfl,rfl,?_,rfl,rfl,trivial⟩,_,rfl,?_⟩⟩
   ·simp only[iL];rw[CO (by omega) (by omega)];rfl
   ·match r,hkr with
    |0,hkr=>omega |r+1,hkr=>
     refine akY hn hk hT hF r (k+1) (by omega) fun j hj=>?_
     by_cases e:j=k
     ·subst e;exact hb
     ·exact hE j (by omega)
  ·have:k=n:=by simp at h;omega
   subst this;refine ⟨⟨rfl,rfl,trivial⟩,_,rfl,?_⟩;refine FW (fn:=jq) (tb:=aop) (by kernel_rfl) (by kernel_rfl) ?_;refine Ic (dn _ _) (abN _) (hold:=TV) (m:=300) (n:=400) (ts:=[]) ?_;rw[c49 Aw W7 k o e];exact ⟨fun h=>by simp[AO] at h,fun _=>hT hE⟩
theorem O49:Bh aB (BG W7) 77 F49:=by
 refine KZ (C:=C7 Aw W7 IJ Bc) (dn _ _) (fn:=jq) (by kernel_rfl) (by kernel_rfl) fun H w BI args φ hrep h=>?_
 have hn:jq.ntmps=78:=by kernel_rfl
 unfold F49 at h;split at h
 ·rename_i s0 s1
  split at h
  ·rename_i n g e hs0 hs1
   obtain ⟨h1,h2,hbig,hsm⟩:=h;have hbig:SL n=aF->φ (.er 6 329):=hbig;have hsm:SL n=aA->(NR n (AB g)=aF->φ (.v .nilIface))/\(NR n (AB g)=aA->φ (.Dv 109 (.pt [.i .i64 (Lp n (AB g)),.er 7 329]))):=hsm;match args,hrep with
   |[v],⟨hv,_⟩=>
    refine ⟨[.agg [.sl 2 n (Az (AB (α:=Oj) g)),.sl 8 0 e]],⟨Yl hv (fun u hu=>EK (Ce hs0 hu) h1) (fun u hu=>Ce hs1 hu),trivial⟩,L0,?_⟩;generalize AB (α:=Oj) g=o at *;refine Ic (dn _ _) (abN _) (hold:=TV) (m:=300) (n:=400) (ts:=[⟨77,Jf,ad7 n o e (0:Nat),[]⟩]) ?_;rw[hn,a49 Aw W7 n o e (0:Nat)];refine ⟨fun h=>hbig ?_,fun h=>⟨fun h=>?_,fun _=>⟨⟨rfl,rfl,rfl,rfl,rfl,trivial⟩,_,rfl,?_⟩⟩⟩
    ·simp[AO,Bg] at h;simp[SL];omega
    ·simp[AO,Bg] at h
    ·have hn8:n<=8:=by simp[AO,Bg] at h;omega
     obtain ⟨q1,q2⟩:=hsm (by simp[SL];omega);refine akY hn8 (IK h2) (fun hE=>q1 (ahk hE)) (fun k hk hb hE=>?_) n 0 (by omega) fun j hj=>by omega
     have:=q2 (aos hk hb);rwa[ahl hk hb hE] at this
  ·exact h.elim
 ·exact h.elim
end Go.Proofs
namespace Go.Pl
open Go Go.Sx Go.Proofs
theorem aou{a b:List UInt8}:lst (List UInt8) 2 (BD (chunks 1 (1+1) [dA a,dA b]))=[a,b]:=rfl
theorem aov{a:List UInt8}:lst (List UInt8) 1 (BD (chunks 1 1 [dA a]))=[a]:=rfl
theorem JG{n:Int}(h:Dq n=aF):(BF n).length<=21:=by
 have h:=of_decide_eq_true h;exact Go.Lib.itoa_length_le n h.1 h.2
theorem afo{α:Type}[Row α](l:List α){k:Nat}(h:l.length=k):lst α k (Az (nth l))=l:=by subst h;exact Ll l
theorem PE{α:Type}[Row α](l:List α)(a:α){r:List (List Sh)}(h:BD r 0=Row.put a):∀i,i<l.length+1->Aw.snoc (Az (nth l)) l.length (BD r) i=Az (nth (l++[a])) i:=fun i hi=>by
 rw[EF];split
 ·rename_i h1
  simp only[Az,nth];rw[aX,aX,dM h1]
 ·have:i=l.length:=by omega
  subst this;rw[qR,h];simp[Az,nth]
end Go.Pl
namespace Go.Proofs
open Go Go.Sx Go.Pl
def F35:List Sh->Tree Sh
 |[.agg [.i .i64 x,.i .i64 y,s2,s3]]=>match Ej 1 s2,Ej 2 s3 with
  |some (a,h),ay (b,l)=>.need (okB Int a h) (.need (okB Pr b l) (.need (Dq x) (.need (Dq y) (.need (aot a (AB h)) (.need (asT b (AB l)) (.need (decide (a<=100000/\b<=100000)) (.leaf (.str (keyS ⟨x,y,lst Int a h,lst Pr b l⟩))))))))) |_,_=>.fail
 |_=>.fail
theorem Yq(l:List (List UInt8))(sep:List UInt8){m:Nat}(h:∀x∈l,x.length<=m):(DV l sep).length<=l.length*(m+sep.length):=by
 induction l with
 |nil=>simp[DV,Go.Lib.join_nil] |cons x r ih=>
  have h1:=h x (by simp);have h2:(kH sep r).length<=r.length*(m+sep.length):=by
   clear ih;induction r with
   |nil=>simp[kH] |cons y r ih2=>
    have h3:=ih2 fun z hz=>h z (by
     rcases ig.1 hz with rfl|hz
     ·simp
     ·simp[hz])
    have h4:=h y (by simp);simp only[kH,List.map_cons,List.flatten_cons,bf,iT,gB,iI] at h3 ⊢;omega
  unfold DV;rw[Go.Lib.join_cons,bf,iT,gB,iI];omega
theorem Om{l:List (List UInt8)}(hl:l.length<=200000)(h:∀x∈l,x.length<=50):IV (DV l [32])=aF:=by
 have:=Yq l [32] h;have h2:l.length*(50+[(32:UInt8)].length)<=200000*51:=Nat.mul_le_mul_right _ hl;exact decide_eq_true (by omega)
theorem room_le{n b:Nat}(h:n<=1000000)(hb:b<=1000):BU n b=aF:=by
 show decide (n*b<=140737488355328/\n<=maxLen)=aF;rw[maxLen_eq];have:n*b<=1000000*1000:=Nat.mul_le_mul h hb;exact decide_eq_true ⟨by omega,by omega⟩
theorem abO(k:Int):(EX k).length<=50:=by
 unfold EX;repeat' split
 all_goals decide
theorem ahm{H0:Mem}{w0:World}{q:List Int}{W:List UInt8}{φ:Sh->Prop}(hq:q.length<=100000)(h64:∀x∈q,Dq x=aF)(hW:W.length<=50)(hφ:φ (.str (DV (W::q.map BF) [32]))):
  ∀r k,k+r=q.length->BK aB (C7 Aw W7 IJ Bc) (K0 H0 w0) 116 Yo (Ym q.length (nth q) (k:Int) (k+1) (Az (nth (W::(q.take k).map BF)))) [] emp φ
 |r,k,hkr=>by
  refine FW (fn:=qX) (tb:=aoq) (by kernel_rfl) (by kernel_rfl) ?_;refine Ic (dn _ _) (abN _) (hold:=BN) (m:=300) (n:=400) (ts:=[⟨116,Yo,Ym q.length (nth q) (k+1:Nat) (k+1+1) (Az (nth (W::(q.take (k+1)).map BF))),[]⟩]) ?_;rw[av4 Aw W7 q.length (nth q) k (k+1:Nat) (k+1) (k+1+1) (Az (nth (W::(q.take k).map BF))) (Az (nth (W::(q.take (k+1)).map BF)))];have hlen:(W::(q.take k).map BF).length=k+1:=by simp;omega
  simp only[AO,BO,Dn,DR,Hz,fK,abL];refine ⟨fun h=>?_,fun h=>?_⟩
  ·have hlt:k<q.length:=by simp at h;omega
   have hx:nth q k=q[k]:=by simp[nth,hlt]
   refine ⟨by simp;omega,by rw[hx];exact h64 _ (kJ hlt),room_le (by omega) (by omega),⟨rfl,rfl,?_,rfl,?_,trivial⟩,_,rfl,?_⟩
   ·simp only[iL];rw[CO (by omega) (by omega)];rfl
   ·have e:W::(q.take (k+1)).map BF=(W::(q.take k).map BF)++[BF (nth q k)]:=by
     rw[hx,nY hlt,iO];rfl
    have:=PE (W::(q.take k).map BF) (BF (nth q k)) (r:=[[.str (BF (nth q k))]]) rfl;rw[hlen] at this;rw[e];exact this
   ·match r,hkr with
    |0,hkr=>omega |r+1,hkr=>exact ahm hq h64 hW hφ r (k+1) (by omega)
  ·have hk:k=q.length:=by simp at h;omega
   subst hk;rw[vM] at hlen ⊢;rw[afo _ hlen];refine ⟨Eh _ _,room_le (by omega) (by omega),Om (by simp;omega) fun x hx=>?_,hφ⟩;rcases ig.1 hx with rfl|hx
   ·exact hW
   ·obtain ⟨y,hy,rfl⟩:=dL.1 hx
    have:=JG (h64 y hy);omega
theorem ad8{p:Pr}(h1:Dq p.key=aF)(h2:Dq p.val=aF):(BF p.key++[58]++BF p.val).length<=50:=by
 have:=JG h1;have:=JG h2;simp;omega
theorem ahn{H0:Mem}{w0:World}{q:List Pr}{W:List UInt8}{φ:Sh->Prop}(hq:q.length<=100000)(h64:∀x∈q,Dq x.key=aF/\Dq x.val=aF)(hW:W.length<=50)(hφ:φ (.str (DV (W::q.map (fun p=>BF p.key++[58]++BF p.val)) [32]))):
  ∀r k,k+r=q.length->BK aB (C7 Aw W7 IJ Bc) (K0 H0 w0) 116 Yp (Yn q.length (nth q) (k:Int) (k+1) (Az (nth (W::(q.take k).map (fun p=>BF p.key++[58]++BF p.val))))) [] emp φ
 |r,k,hkr=>by
  refine FW (fn:=qX) (tb:=aor) (by kernel_rfl) (by kernel_rfl) ?_;refine Ic (dn _ _) (abN _) (hold:=BN) (m:=300) (n:=400) (ts:=[⟨116,Yp,Yn q.length (nth q) (k+1:Nat) (k+1+1) (Az (nth (W::(q.take (k+1)).map (fun p=>BF p.key++[58]++BF p.val)))),[]⟩]) ?_;rw[av5 Aw W7 q.length (nth q) k (k+1:Nat) (k+1) (k+1+1) (Az (nth (W::(q.take k).map (fun p=>BF p.key++[58]++BF p.val)))) (Az (nth (W::(q.take (k+1)).map (fun p=>BF p.key++[58]++BF p.val))))];have hlen:(W::(q.take k).map (fun p=>BF p.key++[58]++BF p.val)).length=k+1:=by simp;omega
  simp only[AO,BO,Dn,DR,Hz,fK,abL];refine ⟨fun h=>?_,fun h=>?_⟩
  ·have hlt:k<q.length:=by simp at h;omega
   have hx:nth q k=q[k]:=by simp[nth,hlt]
   obtain ⟨p1,p2⟩:=h64 _ (kJ hlt);rw[<-hx] at p1 p2;have l1:=JG p1;have l2:=JG p2;refine ⟨by simp;omega,p1,?_,p2,?_,room_le (by omega) (by omega),⟨rfl,rfl,?_,rfl,?_,trivial⟩,_,rfl,?_⟩
   ·show decide ((BF (nth q k).key).length+1<=9223372036854775807)=aF
    exact decide_eq_true (by omega)
   ·show decide ((BF (nth q k).key++[58]).length+(BF (nth q k).val).length<=9223372036854775807)=aF
    exact decide_eq_true (by rw[bf];simp;omega)
   ·simp only[iL];rw[CO (by omega) (by omega)];rfl
   ·have e:W::(q.take (k+1)).map (fun p=>BF p.key++[58]++BF p.val)=(W::(q.take k).map (fun p=>BF p.key++[58]++BF p.val))++[BF (nth q k).key++[58]++BF (nth q k).val]:=by
     rw[hx,nY hlt,iO];rfl
    have:=PE (W::(q.take k).map (fun p=>BF p.key++[58]++BF p.val)) (BF (nth q k).key++[58]++BF (nth q k).val) (r:=[[.str (BF (nth q k).key++[58]++BF (nth q k).val)]]) rfl;rw[hlen] at this;rw[e];exact this
   ·match r,hkr with
    |0,hkr=>omega |r+1,hkr=>exact ahn hq h64 hW hφ r (k+1) (by omega)
  ·have hk:k=q.length:=by simp at h;omega
   subst hk;rw[vM] at hlen ⊢;rw[afo _ hlen];refine ⟨Eh _ _,room_le (by omega) (by omega),Om (by simp;omega) fun x hx=>?_,hφ⟩;rcases ig.1 hx with rfl|hx
   ·exact hW
   ·obtain ⟨y,hy,rfl⟩:=dL.1 hx
    exact ad8 (h64 y hy).1 (h64 y hy).2
theorem aho{α:Type}[Row α]{n:Nat}{g:Nat->List Sh}{x:α}(h:x∈lst α n g):∃j,j<n/\x=AB g j:=by
 obtain ⟨j,hj,rfl⟩:=dL.1 h;exact ⟨j,dD.1 hj,rfl⟩
theorem La{α:Type}[Row α]{H:Mem}{st n:Nat}{g:Nat->List Sh}{v:Value}(h:Rep H (.sl st n g) v)(hg:okB α n g=aF):Rep H (.sl st (lst α n g).length (Az (nth (lst α n g)))) v:=by
 rw[FQ];refine ER h fun j hj=>?_
 rw[Jj hg j hj];simp only[Az,SI hj]
theorem O35:Bh aB (BG W7) 116 F35:=by
 refine KZ (C:=C7 Aw W7 IJ Bc) (dn _ _) (fn:=qX) (by kernel_rfl) (by kernel_rfl) fun H w BI args φ hrep h=>?_
 have hn:qX.ntmps=61:=by kernel_rfl
 unfold F35 at h;split at h
 ·rename_i x y s2 s3
  split at h
  ·rename_i a hh b l hs2 hs3
   obtain ⟨h1,h2,h3,h4,h5,h6,h7,hφ⟩:=h;have h7:=of_decide_eq_true h7;match args,hrep with
   |[v],⟨hv,_⟩=>
    have l1:(lst Int a hh).length=a:=FQ _ _;have l2:(lst Pr b l).length=b:=FQ _ _;have m1:∀z∈lst Int a hh,Dq z=aF:=fun z hz=>by
     obtain ⟨j,hj,rfl⟩:=aho hz;exact IK h5 j hj
    have m2:∀z∈lst Pr b l,Dq z.key=aF/\Dq z.val=aF:=fun z hz=>by
     obtain ⟨j,hj,rfl⟩:=aho hz;simpa using IK h6 j hj
    refine ⟨[.agg [.i .i64 x,.i .i64 y,.sl 1 (lst Int a hh).length (Az (nth (lst Int a hh))),.sl 2 (lst Pr b l).length (Az (nth (lst Pr b l)))]],⟨Ip hv (fun u hu=>La (Ce hs2 hu) h1) (fun u hu=>La (Ce hs3 hu) h2),trivial⟩,L0,?_⟩;generalize lst Int a hh=q at *;generalize lst Pr b l=ps at *;have hφ:φ (.str (DV (J4 ⟨x,y,q,ps⟩) [32])):=hφ;refine Ic (dn _ _) (abN _) (hold:=BN) (m:=300) (n:=400) (ts:=[⟨116,Yo,Ym q.length (nth q) (0:Nat) 1 (Az (nth [EX x])),[]⟩,⟨116,Yp,Yn ps.length (nth ps) (0:Nat) 1 (Az (nth [EX x])),[]⟩]) ?_;rw[hn,a35 Aw W7 x y q.length ps.length (nth q) (nth ps) (0:Nat) 1 (Az (nth [EX x])),aou,aov];have hw:=abO x;have hy:=JG h4;have two:IV (DV [EX x,BF y] [32])=aF:=Om (by simp) fun z hz=>by
     simp at hz;rcases hz with rfl|rfl
     ·exact hw
     ·omega
    refine ⟨rfl,h3,fun e=>⟨h4,rfl,room_le (by omega) (by omega),two,?_⟩,fun e1=>⟨fun e=>⟨h4,rfl,room_le (by omega) (by omega),two,?_⟩,fun e2=>⟨fun e=>⟨⟨rfl,rfl,rfl,rfl,fun j hj=>?_,trivial⟩,_,rfl,?_⟩,fun e3=>⟨fun e=>⟨⟨rfl,rfl,rfl,rfl,fun j hj=>?_,trivial⟩,_,rfl,?_⟩,fun e4=>⟨rfl,room_le (by omega) (by omega),Om (by simp) fun z hz=>?_,?_⟩⟩⟩⟩⟩
    ·have e:x=1:=by simpa[Bd] using e
     subst e;exact hφ
    ·have e:x=2:=by simpa[Bd] using e
     subst e;exact hφ
    ·obtain rfl:j=0:=by omega
     rfl
    ·have e:x=3:=by simpa[Bd] using e
     subst e;exact ahm (by omega) m1 hw hφ q.length 0 (by omega)
    ·obtain rfl:j=0:=by omega
     rfl
    ·have e:x=4:=by simpa[Bd] using e
     subst e;exact ahn (by omega) m2 hw hφ ps.length 0 (by omega)
    ·simp at hz;subst hz;exact hw
    ·have e1:¬x=1:=by simpa[Bd] using e1
     have e2:¬x=2:=by simpa[Bd] using e2
     have e3:¬x=3:=by simpa[Bd] using e3
     have e4:¬x=4:=by simpa[Bd] using e4
     have e:J4 ⟨x,y,q,ps⟩=[EX x]:=by simp[J4,e1,e2,e3,e4]
     rw[e] at hφ;exact hφ
  ·exact h.elim
 ·exact h.elim
end Go.Proofs
namespace Go.Sx
open Go.RowKit Go.Lib
section
variable{P:Program}
theorem QG(w:World)(dT sT ty elem:TypeId)(sz g o dLen dCap:Nat)(a:Addr)(sLen sCap:Nat)(cur:Array Value)(t:TypeId)(cs:List Value)
  (hu:P.underlying dT=ay (.slice elem)) (hs:(P.info? elem).map (·.size)=ay sz)
  (hg:w.heap[g]?=ay (.cells cur t (0,0))) (hn:cs.length=qg sLen dLen*sz)
  (hsrc:∀j v,cs[j]?=ay v->w.cell? (a.add j)=ay v) (hfit:o+cs.length<=cur.size) (h1:∀v∈cs,v.oneCell'=aF) :
  (jV #[dT,sT] ty #[.slice (ay ⟨g,o,aN⟩) dLen dCap,.slice (ay a) sLen sCap]).run P w =
   .ok (goInt (qg sLen dLen)) (w.setRow g (cur.toList.take o++cs++cur.toList.drop (o+cs.length)).toArray):=by
 have hl:=run_loadCells_list (P:=P) w a cs hsrc;have hst:=run_storeCells_at P g o t cs 0 cur w hg (by simpa using hfit) h1;cases hq:P.info? elem with
 |none=>simp[hq] at hs |some i=>
  have hi:i.size=sz:=by simpa[hq] using hs
  simp[jV,run_underlying hu,Builtin.lenOf,gG,sizeOf,typeInfo,hq,hi,<-hn,hl,hst]
end
end Go.Sx
namespace Go.Proofs
open Go Go.Sx Go.RowKit Go.Lib
theorem info116:∃(i:TypeInfo) (z:Value),aB.info? 272=ay i/\i.size=2/\i.bytes=16/\i.zero=ay z/\z.cells.size=2/\∃cs,z=.agg cs:=by
 obtain ⟨inf,z,h1,h2,h3,h4,_,h6,h7,_⟩:=((dn noSpec A8).ty 272 ⟨.struct [(0,1,aA),(1,1,aA)],2,16,[.int .i64 0,.int .i64 0]⟩ (by kernel_rfl)).info;exact ⟨inf,z,h1,h2,h3,h4,h6,h7 rfl⟩
set_option maxHeartbeats 4000000 in
set_option maxRecDepth 100000 in
theorem aju(w:World)(g n c i vb vc:Nat)(cur:Array Value)(cs vs:List Value)(hg:w.heap[g]?=ay (.cells cur 272 (0,0)))(NS:Array Value)(hgb:w.heap[vb]?=ay (.cells NS 272 (0,0)))
  (hi:i<n) (hroom:n+1<=c) (hc63:c<=9223372036854775807) (hvb:vb≠g) (hcap:cur.size=c*2) (hcs:cur.toList.take (n*2)=cs) (hvs:NS.toList.take 2=vs) (hvl:vs.length=2) (hv2:2<=NS.size)
  (h1c:∀v∈cs,v.oneCell'=aF) (h1v:∀v∈vs,v.oneCell'=aF) :
  Calls aB 182 #[.slice (ay ⟨g,0,aN⟩) n c,.int .i64 i,.slice (ay ⟨vb,0,aN⟩) 1 vc] w fun e w'=>
   e=.returned (.slice (ay ⟨g,0,aN⟩) (n+1) c)/\∃cur',w'.heap[g]?=ay (.cells cur' 272 (0,0))/\cur'.size=c*2/\cur'.toList.take ((n+1)*2)=cs.take (i*2)++vs++cs.drop (i*2)/\w.grownBy w' (ay g):=by
 obtain ⟨inf,z,i1,i2,i3,i4,i5,_⟩:=info116;have hsz:(aB.info? 272).map (·.size)=ay 2:=by rw[i1];simp[i2]
 have hse:∀w,(nK 272).run aB w=.ok 2 w:=fun w=>by simp[nK,typeInfo,i1,i2]
 have hov:∀lb cb,(callFunc 206 #[.slice (ay ⟨vb,0,aN⟩) 1 vc,.slice (ay ⟨g,(i+1)*2,aN⟩) lb cb]).run aB w=.ok (.value (.bool aA)) w:=fun lb cb=>by
  rw[run_callFunc_extern Tryz.func206 (by kernel_rfl) (by kernel_rfl) (by kernel_rfl) (e:=sZ #[209,209] #[4]) (by kernel_rfl),
   Lib.run_overlaps_apart w 209 4 272 iq 2 hse ⟨vb,0,aN⟩ ⟨g,(i+1)*2,aN⟩ 1 vc lb cb hvb 272 272 NS.size cur.size (by simp[xK,hgb]) (by simp[xK,hg]) (by omega) (by simp[xk,hgb]) (by simp[xk,hgb])]
  rfl
 have hw1:aW.wrap ((i:Int)+1)=(i:Int)+1:=by rw[iV];omega
 have hw2:aW.wrap ((n:Int)+1)=(n:Int)+1:=by rw[iV];omega
 have hcl:cs.length=n*2:=by rw[<-hcs,cu,bV];omega
 have hdl:(cs.drop (i*2)).length=(n - i)*2:=by rw[dS,hcl];omega
 obtain ⟨R1,hR1⟩:∃R1,R1=(cur.toList.take ((i+1)*2)++cs.drop (i*2)++cur.toList.drop ((i+1)*2+(cs.drop (i*2)).length)).toArray:=⟨_,rfl⟩;have ahp:R1.size=c*2:=by rw[hR1];simp only[gW,bf,cu,dS,bV,hcl];omega
 obtain ⟨R2,hR2⟩:∃R2,R2=(R1.toList.take (i*2)++vs++R1.toList.drop (i*2+vs.length)).toArray:=⟨_,rfl⟩;have hcur:∀j v,cs[j]?=ay v->cur.toList[j]?=ay v:=fun j v hj=>by
  rw[<-hcs,bZ] at hj;split at hj
  ·exact hj
  ·cases hj
 have hcp1:∀(W:World),W.heap[g]?=ay (.cells cur 272 (0,0))->∀ty dc sc,(jV #[209,209] ty #[.slice (ay ⟨g,(i+1)*2,aN⟩) (n - i) dc,.slice (ay ⟨g,i*2,aN⟩) (n+1 - i) sc]).run aB W=.ok (goInt ((n - i:Nat):Int)) (W.setRow g R1):=fun W hW ty dc sc=>by
  have hmin:qg (n+1 - i) (n - i)=n - i:=by simp only[tq];split<;>omega
  have:=QG W 209 209 ty 272 2 g ((i+1)*2) (n - i) dc ⟨g,i*2,aN⟩ (n+1 - i) sc cur 272 (cs.drop (i*2)) iq hsz hW (by rw[hmin,hdl]) (fun j v hj=>by
    rw[eU,cell_of_row W g _ cur 272 (0,0) hW];rw[eH] at hj;have:=hcur _ _ hj;simpa using this) (by rw[hdl,hcap];omega) (fun v hv=>h1c v (jw hv))
  rw[hmin,<-hR1] at this;exact this
 have hcp2:∀(W:World),W.heap[g]?=ay (.cells R1 272 (0,0))->W.heap[vb]?=ay (.cells NS 272 (0,0))->∀ty dc,(jV #[209,209] ty #[.slice (ay ⟨g,i*2,aN⟩) (n+1 - i) dc,.slice (ay ⟨vb,0,aN⟩) 1 vc]).run aB W=.ok (goInt 1) (W.setRow g R2):=fun W hW hW2 ty dc=>by
  have hmin:qg 1 (n+1 - i)=1:=by simp only[tq];split<;>omega
  have:=QG W 209 209 ty 272 2 g (i*2) (n+1 - i) dc ⟨vb,0,aN⟩ 1 vc R1 272 vs iq hsz hW (by rw[hmin,hvl]) (fun j v hj=>by
    rw[eU,cell_of_row W vb _ NS 272 (0,0) hW2];rw[<-hvs,bZ] at hj;split at hj
    ·simpa using hj
    ·cases hj) (by rw[hvl,ahp];omega) h1v
  rw[hmin,<-hR2] at this;exact this
 have hfin:R2.size=c*2/\R2.toList.take ((n+1)*2)=cs.take (i*2)++vs++cs.drop (i*2):=by
  have hl1:R1.toList.length=c*2:=by rw[bV,ahp]
  refine ⟨by rw[hR2];simp only[gW,bf,cu,dS,hl1,hvl];omega,?_⟩;have ht1:R1.toList.take (i*2)=cs.take (i*2):=by
   rw[hR1];simp only[dV];rw[List.take_append_of_le_length (by rw[cu,bV];omega),xq,<-hcs,xq];congr 1;omega
  have hd1:R1.toList.drop (i*2+2)=cs.drop (i*2)++cur.toList.drop ((n+1)*2):=by
   rw[hR1];have e1:(cur.toList.take ((i+1)*2)).length=i*2+2:=by rw[cu,bV];omega
   simp only[dV];have e3:List.drop (i*2+2) (cur.toList.take ((i+1)*2)++(cs.drop (i*2)++cur.toList.drop ((i+1)*2+(cs.drop (i*2)).length)))=cs.drop (i*2)++cur.toList.drop ((i+1)*2+(cs.drop (i*2)).length):=by
    conv=>lhs;rw[<-e1]
    exact List.drop_left
   rw[e3,hdl];congr 2;omega
  rw[hR2,hvl,hd1,ht1];simp only[<-dV];have e2:(cs.take (i*2)++vs++cs.drop (i*2)).length=(n+1)*2:=by
   rw[bf,bf,cu,hvl,hdl,hcl];omega
  rw[<-e2];exact lD
 have hgl:g<w.heap.size:=(bH.1 hg).1;have mixed:aB.follows .mixedOrders=aF:=tY;have hb1:(0:Int)<=(i:Int)+1:=by omega
 have hin:i<=n:=by omega
 have htn:((i:Int)+1).toNat=i+1:=by omega
 have hb2:¬(c=i+1):=by omega
 have hb3:(i:Int)<=(n:Int)+1:=by omega
 have hb4:¬(c=i):=by omega
 clear hcs hvs h1c h1v hcur hR1 hR2;have hc2:=hcp2 (w.drew.setRow g R1) (setRow_heap w.drew g cur R1 272 (0,0) hg) (by rw[setRow_other _ _ _ _ hvb];exact hgb) 3 (c - i);go_enter nZ,nM
 go_wp2_with (simp only[hov])
 go_region_law_o (refine step_copy_runI rfl (.tmp 73) (.tmp 76) 209 209 rfl (.slice (ay ⟨g,(i+1)*2,aN⟩) (n - i) (c - (i+1))) (.slice (ay ⟨g,i*2,aN⟩) (n+1 - i) (c - i)) (by simp[tC,uK]) (by simp[tC,uK]) (hcp1 w.drew hg 3 (c - (i+1)) (c - i)) ?_)
 go_wp2
 go_ret
 refine ⟨rfl,R2,setRow_heap _ g R1 R2 272 (0,0) (setRow_heap w.drew g cur R1 272 (0,0) hg),hfin.1,hfin.2,⟨rfl,rfl,rfl,by simp[xM],fun k hk hne=>?_⟩⟩;have hkg:k≠g:=fun e=>hne (by rw[e]);rw[setRow_other _ _ _ _ hkg,setRow_other _ _ _ _ hkg];rfl
set_option maxHeartbeats 4000000 in
set_option maxRecDepth 100000 in
theorem aox(w:World)(v x:Value)(n vc:Nat)(xs news:List Value)(vb:Nat)(hv:w.ownsRow 0 272 2 v n xs)(hx:x=.slice (ay ⟨vb,0,aN⟩) 1 vc)(hnews:∀j u,news[j]?=ay u->w.cell? ((⟨vb,0,aN⟩:Addr).add j)=ay u)(hl:news.length=2)(h1:∀u∈news,u.oneCell'=aF)
  (h63:n+1<=maxLen) (hbytes:(n+1)*16<=140737488355328) :
  Calls aB 182 #[v,.int .i64 n,x] w fun e w'=>∃v',e=.returned v'/\w'.ownsRow 0 272 2 v' (n+1) (xs++news)/\w.grownBy w' (AY v)/\∀b,AY v'=ay b->AY v=ay b\/w.heap.size<=b:=by
 obtain ⟨inf,z,i1,i2,i3,i4,i5,_⟩:=info116;obtain ⟨v',w',hr,h2,h3,h4⟩:=RQ (P:=aB) (w:=w) 209 209 272 inf z 2 16 iq i1 i4 i2 i3 i5 (by decide) v n xs hv ⟨vb,0,aN⟩ 1 vc news (by rw[hl]) hnews h1 h63 hbytes;subst hx;have hsmall:n+1<=9223372036854775807:=by simp only[maxLen] at h63;omega
 have av7:v=.slice aN 0 0/\n=0\/∃g c,v=.slice (ay ⟨g,0,aN⟩) n c/\n<=c/\c<=9223372036854775807:=by
  rcases hv.2 with ⟨e1,e2⟩ |⟨g,c,cur,e1,_,_,e2,e3,_⟩
  ·exact .inl ⟨e1,e2⟩
  ·exact .inr ⟨g,c,e1,e2,by simp only[maxLen] at e3;omega⟩
 clear hv hnews h1;rcases av7 with ⟨rfl,rfl⟩ |⟨g,c,rfl,hnc,hc63⟩
 ·go_enter nZ,nM
  go_wp2_with (at_builtin;refine jZ _ rfl _ _ _ _ rfl _ _ rfl rfl _ _ hr ?_)
  go_ret
  exact ⟨v',rfl,h2,h3,h4⟩
 ·go_enter nZ,nM
  go_wp2_with (at_builtin;refine jZ _ rfl _ _ _ _ rfl _ _ rfl rfl _ _ hr ?_)
  all_goals
   go_ret
   exact ⟨v',rfl,h2,h3,h4⟩
set_option maxHeartbeats 4000000 in
set_option maxRecDepth 100000 in
theorem amf(w:World)(g n c i vb vc:Nat)(cur:Array Value)(cs vs:List Value)(hg:w.heap[g]?=ay (.cells cur 272 (0,0)))(NS:Array Value)(hgb:w.heap[vb]?=ay (.cells NS 272 (0,0)))
  (hi:i<n) (hnc:n<=c) (hroom:c<n+1) (hn63:n+1<=maxLen) (hbig:(n+1)*16<=140737488355328) (hcap:cur.size=c*2) (hcs:cur.toList.take (n*2)=cs) (hvs:NS.toList.take 2=vs) (hvl:vs.length=2)
  (h1c:∀v∈cs,v.oneCell'=aF) (h1v:∀v∈vs,v.oneCell'=aF) :
  Calls aB 182 #[.slice (ay ⟨g,0,aN⟩) n c,.int .i64 i,.slice (ay ⟨vb,0,aN⟩) 1 vc] w fun e w'=>
   ∃G cur',e=.returned (.slice (ay ⟨w.heap.size,0,aN⟩) (n+1) G)/\w'.heap[w.heap.size]?=ay (.cells cur' 272 (0,0))/\n+1<=G/\G<=maxLen/\cur'.size=G*2/\cur'.toList.take ((n+1)*2)=cs.take (i*2)++vs++cs.drop (i*2)/\w.grownBy w' (ay g):=by
 obtain ⟨inf,z,i1,i2,i3,i4,i5,zs,hz⟩:=info116;have hsz:(aB.info? 272).map (·.size)=ay 2:=by rw[i1];simp[i2]
 have hse:∀w,(nK 272).run aB w=.ok 2 w:=fun w=>by simp[nK,typeInfo,i1,i2]
 have hsmall:n+1<=9223372036854775807:=by simp only[maxLen] at hn63;omega
 have hw1:aW.wrap ((i:Int)+1)=(i:Int)+1:=by rw[iV];omega
 have hw2:aW.wrap ((n:Int)+1)=(n:Int)+1:=by rw[iV];omega
 have hw3:aW.wrap ((n:Int)+1 - (i:Int))=(n:Int)+1 - (i:Int):=by rw[iV];omega
 have hcl:cs.length=n*2:=by rw[<-hcs,cu,bV];omega
 have hdl:(cs.drop (i*2)).length=(n - i)*2:=by rw[dS,hcl];omega
 have htl:(cs.take (i*2)).length=i*2:=by rw[cu,hcl];omega
 have hcur:∀j v,cs[j]?=ay v->cur.toList[j]?=ay v:=fun j v hj=>by
  rw[<-hcs,bZ] at hj;split at hj
  ·exact hj
  ·cases hj
 have hgl:g<w.heap.size:=(bH.1 hg).1;have av8:vb<w.heap.size:=(bH.1 hgb).1;have hold:(gG inf.size i (.slice (ay ⟨g,0,aN⟩) i c)).run aB w.drew=.ok (cs.take (i*2)).toArray w.drew:=by
  rw[i2];exact run_firstCells_some w.drew 2 i ⟨g,0,aN⟩ i c (cs.take (i*2)) htl (fun j v hj=>by
   rw[eU,cell_of_row w.drew g _ cur 272 (0,0) hg];rw[bZ] at hj;split at hj
   ·have:=hcur _ _ hj
    simpa using this
   ·cases hj)
 obtain ⟨G,hG⟩:∃G,G=grownCap w (n+1) c 272:=⟨_,rfl⟩;obtain ⟨ROW,hROW⟩:∃ROW:Array Value,ROW=(cs.take (i*2)).toArray++jh z.cells (n+1 - i)++jh z.cells (G - (n+1)):=⟨_,rfl⟩;have hGn:n+1<=G:=by rw[hG];exact grownCap_ge w _ _ _
 have hGm:G<=maxLen:=by rw[hG];exact grownCap_le_maxLen w (n+1) c 272 hn63
 have hG63:G<=9223372036854775807:=by simp only[maxLen] at hGm;omega
 have hrz:∀ty,(eF #[209,3] ty #[.slice (ay ⟨g,0,aN⟩) i c,.int .i64 ((n:Int)+1 - (i:Int))]).run aB w =
   .ok (.slice (ay ⟨w.heap.size,0,aN⟩) (n+1) G) (w.drew.alloc (.cells ROW 272)):=fun ty=>by
  have h:=qN w 209 3 ty 272 inf z .i64 .i64 iq mQ i1 i4 (ay ⟨g,0,aN⟩) i c (cs.take (i*2)) hold (n+1 - i) (by omega) (by omega) (by omega) (by omega) (by rw[i3];omega) (by rw[i3,show i+(n+1 - i)=n+1 by omega];exact growslice_fits (by omega) hbig);rw[show i+(n+1 - i)=n+1 by omega,show (((n+1 - i:Nat)):Int)=(n:Int)+1 - (i:Int) by omega,<-hG,<-hROW] at h;exact h
 have hRs:ROW.size=G*2:=by
  rw[hROW];simp only[oC,gW,size_zeroCells,i5,htl];omega
 obtain ⟨R1,hR1⟩:∃R1,R1=(ROW.toList.take (i*2)++vs++ROW.toList.drop (i*2+vs.length)).toArray:=⟨_,rfl⟩;have ahp:R1.size=G*2:=by rw[hR1];simp only[gW,bf,cu,dS,bV,hvl];omega
 obtain ⟨R2,hR2⟩:∃R2,R2=(R1.toList.take ((i+1)*2)++cs.drop (i*2)++R1.toList.drop ((i+1)*2+(cs.drop (i*2)).length)).toArray:=⟨_,rfl⟩;obtain ⟨W1,hW1⟩:∃W1,W1=w.drew.alloc (.cells ROW 272):=⟨_,rfl⟩;rw[<-hW1] at hrz;have asU:W1.heap[w.heap.size]?=ay (.cells ROW 272 (0,0)):=by rw[hW1];exact heap_alloc_new w.drew _
 have aoz:∀k,k<w.heap.size->W1.heap[k]?=w.heap[k]?:=fun k hk=>by rw[hW1];first|exact wL w.drew _ k hk|exact heap_alloc_old w.drew _ hk
 have hcp1:(jV #[209,209] 3 #[.slice (ay ⟨w.heap.size,i*2,aN⟩) (n+1 - i) (G - i),.slice (ay ⟨vb,0,aN⟩) 1 vc]).run aB W1=.ok (goInt 1) (W1.setRow w.heap.size R1):=by
  have hmin:qg 1 (n+1 - i)=1:=by simp only[tq];split<;>omega
  have:=QG W1 209 209 3 272 2 w.heap.size (i*2) (n+1 - i) (G - i) ⟨vb,0,aN⟩ 1 vc ROW 272 vs iq hsz asU (by rw[hmin,hvl]) (fun j v hj=>by
    rw[eU,cell_of_row W1 vb _ NS 272 (0,0) (by rw[aoz vb av8];exact hgb)];rw[<-hvs,bZ] at hj;split at hj
    ·simpa using hj
    ·cases hj) (by rw[hvl,hRs];omega) h1v
  rw[hmin,<-hR1] at this;exact this
 have asV:(W1.setRow w.heap.size R1).drew.heap[w.heap.size]?=ay (.cells R1 272 (0,0)):=setRow_heap W1 w.heap.size ROW R1 272 (0,0) asU;have hcp2:(jV #[209,209] 3 #[.slice (ay ⟨w.heap.size,(i+1)*2,aN⟩) (n - i) (G - (i+1)),.slice (ay ⟨g,i*2,aN⟩) (n - i) (c - i)]).run aB (W1.setRow w.heap.size R1).drew=.ok (goInt ((n - i:Nat):Int)) ((W1.setRow w.heap.size R1).drew.setRow w.heap.size R2):=by
  have hmin:qg (n - i) (n - i)=n - i:=Nat.min_self _;have:=QG (W1.setRow w.heap.size R1).drew 209 209 3 272 2 w.heap.size ((i+1)*2) (n - i) (G - (i+1)) ⟨g,i*2,aN⟩ (n - i) (c - i) R1 272 (cs.drop (i*2)) iq hsz asV (by rw[hmin,hdl]) (fun j v hj=>by
    rw[eU,cell_of_row (W1.setRow w.heap.size R1).drew g _ cur 272 (0,0) (by
     show (W1.setRow w.heap.size R1).heap[g]?=_;rw[setRow_other _ _ _ _ (by omega),aoz g hgl];exact hg)]
    rw[eH] at hj;have:=hcur _ _ hj;simpa using this) (by rw[hdl,ahp];omega) (fun v hv=>h1c v (jw hv))
  rw[hmin,<-hR2] at this;exact this
 have hfin:R2.size=G*2/\R2.toList.take ((n+1)*2)=cs.take (i*2)++vs++cs.drop (i*2):=by
  have hl1:R1.toList.length=G*2:=by rw[bV,ahp]
  refine ⟨by rw[hR2];simp only[gW,bf,cu,dS,hl1,hdl];omega,?_⟩;have ht0:ROW.toList.take (i*2)=cs.take (i*2):=by
   rw[hROW];simp only[Array.toList_append,dV];exact List.take_left' htl
  have ht1:R1.toList.take ((i+1)*2)=cs.take (i*2)++vs:=by
   rw[hR1,ht0];have e1:(cs.take (i*2)++vs).length=(i+1)*2:=by rw[bf,htl,hvl];omega
   rw[<-e1];exact lD
  rw[hR2,ht1];have e2:(cs.take (i*2)++vs++cs.drop (i*2)).length=(n+1)*2:=by
   rw[bf,bf,htl,hvl,hdl];omega
  rw[<-e2];exact lD
 have mixed:aB.follows .mixedOrders=aF:=tY;have hb1:(0:Int)<=(i:Int)+1:=by omega
 have hin:i<=n:=by omega
 have htn:((i:Int)+1).toNat=i+1:=by omega
 have hb2:¬(c=i+1)\/c=i+1:=by omega
 have hb3:(i:Int)<=(n:Int)+1:=by omega
 have hb4:¬(c=i):=by omega
 have hGi:¬(G=i):=by omega
 have hGim:¬(G=i+1):=by omega
 have hz1:¬((i:Int)=(n:Int)):=by omega
 have hz3:(c:Int)<(n:Int)+1:=by omega
 have hr1:=hrz 209;have hsz1:W1.heap.size=w.heap.size+1:=by rw[hW1];simp
 have hos:W1.os=w.os/\W1.tape=w.tape/\W1.output=w.output:=by rw[hW1];exact ⟨rfl,rfl,rfl⟩
 clear hcs hvs h1c h1v hcur hR1 hR2 hROW hG hold hrz hb2 hW1;go_enter nZ,nM
 go_wp2_with (first
  |(at_builtin;refine jZ _ rfl _ _ _ _ rfl _ _ rfl rfl _ _ hr1 ?_))
 go_region_law_o (refine step_copy_runI rfl (.tmp 50) (.tmp 53) 209 209 rfl (.slice (ay ⟨w.heap.size,(i+1)*2,aN⟩) (n - i) (G - (i+1))) (.slice (ay ⟨g,i*2,aN⟩) (n - i) (c - i)) (by simp[tC,uK]) (by simp[tC,uK]) hcp2 ?_)
 go_wp2
 go_ret
 refine ⟨G,R2,rfl,setRow_heap _ w.heap.size R1 R2 272 (0,0) asV,hGn,hGm,hfin.1,hfin.2,⟨hos.1,hos.2.1,hos.2.2,?_,fun k hk hne=>?_⟩⟩
 ·have:((W1.setRow w.heap.size R1).drew.setRow w.heap.size R2).heap.size=W1.heap.size:=by simp[xM,World.drew]
  rw[this,hsz1];omega
 ·have hkg:k≠w.heap.size:=by omega
  rw[setRow_other _ _ _ _ hkg];show (W1.setRow w.heap.size R1).heap[k]?=_;rw[setRow_other _ _ _ _ hkg,aoz k hk]
theorem arT:ai5 aB 182 272 2 16:=by
 intro w v x n i xs news hv hx hne h1 h1n hi h63 hbytes;have hl:news.length=2:=by rw[hx.1]
 rcases hx.2 with ⟨_,h0⟩ |⟨vb,vc,NS,ex,_,hgb,hvc,hvm,hvs,hvt⟩
 ·omega
 have hb2:AY x=ay vb:=by rw[ex];rfl
 have hcell:∀j u,news[j]?=ay u->w.cell? ((⟨vb,0,aN⟩:Addr).add j)=ay u:=fun j u hj=>by
  rw[eU,cell_of_row w vb _ NS 272 (0,0) hgb];rw[<-hvt,bZ] at hj;split at hj
  ·simpa using hj
  ·cases hj
 by_cases hin:i=n
 ·subst hin
  refine (aox w v x i vc xs news vb hv ex hcell hl h1n h63 hbytes).mono fun e w' ⟨v',e1,e2,e3,e4⟩=>⟨v',e1,?_,e3,e4⟩;rw[List.take_of_length_le (by rw[hv.1];exact dw _),List.drop_of_length_le (by rw[hv.1];exact dw _),List.append_nil];exact e2
 rcases hv.2 with ⟨_,h0⟩ |⟨g,c,cur,ev,_,hg,hnc,hcm,hcs,hct⟩
 ·omega
 have hb:AY v=ay g:=by rw[ev];rfl
 have hvg:vb≠g:=fun e=>hne g hb (by rw[hb2,e]);have hlen:(xs.take (i*2)++news++xs.drop (i*2)).length=(n+1)*2:=by
  rw[bf,bf,cu,dS,hl,hv.1];omega
 have asW:NS.toList.take 2=news:=by simpa using hvt
 by_cases hroom:n+1<=c
 ·rw[hb,ev,ex]
  refine (aju w g n c i vb vc cur xs news hg NS hgb (by omega) hroom (by simp only[maxLen] at hcm;omega) hvg hcs hct asW hl (by omega) h1 h1n).mono fun e w' ⟨e1,cur',e2,e3,e4,e5⟩=>⟨_,e1,⟨hlen,.inr ⟨g,c,cur',rfl,gV _,e2,hroom,hcm,e3,e4⟩⟩,e5,fun b hb'=>.inl hb'⟩
 ·rw[hb,ev,ex]
  refine (amf w g n c i vb vc cur xs news hg NS hgb (by omega) hnc (by omega) h63 hbytes hcs hct asW hl h1 h1n).mono fun e w' ⟨G,cur',e1,e2,e3,e4,e5,e6,e7⟩=>⟨_,e1,⟨hlen,.inr ⟨w.heap.size,G,cur',rfl,gV _,e2,e3,e4,e5,e6⟩⟩,e7,fun b hb'=>.inr (by simp[AY] at hb';omega)⟩
end Go.Proofs
namespace Go.Pl
open Go Go.Sx
structure Lm7 where
 pos:Nat->(Nat->List Sh)->Int->Nat
 has:Nat->(Nat->List Sh)->Int->Bool
 wf:Nat->(Nat->List Sh)->Int->Bool
end Go.Pl
namespace Go.Proofs
open Go Go.Sx Go.Pl
def SN:List It:=[bD [0,0,1,1,1],dh 0,bD [1,1,1,1]]
def aoA:List It:=bD [0,0,0,1,1,1]::SN
def SQ(n:Nat)(p:Nat->Pr)(key i j:Int):Core:={tm:=F8 49 [(0,.sh (.sl 2 n (Az p))),(1,.sym .i64 key),(2,.fn 205 []),(8,.sym .i64 (n:Int)),(9,.sym .i64 i),(10,.sym .i64 j)],hp:=[],nx:=0,lim:=L0,tc:=[]}
theorem av9(A:Prim)(W:Wd)(n:Nat)(p:Nat->Pr)(key i' j':Int):BA (C7 A W noSpec Bc) BN 300 400 204 [.code []] (AL 49 [.sl 2 n (Az p),.i .i64 key,.fn 205 []] L0) [] [⟨204,SN,SQ n p key i' j',[]⟩]=aC (bJ 0 [aP (aH 2 n (Az p)) (aH 2 n (Az p)),ak key key,ak (A.Bl n) (ah n),ak (ah 0) i',ak (A.Bl n) j']):=by kernel_rfl
theorem aoB(A:Prim)(W:Wd)(n:Nat)(p:Nat->Pr)(key i j i' j':Int):BA (C7 A W noSpec Bc) BN 300 400 204 aoA (SQ n p key i j) [] [⟨204,SN,SQ n p key i' j',[]⟩]=aG (A.lt i j) (aI (A.inB (A.conv .i64 (A.bin qO lZ (A.conv .u64 (A.add .i64 i j)) (ah 1))) n) (aG (A.lt (A.sub .i64 (p (A.toN (A.conv .i64 (A.bin qO lZ (A.conv .u64 (A.add .i64 i j)) (ah 1))))).key key) (ah 0)) (aC (bJ 0 [aP (aH 2 n (Az p)) (aH 2 n (Az p)),ak key key,ak (ah n) (ah n),ak (A.add .i64 (A.conv .i64 (A.bin qO lZ (A.conv .u64 (A.add .i64 i j)) (ah 1))) (ah 1)) i',ak j j'])) (aC (bJ 0 [aP (aH 2 n (Az p)) (aH 2 n (Az p)),ak key key,ak (ah n) (ah n),ak i i',ak (A.conv .i64 (A.bin qO lZ (A.conv .u64 (A.add .i64 i j)) (ah 1))) j'])))) (aG (A.lt i (ah n)) (aI (A.inB i n) (aC (aU (cZ [aZ .i64 i,Sh.b (A.eq (A.sub .i64 (p (A.toN i)).key key) (ah 0))])))) (aC (aU (cZ [aZ .i64 i,Sh.b aA])))):=by kernel_rfl
end Go.Proofs
namespace Go.Pl
open Go Go.Sx Go.Proofs
def QH(ps:List Pr):Bool:=decide (ps.Pairwise fun a b=>a.key<b.key)&&ps.all fun p=>decide (0<=p.key/\p.key<=1000)
def EM(key:Int):Bool:=decide (0<=key/\key<=1000)
def CP(ps:List Pr)(key:Int):Nat:=(ps.takeWhile fun p=>decide (p.key<key)).length
def Ey(ps:List Pr)(key:Int):Bool:=ps.any fun p=>p.key==key
theorem ahq:∀{ps:List Pr} {key:Int} {k:Nat},k<=ps.length->(∀t (h:t<ps.length),t<k->ps[t].key<key)->(∀t (h:t<ps.length),k<=t->key<=ps[t].key)->CP ps key=k
 |[],key,k,hk,_,_=>by simp at hk;subst hk;rfl |a::ps,key,0,_,_,h2=>by
  have:=h2 0 (by simp) (dw _);simp only[rD] at this;have hd:decide (a.key<key)=aA:=decide_eq_false (by omega);simp[CP,jy,hd]
 |a::ps,key,k+1,hk,h1,h2=>by
  have ha:=h1 0 (by simp) (by omega);simp only[rD] at ha;have hd:decide (a.key<key)=aF:=decide_eq_true ha;have ih:=ahq (ps:=ps) (key:=key) (k:=k) (by simpa using hk) (fun t ht hlt=>h1 (t+1) (by simp;omega) (by omega)) (fun t ht hle=>h2 (t+1) (by simp;omega) (by omega));unfold CP at ih ⊢;simp only[jy,hd,iT,ih]
theorem ahr{ps:List Pr}{key:Int}{k:Nat}(hs:ps.Pairwise fun a b=>a.key<b.key)(h1:∀t (h:t<ps.length),t<k->ps[t].key<key)(h2:∀t (h:t<ps.length),k<=t->key<=ps[t].key):
  Ey ps key=aF↔∃h:k<ps.length,ps[k].key=key:=by
 unfold Ey;rw[List.any_eq_true];constructor
 ·rintro ⟨x,hx,he⟩
  obtain ⟨t,ht,rfl⟩:=List.getElem_of_mem hx;have he:ps[t].key=key:=by simpa using he
  have htk:¬t<k:=fun h=>by have:=h1 t ht h;omega
  have hkl:k<ps.length:=by omega
  refine ⟨hkl,?_⟩;by_cases e:t=k
  ·subst e;exact he
  ·have hlt:ps[k].key<ps[t].key:=jE.1 hs k t hkl ht (by omega)
   have:=h2 k hkl (dw _);omega
 ·rintro ⟨h,he⟩
  exact ⟨ps[k],kJ _,by simp[he]⟩
theorem Hu{ps:List Pr}(h:QH ps=aF):ps.Pairwise fun a b=>a.key<b.key:=by
 simp only[QH,aJ] at h;exact of_decide_eq_true h.1
theorem aoC{ps:List Pr}(h:QH ps=aF){t:Nat}(ht:t<ps.length):0<=ps[t].key/\ps[t].key<=1000:=by
 simp only[QH,aJ] at h;have:=dN.1 h.2 ps[t] (kJ _);exact of_decide_eq_true this
theorem arU{i j:Nat}(h:i+j<=1000000):Aw.conv .i64 (Aw.bin .shr .u64 (Aw.conv .u64 (Aw.add .i64 i j)) (ah 1))=(((i+j) / 2:Nat):Int):=by
 have e1:Aw.add .i64 i j=((i+j:Nat):Int):=by rw[DR,CO (by omega) (by omega)];omega
 rw[e1];have e2:Aw.conv .u64 ((i+j:Nat):Int)=((i+j:Nat):Int):=by
  show lZ.wrap _=_;rw[IntKind.wrap_u64];omega
 rw[e2];have e3:Aw.bin .shr .u64 ((i+j:Nat):Int) (ah 1)=(((i+j) / 2:Nat):Int):=by
  show Int.fdiv ((i+j:Nat):Int) (2^(min 1 64))=_;rw[show (min 1 64)=1 from rfl,Int.fdiv_eq_ediv_of_nonneg _ (by decide)];omega
 rw[e3];show aW.wrap _=_;exact CO (by omega) (by omega)
end Go.Pl
namespace Go.Proofs
open Go Go.Sx Go.Pl
def aoD:List Sh->Tree Sh
 |[.sl 2 n g,.i .i64 key,.fn 205 []]=>.need (okB Pr n g) (.need (decide (n<=100000)) (.need (QH (lst Pr n g)) (.need (EM key) (.leaf (.Ba [.i .i64 (CP (lst Pr n g) key),.b (Ey (lst Pr n g) key)]))))) |_=>.fail
theorem abP{H0:Mem}{w0:World}{n:Nat}{p:Nat->Pr}{key:Int}{φ:Sh->Prop}(hn:n<=100000)(hs:QH ((aY n).map p)=aF)(hk:EM key=aF)
  (hφ:φ (.Ba [.i .i64 (CP ((aY n).map p) key),.b (Ey ((aY n).map p) key)])) :
  ∀m i j,j - i<=m->i<=j->j<=n->(∀t,t<i->(p t).key<key)->(∀t,t<n->j<=t->key<=(p t).key)->BK aB (C7 Aw W7 noSpec Bc) (K0 H0 w0) 204 SN (SQ n p key i j) [] emp φ
 |m,i,j,hm,hij,hjn,h1,h2=>by
  have hkey:0<=key/\key<=1000:=of_decide_eq_true hk;have hp:∀t,t<n->0<=(p t).key/\(p t).key<=1000:=fun t ht=>by
   have:=aoC hs (t:=t) (by simpa using ht);simpa using this
  have hso:=Hu hs;have hlt:∀a b,a<b->b<n->(p a).key<(p b).key:=fun a b hab hb=>by
   have:=jE.1 hso a b (by simp;omega) (by simpa using hb) hab;simpa using this
  have sub_eq:∀t,t<n->Aw.sub .i64 (p t).key key=(p t).key - key:=fun t ht=>by
   have:=hp t ht;rw[MZ,CO (by omega) (by omega)]
  have hfin:i=j->(i<n->(p i).key=key->φ (.Ba [.i .i64 i,.b aF]))/\((i<n->(p i).key≠key)->φ (.Ba [.i .i64 i,.b aA])):=fun e=>by
   subst e;have hl:((aY n).map p).length=n:=by simp
   have q1:∀t (h:t<((aY n).map p).length),t<i->((aY n).map p)[t].key<key:=fun t ht hlt=>by simpa using h1 t hlt
   have q2:∀t (h:t<((aY n).map p).length),i<=t->key<=((aY n).map p)[t].key:=fun t ht hle=>by simpa using h2 t (by simpa using ht) hle
   rw[ahq (k:=i) (by rw[hl];exact hjn) q1 q2] at hφ;have hh:=ahr hso q1 q2;constructor
   ·intro a b
    have:Ey ((aY n).map p) key=aF:=hh.2 ⟨by rw[hl];exact a,by simpa using b⟩;rwa[this] at hφ
   ·intro a
    have:Ey ((aY n).map p) key=aA:=by
     cases hx:Ey ((aY n).map p) key with
     |false=>rfl |true=>
      obtain ⟨b,c⟩:=hh.1 hx;exact (a (by rw[hl] at b;exact b) (by simpa using c)).elim
    rwa[this] at hφ
  have hmid:=arU (i:=i) (j:=j) (by omega);refine FW (fn:=vN) (tb:=aoA) (by kernel_rfl) (by kernel_rfl) ?_;by_cases hlt2:i<j
  ·by_cases hcmp:(p ((i+j) / 2)).key<key
   ·refine Ic (dn _ _) (MB _) (hold:=Ec) (m:=300) (n:=400) (ts:=[⟨204,SN,SQ n p key ((i+j) / 2+1:Nat) j,[]⟩]) ?_
    rw[show Ec=BN from rfl,aoB Aw W7 n p key i j ((i+j) / 2+1:Nat) j,hmid];refine ⟨fun _=>⟨by simp[BO];omega,fun _=>⟨⟨rfl,rfl,rfl,?_,rfl,trivial⟩,_,rfl,?_⟩,fun h=>?_⟩,fun h=>?_⟩
    ·simp only[iL,DR,Hz]
     rw[CO (by omega) (by omega)];rfl
    ·match m,hm with
     |0,hm=>omega |m+1,hm=>
      refine abP hn hs hk hφ m ((i+j) / 2+1) j (by omega) (by omega) hjn (fun t ht=>?_) h2;by_cases e:t=(i+j) / 2
      ·subst e;exact hcmp
      ·have:=hlt t ((i+j) / 2) (by omega) (by omega);omega
    ·have e:Aw.toN (((i+j) / 2:Nat):Int)=(i+j) / 2:=rfl
     rw[e,sub_eq _ (by omega)] at h;simp[AO] at h;omega
    ·simp[AO] at h;omega
   ·refine Ic (dn _ _) (MB _) (hold:=Ec) (m:=300) (n:=400) (ts:=[⟨204,SN,SQ n p key i ((i+j) / 2:Nat),[]⟩]) ?_
    rw[show Ec=BN from rfl,aoB Aw W7 n p key i j i ((i+j) / 2:Nat),hmid];refine ⟨fun _=>⟨by simp[BO];omega,fun h=>?_,fun _=>⟨⟨rfl,rfl,rfl,rfl,rfl,trivial⟩,_,rfl,?_⟩⟩,fun h=>?_⟩
    ·have e:Aw.toN (((i+j) / 2:Nat):Int)=(i+j) / 2:=rfl
     rw[e,sub_eq _ (by omega)] at h;simp[AO] at h;omega
    ·match m,hm with
     |0,hm=>omega |m+1,hm=>
      refine abP hn hs hk hφ m i ((i+j) / 2) (by omega) (by omega) (by omega) h1 (fun t ht hle=>?_);by_cases e:t=(i+j) / 2
      ·subst e;omega
      ·have:=hlt ((i+j) / 2) t (by omega) ht;omega
    ·simp[AO] at h;omega
  ·have e:i=j:=by omega
   obtain ⟨f1,f2⟩:=hfin e;refine Ic (dn _ _) (MB _) (hold:=Ec) (m:=300) (n:=400) (ts:=[⟨204,SN,SQ n p key i j,[]⟩]) ?_;rw[show Ec=BN from rfl,aoB Aw W7 n p key i j i j];refine ⟨fun h=>?_,fun _=>⟨fun h=>⟨?_,?_⟩,fun h=>?_⟩⟩
   ·simp[AO] at h;omega
   ·simp[AO] at h;simp[BO];omega
   ·have hi:i<n:=by simp[AO] at h;omega
    show φ _;have e1:Aw.toN (i:Int)=i:=rfl;rw[e1,sub_eq i hi];by_cases he:(p i).key=key
    ·have:Aw.eq ((p i).key - key) (ah 0)=aF:=by simp[Bd];omega
     rw[this];exact f1 hi he
    ·have:Aw.eq ((p i).key - key) (ah 0)=aA:=by simp[Bd];omega
     rw[this];exact f2 fun _=>he
   ·exact f2 fun hi=>by simp[AO] at h;omega
theorem awc:Bh aB (BG W7) 204 aoD:=by
 refine KZ (C:=C7 Aw W7 noSpec Bc) (dn _ _) (fn:=vN) (by kernel_rfl) (by kernel_rfl) fun H w BI args φ hrep h=>?_
 unfold aoD at h;split at h
 ·rename_i n g key
  obtain ⟨h1,h2,h3,h4,hφ⟩:=h;match args,hrep with
  |[v,u1,u2],⟨hv,r1,r2,_⟩=>
   refine ⟨[.sl 2 n (Az (AB (α:=Pr) g)),.i .i64 key,.fn 205 []],⟨EK hv h1,r1,r2,trivial⟩,L0,?_⟩;have e:lst Pr n g=(aY n).map (AB g):=rfl;rw[e] at h3 hφ;generalize AB (α:=Pr) g=p at *;have h2:=of_decide_eq_true h2;have hn:vN.ntmps=49:=by kernel_rfl
   refine Ic (dn _ _) (MB _) (hold:=Ec) (m:=300) (n:=400) (ts:=[⟨204,SN,SQ n p key (0:Nat) n,[]⟩]) ?_;rw[show Ec=BN from rfl,hn,av9 Aw W7 n p key (0:Nat) n];exact ⟨⟨rfl,rfl,rfl,rfl,rfl,trivial⟩,_,rfl,abP h2 h3 h4 hφ n 0 n (by omega) (gV _) (dw _) (fun t ht=>by omega) (fun t ht hle=>by omega)⟩
 ·exact h.elim
end Go.Proofs
namespace Go.Pl
open Go Go.Sx
def BZ(n:Nat)(g:Nat->List Sh)(key:Int):Int:=(CP (lst Pr n g) key:Int)
def GU(n:Nat)(g:Nat->List Sh)(key:Int):Bool:=Ey (lst Pr n g) key
def Ig(n:Nat)(g:Nat->List Sh):Bool:=okB Pr n g&&decide (n<=100000)&&QH (lst Pr n g)
def PG(n:Nat)(g:Nat->List Sh)(key:Int):Int:=if GU n g key=aF then (AB (α:=Pr) g (CP (lst Pr n g) key)).val else 0
def Rk(n:Nat)(g:Nat->List Sh)(key:Int):Int:=if GU n g key=aF then 3 else 2
def Oo(n m:Nat):Nat:=n+m
def ad9(g:Nat->List Sh)(n:Nat)(h:Nat->List Sh):Nat->List Sh:=Aw.snoc g n h
end Go.Pl
namespace Go.Proofs
open Go Go.Sx Go.Pl
def ajv:List Sh->Tree Sh
 |[.sl 2 n g,.i .i64 key,.fn 205 []]=>.need (Ig n g) (.need (EM key) (.leaf (.Ba [.i .i64 (BZ n g key),.b (GU n g key)]))) |_=>.fail
def PI:Nat->Option (List Sh->Tree Sh)
 |204=>ay ajv |_=>aN
def akZ:List Sh->Tree Sh
 |[.agg [.i .i64 _,.i .i64 _,s2,s3],.i .i64 key]=>match Ej 1 s2,Ej 2 s3 with
  |some _,ay (n,g)=>.need (Ig n g) (.need (EM key) (.leaf (.Ba [.i .i64 (BZ n g key),.b (GU n g key)]))) |_,_=>.fail
 |_=>.fail
def Jh:Nat->Option (List Sh->Tree Sh)
 |181=>ay akZ |182=>ay (fun _=>.fail) |_=>aN
def aoE:List Sh->Tree Sh
 |[.agg [.i .i64 _,.i .i64 _,s2,s3],.i .i64 key]=>match Ej 1 s2,Ej 2 s3 with
  |some _,ay (n,g)=>.need (Ig n g) (.need (EM key) (.leaf (.Ba [.i .i64 (Rk n g key),.i .i64 (PG n g key)]))) |_,_=>.fail
 |_=>.fail
def SS:Nat->Option (List Sh->Tree Sh)
 |208=>ay (fun _=>.fail) |_=>aN
def aoF:List Sh->Tree Sh
 |[.sl 1 2 g]=>match g 0,g 1 with
  |[.sl 2 n g1],[.sl 2 m g2]=>.need (BU (Oo n m) 16) (.leaf (.sl 2 (Oo n m) (ad9 g1 n g2))) |_,_=>.fail
 |_=>.fail
def Fq:Nat->Option (List Sh->Tree Sh)
 |181=>ay akZ |184=>ay aoE |186=>ay aoF |_=>aN
theorem awd(A:Prim)(W:Wd)(x y:Int)(a b:Nat)(h:Nat->List Sh)(p:Nat->Pr)(key:Int):BA (C7 A W PI Bc) BN 300 400 181 [.code []] (AL 12 [.agg [.i .i64 x,.i .i64 y,.sl 1 a h,.sl 2 b (Az p)],.i .i64 key] L0) [] []=aI (Ig b (Az p)) (aI (EM key) (aC (aU (cZ [aZ .i64 (BZ b (Az p) key),Sh.b (GU b (Az p) key)])))):=by kernel_rfl
theorem a105(A:Prim)(W:Wd)(x y:Int)(a b:Nat)(h:Nat->List Sh)(p:Nat->Pr)(key:Int):BA (C7 A W Jh Bc) BN 300 400 184 [.code []] (AL 21 [.agg [.i .i64 x,.i .i64 y,.sl 1 a h,.sl 2 b (Az p)],.i .i64 key] L0) [] []=aI (Ig b (Az p)) (aI (EM key) (aG (GU b (Az p) key) (aI (A.inB (BZ b (Az p) key) b) (aC (aU (cZ [aZ .i64 (ah 3),aZ .i64 (p (A.toN (BZ b (Az p) key))).val])))) (aC (aU (cZ [aZ .i64 (ah 2),aZ .i64 (ah 0)]))))):=by kernel_rfl
theorem awe(A:Prim)(W:Wd)(x y:Int)(a b:Nat)(h:Nat->List Sh)(p:Nat->Pr)(key v:Int):BA (C7 A W Fq Bc) BN 300 400 183 [.code []] (AL 20 [.agg [.i .i64 x,.i .i64 y,.sl 1 a h,.sl 2 b (Az p)],.i .i64 key,.i .i64 v] L0) [] []=aI (Ig b (Az p)) (aI (EM key) (aC (aU (cZ [bU [aZ .i64 x,aZ .i64 y,aH 1 a h,aH 2 b (Az p)],aZ .i64 (Rk b (Az p) key),aZ .i64 (PG b (Az p) key)])))):=by kernel_rfl
theorem awf(A:Prim)(W:Wd)(x y:Int)(a b:Nat)(h:Nat->List Sh)(p:Nat->Pr)(key v:Int):BA (Yg A W Jh Bc) BN 300 400 179 [.code []] (AL 38 [.agg [.i .i64 x,.i .i64 y,.sl 1 a h,.sl 2 b (Az p)],.i .i64 key,.i .i64 v] L0) [] []=aG (A.leN b 0) ((aI (Ig 0 fun _=>[]) (aI (EM key) (aG (GU 0 (fun _=>[]) key) dJ (aI (A.upTo (BZ 0 (fun _=>[]) key) 0) (aI (A.room (A.addN 0 1) 16) (aC (aU (cZ [bU [aZ .i64 x,aZ .i64 y,aH 1 a h,jv 272 2 (A.addN 0 1) (A.ins (fun _=>[]) (A.toN (BZ 0 (fun _=>[]) key)) [aZ .i64 key,aZ .i64 v])],aZ .i64 (ah 1),aZ .i64 (ah 0)])))))))).both (aI (A.room (A.addN 0 b) 16) (aI (Ig (A.addN 0 b) (A.snoc (BD []) 0 (Az p))) (aI (EM key) (aG (GU (A.addN 0 b) (A.snoc (BD []) 0 (Az p)) key) (aI (A.inB (BZ (A.addN 0 b) (A.snoc (BD []) 0 (Az p)) key) (A.addN 0 b)) (aC (aU (cZ [bU [aZ .i64 x,aZ .i64 y,aH 1 a h,jv 272 2 (A.addN 0 b) (A.upd (A.snoc (BD []) 0 (Az p)) (A.toN (BZ (A.addN 0 b) (A.snoc (BD []) 0 (Az p)) key)) 1 [aZ .i64 v])],aZ .i64 (ah 1),aZ .i64 (ah 0)])))) (aI (A.upTo (BZ (A.addN 0 b) (A.snoc (BD []) 0 (Az p)) key) (A.addN 0 b)) (aI (A.room (A.addN (A.addN 0 b) 1) 16) (aC (aU (cZ [bU [aZ .i64 x,aZ .i64 y,aH 1 a h,jv 272 2 (A.addN (A.addN 0 b) 1) (A.ins (A.snoc (BD []) 0 (Az p)) (A.toN (BZ (A.addN 0 b) (A.snoc (BD []) 0 (Az p)) key)) [aZ .i64 key,aZ .i64 v])],aZ .i64 (ah 1),aZ .i64 (ah 0)])))))))))) (aI (A.room (A.addN 0 b) 16) (aI (Ig (A.addN 0 b) (A.snoc (BD []) 0 (Az p))) (aI (EM key) (aG (GU (A.addN 0 b) (A.snoc (BD []) 0 (Az p)) key) (aI (A.inB (BZ (A.addN 0 b) (A.snoc (BD []) 0 (Az p)) key) (A.addN 0 b)) (aC (aU (cZ [bU [aZ .i64 x,aZ .i64 y,aH 1 a h,jv 272 2 (A.addN 0 b) (A.upd (A.snoc (BD []) 0 (Az p)) (A.toN (BZ (A.addN 0 b) (A.snoc (BD []) 0 (Az p)) key)) 1 [aZ .i64 v])],aZ .i64 (ah 1),aZ .i64 (ah 0)])))) (aI (A.upTo (BZ (A.addN 0 b) (A.snoc (BD []) 0 (Az p)) key) (A.addN 0 b)) (aI (A.room (A.addN (A.addN 0 b) 1) 16) (aC (aU (cZ [bU [aZ .i64 x,aZ .i64 y,aH 1 a h,jv 272 2 (A.addN (A.addN 0 b) 1) (A.ins (A.snoc (BD []) 0 (Az p)) (A.toN (BZ (A.addN 0 b) (A.snoc (BD []) 0 (Az p)) key)) [aZ .i64 key,aZ .i64 v])],aZ .i64 (ah 1),aZ .i64 (ah 0)]))))))))):=by kernel_rfl
theorem a107(A:Prim)(W:Wd)(n m:Nat)(g1 g2:Nat->List Sh):BA (Yg A W SS A8) BN 300 400 186 [.code []] (AL 36 [.sl 1 2 (BD [[.sl 2 n g1],[.sl 2 m g2]])] L0) [] []=aG (A.lt (ah 0) (A.Bl 2)) (aI (A.inB (ah 0) 2) (aG (A.lt (A.add .i64 (ah 0) (A.Bl n)) (ah 0)) dJ (aG (A.lt (ah 1) (A.Bl 2)) (aI (A.inB (ah 1) 2) (aG (A.lt (A.add .i64 (A.add .i64 (ah 0) (A.Bl n)) (A.Bl m)) (ah 0)) dJ (aG (A.lt (ah 2) (A.Bl 2)) (aI (A.inB (ah 2) 2) dJ) (aI (A.le (ah 0) (A.add .i64 (A.add .i64 (ah 0) (A.Bl n)) (A.Bl m))) (aI (A.room (A.toN (A.add .i64 (A.add .i64 (ah 0) (A.Bl n)) (A.Bl m))) 16) (aG (A.lt (ah 0) (A.Bl 2)) (aI (A.inB (ah 0) 2) (aI (A.room (A.addN 0 n) 16) (aG (A.lt (ah 1) (A.Bl 2)) (aI (A.inB (ah 1) 2) (aI (A.room (A.addN (A.addN 0 n) m) 16) (aG (A.lt (ah 2) (A.Bl 2)) (aI (A.inB (ah 2) 2) dJ) (aC (aU (jv 272 2 (A.addN (A.addN 0 n) m) (A.snoc (A.snoc (fun _=>[]) 0 g1) (A.addN 0 n) g2))))))) (aC (aU (jv 272 2 (A.addN 0 n) (A.snoc (fun _=>[]) 0 g1))))))) (aC (aU (jv 272 2 0 fun _=>[]))))))))) (aI (A.le (ah 0) (A.add .i64 (ah 0) (A.Bl n))) (aI (A.room (A.toN (A.add .i64 (ah 0) (A.Bl n))) 16) (aG (A.lt (ah 0) (A.Bl 2)) (aI (A.inB (ah 0) 2) (aI (A.room (A.addN 0 n) 16) (aG (A.lt (ah 1) (A.Bl 2)) (aI (A.inB (ah 1) 2) (aI (A.room (A.addN (A.addN 0 n) m) 16) (aG (A.lt (ah 2) (A.Bl 2)) (aI (A.inB (ah 2) 2) dJ) (aC (aU (jv 272 2 (A.addN (A.addN 0 n) m) (A.snoc (A.snoc (fun _=>[]) 0 g1) (A.addN 0 n) g2))))))) (aC (aU (jv 272 2 (A.addN 0 n) (A.snoc (fun _=>[]) 0 g1))))))) (aC (aU (jv 272 2 0 fun _=>[]))))))))) (aI (A.le (ah 0) (ah 0)) (aI (A.room 0 16) (aG (A.lt (ah 0) (A.Bl 2)) (aI (A.inB (ah 0) 2) (aI (A.room (A.addN 0 n) 16) (aG (A.lt (ah 1) (A.Bl 2)) (aI (A.inB (ah 1) 2) (aI (A.room (A.addN (A.addN 0 n) m) 16) (aG (A.lt (ah 2) (A.Bl 2)) (aI (A.inB (ah 2) 2) dJ) (aC (aU (jv 272 2 (A.addN (A.addN 0 n) m) (A.snoc (A.snoc (fun _=>[]) 0 g1) (A.addN 0 n) g2))))))) (aC (aU (jv 272 2 (A.addN 0 n) (A.snoc (fun _=>[]) 0 g1))))))) (aC (aU (jv 272 2 0 fun _=>[])))))):=by kernel_rfl
noncomputable def SX(A:Prim)(W:Wd)(x y:Int)(a b:Nat)(h:Nat->List Sh)(p:Nat->Pr)(key:Int):List BQ:=[ak x x,ak y y,aP (aH 1 a h) (aH 1 a h),aP (aH 2 b (Az p)) (aH 2 b (Az p)),ak key key,ak (Rk b (Az p) key) (Rk b (Az p) key),ak (PG b (Az p) key) (PG b (Az p) key),ak (BZ b (Az p) key) (BZ b (Az p) key),BQ.bool (GU b (Az p) key) (GU b (Az p) key),ak x x,ak y y,aP (aH 1 a h) (aH 1 a h),aP (aH 2 (Oo (A.toN (BZ b (Az p) key)) (A.JM b (A.toN (A.add .i64 (BZ b (Az p) key) (ah 1))))) (ad9 (Az p) (A.toN (BZ b (Az p) key)) fun (j:Nat)=>Az p ((C7 A W Fq Bc).A.addN ((C7 A W Fq Bc).A.toN ((C7 A W Fq Bc).A.add .i64 (BZ b (Az p) key) 1)) j))) (aH 2 (Oo (A.toN (BZ b (Az p) key)) (A.JM b (A.toN (A.add .i64 (BZ b (Az p) key) (ah 1))))) (ad9 (Az p) (A.toN (BZ b (Az p) key)) fun (j:Nat)=>Az p ((C7 A W Fq Bc).A.addN ((C7 A W Fq Bc).A.toN ((C7 A W Fq Bc).A.add .i64 (BZ b (Az p) key) 1)) j))),BQ.nat 2 2,BQ.L9 (BD [[aH 2 (A.toN (BZ b (Az p) key)) (Az p)],[aH 2 (A.JM b (A.toN (A.add .i64 (BZ b (Az p) key) (ah 1)))) fun (j:Nat)=>Az p (A.addN (A.toN (A.add .i64 (BZ b (Az p) key) (ah 1))) j)]]) (BD [[aH 2 (A.toN (BZ b (Az p) key)) (Az p)],[aH 2 (A.JM b (A.toN (A.add .i64 (BZ b (Az p) key) (ah 1)))) fun (j:Nat)=>Az p (A.addN (A.toN (A.add .i64 (BZ b (Az p) key) (ah 1))) j)]])]
theorem awg(A:Prim)(W:Wd)(x y:Int)(a b:Nat)(h:Nat->List Sh)(p:Nat->Pr)(key v:Int):BA (C7 A W Fq Bc) BN 600 800 185 [.code []] (AL 41 [.agg [.i .i64 x,.i .i64 y,.sl 1 a h,.sl 2 b (Az p)],.i .i64 key,.i .i64 v] L0) [] []=aI (Ig b (Az p)) (aI (EM key) (aI (Ig b (Az p)) (aI (EM key) (aG (GU b (Az p) key) (aI (A.upTo (BZ b (Az p) key) b) (aI (A.upTo (A.add .i64 (BZ b (Az p) key) (ah 1)) b) (aI (BU (Oo (A.toN (BZ b (Az p) key)) (A.JM b (A.toN (A.add .i64 (BZ b (Az p) key) (ah 1))))) 16) (aI (A.upTo (BZ b (Az p) key) b) (aI (A.upTo (A.add .i64 (BZ b (Az p) key) (ah 1)) b) (aI (BU (Oo (A.toN (BZ b (Az p) key)) (A.JM b (A.toN (A.add .i64 (BZ b (Az p) key) (ah 1))))) 16) (aI (A.upTo (A.add .i64 (BZ b (Az p) key) (ah 1)) b) (aI (A.upTo (BZ b (Az p) key) b) (aI (BU (Oo (A.toN (BZ b (Az p) key)) (A.JM b (A.toN (A.add .i64 (BZ b (Az p) key) (ah 1))))) 16) (aT (SX A W x y a b h p key) (aT (SX A W x y a b h p key) (aI (A.upTo (BZ b (Az p) key) b) (aI (A.upTo (A.add .i64 (BZ b (Az p) key) (ah 1)) b) (aI (BU (Oo (A.toN (BZ b (Az p) key)) (A.JM b (A.toN (A.add .i64 (BZ b (Az p) key) (ah 1))))) 16) (aI (A.upTo (A.add .i64 (BZ b (Az p) key) (ah 1)) b) (aI (A.upTo (BZ b (Az p) key) b) (aI (BU (Oo (A.toN (BZ b (Az p) key)) (A.JM b (A.toN (A.add .i64 (BZ b (Az p) key) (ah 1))))) 16) (aT (SX A W x y a b h p key) (aI (A.upTo (A.add .i64 (BZ b (Az p) key) (ah 1)) b) (aI (A.upTo (BZ b (Az p) key) b) (aI (BU (Oo (A.toN (BZ b (Az p) key)) (A.JM b (A.toN (A.add .i64 (BZ b (Az p) key) (ah 1))))) 16) (aT (SX A W x y a b h p key) (aT (SX A W x y a b h p key) (aC (aU (cZ [bU [aZ .i64 x,aZ .i64 y,aH 1 a h,aH 2 (Oo (A.toN (BZ b (Az p) key)) (A.JM b (A.toN (A.add .i64 (BZ b (Az p) key) (ah 1))))) (ad9 (Az p) (A.toN (BZ b (Az p) key)) fun (j:Nat)=>Az p ((C7 A W Fq Bc).A.addN ((C7 A W Fq Bc).A.toN ((C7 A W Fq Bc).A.add .i64 (BZ b (Az p) key) 1)) j))],aZ .i64 (Rk b (Az p) key),aZ .i64 (PG b (Az p) key)])))))))))))))))))))))))))) (aC (aU (cZ [bU [aZ .i64 x,aZ .i64 y,aH 1 a h,aH 2 b (Az p)],aZ .i64 (Rk b (Az p) key),aZ .i64 (PG b (Az p) key)]))))))):=by kernel_rfl
end Go.Proofs
namespace Go.Pl
open Go Go.Sx Go.Proofs
def Fz(ps:List Pr)(key v:Int):List Pr:=if Ey ps key=aF then ps.set (CP ps key) ⟨key,v⟩ else ps.take (CP ps key)++⟨key,v⟩::ps.drop (CP ps key)
def Gq(ps:List Pr)(key:Int):List Pr:=if Ey ps key=aF then ps.take (CP ps key)++ps.drop (CP ps key+1) else ps
def Lr(ps:List Pr)(key:Int):Int:=if Ey ps key=aF then (nth ps (CP ps key)).val else 0
def MG(ps:List Pr)(key:Int):Int:=if Ey ps key=aF then 3 else 2
theorem SY(ps:List Pr)(key:Int):CP ps key<=ps.length:=by unfold CP;exact (rM _).length_le
theorem ak0{α:Type}{p:α->Bool}{x:α}:∀{l:List α},x∈l.takeWhile p->p x=aF
 |[],h=>by simp at h |a::l,h=>by
  cases ha:p a with
  |false=>simp[jy,ha] at h |true=>
   simp only[jy,ha,ig] at h;rcases h with rfl|h
   ·exact ha
   ·exact ak0 h
theorem ahs(ps:List Pr)(key:Int):∀t (h:t<ps.length),t<CP ps key->ps[t].key<key:=by
 intro t h ht;have h2:(ps.takeWhile fun p=>decide (p.key<key))[t]?=ps[t]?:=by
  have:=rM (p:=fun p:Pr=>decide (p.key<key)) (l:=ps);obtain ⟨r,hr⟩:=this;conv=>rhs;rw[<-hr]
  rw[dM ht]
 have h3:ps[t]∈ps.takeWhile fun p=>decide (p.key<key):=by
  rw[List.getElem?_eq_getElem h] at h2;exact List.mem_of_getElem? h2
 have:=ak0 h3;simpa using this
theorem aht{ps:List Pr}{key:Int}(hs:ps.Pairwise fun a b=>a.key<b.key):∀t (h:t<ps.length),CP ps key<=t->key<=ps[t].key:=by
 intro t h ht;have hk:CP ps key<ps.length:=by omega
 have h0:¬ps[CP ps key].key<key:=by
  intro hlt;have:CP ps key<(ps.takeWhile fun p=>decide (p.key<key)).length:=by
   have key2:∀(l:List Pr),(h:(l.takeWhile fun p=>decide (p.key<key)).length<l.length)->¬(l[(l.takeWhile fun p=>decide (p.key<key)).length].key<key):=by
    intro l;induction l with
    |nil=>intro h;simp at h |cons a l ih=>
     intro h;by_cases ha:a.key<key
     ·have hd:decide (a.key<key)=aF:=decide_eq_true ha
      simp only[jy,hd,iT] at h ⊢;exact ih (by omega)
     ·have hd:decide (a.key<key)=aA:=decide_eq_false ha
      simp only[jy,hd,qE] at h ⊢;exact ha
   exact (key2 ps hk hlt).elim
  unfold CP at this;omega
 by_cases e:t=CP ps key
 ·subst e;omega
 ·have:=jE.1 hs (CP ps key) t hk h (by omega)
  omega
theorem PK{ps:List Pr}{key:Int}(hs:ps.Pairwise fun a b=>a.key<b.key)(h:Ey ps key=aF):∃h:CP ps key<ps.length,ps[CP ps key].key=key:=(ahr hs (ahs ps key) (aht hs)).1 h
theorem abQ{α:Type}[Row α]{l:List α}{j:Nat}(h:j<l.length):nth l j=l[j]:=by simp[nth,h]
theorem aoG{α:Type}[Row α]{l:List α}{k j:Nat}{a:α}(hk:k<l.length)(hj:j<l.length):nth (l.set k a) j=if j=k then a else nth l j:=by
 rw[abQ (by simpa using hj),abQ hj,List.getElem_set];by_cases e:k=j
 ·subst e;simp
 ·rw[if_neg e,if_neg (Ne.symm e)]
theorem aoH{α:Type}[Row α]{l:List α}{k j:Nat}{a:α}(hk:k<=l.length)(hj:j<l.length+1):nth (l.take k++a::l.drop k) j=if j<k then nth l j else if j=k then a else nth l (j - 1):=by
 have hlen:(l.take k++a::l.drop k).length=l.length+1:=by simp;omega
 have ht:(l.take k).length=k:=by simp;omega
 unfold nth;split
 ·rename_i h
  simp only[aX];rw[dM (by omega),bZ,if_pos h]
 ·split
  ·rename_i h
   subst h;simp only[aX];rw[fD (by omega),ht,qR];rfl
  ·rename_i h1 h2
   simp only[aX];rw[fD (by omega),ht];obtain ⟨m,hm⟩:∃m,j - k=m+1:=⟨j - k - 1,by omega⟩;rw[hm,List.getElem?_cons_succ,eH];congr 2;omega
theorem aoI{α:Type}[Row α]{l:List α}{k j:Nat}(hk:k<l.length)(hj:j<l.length - 1):nth (l.take k++l.drop (k+1)) j=if j<k then nth l j else nth l (j+1):=by
 have ht:(l.take k).length=k:=by simp;omega
 unfold nth;split
 ·rename_i h
  simp only[aX];rw[dM (by omega),bZ,if_pos h]
 ·simp only[aX]
  rw[fD (by omega),ht,eH];congr 2;omega
theorem afp{ps:List Pr}{key v:Int}(h:Ey ps key=aA):Fz ps key v=ps.take (CP ps key)++⟨key,v⟩::ps.drop (CP ps key):=if_neg (by rw[h];simp)
theorem afq{ps:List Pr}{key v:Int}(h:Ey ps key=aF):Fz ps key v=ps.set (CP ps key) ⟨key,v⟩:=if_pos h
theorem afr{ps:List Pr}{key:Int}(h:Ey ps key=aA):Gq ps key=ps:=if_neg (by rw[h];simp)
theorem afs{ps:List Pr}{key:Int}(h:Ey ps key=aF):Gq ps key=ps.take (CP ps key)++ps.drop (CP ps key+1):=if_pos h
theorem abR{ps:List Pr}{key v:Int}:(Fz ps key v).length=if Ey ps key=aF then ps.length else ps.length+1:=by
 have:=SY ps key;unfold Fz;split
 ·simp
 ·simp;omega
theorem ahu{ps:List Pr}{key:Int}(hs:QH ps=aF):(Gq ps key).length=if Ey ps key=aF then ps.length - 1 else ps.length:=by
 have:=SY ps key;unfold Gq;split
 ·rename_i h
  obtain ⟨h1,_⟩:=PK (Hu hs) h;simp;omega
 ·rfl
theorem aoJ{n:Nat}{g:Nat->List Sh}{key:Int}(hs:QH (lst Pr n g)=aF):PG n g key=Lr (lst Pr n g) key:=by
 unfold PG Lr GU;split
 ·rename_i h
  obtain ⟨h1,_⟩:=PK (Hu hs) h;rw[SI (by simpa using h1)]
 ·rfl
theorem Ih{n:Nat}{g:Nat->List Sh}:Ig n g=aF↔okB Pr n g=aF/\n<=100000/\QH (lst Pr n g)=aF:=by
 simp[Ig,and_assoc]
end Go.Pl
namespace Go.Proofs
open Go Go.Sx Go.Pl Go.Lib
theorem atD:Bh aB (BG W7) 204 ajv:=awc.mono fun H BI args φ hr h=>by
 unfold ajv at h;split at h
 ·rename_i n g key
  obtain ⟨h1,h2,hφ⟩:=h;obtain ⟨q1,q2,q3⟩:=Ih.1 h1;simp only[aoD];exact ⟨q1,decide_eq_true q2,q3,h2,hφ⟩
 ·exact h.elim
theorem atE:∀g F,PI g=ay F->Bh aB (BG W7) g F:=fun g F h=>by
 unfold PI at h;split at h
 ·cases h;exact atD
 ·cases h
theorem arV(stop:Nat->List Nat->Bool):Cb aB (C7 Aw W7 PI stop):=nU atE fun g h=>by
 unfold PI at h;split at h;all_goals first|(cases h;done) |kernel_rfl
theorem S9{H:Mem}{x y:Int}{s2 s3:Sh}{n b:Nat}{g l:Nat->List Sh}{v:Value}(hs2:Ej 1 s2=ay (n,g))(hs:Ej 2 s3=ay (b,l))(hw:okB Pr b l=aF)(r:Rep H (.agg [.i .i64 x,.i .i64 y,s2,s3]) v):
  Rep H (.agg [.i .i64 x,.i .i64 y,.sl 1 n g,.sl 2 b (Az (AB (α:=Pr) l))]) v:=Ip r (fun _ hu=>Ce hs2 hu) fun _ hu=>EK (Ce hs hu) hw
theorem Tc{b:Nat}{l:Nat->List Sh}(h:Ig b l=aF):Ig b (Az (AB (α:=Pr) l))=aF/\∀key,GU b (Az (AB (α:=Pr) l)) key=GU b l key/\BZ b (Az (AB (α:=Pr) l)) key=BZ b l key:=by
 have e:lst Pr b (Az (AB (α:=Pr) l))=lst Pr b l:=by rw[PD];rfl
 obtain ⟨h1,h2,h3⟩:=Ih.1 h;exact ⟨Ih.2 ⟨Eh _ _,h2,by rw[e];exact h3⟩,fun key=>⟨by unfold GU;rw[e],by unfold BZ;rw[e]⟩⟩
theorem asX:Bh aB (BG W7) 181 akZ:=by
 refine Ei (C:=C7 Aw W7 PI Bc) (dn _ _) (arV _) (m:=300) (n:=400) (L:=L0) (fn:=zU) (by kernel_rfl) (by kernel_rfl) fun H w BI args φ hrep h=>?_
 have hn:zU.ntmps=12:=by kernel_rfl
 unfold akZ at h;split at h
 ·rename_i x y s2 s3 key
  split at h
  ·rename_i z b l hs2 hs
   obtain ⟨a,hh⟩:=z;obtain ⟨h1,h2,hφ⟩:=h;match args,hrep with
   |[v,u1],⟨hv,r1,_⟩=>
    obtain ⟨q1,q2⟩:=Tc h1;refine ⟨[.agg [.i .i64 x,.i .i64 y,.sl 1 a hh,.sl 2 b (Az (AB (α:=Pr) l))],.i .i64 key],⟨S9 hs2 hs (Ih.1 h1).1 hv,r1,trivial⟩,?_⟩;rw[hn,awd Aw W7 x y a b hh (AB l) key,(q2 key).1,(q2 key).2];exact ⟨q1,h2,Cj (s':=.Ba [.i .i64 (BZ b l key),.b (GU b l key)]) ⟨rfl,.inl rfl,trivial⟩ hφ⟩
  ·exact h.elim
 ·exact h.elim
theorem aoK:∀g F,Jh g=ay F->Bh aB (BG W7) g F:=fun g F h=>by
 unfold Jh at h;split at h
 ·cases h;exact asX
 ·cases h;exact fun H w BI args φ _ _ _ h=>h.elim
 ·cases h
theorem arW(stop:Nat->List Nat->Bool):Cb aB (C7 Aw W7 Jh stop):=nU aoK fun g h=>by
 unfold Jh at h;split at h;all_goals first|(cases h;done) |kernel_rfl
theorem aoL:ni.get 272=ay ⟨.struct [(0,1,aA),(1,1,aA)],2,16,[.int .i64 0,.int .i64 0]⟩:=by kernel_rfl
set_option maxHeartbeats 4000000 in
set_option maxRecDepth 100000 in
theorem aoM:ae1 aB 208 272 2 16:=by
 intro w k hk hb;obtain ⟨inf,z,i1,i2,i3,i4,i5,zs,hz⟩:=info116;have hsmall:k<=9223372036854775807:=by simp only[maxLen] at hk;omega
 have hse:∀w,(nK 272).run aB w=.ok 2 w:=fun w=>by simp[nK,typeInfo,i1,i2]
 by_cases h0:k=0
 ·subst h0
  go_enter yR,xO
  go_wp2
  go_ret
  exact ⟨_,rfl,Po _ _ _,⟨rfl,rfl,rfl,dw _,fun _ _ _=>rfl⟩,fun b hb=>by simp[AY] at hb⟩
 ·obtain ⟨G,hG⟩:∃G,G=grownCap w (0+k) 0 272:=⟨_,rfl⟩
  have hGn:k<=G:=by rw[hG];have:=grownCap_ge w (0+k) 0 272;omega
  have hGm:G<=maxLen:=by rw[hG];exact grownCap_le_maxLen w (0+k) 0 272 (by omega)
  have hG63:G<=9223372036854775807:=by simp only[maxLen] at hGm;omega
  obtain ⟨ROW,hROW⟩:∃ROW:Array Value,ROW=([]:List Value).toArray++jh z.cells k++jh z.cells (G - (0+k)):=⟨_,rfl⟩;have hRs:ROW.size=G*2:=by
   rw[hROW];simp only[oC,gW,size_zeroCells,i5,qE];omega
  have hr:∀ty,(eF #[209,3] ty #[.slice aN 0 0,.int .i64 k]).run aB w=.ok (.slice (ay ⟨w.heap.size,0,aN⟩) k G) (w.drew.alloc (.cells ROW 272)):=fun ty=>by
   have h:=qN w 209 3 ty 272 inf z .i64 .i64 iq mQ i1 i4 aN 0 0 [] (by simp[gG]) k (by omega) (by omega) (by omega) (by omega) (by rw[i3];omega) (by rw[i3];exact growslice_fits (by omega) (by omega));rw[<-hG,<-hROW,Nat.zero_add] at h;exact h
  obtain ⟨W1,hW1⟩:∃W1,W1=w.drew.alloc (.cells ROW 272):=⟨_,rfl⟩;have f1:W1.heap[w.heap.size]?=ay (.cells ROW 272 (0,0)):=by rw[hW1];exact heap_alloc_new w.drew _
  have f2:w.grownBy W1 aN:=⟨by rw[hW1];rfl,by rw[hW1];rfl,by rw[hW1];rfl,by rw[hW1];simp,fun j hj _=>by rw[hW1];first|exact wL w.drew _ j hj|exact heap_alloc_old w.drew _ hj⟩
  have hr1:=hr 209;rw[<-hW1] at hr1;have hk0:¬((k:Int)=0):=by omega
  have hk1:(0:Int)<k:=by omega
  clear hROW hr hG hW1;go_enter yR,xO
  go_wp2_with (first
   |(at_builtin;refine jZ _ rfl _ _ _ _ rfl _ _ rfl rfl _ _ hr1 ?_))
  go_ret
  exact ⟨_,rfl,⟨by simp,.inr ⟨w.heap.size,G,ROW,rfl,gV _,f1,gV _,hGm,hRs,by simp⟩⟩,f2,fun b hb=>by simp[AY] at hb;omega⟩
theorem atF:∀g e te,aom g=ay e->ni.get e=ay te->xP aB g/\ai5 aB g e te.size te.bytes:=fun g e te h ht=>by
 unfold aom at h;split at h
 ·cases h
  rw[aoL] at ht;cases ht;exact ⟨Ht jl jM 182 (by kernel_rfl),arT⟩
 ·cases h
theorem atG:∀g e te,ajp g=ay e->ni.get e=ay te->xP aB g/\ae1 aB g e te.size te.bytes:=fun g e te h ht=>by
 unfold ajp at h;split at h
 ·cases h
  rw[aoL] at ht;cases ht;exact ⟨Ht jl jM 208 (by kernel_rfl),aoM⟩
 ·cases h
theorem Yg.Um{spec:Nat->Option (List Sh->Tree Sh)}{stop:Nat->List Nat->Bool}(hs:∀g F,spec g=ay F->Bh aB (BG W7) g F)(he:∀g,(spec g).isSome=aF->(Tryz.fns.get g).isSome=aF):Cb aB (Yg Aw W7 spec stop):=⟨hs,(fun g h=>by
  rcases h with h|h
  ·exact Ht jl jM g (he g h)
  ·exact Ht jl jM g h),atF,atG⟩
theorem aoN(stop:Nat->List Nat->Bool):Cb aB (Yg Aw W7 Jh stop):=Yg.Um aoK fun g h=>by
 unfold Jh at h;split at h;all_goals first|(cases h;done) |kernel_rfl
theorem Xk{b:Nat}{l:Nat->List Sh}{key:Int}(h1:Ig b l=aF)(h:GU b l key=aF):CP (lst Pr b l) key<b:=by
 obtain ⟨_,_,h3⟩:=Ih.1 h1;obtain ⟨h4,_⟩:=PK (Hu h3) h;simpa using h4
theorem awh:Bh aB (BG W7) 184 aoE:=by
 refine Ei (C:=C7 Aw W7 Jh Bc) (dn _ _) (arW _) (m:=300) (n:=400) (L:=L0) (fn:=zV) (by kernel_rfl) (by kernel_rfl) fun H w BI args φ hrep h=>?_
 have hn:zV.ntmps=21:=by kernel_rfl
 unfold aoE at h;split at h
 ·rename_i x y s2 s3 key
  split at h
  ·rename_i z b l hs2 hs
   obtain ⟨a,hh⟩:=z;obtain ⟨h1,h2,hφ⟩:=h;match args,hrep with
   |[v,u1],⟨hv,r1,_⟩=>
    obtain ⟨q1,q2⟩:=Tc h1;refine ⟨[.agg [.i .i64 x,.i .i64 y,.sl 1 a hh,.sl 2 b (Az (AB (α:=Pr) l))],.i .i64 key],⟨S9 hs2 hs (Ih.1 h1).1 hv,r1,trivial⟩,?_⟩;rw[hn,a105 Aw W7 x y a b hh (AB l) key,(q2 key).1,(q2 key).2];have e:Aw.toN (BZ b l key)=CP (lst Pr b l) key:=rfl;refine ⟨q1,h2,fun h=>⟨?_,Cj (s':=.Ba [.i .i64 (Rk b l key),.i .i64 (PG b l key)]) ⟨?_,?_,trivial⟩ hφ⟩,fun h=>Cj (s':=.Ba [.i .i64 (Rk b l key),.i .i64 (PG b l key)]) ⟨?_,?_,trivial⟩ hφ⟩
    ·have:=Xk h1 h
     simp[BO,BZ];exact this
    ·show aZ _ _=_;simp[Rk,h]
    ·show aZ _ _=_;rw[e];simp[PG,h]
    ·show aZ _ _=_;simp[Rk,h]
    ·show aZ _ _=_;simp[PG,h]
  ·exact h.elim
 ·exact h.elim
def aoO:List Sh->Tree Sh
 |[.agg [.i .i64 x,.i .i64 y,s2,s3],u,t]=>match Ej 1 s2,Ej 2 s3,BH u,BH t with
  |some (a,h),ay (b,l),ay key,ay _=>.need (Ig b l) (.need (EM key) (.leaf (.Ba [.agg [.i .i64 x,.i .i64 y,.sl 1 a h,.sl 2 b l],.i .i64 (MG (lst Pr b l) key),.i .i64 (Lr (lst Pr b l) key)]))) |_,_,_,_=>.fail
 |_=>.fail
def aoP:List Sh->Tree Sh
 |[.agg [.i .i64 x,.i .i64 y,s2,s3],u,t]=>match Ej 1 s2,Ej 2 s3,BH u,BH t with
  |some (a,h),ay (b,l),ay key,ay v=>.need (Ig b l) (.need (EM key) (.need (BU (b+1) 16) (.leaf (.Ba [.agg [.i .i64 x,.i .i64 y,.sl 1 a h,.sl 2 (len (Fz (lst Pr b l) key v)) (Az (nth (Fz (lst Pr b l) key v)))],.i .i64 1,.i .i64 0])))) |_,_,_,_=>.fail
 |_=>.fail
def aoQ:List Sh->Tree Sh
 |[.agg [.i .i64 x,.i .i64 y,s2,s3],u,t]=>match Ej 1 s2,Ej 2 s3,BH u,BH t with
  |some (a,h),ay (b,l),ay key,ay _=>.need (Ig b l) (.need (EM key) (.need (BU (b+1) 16) (.leaf (.Ba [.agg [.i .i64 x,.i .i64 y,.sl 1 a h,.sl 2 (len (Gq (lst Pr b l) key)) (Az (nth (Gq (lst Pr b l) key)))],.i .i64 (MG (lst Pr b l) key),.i .i64 (Lr (lst Pr b l) key)])))) |_,_,_,_=>.fail
 |_=>.fail
theorem awi:Bh aB (BG W7) 179 aoP:=by
 refine Ei (C:=Yg Aw W7 Jh Bc) (zW _ _) (aoN _) (m:=300) (n:=400) (L:=L0) (fn:=zX) (by kernel_rfl) (by kernel_rfl) fun H w BI args φ hrep h=>?_
 have hn:zX.ntmps=38:=by kernel_rfl
 unfold aoP at h;split at h
 ·rename_i x y s2 s3 u t
  split at h
  ·rename_i a hh b l key vv hs2 hs hu ht
   obtain ⟨h1,h2,h3,hφ⟩:=h;match args,hrep with
   |[v,u1,u2],⟨hv,r1,r2,_⟩=>
    obtain ⟨q1,q2⟩:=Tc h1;obtain ⟨w1,w2,w3⟩:=Ih.1 h1;have hso:=Hu w3;refine ⟨[.agg [.i .i64 x,.i .i64 y,.sl 1 a hh,.sl 2 b (Az (AB (α:=Pr) l))],.i .i64 key,.i .i64 vv],⟨S9 hs2 hs w1 hv,EH hu r1,EH ht r2,trivial⟩,?_⟩;rw[hn,awf Aw W7 x y a b hh (AB l) key vv,QC b,QD,(q2 key).1,(q2 key).2];have hll:(lst Pr b l).length=b:=FQ b l;have hat:∀j (hj:j<b),nth (lst Pr b l) j=AB (α:=Pr) l j:=fun j hj=>SI hj
    have e:Aw.toN (BZ b l key)=CP (lst Pr b l) key:=rfl;have awj:CP (lst Pr b l) key<=b:=by have:=SY (lst Pr b l) key;rw[hll] at this;exact this
    have hup:Aw.upTo (BZ b l key) b=aF:=by simp[II,BZ];omega
    have r0:Aw.room b 16=aF:=Lm h3 (wE b);have fin (n':Nat) (g':Nat->List Sh) (hn':n'=len (Fz (lst Pr b l) key vv)) (hg:∀j,j<n'->g' j=Az (nth (Fz (lst Pr b l) key vv)) j) :
      up φ (.Ba [.agg [.i .i64 x,.i .i64 y,.sl 1 a hh,.os 272 2 n' g'],.i .i64 (ah 1),.i .i64 (ah 0)]):=
     Cj (s':=.Ba [.agg [.i .i64 x,.i .i64 y,.sl 1 a hh,.sl 2 (len (Fz (lst Pr b l) key vv)) (Az (nth (Fz (lst Pr b l) key vv)))],.i .i64 1,.i .i64 0]) ⟨⟨rfl,rfl,.inr ⟨rfl,rfl,fun _ _=>rfl⟩,.inr ⟨rfl,hn',hg⟩,trivial⟩,rfl,rfl,trivial⟩ hφ
    have hput (hb:GU b l key=aF):len (Fz (lst Pr b l) key vv)=b:=by
     have hb:Ey (lst Pr b l) key=aF:=hb;show (Fz (lst Pr b l) key vv).length=b;rw[abR,if_pos hb,hll]
    have aoR (hb:GU b l key=aA):len (Fz (lst Pr b l) key vv)=b+1:=by
     have hb:Ey (lst Pr b l) key=aA:=hb;show (Fz (lst Pr b l) key vv).length=b+1;rw[abR,if_neg (by rw[hb];simp),hll]
    have yes (hb:GU b l key=aF):Aw.inB (BZ b l key) b=aF/\up φ (.Ba [.agg [.i .i64 x,.i .i64 y,.sl 1 a hh,.os 272 2 b (Aw.upd (Az (AB (α:=Pr) l)) (Aw.toN (BZ b l key)) 1 [.i .i64 vv])],.i .i64 (ah 1),.i .i64 (ah 0)]):=by
     have hlt:=Xk h1 hb;refine ⟨by simp[BO,BZ];omega,fin b _ (hput hb).symm fun j hj=>?_⟩;have hb':Ey (lst Pr b l) key=aF:=hb;obtain ⟨k1,k2⟩:=PK hso hb';rw[ad6,e];show _=prR (nth (Fz (lst Pr b l) key vv) j);rw[afq hb',aoG k1 (by rw[hll];exact hj)];by_cases ej:j=CP (lst Pr b l) key
     ·rw[if_pos ej,if_pos ej]
      have hk:(AB (α:=Pr) l (CP (lst Pr b l) key)).key=key:=by rw[<-hat _ hlt,abQ k1];exact k2
      subst ej;simp[Az,Row.put,prR,hk]
     ·rw[if_neg ej,if_neg ej,hat j hj];rfl
    have no (hb:GU b l key=aA):up φ (.Ba [.agg [.i .i64 x,.i .i64 y,.sl 1 a hh,.os 272 2 (Aw.addN b 1) (Aw.ins (Az (AB (α:=Pr) l)) (Aw.toN (BZ b l key)) [.i .i64 key,.i .i64 vv])],.i .i64 (ah 1),.i .i64 (ah 0)]):=by
     refine fin (b+1) _ (aoR hb).symm fun j hj=>?_
     have hb':Ey (lst Pr b l) key=aA:=hb;rw[e];show (if j<_ then _ else if j=_ then _ else _)=prR (nth (Fz (lst Pr b l) key vv) j);rw[afp hb',aoH (by rw[hll];exact awj) (by rw[hll];exact hj)];split
     ·rw[hat j (by omega)];rfl
     ·split
      ·rfl
      ·rw[hat (j - 1) (by omega)];rfl
    refine ⟨fun h0=>⟨?_,?_⟩,fun _=>?_⟩
    ·
     have hb0:b=0:=by simp[Yj] at h0;exact h0
     subst hb0;have hnil:∀g':Nat->List Sh,lst Pr 0 g'=[]:=fun _=>rfl
     have wf0:Ig 0 (fun _=>[])=aF:=by unfold Ig;rw[hnil];rfl
     have hh0:GU 0 (fun _=>[]) key=aA:=by unfold GU;rw[hnil];rfl
     have hh1:GU 0 l key=aA:=by unfold GU;rw[hnil];rfl
     have hp0:BZ 0 (fun _=>[]) key=0:=by unfold BZ;rw[hnil];rfl
     refine ⟨wf0,h2,fun hx=>(by rw[hh0] at hx;cases hx),fun _=>⟨by rw[hp0];rfl,h3,?_⟩⟩;refine fin 1 _ (aoR hh1).symm fun j hj=>?_
     obtain rfl:j=0:=by omega
     rw[hp0];show [aZ .i64 key,.i .i64 vv]=prR (nth (Fz [] key vv) 0);rfl
    all_goals exact ⟨r0,q1,h2,fun hb=>yes hb,fun hb=>⟨hup,h3,no hb⟩⟩
  ·exact h.elim
 ·exact h.elim
theorem arX(stop:Nat->List Nat->Bool):Cb aB (Yg Aw W7 SS stop):=Yg.Um (fun g F h=>by
  unfold SS at h;split at h
  ·cases h;exact fun H w BI args φ _ _ _ h=>h.elim
  ·cases h) fun g h=>by
 unfold SS at h;split at h;all_goals first|(cases h;done) |kernel_rfl
theorem awk:Bh aB (BG W7) 186 aoF:=by
 refine FX (C:=Yg Aw W7 SS A8) (zW _ _) (fn:=zY) (by kernel_rfl) (by kernel_rfl) fun H w BI args φ hrep h=>?_
 have hn:zY.ntmps=36:=by kernel_rfl
 unfold aoF at h;split at h
 ·rename_i g
  split at h
  ·rename_i n g1 m g2 h0 h1
   obtain ⟨hr,hφ⟩:=h;match args,hrep with
   |[v],⟨hv,_⟩=>
    refine ⟨[.sl 1 2 (BD [[.sl 2 n g1],[.sl 2 m g2]])],⟨ER hv fun j hj=>?_,trivial⟩,L0,Ic (zW _ _) (arX _) (hold:=BN) (m:=300) (n:=400) (ts:=[]) ?_⟩
    ·have:j=0\/j=1:=by omega
     rcases this with rfl|rfl
     ·rw[h0];rfl
     ·rw[h1];rfl
    ·rw[hn,a107 Aw W7 n m g1 g2]
     have hr:Aw.room (n+m) 16=aF:=hr;obtain ⟨hr1,hr2⟩:=FV hr;rw[maxLen_eq] at hr2;have e0:Aw.add .i64 (ah 0) (Aw.Bl n)=(n:Int):=by
      rw[DR,Bg];show aW.wrap (0+(n:Int))=n;rw[Int.zero_add];exact CO (by omega) (by omega)
     have e1:Aw.add .i64 (n:Int) (Aw.Bl m)=((n+m:Nat):Int):=by
      rw[DR,Bg,CO (by omega) (by omega)];omega
     rw[e0,e1];have ng (k:Nat):Aw.lt (k:Int) (ah 0)=aA:=by simp[AO]
     have r0:Aw.room (Aw.addN 0 n) 16=aF:=by rw[QC];exact Lm hr (Nat.le_add_right n m)
     have r1:Aw.room (Aw.addN (Aw.addN 0 n) m) 16=aF:=by rw[QC];exact hr
     have le:Aw.le (ah 0) ((n+m:Nat):Int)=aF:=by simp[DK];omega
     have fin:=Cj (φ:=φ) (s:=.os 272 2 (Aw.addN (Aw.addN 0 n) m) (Aw.snoc (Aw.snoc (fun (x:Nat)=>[]) 0 g1) (Aw.addN 0 n) g2)) (s':=.sl 2 (Oo n m) (ad9 g1 n g2)) (.inr ⟨rfl,by rw[QC];rfl,fun j hj=>by rw[QC,QD];rfl⟩);exact ⟨fun _=>⟨rfl,fun h=>(by rw[ng] at h;cases h),fun _=>⟨fun _=>⟨rfl,fun h=>(by rw[ng] at h;cases h),fun _=>⟨fun h=>(by cases h),fun _=>⟨le,hr,fun _=>⟨rfl,r0,fun _=>⟨rfl,r1,fun h=>(by cases h),fun _=>fin hφ⟩,fun h=>(by cases h)⟩,fun h=>(by cases h)⟩⟩⟩,fun h=>(by cases h)⟩⟩,fun h=>(by cases h)⟩
  ·exact h.elim
 ·exact h.elim
end Go.Proofs
namespace Go.Pl
open Go Go.Sx Go.Proofs
def KL(op:Int)(b:Nat)(l:Nat->List Sh):Bool:=!decide (MC op=4)||(Ig b l&&BU (b+1) 16)
end Go.Pl
namespace Go.Proofs
open Go Go.Sx Go.Pl
theorem atH:∀g F,Fq g=ay F->Bh aB (BG W7) g F:=fun g F h=>by
 unfold Fq at h;split at h
 ·cases h;exact asX
 ·cases h;exact awh
 ·cases h;exact awk
 ·cases h
theorem ak1(stop:Nat->List Nat->Bool):Cb aB (C7 Aw W7 Fq stop):=nU atH fun g h=>by
 unfold Fq at h;split at h;all_goals first|(cases h;done) |kernel_rfl
theorem aea{b:Nat}{l:Nat->List Sh}(h:Ig b l=aF)(key:Int):Rk b (Az (AB (α:=Pr) l)) key=MG (lst Pr b l) key/\PG b (Az (AB (α:=Pr) l)) key=Lr (lst Pr b l) key:=by
 have e:lst Pr b (Az (AB (α:=Pr) l))=lst Pr b l:=by rw[PD];rfl
 obtain ⟨h1,h2,h3⟩:=Ih.1 h;refine ⟨by unfold Rk MG GU;rw[e],?_⟩;rw[aoJ (by rw[e];exact h3),e]
theorem awl:Bh aB (BG W7) 183 aoO:=by
 refine Ei (C:=C7 Aw W7 Fq Bc) (dn _ _) (ak1 _) (m:=300) (n:=400) (L:=L0) (fn:=zZ) (by kernel_rfl) (by kernel_rfl) fun H w BI args φ hrep h=>?_
 have hn:zZ.ntmps=20:=by kernel_rfl
 unfold aoO at h;split at h
 ·rename_i x y s2 s3 u t
  split at h
  ·rename_i a hh b l key vv hs2 hs hu ht
   obtain ⟨h1,h2,hφ⟩:=h;match args,hrep with
   |[v,u1,u2],⟨hv,r1,r2,_⟩=>
    obtain ⟨q1,q2⟩:=Tc h1;obtain ⟨e1,e2⟩:=aea h1 key;refine ⟨[.agg [.i .i64 x,.i .i64 y,.sl 1 a hh,.sl 2 b (Az (AB (α:=Pr) l))],.i .i64 key,.i .i64 vv],⟨S9 hs2 hs (Ih.1 h1).1 hv,EH hu r1,EH ht r2,trivial⟩,?_⟩;rw[hn,awe Aw W7 x y a b hh (AB l) key vv,e1,e2];exact ⟨q1,h2,Cj (s':=.Ba [.agg [.i .i64 x,.i .i64 y,.sl 1 a hh,.sl 2 b l],.i .i64 (MG (lst Pr b l) key),.i .i64 (Lr (lst Pr b l) key)]) ⟨⟨rfl,rfl,.inr ⟨rfl,rfl,fun _ _=>rfl⟩,.inr ⟨rfl,rfl,fun j hj=>(Jj (Ih.1 h1).1 j hj).symm⟩,trivial⟩,rfl,rfl,trivial⟩ hφ⟩
  ·exact h.elim
 ·exact h.elim
theorem awm:Bh aB (BG W7) 185 aoQ:=by
 refine Ei (C:=C7 Aw W7 Fq Bc) (dn _ _) (ak1 _) (m:=600) (n:=800) (L:=L0) (fn:=Aa) (by kernel_rfl) (by kernel_rfl) fun H w BI args φ hrep h=>?_
 have hn:Aa.ntmps=41:=by kernel_rfl
 unfold aoQ at h;split at h
 ·rename_i x y s2 s3 u t
  split at h
  ·rename_i a hh b l key vv hs2 hs hu ht
   obtain ⟨h1,h2,h3,hφ⟩:=h;match args,hrep with
   |[v,u1,u2],⟨hv,r1,r2,_⟩=>
    obtain ⟨q1,q2⟩:=Tc h1;obtain ⟨e1,e2⟩:=aea h1 key;obtain ⟨w1,w2,w3⟩:=Ih.1 h1;refine ⟨[.agg [.i .i64 x,.i .i64 y,.sl 1 a hh,.sl 2 b (Az (AB (α:=Pr) l))],.i .i64 key,.i .i64 vv],⟨S9 hs2 hs w1 hv,EH hu r1,EH ht r2,trivial⟩,?_⟩;have hll:(lst Pr b l).length=b:=FQ b l;have hat:∀j (hj:j<b),nth (lst Pr b l) j=AB (α:=Pr) l j:=fun j hj=>SI hj
    have e:Aw.toN (BZ b l key)=CP (lst Pr b l) key:=rfl;have e1':Aw.toN (Aw.add .i64 (BZ b l key) (ah 1))=CP (lst Pr b l) key+1:=by
     have:CP (lst Pr b l) key<=b:=by have:=SY (lst Pr b l) key;rw[hll] at this;exact this
     rw[DR];show (aW.wrap ((CP (lst Pr b l) key:Int)+1)).toNat=_;rw[CO (by omega) (by omega)];omega
    have e1i:GU b l key=aF->Aw.upTo (Aw.add .i64 (BZ b l key) (ah 1)) b=aF:=fun hb=>by
     have:=Xk h1 hb;rw[DR];show Aw.upTo (aW.wrap ((CP (lst Pr b l) key:Int)+1)) b=aF;rw[CO (by omega) (by omega)];simp[II];omega
    have hup:Aw.upTo (BZ b l key) b=aF:=by
     have:CP (lst Pr b l) key<=b:=by have:=SY (lst Pr b l) key;rw[hll] at this;exact this
     simp[II,BZ];omega
    rw[hn,awg Aw W7 x y a b hh (AB l) key vv,e1,e2,(q2 key).1,(q2 key).2];have fin (n':Nat) (g':Nat->List Sh) (hn':n'=len (Gq (lst Pr b l) key)) (hg:∀j,j<n'->g' j=Az (nth (Gq (lst Pr b l) key)) j) :
      up φ (.Ba [.agg [.i .i64 x,.i .i64 y,.sl 1 a hh,.sl 2 n' g'],.i .i64 (MG (lst Pr b l) key),.i .i64 (Lr (lst Pr b l) key)]):=
     Cj (s':=.Ba [.agg [.i .i64 x,.i .i64 y,.sl 1 a hh,.sl 2 (len (Gq (lst Pr b l) key)) (Az (nth (Gq (lst Pr b l) key)))],.i .i64 (MG (lst Pr b l) key),.i .i64 (Lr (lst Pr b l) key)]) ⟨⟨rfl,rfl,.inr ⟨rfl,rfl,fun _ _=>rfl⟩,.inr ⟨rfl,hn',hg⟩,trivial⟩,rfl,rfl,trivial⟩ hφ
    have hdl:len (Gq (lst Pr b l) key)=if Ey (lst Pr b l) key=aF then b - 1 else b:=by
     show (Gq (lst Pr b l) key).length=_;rw[ahu w3,hll]
    refine ⟨q1,h2,q1,h2,fun hb=>?_,fun hb=>?_⟩
    ·have awn:=e1i hb
     have hlt:=Xk h1 hb;have hb':Ey (lst Pr b l) key=aF:=hb;have rr:BU (Oo (Aw.toN (BZ b l key)) (Aw.JM b (Aw.toN (Aw.add .i64 (BZ b l key) (ah 1))))) 16=aF:=by
      rw[e,e1',abI];exact Lm h3 (by show CP (lst Pr b l) key+(b - (CP (lst Pr b l) key+1))<=b+1;omega)
     have last:up φ (.Ba [.agg [.i .i64 x,.i .i64 y,.sl 1 a hh,.sl 2 (Oo (Aw.toN (BZ b l key)) (Aw.JM b (Aw.toN (Aw.add .i64 (BZ b l key) (ah 1))))) (ad9 (Az (AB (α:=Pr) l)) (Aw.toN (BZ b l key)) fun (j:Nat)=>Az (AB (α:=Pr) l) (Aw.addN (Aw.toN (Aw.add .i64 (BZ b l key) 1)) j))],.i .i64 (MG (lst Pr b l) key),.i .i64 (Lr (lst Pr b l) key)]):=by
      have e2':Aw.toN (Aw.add .i64 (BZ b l key) 1)=CP (lst Pr b l) key+1:=e1';rw[e1',e2',e,abI];refine fin _ _ (by rw[hdl,if_pos hb'];show CP (lst Pr b l) key+(b - (CP (lst Pr b l) key+1))=_;omega) fun j hj=>?_
      have hj:j<CP (lst Pr b l) key+(b - (CP (lst Pr b l) key+1)):=hj;obtain ⟨k1,_⟩:=PK (Hu w3) hb';show Aw.snoc _ _ _ j=prR (nth (Gq (lst Pr b l) key) j);rw[afs hb',aoI k1 (by rw[hll];omega),EF];split
      ·rw[hat j (by omega)];rfl
      ·rw[hat (j+1) (by omega),DU]
       show prR (AB l (CP (lst Pr b l) key+1+(j - CP (lst Pr b l) key)))=_;rw[show CP (lst Pr b l) key+1+(j - CP (lst Pr b l) key)=j+1 by omega]
     clear hφ fin hat;rw[hup,awn,rr];generalize Aw.toN (BZ b l key)=n1 at *;generalize Aw.JM b (Aw.toN (Aw.add .i64 (BZ b l key) (ah 1)))=n2 at *;repeat' (first|exact rfl|exact trivial|exact last|refine And.intro ?_ ?_)
    ·have hb':Ey (lst Pr b l) key=aA:=hb
     exact fin b _ (by rw[hdl,if_neg (by rw[hb'];simp)]) fun j hj=>by
      show prR (AB l j)=prR (nth (Gq (lst Pr b l) key) j);rw[afr hb',hat j hj]
  ·exact h.elim
 ·exact h.elim
end Go.Proofs
namespace Go.Sx
section
variable{P:Program}{C:Ctx}{K:Kx}
theorem amg{g:Nat}{td:List It}{c:Core}{stk:List Fr}{R:Hp->Prop}{φ:Sh->Prop}(tm':List SV)(h:∀(H:Mem) (E:Env) (vs:List Value),AV H E c.tm vs->AV H E tm' vs)(hgo:BK P C K g td {c with tm:=tm'} stk R φ):BK P C K g td c stk R φ:=by
 intro H E w a items ms cs fn hfn st hi hs hx;exact hgo H E w a items ms cs fn hfn ⟨h H E _ st.den,st.hp,st.Cm,st.free,st.gl,st.defers⟩ hi hs hx
theorem ahv{H:Mem}{E:Env}{k:IntKind}{n:Int}:∀(i:Nat) {l:List SV} {vs:List Value},l[i]?=ay (.sym k n)->AV H E l vs->AV H E (l.set i (.int k n)) vs
 |_,[],_,h,_=>by simp at h |_,_::_,[],_,h=>h.elim |0,x::l,v::vs,h,⟨h1,h2⟩=>by
  simp at h;subst h;exact ⟨h1,h2⟩
 |i+1,x::l,v::vs,h,⟨h1,h2⟩=>⟨h1,ahv i (by simpa using h) h2⟩
end
end Go.Sx
namespace Go.Pl
open Go Go.Sx
def Kv(a b:Int):Int:=aW.wrap (a+b)
def Oq(h:Nat->List Sh):Nat->List Sh:=fun j=>h (1+j)
def QI(a:Nat):Nat:=a - 1
def UA(a:Nat):Int:=if a=0 then 2 else 3
def QJ(a:Nat)(o:Nat->Int):Int:=if a=0 then 0 else o 0
end Go.Pl
namespace Go.Proofs
open Go Go.Sx Go.Pl
def F66:List Sh->Tree Sh
 |[t]=>match BH t with
  |some op=>.leaf (.i .i64 (MC op)) |none=>.fail
 |_=>.fail
def F67:List Sh->Tree Sh
 |[t]=>match BH t with
  |some op=>.leaf (.b (keyed op)) |none=>.fail
 |_=>.fail
def F68:List Sh->Tree Sh
 |[t]=>match BH t with
  |some op=>.leaf (.b (valued op)) |none=>.fail
 |_=>.fail
def F69:List Sh->Tree Sh
 |[t,u,v]=>match BH t,BH u,BH v with
  |some k,ay x,ay y=>.leaf (.b (Jg k x y)) |_,_,_=>.fail
 |_=>.fail
def F94:List Sh->Tree Sh
 |[.agg [.i .i64 x,.i .i64 y,s2,s3],u,t]=>match Ej 1 s2,Ej 2 s3,BH u,BH t with
  |some (a,h),ay (b,l),ay _,ay _=>.leaf (.Ba [.agg [.i .i64 x,.i .i64 y,.sl 1 a h,.sl 2 b l],.i .i64 3,.i .i64 y]) |_,_,_,_=>.fail
 |_=>.fail
def F95:List Sh->Tree Sh
 |[.agg [.i .i64 x,.i .i64 _,s2,s3],u,t]=>match Ej 1 s2,Ej 2 s3,BH u,BH t with
  |some (a,h),ay (b,l),ay _,ay v=>.leaf (.Ba [.agg [.i .i64 x,.i .i64 v,.sl 1 a h,.sl 2 b l],.i .i64 1,.i .i64 0]) |_,_,_,_=>.fail
 |_=>.fail
def F96:List Sh->Tree Sh
 |[.agg [.i .i64 x,.i .i64 y,s2,s3],u,t]=>match Ej 1 s2,Ej 2 s3,BH u,BH t with
  |some (a,h),ay (b,l),ay _,ay v=>.leaf (.Ba [.agg [.i .i64 x,.i .i64 (Kv y v),.sl 1 a h,.sl 2 b l],.i .i64 1,.i .i64 0]) |_,_,_,_=>.fail
 |_=>.fail
def F97:List Sh->Tree Sh
 |[.agg [.i .i64 x,.i .i64 y,s2,s3],u,t]=>match Ej 1 s2,Ej 2 s3,BH u,BH t with
  |some (a,h),ay (b,l),ay _,ay v=>.need (BU (a+1) 8) (.leaf (.Ba [.agg [.i .i64 x,.i .i64 y,.sl 1 (a+1) (GH a h [.i .i64 v]),.sl 2 b l],.i .i64 1,.i .i64 0])) |_,_,_,_=>.fail
 |_=>.fail
def F99:List Sh->Tree Sh
 |[.agg [.i .i64 x,.i .i64 y,s2,s3],u,t]=>match Ej 1 s2,Ej 2 s3,BH u,BH t with
  |some (a,h),ay (b,l),ay _,ay _=>.need (okB Int a h) (.leaf (.Ba [.agg [.i .i64 x,.i .i64 y,.sl 1 (QI a) (Oq h),.sl 2 b l],.i .i64 (UA a),.i .i64 (QJ a (AB h))])) |_,_,_,_=>.fail
 |_=>.fail
def HY:Nat->Option (List Sh->Tree Sh)
 |102=>ay F66 |151=>ay F67 |152=>ay F68 |153=>ay F69 |173=>ay F94 |174=>ay F95 |175=>ay F96 |176=>ay F97 |178=>ay F99 |179=>ay aoP |183=>ay aoO |185=>ay aoQ |_=>aN
def ak2:List Nat->List Nat->Bool
 |[],[]=>aF |x::l,y::r=>fC x y&&ak2 l r |_,_=>aA
def aoS(f:Nat)(ps:List (List Nat))(g:Nat)(td:List It):Bool:=fC g f&&match td with
 | .code r::_=>ps.any (ak2 r) |_=>aA
def ahw:Nat->List It->Bool:=aoS 120 [[0,1,1,1,1]]
def L42(x y:Int)(a b:Nat)(h l:Nat->List Sh)(op k v:Int):Core:={tm:=F8 88 [(1,.sym .i64 op),(2,.sym .i64 k),(3,.sym .i64 v),(4,.ptr 0 0),(8,.ptr 1 0)],hp:=[(0,.box [.sym .i64 x,.sym .i64 y,.sh (.sl 1 a h),.sh (.sl 2 b l)] 211),(1,.box [.int .i64 0,.int .i64 0,.Bj,.Bj] 211)],nx:=2,lim:=L0,tc:=[]}
def UC(x y:Int)(a b:Nat)(h l:Nat->List Sh)(n:Int)(k v:Int):Core:={tm:=(L42 x y a b h l n k v).tm.set 1 (.int .i64 n),hp:=(L42 x y a b h l n k v).hp,nx:=2,lim:=L0,tc:=[]}
def NT:List It:=[bD [0,1,1,1,1],bD [1,1,1,1,1]]
noncomputable def QK:Nat->Option (List Sh->Tree Sh)
 |119=>ay F33 |116=>ay F35 |95=>ay F41 |77=>ay F49 |96=>ay F50 |121=>ay F54 |117=>ay F56 |_=>aN
def Zq:List It:=[bD [0,1,0,1,1,1],dh 0,bD [1,1,1,1]]
def ak3:List It:=bD [0,0,1,0,1,1,1]::Zq
def awo(k:Nat)(gg:Nat->List Sh):Bool->SV
 |true=>.Bj |false=>.sh (.sl 4 k gg)
def Xl(n:Nat)(o:Nat->Oj)(i:Int)(k:Nat)(gg:Nat->List Sh)(v:Bool):Core:={tm:=F8 38 [(2,.ptr 0 0),(5,.ptr 1 0),(17,.sh (.sl 2 n (Az o))),(18,.sym .i64 (n:Int)),(19,.sym .i64 i)],hp:=[(0,.box [.Bj] 100),(1,.box [awo k gg v] 98)],nx:=2,lim:=L0,tc:=[]}
theorem a25(A:Prim)(W:Wd)(n:Nat)(o:Nat->Oj)(i':Int)(k':Nat)(Iy:Nat->List Sh):BA (C7 A W QK Bc) BN 300 400 75 [.code []] (AL 38 [.sl 2 n (Az o)] L0) [] [⟨75,Zq,Xl n o i' k' Iy aF,[]⟩]=aI (okB Oj n (Az o)) (aI (QF n (AB (Az o))) (aG (SL n) (aC (aU (cZ [bU [aH 0 0 fun _=>[]],bC 6 329]))) (aG (NR n (AB (Az o))) (aC (bJ 0 [aP (aH 2 n (Az o)) (aH 2 n (Az o)),ak (A.Bl n) (ah n),ak (ah 0) i'])) (aC (aU (cZ [bU [aH 0 0 fun _=>[]],Sh.Dv 109 (Sh.pt [aZ .i64 (ah (Lp n (AB (Az o)))),bC 7 329])])))))):=by kernel_rfl
theorem b25(A:Prim)(W:Wd)(n:Nat)(o:Nat->Oj)(i i':Int)(k k':Nat)(gg Iy:Nat->List Sh):BA (C7 A W QK Bc) BN 300 400 75 ak3 (Xl n o i k gg aA) [] [⟨75,Zq,Xl n o i' k' Iy aA,[]⟩]=aG (A.lt i (ah n)) (aI (A.inB i n) (aI (Dq (o (A.toN i)).kind) (aG (Fp (o (A.toN i)).kind (o (A.toN i)).init) (aC (aU (cZ [bU [aH 0 0 fun _=>[]],bC 7 329]))) (aI (BU k.succ 64) (aC (bJ 0 [aP (aH 2 n (Az o)) (aH 2 n (Az o)),ak (ah n) (ah n),ak (A.add .i64 i (ah 1)) i',aP (aH 4 k.succ (GH k gg [aZ .i64 (o (A.toN i)).kind,aZ .i64 (o (A.toN i)).init,aH 1 0 noI,aH 2 0 noP])) (aH 4 k' Iy)])))))) (aC (aU (cZ [bU [aH 4 k gg],jF bM]))):=by kernel_rfl
theorem c25(A:Prim)(W:Wd)(n:Nat)(o:Nat->Oj)(i i':Int)(k k':Nat)(gg Iy:Nat->List Sh):BA (C7 A W QK Bc) BN 300 400 75 ak3 (Xl n o i k gg aF) [] [⟨75,Zq,Xl n o i' k' Iy aA,[]⟩]=aG (A.lt i (ah n)) (aI (A.inB i n) (aI (Dq (o (A.toN i)).kind) (aG (Fp (o (A.toN i)).kind (o (A.toN i)).init) (aC (aU (cZ [bU [aH 0 0 fun _=>[]],bC 7 329]))) (aI (BU 1 64) (aC (bJ 0 [aP (aH 2 n (Az o)) (aH 2 n (Az o)),ak (ah n) (ah n),ak (A.add .i64 i (ah 1)) i',aP (aH 4 1 (GH 0 (fun _=>[]) [aZ .i64 (o (A.toN i)).kind,aZ .i64 (o (A.toN i)).init,aH 1 0 noI,aH 2 0 noP])) (aH 4 k' Iy)])))))) (aC (aU (cZ [bU [aH 0 0 fun _=>[]],jF bM]))):=by kernel_rfl
theorem a94(A:Prim)(W:Wd)(x y:Int)(a b:Nat)(h l:Nat->List Sh)(k v:Int):BA (C7 A W DX Bc) BN 300 400 173 [.code []] (AL 12 [.agg [.i .i64 x,.i .i64 y,.sl 1 a h,.sl 2 b l],.i .i64 k,.i .i64 v] L0) [] []=aC (aU (cZ [bU [aZ .i64 x,aZ .i64 y,aH 1 a h,aH 2 b l],aZ .i64 (ah 3),aZ .i64 y])):=by kernel_rfl
theorem a95(A:Prim)(W:Wd)(x y:Int)(a b:Nat)(h l:Nat->List Sh)(k v:Int):BA (C7 A W DX Bc) BN 300 400 174 [.code []] (AL 12 [.agg [.i .i64 x,.i .i64 y,.sl 1 a h,.sl 2 b l],.i .i64 k,.i .i64 v] L0) [] []=aC (aU (cZ [bU [aZ .i64 x,aZ .i64 v,aH 1 a h,aH 2 b l],aZ .i64 (ah 1),aZ .i64 (ah 0)])):=by kernel_rfl
theorem a96(A:Prim)(W:Wd)(x y:Int)(a b:Nat)(h l:Nat->List Sh)(k v:Int):BA (C7 A W DX Bc) BN 300 400 175 [.code []] (AL 15 [.agg [.i .i64 x,.i .i64 y,.sl 1 a h,.sl 2 b l],.i .i64 k,.i .i64 v] L0) [] []=aC (aU (cZ [bU [aZ .i64 x,aZ .i64 (A.add .i64 y v),aH 1 a h,aH 2 b l],aZ .i64 (ah 1),aZ .i64 (ah 0)])):=by kernel_rfl
theorem a97(A:Prim)(W:Wd)(x y:Int)(a b:Nat)(h l:Nat->List Sh)(k v:Int):BA (C7 A W DX Bc) BN 300 400 176 [.code []] (AL 17 [.agg [.i .i64 x,.i .i64 y,.sl 1 a h,.sl 2 b l],.i .i64 k,.i .i64 v] L0) [] []=aG (A.leN a 0) ((aC (aU (cZ [bU [aZ .i64 x,aZ .i64 y,jv 3 1 1 (BD [[aZ .i64 v]]),aH 2 b l],aZ .i64 (ah 1),aZ .i64 (ah 0)]))).both (aI (A.room (A.addN 0 a) 8) (aI (A.room (A.addN (A.addN 0 a) 1) 8) (aC (aU (cZ [bU [aZ .i64 x,aZ .i64 y,jv 3 1 (A.addN (A.addN 0 a) 1) (A.snoc (A.snoc (BD []) 0 h) (A.addN 0 a) (BD [[aZ .i64 v]])),aH 2 b l],aZ .i64 (ah 1),aZ .i64 (ah 0)])))))) (aI (A.room (A.addN 0 a) 8) (aI (A.room (A.addN (A.addN 0 a) 1) 8) (aC (aU (cZ [bU [aZ .i64 x,aZ .i64 y,jv 3 1 (A.addN (A.addN 0 a) 1) (A.snoc (A.snoc (BD []) 0 h) (A.addN 0 a) (BD [[aZ .i64 v]])),aH 2 b l],aZ .i64 (ah 1),aZ .i64 (ah 0)]))))):=by kernel_rfl
theorem a99(A:Prim)(W:Wd)(x y:Int)(a b:Nat)(o:Nat->Int)(l:Nat->List Sh)(k v:Int):BA (C7 A W DX Bc) BN 300 400 178 [.code []] (AL 25 [.agg [.i .i64 x,.i .i64 y,.sl 1 a (Az o),.sl 2 b l],.i .i64 k,.i .i64 v] L0) [] []=aG (A.eq (A.Bl a) (ah 0)) (aC (aU (cZ [bU [aZ .i64 x,aZ .i64 y,aH 1 a (Az o),aH 2 b l],aZ .i64 (ah 2),aZ .i64 (ah 0)]))) (aI (A.inB (ah 0) a) (aI (A.upTo (ah 1) a) (aC (aU (cZ [bU [aZ .i64 x,aZ .i64 y,aH 1 (A.JM a 1) fun (j:Nat)=>Az o (A.addN 1 j),aH 2 b l],aZ .i64 (ah 3),aZ .i64 (o 0)]))))):=by kernel_rfl
theorem a42(A:Prim)(W:Wd)(x y:Int)(a b:Nat)(h l:Nat->List Sh)(op k v:Int):asO (C7 A W HY Bc) ahw 300 400 120 [.code []] (AL 88 [.agg [.i .i64 x,.i .i64 y,.sl 1 a h,.sl 2 b l],.i .i64 op,.i .i64 k,.i .i64 v] L0) [] [⟨120,NT,L42 x y a b h l op k v,[]⟩]=aG (A.eq x (ah 0)) (aC (aU (cZ [bU [aZ .i64 (ah 0),aZ .i64 (ah 0),aH 0 0 fun _=>[],aH 0 0 fun _=>[]],aZ .i64 (ah 0),aZ .i64 (ah 0),bC 8 329]))) (aG (A.nt (A.eq (MC op) x)) (aC (aU (cZ [bU [aZ .i64 (ah 0),aZ .i64 (ah 0),aH 0 0 fun _=>[],aH 0 0 fun _=>[]],aZ .i64 (ah 0),aZ .i64 (ah 0),bC 8 329]))) (aG (A.nt (A.eq k (ah 0))) (aG (A.nt (keyed op)) (aC (aU (cZ [bU [aZ .i64 (ah 0),aZ .i64 (ah 0),aH 0 0 fun _=>[],aH 0 0 fun _=>[]],aZ .i64 (ah 0),aZ .i64 (ah 0),bC 15 329]))) (aG (A.lt k (ah 0)) (aC (aU (cZ [bU [aZ .i64 (ah 0),aZ .i64 (ah 0),aH 0 0 fun _=>[],aH 0 0 fun _=>[]],aZ .i64 (ah 0),aZ .i64 (ah 0),bC 15 329]))) (aG (A.lt (ah 1000) k) (aC (aU (cZ [bU [aZ .i64 (ah 0),aZ .i64 (ah 0),aH 0 0 fun _=>[],aH 0 0 fun _=>[]],aZ .i64 (ah 0),aZ .i64 (ah 0),bC 15 329]))) (aG (A.nt (A.eq v (ah 0))) (aG (A.nt (valued op)) (aC (aU (cZ [bU [aZ .i64 (ah 0),aZ .i64 (ah 0),aH 0 0 fun _=>[],aH 0 0 fun _=>[]],aZ .i64 (ah 0),aZ .i64 (ah 0),bC 15 329]))) (aG (A.lt v (fG 999999999)) (aC (aU (cZ [bU [aZ .i64 (ah 0),aZ .i64 (ah 0),aH 0 0 fun _=>[],aH 0 0 fun _=>[]],aZ .i64 (ah 0),aZ .i64 (ah 0),bC 15 329]))) (aG (A.lt (ah 1000000000) v) (aC (aU (cZ [bU [aZ .i64 (ah 0),aZ .i64 (ah 0),aH 0 0 fun _=>[],aH 0 0 fun _=>[]],aZ .i64 (ah 0),aZ .i64 (ah 0),bC 15 329]))) (aG (A.eq op (ah 3)) (aG (Jg x (ah 0) (A.add .i64 y v)) (aC (aU (cZ [bU [aZ .i64 (ah 0),aZ .i64 (ah 0),aH 0 0 fun _=>[],aH 0 0 fun _=>[]],aZ .i64 (ah 0),aZ .i64 (ah 0),bC 15 329]))) (aC (bJ 0 [ak op op,ak k k,ak v v,ak x x,ak y y,aP (aH 1 a h) (aH 1 a h),aP (aH 2 b l) (aH 2 b l),ak (ah 0) (ah 0),ak (ah 0) (ah 0)]))) (aC (bJ 0 [ak op op,ak k k,ak v v,ak x x,ak y y,aP (aH 1 a h) (aH 1 a h),aP (aH 2 b l) (aH 2 b l),ak (ah 0) (ah 0),ak (ah 0) (ah 0)])))))) (aG (A.lt v (fG 999999999)) (aC (aU (cZ [bU [aZ .i64 (ah 0),aZ .i64 (ah 0),aH 0 0 fun _=>[],aH 0 0 fun _=>[]],aZ .i64 (ah 0),aZ .i64 (ah 0),bC 15 329]))) (aG (A.lt (ah 1000000000) v) (aC (aU (cZ [bU [aZ .i64 (ah 0),aZ .i64 (ah 0),aH 0 0 fun _=>[],aH 0 0 fun _=>[]],aZ .i64 (ah 0),aZ .i64 (ah 0),bC 15 329]))) (aG (A.eq op (ah 3)) (aG (Jg x (ah 0) (A.add .i64 y v)) (aC (aU (cZ [bU [aZ .i64 (ah 0),aZ .i64 (ah 0),aH 0 0 fun _=>[],aH 0 0 fun _=>[]],aZ .i64 (ah 0),aZ .i64 (ah 0),bC 15 329]))) (aC (bJ 0 [ak op op,ak k k,ak v v,ak x x,ak y y,aP (aH 1 a h) (aH 1 a h),aP (aH 2 b l) (aH 2 b l),ak (ah 0) (ah 0),ak (ah 0) (ah 0)]))) (aC (bJ 0 [ak op op,ak k k,ak v v,ak x x,ak y y,aP (aH 1 a h) (aH 1 a h),aP (aH 2 b l) (aH 2 b l),ak (ah 0) (ah 0),ak (ah 0) (ah 0)]))))))))) (aG (A.lt k (ah 0)) (aC (aU (cZ [bU [aZ .i64 (ah 0),aZ .i64 (ah 0),aH 0 0 fun _=>[],aH 0 0 fun _=>[]],aZ .i64 (ah 0),aZ .i64 (ah 0),bC 15 329]))) (aG (A.lt (ah 1000) k) (aC (aU (cZ [bU [aZ .i64 (ah 0),aZ .i64 (ah 0),aH 0 0 fun _=>[],aH 0 0 fun _=>[]],aZ .i64 (ah 0),aZ .i64 (ah 0),bC 15 329]))) (aG (A.nt (A.eq v (ah 0))) (aG (A.nt (valued op)) (aC (aU (cZ [bU [aZ .i64 (ah 0),aZ .i64 (ah 0),aH 0 0 fun _=>[],aH 0 0 fun _=>[]],aZ .i64 (ah 0),aZ .i64 (ah 0),bC 15 329]))) (aG (A.lt v (fG 999999999)) (aC (aU (cZ [bU [aZ .i64 (ah 0),aZ .i64 (ah 0),aH 0 0 fun _=>[],aH 0 0 fun _=>[]],aZ .i64 (ah 0),aZ .i64 (ah 0),bC 15 329]))) (aG (A.lt (ah 1000000000) v) (aC (aU (cZ [bU [aZ .i64 (ah 0),aZ .i64 (ah 0),aH 0 0 fun _=>[],aH 0 0 fun _=>[]],aZ .i64 (ah 0),aZ .i64 (ah 0),bC 15 329]))) (aG (A.eq op (ah 3)) (aG (Jg x (ah 0) (A.add .i64 y v)) (aC (aU (cZ [bU [aZ .i64 (ah 0),aZ .i64 (ah 0),aH 0 0 fun _=>[],aH 0 0 fun _=>[]],aZ .i64 (ah 0),aZ .i64 (ah 0),bC 15 329]))) (aC (bJ 0 [ak op op,ak k k,ak v v,ak x x,ak y y,aP (aH 1 a h) (aH 1 a h),aP (aH 2 b l) (aH 2 b l),ak (ah 0) (ah 0),ak (ah 0) (ah 0)]))) (aC (bJ 0 [ak op op,ak k k,ak v v,ak x x,ak y y,aP (aH 1 a h) (aH 1 a h),aP (aH 2 b l) (aH 2 b l),ak (ah 0) (ah 0),ak (ah 0) (ah 0)])))))) (aG (A.lt v (fG 999999999)) (aC (aU (cZ [bU [aZ .i64 (ah 0),aZ .i64 (ah 0),aH 0 0 fun _=>[],aH 0 0 fun _=>[]],aZ .i64 (ah 0),aZ .i64 (ah 0),bC 15 329]))) (aG (A.lt (ah 1000000000) v) (aC (aU (cZ [bU [aZ .i64 (ah 0),aZ .i64 (ah 0),aH 0 0 fun _=>[],aH 0 0 fun _=>[]],aZ .i64 (ah 0),aZ .i64 (ah 0),bC 15 329]))) (aG (A.eq op (ah 3)) (aG (Jg x (ah 0) (A.add .i64 y v)) (aC (aU (cZ [bU [aZ .i64 (ah 0),aZ .i64 (ah 0),aH 0 0 fun _=>[],aH 0 0 fun _=>[]],aZ .i64 (ah 0),aZ .i64 (ah 0),bC 15 329]))) (aC (bJ 0 [ak op op,ak k k,ak v v,ak x x,ak y y,aP (aH 1 a h) (aH 1 a h),aP (aH 2 b l) (aH 2 b l),ak (ah 0) (ah 0),ak (ah 0) (ah 0)]))) (aC (bJ 0 [ak op op,ak k k,ak v v,ak x x,ak y y,aP (aH 1 a h) (aH 1 a h),aP (aH 2 b l) (aH 2 b l),ak (ah 0) (ah 0),ak (ah 0) (ah 0)])))))))))):=by kernel_rfl
noncomputable def Yr(x y:Int)(a b:Nat)(h l:Nat->List Sh)(k v:Int):List BQ:=[ak k k,ak v v,ak (ah 3) (ah 3),ak y y,ak x x,ak y y,aP (aH 1 a h) (aH 1 a h),aP (aH 2 b l) (aH 2 b l),ak x x,ak y y,aP (aH 1 a h) (aH 1 a h),aP (aH 2 b l) (aH 2 b l)]
theorem atS(A:Prim)(W:Wd)(x y:Int)(a b:Nat)(h l:Nat->List Sh)(k v:Int):BA (C7 A W HY Bc) BN 300 400 120 NT (UC x y a b h l 1 k v) [] []=aT (Yr x y a b h l k v) (aT (Yr x y a b h l k v) (aT (Yr x y a b h l k v) (aC (aU (cZ [bU [aZ .i64 x,aZ .i64 y,aH 1 a h,aH 2 b l],aZ .i64 (ah 3),aZ .i64 y,jF bM]))))):=by kernel_rfl
noncomputable def Yt(x y:Int)(a b:Nat)(h l:Nat->List Sh)(k v:Int):List BQ:=[ak k k,ak v v,ak (ah 1) (ah 1),ak (ah 0) (ah 0),ak x x,ak y y,aP (aH 1 a h) (aH 1 a h),aP (aH 2 b l) (aH 2 b l),ak x x,ak v v,aP (aH 1 a h) (aH 1 a h),aP (aH 2 b l) (aH 2 b l)]
theorem atU(A:Prim)(W:Wd)(x y:Int)(a b:Nat)(h l:Nat->List Sh)(k v:Int):BA (C7 A W HY Bc) BN 300 400 120 NT (UC x y a b h l 2 k v) [] []=aT (Yt x y a b h l k v) (aT (Yt x y a b h l k v) (aT (Yt x y a b h l k v) (aC (aU (cZ [bU [aZ .i64 x,aZ .i64 v,aH 1 a h,aH 2 b l],aZ .i64 (ah 1),aZ .i64 (ah 0),jF bM]))))):=by kernel_rfl
noncomputable def Yu(x y:Int)(a b:Nat)(h l:Nat->List Sh)(k v:Int):List BQ:=[ak k k,ak v v,ak (ah 1) (ah 1),ak (ah 0) (ah 0),ak x x,ak y y,aP (aH 1 a h) (aH 1 a h),aP (aH 2 b l) (aH 2 b l),ak x x,ak (Kv y v) (Kv y v),aP (aH 1 a h) (aH 1 a h),aP (aH 2 b l) (aH 2 b l)]
theorem atV(A:Prim)(W:Wd)(x y:Int)(a b:Nat)(h l:Nat->List Sh)(k v:Int):BA (C7 A W HY Bc) BN 300 400 120 NT (UC x y a b h l 3 k v) [] []=aT (Yu x y a b h l k v) (aT (Yu x y a b h l k v) (aT (Yu x y a b h l k v) (aC (aU (cZ [bU [aZ .i64 x,aZ .i64 (Kv y v),aH 1 a h,aH 2 b l],aZ .i64 (ah 1),aZ .i64 (ah 0),jF bM]))))):=by kernel_rfl
noncomputable def Yv(x y:Int)(a b:Nat)(h l:Nat->List Sh)(k v:Int):List BQ:=[ak k k,ak v v,ak (ah 3) (ah 3),ak y y,ak x x,ak y y,aP (aH 1 a h) (aH 1 a h),aP (aH 2 b l) (aH 2 b l),ak x x,ak y y,aP (aH 1 a h) (aH 1 a h),aP (aH 2 b l) (aH 2 b l)]
theorem atW(A:Prim)(W:Wd)(x y:Int)(a b:Nat)(h l:Nat->List Sh)(k v:Int):BA (C7 A W HY Bc) BN 300 400 120 NT (UC x y a b h l 4 k v) [] []=aT (Yv x y a b h l k v) (aT (Yv x y a b h l k v) (aT (Yv x y a b h l k v) (aC (aU (cZ [bU [aZ .i64 x,aZ .i64 y,aH 1 a h,aH 2 b l],aZ .i64 (ah 3),aZ .i64 y,jF bM]))))):=by kernel_rfl
noncomputable def Yw(x y:Int)(a b:Nat)(h l:Nat->List Sh)(k v:Int):List BQ:=[ak k k,ak v v,ak (ah 1) (ah 1),ak (ah 0) (ah 0),ak x x,ak y y,aP (aH 1 a h) (aH 1 a h),aP (aH 2 b l) (aH 2 b l),ak x x,ak y y,aP (aH 1 a.succ (GH a h [aZ .i64 v])) (aH 1 a.succ (GH a h [aZ .i64 v])),aP (aH 2 b l) (aH 2 b l)]
theorem atX(A:Prim)(W:Wd)(x y:Int)(a b:Nat)(h l:Nat->List Sh)(k v:Int):BA (C7 A W HY Bc) BN 300 400 120 NT (UC x y a b h l 5 k v) [] []=aI (BU a.succ 8) (aI (BU a.succ 8) (aT (Yw x y a b h l k v) (aI (BU a.succ 8) (aT (Yw x y a b h l k v) (aI (BU a.succ 8) (aT (Yw x y a b h l k v) (aC (aU (cZ [bU [aZ .i64 x,aZ .i64 y,aH 1 a.succ (GH a h [aZ .i64 v]),aH 2 b l],aZ .i64 (ah 1),aZ .i64 (ah 0),jF bM]))))))))):=by kernel_rfl
noncomputable def Yx(x y:Int)(a b:Nat)(h l:Nat->List Sh)(k v:Int):List BQ:=[ak k k,ak v v,ak (UA a) (UA a),ak (QJ a (AB h)) (QJ a (AB h)),ak x x,ak y y,aP (aH 1 a h) (aH 1 a h),aP (aH 2 b l) (aH 2 b l),ak x x,ak y y,aP (aH 1 (QI a) (Oq h)) (aH 1 (QI a) (Oq h)),aP (aH 2 b l) (aH 2 b l)]
theorem atY(A:Prim)(W:Wd)(x y:Int)(a b:Nat)(h l:Nat->List Sh)(k v:Int):BA (C7 A W HY Bc) BN 300 400 120 NT (UC x y a b h l 6 k v) [] []=aI (okB Int a h) (aI (okB Int a h) (aT (Yx x y a b h l k v) (aI (okB Int a h) (aT (Yx x y a b h l k v) (aI (okB Int a h) (aT (Yx x y a b h l k v) (aC (aU (cZ [bU [aZ .i64 x,aZ .i64 y,aH 1 (QI a) (Oq h),aH 2 b l],aZ .i64 (UA a),aZ .i64 (QJ a (AB h)),jF bM]))))))))):=by kernel_rfl
noncomputable def Yy(x y:Int)(a b:Nat)(h:Nat->List Sh)(p:Nat->Pr)(k v:Int):List BQ:=[ak k k,ak v v,ak (ah 1) (ah 1),ak (ah 0) (ah 0),ak x x,ak y y,aP (aH 1 a h) (aH 1 a h),aP (aH 2 b (Az p)) (aH 2 b (Az p)),ak x x,ak y y,aP (aH 1 a h) (aH 1 a h),aP (aH 2 (len (Fz (lst Pr b (Az p)) k v)) (Az (nth (Fz (lst Pr b (Az p)) k v)))) (aH 2 (len (Fz (lst Pr b (Az p)) k v)) (Az (nth (Fz (lst Pr b (Az p)) k v))))]
theorem atZ(A:Prim)(W:Wd)(x y:Int)(a b:Nat)(h:Nat->List Sh)(p:Nat->Pr)(k v:Int):BA (C7 A W HY Bc) BN 300 400 120 NT (UC x y a b h (Az p) 7 k v) [] []=aI (Ig b (Az p)) (aI (EM k) (aI (BU b.succ 16) (aI (Ig b (Az p)) (aI (EM k) (aI (BU b.succ 16) (aT (Yy x y a b h p k v) (aI (Ig b (Az p)) (aI (EM k) (aI (BU b.succ 16) (aT (Yy x y a b h p k v) (aI (Ig b (Az p)) (aI (EM k) (aI (BU b.succ 16) (aT (Yy x y a b h p k v) (aC (aU (cZ [bU [aZ .i64 x,aZ .i64 y,aH 1 a h,aH 2 (len (Fz (lst Pr b (Az p)) k v)) (Az (nth (Fz (lst Pr b (Az p)) k v)))],aZ .i64 (ah 1),aZ .i64 (ah 0),jF bM]))))))))))))))))):=by kernel_rfl
noncomputable def Yz(x y:Int)(a b:Nat)(h:Nat->List Sh)(p:Nat->Pr)(k v:Int):List BQ:=[ak k k,ak v v,ak (MG (lst Pr b (Az p)) k) (MG (lst Pr b (Az p)) k),ak (Lr (lst Pr b (Az p)) k) (Lr (lst Pr b (Az p)) k),ak x x,ak y y,aP (aH 1 a h) (aH 1 a h),aP (aH 2 b (Az p)) (aH 2 b (Az p)),ak x x,ak y y,aP (aH 1 a h) (aH 1 a h),aP (aH 2 b (Az p)) (aH 2 b (Az p))]
theorem at1(A:Prim)(W:Wd)(x y:Int)(a b:Nat)(h:Nat->List Sh)(p:Nat->Pr)(k v:Int):BA (C7 A W HY Bc) BN 300 400 120 NT (UC x y a b h (Az p) 8 k v) [] []=aI (Ig b (Az p)) (aI (EM k) (aI (Ig b (Az p)) (aI (EM k) (aT (Yz x y a b h p k v) (aI (Ig b (Az p)) (aI (EM k) (aT (Yz x y a b h p k v) (aI (Ig b (Az p)) (aI (EM k) (aT (Yz x y a b h p k v) (aC (aU (cZ [bU [aZ .i64 x,aZ .i64 y,aH 1 a h,aH 2 b (Az p)],aZ .i64 (MG (lst Pr b (Az p)) k),aZ .i64 (Lr (lst Pr b (Az p)) k),jF bM]))))))))))))):=by kernel_rfl
noncomputable def YA(x y:Int)(a b:Nat)(h:Nat->List Sh)(p:Nat->Pr)(k v:Int):List BQ:=[ak k k,ak v v,ak (MG (lst Pr b (Az p)) k) (MG (lst Pr b (Az p)) k),ak (Lr (lst Pr b (Az p)) k) (Lr (lst Pr b (Az p)) k),ak x x,ak y y,aP (aH 1 a h) (aH 1 a h),aP (aH 2 b (Az p)) (aH 2 b (Az p)),ak x x,ak y y,aP (aH 1 a h) (aH 1 a h),aP (aH 2 (len (Gq (lst Pr b (Az p)) k)) (Az (nth (Gq (lst Pr b (Az p)) k)))) (aH 2 (len (Gq (lst Pr b (Az p)) k)) (Az (nth (Gq (lst Pr b (Az p)) k))))]
theorem at6(A:Prim)(W:Wd)(x y:Int)(a b:Nat)(h:Nat->List Sh)(p:Nat->Pr)(k v:Int):BA (C7 A W HY Bc) BN 300 400 120 NT (UC x y a b h (Az p) 9 k v) [] []=aI (Ig b (Az p)) (aI (EM k) (aI (BU b.succ 16) (aI (Ig b (Az p)) (aI (EM k) (aI (BU b.succ 16) (aT (YA x y a b h p k v) (aI (Ig b (Az p)) (aI (EM k) (aI (BU b.succ 16) (aT (YA x y a b h p k v) (aI (Ig b (Az p)) (aI (EM k) (aI (BU b.succ 16) (aT (YA x y a b h p k v) (aC (aU (cZ [bU [aZ .i64 x,aZ .i64 y,aH 1 a h,aH 2 (len (Gq (lst Pr b (Az p)) k)) (Az (nth (Gq (lst Pr b (Az p)) k)))],aZ .i64 (MG (lst Pr b (Az p)) k),aZ .i64 (Lr (lst Pr b (Az p)) k),jF bM]))))))))))))))))):=by kernel_rfl
end Go.Proofs
namespace Go.Pl
open Go Go.Sx
def G8(x op:Int):Bool:=decide (x=0) || !decide (MC op=x)
def IL(x y op k v:Int):Bool:=
 (!decide (k=0) && !keyed op)||decide (k<0)||decide (1000<k)||(!decide (v=0) && !valued op)||decide (v < -1000000000)||decide (1000000000<v)||(decide (op=3)&&Jg x 0 (Kv y v))
end Go.Pl
namespace Go.Proofs
open Go Go.Sx Go.Pl
theorem O66:Bh aB (BG W7) 102 F66:=by
 refine Ei (C:=C7 Aw W7 DX Bc) (dn _ _) (MF _) (m:=300) (n:=400) (L:=L0) (fn:=nV) (by kernel_rfl) (by kernel_rfl) fun H w BI args φ hrep h=>?_
 have hn:nV.ntmps=17:=by kernel_rfl
 unfold F66 at h;split at h
 ·rename_i t
  split at h
  ·rename_i op ht
   match args,hrep with
   |[v],⟨hv,_⟩=>
    refine ⟨[.i .i64 op],⟨EH ht hv,trivial⟩,?_⟩;rw[hn,a66 Aw W7 op];have key (n:Int) (e:MC op=n):up φ (.i .i64 n):=Cj (s':=.i .i64 (MC op)) (by rw[e];rfl) h;have q1:ah 1=1:=rfl;have q2:ah 2=2:=rfl;have q3:ah 3=3:=rfl;have q4:ah 4=4:=rfl;have q5:ah 5=5:=rfl;have q6:ah 6=6:=rfl;have q7:ah 7=7:=rfl;have q8:ah 8=8:=rfl;have q9:ah 9=9:=rfl;have q0:ah 0=0:=rfl;simp only[Bd,q0,q1,q2,q3,q4,q5,q6,q7,q8,q9];refine ⟨fun _=>key _ ?_,fun _=>⟨fun _=>key _ ?_,fun _=>⟨fun _=>key _ ?_,fun _=>⟨fun _=>key _ ?_,fun _=>⟨fun _=>key _ ?_,fun _=>⟨fun _=>key _ ?_,fun _=>⟨fun _=>key _ ?_,fun _=>⟨fun _=>key _ ?_,fun _=>⟨fun _=>key _ ?_,fun _=>key _ ?_⟩⟩⟩⟩⟩⟩⟩⟩⟩;all_goals (simp_all [MC])
  ·exact h.elim
 ·exact h.elim
theorem O67:Bh aB (BG W7) 151 F67:=by
 refine Ei (C:=C7 Aw W7 DX Bc) (dn _ _) (MF _) (m:=300) (n:=400) (L:=L0) (fn:=Ac) (by kernel_rfl) (by kernel_rfl) fun H w BI args φ hrep h=>?_
 have hn:Ac.ntmps=13:=by kernel_rfl
 unfold F67 at h;split at h
 ·rename_i t
  split at h
  ·rename_i op ht
   match args,hrep with
   |[v],⟨hv,_⟩=>
    refine ⟨[.i .i64 op],⟨EH ht hv,trivial⟩,?_⟩;rw[hn,a67 Aw W7 op];have key (n:Bool) (e:keyed op=n):up φ (.b n):=Cj (s':=.b (keyed op)) (by rw[e];exact .inl rfl) h;have q7:ah 7=7:=rfl;have q8:ah 8=8:=rfl;have q9:ah 9=9:=rfl;simp only[Bd,q7,q8,q9];refine ⟨fun _=>key _ ?_,fun _=>⟨fun _=>key _ ?_,fun _=>key _ ?_⟩⟩;all_goals (simp_all [keyed]<;>rfl)
  ·exact h.elim
 ·exact h.elim
theorem O68:Bh aB (BG W7) 152 F68:=by
 refine Ei (C:=C7 Aw W7 DX Bc) (dn _ _) (MF _) (m:=300) (n:=400) (L:=L0) (fn:=Ad) (by kernel_rfl) (by kernel_rfl) fun H w BI args φ hrep h=>?_
 have hn:Ad.ntmps=17:=by kernel_rfl
 unfold F68 at h;split at h
 ·rename_i t
  split at h
  ·rename_i op ht
   match args,hrep with
   |[v],⟨hv,_⟩=>
    refine ⟨[.i .i64 op],⟨EH ht hv,trivial⟩,?_⟩;rw[hn,a68 Aw W7 op];have key (n:Bool) (e:valued op=n):up φ (.b n):=Cj (s':=.b (valued op)) (by rw[e];exact .inl rfl) h;have q2:ah 2=2:=rfl;have q3:ah 3=3:=rfl;have q5:ah 5=5:=rfl;have q7:ah 7=7:=rfl;simp only[Bd,q2,q3,q5,q7];refine ⟨fun _=>key _ ?_,fun _=>⟨fun _=>key _ ?_,fun _=>⟨fun _=>key _ ?_,fun _=>key _ ?_⟩⟩⟩;all_goals (simp_all [valued]<;>rfl)
  ·exact h.elim
 ·exact h.elim
theorem O69:Bh aB (BG W7) 153 F69:=by
 refine Ei (C:=C7 Aw W7 DX Bc) (dn _ _) (MF _) (m:=300) (n:=400) (L:=L0) (fn:=Ae) (by kernel_rfl) (by kernel_rfl) fun H w BI args φ hrep h=>?_
 have hn:Ae.ntmps=27:=by kernel_rfl
 unfold F69 at h;split at h
 ·rename_i t u v
  split at h
  ·rename_i k x y ht hu hv
   match args,hrep with
   |[v1,v2,v3],⟨r1,r2,r3,_⟩=>
    refine ⟨[.i .i64 k,.i .i64 x,.i .i64 y],⟨EH ht r1,EH hu r2,EH hv r3,trivial⟩,?_⟩;rw[hn,a69 Aw W7 k x y];have key (n:Bool) (e:Jg k x y=n):up φ (.b n):=Cj (s':=.b (Jg k x y)) (by rw[e];exact .inl rfl) h;have q0:ah 0=0:=rfl;have q2:ah 2=2:=rfl;have q3:ah 1000=1000:=rfl;have q4:ah 1000000000=1000000000:=rfl;have q5:ah 1000000000000000=1000000000000000:=rfl;have q6:fG 999999999=-1000000000:=rfl;have q7:fG 999999999999999=-1000000000000000:=rfl;simp only[Bd,AO,q0,q2,q3,q4,q5,q6,q7];refine ⟨fun e=>⟨fun _=>key _ ?_,fun _=>⟨fun _=>key _ ?_,fun _=>⟨fun _=>key _ ?_,fun _=>key _ ?_⟩⟩⟩,fun e=>⟨fun _=>key _ ?_,fun _=>⟨fun _=>key _ ?_,fun _=>⟨fun _=>key _ ?_,fun _=>key _ ?_⟩⟩⟩⟩;all_goals (simp_all [Jg]<;>omega)
  ·exact h.elim
 ·exact h.elim
theorem O94:Bh aB (BG W7) 173 F94:=by
 refine Ei (C:=C7 Aw W7 DX Bc) (dn _ _) (MF _) (m:=300) (n:=400) (L:=L0) (fn:=Af) (by kernel_rfl) (by kernel_rfl) fun H w BI args φ hrep h=>?_
 have hn:Af.ntmps=12:=by kernel_rfl
 unfold F94 at h;split at h
 ·rename_i x y s2 s3 t u
  split at h
  ·rename_i a hh b l p q hs2 hs3 ht hu
   match args,hrep with
   |[v,v1,v2],⟨hv,r1,r2,_⟩=>
    refine ⟨[.agg [.i .i64 x,.i .i64 y,.sl 1 a hh,.sl 2 b l],.i .i64 p,.i .i64 q],⟨Ip hv (fun u hu=>Ce hs2 hu) (fun u hu=>Ce hs3 hu),EH ht r1,EH hu r2,trivial⟩,?_⟩;rw[hn,a94 Aw W7 x y a b hh l p q];exact Cj (s':=.Ba [.agg [.i .i64 x,.i .i64 y,.sl 1 a hh,.sl 2 b l],.i .i64 3,.i .i64 y]) (by simp[Wk,N7]) h
  ·exact h.elim
 ·exact h.elim
theorem O95:Bh aB (BG W7) 174 F95:=by
 refine Ei (C:=C7 Aw W7 DX Bc) (dn _ _) (MF _) (m:=300) (n:=400) (L:=L0) (fn:=Ag) (by kernel_rfl) (by kernel_rfl) fun H w BI args φ hrep h=>?_
 have hn:Ag.ntmps=12:=by kernel_rfl
 unfold F95 at h;split at h
 ·rename_i x y s2 s3 t u
  split at h
  ·rename_i a hh b l p q hs2 hs3 ht hu
   match args,hrep with
   |[v,v1,v2],⟨hv,r1,r2,_⟩=>
    refine ⟨[.agg [.i .i64 x,.i .i64 y,.sl 1 a hh,.sl 2 b l],.i .i64 p,.i .i64 q],⟨Ip hv (fun u hu=>Ce hs2 hu) (fun u hu=>Ce hs3 hu),EH ht r1,EH hu r2,trivial⟩,?_⟩;rw[hn,a95 Aw W7 x y a b hh l p q];exact Cj (s':=.Ba [.agg [.i .i64 x,.i .i64 q,.sl 1 a hh,.sl 2 b l],.i .i64 1,.i .i64 0]) (by simp[Wk,N7]) h
  ·exact h.elim
 ·exact h.elim
theorem O96:Bh aB (BG W7) 175 F96:=by
 refine Ei (C:=C7 Aw W7 DX Bc) (dn _ _) (MF _) (m:=300) (n:=400) (L:=L0) (fn:=Ah) (by kernel_rfl) (by kernel_rfl) fun H w BI args φ hrep h=>?_
 have hn:Ah.ntmps=15:=by kernel_rfl
 unfold F96 at h;split at h
 ·rename_i x y s2 s3 t u
  split at h
  ·rename_i a hh b l p q hs2 hs3 ht hu
   match args,hrep with
   |[v,v1,v2],⟨hv,r1,r2,_⟩=>
    refine ⟨[.agg [.i .i64 x,.i .i64 y,.sl 1 a hh,.sl 2 b l],.i .i64 p,.i .i64 q],⟨Ip hv (fun u hu=>Ce hs2 hu) (fun u hu=>Ce hs3 hu),EH ht r1,EH hu r2,trivial⟩,?_⟩;rw[hn,a96 Aw W7 x y a b hh l p q];exact Cj (s':=.Ba [.agg [.i .i64 x,.i .i64 (Kv y q),.sl 1 a hh,.sl 2 b l],.i .i64 1,.i .i64 0]) (by simp[Wk,N7];rfl) h
  ·exact h.elim
 ·exact h.elim
theorem O97:Bh aB (BG W7) 176 F97:=by
 refine Ei (C:=C7 Aw W7 DX Bc) (dn _ _) (MF _) (m:=300) (n:=400) (L:=L0) (fn:=Ai) (by kernel_rfl) (by kernel_rfl) fun H w BI args φ hrep h=>?_
 have hn:Ai.ntmps=17:=by kernel_rfl
 unfold F97 at h;split at h
 ·rename_i x y s2 s3 t u
  split at h
  ·rename_i a hh b l p q hs2 hs3 ht hu
   obtain ⟨h1,hφ⟩:=h;match args,hrep with
   |[v,v1,v2],⟨hv,r1,r2,_⟩=>
    refine ⟨[.agg [.i .i64 x,.i .i64 y,.sl 1 a hh,.sl 2 b l],.i .i64 p,.i .i64 q],⟨Ip hv (fun u hu=>Ce hs2 hu) (fun u hu=>Ce hs3 hu),EH ht r1,EH hu r2,trivial⟩,?_⟩;have h0:=Lm h1 (wE a);rw[hn,a97 Aw W7 x y a b hh l p q,QC,QD,abL];have fin:up φ (.Ba [.agg [.i .i64 x,.i .i64 y,.os 3 1 (a+1) (Aw.snoc hh a (BD [[.i .i64 q]])),.sl 2 b l],.i .i64 (ah 1),.i .i64 (ah 0)]):=
     Cj (s':=.Ba [.agg [.i .i64 x,.i .i64 y,.sl 1 (a+1) (GH a hh [.i .i64 q]),.sl 2 b l],.i .i64 1,.i .i64 0]) ⟨⟨rfl,rfl,.inr ⟨rfl,rfl,ad4⟩,.inr ⟨rfl,rfl,fun _ _=>rfl⟩,trivial⟩,rfl,rfl,trivial⟩ hφ
    refine ⟨fun e=>⟨?_,h0,h1,fin⟩,fun _=>⟨h0,h1,fin⟩⟩;have e:a=0:=by have:=of_decide_eq_true (show decide (a<=0)=aF from e);omega
    subst e;exact Cj (s':=.Ba [.agg [.i .i64 x,.i .i64 y,.sl 1 (0+1) (GH 0 hh [.i .i64 q]),.sl 2 b l],.i .i64 1,.i .i64 0]) ⟨⟨rfl,rfl,.inr ⟨rfl,rfl,fun j hj=>by
     obtain rfl:j=0:=by omega
     rfl⟩,.inr ⟨rfl,rfl,fun _ _=>rfl⟩,trivial⟩,rfl,rfl,trivial⟩ hφ
  ·exact h.elim
 ·exact h.elim
theorem O99:Bh aB (BG W7) 178 F99:=by
 refine Ei (C:=C7 Aw W7 DX Bc) (dn _ _) (MF _) (m:=300) (n:=400) (L:=L0) (fn:=Aj) (by kernel_rfl) (by kernel_rfl) fun H w BI args φ hrep h=>?_
 have hn:Aj.ntmps=25:=by kernel_rfl
 unfold F99 at h;split at h
 ·rename_i x y s2 s3 t u
  split at h
  ·rename_i a hh b l p q hs2 hs3 ht hu
   obtain ⟨h1,hφ⟩:=h;match args,hrep with
   |[v,v1,v2],⟨hv,r1,r2,_⟩=>
    refine ⟨[.agg [.i .i64 x,.i .i64 y,.sl 1 a (Az (AB (α:=Int) hh)),.sl 2 b l],.i .i64 p,.i .i64 q],⟨Ip hv (fun u hu=>EK (Ce hs2 hu) h1) (fun u hu=>Ce hs3 hu),EH ht r1,EH hu r2,trivial⟩,?_⟩;have hrow:=Jj h1;generalize AB (α:=Int) hh=o at *;have hφ:φ (.Ba [.agg [.i .i64 x,.i .i64 y,.sl 1 (QI a) (Oq hh),.sl 2 b l],.i .i64 (UA a),.i .i64 (QJ a o)]):=hφ;rw[hn,a99 Aw W7 x y a b o l p q];refine ⟨fun e=>?_,fun e=>?_⟩
    ·have e:a=0:=by simpa[Bd,Bg] using e
     subst e;exact Cj (s':=.Ba [.agg [.i .i64 x,.i .i64 y,.sl 1 (QI 0) (Oq hh),.sl 2 b l],.i .i64 (UA 0),.i .i64 (QJ 0 o)]) ⟨⟨rfl,rfl,.inl ⟨rfl,rfl⟩,.inr ⟨rfl,rfl,fun _ _=>rfl⟩,trivial⟩,rfl,rfl,trivial⟩ hφ
    ·have e:¬a=0:=by simpa[Bd,Bg] using e
     refine ⟨by simp[BO];omega,by simp[II];omega,?_⟩;refine Cj (s':=.Ba [.agg [.i .i64 x,.i .i64 y,.sl 1 (QI a) (Oq hh),.sl 2 b l],.i .i64 (UA a),.i .i64 (QJ a o)]) ⟨⟨rfl,rfl,.inr ⟨rfl,rfl,fun j hj=>?_⟩,.inr ⟨rfl,rfl,fun _ _=>rfl⟩,trivial⟩,?_,?_,trivial⟩ hφ
     ·have hj:j<a - 1:=hj
      show Az o (1+j)=hh (1+j);rw[hrow (1+j) (by omega)];rfl
     ·simp[Wk,UA,e]
     ·simp[Wk,QJ,e]
  ·exact h.elim
 ·exact h.elim
end Go.Proofs
