/- Own work. -/
import Derived.Test.YthehnhaoiijkhaaGreatDoorZ08
import Derived.Lib.ItoaLen
import Derived.Shelf.Spec.SlicesInsert
import Derived.Lib.AppendZerosOnto
import Derived.Laws.NewBlocks
open Int (ofNat)
open Array renaming length_toList->bV,getElem?_eq_some_iff->bF,size_append->nT
open Bool renaming true->aC,false->ak,and_eq_true->aI
open Go renaming sizeOf->nD,heap_alloc_old->vU
open Go.Act renaming eval->sH,put->uh
open Go.Addr renaming add_lit->eY
open Go.BinOp renaming shr->qx
open Go.Builtin renaming copy_->jQ,firstCells->gB,zeroCells->jf,append_->eH
open Go.Extern.SlicesOverlaps renaming overlaps->sF
open Go.IntKind renaming i64->aN,wrap_i64->iT,u64->lT
open Go.Lib renaming joinTail->kC,wpList_append_run->jT,run_append_grow_zeros->qw
open Go.Proofs.C7 renaming ok->dw,WI->lS
open Go.Proofs.XV renaming ok->zy
open Go.Proofs.Tryz renaming prog->aB,f145->zo,f146->zq,f77->jk,f116->qI,underlying209->ig,mixed_->sS,func182->nP,ntmps182->nG,underlying3->kL,f204->uV,f181->zu,tys->mP,func208->yw,ntmps208->wW,fnsAre_->jg,entersB_->jI,f184->zx,f179->zA,f186->zB,f183->zC,f185->zD,f102->nM,f151->zF,f152->zG,f153->zH,f173->zI,f174->zJ,f175->zK,f176->zL,f178->zM
open Go.Sx renaming Enters->wX
open Go.Sx.Bj renaming ok->iJ,sh->aQ,int->aj
open Go.Sx.D8 renaming at_->bJ,ret->aP
open Go.Sx.It renaming code->bD,inBlock->dD
open Go.Sx.Sh renaming str->dA,sl->aG,Ak->cZ,i->aW,agg->bH,os->jo,er->aZ,v->jC
open Go.Sx.Tree renaming leaf->aA,node->aF,need->aH,fail->dH,must->aS
open Go.Value renaming nilIface->bI
open Go.World renaming shape?->wU,frozen?->wH,setRow->wV
open Int renaming toNat_natCast->fK,ofNat->ah,negSucc->fG
open List renaming range->aX,all_eq_true->dO,mem_range->dP,getD_eq_getElem?_getD->aY,getElem?_append_left->dJ,mem_cons->gZ,length_append->bf,length_cons->iQ,getElem_mem->kD,take_succ_eq_append_getElem->nO,map_append->iO,take_length->uU,mem_map->dK,length_take->bZ,length_drop->dR,size_toArray->gU,getElem?_take->bY,getElem?_drop->eU,mem_of_mem_drop->jq,append_assoc->dU,take_take->wI,take_left->kY,getElem_cons_zero->qO,takeWhile->jr,pairwise_iff_getElem->jB,takeWhile_prefix->qX,length_nil->qg,getElem?_append_right->fD
open Nat renaming sub_self->qA,add_mul->gy,one_mul->iF,min->pI,min_def->sG,le_refl->dn,zero_le->gQ,le_succ->vK,beq->fC
open Option renaming some->ay,none->aK
namespace Go.Pl
open Go Go.Sx
def JD(s:Cm):List (List UInt8):=EC s.kind::(if s.kind=1\/s.kind=2 then [AV s.num] else if s.kind=3 then s.q.map AV else if s.kind=4 then s.ps.map (fun p=>AV p.key++[58]++AV p.val) else [])
def noI:Nat->List Sh:=zX (nth ([]:List Int))
def noP:Nat->List Sh:=zX (nth ([]:List Pr))
def keyS(s:Cm):List UInt8:=Dn (JD s) [32]
def RU(n:Nat):Bool:=decide (8<n)
def Ns(n:Nat)(o:Nat->Oj):Bool:=(aX n).all fun j=>!EO (o j).kind (o j).init
def KP(n:Nat)(o:Nat->Oj):Nat:=((aX n).find? fun j=>EO (o j).kind (o j).init).getD 0
def Qm(n:Nat)(o:Nat->Oj):Bool:=(aX n).all fun j=>CQ (o j).kind
theorem Ii{n:Nat}{p:Nat->Bool}(h:(aX n).all p=aC):∀j,j<n->p j=aC:=fun j hj=>dO.1 h j (dP.2 hj)
theorem agK{n:Nat}{o:Nat->Oj}(h:∀j,j<n->EO (o j).kind (o j).init=ak):Ns n o=aC:=dO.2 fun j hj=>by simp[h j (dP.1 hj)]
theorem anM{n k:Nat}{o:Nat->Oj}(hk:k<n)(h:EO (o k).kind (o k).init=aC):Ns n o=ak:=by
 unfold Ns;rw[List.all_eq_false];exact ⟨k,dP.2 hk,by simp[h]⟩
theorem find_range{n k:Nat}{p:Nat->Bool}(hk:k<n)(h:p k=aC)(hb:∀j,j<k->p j=ak):(aX n).find? p=ay k:=by
 rw[List.find?_range_eq_some];exact ⟨h,dP.2 hk,fun j hj=>by simp[hb j hj]⟩
theorem agL{n k:Nat}{o:Nat->Oj}(hk:k<n)(h:EO (o k).kind (o k).init=aC)(hb:∀j,j<k->EO (o j).kind (o j).init=ak):KP n o=k:=by
 unfold KP;rw[find_range hk h hb];rfl
def anN(n:Nat)(o:Nat->Int):Bool:=(aX n).all fun j=>CQ (o j)
def ar4(n:Nat)(o:Nat->Pr):Bool:=(aX n).all fun j=>CQ (o j).key&&CQ (o j).val
end Go.Pl
namespace Go.Proofs
open Go Go.Sx Go.Pl
theorem O59:Ar aB (AZ W7) 145 F92:=by
 refine DU (C:=C7 zW W7 Dt Ap) (dw _ _) (LH _) (m:=300) (n:=400) (L:=L0) (fn:=zo) (by kernel_rfl) (by kernel_rfl) fun H w A8 args φ hrep h=>?_
 have hn:zo.ntmps=5:=by kernel_rfl
 unfold F92 at h;split at h
 ·obtain ⟨h1,hφ⟩:=h
  refine ⟨_,hrep,?_⟩;rw[hn,a59 zW W7];exact ⟨h1,BH (s':=.str _) rfl hφ⟩
 ·exact h.elim
theorem O60:Ar aB (AZ W7) 146 F60:=by
 refine DU (C:=C7 zW W7 Dt Ap) (dw _ _) (LH _) (m:=300) (n:=400) (L:=L0) (fn:=zq) (by kernel_rfl) (by kernel_rfl) fun H w A8 args φ hrep h=>?_
 have hn:zq.ntmps=5:=by kernel_rfl
 unfold F60 at h;split at h
 ·obtain ⟨h1,h2,h3,hφ⟩:=h
  refine ⟨_,hrep,?_⟩;rw[hn,a60 zW W7];exact ⟨h1,h2,h3,BH (s':=.str _) rfl hφ⟩
 ·exact h.elim
theorem OBs:∀g F,Ih g=ay F->Ar aB (AZ W7) g F:=fun g F h=>by
 unfold Ih at h;split at h
 ·cases h;exact O58
 ·cases h;exact O59
 ·cases h;exact O60
 ·cases h;exact O65
 ·cases h
theorem abj(stop:Nat->List Nat->Bool):BA aB (C7 zW W7 Ih stop):=lS OBs fun g h=>by
 unfold Ih at h;split at h;all_goals first|(cases h;done) |kernel_rfl
def F41:List Sh->Tree Sh
 |[.agg [.i .i64 k,.i .i64 i]]=>.need (CQ k) (.node (EO k i) (.leaf (.Ak [.agg (CY Nr),.er 7 329])) (.leaf (.Ak [.agg [.i .i64 k,.i .i64 i,.sl 1 0 noI,.sl 2 0 noP],.v .nilIface]))) |_=>.fail
theorem O41:Ar aB (AZ W7) 95 F41:=by
 refine DU (C:=C7 zW W7 Ih Ap) (dw _ _) (abj _) (m:=300) (n:=400) (L:=L0) (fn:=Tryz.f95) (by kernel_rfl) (by kernel_rfl) fun H w A8 args φ hrep h=>?_
 have hn:Tryz.f95.ntmps=16:=by kernel_rfl
 unfold F41 at h;split at h
 ·rename_i k i
  obtain ⟨h1,hb,hg⟩:=h;refine ⟨_,hrep,?_⟩;rw[hn,a41 zW W7 k i];refine ⟨h1,fun e=>BH (s':=.Ak [.agg (CY Nr),.er 7 329]) ?_ (hb e),fun e=>BH (s':=.Ak [.agg [.i .i64 k,.i .i64 i,.sl 1 0 noI,.sl 2 0 noP],.v .nilIface]) ?_ (hg e)⟩
  ·simp[CY,Nr,Wk,NG,len]
  ·simp[CY,Wk,NG,len]
 ·exact h.elim
def F49:List Sh->Tree Sh
 |[.agg [s0,s1]]=>match DV 2 s0,DV 8 s1 with
  |some (n,g),ay (0,_)=>.need (okB Oj n g) (.need (Qm n (zZ g)) (.node (RU n) (.leaf (.er 6 329)) (.node (Ns n (zZ g)) (.leaf (.v .nilIface)) (.leaf (.CS 109 (.pt [.i .i64 (KP n (zZ g)),.er 7 329])))))) |_,_=>.fail
 |_=>.fail
theorem akl{H0:Mem}{w0:World}{n:Nat}{o:Nat->Oj}{e:Nat->List Sh}{φ:Sh->Prop}(hn:n<=8)(hk:∀j,j<n->CQ (o j).kind=aC)(hT:(∀j,j<n->EO (o j).kind (o j).init=ak)->φ (.v .nilIface))
  (hF:∀k,k<n->EO (o k).kind (o k).init=aC->(∀j,j<k->EO (o j).kind (o j).init=ak)->φ (.CS 109 (.pt [.i .i64 k,.er 7 329]))) :
  ∀r k,k+r=n->(∀j,j<k->EO (o j).kind (o j).init=ak)->Bd aB (C7 zW W7 Ih Ap) (K0 H0 w0) 77 IL (adz n o e (k:Int)) [] emp φ
 |r,k,hkr,hE=>by
  refine Gu (fn:=jk) (tb:=WM) (by kernel_rfl) (by kernel_rfl) ?_;refine Hl (dw _ _) (abj _) (hold:=TD) (m:=300) (n:=400) (ts:=[⟨77,IL,adz n o e (k+1:Nat),[]⟩,⟨77,aiL,aiK n o e,[]⟩]) ?_;rw[b49 zW W7 n o e k (k+1:Nat)];simp only[Ad,Bl,CJ,Dj,GY,fK];refine ⟨fun h=>?_,fun h=>?_⟩
  ·have hlt:k<n:=by simp at h;omega
   refine ⟨by simp;omega,hk k hlt,fun hb=>hF k hlt hb hE,fun hb=>⟨⟨rfl,rfl,?_,rfl,rfl,trivial⟩,_,rfl,?_⟩⟩
   ·simp only[iJ];rw[BL (by omega) (by omega)];rfl
   ·match r,hkr with
    |0,hkr=>omega |r+1,hkr=>
     refine akl hn hk hT hF r (k+1) (by omega) fun j hj=>?_
     by_cases e:j=k
     ·subst e;exact hb
     ·exact hE j (by omega)
  ·have:k=n:=by simp at h;omega
   subst this;refine ⟨⟨rfl,rfl,trivial⟩,_,rfl,?_⟩;refine Gu (fn:=jk) (tb:=anJ) (by kernel_rfl) (by kernel_rfl) ?_;refine Hl (dw _ _) (abj _) (hold:=TD) (m:=300) (n:=400) (ts:=[]) ?_;rw[c49 zW W7 k o e];exact ⟨fun h=>by simp[Ad] at h,fun _=>hT hE⟩
theorem O49:Ar aB (AZ W7) 77 F49:=by
 refine KE (C:=C7 zW W7 Ih Ap) (dw _ _) (fn:=jk) (by kernel_rfl) (by kernel_rfl) fun H w A8 args φ hrep h=>?_
 have hn:jk.ntmps=78:=by kernel_rfl
 unfold F49 at h;split at h
 ·rename_i s0 s1
  split at h
  ·rename_i n g e hs0 hs1
   obtain ⟨h1,h2,hbig,hsm⟩:=h;have hbig:RU n=aC->φ (.er 6 329):=hbig;have hsm:RU n=ak->(Ns n (zZ g)=aC->φ (.v .nilIface))/\(Ns n (zZ g)=ak->φ (.CS 109 (.pt [.i .i64 (KP n (zZ g)),.er 7 329]))):=hsm;match args,hrep with
   |[v],⟨hv,_⟩=>
    refine ⟨[.agg [.sl 2 n (zX (zZ (α:=Oj) g)),.sl 8 0 e]],⟨X3 hv (fun u hu=>Ei (BD hs0 hu) h1) (fun u hu=>BD hs1 hu),trivial⟩,L0,?_⟩;generalize zZ (α:=Oj) g=o at *;refine Hl (dw _ _) (abj _) (hold:=TD) (m:=300) (n:=400) (ts:=[⟨77,IL,adz n o e (0:Nat),[]⟩]) ?_;rw[hn,a49 zW W7 n o e (0:Nat)];refine ⟨fun h=>hbig ?_,fun h=>⟨fun h=>?_,fun _=>⟨⟨rfl,rfl,rfl,rfl,rfl,trivial⟩,_,rfl,?_⟩⟩⟩
    ·simp[Ad,Az] at h;simp[RU];omega
    ·simp[Ad,Az] at h
    ·have hn8:n<=8:=by simp[Ad,Az] at h;omega
     obtain ⟨q1,q2⟩:=hsm (by simp[RU];omega);refine akl hn8 (Ii h2) (fun hE=>q1 (agK hE)) (fun k hk hb hE=>?_) n 0 (by omega) fun j hj=>by omega
     have:=q2 (anM hk hb);rwa[agL hk hb hE] at this
  ·exact h.elim
 ·exact h.elim
end Go.Proofs
namespace Go.Pl
open Go Go.Sx Go.Proofs
theorem anO{a b:List UInt8}:lst (List UInt8) 2 (AU (chunks 1 (1+1) [dA a,dA b]))=[a,b]:=rfl
theorem anP{a:List UInt8}:lst (List UInt8) 1 (AU (chunks 1 1 [dA a]))=[a]:=rfl
theorem Jj{n:Int}(h:CQ n=aC):(AV n).length<=21:=by
 have h:=of_decide_eq_true h;exact Go.Lib.itoa_length_le n h.1 h.2
theorem aeS{α:Type}[Row α](l:List α){k:Nat}(h:l.length=k):lst α k (zX (nth l))=l:=by subst h;exact KN l
theorem O1{α:Type}[Row α](l:List α)(a:α){r:List (List Sh)}(h:AU r 0=Row.put a):∀i,i<l.length+1->zW.snoc (zX (nth l)) l.length (AU r) i=zX (nth (l++[a])) i:=fun i hi=>by
 rw[Ed];split
 ·rename_i h1
  simp only[zX,nth];rw[aY,aY,dJ h1]
 ·have:i=l.length:=by omega
  subst this;rw[qA,h];simp[zX,nth]
end Go.Pl
namespace Go.Proofs
open Go Go.Sx Go.Pl
def F35:List Sh->Tree Sh
 |[.agg [.i .i64 x,.i .i64 y,s2,s3]]=>match DV 1 s2,DV 2 s3 with
  |some (a,h),ay (b,l)=>.need (okB Int a h) (.need (okB Pr b l) (.need (CQ x) (.need (CQ y) (.need (anN a (zZ h)) (.need (ar4 b (zZ l)) (.need (decide (a<=100000/\b<=100000)) (.leaf (.str (keyS ⟨x,y,lst Int a h,lst Pr b l⟩))))))))) |_,_=>.fail
 |_=>.fail
theorem X8(l:List (List UInt8))(sep:List UInt8){m:Nat}(h:∀x∈l,x.length<=m):(Dn l sep).length<=l.length*(m+sep.length):=by
 induction l with
 |nil=>simp[Dn,Go.Lib.join_nil] |cons x r ih=>
  have h1:=h x (by simp);have h2:(kC sep r).length<=r.length*(m+sep.length):=by
   clear ih;induction r with
   |nil=>simp[kC] |cons y r ih2=>
    have h3:=ih2 fun z hz=>h z (by
     rcases gZ.1 hz with rfl|hz
     ·simp
     ·simp[hz])
    have h4:=h y (by simp);simp only[kC,List.map_cons,List.flatten_cons,bf,iQ,gy,iF] at h3 ⊢;omega
  unfold Dn;rw[Go.Lib.join_cons,bf,iQ,gy,iF];omega
theorem NT{l:List (List UInt8)}(hl:l.length<=200000)(h:∀x∈l,x.length<=50):Io (Dn l [32])=aC:=by
 have:=X8 l [32] h;have h2:l.length*(50+[(32:UInt8)].length)<=200000*51:=Nat.mul_le_mul_right _ hl;exact decide_eq_true (by omega)
theorem room_le{n b:Nat}(h:n<=1000000)(hb:b<=1000):Bo n b=aC:=by
 show decide (n*b<=140737488355328/\n<=maxLen)=aC;rw[maxLen_eq];have:n*b<=1000000*1000:=Nat.mul_le_mul h hb;exact decide_eq_true ⟨by omega,by omega⟩
theorem abk(k:Int):(EC k).length<=50:=by
 unfold EC;repeat' split
 all_goals decide
theorem agM{H0:Mem}{w0:World}{q:List Int}{W:List UInt8}{φ:Sh->Prop}(hq:q.length<=100000)(h64:∀x∈q,CQ x=aC)(hW:W.length<=50)(hφ:φ (.str (Dn (W::q.map AV) [32]))):
  ∀r k,k+r=q.length->Bd aB (C7 zW W7 Ih Ap) (K0 H0 w0) 116 X6 (X4 q.length (nth q) (k:Int) (k+1) (zX (nth (W::(q.take k).map AV)))) [] emp φ
 |r,k,hkr=>by
  refine Gu (fn:=qI) (tb:=anK) (by kernel_rfl) (by kernel_rfl) ?_;refine Hl (dw _ _) (abj _) (hold:=Bh) (m:=300) (n:=400) (ts:=[⟨116,X6,X4 q.length (nth q) (k+1:Nat) (k+1+1) (zX (nth (W::(q.take (k+1)).map AV))),[]⟩]) ?_;rw[avi zW W7 q.length (nth q) k (k+1:Nat) (k+1) (k+1+1) (zX (nth (W::(q.take k).map AV))) (zX (nth (W::(q.take (k+1)).map AV)))];have hlen:(W::(q.take k).map AV).length=k+1:=by simp;omega
  simp only[Ad,Bl,CJ,Dj,GY,fK,abg];refine ⟨fun h=>?_,fun h=>?_⟩
  ·have hlt:k<q.length:=by simp at h;omega
   have hx:nth q k=q[k]:=by simp[nth,hlt]
   refine ⟨by simp;omega,by rw[hx];exact h64 _ (kD hlt),room_le (by omega) (by omega),⟨rfl,rfl,?_,rfl,?_,trivial⟩,_,rfl,?_⟩
   ·simp only[iJ];rw[BL (by omega) (by omega)];rfl
   ·have e:W::(q.take (k+1)).map AV=(W::(q.take k).map AV)++[AV (nth q k)]:=by
     rw[hx,nO hlt,iO];rfl
    have:=O1 (W::(q.take k).map AV) (AV (nth q k)) (r:=[[.str (AV (nth q k))]]) rfl;rw[hlen] at this;rw[e];exact this
   ·match r,hkr with
    |0,hkr=>omega |r+1,hkr=>exact agM hq h64 hW hφ r (k+1) (by omega)
  ·have hk:k=q.length:=by simp at h;omega
   subst hk;rw[uU] at hlen ⊢;rw[aeS _ hlen];refine ⟨Dy _ _,room_le (by omega) (by omega),NT (by simp;omega) fun x hx=>?_,hφ⟩;rcases gZ.1 hx with rfl|hx
   ·exact hW
   ·obtain ⟨y,hy,rfl⟩:=dK.1 hx
    have:=Jj (h64 y hy);omega
theorem adA{p:Pr}(h1:CQ p.key=aC)(h2:CQ p.val=aC):(AV p.key++[58]++AV p.val).length<=50:=by
 have:=Jj h1;have:=Jj h2;simp;omega
theorem agN{H0:Mem}{w0:World}{q:List Pr}{W:List UInt8}{φ:Sh->Prop}(hq:q.length<=100000)(h64:∀x∈q,CQ x.key=aC/\CQ x.val=aC)(hW:W.length<=50)(hφ:φ (.str (Dn (W::q.map (fun p=>AV p.key++[58]++AV p.val)) [32]))):
  ∀r k,k+r=q.length->Bd aB (C7 zW W7 Ih Ap) (K0 H0 w0) 116 X7 (X5 q.length (nth q) (k:Int) (k+1) (zX (nth (W::(q.take k).map (fun p=>AV p.key++[58]++AV p.val))))) [] emp φ
 |r,k,hkr=>by
  refine Gu (fn:=qI) (tb:=anL) (by kernel_rfl) (by kernel_rfl) ?_;refine Hl (dw _ _) (abj _) (hold:=Bh) (m:=300) (n:=400) (ts:=[⟨116,X7,X5 q.length (nth q) (k+1:Nat) (k+1+1) (zX (nth (W::(q.take (k+1)).map (fun p=>AV p.key++[58]++AV p.val)))),[]⟩]) ?_;rw[avj zW W7 q.length (nth q) k (k+1:Nat) (k+1) (k+1+1) (zX (nth (W::(q.take k).map (fun p=>AV p.key++[58]++AV p.val)))) (zX (nth (W::(q.take (k+1)).map (fun p=>AV p.key++[58]++AV p.val))))];have hlen:(W::(q.take k).map (fun p=>AV p.key++[58]++AV p.val)).length=k+1:=by simp;omega
  simp only[Ad,Bl,CJ,Dj,GY,fK,abg];refine ⟨fun h=>?_,fun h=>?_⟩
  ·have hlt:k<q.length:=by simp at h;omega
   have hx:nth q k=q[k]:=by simp[nth,hlt]
   obtain ⟨p1,p2⟩:=h64 _ (kD hlt);rw[<-hx] at p1 p2;have l1:=Jj p1;have l2:=Jj p2;refine ⟨by simp;omega,p1,?_,p2,?_,room_le (by omega) (by omega),⟨rfl,rfl,?_,rfl,?_,trivial⟩,_,rfl,?_⟩
   ·show decide ((AV (nth q k).key).length+1<=9223372036854775807)=aC
    exact decide_eq_true (by omega)
   ·show decide ((AV (nth q k).key++[58]).length+(AV (nth q k).val).length<=9223372036854775807)=aC
    exact decide_eq_true (by rw[bf];simp;omega)
   ·simp only[iJ];rw[BL (by omega) (by omega)];rfl
   ·have e:W::(q.take (k+1)).map (fun p=>AV p.key++[58]++AV p.val)=(W::(q.take k).map (fun p=>AV p.key++[58]++AV p.val))++[AV (nth q k).key++[58]++AV (nth q k).val]:=by
     rw[hx,nO hlt,iO];rfl
    have:=O1 (W::(q.take k).map (fun p=>AV p.key++[58]++AV p.val)) (AV (nth q k).key++[58]++AV (nth q k).val) (r:=[[.str (AV (nth q k).key++[58]++AV (nth q k).val)]]) rfl;rw[hlen] at this;rw[e];exact this
   ·match r,hkr with
    |0,hkr=>omega |r+1,hkr=>exact agN hq h64 hW hφ r (k+1) (by omega)
  ·have hk:k=q.length:=by simp at h;omega
   subst hk;rw[uU] at hlen ⊢;rw[aeS _ hlen];refine ⟨Dy _ _,room_le (by omega) (by omega),NT (by simp;omega) fun x hx=>?_,hφ⟩;rcases gZ.1 hx with rfl|hx
   ·exact hW
   ·obtain ⟨y,hy,rfl⟩:=dK.1 hx
    exact adA (h64 y hy).1 (h64 y hy).2
theorem agO{α:Type}[Row α]{n:Nat}{g:Nat->List Sh}{x:α}(h:x∈lst α n g):∃j,j<n/\x=zZ g j:=by
 obtain ⟨j,hj,rfl⟩:=dK.1 h;exact ⟨j,dP.1 hj,rfl⟩
theorem KF{α:Type}[Row α]{H:Mem}{st n:Nat}{g:Nat->List Sh}{v:Value}(h:Rep H (.sl st n g) v)(hg:okB α n g=aC):Rep H (.sl st (lst α n g).length (zX (nth (lst α n g)))) v:=by
 rw[E8];refine Es h fun j hj=>?_
 rw[JB hg j hj];simp only[zX,RP hj]
theorem O35:Ar aB (AZ W7) 116 F35:=by
 refine KE (C:=C7 zW W7 Ih Ap) (dw _ _) (fn:=qI) (by kernel_rfl) (by kernel_rfl) fun H w A8 args φ hrep h=>?_
 have hn:qI.ntmps=61:=by kernel_rfl
 unfold F35 at h;split at h
 ·rename_i x y s2 s3
  split at h
  ·rename_i a hh b l hs2 hs3
   obtain ⟨h1,h2,h3,h4,h5,h6,h7,hφ⟩:=h;have h7:=of_decide_eq_true h7;match args,hrep with
   |[v],⟨hv,_⟩=>
    have l1:(lst Int a hh).length=a:=E8 _ _;have l2:(lst Pr b l).length=b:=E8 _ _;have m1:∀z∈lst Int a hh,CQ z=aC:=fun z hz=>by
     obtain ⟨j,hj,rfl⟩:=agO hz;exact Ii h5 j hj
    have m2:∀z∈lst Pr b l,CQ z.key=aC/\CQ z.val=aC:=fun z hz=>by
     obtain ⟨j,hj,rfl⟩:=agO hz;simpa using Ii h6 j hj
    refine ⟨[.agg [.i .i64 x,.i .i64 y,.sl 1 (lst Int a hh).length (zX (nth (lst Int a hh))),.sl 2 (lst Pr b l).length (zX (nth (lst Pr b l)))]],⟨Hz hv (fun u hu=>KF (BD hs2 hu) h1) (fun u hu=>KF (BD hs3 hu) h2),trivial⟩,L0,?_⟩;generalize lst Int a hh=q at *;generalize lst Pr b l=ps at *;have hφ:φ (.str (Dn (JD ⟨x,y,q,ps⟩) [32])):=hφ;refine Hl (dw _ _) (abj _) (hold:=Bh) (m:=300) (n:=400) (ts:=[⟨116,X6,X4 q.length (nth q) (0:Nat) 1 (zX (nth [EC x])),[]⟩,⟨116,X7,X5 ps.length (nth ps) (0:Nat) 1 (zX (nth [EC x])),[]⟩]) ?_;rw[hn,a35 zW W7 x y q.length ps.length (nth q) (nth ps) (0:Nat) 1 (zX (nth [EC x])),anO,anP];have hw:=abk x;have hy:=Jj h4;have two:Io (Dn [EC x,AV y] [32])=aC:=NT (by simp) fun z hz=>by
     simp at hz;rcases hz with rfl|rfl
     ·exact hw
     ·omega
    refine ⟨rfl,h3,fun e=>⟨h4,rfl,room_le (by omega) (by omega),two,?_⟩,fun e1=>⟨fun e=>⟨h4,rfl,room_le (by omega) (by omega),two,?_⟩,fun e2=>⟨fun e=>⟨⟨rfl,rfl,rfl,rfl,fun j hj=>?_,trivial⟩,_,rfl,?_⟩,fun e3=>⟨fun e=>⟨⟨rfl,rfl,rfl,rfl,fun j hj=>?_,trivial⟩,_,rfl,?_⟩,fun e4=>⟨rfl,room_le (by omega) (by omega),NT (by simp) fun z hz=>?_,?_⟩⟩⟩⟩⟩
    ·have e:x=1:=by simpa[Aq] using e
     subst e;exact hφ
    ·have e:x=2:=by simpa[Aq] using e
     subst e;exact hφ
    ·obtain rfl:j=0:=by omega
     rfl
    ·have e:x=3:=by simpa[Aq] using e
     subst e;exact agM (by omega) m1 hw hφ q.length 0 (by omega)
    ·obtain rfl:j=0:=by omega
     rfl
    ·have e:x=4:=by simpa[Aq] using e
     subst e;exact agN (by omega) m2 hw hφ ps.length 0 (by omega)
    ·simp at hz;subst hz;exact hw
    ·have e1:¬x=1:=by simpa[Aq] using e1
     have e2:¬x=2:=by simpa[Aq] using e2
     have e3:¬x=3:=by simpa[Aq] using e3
     have e4:¬x=4:=by simpa[Aq] using e4
     have e:JD ⟨x,y,q,ps⟩=[EC x]:=by simp[JD,e1,e2,e3,e4]
     rw[e] at hφ;exact hφ
  ·exact h.elim
 ·exact h.elim
end Go.Proofs
namespace Go.Sx
open Go.RowKit Go.Lib
section
variable{P:Program}
theorem Qn(w:World)(dT sT ty elem:TypeId)(sz g o dLen dCap:Nat)(a:Addr)(sLen sCap:Nat)(cur:Array Value)(t:TypeId)(cs:List Value)
  (hu:P.underlying dT=ay (.slice elem)) (hs:(P.info? elem).map (·.size)=ay sz)
  (hg:w.heap[g]?=ay (.cells cur t (0,0))) (hn:cs.length=pI sLen dLen*sz)
  (hsrc:∀j v,cs[j]?=ay v->w.cell? (a.add j)=ay v) (hfit:o+cs.length<=cur.size) (h1:∀v∈cs,v.oneCell'=aC) :
  (jQ #[dT,sT] ty #[.slice (ay ⟨g,o,aK⟩) dLen dCap,.slice (ay a) sLen sCap]).run P w =
   .ok (goInt (pI sLen dLen)) (w.setRow g (cur.toList.take o++cs++cur.toList.drop (o+cs.length)).toArray):=by
 have hl:=run_loadCells_list (P:=P) w a cs hsrc;have hst:=run_storeCells_at P g o t cs 0 cur w hg (by simpa using hfit) h1;cases hq:P.info? elem with
 |none=>simp[hq] at hs |some i=>
  have hi:i.size=sz:=by simpa[hq] using hs
  simp[jQ,run_underlying hu,Builtin.lenOf,gB,sizeOf,typeInfo,hq,hi,<-hn,hl,hst]
end
end Go.Sx
namespace Go.Proofs
open Go Go.Sx Go.RowKit Go.Lib
theorem info116:∃(i:TypeInfo) (z:Value),aB.info? 272=ay i/\i.size=2/\i.bytes=16/\i.zero=ay z/\z.cells.size=2/\∃cs,z=.agg cs:=by
 obtain ⟨inf,z,h1,h2,h3,h4,_,h6,h7,_⟩:=((dw noSpec Am).ty 272 ⟨.struct [(0,1,ak),(1,1,ak)],2,16,[.int .i64 0,.int .i64 0]⟩ (by kernel_rfl)).info;exact ⟨inf,z,h1,h2,h3,h4,h6,h7 rfl⟩
set_option maxHeartbeats 4000000 in
set_option maxRecDepth 100000 in
theorem aiM(w:World)(g n c i vb vc:Nat)(cur:Array Value)(cs vs:List Value)(hg:w.heap[g]?=ay (.cells cur 272 (0,0)))(Nu:Array Value)(hgb:w.heap[vb]?=ay (.cells Nu 272 (0,0)))
  (hi:i<n) (hroom:n+1<=c) (hc63:c<=9223372036854775807) (hvb:vb≠g) (hcap:cur.size=c*2) (hcs:cur.toList.take (n*2)=cs) (hvs:Nu.toList.take 2=vs) (hvl:vs.length=2) (hv2:2<=Nu.size)
  (h1c:∀v∈cs,v.oneCell'=aC) (h1v:∀v∈vs,v.oneCell'=aC) :
  Calls aB 182 #[.slice (ay ⟨g,0,aK⟩) n c,.int .i64 i,.slice (ay ⟨vb,0,aK⟩) 1 vc] w fun e w'=>
   e=.returned (.slice (ay ⟨g,0,aK⟩) (n+1) c)/\∃cur',w'.heap[g]?=ay (.cells cur' 272 (0,0))/\cur'.size=c*2/\cur'.toList.take ((n+1)*2)=cs.take (i*2)++vs++cs.drop (i*2)/\w.grownBy w' (ay g):=by
 obtain ⟨inf,z,i1,i2,i3,i4,i5,_⟩:=info116;have hsz:(aB.info? 272).map (·.size)=ay 2:=by rw[i1];simp[i2]
 have hse:∀w,(nD 272).run aB w=.ok 2 w:=fun w=>by simp[nD,typeInfo,i1,i2]
 have hov:∀lb cb,(callFunc 206 #[.slice (ay ⟨vb,0,aK⟩) 1 vc,.slice (ay ⟨g,(i+1)*2,aK⟩) lb cb]).run aB w=.ok (.value (.bool ak)) w:=fun lb cb=>by
  rw[run_callFunc_extern Tryz.func206 (by kernel_rfl) (by kernel_rfl) (by kernel_rfl) (e:=sF #[209,209] #[4]) (by kernel_rfl),
   Lib.run_overlaps_apart w 209 4 272 ig 2 hse ⟨vb,0,aK⟩ ⟨g,(i+1)*2,aK⟩ 1 vc lb cb hvb 272 272 Nu.size cur.size (by simp[wU,hgb]) (by simp[wU,hg]) (by omega) (by simp[wH,hgb]) (by simp[wH,hgb])]
  rfl
 have hw1:aN.wrap ((i:Int)+1)=(i:Int)+1:=by rw[iT];omega
 have hw2:aN.wrap ((n:Int)+1)=(n:Int)+1:=by rw[iT];omega
 have hcl:cs.length=n*2:=by rw[<-hcs,bZ,bV];omega
 have hdl:(cs.drop (i*2)).length=(n - i)*2:=by rw[dR,hcl];omega
 obtain ⟨R1,hR1⟩:∃R1,R1=(cur.toList.take ((i+1)*2)++cs.drop (i*2)++cur.toList.drop ((i+1)*2+(cs.drop (i*2)).length)).toArray:=⟨_,rfl⟩;have agP:R1.size=c*2:=by rw[hR1];simp only[gU,bf,bZ,dR,bV,hcl];omega
 obtain ⟨R2,hR2⟩:∃R2,R2=(R1.toList.take (i*2)++vs++R1.toList.drop (i*2+vs.length)).toArray:=⟨_,rfl⟩;have hcur:∀j v,cs[j]?=ay v->cur.toList[j]?=ay v:=fun j v hj=>by
  rw[<-hcs,bY] at hj;split at hj
  ·exact hj
  ·cases hj
 have hcp1:∀(W:World),W.heap[g]?=ay (.cells cur 272 (0,0))->∀ty dc sc,(jQ #[209,209] ty #[.slice (ay ⟨g,(i+1)*2,aK⟩) (n - i) dc,.slice (ay ⟨g,i*2,aK⟩) (n+1 - i) sc]).run aB W=.ok (goInt ((n - i:Nat):Int)) (W.setRow g R1):=fun W hW ty dc sc=>by
  have hmin:pI (n+1 - i) (n - i)=n - i:=by simp only[sG];split<;>omega
  have:=Qn W 209 209 ty 272 2 g ((i+1)*2) (n - i) dc ⟨g,i*2,aK⟩ (n+1 - i) sc cur 272 (cs.drop (i*2)) ig hsz hW (by rw[hmin,hdl]) (fun j v hj=>by
    rw[eY,cell_of_row W g _ cur 272 (0,0) hW];rw[eU] at hj;have:=hcur _ _ hj;simpa using this) (by rw[hdl,hcap];omega) (fun v hv=>h1c v (jq hv))
  rw[hmin,<-hR1] at this;exact this
 have hcp2:∀(W:World),W.heap[g]?=ay (.cells R1 272 (0,0))->W.heap[vb]?=ay (.cells Nu 272 (0,0))->∀ty dc,(jQ #[209,209] ty #[.slice (ay ⟨g,i*2,aK⟩) (n+1 - i) dc,.slice (ay ⟨vb,0,aK⟩) 1 vc]).run aB W=.ok (goInt 1) (W.setRow g R2):=fun W hW hW2 ty dc=>by
  have hmin:pI 1 (n+1 - i)=1:=by simp only[sG];split<;>omega
  have:=Qn W 209 209 ty 272 2 g (i*2) (n+1 - i) dc ⟨vb,0,aK⟩ 1 vc R1 272 vs ig hsz hW (by rw[hmin,hvl]) (fun j v hj=>by
    rw[eY,cell_of_row W vb _ Nu 272 (0,0) hW2];rw[<-hvs,bY] at hj;split at hj
    ·simpa using hj
    ·cases hj) (by rw[hvl,agP];omega) h1v
  rw[hmin,<-hR2] at this;exact this
 have hfin:R2.size=c*2/\R2.toList.take ((n+1)*2)=cs.take (i*2)++vs++cs.drop (i*2):=by
  have hl1:R1.toList.length=c*2:=by rw[bV,agP]
  refine ⟨by rw[hR2];simp only[gU,bf,bZ,dR,hl1,hvl];omega,?_⟩;have ht1:R1.toList.take (i*2)=cs.take (i*2):=by
   rw[hR1];simp only[dU];rw[List.take_append_of_le_length (by rw[bZ,bV];omega),wI,<-hcs,wI];congr 1;omega
  have hd1:R1.toList.drop (i*2+2)=cs.drop (i*2)++cur.toList.drop ((n+1)*2):=by
   rw[hR1];have e1:(cur.toList.take ((i+1)*2)).length=i*2+2:=by rw[bZ,bV];omega
   simp only[dU];have e3:List.drop (i*2+2) (cur.toList.take ((i+1)*2)++(cs.drop (i*2)++cur.toList.drop ((i+1)*2+(cs.drop (i*2)).length)))=cs.drop (i*2)++cur.toList.drop ((i+1)*2+(cs.drop (i*2)).length):=by
    conv=>lhs;rw[<-e1]
    exact List.drop_left
   rw[e3,hdl];congr 2;omega
  rw[hR2,hvl,hd1,ht1];simp only[<-dU];have e2:(cs.take (i*2)++vs++cs.drop (i*2)).length=(n+1)*2:=by
   rw[bf,bf,bZ,hvl,hdl,hcl];omega
  rw[<-e2];exact kY
 have hgl:g<w.heap.size:=(bF.1 hg).1;have mixed:aB.follows .mixedOrders=aC:=sS;have hb1:(0:Int)<=(i:Int)+1:=by omega
 have hin:i<=n:=by omega
 have htn:((i:Int)+1).toNat=i+1:=by omega
 have hb2:¬(c=i+1):=by omega
 have hb3:(i:Int)<=(n:Int)+1:=by omega
 have hb4:¬(c=i):=by omega
 clear hcs hvs h1c h1v hcur hR1 hR2;have hc2:=hcp2 (w.drew.setRow g R1) (setRow_heap w.drew g cur R1 272 (0,0) hg) (by rw[setRow_other _ _ _ _ hvb];exact hgb) 3 (c - i);go_enter nP,nG
 go_wp2_with (simp only[hov])
 go_region_law_o (refine step_copy_runI rfl (.tmp 73) (.tmp 76) 209 209 rfl (.slice (ay ⟨g,(i+1)*2,aK⟩) (n - i) (c - (i+1))) (.slice (ay ⟨g,i*2,aK⟩) (n+1 - i) (c - i)) (by simp[sH,uh]) (by simp[sH,uh]) (hcp1 w.drew hg 3 (c - (i+1)) (c - i)) ?_)
 go_wp2
 go_ret
 refine ⟨rfl,R2,setRow_heap _ g R1 R2 272 (0,0) (setRow_heap w.drew g cur R1 272 (0,0) hg),hfin.1,hfin.2,⟨rfl,rfl,rfl,by simp[wV],fun k hk hne=>?_⟩⟩;have hkg:k≠g:=fun e=>hne (by rw[e]);rw[setRow_other _ _ _ _ hkg,setRow_other _ _ _ _ hkg];rfl
set_option maxHeartbeats 4000000 in
set_option maxRecDepth 100000 in
theorem anR(w:World)(v x:Value)(n vc:Nat)(xs news:List Value)(vb:Nat)(hv:w.ownsRow 0 272 2 v n xs)(hx:x=.slice (ay ⟨vb,0,aK⟩) 1 vc)(hnews:∀j u,news[j]?=ay u->w.cell? ((⟨vb,0,aK⟩:Addr).add j)=ay u)(hl:news.length=2)(h1:∀u∈news,u.oneCell'=aC)
  (h63:n+1<=maxLen) (hbytes:(n+1)*16<=140737488355328) :
  Calls aB 182 #[v,.int .i64 n,x] w fun e w'=>∃v',e=.returned v'/\w'.ownsRow 0 272 2 v' (n+1) (xs++news)/\w.grownBy w' (Ai v)/\∀b,Ai v'=ay b->Ai v=ay b\/w.heap.size<=b:=by
 obtain ⟨inf,z,i1,i2,i3,i4,i5,_⟩:=info116;obtain ⟨v',w',hr,h2,h3,h4⟩:=Rj (P:=aB) (w:=w) 209 209 272 inf z 2 16 ig i1 i4 i2 i3 i5 (by decide) v n xs hv ⟨vb,0,aK⟩ 1 vc news (by rw[hl]) hnews h1 h63 hbytes;subst hx;have hsmall:n+1<=9223372036854775807:=by simp only[maxLen] at h63;omega
 have avl:v=.slice aK 0 0/\n=0\/∃g c,v=.slice (ay ⟨g,0,aK⟩) n c/\n<=c/\c<=9223372036854775807:=by
  rcases hv.2 with ⟨e1,e2⟩ |⟨g,c,cur,e1,_,_,e2,e3,_⟩
  ·exact .inl ⟨e1,e2⟩
  ·exact .inr ⟨g,c,e1,e2,by simp only[maxLen] at e3;omega⟩
 clear hv hnews h1;rcases avl with ⟨rfl,rfl⟩ |⟨g,c,rfl,hnc,hc63⟩
 ·go_enter nP,nG
  go_wp2_with (at_builtin;refine jT _ rfl _ _ _ _ rfl _ _ rfl rfl _ _ hr ?_)
  go_ret
  exact ⟨v',rfl,h2,h3,h4⟩
 ·go_enter nP,nG
  go_wp2_with (at_builtin;refine jT _ rfl _ _ _ _ rfl _ _ rfl rfl _ _ hr ?_)
  all_goals
   go_ret
   exact ⟨v',rfl,h2,h3,h4⟩
set_option maxHeartbeats 4000000 in
set_option maxRecDepth 100000 in
theorem alz(w:World)(g n c i vb vc:Nat)(cur:Array Value)(cs vs:List Value)(hg:w.heap[g]?=ay (.cells cur 272 (0,0)))(Nu:Array Value)(hgb:w.heap[vb]?=ay (.cells Nu 272 (0,0)))
  (hi:i<n) (hnc:n<=c) (hroom:c<n+1) (hn63:n+1<=maxLen) (hbig:(n+1)*16<=140737488355328) (hcap:cur.size=c*2) (hcs:cur.toList.take (n*2)=cs) (hvs:Nu.toList.take 2=vs) (hvl:vs.length=2)
  (h1c:∀v∈cs,v.oneCell'=aC) (h1v:∀v∈vs,v.oneCell'=aC) :
  Calls aB 182 #[.slice (ay ⟨g,0,aK⟩) n c,.int .i64 i,.slice (ay ⟨vb,0,aK⟩) 1 vc] w fun e w'=>
   ∃G cur',e=.returned (.slice (ay ⟨w.heap.size,0,aK⟩) (n+1) G)/\w'.heap[w.heap.size]?=ay (.cells cur' 272 (0,0))/\n+1<=G/\G<=maxLen/\cur'.size=G*2/\cur'.toList.take ((n+1)*2)=cs.take (i*2)++vs++cs.drop (i*2)/\w.grownBy w' (ay g):=by
 obtain ⟨inf,z,i1,i2,i3,i4,i5,zs,hz⟩:=info116;have hsz:(aB.info? 272).map (·.size)=ay 2:=by rw[i1];simp[i2]
 have hse:∀w,(nD 272).run aB w=.ok 2 w:=fun w=>by simp[nD,typeInfo,i1,i2]
 have hsmall:n+1<=9223372036854775807:=by simp only[maxLen] at hn63;omega
 have hw1:aN.wrap ((i:Int)+1)=(i:Int)+1:=by rw[iT];omega
 have hw2:aN.wrap ((n:Int)+1)=(n:Int)+1:=by rw[iT];omega
 have hw3:aN.wrap ((n:Int)+1 - (i:Int))=(n:Int)+1 - (i:Int):=by rw[iT];omega
 have hcl:cs.length=n*2:=by rw[<-hcs,bZ,bV];omega
 have hdl:(cs.drop (i*2)).length=(n - i)*2:=by rw[dR,hcl];omega
 have htl:(cs.take (i*2)).length=i*2:=by rw[bZ,hcl];omega
 have hcur:∀j v,cs[j]?=ay v->cur.toList[j]?=ay v:=fun j v hj=>by
  rw[<-hcs,bY] at hj;split at hj
  ·exact hj
  ·cases hj
 have hgl:g<w.heap.size:=(bF.1 hg).1;have avm:vb<w.heap.size:=(bF.1 hgb).1;have hold:(gB inf.size i (.slice (ay ⟨g,0,aK⟩) i c)).run aB w.drew=.ok (cs.take (i*2)).toArray w.drew:=by
  rw[i2];exact run_firstCells_some w.drew 2 i ⟨g,0,aK⟩ i c (cs.take (i*2)) htl (fun j v hj=>by
   rw[eY,cell_of_row w.drew g _ cur 272 (0,0) hg];rw[bY] at hj;split at hj
   ·have:=hcur _ _ hj
    simpa using this
   ·cases hj)
 obtain ⟨G,hG⟩:∃G,G=grownCap w (n+1) c 272:=⟨_,rfl⟩;obtain ⟨ROW,hROW⟩:∃ROW:Array Value,ROW=(cs.take (i*2)).toArray++jf z.cells (n+1 - i)++jf z.cells (G - (n+1)):=⟨_,rfl⟩;have hGn:n+1<=G:=by rw[hG];exact grownCap_ge w _ _ _
 have hGm:G<=maxLen:=by rw[hG];exact grownCap_le_maxLen w (n+1) c 272 hn63
 have hG63:G<=9223372036854775807:=by simp only[maxLen] at hGm;omega
 have hrz:∀ty,(eH #[209,3] ty #[.slice (ay ⟨g,0,aK⟩) i c,.int .i64 ((n:Int)+1 - (i:Int))]).run aB w =
   .ok (.slice (ay ⟨w.heap.size,0,aK⟩) (n+1) G) (w.drew.alloc (.cells ROW 272)):=fun ty=>by
  have h:=qw w 209 3 ty 272 inf z .i64 .i64 ig kL i1 i4 (ay ⟨g,0,aK⟩) i c (cs.take (i*2)) hold (n+1 - i) (by omega) (by omega) (by omega) (by omega) (by rw[i3];omega) (by rw[i3,show i+(n+1 - i)=n+1 by omega];exact growslice_fits (by omega) hbig);rw[show i+(n+1 - i)=n+1 by omega,show (((n+1 - i:Nat)):Int)=(n:Int)+1 - (i:Int) by omega,<-hG,<-hROW] at h;exact h
 have hRs:ROW.size=G*2:=by
  rw[hROW];simp only[nT,gU,size_zeroCells,i5,htl];omega
 obtain ⟨R1,hR1⟩:∃R1,R1=(ROW.toList.take (i*2)++vs++ROW.toList.drop (i*2+vs.length)).toArray:=⟨_,rfl⟩;have agP:R1.size=G*2:=by rw[hR1];simp only[gU,bf,bZ,dR,bV,hvl];omega
 obtain ⟨R2,hR2⟩:∃R2,R2=(R1.toList.take ((i+1)*2)++cs.drop (i*2)++R1.toList.drop ((i+1)*2+(cs.drop (i*2)).length)).toArray:=⟨_,rfl⟩;obtain ⟨W1,hW1⟩:∃W1,W1=w.drew.alloc (.cells ROW 272):=⟨_,rfl⟩;rw[<-hW1] at hrz;have ar5:W1.heap[w.heap.size]?=ay (.cells ROW 272 (0,0)):=by rw[hW1];exact heap_alloc_new w.drew _
 have anT:∀k,k<w.heap.size->W1.heap[k]?=w.heap[k]?:=fun k hk=>by rw[hW1];first|exact vU w.drew _ k hk|exact heap_alloc_old w.drew _ hk
 have hcp1:(jQ #[209,209] 3 #[.slice (ay ⟨w.heap.size,i*2,aK⟩) (n+1 - i) (G - i),.slice (ay ⟨vb,0,aK⟩) 1 vc]).run aB W1=.ok (goInt 1) (W1.setRow w.heap.size R1):=by
  have hmin:pI 1 (n+1 - i)=1:=by simp only[sG];split<;>omega
  have:=Qn W1 209 209 3 272 2 w.heap.size (i*2) (n+1 - i) (G - i) ⟨vb,0,aK⟩ 1 vc ROW 272 vs ig hsz ar5 (by rw[hmin,hvl]) (fun j v hj=>by
    rw[eY,cell_of_row W1 vb _ Nu 272 (0,0) (by rw[anT vb avm];exact hgb)];rw[<-hvs,bY] at hj;split at hj
    ·simpa using hj
    ·cases hj) (by rw[hvl,hRs];omega) h1v
  rw[hmin,<-hR1] at this;exact this
 have ar6:(W1.setRow w.heap.size R1).drew.heap[w.heap.size]?=ay (.cells R1 272 (0,0)):=setRow_heap W1 w.heap.size ROW R1 272 (0,0) ar5;have hcp2:(jQ #[209,209] 3 #[.slice (ay ⟨w.heap.size,(i+1)*2,aK⟩) (n - i) (G - (i+1)),.slice (ay ⟨g,i*2,aK⟩) (n - i) (c - i)]).run aB (W1.setRow w.heap.size R1).drew=.ok (goInt ((n - i:Nat):Int)) ((W1.setRow w.heap.size R1).drew.setRow w.heap.size R2):=by
  have hmin:pI (n - i) (n - i)=n - i:=Nat.min_self _;have:=Qn (W1.setRow w.heap.size R1).drew 209 209 3 272 2 w.heap.size ((i+1)*2) (n - i) (G - (i+1)) ⟨g,i*2,aK⟩ (n - i) (c - i) R1 272 (cs.drop (i*2)) ig hsz ar6 (by rw[hmin,hdl]) (fun j v hj=>by
    rw[eY,cell_of_row (W1.setRow w.heap.size R1).drew g _ cur 272 (0,0) (by
     show (W1.setRow w.heap.size R1).heap[g]?=_;rw[setRow_other _ _ _ _ (by omega),anT g hgl];exact hg)]
    rw[eU] at hj;have:=hcur _ _ hj;simpa using this) (by rw[hdl,agP];omega) (fun v hv=>h1c v (jq hv))
  rw[hmin,<-hR2] at this;exact this
 have hfin:R2.size=G*2/\R2.toList.take ((n+1)*2)=cs.take (i*2)++vs++cs.drop (i*2):=by
  have hl1:R1.toList.length=G*2:=by rw[bV,agP]
  refine ⟨by rw[hR2];simp only[gU,bf,bZ,dR,hl1,hdl];omega,?_⟩;have ht0:ROW.toList.take (i*2)=cs.take (i*2):=by
   rw[hROW];simp only[Array.toList_append,dU];exact List.take_left' htl
  have ht1:R1.toList.take ((i+1)*2)=cs.take (i*2)++vs:=by
   rw[hR1,ht0];have e1:(cs.take (i*2)++vs).length=(i+1)*2:=by rw[bf,htl,hvl];omega
   rw[<-e1];exact kY
  rw[hR2,ht1];have e2:(cs.take (i*2)++vs++cs.drop (i*2)).length=(n+1)*2:=by
   rw[bf,bf,htl,hvl,hdl];omega
  rw[<-e2];exact kY
 have mixed:aB.follows .mixedOrders=aC:=sS;have hb1:(0:Int)<=(i:Int)+1:=by omega
 have hin:i<=n:=by omega
 have htn:((i:Int)+1).toNat=i+1:=by omega
 have hb2:¬(c=i+1)\/c=i+1:=by omega
 have hb3:(i:Int)<=(n:Int)+1:=by omega
 have hb4:¬(c=i):=by omega
 have hGi:¬(G=i):=by omega
 have hGim:¬(G=i+1):=by omega
 have hz1:¬((i:Int)=(n:Int)):=by omega
 have hz3:(c:Int)<(n:Int)+1:=by omega
 have hr1:=hrz 209;have hsz1:W1.heap.size=w.heap.size+1:=by rw[hW1];simp
 have hos:W1.os=w.os/\W1.tape=w.tape/\W1.output=w.output:=by rw[hW1];exact ⟨rfl,rfl,rfl⟩
 clear hcs hvs h1c h1v hcur hR1 hR2 hROW hG hold hrz hb2 hW1;go_enter nP,nG
 go_wp2_with (first
  |(at_builtin;refine jT _ rfl _ _ _ _ rfl _ _ rfl rfl _ _ hr1 ?_))
 go_region_law_o (refine step_copy_runI rfl (.tmp 50) (.tmp 53) 209 209 rfl (.slice (ay ⟨w.heap.size,(i+1)*2,aK⟩) (n - i) (G - (i+1))) (.slice (ay ⟨g,i*2,aK⟩) (n - i) (c - i)) (by simp[sH,uh]) (by simp[sH,uh]) hcp2 ?_)
 go_wp2
 go_ret
 refine ⟨G,R2,rfl,setRow_heap _ w.heap.size R1 R2 272 (0,0) ar6,hGn,hGm,hfin.1,hfin.2,⟨hos.1,hos.2.1,hos.2.2,?_,fun k hk hne=>?_⟩⟩
 ·have:((W1.setRow w.heap.size R1).drew.setRow w.heap.size R2).heap.size=W1.heap.size:=by simp[wV,World.drew]
  rw[this,hsz1];omega
 ·have hkg:k≠w.heap.size:=by omega
  rw[setRow_other _ _ _ _ hkg];show (W1.setRow w.heap.size R1).heap[k]?=_;rw[setRow_other _ _ _ _ hkg,anT k hk]
theorem aq4:ain aB 182 272 2 16:=by
 intro w v x n i xs news hv hx hne h1 h1n hi h63 hbytes;have hl:news.length=2:=by rw[hx.1]
 rcases hx.2 with ⟨_,h0⟩ |⟨vb,vc,Nu,ex,_,hgb,hvc,hvm,hvs,hvt⟩
 ·omega
 have hb2:Ai x=ay vb:=by rw[ex];rfl
 have hcell:∀j u,news[j]?=ay u->w.cell? ((⟨vb,0,aK⟩:Addr).add j)=ay u:=fun j u hj=>by
  rw[eY,cell_of_row w vb _ Nu 272 (0,0) hgb];rw[<-hvt,bY] at hj;split at hj
  ·simpa using hj
  ·cases hj
 by_cases hin:i=n
 ·subst hin
  refine (anR w v x i vc xs news vb hv ex hcell hl h1n h63 hbytes).mono fun e w' ⟨v',e1,e2,e3,e4⟩=>⟨v',e1,?_,e3,e4⟩;rw[List.take_of_length_le (by rw[hv.1];exact dn _),List.drop_of_length_le (by rw[hv.1];exact dn _),List.append_nil];exact e2
 rcases hv.2 with ⟨_,h0⟩ |⟨g,c,cur,ev,_,hg,hnc,hcm,hcs,hct⟩
 ·omega
 have hb:Ai v=ay g:=by rw[ev];rfl
 have hvg:vb≠g:=fun e=>hne g hb (by rw[hb2,e]);have hlen:(xs.take (i*2)++news++xs.drop (i*2)).length=(n+1)*2:=by
  rw[bf,bf,bZ,dR,hl,hv.1];omega
 have ar7:Nu.toList.take 2=news:=by simpa using hvt
 by_cases hroom:n+1<=c
 ·rw[hb,ev,ex]
  refine (aiM w g n c i vb vc cur xs news hg Nu hgb (by omega) hroom (by simp only[maxLen] at hcm;omega) hvg hcs hct ar7 hl (by omega) h1 h1n).mono fun e w' ⟨e1,cur',e2,e3,e4,e5⟩=>⟨_,e1,⟨hlen,.inr ⟨g,c,cur',rfl,gQ _,e2,hroom,hcm,e3,e4⟩⟩,e5,fun b hb'=>.inl hb'⟩
 ·rw[hb,ev,ex]
  refine (alz w g n c i vb vc cur xs news hg Nu hgb (by omega) hnc (by omega) h63 hbytes hcs hct ar7 hl h1 h1n).mono fun e w' ⟨G,cur',e1,e2,e3,e4,e5,e6,e7⟩=>⟨_,e1,⟨hlen,.inr ⟨w.heap.size,G,cur',rfl,gQ _,e2,e3,e4,e5,e6⟩⟩,e7,fun b hb'=>.inr (by simp[Ai] at hb';omega)⟩
end Go.Proofs
namespace Go.Pl
open Go Go.Sx
structure Lm7 where
 pos:Nat->(Nat->List Sh)->Int->Nat
 has:Nat->(Nat->List Sh)->Int->Bool
 wf:Nat->(Nat->List Sh)->Int->Bool
end Go.Pl
namespace Go.Proofs
open Go Go.Sx Go.Pl
def RV:List It:=[bD [0,0,1,1,1],dD 0,bD [1,1,1,1]]
def anU:List It:=bD [0,0,0,1,1,1]::RV
def RX(n:Nat)(p:Nat->Pr)(key i j:Int):Core:={tm:=Gv 49 [(0,.sh (.sl 2 n (zX p))),(1,.sym .i64 key),(2,.fn 205 []),(8,.sym .i64 (n:Int)),(9,.sym .i64 i),(10,.sym .i64 j)],hp:=[],nx:=0,lim:=L0,tc:=[]}
theorem avn(A:Prim)(W:Wd)(n:Nat)(p:Nat->Pr)(key i' j':Int):AQ (C7 A W noSpec Ap) Bh 300 400 204 [.code []] (Aa 49 [.sl 2 n (zX p),.i .i64 key,.fn 205 []] L0) [] [⟨204,RV,RX n p key i' j',[]⟩]=aA (bJ 0 [aQ (aG 2 n (zX p)) (aG 2 n (zX p)),aj key key,aj (A.AO n) (ah n),aj (ah 0) i',aj (A.AO n) j']):=by kernel_rfl
theorem anV(A:Prim)(W:Wd)(n:Nat)(p:Nat->Pr)(key i j i' j':Int):AQ (C7 A W noSpec Ap) Bh 300 400 204 anU (RX n p key i j) [] [⟨204,RV,RX n p key i' j',[]⟩]=aF (A.lt i j) (aH (A.inB (A.conv .i64 (A.bin qx lT (A.conv .u64 (A.add .i64 i j)) (ah 1))) n) (aF (A.lt (A.sub .i64 (p (A.toN (A.conv .i64 (A.bin qx lT (A.conv .u64 (A.add .i64 i j)) (ah 1))))).key key) (ah 0)) (aA (bJ 0 [aQ (aG 2 n (zX p)) (aG 2 n (zX p)),aj key key,aj (ah n) (ah n),aj (A.add .i64 (A.conv .i64 (A.bin qx lT (A.conv .u64 (A.add .i64 i j)) (ah 1))) (ah 1)) i',aj j j'])) (aA (bJ 0 [aQ (aG 2 n (zX p)) (aG 2 n (zX p)),aj key key,aj (ah n) (ah n),aj i i',aj (A.conv .i64 (A.bin qx lT (A.conv .u64 (A.add .i64 i j)) (ah 1))) j'])))) (aF (A.lt i (ah n)) (aH (A.inB i n) (aA (aP (cZ [aW .i64 i,Sh.b (A.eq (A.sub .i64 (p (A.toN i)).key key) (ah 0))])))) (aA (aP (cZ [aW .i64 i,Sh.b ak])))):=by kernel_rfl
end Go.Proofs
namespace Go.Pl
open Go Go.Sx Go.Proofs
def Qo(ps:List Pr):Bool:=decide (ps.Pairwise fun a b=>a.key<b.key)&&ps.all fun p=>decide (0<=p.key/\p.key<=1000)
def En(key:Int):Bool:=decide (0<=key/\key<=1000)
def BN(ps:List Pr)(key:Int):Nat:=(ps.takeWhile fun p=>decide (p.key<key)).length
def D9(ps:List Pr)(key:Int):Bool:=ps.any fun p=>p.key==key
theorem agQ:∀{ps:List Pr} {key:Int} {k:Nat},k<=ps.length->(∀t (h:t<ps.length),t<k->ps[t].key<key)->(∀t (h:t<ps.length),k<=t->key<=ps[t].key)->BN ps key=k
 |[],key,k,hk,_,_=>by simp at hk;subst hk;rfl |a::ps,key,0,_,_,h2=>by
  have:=h2 0 (by simp) (dn _);simp only[qO] at this;have hd:decide (a.key<key)=ak:=decide_eq_false (by omega);simp[BN,jr,hd]
 |a::ps,key,k+1,hk,h1,h2=>by
  have ha:=h1 0 (by simp) (by omega);simp only[qO] at ha;have hd:decide (a.key<key)=aC:=decide_eq_true ha;have ih:=agQ (ps:=ps) (key:=key) (k:=k) (by simpa using hk) (fun t ht hlt=>h1 (t+1) (by simp;omega) (by omega)) (fun t ht hle=>h2 (t+1) (by simp;omega) (by omega));unfold BN at ih ⊢;simp only[jr,hd,iQ,ih]
theorem agR{ps:List Pr}{key:Int}{k:Nat}(hs:ps.Pairwise fun a b=>a.key<b.key)(h1:∀t (h:t<ps.length),t<k->ps[t].key<key)(h2:∀t (h:t<ps.length),k<=t->key<=ps[t].key):
  D9 ps key=aC↔∃h:k<ps.length,ps[k].key=key:=by
 unfold D9;rw[List.any_eq_true];constructor
 ·rintro ⟨x,hx,he⟩
  obtain ⟨t,ht,rfl⟩:=List.getElem_of_mem hx;have he:ps[t].key=key:=by simpa using he
  have htk:¬t<k:=fun h=>by have:=h1 t ht h;omega
  have hkl:k<ps.length:=by omega
  refine ⟨hkl,?_⟩;by_cases e:t=k
  ·subst e;exact he
  ·have hlt:ps[k].key<ps[t].key:=jB.1 hs k t hkl ht (by omega)
   have:=h2 k hkl (dn _);omega
 ·rintro ⟨h,he⟩
  exact ⟨ps[k],kD _,by simp[he]⟩
theorem GR{ps:List Pr}(h:Qo ps=aC):ps.Pairwise fun a b=>a.key<b.key:=by
 simp only[Qo,aI] at h;exact of_decide_eq_true h.1
theorem anW{ps:List Pr}(h:Qo ps=aC){t:Nat}(ht:t<ps.length):0<=ps[t].key/\ps[t].key<=1000:=by
 simp only[Qo,aI] at h;have:=dO.1 h.2 ps[t] (kD _);exact of_decide_eq_true this
theorem aq5{i j:Nat}(h:i+j<=1000000):zW.conv .i64 (zW.bin .shr .u64 (zW.conv .u64 (zW.add .i64 i j)) (ah 1))=(((i+j) / 2:Nat):Int):=by
 have e1:zW.add .i64 i j=((i+j:Nat):Int):=by rw[Dj,BL (by omega) (by omega)];omega
 rw[e1];have e2:zW.conv .u64 ((i+j:Nat):Int)=((i+j:Nat):Int):=by
  show lT.wrap _=_;rw[IntKind.wrap_u64];omega
 rw[e2];have e3:zW.bin .shr .u64 ((i+j:Nat):Int) (ah 1)=(((i+j) / 2:Nat):Int):=by
  show Int.fdiv ((i+j:Nat):Int) (2^(min 1 64))=_;rw[show (min 1 64)=1 from rfl,Int.fdiv_eq_ediv_of_nonneg _ (by decide)];omega
 rw[e3];show aN.wrap _=_;exact BL (by omega) (by omega)
end Go.Pl
namespace Go.Proofs
open Go Go.Sx Go.Pl
def anX:List Sh->Tree Sh
 |[.sl 2 n g,.i .i64 key,.fn 205 []]=>.need (okB Pr n g) (.need (decide (n<=100000)) (.need (Qo (lst Pr n g)) (.need (En key) (.leaf (.Ak [.i .i64 (BN (lst Pr n g) key),.b (D9 (lst Pr n g) key)]))))) |_=>.fail
theorem abl{H0:Mem}{w0:World}{n:Nat}{p:Nat->Pr}{key:Int}{φ:Sh->Prop}(hn:n<=100000)(hs:Qo ((aX n).map p)=aC)(hk:En key=aC)
  (hφ:φ (.Ak [.i .i64 (BN ((aX n).map p) key),.b (D9 ((aX n).map p) key)])) :
  ∀m i j,j - i<=m->i<=j->j<=n->(∀t,t<i->(p t).key<key)->(∀t,t<n->j<=t->key<=(p t).key)->Bd aB (C7 zW W7 noSpec Ap) (K0 H0 w0) 204 RV (RX n p key i j) [] emp φ
 |m,i,j,hm,hij,hjn,h1,h2=>by
  have hkey:0<=key/\key<=1000:=of_decide_eq_true hk;have hp:∀t,t<n->0<=(p t).key/\(p t).key<=1000:=fun t ht=>by
   have:=anW hs (t:=t) (by simpa using ht);simpa using this
  have hso:=GR hs;have hlt:∀a b,a<b->b<n->(p a).key<(p b).key:=fun a b hab hb=>by
   have:=jB.1 hso a b (by simp;omega) (by simpa using hb) hab;simpa using this
  have sub_eq:∀t,t<n->zW.sub .i64 (p t).key key=(p t).key - key:=fun t ht=>by
   have:=hp t ht;rw[MC,BL (by omega) (by omega)]
  have hfin:i=j->(i<n->(p i).key=key->φ (.Ak [.i .i64 i,.b aC]))/\((i<n->(p i).key≠key)->φ (.Ak [.i .i64 i,.b ak])):=fun e=>by
   subst e;have hl:((aX n).map p).length=n:=by simp
   have q1:∀t (h:t<((aX n).map p).length),t<i->((aX n).map p)[t].key<key:=fun t ht hlt=>by simpa using h1 t hlt
   have q2:∀t (h:t<((aX n).map p).length),i<=t->key<=((aX n).map p)[t].key:=fun t ht hle=>by simpa using h2 t (by simpa using ht) hle
   rw[agQ (k:=i) (by rw[hl];exact hjn) q1 q2] at hφ;have hh:=agR hso q1 q2;constructor
   ·intro a b
    have:D9 ((aX n).map p) key=aC:=hh.2 ⟨by rw[hl];exact a,by simpa using b⟩;rwa[this] at hφ
   ·intro a
    have:D9 ((aX n).map p) key=ak:=by
     cases hx:D9 ((aX n).map p) key with
     |false=>rfl |true=>
      obtain ⟨b,c⟩:=hh.1 hx;exact (a (by rw[hl] at b;exact b) (by simpa using c)).elim
    rwa[this] at hφ
  have hmid:=aq5 (i:=i) (j:=j) (by omega);refine Gu (fn:=uV) (tb:=anU) (by kernel_rfl) (by kernel_rfl) ?_;by_cases hlt2:i<j
  ·by_cases hcmp:(p ((i+j) / 2)).key<key
   ·refine Hl (dw _ _) (Nl _) (hold:=DJ) (m:=300) (n:=400) (ts:=[⟨204,RV,RX n p key ((i+j) / 2+1:Nat) j,[]⟩]) ?_
    rw[show DJ=Bh from rfl,anV zW W7 n p key i j ((i+j) / 2+1:Nat) j,hmid];refine ⟨fun _=>⟨by simp[Bl];omega,fun _=>⟨⟨rfl,rfl,rfl,?_,rfl,trivial⟩,_,rfl,?_⟩,fun h=>?_⟩,fun h=>?_⟩
    ·simp only[iJ,Dj,GY]
     rw[BL (by omega) (by omega)];rfl
    ·match m,hm with
     |0,hm=>omega |m+1,hm=>
      refine abl hn hs hk hφ m ((i+j) / 2+1) j (by omega) (by omega) hjn (fun t ht=>?_) h2;by_cases e:t=(i+j) / 2
      ·subst e;exact hcmp
      ·have:=hlt t ((i+j) / 2) (by omega) (by omega);omega
    ·have e:zW.toN (((i+j) / 2:Nat):Int)=(i+j) / 2:=rfl
     rw[e,sub_eq _ (by omega)] at h;simp[Ad] at h;omega
    ·simp[Ad] at h;omega
   ·refine Hl (dw _ _) (Nl _) (hold:=DJ) (m:=300) (n:=400) (ts:=[⟨204,RV,RX n p key i ((i+j) / 2:Nat),[]⟩]) ?_
    rw[show DJ=Bh from rfl,anV zW W7 n p key i j i ((i+j) / 2:Nat),hmid];refine ⟨fun _=>⟨by simp[Bl];omega,fun h=>?_,fun _=>⟨⟨rfl,rfl,rfl,rfl,rfl,trivial⟩,_,rfl,?_⟩⟩,fun h=>?_⟩
    ·have e:zW.toN (((i+j) / 2:Nat):Int)=(i+j) / 2:=rfl
     rw[e,sub_eq _ (by omega)] at h;simp[Ad] at h;omega
    ·match m,hm with
     |0,hm=>omega |m+1,hm=>
      refine abl hn hs hk hφ m i ((i+j) / 2) (by omega) (by omega) (by omega) h1 (fun t ht hle=>?_);by_cases e:t=(i+j) / 2
      ·subst e;omega
      ·have:=hlt ((i+j) / 2) t (by omega) ht;omega
    ·simp[Ad] at h;omega
  ·have e:i=j:=by omega
   obtain ⟨f1,f2⟩:=hfin e;refine Hl (dw _ _) (Nl _) (hold:=DJ) (m:=300) (n:=400) (ts:=[⟨204,RV,RX n p key i j,[]⟩]) ?_;rw[show DJ=Bh from rfl,anV zW W7 n p key i j i j];refine ⟨fun h=>?_,fun _=>⟨fun h=>⟨?_,?_⟩,fun h=>?_⟩⟩
   ·simp[Ad] at h;omega
   ·simp[Ad] at h;simp[Bl];omega
   ·have hi:i<n:=by simp[Ad] at h;omega
    show φ _;have e1:zW.toN (i:Int)=i:=rfl;rw[e1,sub_eq i hi];by_cases he:(p i).key=key
    ·have:zW.eq ((p i).key - key) (ah 0)=aC:=by simp[Aq];omega
     rw[this];exact f1 hi he
    ·have:zW.eq ((p i).key - key) (ah 0)=ak:=by simp[Aq];omega
     rw[this];exact f2 fun _=>he
   ·exact f2 fun hi=>by simp[Ad] at h;omega
theorem avo:Ar aB (AZ W7) 204 anX:=by
 refine KE (C:=C7 zW W7 noSpec Ap) (dw _ _) (fn:=uV) (by kernel_rfl) (by kernel_rfl) fun H w A8 args φ hrep h=>?_
 unfold anX at h;split at h
 ·rename_i n g key
  obtain ⟨h1,h2,h3,h4,hφ⟩:=h;match args,hrep with
  |[v,u1,u2],⟨hv,r1,r2,_⟩=>
   refine ⟨[.sl 2 n (zX (zZ (α:=Pr) g)),.i .i64 key,.fn 205 []],⟨Ei hv h1,r1,r2,trivial⟩,L0,?_⟩;have e:lst Pr n g=(aX n).map (zZ g):=rfl;rw[e] at h3 hφ;generalize zZ (α:=Pr) g=p at *;have h2:=of_decide_eq_true h2;have hn:uV.ntmps=49:=by kernel_rfl
   refine Hl (dw _ _) (Nl _) (hold:=DJ) (m:=300) (n:=400) (ts:=[⟨204,RV,RX n p key (0:Nat) n,[]⟩]) ?_;rw[show DJ=Bh from rfl,hn,avn zW W7 n p key (0:Nat) n];exact ⟨⟨rfl,rfl,rfl,rfl,rfl,trivial⟩,_,rfl,abl h2 h3 h4 hφ n 0 n (by omega) (gQ _) (dn _) (fun t ht=>by omega) (fun t ht hle=>by omega)⟩
 ·exact h.elim
end Go.Proofs
namespace Go.Pl
open Go Go.Sx
def Bv(n:Nat)(g:Nat->List Sh)(key:Int):Int:=(BN (lst Pr n g) key:Int)
def Gg(n:Nat)(g:Nat->List Sh)(key:Int):Bool:=D9 (lst Pr n g) key
def Hq(n:Nat)(g:Nat->List Sh):Bool:=okB Pr n g&&decide (n<=100000)&&Qo (lst Pr n g)
def O4(n:Nat)(g:Nat->List Sh)(key:Int):Int:=if Gg n g key=aC then (zZ (α:=Pr) g (BN (lst Pr n g) key)).val else 0
def QL(n:Nat)(g:Nat->List Sh)(key:Int):Int:=if Gg n g key=aC then 3 else 2
def NU(n m:Nat):Nat:=n+m
def adB(g:Nat->List Sh)(n:Nat)(h:Nat->List Sh):Nat->List Sh:=zW.snoc g n h
end Go.Pl
namespace Go.Proofs
open Go Go.Sx Go.Pl
def aiN:List Sh->Tree Sh
 |[.sl 2 n g,.i .i64 key,.fn 205 []]=>.need (Hq n g) (.need (En key) (.leaf (.Ak [.i .i64 (Bv n g key),.b (Gg n g key)]))) |_=>.fail
def O6:Nat->Option (List Sh->Tree Sh)
 |204=>ay aiN |_=>aK
def akm:List Sh->Tree Sh
 |[.agg [.i .i64 _,.i .i64 _,s2,s3],.i .i64 key]=>match DV 1 s2,DV 2 s3 with
  |some _,ay (n,g)=>.need (Hq n g) (.need (En key) (.leaf (.Ak [.i .i64 (Bv n g key),.b (Gg n g key)]))) |_,_=>.fail
 |_=>.fail
def IU:Nat->Option (List Sh->Tree Sh)
 |181=>ay akm |182=>ay (fun _=>.fail) |_=>aK
def anY:List Sh->Tree Sh
 |[.agg [.i .i64 _,.i .i64 _,s2,s3],.i .i64 key]=>match DV 1 s2,DV 2 s3 with
  |some _,ay (n,g)=>.need (Hq n g) (.need (En key) (.leaf (.Ak [.i .i64 (QL n g key),.i .i64 (O4 n g key)]))) |_,_=>.fail
 |_=>.fail
def RY:Nat->Option (List Sh->Tree Sh)
 |208=>ay (fun _=>.fail) |_=>aK
def anZ:List Sh->Tree Sh
 |[.sl 1 2 g]=>match g 0,g 1 with
  |[.sl 2 n g1],[.sl 2 m g2]=>.need (Bo (NU n m) 16) (.leaf (.sl 2 (NU n m) (adB g1 n g2))) |_,_=>.fail
 |_=>.fail
def EP:Nat->Option (List Sh->Tree Sh)
 |181=>ay akm |184=>ay anY |186=>ay anZ |_=>aK
theorem avp(A:Prim)(W:Wd)(x y:Int)(a b:Nat)(h:Nat->List Sh)(p:Nat->Pr)(key:Int):AQ (C7 A W O6 Ap) Bh 300 400 181 [.code []] (Aa 12 [.agg [.i .i64 x,.i .i64 y,.sl 1 a h,.sl 2 b (zX p)],.i .i64 key] L0) [] []=aH (Hq b (zX p)) (aH (En key) (aA (aP (cZ [aW .i64 (Bv b (zX p) key),Sh.b (Gg b (zX p) key)])))):=by kernel_rfl
theorem a105(A:Prim)(W:Wd)(x y:Int)(a b:Nat)(h:Nat->List Sh)(p:Nat->Pr)(key:Int):AQ (C7 A W IU Ap) Bh 300 400 184 [.code []] (Aa 21 [.agg [.i .i64 x,.i .i64 y,.sl 1 a h,.sl 2 b (zX p)],.i .i64 key] L0) [] []=aH (Hq b (zX p)) (aH (En key) (aF (Gg b (zX p) key) (aH (A.inB (Bv b (zX p) key) b) (aA (aP (cZ [aW .i64 (ah 3),aW .i64 (p (A.toN (Bv b (zX p) key))).val])))) (aA (aP (cZ [aW .i64 (ah 2),aW .i64 (ah 0)]))))):=by kernel_rfl
theorem avq(A:Prim)(W:Wd)(x y:Int)(a b:Nat)(h:Nat->List Sh)(p:Nat->Pr)(key v:Int):AQ (C7 A W EP Ap) Bh 300 400 183 [.code []] (Aa 20 [.agg [.i .i64 x,.i .i64 y,.sl 1 a h,.sl 2 b (zX p)],.i .i64 key,.i .i64 v] L0) [] []=aH (Hq b (zX p)) (aH (En key) (aA (aP (cZ [bH [aW .i64 x,aW .i64 y,aG 1 a h,aG 2 b (zX p)],aW .i64 (QL b (zX p) key),aW .i64 (O4 b (zX p) key)])))):=by kernel_rfl
theorem avr(A:Prim)(W:Wd)(x y:Int)(a b:Nat)(h:Nat->List Sh)(p:Nat->Pr)(key v:Int):AQ (XV A W IU Ap) Bh 300 400 179 [.code []] (Aa 38 [.agg [.i .i64 x,.i .i64 y,.sl 1 a h,.sl 2 b (zX p)],.i .i64 key,.i .i64 v] L0) [] []=aF (A.Z7 b 0) ((aH (Hq 0 fun (x:Nat)=>[]) (aH (En key) (aF (Gg 0 (fun (x:Nat)=>[]) key) dH (aH (A.upTo (Bv 0 (fun (x:Nat)=>[]) key) 0) (aH (A.room (A.addN 0 1) 16) (aA (aP (cZ [bH [aW .i64 x,aW .i64 y,aG 1 a h,jo 272 2 (A.addN 0 1) (A.ins (fun (x:Nat)=>[]) (A.toN (Bv 0 (fun (x:Nat)=>[]) key)) [aW .i64 key,aW .i64 v])],aW .i64 (ah 1),aW .i64 (ah 0)])))))))).both (aH (A.room (A.addN 0 b) 16) (aH (Hq (A.addN 0 b) (A.snoc (AU []) 0 (zX p))) (aH (En key) (aF (Gg (A.addN 0 b) (A.snoc (AU []) 0 (zX p)) key) (aH (A.inB (Bv (A.addN 0 b) (A.snoc (AU []) 0 (zX p)) key) (A.addN 0 b)) (aA (aP (cZ [bH [aW .i64 x,aW .i64 y,aG 1 a h,jo 272 2 (A.addN 0 b) (A.upd (A.snoc (AU []) 0 (zX p)) (A.toN (Bv (A.addN 0 b) (A.snoc (AU []) 0 (zX p)) key)) 1 [aW .i64 v])],aW .i64 (ah 1),aW .i64 (ah 0)])))) (aH (A.upTo (Bv (A.addN 0 b) (A.snoc (AU []) 0 (zX p)) key) (A.addN 0 b)) (aH (A.room (A.addN (A.addN 0 b) 1) 16) (aA (aP (cZ [bH [aW .i64 x,aW .i64 y,aG 1 a h,jo 272 2 (A.addN (A.addN 0 b) 1) (A.ins (A.snoc (AU []) 0 (zX p)) (A.toN (Bv (A.addN 0 b) (A.snoc (AU []) 0 (zX p)) key)) [aW .i64 key,aW .i64 v])],aW .i64 (ah 1),aW .i64 (ah 0)])))))))))) (aH (A.room (A.addN 0 b) 16) (aH (Hq (A.addN 0 b) (A.snoc (AU []) 0 (zX p))) (aH (En key) (aF (Gg (A.addN 0 b) (A.snoc (AU []) 0 (zX p)) key) (aH (A.inB (Bv (A.addN 0 b) (A.snoc (AU []) 0 (zX p)) key) (A.addN 0 b)) (aA (aP (cZ [bH [aW .i64 x,aW .i64 y,aG 1 a h,jo 272 2 (A.addN 0 b) (A.upd (A.snoc (AU []) 0 (zX p)) (A.toN (Bv (A.addN 0 b) (A.snoc (AU []) 0 (zX p)) key)) 1 [aW .i64 v])],aW .i64 (ah 1),aW .i64 (ah 0)])))) (aH (A.upTo (Bv (A.addN 0 b) (A.snoc (AU []) 0 (zX p)) key) (A.addN 0 b)) (aH (A.room (A.addN (A.addN 0 b) 1) 16) (aA (aP (cZ [bH [aW .i64 x,aW .i64 y,aG 1 a h,jo 272 2 (A.addN (A.addN 0 b) 1) (A.ins (A.snoc (AU []) 0 (zX p)) (A.toN (Bv (A.addN 0 b) (A.snoc (AU []) 0 (zX p)) key)) [aW .i64 key,aW .i64 v])],aW .i64 (ah 1),aW .i64 (ah 0)]))))))))):=by kernel_rfl
theorem a107(A:Prim)(W:Wd)(n m:Nat)(g1 g2:Nat->List Sh):AQ (XV A W RY Am) Bh 300 400 186 [.code []] (Aa 36 [.sl 1 2 (AU [[.sl 2 n g1],[.sl 2 m g2]])] L0) [] []=aF (A.lt (ah 0) (A.AO 2)) (aH (A.inB (ah 0) 2) (aF (A.lt (A.add .i64 (ah 0) (A.AO n)) (ah 0)) dH (aF (A.lt (ah 1) (A.AO 2)) (aH (A.inB (ah 1) 2) (aF (A.lt (A.add .i64 (A.add .i64 (ah 0) (A.AO n)) (A.AO m)) (ah 0)) dH (aF (A.lt (ah 2) (A.AO 2)) (aH (A.inB (ah 2) 2) dH) (aH (A.le (ah 0) (A.add .i64 (A.add .i64 (ah 0) (A.AO n)) (A.AO m))) (aH (A.room (A.toN (A.add .i64 (A.add .i64 (ah 0) (A.AO n)) (A.AO m))) 16) (aF (A.lt (ah 0) (A.AO 2)) (aH (A.inB (ah 0) 2) (aH (A.room (A.addN 0 n) 16) (aF (A.lt (ah 1) (A.AO 2)) (aH (A.inB (ah 1) 2) (aH (A.room (A.addN (A.addN 0 n) m) 16) (aF (A.lt (ah 2) (A.AO 2)) (aH (A.inB (ah 2) 2) dH) (aA (aP (jo 272 2 (A.addN (A.addN 0 n) m) (A.snoc (A.snoc (fun (x:Nat)=>[]) 0 g1) (A.addN 0 n) g2))))))) (aA (aP (jo 272 2 (A.addN 0 n) (A.snoc (fun (x:Nat)=>[]) 0 g1))))))) (aA (aP (jo 272 2 0 fun (x:Nat)=>[]))))))))) (aH (A.le (ah 0) (A.add .i64 (ah 0) (A.AO n))) (aH (A.room (A.toN (A.add .i64 (ah 0) (A.AO n))) 16) (aF (A.lt (ah 0) (A.AO 2)) (aH (A.inB (ah 0) 2) (aH (A.room (A.addN 0 n) 16) (aF (A.lt (ah 1) (A.AO 2)) (aH (A.inB (ah 1) 2) (aH (A.room (A.addN (A.addN 0 n) m) 16) (aF (A.lt (ah 2) (A.AO 2)) (aH (A.inB (ah 2) 2) dH) (aA (aP (jo 272 2 (A.addN (A.addN 0 n) m) (A.snoc (A.snoc (fun (x:Nat)=>[]) 0 g1) (A.addN 0 n) g2))))))) (aA (aP (jo 272 2 (A.addN 0 n) (A.snoc (fun (x:Nat)=>[]) 0 g1))))))) (aA (aP (jo 272 2 0 fun (x:Nat)=>[]))))))))) (aH (A.le (ah 0) (ah 0)) (aH (A.room 0 16) (aF (A.lt (ah 0) (A.AO 2)) (aH (A.inB (ah 0) 2) (aH (A.room (A.addN 0 n) 16) (aF (A.lt (ah 1) (A.AO 2)) (aH (A.inB (ah 1) 2) (aH (A.room (A.addN (A.addN 0 n) m) 16) (aF (A.lt (ah 2) (A.AO 2)) (aH (A.inB (ah 2) 2) dH) (aA (aP (jo 272 2 (A.addN (A.addN 0 n) m) (A.snoc (A.snoc (fun (x:Nat)=>[]) 0 g1) (A.addN 0 n) g2))))))) (aA (aP (jo 272 2 (A.addN 0 n) (A.snoc (fun (x:Nat)=>[]) 0 g1))))))) (aA (aP (jo 272 2 0 fun (x:Nat)=>[])))))):=by kernel_rfl
noncomputable def RZ(A:Prim)(W:Wd)(x y:Int)(a b:Nat)(h:Nat->List Sh)(p:Nat->Pr)(key:Int):List Bj:=[aj x x,aj y y,aQ (aG 1 a h) (aG 1 a h),aQ (aG 2 b (zX p)) (aG 2 b (zX p)),aj key key,aj (QL b (zX p) key) (QL b (zX p) key),aj (O4 b (zX p) key) (O4 b (zX p) key),aj (Bv b (zX p) key) (Bv b (zX p) key),Bj.bool (Gg b (zX p) key) (Gg b (zX p) key),aj x x,aj y y,aQ (aG 1 a h) (aG 1 a h),aQ (aG 2 (NU (A.toN (Bv b (zX p) key)) (A.Jp b (A.toN (A.add .i64 (Bv b (zX p) key) (ah 1))))) (adB (zX p) (A.toN (Bv b (zX p) key)) fun (j:Nat)=>zX p ((C7 A W EP Ap).A.addN ((C7 A W EP Ap).A.toN ((C7 A W EP Ap).A.add .i64 (Bv b (zX p) key) 1)) j))) (aG 2 (NU (A.toN (Bv b (zX p) key)) (A.Jp b (A.toN (A.add .i64 (Bv b (zX p) key) (ah 1))))) (adB (zX p) (A.toN (Bv b (zX p) key)) fun (j:Nat)=>zX p ((C7 A W EP Ap).A.addN ((C7 A W EP Ap).A.toN ((C7 A W EP Ap).A.add .i64 (Bv b (zX p) key) 1)) j))),Bj.nat 2 2,Bj.Lp (AU [[aG 2 (A.toN (Bv b (zX p) key)) (zX p)],[aG 2 (A.Jp b (A.toN (A.add .i64 (Bv b (zX p) key) (ah 1)))) fun (j:Nat)=>zX p (A.addN (A.toN (A.add .i64 (Bv b (zX p) key) (ah 1))) j)]]) (AU [[aG 2 (A.toN (Bv b (zX p) key)) (zX p)],[aG 2 (A.Jp b (A.toN (A.add .i64 (Bv b (zX p) key) (ah 1)))) fun (j:Nat)=>zX p (A.addN (A.toN (A.add .i64 (Bv b (zX p) key) (ah 1))) j)]])]
theorem avs(A:Prim)(W:Wd)(x y:Int)(a b:Nat)(h:Nat->List Sh)(p:Nat->Pr)(key v:Int):AQ (C7 A W EP Ap) Bh 600 800 185 [.code []] (Aa 41 [.agg [.i .i64 x,.i .i64 y,.sl 1 a h,.sl 2 b (zX p)],.i .i64 key,.i .i64 v] L0) [] []=aH (Hq b (zX p)) (aH (En key) (aH (Hq b (zX p)) (aH (En key) (aF (Gg b (zX p) key) (aH (A.upTo (Bv b (zX p) key) b) (aH (A.upTo (A.add .i64 (Bv b (zX p) key) (ah 1)) b) (aH (Bo (NU (A.toN (Bv b (zX p) key)) (A.Jp b (A.toN (A.add .i64 (Bv b (zX p) key) (ah 1))))) 16) (aH (A.upTo (Bv b (zX p) key) b) (aH (A.upTo (A.add .i64 (Bv b (zX p) key) (ah 1)) b) (aH (Bo (NU (A.toN (Bv b (zX p) key)) (A.Jp b (A.toN (A.add .i64 (Bv b (zX p) key) (ah 1))))) 16) (aH (A.upTo (A.add .i64 (Bv b (zX p) key) (ah 1)) b) (aH (A.upTo (Bv b (zX p) key) b) (aH (Bo (NU (A.toN (Bv b (zX p) key)) (A.Jp b (A.toN (A.add .i64 (Bv b (zX p) key) (ah 1))))) 16) (aS (RZ A W x y a b h p key) (aS (RZ A W x y a b h p key) (aH (A.upTo (Bv b (zX p) key) b) (aH (A.upTo (A.add .i64 (Bv b (zX p) key) (ah 1)) b) (aH (Bo (NU (A.toN (Bv b (zX p) key)) (A.Jp b (A.toN (A.add .i64 (Bv b (zX p) key) (ah 1))))) 16) (aH (A.upTo (A.add .i64 (Bv b (zX p) key) (ah 1)) b) (aH (A.upTo (Bv b (zX p) key) b) (aH (Bo (NU (A.toN (Bv b (zX p) key)) (A.Jp b (A.toN (A.add .i64 (Bv b (zX p) key) (ah 1))))) 16) (aS (RZ A W x y a b h p key) (aH (A.upTo (A.add .i64 (Bv b (zX p) key) (ah 1)) b) (aH (A.upTo (Bv b (zX p) key) b) (aH (Bo (NU (A.toN (Bv b (zX p) key)) (A.Jp b (A.toN (A.add .i64 (Bv b (zX p) key) (ah 1))))) 16) (aS (RZ A W x y a b h p key) (aS (RZ A W x y a b h p key) (aA (aP (cZ [bH [aW .i64 x,aW .i64 y,aG 1 a h,aG 2 (NU (A.toN (Bv b (zX p) key)) (A.Jp b (A.toN (A.add .i64 (Bv b (zX p) key) (ah 1))))) (adB (zX p) (A.toN (Bv b (zX p) key)) fun (j:Nat)=>zX p ((C7 A W EP Ap).A.addN ((C7 A W EP Ap).A.toN ((C7 A W EP Ap).A.add .i64 (Bv b (zX p) key) 1)) j))],aW .i64 (QL b (zX p) key),aW .i64 (O4 b (zX p) key)])))))))))))))))))))))))))) (aA (aP (cZ [bH [aW .i64 x,aW .i64 y,aG 1 a h,aG 2 b (zX p)],aW .i64 (QL b (zX p) key),aW .i64 (O4 b (zX p) key)]))))))):=by kernel_rfl
end Go.Proofs
namespace Go.Pl
open Go Go.Sx Go.Proofs
def ES(ps:List Pr)(key v:Int):List Pr:=if D9 ps key=aC then ps.set (BN ps key) ⟨key,v⟩ else ps.take (BN ps key)++⟨key,v⟩::ps.drop (BN ps key)
def FP(ps:List Pr)(key:Int):List Pr:=if D9 ps key=aC then ps.take (BN ps key)++ps.drop (BN ps key+1) else ps
def KQ(ps:List Pr)(key:Int):Int:=if D9 ps key=aC then (nth ps (BN ps key)).val else 0
def LJ(ps:List Pr)(key:Int):Int:=if D9 ps key=aC then 3 else 2
theorem Si(ps:List Pr)(key:Int):BN ps key<=ps.length:=by unfold BN;exact (qX _).length_le
theorem akn{α:Type}{p:α->Bool}{x:α}:∀{l:List α},x∈l.takeWhile p->p x=aC
 |[],h=>by simp at h |a::l,h=>by
  cases ha:p a with
  |false=>simp[jr,ha] at h |true=>
   simp only[jr,ha,gZ] at h;rcases h with rfl|h
   ·exact ha
   ·exact akn h
theorem agS(ps:List Pr)(key:Int):∀t (h:t<ps.length),t<BN ps key->ps[t].key<key:=by
 intro t h ht;have h2:(ps.takeWhile fun p=>decide (p.key<key))[t]?=ps[t]?:=by
  have:=qX (p:=fun p:Pr=>decide (p.key<key)) (l:=ps);obtain ⟨r,hr⟩:=this;conv=>rhs;rw[<-hr]
  rw[dJ ht]
 have h3:ps[t]∈ps.takeWhile fun p=>decide (p.key<key):=by
  rw[List.getElem?_eq_getElem h] at h2;exact List.mem_of_getElem? h2
 have:=akn h3;simpa using this
theorem agT{ps:List Pr}{key:Int}(hs:ps.Pairwise fun a b=>a.key<b.key):∀t (h:t<ps.length),BN ps key<=t->key<=ps[t].key:=by
 intro t h ht;have hk:BN ps key<ps.length:=by omega
 have h0:¬ps[BN ps key].key<key:=by
  intro hlt;have:BN ps key<(ps.takeWhile fun p=>decide (p.key<key)).length:=by
   have key2:∀(l:List Pr),(h:(l.takeWhile fun p=>decide (p.key<key)).length<l.length)->¬(l[(l.takeWhile fun p=>decide (p.key<key)).length].key<key):=by
    intro l;induction l with
    |nil=>intro h;simp at h |cons a l ih=>
     intro h;by_cases ha:a.key<key
     ·have hd:decide (a.key<key)=aC:=decide_eq_true ha
      simp only[jr,hd,iQ] at h ⊢;exact ih (by omega)
     ·have hd:decide (a.key<key)=ak:=decide_eq_false ha
      simp only[jr,hd,qg] at h ⊢;exact ha
   exact (key2 ps hk hlt).elim
  unfold BN at this;omega
 by_cases e:t=BN ps key
 ·subst e;omega
 ·have:=jB.1 hs (BN ps key) t hk h (by omega)
  omega
theorem O7{ps:List Pr}{key:Int}(hs:ps.Pairwise fun a b=>a.key<b.key)(h:D9 ps key=aC):∃h:BN ps key<ps.length,ps[BN ps key].key=key:=(agR hs (agS ps key) (agT hs)).1 h
theorem abm{α:Type}[Row α]{l:List α}{j:Nat}(h:j<l.length):nth l j=l[j]:=by simp[nth,h]
theorem an0{α:Type}[Row α]{l:List α}{k j:Nat}{a:α}(hk:k<l.length)(hj:j<l.length):nth (l.set k a) j=if j=k then a else nth l j:=by
 rw[abm (by simpa using hj),abm hj,List.getElem_set];by_cases e:k=j
 ·subst e;simp
 ·rw[if_neg e,if_neg (Ne.symm e)]
theorem an1{α:Type}[Row α]{l:List α}{k j:Nat}{a:α}(hk:k<=l.length)(hj:j<l.length+1):nth (l.take k++a::l.drop k) j=if j<k then nth l j else if j=k then a else nth l (j - 1):=by
 have hlen:(l.take k++a::l.drop k).length=l.length+1:=by simp;omega
 have ht:(l.take k).length=k:=by simp;omega
 unfold nth;split
 ·rename_i h
  simp only[aY];rw[dJ (by omega),bY,if_pos h]
 ·split
  ·rename_i h
   subst h;simp only[aY];rw[fD (by omega),ht,qA];rfl
  ·rename_i h1 h2
   simp only[aY];rw[fD (by omega),ht];obtain ⟨m,hm⟩:∃m,j - k=m+1:=⟨j - k - 1,by omega⟩;rw[hm,List.getElem?_cons_succ,eU];congr 2;omega
theorem an2{α:Type}[Row α]{l:List α}{k j:Nat}(hk:k<l.length)(hj:j<l.length - 1):nth (l.take k++l.drop (k+1)) j=if j<k then nth l j else nth l (j+1):=by
 have ht:(l.take k).length=k:=by simp;omega
 unfold nth;split
 ·rename_i h
  simp only[aY];rw[dJ (by omega),bY,if_pos h]
 ·simp only[aY]
  rw[fD (by omega),ht,eU];congr 2;omega
theorem aeT{ps:List Pr}{key v:Int}(h:D9 ps key=ak):ES ps key v=ps.take (BN ps key)++⟨key,v⟩::ps.drop (BN ps key):=if_neg (by rw[h];simp)
theorem aeU{ps:List Pr}{key v:Int}(h:D9 ps key=aC):ES ps key v=ps.set (BN ps key) ⟨key,v⟩:=if_pos h
theorem aeV{ps:List Pr}{key:Int}(h:D9 ps key=ak):FP ps key=ps:=if_neg (by rw[h];simp)
theorem aeW{ps:List Pr}{key:Int}(h:D9 ps key=aC):FP ps key=ps.take (BN ps key)++ps.drop (BN ps key+1):=if_pos h
theorem abn{ps:List Pr}{key v:Int}:(ES ps key v).length=if D9 ps key=aC then ps.length else ps.length+1:=by
 have:=Si ps key;unfold ES;split
 ·simp
 ·simp;omega
theorem agU{ps:List Pr}{key:Int}(hs:Qo ps=aC):(FP ps key).length=if D9 ps key=aC then ps.length - 1 else ps.length:=by
 have:=Si ps key;unfold FP;split
 ·rename_i h
  obtain ⟨h1,_⟩:=O7 (GR hs) h;simp;omega
 ·rfl
theorem an3{n:Nat}{g:Nat->List Sh}{key:Int}(hs:Qo (lst Pr n g)=aC):O4 n g key=KQ (lst Pr n g) key:=by
 unfold O4 KQ Gg;split
 ·rename_i h
  obtain ⟨h1,_⟩:=O7 (GR hs) h;rw[RP (by simpa using h1)]
 ·rfl
theorem Hr{n:Nat}{g:Nat->List Sh}:Hq n g=aC↔okB Pr n g=aC/\n<=100000/\Qo (lst Pr n g)=aC:=by
 simp[Hq,and_assoc]
end Go.Pl
namespace Go.Proofs
open Go Go.Sx Go.Pl Go.Lib
theorem asN:Ar aB (AZ W7) 204 aiN:=avo.mono fun H A8 args φ hr h=>by
 unfold aiN at h;split at h
 ·rename_i n g key
  obtain ⟨h1,h2,hφ⟩:=h;obtain ⟨q1,q2,q3⟩:=Hr.1 h1;simp only[anX];exact ⟨q1,decide_eq_true q2,q3,h2,hφ⟩
 ·exact h.elim
theorem asO:∀g F,O6 g=ay F->Ar aB (AZ W7) g F:=fun g F h=>by
 unfold O6 at h;split at h
 ·cases h;exact asN
 ·cases h
theorem aq6(stop:Nat->List Nat->Bool):BA aB (C7 zW W7 O6 stop):=lS asO fun g h=>by
 unfold O6 at h;split at h;all_goals first|(cases h;done) |kernel_rfl
theorem Sj{H:Mem}{x y:Int}{s2 s3:Sh}{n b:Nat}{g l:Nat->List Sh}{v:Value}(hs2:DV 1 s2=ay (n,g))(hs:DV 2 s3=ay (b,l))(hw:okB Pr b l=aC)(r:Rep H (.agg [.i .i64 x,.i .i64 y,s2,s3]) v):
  Rep H (.agg [.i .i64 x,.i .i64 y,.sl 1 n g,.sl 2 b (zX (zZ (α:=Pr) l))]) v:=Hz r (fun u hu=>BD hs2 hu) fun u hu=>Ei (BD hs hu) hw
theorem Sl{b:Nat}{l:Nat->List Sh}(h:Hq b l=aC):Hq b (zX (zZ (α:=Pr) l))=aC/\∀key,Gg b (zX (zZ (α:=Pr) l)) key=Gg b l key/\Bv b (zX (zZ (α:=Pr) l)) key=Bv b l key:=by
 have e:lst Pr b (zX (zZ (α:=Pr) l))=lst Pr b l:=by rw[RQ];rfl
 obtain ⟨h1,h2,h3⟩:=Hr.1 h;exact ⟨Hr.2 ⟨Dy _ _,h2,by rw[e];exact h3⟩,fun key=>⟨by unfold Gg;rw[e],by unfold Bv;rw[e]⟩⟩
theorem ar8:Ar aB (AZ W7) 181 akm:=by
 refine DU (C:=C7 zW W7 O6 Ap) (dw _ _) (aq6 _) (m:=300) (n:=400) (L:=L0) (fn:=zu) (by kernel_rfl) (by kernel_rfl) fun H w A8 args φ hrep h=>?_
 have hn:zu.ntmps=12:=by kernel_rfl
 unfold akm at h;split at h
 ·rename_i x y s2 s3 key
  split at h
  ·rename_i z b l hs2 hs
   obtain ⟨a,hh⟩:=z;obtain ⟨h1,h2,hφ⟩:=h;match args,hrep with
   |[v,u1],⟨hv,r1,_⟩=>
    obtain ⟨q1,q2⟩:=Sl h1;refine ⟨[.agg [.i .i64 x,.i .i64 y,.sl 1 a hh,.sl 2 b (zX (zZ (α:=Pr) l))],.i .i64 key],⟨Sj hs2 hs (Hr.1 h1).1 hv,r1,trivial⟩,?_⟩;rw[hn,avp zW W7 x y a b hh (zZ l) key,(q2 key).1,(q2 key).2];exact ⟨q1,h2,BH (s':=.Ak [.i .i64 (Bv b l key),.b (Gg b l key)]) ⟨rfl,.inl rfl,trivial⟩ hφ⟩
  ·exact h.elim
 ·exact h.elim
theorem an4:∀g F,IU g=ay F->Ar aB (AZ W7) g F:=fun g F h=>by
 unfold IU at h;split at h
 ·cases h;exact ar8
 ·cases h;exact fun H w A8 args φ _ _ _ h=>h.elim
 ·cases h
theorem aq7(stop:Nat->List Nat->Bool):BA aB (C7 zW W7 IU stop):=lS an4 fun g h=>by
 unfold IU at h;split at h;all_goals first|(cases h;done) |kernel_rfl
theorem an5:mP.get 272=ay ⟨.struct [(0,1,ak),(1,1,ak)],2,16,[.int .i64 0,.int .i64 0]⟩:=by kernel_rfl
set_option maxHeartbeats 4000000 in
set_option maxRecDepth 100000 in
theorem an6:aev aB 208 272 2 16:=by
 intro w k hk hb;obtain ⟨inf,z,i1,i2,i3,i4,i5,zs,hz⟩:=info116;have hsmall:k<=9223372036854775807:=by simp only[maxLen] at hk;omega
 have hse:∀w,(nD 272).run aB w=.ok 2 w:=fun w=>by simp[nD,typeInfo,i1,i2]
 by_cases h0:k=0
 ·subst h0
  go_enter yw,wW
  go_wp2
  go_ret
  exact ⟨_,rfl,OU _ _ _,⟨rfl,rfl,rfl,dn _,fun _ _ _=>rfl⟩,fun b hb=>by simp[Ai] at hb⟩
 ·obtain ⟨G,hG⟩:∃G,G=grownCap w (0+k) 0 272:=⟨_,rfl⟩
  have hGn:k<=G:=by rw[hG];have:=grownCap_ge w (0+k) 0 272;omega
  have hGm:G<=maxLen:=by rw[hG];exact grownCap_le_maxLen w (0+k) 0 272 (by omega)
  have hG63:G<=9223372036854775807:=by simp only[maxLen] at hGm;omega
  obtain ⟨ROW,hROW⟩:∃ROW:Array Value,ROW=([]:List Value).toArray++jf z.cells k++jf z.cells (G - (0+k)):=⟨_,rfl⟩;have hRs:ROW.size=G*2:=by
   rw[hROW];simp only[nT,gU,size_zeroCells,i5,qg];omega
  have hr:∀ty,(eH #[209,3] ty #[.slice aK 0 0,.int .i64 k]).run aB w=.ok (.slice (ay ⟨w.heap.size,0,aK⟩) k G) (w.drew.alloc (.cells ROW 272)):=fun ty=>by
   have h:=qw w 209 3 ty 272 inf z .i64 .i64 ig kL i1 i4 aK 0 0 [] (by simp[gB]) k (by omega) (by omega) (by omega) (by omega) (by rw[i3];omega) (by rw[i3];exact growslice_fits (by omega) (by omega));rw[<-hG,<-hROW,Nat.zero_add] at h;exact h
  obtain ⟨W1,hW1⟩:∃W1,W1=w.drew.alloc (.cells ROW 272):=⟨_,rfl⟩;have f1:W1.heap[w.heap.size]?=ay (.cells ROW 272 (0,0)):=by rw[hW1];exact heap_alloc_new w.drew _
  have f2:w.grownBy W1 aK:=⟨by rw[hW1];rfl,by rw[hW1];rfl,by rw[hW1];rfl,by rw[hW1];simp,fun j hj _=>by rw[hW1];first|exact vU w.drew _ j hj|exact heap_alloc_old w.drew _ hj⟩
  have hr1:=hr 209;rw[<-hW1] at hr1;have hk0:¬((k:Int)=0):=by omega
  have hk1:(0:Int)<k:=by omega
  clear hROW hr hG hW1;go_enter yw,wW
  go_wp2_with (first
   |(at_builtin;refine jT _ rfl _ _ _ _ rfl _ _ rfl rfl _ _ hr1 ?_))
  go_ret
  exact ⟨_,rfl,⟨by simp,.inr ⟨w.heap.size,G,ROW,rfl,gQ _,f1,gQ _,hGm,hRs,by simp⟩⟩,f2,fun b hb=>by simp[Ai] at hb;omega⟩
theorem asP:∀g e te,anG g=ay e->mP.get e=ay te->wX aB g/\ain aB g e te.size te.bytes:=fun g e te h ht=>by
 unfold anG at h;split at h
 ·cases h
  rw[an5] at ht;cases ht;exact ⟨GN jg jI 182 (by kernel_rfl),aq4⟩
 ·cases h
theorem asQ:∀g e te,aiH g=ay e->mP.get e=ay te->wX aB g/\aev aB g e te.size te.bytes:=fun g e te h ht=>by
 unfold aiH at h;split at h
 ·cases h
  rw[an5] at ht;cases ht;exact ⟨GN jg jI 208 (by kernel_rfl),an6⟩
 ·cases h
theorem XV.WI{spec:Nat->Option (List Sh->Tree Sh)}{stop:Nat->List Nat->Bool}(hs:∀g F,spec g=ay F->Ar aB (AZ W7) g F)(he:∀g,(spec g).isSome=aC->(Tryz.fns.get g).isSome=aC):BA aB (XV zW W7 spec stop):=⟨hs,(fun g h=>by
  rcases h with h|h
  ·exact GN jg jI g (he g h)
  ·exact GN jg jI g h),asP,asQ⟩
theorem an7(stop:Nat->List Nat->Bool):BA aB (XV zW W7 IU stop):=XV.WI an4 fun g h=>by
 unfold IU at h;split at h;all_goals first|(cases h;done) |kernel_rfl
theorem WO{b:Nat}{l:Nat->List Sh}{key:Int}(h1:Hq b l=aC)(h:Gg b l key=aC):BN (lst Pr b l) key<b:=by
 obtain ⟨_,_,h3⟩:=Hr.1 h1;obtain ⟨h4,_⟩:=O7 (GR h3) h;simpa using h4
theorem avt:Ar aB (AZ W7) 184 anY:=by
 refine DU (C:=C7 zW W7 IU Ap) (dw _ _) (aq7 _) (m:=300) (n:=400) (L:=L0) (fn:=zx) (by kernel_rfl) (by kernel_rfl) fun H w A8 args φ hrep h=>?_
 have hn:zx.ntmps=21:=by kernel_rfl
 unfold anY at h;split at h
 ·rename_i x y s2 s3 key
  split at h
  ·rename_i z b l hs2 hs
   obtain ⟨a,hh⟩:=z;obtain ⟨h1,h2,hφ⟩:=h;match args,hrep with
   |[v,u1],⟨hv,r1,_⟩=>
    obtain ⟨q1,q2⟩:=Sl h1;refine ⟨[.agg [.i .i64 x,.i .i64 y,.sl 1 a hh,.sl 2 b (zX (zZ (α:=Pr) l))],.i .i64 key],⟨Sj hs2 hs (Hr.1 h1).1 hv,r1,trivial⟩,?_⟩;rw[hn,a105 zW W7 x y a b hh (zZ l) key,(q2 key).1,(q2 key).2];have e:zW.toN (Bv b l key)=BN (lst Pr b l) key:=rfl;refine ⟨q1,h2,fun h=>⟨?_,BH (s':=.Ak [.i .i64 (QL b l key),.i .i64 (O4 b l key)]) ⟨?_,?_,trivial⟩ hφ⟩,fun h=>BH (s':=.Ak [.i .i64 (QL b l key),.i .i64 (O4 b l key)]) ⟨?_,?_,trivial⟩ hφ⟩
    ·have:=WO h1 h
     simp[Bl,Bv];exact this
    ·show aW _ _=_;simp[QL,h]
    ·show aW _ _=_;rw[e];simp[O4,h]
    ·show aW _ _=_;simp[QL,h]
    ·show aW _ _=_;simp[O4,h]
  ·exact h.elim
 ·exact h.elim
def an8:List Sh->Tree Sh
 |[.agg [.i .i64 x,.i .i64 y,s2,s3],u,t]=>match DV 1 s2,DV 2 s3,AY u,AY t with
  |some (a,h),ay (b,l),ay key,ay _=>.need (Hq b l) (.need (En key) (.leaf (.Ak [.agg [.i .i64 x,.i .i64 y,.sl 1 a h,.sl 2 b l],.i .i64 (LJ (lst Pr b l) key),.i .i64 (KQ (lst Pr b l) key)]))) |_,_,_,_=>.fail
 |_=>.fail
def an9:List Sh->Tree Sh
 |[.agg [.i .i64 x,.i .i64 y,s2,s3],u,t]=>match DV 1 s2,DV 2 s3,AY u,AY t with
  |some (a,h),ay (b,l),ay key,ay v=>.need (Hq b l) (.need (En key) (.need (Bo (b+1) 16) (.leaf (.Ak [.agg [.i .i64 x,.i .i64 y,.sl 1 a h,.sl 2 (len (ES (lst Pr b l) key v)) (zX (nth (ES (lst Pr b l) key v)))],.i .i64 1,.i .i64 0])))) |_,_,_,_=>.fail
 |_=>.fail
def aoa:List Sh->Tree Sh
 |[.agg [.i .i64 x,.i .i64 y,s2,s3],u,t]=>match DV 1 s2,DV 2 s3,AY u,AY t with
  |some (a,h),ay (b,l),ay key,ay v=>.need (Hq b l) (.need (En key) (.need (Bo (b+1) 16) (.leaf (.Ak [.agg [.i .i64 x,.i .i64 y,.sl 1 a h,.sl 2 (len (FP (lst Pr b l) key)) (zX (nth (FP (lst Pr b l) key)))],.i .i64 (LJ (lst Pr b l) key),.i .i64 (KQ (lst Pr b l) key)])))) |_,_,_,_=>.fail
 |_=>.fail
theorem avu:Ar aB (AZ W7) 179 an9:=by
 refine DU (C:=XV zW W7 IU Ap) (zy _ _) (an7 _) (m:=300) (n:=400) (L:=L0) (fn:=zA) (by kernel_rfl) (by kernel_rfl) fun H w A8 args φ hrep h=>?_
 have hn:zA.ntmps=38:=by kernel_rfl
 unfold an9 at h;split at h
 ·rename_i x y s2 s3 u t
  split at h
  ·rename_i a hh b l key vv hs2 hs hu ht
   obtain ⟨h1,h2,h3,hφ⟩:=h;match args,hrep with
   |[v,u1,u2],⟨hv,r1,r2,_⟩=>
    obtain ⟨q1,q2⟩:=Sl h1;obtain ⟨w1,w2,w3⟩:=Hr.1 h1;have hso:=GR w3;refine ⟨[.agg [.i .i64 x,.i .i64 y,.sl 1 a hh,.sl 2 b (zX (zZ (α:=Pr) l))],.i .i64 key,.i .i64 vv],⟨Sj hs2 hs w1 hv,Ej hu r1,Ej ht r2,trivial⟩,?_⟩;rw[hn,avr zW W7 x y a b hh (zZ l) key vv,Qj b,Qk,(q2 key).1,(q2 key).2];have hll:(lst Pr b l).length=b:=E8 b l;have hat:∀j (hj:j<b),nth (lst Pr b l) j=zZ (α:=Pr) l j:=fun j hj=>RP hj
    have e:zW.toN (Bv b l key)=BN (lst Pr b l) key:=rfl;have avv:BN (lst Pr b l) key<=b:=by have:=Si (lst Pr b l) key;rw[hll] at this;exact this
    have hup:zW.upTo (Bv b l key) b=aC:=by simp[J8,Bv];omega
    have r0:zW.room b 16=aC:=KO h3 (vK b);have fin (n':Nat) (g':Nat->List Sh) (hn':n'=len (ES (lst Pr b l) key vv)) (hg:∀j,j<n'->g' j=zX (nth (ES (lst Pr b l) key vv)) j) :
      up φ (.Ak [.agg [.i .i64 x,.i .i64 y,.sl 1 a hh,.os 272 2 n' g'],.i .i64 (ah 1),.i .i64 (ah 0)]):=
     BH (s':=.Ak [.agg [.i .i64 x,.i .i64 y,.sl 1 a hh,.sl 2 (len (ES (lst Pr b l) key vv)) (zX (nth (ES (lst Pr b l) key vv)))],.i .i64 1,.i .i64 0]) ⟨⟨rfl,rfl,.inr ⟨rfl,rfl,fun _ _=>rfl⟩,.inr ⟨rfl,hn',hg⟩,trivial⟩,rfl,rfl,trivial⟩ hφ
    have hput (hb:Gg b l key=aC):len (ES (lst Pr b l) key vv)=b:=by
     have hb:D9 (lst Pr b l) key=aC:=hb;show (ES (lst Pr b l) key vv).length=b;rw[abn,if_pos hb,hll]
    have aob (hb:Gg b l key=ak):len (ES (lst Pr b l) key vv)=b+1:=by
     have hb:D9 (lst Pr b l) key=ak:=hb;show (ES (lst Pr b l) key vv).length=b+1;rw[abn,if_neg (by rw[hb];simp),hll]
    have yes (hb:Gg b l key=aC):zW.inB (Bv b l key) b=aC/\up φ (.Ak [.agg [.i .i64 x,.i .i64 y,.sl 1 a hh,.os 272 2 b (zW.upd (zX (zZ (α:=Pr) l)) (zW.toN (Bv b l key)) 1 [.i .i64 vv])],.i .i64 (ah 1),.i .i64 (ah 0)]):=by
     have hlt:=WO h1 hb;refine ⟨by simp[Bl,Bv];omega,fin b _ (hput hb).symm fun j hj=>?_⟩;have hb':D9 (lst Pr b l) key=aC:=hb;obtain ⟨k1,k2⟩:=O7 hso hb';rw[ady,e];show _=prR (nth (ES (lst Pr b l) key vv) j);rw[aeU hb',an0 k1 (by rw[hll];exact hj)];by_cases ej:j=BN (lst Pr b l) key
     ·rw[if_pos ej,if_pos ej]
      have hk:(zZ (α:=Pr) l (BN (lst Pr b l) key)).key=key:=by rw[<-hat _ hlt,abm k1];exact k2
      subst ej;simp[zX,Row.put,prR,hk]
     ·rw[if_neg ej,if_neg ej,hat j hj];rfl
    have no (hb:Gg b l key=ak):up φ (.Ak [.agg [.i .i64 x,.i .i64 y,.sl 1 a hh,.os 272 2 (zW.addN b 1) (zW.ins (zX (zZ (α:=Pr) l)) (zW.toN (Bv b l key)) [.i .i64 key,.i .i64 vv])],.i .i64 (ah 1),.i .i64 (ah 0)]):=by
     refine fin (b+1) _ (aob hb).symm fun j hj=>?_
     have hb':D9 (lst Pr b l) key=ak:=hb;rw[e];show (if j<_ then _ else if j=_ then _ else _)=prR (nth (ES (lst Pr b l) key vv) j);rw[aeT hb',an1 (by rw[hll];exact avv) (by rw[hll];exact hj)];split
     ·rw[hat j (by omega)];rfl
     ·split
      ·rfl
      ·rw[hat (j - 1) (by omega)];rfl
    refine ⟨fun h0=>⟨?_,?_⟩,fun _=>?_⟩
    ·
     have hb0:b=0:=by simp[XZ] at h0;exact h0
     subst hb0;have hnil:∀g':Nat->List Sh,lst Pr 0 g'=[]:=fun _=>rfl
     have wf0:Hq 0 (fun _=>[])=aC:=by unfold Hq;rw[hnil];rfl
     have hh0:Gg 0 (fun _=>[]) key=ak:=by unfold Gg;rw[hnil];rfl
     have hh1:Gg 0 l key=ak:=by unfold Gg;rw[hnil];rfl
     have hp0:Bv 0 (fun _=>[]) key=0:=by unfold Bv;rw[hnil];rfl
     refine ⟨wf0,h2,fun hx=>(by rw[hh0] at hx;cases hx),fun _=>⟨by rw[hp0];rfl,h3,?_⟩⟩;refine fin 1 _ (aob hh1).symm fun j hj=>?_
     obtain rfl:j=0:=by omega
     rw[hp0];show [aW .i64 key,.i .i64 vv]=prR (nth (ES [] key vv) 0);rfl
    all_goals exact ⟨r0,q1,h2,fun hb=>yes hb,fun hb=>⟨hup,h3,no hb⟩⟩
  ·exact h.elim
 ·exact h.elim
theorem aq8(stop:Nat->List Nat->Bool):BA aB (XV zW W7 RY stop):=XV.WI (fun g F h=>by
  unfold RY at h;split at h
  ·cases h;exact fun H w A8 args φ _ _ _ h=>h.elim
  ·cases h) fun g h=>by
 unfold RY at h;split at h;all_goals first|(cases h;done) |kernel_rfl
theorem avw:Ar aB (AZ W7) 186 anZ:=by
 refine FN (C:=XV zW W7 RY Am) (zy _ _) (fn:=zB) (by kernel_rfl) (by kernel_rfl) fun H w A8 args φ hrep h=>?_
 have hn:zB.ntmps=36:=by kernel_rfl
 unfold anZ at h;split at h
 ·rename_i g
  split at h
  ·rename_i n g1 m g2 h0 h1
   obtain ⟨hr,hφ⟩:=h;match args,hrep with
   |[v],⟨hv,_⟩=>
    refine ⟨[.sl 1 2 (AU [[.sl 2 n g1],[.sl 2 m g2]])],⟨Es hv fun j hj=>?_,trivial⟩,L0,Hl (zy _ _) (aq8 _) (hold:=Bh) (m:=300) (n:=400) (ts:=[]) ?_⟩
    ·have:j=0\/j=1:=by omega
     rcases this with rfl|rfl
     ·rw[h0];rfl
     ·rw[h1];rfl
    ·rw[hn,a107 zW W7 n m g1 g2]
     have hr:zW.room (n+m) 16=aC:=hr;obtain ⟨hr1,hr2⟩:=Fg hr;rw[maxLen_eq] at hr2;have e0:zW.add .i64 (ah 0) (zW.AO n)=(n:Int):=by
      rw[Dj,Az];show aN.wrap (0+(n:Int))=n;rw[Int.zero_add];exact BL (by omega) (by omega)
     have e1:zW.add .i64 (n:Int) (zW.AO m)=((n+m:Nat):Int):=by
      rw[Dj,Az,BL (by omega) (by omega)];omega
     rw[e0,e1];have ng (k:Nat):zW.lt (k:Int) (ah 0)=ak:=by simp[Ad]
     have r0:zW.room (zW.addN 0 n) 16=aC:=by rw[Qj];exact KO hr (Nat.le_add_right n m)
     have r1:zW.room (zW.addN (zW.addN 0 n) m) 16=aC:=by rw[Qj];exact hr
     have le:zW.le (ah 0) ((n+m:Nat):Int)=aC:=by simp[Df];omega
     have fin:=BH (φ:=φ) (s:=.os 272 2 (zW.addN (zW.addN 0 n) m) (zW.snoc (zW.snoc (fun (x:Nat)=>[]) 0 g1) (zW.addN 0 n) g2)) (s':=.sl 2 (NU n m) (adB g1 n g2)) (.inr ⟨rfl,by rw[Qj];rfl,fun j hj=>by rw[Qj,Qk];rfl⟩);exact ⟨fun _=>⟨rfl,fun h=>(by rw[ng] at h;cases h),fun _=>⟨fun _=>⟨rfl,fun h=>(by rw[ng] at h;cases h),fun _=>⟨fun h=>(by cases h),fun _=>⟨le,hr,fun _=>⟨rfl,r0,fun _=>⟨rfl,r1,fun h=>(by cases h),fun _=>fin hφ⟩,fun h=>(by cases h)⟩,fun h=>(by cases h)⟩⟩⟩,fun h=>(by cases h)⟩⟩,fun h=>(by cases h)⟩
  ·exact h.elim
 ·exact h.elim
end Go.Proofs
namespace Go.Pl
open Go Go.Sx Go.Proofs
def J9(op:Int)(b:Nat)(l:Nat->List Sh):Bool:=!decide (LG op=4)||(Hq b l&&Bo (b+1) 16)
end Go.Pl
namespace Go.Proofs
open Go Go.Sx Go.Pl
theorem asR:∀g F,EP g=ay F->Ar aB (AZ W7) g F:=fun g F h=>by
 unfold EP at h;split at h
 ·cases h;exact ar8
 ·cases h;exact avt
 ·cases h;exact avw
 ·cases h
theorem ako(stop:Nat->List Nat->Bool):BA aB (C7 zW W7 EP stop):=lS asR fun g h=>by
 unfold EP at h;split at h;all_goals first|(cases h;done) |kernel_rfl
theorem adC{b:Nat}{l:Nat->List Sh}(h:Hq b l=aC)(key:Int):QL b (zX (zZ (α:=Pr) l)) key=LJ (lst Pr b l) key/\O4 b (zX (zZ (α:=Pr) l)) key=KQ (lst Pr b l) key:=by
 have e:lst Pr b (zX (zZ (α:=Pr) l))=lst Pr b l:=by rw[RQ];rfl
 obtain ⟨h1,h2,h3⟩:=Hr.1 h;refine ⟨by unfold QL LJ Gg;rw[e],?_⟩;rw[an3 (by rw[e];exact h3),e]
theorem avx:Ar aB (AZ W7) 183 an8:=by
 refine DU (C:=C7 zW W7 EP Ap) (dw _ _) (ako _) (m:=300) (n:=400) (L:=L0) (fn:=zC) (by kernel_rfl) (by kernel_rfl) fun H w A8 args φ hrep h=>?_
 have hn:zC.ntmps=20:=by kernel_rfl
 unfold an8 at h;split at h
 ·rename_i x y s2 s3 u t
  split at h
  ·rename_i a hh b l key vv hs2 hs hu ht
   obtain ⟨h1,h2,hφ⟩:=h;match args,hrep with
   |[v,u1,u2],⟨hv,r1,r2,_⟩=>
    obtain ⟨q1,q2⟩:=Sl h1;obtain ⟨e1,e2⟩:=adC h1 key;refine ⟨[.agg [.i .i64 x,.i .i64 y,.sl 1 a hh,.sl 2 b (zX (zZ (α:=Pr) l))],.i .i64 key,.i .i64 vv],⟨Sj hs2 hs (Hr.1 h1).1 hv,Ej hu r1,Ej ht r2,trivial⟩,?_⟩;rw[hn,avq zW W7 x y a b hh (zZ l) key vv,e1,e2];exact ⟨q1,h2,BH (s':=.Ak [.agg [.i .i64 x,.i .i64 y,.sl 1 a hh,.sl 2 b l],.i .i64 (LJ (lst Pr b l) key),.i .i64 (KQ (lst Pr b l) key)]) ⟨⟨rfl,rfl,.inr ⟨rfl,rfl,fun _ _=>rfl⟩,.inr ⟨rfl,rfl,fun j hj=>(JB (Hr.1 h1).1 j hj).symm⟩,trivial⟩,rfl,rfl,trivial⟩ hφ⟩
  ·exact h.elim
 ·exact h.elim
theorem avy:Ar aB (AZ W7) 185 aoa:=by
 refine DU (C:=C7 zW W7 EP Ap) (dw _ _) (ako _) (m:=600) (n:=800) (L:=L0) (fn:=zD) (by kernel_rfl) (by kernel_rfl) fun H w A8 args φ hrep h=>?_
 have hn:zD.ntmps=41:=by kernel_rfl
 unfold aoa at h;split at h
 ·rename_i x y s2 s3 u t
  split at h
  ·rename_i a hh b l key vv hs2 hs hu ht
   obtain ⟨h1,h2,h3,hφ⟩:=h;match args,hrep with
   |[v,u1,u2],⟨hv,r1,r2,_⟩=>
    obtain ⟨q1,q2⟩:=Sl h1;obtain ⟨e1,e2⟩:=adC h1 key;obtain ⟨w1,w2,w3⟩:=Hr.1 h1;refine ⟨[.agg [.i .i64 x,.i .i64 y,.sl 1 a hh,.sl 2 b (zX (zZ (α:=Pr) l))],.i .i64 key,.i .i64 vv],⟨Sj hs2 hs w1 hv,Ej hu r1,Ej ht r2,trivial⟩,?_⟩;have hll:(lst Pr b l).length=b:=E8 b l;have hat:∀j (hj:j<b),nth (lst Pr b l) j=zZ (α:=Pr) l j:=fun j hj=>RP hj
    have e:zW.toN (Bv b l key)=BN (lst Pr b l) key:=rfl;have e1':zW.toN (zW.add .i64 (Bv b l key) (ah 1))=BN (lst Pr b l) key+1:=by
     have:BN (lst Pr b l) key<=b:=by have:=Si (lst Pr b l) key;rw[hll] at this;exact this
     rw[Dj];show (aN.wrap ((BN (lst Pr b l) key:Int)+1)).toNat=_;rw[BL (by omega) (by omega)];omega
    have e1i:Gg b l key=aC->zW.upTo (zW.add .i64 (Bv b l key) (ah 1)) b=aC:=fun hb=>by
     have:=WO h1 hb;rw[Dj];show zW.upTo (aN.wrap ((BN (lst Pr b l) key:Int)+1)) b=aC;rw[BL (by omega) (by omega)];simp[J8];omega
    have hup:zW.upTo (Bv b l key) b=aC:=by
     have:BN (lst Pr b l) key<=b:=by have:=Si (lst Pr b l) key;rw[hll] at this;exact this
     simp[J8,Bv];omega
    rw[hn,avs zW W7 x y a b hh (zZ l) key vv,e1,e2,(q2 key).1,(q2 key).2];have fin (n':Nat) (g':Nat->List Sh) (hn':n'=len (FP (lst Pr b l) key)) (hg:∀j,j<n'->g' j=zX (nth (FP (lst Pr b l) key)) j) :
      up φ (.Ak [.agg [.i .i64 x,.i .i64 y,.sl 1 a hh,.sl 2 n' g'],.i .i64 (LJ (lst Pr b l) key),.i .i64 (KQ (lst Pr b l) key)]):=
     BH (s':=.Ak [.agg [.i .i64 x,.i .i64 y,.sl 1 a hh,.sl 2 (len (FP (lst Pr b l) key)) (zX (nth (FP (lst Pr b l) key)))],.i .i64 (LJ (lst Pr b l) key),.i .i64 (KQ (lst Pr b l) key)]) ⟨⟨rfl,rfl,.inr ⟨rfl,rfl,fun _ _=>rfl⟩,.inr ⟨rfl,hn',hg⟩,trivial⟩,rfl,rfl,trivial⟩ hφ
    have hdl:len (FP (lst Pr b l) key)=if D9 (lst Pr b l) key=aC then b - 1 else b:=by
     show (FP (lst Pr b l) key).length=_;rw[agU w3,hll]
    refine ⟨q1,h2,q1,h2,fun hb=>?_,fun hb=>?_⟩
    ·have avz:=e1i hb
     have hlt:=WO h1 hb;have hb':D9 (lst Pr b l) key=aC:=hb;have rr:Bo (NU (zW.toN (Bv b l key)) (zW.Jp b (zW.toN (zW.add .i64 (Bv b l key) (ah 1))))) 16=aC:=by
      rw[e,e1',abd];exact KO h3 (by show BN (lst Pr b l) key+(b - (BN (lst Pr b l) key+1))<=b+1;omega)
     have last:up φ (.Ak [.agg [.i .i64 x,.i .i64 y,.sl 1 a hh,.sl 2 (NU (zW.toN (Bv b l key)) (zW.Jp b (zW.toN (zW.add .i64 (Bv b l key) (ah 1))))) (adB (zX (zZ (α:=Pr) l)) (zW.toN (Bv b l key)) fun (j:Nat)=>zX (zZ (α:=Pr) l) (zW.addN (zW.toN (zW.add .i64 (Bv b l key) 1)) j))],.i .i64 (LJ (lst Pr b l) key),.i .i64 (KQ (lst Pr b l) key)]):=by
      have e2':zW.toN (zW.add .i64 (Bv b l key) 1)=BN (lst Pr b l) key+1:=e1';rw[e1',e2',e,abd];refine fin _ _ (by rw[hdl,if_pos hb'];show BN (lst Pr b l) key+(b - (BN (lst Pr b l) key+1))=_;omega) fun j hj=>?_
      have hj:j<BN (lst Pr b l) key+(b - (BN (lst Pr b l) key+1)):=hj;obtain ⟨k1,_⟩:=O7 (GR w3) hb';show zW.snoc _ _ _ j=prR (nth (FP (lst Pr b l) key) j);rw[aeW hb',an2 k1 (by rw[hll];omega),Ed];split
      ·rw[hat j (by omega)];rfl
      ·rw[hat (j+1) (by omega),Dl]
       show prR (zZ l (BN (lst Pr b l) key+1+(j - BN (lst Pr b l) key)))=_;rw[show BN (lst Pr b l) key+1+(j - BN (lst Pr b l) key)=j+1 by omega]
     clear hφ fin hat;rw[hup,avz,rr];generalize zW.toN (Bv b l key)=n1 at *;generalize zW.Jp b (zW.toN (zW.add .i64 (Bv b l key) (ah 1)))=n2 at *;repeat' (first|exact rfl|exact trivial|exact last|refine And.intro ?_ ?_)
    ·have hb':D9 (lst Pr b l) key=ak:=hb
     exact fin b _ (by rw[hdl,if_neg (by rw[hb'];simp)]) fun j hj=>by
      show prR (zZ l j)=prR (nth (FP (lst Pr b l) key) j);rw[aeV hb',hat j hj]
  ·exact h.elim
 ·exact h.elim
end Go.Proofs
namespace Go.Sx
section
variable{P:Program}{C:Ctx}{K:Kx}
theorem alA{g:Nat}{td:List It}{c:Core}{stk:List Fr}{R:Hp->Prop}{φ:Sh->Prop}(tm':List SV)(h:∀(H:Mem) (E:Env) (vs:List Value),Ag H E c.tm vs->Ag H E tm' vs)(hgo:Bd P C K g td {c with tm:=tm'} stk R φ):Bd P C K g td c stk R φ:=by
 intro H E w a items ms cs fn hfn st hi hs hx;exact hgo H E w a items ms cs fn hfn ⟨h H E _ st.den,st.hp,st.BJ,st.free,st.gl,st.defers⟩ hi hs hx
theorem agV{H:Mem}{E:Env}{k:IntKind}{n:Int}:∀(i:Nat) {l:List SV} {vs:List Value},l[i]?=ay (.sym k n)->Ag H E l vs->Ag H E (l.set i (.int k n)) vs
 |_,[],_,h,_=>by simp at h |_,_::_,[],_,h=>h.elim |0,x::l,v::vs,h,⟨h1,h2⟩=>by
  simp at h;subst h;exact ⟨h1,h2⟩
 |i+1,x::l,v::vs,h,⟨h1,h2⟩=>⟨h1,agV i (by simpa using h) h2⟩
end
end Go.Sx
namespace Go.Pl
open Go Go.Sx
def JQ(a b:Int):Int:=aN.wrap (a+b)
def NV(h:Nat->List Sh):Nat->List Sh:=fun j=>h (1+j)
def Qp(a:Nat):Nat:=a - 1
def Ug(a:Nat):Int:=if a=0 then 2 else 3
def Qq(a:Nat)(o:Nat->Int):Int:=if a=0 then 0 else o 0
end Go.Pl
namespace Go.Proofs
open Go Go.Sx Go.Pl
def F66:List Sh->Tree Sh
 |[t]=>match AY t with
  |some op=>.leaf (.i .i64 (LG op)) |none=>.fail
 |_=>.fail
def F67:List Sh->Tree Sh
 |[t]=>match AY t with
  |some op=>.leaf (.b (keyed op)) |none=>.fail
 |_=>.fail
def F68:List Sh->Tree Sh
 |[t]=>match AY t with
  |some op=>.leaf (.b (valued op)) |none=>.fail
 |_=>.fail
def F69:List Sh->Tree Sh
 |[t,u,v]=>match AY t,AY u,AY v with
  |some k,ay x,ay y=>.leaf (.b (IQ k x y)) |_,_,_=>.fail
 |_=>.fail
def F94:List Sh->Tree Sh
 |[.agg [.i .i64 x,.i .i64 y,s2,s3],u,t]=>match DV 1 s2,DV 2 s3,AY u,AY t with
  |some (a,h),ay (b,l),ay _,ay _=>.leaf (.Ak [.agg [.i .i64 x,.i .i64 y,.sl 1 a h,.sl 2 b l],.i .i64 3,.i .i64 y]) |_,_,_,_=>.fail
 |_=>.fail
def F95:List Sh->Tree Sh
 |[.agg [.i .i64 x,.i .i64 _,s2,s3],u,t]=>match DV 1 s2,DV 2 s3,AY u,AY t with
  |some (a,h),ay (b,l),ay _,ay v=>.leaf (.Ak [.agg [.i .i64 x,.i .i64 v,.sl 1 a h,.sl 2 b l],.i .i64 1,.i .i64 0]) |_,_,_,_=>.fail
 |_=>.fail
def F96:List Sh->Tree Sh
 |[.agg [.i .i64 x,.i .i64 y,s2,s3],u,t]=>match DV 1 s2,DV 2 s3,AY u,AY t with
  |some (a,h),ay (b,l),ay _,ay v=>.leaf (.Ak [.agg [.i .i64 x,.i .i64 (JQ y v),.sl 1 a h,.sl 2 b l],.i .i64 1,.i .i64 0]) |_,_,_,_=>.fail
 |_=>.fail
def F97:List Sh->Tree Sh
 |[.agg [.i .i64 x,.i .i64 y,s2,s3],u,t]=>match DV 1 s2,DV 2 s3,AY u,AY t with
  |some (a,h),ay (b,l),ay _,ay v=>.need (Bo (a+1) 8) (.leaf (.Ak [.agg [.i .i64 x,.i .i64 y,.sl 1 (a+1) (F6 a h [.i .i64 v]),.sl 2 b l],.i .i64 1,.i .i64 0])) |_,_,_,_=>.fail
 |_=>.fail
def F99:List Sh->Tree Sh
 |[.agg [.i .i64 x,.i .i64 y,s2,s3],u,t]=>match DV 1 s2,DV 2 s3,AY u,AY t with
  |some (a,h),ay (b,l),ay _,ay _=>.need (okB Int a h) (.leaf (.Ak [.agg [.i .i64 x,.i .i64 y,.sl 1 (Qp a) (NV h),.sl 2 b l],.i .i64 (Ug a),.i .i64 (Qq a (zZ h))])) |_,_,_,_=>.fail
 |_=>.fail
def GZ:Nat->Option (List Sh->Tree Sh)
 |102=>ay F66 |151=>ay F67 |152=>ay F68 |153=>ay F69 |173=>ay F94 |174=>ay F95 |175=>ay F96 |176=>ay F97 |178=>ay F99 |179=>ay an9 |183=>ay an8 |185=>ay aoa |_=>aK
def akp:List Nat->List Nat->Bool
 |[],[]=>aC |x::l,y::r=>fC x y&&akp l r |_,_=>ak
def aoc(f:Nat)(ps:List (List Nat))(g:Nat)(td:List It):Bool:=fC g f&&match td with
 | .code r::_=>ps.any (akp r) |_=>ak
def agW:Nat->List It->Bool:=aoc 120 [[0,1,1,1,1]]
def L42(x y:Int)(a b:Nat)(h l:Nat->List Sh)(op k v:Int):Core:={tm:=Gv 88 [(1,.sym .i64 op),(2,.sym .i64 k),(3,.sym .i64 v),(4,.ptr 0 0),(8,.ptr 1 0)],hp:=[(0,.box [.sym .i64 x,.sym .i64 y,.sh (.sl 1 a h),.sh (.sl 2 b l)] 211),(1,.box [.int .i64 0,.int .i64 0,.Aw,.Aw] 211)],nx:=2,lim:=L0,tc:=[]}
def Uh(x y:Int)(a b:Nat)(h l:Nat->List Sh)(n:Int)(k v:Int):Core:={tm:=(L42 x y a b h l n k v).tm.set 1 (.int .i64 n),hp:=(L42 x y a b h l n k v).hp,nx:=2,lim:=L0,tc:=[]}
def Nv:List It:=[bD [0,1,1,1,1],bD [1,1,1,1,1]]
noncomputable def Qr:Nat->Option (List Sh->Tree Sh)
 |119=>ay F33 |116=>ay F35 |95=>ay F41 |77=>ay F49 |96=>ay F50 |121=>ay F54 |117=>ay F56 |_=>aK
def Y3:List It:=[bD [0,1,0,1,1,1],dD 0,bD [1,1,1,1]]
def akq:List It:=bD [0,0,1,0,1,1,1]::Y3
def avA(k:Nat)(gg:Nat->List Sh):Bool->SV
 |true=>.Aw |false=>.sh (.sl 4 k gg)
def WQ(n:Nat)(o:Nat->Oj)(i:Int)(k:Nat)(gg:Nat->List Sh)(v:Bool):Core:={tm:=Gv 38 [(2,.ptr 0 0),(5,.ptr 1 0),(17,.sh (.sl 2 n (zX o))),(18,.sym .i64 (n:Int)),(19,.sym .i64 i)],hp:=[(0,.box [.Aw] 100),(1,.box [avA k gg v] 98)],nx:=2,lim:=L0,tc:=[]}
theorem a25(A:Prim)(W:Wd)(n:Nat)(o:Nat->Oj)(i':Int)(k':Nat)(H9:Nat->List Sh):AQ (C7 A W Qr Ap) Bh 300 400 75 [.code []] (Aa 38 [.sl 2 n (zX o)] L0) [] [⟨75,Y3,WQ n o i' k' H9 aC,[]⟩]=aH (okB Oj n (zX o)) (aH (Qm n (zZ (zX o))) (aF (RU n) (aA (aP (cZ [bH [aG 0 0 fun (x:Nat)=>[]],aZ 6 329]))) (aF (Ns n (zZ (zX o))) (aA (bJ 0 [aQ (aG 2 n (zX o)) (aG 2 n (zX o)),aj (A.AO n) (ah n),aj (ah 0) i'])) (aA (aP (cZ [bH [aG 0 0 fun (x:Nat)=>[]],Sh.CS 109 (Sh.pt [aW .i64 (ah (KP n (zZ (zX o)))),aZ 7 329])])))))):=by kernel_rfl
theorem b25(A:Prim)(W:Wd)(n:Nat)(o:Nat->Oj)(i i':Int)(k k':Nat)(gg H9:Nat->List Sh):AQ (C7 A W Qr Ap) Bh 300 400 75 akq (WQ n o i k gg ak) [] [⟨75,Y3,WQ n o i' k' H9 ak,[]⟩]=aF (A.lt i (ah n)) (aH (A.inB i n) (aH (CQ (o (A.toN i)).kind) (aF (EO (o (A.toN i)).kind (o (A.toN i)).init) (aA (aP (cZ [bH [aG 0 0 fun (x:Nat)=>[]],aZ 7 329]))) (aH (Bo k.succ 64) (aA (bJ 0 [aQ (aG 2 n (zX o)) (aG 2 n (zX o)),aj (ah n) (ah n),aj (A.add .i64 i (ah 1)) i',aQ (aG 4 k.succ (F6 k gg [aW .i64 (o (A.toN i)).kind,aW .i64 (o (A.toN i)).init,aG 1 0 noI,aG 2 0 noP])) (aG 4 k' H9)])))))) (aA (aP (cZ [bH [aG 4 k gg],jC bI]))):=by kernel_rfl
theorem c25(A:Prim)(W:Wd)(n:Nat)(o:Nat->Oj)(i i':Int)(k k':Nat)(gg H9:Nat->List Sh):AQ (C7 A W Qr Ap) Bh 300 400 75 akq (WQ n o i k gg aC) [] [⟨75,Y3,WQ n o i' k' H9 ak,[]⟩]=aF (A.lt i (ah n)) (aH (A.inB i n) (aH (CQ (o (A.toN i)).kind) (aF (EO (o (A.toN i)).kind (o (A.toN i)).init) (aA (aP (cZ [bH [aG 0 0 fun (x:Nat)=>[]],aZ 7 329]))) (aH (Bo 1 64) (aA (bJ 0 [aQ (aG 2 n (zX o)) (aG 2 n (zX o)),aj (ah n) (ah n),aj (A.add .i64 i (ah 1)) i',aQ (aG 4 1 (F6 0 (fun (x:Nat)=>[]) [aW .i64 (o (A.toN i)).kind,aW .i64 (o (A.toN i)).init,aG 1 0 noI,aG 2 0 noP])) (aG 4 k' H9)])))))) (aA (aP (cZ [bH [aG 0 0 fun (x:Nat)=>[]],jC bI]))):=by kernel_rfl
theorem a94(A:Prim)(W:Wd)(x y:Int)(a b:Nat)(h l:Nat->List Sh)(k v:Int):AQ (C7 A W Dt Ap) Bh 300 400 173 [.code []] (Aa 12 [.agg [.i .i64 x,.i .i64 y,.sl 1 a h,.sl 2 b l],.i .i64 k,.i .i64 v] L0) [] []=aA (aP (cZ [bH [aW .i64 x,aW .i64 y,aG 1 a h,aG 2 b l],aW .i64 (ah 3),aW .i64 y])):=by kernel_rfl
theorem a95(A:Prim)(W:Wd)(x y:Int)(a b:Nat)(h l:Nat->List Sh)(k v:Int):AQ (C7 A W Dt Ap) Bh 300 400 174 [.code []] (Aa 12 [.agg [.i .i64 x,.i .i64 y,.sl 1 a h,.sl 2 b l],.i .i64 k,.i .i64 v] L0) [] []=aA (aP (cZ [bH [aW .i64 x,aW .i64 v,aG 1 a h,aG 2 b l],aW .i64 (ah 1),aW .i64 (ah 0)])):=by kernel_rfl
theorem a96(A:Prim)(W:Wd)(x y:Int)(a b:Nat)(h l:Nat->List Sh)(k v:Int):AQ (C7 A W Dt Ap) Bh 300 400 175 [.code []] (Aa 15 [.agg [.i .i64 x,.i .i64 y,.sl 1 a h,.sl 2 b l],.i .i64 k,.i .i64 v] L0) [] []=aA (aP (cZ [bH [aW .i64 x,aW .i64 (A.add .i64 y v),aG 1 a h,aG 2 b l],aW .i64 (ah 1),aW .i64 (ah 0)])):=by kernel_rfl
theorem a97(A:Prim)(W:Wd)(x y:Int)(a b:Nat)(h l:Nat->List Sh)(k v:Int):AQ (C7 A W Dt Ap) Bh 300 400 176 [.code []] (Aa 17 [.agg [.i .i64 x,.i .i64 y,.sl 1 a h,.sl 2 b l],.i .i64 k,.i .i64 v] L0) [] []=aF (A.Z7 a 0) ((aA (aP (cZ [bH [aW .i64 x,aW .i64 y,jo 3 1 1 (AU [[aW .i64 v]]),aG 2 b l],aW .i64 (ah 1),aW .i64 (ah 0)]))).both (aH (A.room (A.addN 0 a) 8) (aH (A.room (A.addN (A.addN 0 a) 1) 8) (aA (aP (cZ [bH [aW .i64 x,aW .i64 y,jo 3 1 (A.addN (A.addN 0 a) 1) (A.snoc (A.snoc (AU []) 0 h) (A.addN 0 a) (AU [[aW .i64 v]])),aG 2 b l],aW .i64 (ah 1),aW .i64 (ah 0)])))))) (aH (A.room (A.addN 0 a) 8) (aH (A.room (A.addN (A.addN 0 a) 1) 8) (aA (aP (cZ [bH [aW .i64 x,aW .i64 y,jo 3 1 (A.addN (A.addN 0 a) 1) (A.snoc (A.snoc (AU []) 0 h) (A.addN 0 a) (AU [[aW .i64 v]])),aG 2 b l],aW .i64 (ah 1),aW .i64 (ah 0)]))))):=by kernel_rfl
theorem a99(A:Prim)(W:Wd)(x y:Int)(a b:Nat)(o:Nat->Int)(l:Nat->List Sh)(k v:Int):AQ (C7 A W Dt Ap) Bh 300 400 178 [.code []] (Aa 25 [.agg [.i .i64 x,.i .i64 y,.sl 1 a (zX o),.sl 2 b l],.i .i64 k,.i .i64 v] L0) [] []=aF (A.eq (A.AO a) (ah 0)) (aA (aP (cZ [bH [aW .i64 x,aW .i64 y,aG 1 a (zX o),aG 2 b l],aW .i64 (ah 2),aW .i64 (ah 0)]))) (aH (A.inB (ah 0) a) (aH (A.upTo (ah 1) a) (aA (aP (cZ [bH [aW .i64 x,aW .i64 y,aG 1 (A.Jp a 1) fun (j:Nat)=>zX o (A.addN 1 j),aG 2 b l],aW .i64 (ah 3),aW .i64 (o 0)]))))):=by kernel_rfl
theorem a42(A:Prim)(W:Wd)(x y:Int)(a b:Nat)(h l:Nat->List Sh)(op k v:Int):arZ (C7 A W GZ Ap) agW 300 400 120 [.code []] (Aa 88 [.agg [.i .i64 x,.i .i64 y,.sl 1 a h,.sl 2 b l],.i .i64 op,.i .i64 k,.i .i64 v] L0) [] [⟨120,Nv,L42 x y a b h l op k v,[]⟩]=aF (A.eq x (ah 0)) (aA (aP (cZ [bH [aW .i64 (ah 0),aW .i64 (ah 0),aG 0 0 fun (x:Nat)=>[],aG 0 0 fun (x:Nat)=>[]],aW .i64 (ah 0),aW .i64 (ah 0),aZ 8 329]))) (aF (A.nt (A.eq (LG op) x)) (aA (aP (cZ [bH [aW .i64 (ah 0),aW .i64 (ah 0),aG 0 0 fun (x:Nat)=>[],aG 0 0 fun (x:Nat)=>[]],aW .i64 (ah 0),aW .i64 (ah 0),aZ 8 329]))) (aF (A.nt (A.eq k (ah 0))) (aF (A.nt (keyed op)) (aA (aP (cZ [bH [aW .i64 (ah 0),aW .i64 (ah 0),aG 0 0 fun (x:Nat)=>[],aG 0 0 fun (x:Nat)=>[]],aW .i64 (ah 0),aW .i64 (ah 0),aZ 15 329]))) (aF (A.lt k (ah 0)) (aA (aP (cZ [bH [aW .i64 (ah 0),aW .i64 (ah 0),aG 0 0 fun (x:Nat)=>[],aG 0 0 fun (x:Nat)=>[]],aW .i64 (ah 0),aW .i64 (ah 0),aZ 15 329]))) (aF (A.lt (ah 1000) k) (aA (aP (cZ [bH [aW .i64 (ah 0),aW .i64 (ah 0),aG 0 0 fun (x:Nat)=>[],aG 0 0 fun (x:Nat)=>[]],aW .i64 (ah 0),aW .i64 (ah 0),aZ 15 329]))) (aF (A.nt (A.eq v (ah 0))) (aF (A.nt (valued op)) (aA (aP (cZ [bH [aW .i64 (ah 0),aW .i64 (ah 0),aG 0 0 fun (x:Nat)=>[],aG 0 0 fun (x:Nat)=>[]],aW .i64 (ah 0),aW .i64 (ah 0),aZ 15 329]))) (aF (A.lt v (fG 999999999)) (aA (aP (cZ [bH [aW .i64 (ah 0),aW .i64 (ah 0),aG 0 0 fun (x:Nat)=>[],aG 0 0 fun (x:Nat)=>[]],aW .i64 (ah 0),aW .i64 (ah 0),aZ 15 329]))) (aF (A.lt (ah 1000000000) v) (aA (aP (cZ [bH [aW .i64 (ah 0),aW .i64 (ah 0),aG 0 0 fun (x:Nat)=>[],aG 0 0 fun (x:Nat)=>[]],aW .i64 (ah 0),aW .i64 (ah 0),aZ 15 329]))) (aF (A.eq op (ah 3)) (aF (IQ x (ah 0) (A.add .i64 y v)) (aA (aP (cZ [bH [aW .i64 (ah 0),aW .i64 (ah 0),aG 0 0 fun (x:Nat)=>[],aG 0 0 fun (x:Nat)=>[]],aW .i64 (ah 0),aW .i64 (ah 0),aZ 15 329]))) (aA (bJ 0 [aj op op,aj k k,aj v v,aj x x,aj y y,aQ (aG 1 a h) (aG 1 a h),aQ (aG 2 b l) (aG 2 b l),aj (ah 0) (ah 0),aj (ah 0) (ah 0)]))) (aA (bJ 0 [aj op op,aj k k,aj v v,aj x x,aj y y,aQ (aG 1 a h) (aG 1 a h),aQ (aG 2 b l) (aG 2 b l),aj (ah 0) (ah 0),aj (ah 0) (ah 0)])))))) (aF (A.lt v (fG 999999999)) (aA (aP (cZ [bH [aW .i64 (ah 0),aW .i64 (ah 0),aG 0 0 fun (x:Nat)=>[],aG 0 0 fun (x:Nat)=>[]],aW .i64 (ah 0),aW .i64 (ah 0),aZ 15 329]))) (aF (A.lt (ah 1000000000) v) (aA (aP (cZ [bH [aW .i64 (ah 0),aW .i64 (ah 0),aG 0 0 fun (x:Nat)=>[],aG 0 0 fun (x:Nat)=>[]],aW .i64 (ah 0),aW .i64 (ah 0),aZ 15 329]))) (aF (A.eq op (ah 3)) (aF (IQ x (ah 0) (A.add .i64 y v)) (aA (aP (cZ [bH [aW .i64 (ah 0),aW .i64 (ah 0),aG 0 0 fun (x:Nat)=>[],aG 0 0 fun (x:Nat)=>[]],aW .i64 (ah 0),aW .i64 (ah 0),aZ 15 329]))) (aA (bJ 0 [aj op op,aj k k,aj v v,aj x x,aj y y,aQ (aG 1 a h) (aG 1 a h),aQ (aG 2 b l) (aG 2 b l),aj (ah 0) (ah 0),aj (ah 0) (ah 0)]))) (aA (bJ 0 [aj op op,aj k k,aj v v,aj x x,aj y y,aQ (aG 1 a h) (aG 1 a h),aQ (aG 2 b l) (aG 2 b l),aj (ah 0) (ah 0),aj (ah 0) (ah 0)]))))))))) (aF (A.lt k (ah 0)) (aA (aP (cZ [bH [aW .i64 (ah 0),aW .i64 (ah 0),aG 0 0 fun (x:Nat)=>[],aG 0 0 fun (x:Nat)=>[]],aW .i64 (ah 0),aW .i64 (ah 0),aZ 15 329]))) (aF (A.lt (ah 1000) k) (aA (aP (cZ [bH [aW .i64 (ah 0),aW .i64 (ah 0),aG 0 0 fun (x:Nat)=>[],aG 0 0 fun (x:Nat)=>[]],aW .i64 (ah 0),aW .i64 (ah 0),aZ 15 329]))) (aF (A.nt (A.eq v (ah 0))) (aF (A.nt (valued op)) (aA (aP (cZ [bH [aW .i64 (ah 0),aW .i64 (ah 0),aG 0 0 fun (x:Nat)=>[],aG 0 0 fun (x:Nat)=>[]],aW .i64 (ah 0),aW .i64 (ah 0),aZ 15 329]))) (aF (A.lt v (fG 999999999)) (aA (aP (cZ [bH [aW .i64 (ah 0),aW .i64 (ah 0),aG 0 0 fun (x:Nat)=>[],aG 0 0 fun (x:Nat)=>[]],aW .i64 (ah 0),aW .i64 (ah 0),aZ 15 329]))) (aF (A.lt (ah 1000000000) v) (aA (aP (cZ [bH [aW .i64 (ah 0),aW .i64 (ah 0),aG 0 0 fun (x:Nat)=>[],aG 0 0 fun (x:Nat)=>[]],aW .i64 (ah 0),aW .i64 (ah 0),aZ 15 329]))) (aF (A.eq op (ah 3)) (aF (IQ x (ah 0) (A.add .i64 y v)) (aA (aP (cZ [bH [aW .i64 (ah 0),aW .i64 (ah 0),aG 0 0 fun (x:Nat)=>[],aG 0 0 fun (x:Nat)=>[]],aW .i64 (ah 0),aW .i64 (ah 0),aZ 15 329]))) (aA (bJ 0 [aj op op,aj k k,aj v v,aj x x,aj y y,aQ (aG 1 a h) (aG 1 a h),aQ (aG 2 b l) (aG 2 b l),aj (ah 0) (ah 0),aj (ah 0) (ah 0)]))) (aA (bJ 0 [aj op op,aj k k,aj v v,aj x x,aj y y,aQ (aG 1 a h) (aG 1 a h),aQ (aG 2 b l) (aG 2 b l),aj (ah 0) (ah 0),aj (ah 0) (ah 0)])))))) (aF (A.lt v (fG 999999999)) (aA (aP (cZ [bH [aW .i64 (ah 0),aW .i64 (ah 0),aG 0 0 fun (x:Nat)=>[],aG 0 0 fun (x:Nat)=>[]],aW .i64 (ah 0),aW .i64 (ah 0),aZ 15 329]))) (aF (A.lt (ah 1000000000) v) (aA (aP (cZ [bH [aW .i64 (ah 0),aW .i64 (ah 0),aG 0 0 fun (x:Nat)=>[],aG 0 0 fun (x:Nat)=>[]],aW .i64 (ah 0),aW .i64 (ah 0),aZ 15 329]))) (aF (A.eq op (ah 3)) (aF (IQ x (ah 0) (A.add .i64 y v)) (aA (aP (cZ [bH [aW .i64 (ah 0),aW .i64 (ah 0),aG 0 0 fun (x:Nat)=>[],aG 0 0 fun (x:Nat)=>[]],aW .i64 (ah 0),aW .i64 (ah 0),aZ 15 329]))) (aA (bJ 0 [aj op op,aj k k,aj v v,aj x x,aj y y,aQ (aG 1 a h) (aG 1 a h),aQ (aG 2 b l) (aG 2 b l),aj (ah 0) (ah 0),aj (ah 0) (ah 0)]))) (aA (bJ 0 [aj op op,aj k k,aj v v,aj x x,aj y y,aQ (aG 1 a h) (aG 1 a h),aQ (aG 2 b l) (aG 2 b l),aj (ah 0) (ah 0),aj (ah 0) (ah 0)])))))))))):=by kernel_rfl
noncomputable def X9(x y:Int)(a b:Nat)(h l:Nat->List Sh)(k v:Int):List Bj:=[aj k k,aj v v,aj (ah 3) (ah 3),aj y y,aj x x,aj y y,aQ (aG 1 a h) (aG 1 a h),aQ (aG 2 b l) (aG 2 b l),aj x x,aj y y,aQ (aG 1 a h) (aG 1 a h),aQ (aG 2 b l) (aG 2 b l)]
theorem as2(A:Prim)(W:Wd)(x y:Int)(a b:Nat)(h l:Nat->List Sh)(k v:Int):AQ (C7 A W GZ Ap) Bh 300 400 120 Nv (Uh x y a b h l 1 k v) [] []=aS (X9 x y a b h l k v) (aS (X9 x y a b h l k v) (aS (X9 x y a b h l k v) (aA (aP (cZ [bH [aW .i64 x,aW .i64 y,aG 1 a h,aG 2 b l],aW .i64 (ah 3),aW .i64 y,jC bI]))))):=by kernel_rfl
noncomputable def Ya(x y:Int)(a b:Nat)(h l:Nat->List Sh)(k v:Int):List Bj:=[aj k k,aj v v,aj (ah 1) (ah 1),aj (ah 0) (ah 0),aj x x,aj y y,aQ (aG 1 a h) (aG 1 a h),aQ (aG 2 b l) (aG 2 b l),aj x x,aj v v,aQ (aG 1 a h) (aG 1 a h),aQ (aG 2 b l) (aG 2 b l)]
theorem as3(A:Prim)(W:Wd)(x y:Int)(a b:Nat)(h l:Nat->List Sh)(k v:Int):AQ (C7 A W GZ Ap) Bh 300 400 120 Nv (Uh x y a b h l 2 k v) [] []=aS (Ya x y a b h l k v) (aS (Ya x y a b h l k v) (aS (Ya x y a b h l k v) (aA (aP (cZ [bH [aW .i64 x,aW .i64 v,aG 1 a h,aG 2 b l],aW .i64 (ah 1),aW .i64 (ah 0),jC bI]))))):=by kernel_rfl
noncomputable def Yb(x y:Int)(a b:Nat)(h l:Nat->List Sh)(k v:Int):List Bj:=[aj k k,aj v v,aj (ah 1) (ah 1),aj (ah 0) (ah 0),aj x x,aj y y,aQ (aG 1 a h) (aG 1 a h),aQ (aG 2 b l) (aG 2 b l),aj x x,aj (JQ y v) (JQ y v),aQ (aG 1 a h) (aG 1 a h),aQ (aG 2 b l) (aG 2 b l)]
theorem as4(A:Prim)(W:Wd)(x y:Int)(a b:Nat)(h l:Nat->List Sh)(k v:Int):AQ (C7 A W GZ Ap) Bh 300 400 120 Nv (Uh x y a b h l 3 k v) [] []=aS (Yb x y a b h l k v) (aS (Yb x y a b h l k v) (aS (Yb x y a b h l k v) (aA (aP (cZ [bH [aW .i64 x,aW .i64 (JQ y v),aG 1 a h,aG 2 b l],aW .i64 (ah 1),aW .i64 (ah 0),jC bI]))))):=by kernel_rfl
noncomputable def Yc(x y:Int)(a b:Nat)(h l:Nat->List Sh)(k v:Int):List Bj:=[aj k k,aj v v,aj (ah 3) (ah 3),aj y y,aj x x,aj y y,aQ (aG 1 a h) (aG 1 a h),aQ (aG 2 b l) (aG 2 b l),aj x x,aj y y,aQ (aG 1 a h) (aG 1 a h),aQ (aG 2 b l) (aG 2 b l)]
theorem as5(A:Prim)(W:Wd)(x y:Int)(a b:Nat)(h l:Nat->List Sh)(k v:Int):AQ (C7 A W GZ Ap) Bh 300 400 120 Nv (Uh x y a b h l 4 k v) [] []=aS (Yc x y a b h l k v) (aS (Yc x y a b h l k v) (aS (Yc x y a b h l k v) (aA (aP (cZ [bH [aW .i64 x,aW .i64 y,aG 1 a h,aG 2 b l],aW .i64 (ah 3),aW .i64 y,jC bI]))))):=by kernel_rfl
noncomputable def Yd(x y:Int)(a b:Nat)(h l:Nat->List Sh)(k v:Int):List Bj:=[aj k k,aj v v,aj (ah 1) (ah 1),aj (ah 0) (ah 0),aj x x,aj y y,aQ (aG 1 a h) (aG 1 a h),aQ (aG 2 b l) (aG 2 b l),aj x x,aj y y,aQ (aG 1 a.succ (F6 a h [aW .i64 v])) (aG 1 a.succ (F6 a h [aW .i64 v])),aQ (aG 2 b l) (aG 2 b l)]
theorem as6(A:Prim)(W:Wd)(x y:Int)(a b:Nat)(h l:Nat->List Sh)(k v:Int):AQ (C7 A W GZ Ap) Bh 300 400 120 Nv (Uh x y a b h l 5 k v) [] []=aH (Bo a.succ 8) (aH (Bo a.succ 8) (aS (Yd x y a b h l k v) (aH (Bo a.succ 8) (aS (Yd x y a b h l k v) (aH (Bo a.succ 8) (aS (Yd x y a b h l k v) (aA (aP (cZ [bH [aW .i64 x,aW .i64 y,aG 1 a.succ (F6 a h [aW .i64 v]),aG 2 b l],aW .i64 (ah 1),aW .i64 (ah 0),jC bI]))))))))):=by kernel_rfl
noncomputable def Ye(x y:Int)(a b:Nat)(h l:Nat->List Sh)(k v:Int):List Bj:=[aj k k,aj v v,aj (Ug a) (Ug a),aj (Qq a (zZ h)) (Qq a (zZ h)),aj x x,aj y y,aQ (aG 1 a h) (aG 1 a h),aQ (aG 2 b l) (aG 2 b l),aj x x,aj y y,aQ (aG 1 (Qp a) (NV h)) (aG 1 (Qp a) (NV h)),aQ (aG 2 b l) (aG 2 b l)]
theorem as7(A:Prim)(W:Wd)(x y:Int)(a b:Nat)(h l:Nat->List Sh)(k v:Int):AQ (C7 A W GZ Ap) Bh 300 400 120 Nv (Uh x y a b h l 6 k v) [] []=aH (okB Int a h) (aH (okB Int a h) (aS (Ye x y a b h l k v) (aH (okB Int a h) (aS (Ye x y a b h l k v) (aH (okB Int a h) (aS (Ye x y a b h l k v) (aA (aP (cZ [bH [aW .i64 x,aW .i64 y,aG 1 (Qp a) (NV h),aG 2 b l],aW .i64 (Ug a),aW .i64 (Qq a (zZ h)),jC bI]))))))))):=by kernel_rfl
noncomputable def Yf(x y:Int)(a b:Nat)(h:Nat->List Sh)(p:Nat->Pr)(k v:Int):List Bj:=[aj k k,aj v v,aj (ah 1) (ah 1),aj (ah 0) (ah 0),aj x x,aj y y,aQ (aG 1 a h) (aG 1 a h),aQ (aG 2 b (zX p)) (aG 2 b (zX p)),aj x x,aj y y,aQ (aG 1 a h) (aG 1 a h),aQ (aG 2 (len (ES (lst Pr b (zX p)) k v)) (zX (nth (ES (lst Pr b (zX p)) k v)))) (aG 2 (len (ES (lst Pr b (zX p)) k v)) (zX (nth (ES (lst Pr b (zX p)) k v))))]
theorem as8(A:Prim)(W:Wd)(x y:Int)(a b:Nat)(h:Nat->List Sh)(p:Nat->Pr)(k v:Int):AQ (C7 A W GZ Ap) Bh 300 400 120 Nv (Uh x y a b h (zX p) 7 k v) [] []=aH (Hq b (zX p)) (aH (En k) (aH (Bo b.succ 16) (aH (Hq b (zX p)) (aH (En k) (aH (Bo b.succ 16) (aS (Yf x y a b h p k v) (aH (Hq b (zX p)) (aH (En k) (aH (Bo b.succ 16) (aS (Yf x y a b h p k v) (aH (Hq b (zX p)) (aH (En k) (aH (Bo b.succ 16) (aS (Yf x y a b h p k v) (aA (aP (cZ [bH [aW .i64 x,aW .i64 y,aG 1 a h,aG 2 (len (ES (lst Pr b (zX p)) k v)) (zX (nth (ES (lst Pr b (zX p)) k v)))],aW .i64 (ah 1),aW .i64 (ah 0),jC bI]))))))))))))))))):=by kernel_rfl
noncomputable def Yg(x y:Int)(a b:Nat)(h:Nat->List Sh)(p:Nat->Pr)(k v:Int):List Bj:=[aj k k,aj v v,aj (LJ (lst Pr b (zX p)) k) (LJ (lst Pr b (zX p)) k),aj (KQ (lst Pr b (zX p)) k) (KQ (lst Pr b (zX p)) k),aj x x,aj y y,aQ (aG 1 a h) (aG 1 a h),aQ (aG 2 b (zX p)) (aG 2 b (zX p)),aj x x,aj y y,aQ (aG 1 a h) (aG 1 a h),aQ (aG 2 b (zX p)) (aG 2 b (zX p))]
theorem as9(A:Prim)(W:Wd)(x y:Int)(a b:Nat)(h:Nat->List Sh)(p:Nat->Pr)(k v:Int):AQ (C7 A W GZ Ap) Bh 300 400 120 Nv (Uh x y a b h (zX p) 8 k v) [] []=aH (Hq b (zX p)) (aH (En k) (aH (Hq b (zX p)) (aH (En k) (aS (Yg x y a b h p k v) (aH (Hq b (zX p)) (aH (En k) (aS (Yg x y a b h p k v) (aH (Hq b (zX p)) (aH (En k) (aS (Yg x y a b h p k v) (aA (aP (cZ [bH [aW .i64 x,aW .i64 y,aG 1 a h,aG 2 b (zX p)],aW .i64 (LJ (lst Pr b (zX p)) k),aW .i64 (KQ (lst Pr b (zX p)) k),jC bI]))))))))))))):=by kernel_rfl
noncomputable def Yh(x y:Int)(a b:Nat)(h:Nat->List Sh)(p:Nat->Pr)(k v:Int):List Bj:=[aj k k,aj v v,aj (LJ (lst Pr b (zX p)) k) (LJ (lst Pr b (zX p)) k),aj (KQ (lst Pr b (zX p)) k) (KQ (lst Pr b (zX p)) k),aj x x,aj y y,aQ (aG 1 a h) (aG 1 a h),aQ (aG 2 b (zX p)) (aG 2 b (zX p)),aj x x,aj y y,aQ (aG 1 a h) (aG 1 a h),aQ (aG 2 (len (FP (lst Pr b (zX p)) k)) (zX (nth (FP (lst Pr b (zX p)) k)))) (aG 2 (len (FP (lst Pr b (zX p)) k)) (zX (nth (FP (lst Pr b (zX p)) k))))]
theorem ata(A:Prim)(W:Wd)(x y:Int)(a b:Nat)(h:Nat->List Sh)(p:Nat->Pr)(k v:Int):AQ (C7 A W GZ Ap) Bh 300 400 120 Nv (Uh x y a b h (zX p) 9 k v) [] []=aH (Hq b (zX p)) (aH (En k) (aH (Bo b.succ 16) (aH (Hq b (zX p)) (aH (En k) (aH (Bo b.succ 16) (aS (Yh x y a b h p k v) (aH (Hq b (zX p)) (aH (En k) (aH (Bo b.succ 16) (aS (Yh x y a b h p k v) (aH (Hq b (zX p)) (aH (En k) (aH (Bo b.succ 16) (aS (Yh x y a b h p k v) (aA (aP (cZ [bH [aW .i64 x,aW .i64 y,aG 1 a h,aG 2 (len (FP (lst Pr b (zX p)) k)) (zX (nth (FP (lst Pr b (zX p)) k)))],aW .i64 (LJ (lst Pr b (zX p)) k),aW .i64 (KQ (lst Pr b (zX p)) k),jC bI]))))))))))))))))):=by kernel_rfl
end Go.Proofs
namespace Go.Pl
open Go Go.Sx
def Gw(x op:Int):Bool:=decide (x=0) || !decide (LG op=x)
def Ij(x y op k v:Int):Bool:=
 (!decide (k=0) && !keyed op)||decide (k<0)||decide (1000<k)||(!decide (v=0) && !valued op)||decide (v < -1000000000)||decide (1000000000<v)||(decide (op=3)&&IQ x 0 (JQ y v))
end Go.Pl
namespace Go.Proofs
open Go Go.Sx Go.Pl
theorem O66:Ar aB (AZ W7) 102 F66:=by
 refine DU (C:=C7 zW W7 Dt Ap) (dw _ _) (LH _) (m:=300) (n:=400) (L:=L0) (fn:=nM) (by kernel_rfl) (by kernel_rfl) fun H w A8 args φ hrep h=>?_
 have hn:nM.ntmps=17:=by kernel_rfl
 unfold F66 at h;split at h
 ·rename_i t
  split at h
  ·rename_i op ht
   match args,hrep with
   |[v],⟨hv,_⟩=>
    refine ⟨[.i .i64 op],⟨Ej ht hv,trivial⟩,?_⟩;rw[hn,a66 zW W7 op];have key (n:Int) (e:LG op=n):up φ (.i .i64 n):=BH (s':=.i .i64 (LG op)) (by rw[e];rfl) h;have q1:ah 1=1:=rfl;have q2:ah 2=2:=rfl;have q3:ah 3=3:=rfl;have q4:ah 4=4:=rfl;have q5:ah 5=5:=rfl;have q6:ah 6=6:=rfl;have q7:ah 7=7:=rfl;have q8:ah 8=8:=rfl;have q9:ah 9=9:=rfl;have q0:ah 0=0:=rfl;simp only[Aq,q0,q1,q2,q3,q4,q5,q6,q7,q8,q9];refine ⟨fun _=>key _ ?_,fun _=>⟨fun _=>key _ ?_,fun _=>⟨fun _=>key _ ?_,fun _=>⟨fun _=>key _ ?_,fun _=>⟨fun _=>key _ ?_,fun _=>⟨fun _=>key _ ?_,fun _=>⟨fun _=>key _ ?_,fun _=>⟨fun _=>key _ ?_,fun _=>⟨fun _=>key _ ?_,fun _=>key _ ?_⟩⟩⟩⟩⟩⟩⟩⟩⟩;all_goals (simp_all [LG])
  ·exact h.elim
 ·exact h.elim
theorem O67:Ar aB (AZ W7) 151 F67:=by
 refine DU (C:=C7 zW W7 Dt Ap) (dw _ _) (LH _) (m:=300) (n:=400) (L:=L0) (fn:=zF) (by kernel_rfl) (by kernel_rfl) fun H w A8 args φ hrep h=>?_
 have hn:zF.ntmps=13:=by kernel_rfl
 unfold F67 at h;split at h
 ·rename_i t
  split at h
  ·rename_i op ht
   match args,hrep with
   |[v],⟨hv,_⟩=>
    refine ⟨[.i .i64 op],⟨Ej ht hv,trivial⟩,?_⟩;rw[hn,a67 zW W7 op];have key (n:Bool) (e:keyed op=n):up φ (.b n):=BH (s':=.b (keyed op)) (by rw[e];exact .inl rfl) h;have q7:ah 7=7:=rfl;have q8:ah 8=8:=rfl;have q9:ah 9=9:=rfl;simp only[Aq,q7,q8,q9];refine ⟨fun _=>key _ ?_,fun _=>⟨fun _=>key _ ?_,fun _=>key _ ?_⟩⟩;all_goals (simp_all [keyed]<;>rfl)
  ·exact h.elim
 ·exact h.elim
theorem O68:Ar aB (AZ W7) 152 F68:=by
 refine DU (C:=C7 zW W7 Dt Ap) (dw _ _) (LH _) (m:=300) (n:=400) (L:=L0) (fn:=zG) (by kernel_rfl) (by kernel_rfl) fun H w A8 args φ hrep h=>?_
 have hn:zG.ntmps=17:=by kernel_rfl
 unfold F68 at h;split at h
 ·rename_i t
  split at h
  ·rename_i op ht
   match args,hrep with
   |[v],⟨hv,_⟩=>
    refine ⟨[.i .i64 op],⟨Ej ht hv,trivial⟩,?_⟩;rw[hn,a68 zW W7 op];have key (n:Bool) (e:valued op=n):up φ (.b n):=BH (s':=.b (valued op)) (by rw[e];exact .inl rfl) h;have q2:ah 2=2:=rfl;have q3:ah 3=3:=rfl;have q5:ah 5=5:=rfl;have q7:ah 7=7:=rfl;simp only[Aq,q2,q3,q5,q7];refine ⟨fun _=>key _ ?_,fun _=>⟨fun _=>key _ ?_,fun _=>⟨fun _=>key _ ?_,fun _=>key _ ?_⟩⟩⟩;all_goals (simp_all [valued]<;>rfl)
  ·exact h.elim
 ·exact h.elim
theorem O69:Ar aB (AZ W7) 153 F69:=by
 refine DU (C:=C7 zW W7 Dt Ap) (dw _ _) (LH _) (m:=300) (n:=400) (L:=L0) (fn:=zH) (by kernel_rfl) (by kernel_rfl) fun H w A8 args φ hrep h=>?_
 have hn:zH.ntmps=27:=by kernel_rfl
 unfold F69 at h;split at h
 ·rename_i t u v
  split at h
  ·rename_i k x y ht hu hv
   match args,hrep with
   |[v1,v2,v3],⟨r1,r2,r3,_⟩=>
    refine ⟨[.i .i64 k,.i .i64 x,.i .i64 y],⟨Ej ht r1,Ej hu r2,Ej hv r3,trivial⟩,?_⟩;rw[hn,a69 zW W7 k x y];have key (n:Bool) (e:IQ k x y=n):up φ (.b n):=BH (s':=.b (IQ k x y)) (by rw[e];exact .inl rfl) h;have q0:ah 0=0:=rfl;have q2:ah 2=2:=rfl;have q3:ah 1000=1000:=rfl;have q4:ah 1000000000=1000000000:=rfl;have q5:ah 1000000000000000=1000000000000000:=rfl;have q6:fG 999999999=-1000000000:=rfl;have q7:fG 999999999999999=-1000000000000000:=rfl;simp only[Aq,Ad,q0,q2,q3,q4,q5,q6,q7];refine ⟨fun e=>⟨fun _=>key _ ?_,fun _=>⟨fun _=>key _ ?_,fun _=>⟨fun _=>key _ ?_,fun _=>key _ ?_⟩⟩⟩,fun e=>⟨fun _=>key _ ?_,fun _=>⟨fun _=>key _ ?_,fun _=>⟨fun _=>key _ ?_,fun _=>key _ ?_⟩⟩⟩⟩;all_goals (simp_all [IQ]<;>omega)
  ·exact h.elim
 ·exact h.elim
theorem O94:Ar aB (AZ W7) 173 F94:=by
 refine DU (C:=C7 zW W7 Dt Ap) (dw _ _) (LH _) (m:=300) (n:=400) (L:=L0) (fn:=zI) (by kernel_rfl) (by kernel_rfl) fun H w A8 args φ hrep h=>?_
 have hn:zI.ntmps=12:=by kernel_rfl
 unfold F94 at h;split at h
 ·rename_i x y s2 s3 t u
  split at h
  ·rename_i a hh b l p q hs2 hs3 ht hu
   match args,hrep with
   |[v,v1,v2],⟨hv,r1,r2,_⟩=>
    refine ⟨[.agg [.i .i64 x,.i .i64 y,.sl 1 a hh,.sl 2 b l],.i .i64 p,.i .i64 q],⟨Hz hv (fun u hu=>BD hs2 hu) (fun u hu=>BD hs3 hu),Ej ht r1,Ej hu r2,trivial⟩,?_⟩;rw[hn,a94 zW W7 x y a b hh l p q];exact BH (s':=.Ak [.agg [.i .i64 x,.i .i64 y,.sl 1 a hh,.sl 2 b l],.i .i64 3,.i .i64 y]) (by simp[Wk,NG]) h
  ·exact h.elim
 ·exact h.elim
theorem O95:Ar aB (AZ W7) 174 F95:=by
 refine DU (C:=C7 zW W7 Dt Ap) (dw _ _) (LH _) (m:=300) (n:=400) (L:=L0) (fn:=zJ) (by kernel_rfl) (by kernel_rfl) fun H w A8 args φ hrep h=>?_
 have hn:zJ.ntmps=12:=by kernel_rfl
 unfold F95 at h;split at h
 ·rename_i x y s2 s3 t u
  split at h
  ·rename_i a hh b l p q hs2 hs3 ht hu
   match args,hrep with
   |[v,v1,v2],⟨hv,r1,r2,_⟩=>
    refine ⟨[.agg [.i .i64 x,.i .i64 y,.sl 1 a hh,.sl 2 b l],.i .i64 p,.i .i64 q],⟨Hz hv (fun u hu=>BD hs2 hu) (fun u hu=>BD hs3 hu),Ej ht r1,Ej hu r2,trivial⟩,?_⟩;rw[hn,a95 zW W7 x y a b hh l p q];exact BH (s':=.Ak [.agg [.i .i64 x,.i .i64 q,.sl 1 a hh,.sl 2 b l],.i .i64 1,.i .i64 0]) (by simp[Wk,NG]) h
  ·exact h.elim
 ·exact h.elim
theorem O96:Ar aB (AZ W7) 175 F96:=by
 refine DU (C:=C7 zW W7 Dt Ap) (dw _ _) (LH _) (m:=300) (n:=400) (L:=L0) (fn:=zK) (by kernel_rfl) (by kernel_rfl) fun H w A8 args φ hrep h=>?_
 have hn:zK.ntmps=15:=by kernel_rfl
 unfold F96 at h;split at h
 ·rename_i x y s2 s3 t u
  split at h
  ·rename_i a hh b l p q hs2 hs3 ht hu
   match args,hrep with
   |[v,v1,v2],⟨hv,r1,r2,_⟩=>
    refine ⟨[.agg [.i .i64 x,.i .i64 y,.sl 1 a hh,.sl 2 b l],.i .i64 p,.i .i64 q],⟨Hz hv (fun u hu=>BD hs2 hu) (fun u hu=>BD hs3 hu),Ej ht r1,Ej hu r2,trivial⟩,?_⟩;rw[hn,a96 zW W7 x y a b hh l p q];exact BH (s':=.Ak [.agg [.i .i64 x,.i .i64 (JQ y q),.sl 1 a hh,.sl 2 b l],.i .i64 1,.i .i64 0]) (by simp[Wk,NG];rfl) h
  ·exact h.elim
 ·exact h.elim
theorem O97:Ar aB (AZ W7) 176 F97:=by
 refine DU (C:=C7 zW W7 Dt Ap) (dw _ _) (LH _) (m:=300) (n:=400) (L:=L0) (fn:=zL) (by kernel_rfl) (by kernel_rfl) fun H w A8 args φ hrep h=>?_
 have hn:zL.ntmps=17:=by kernel_rfl
 unfold F97 at h;split at h
 ·rename_i x y s2 s3 t u
  split at h
  ·rename_i a hh b l p q hs2 hs3 ht hu
   obtain ⟨h1,hφ⟩:=h;match args,hrep with
   |[v,v1,v2],⟨hv,r1,r2,_⟩=>
    refine ⟨[.agg [.i .i64 x,.i .i64 y,.sl 1 a hh,.sl 2 b l],.i .i64 p,.i .i64 q],⟨Hz hv (fun u hu=>BD hs2 hu) (fun u hu=>BD hs3 hu),Ej ht r1,Ej hu r2,trivial⟩,?_⟩;have h0:=KO h1 (vK a);rw[hn,a97 zW W7 x y a b hh l p q,Qj,Qk,abg];have fin:up φ (.Ak [.agg [.i .i64 x,.i .i64 y,.os 3 1 (a+1) (zW.snoc hh a (AU [[.i .i64 q]])),.sl 2 b l],.i .i64 (ah 1),.i .i64 (ah 0)]):=
     BH (s':=.Ak [.agg [.i .i64 x,.i .i64 y,.sl 1 (a+1) (F6 a hh [.i .i64 q]),.sl 2 b l],.i .i64 1,.i .i64 0]) ⟨⟨rfl,rfl,.inr ⟨rfl,rfl,adw⟩,.inr ⟨rfl,rfl,fun _ _=>rfl⟩,trivial⟩,rfl,rfl,trivial⟩ hφ
    refine ⟨fun e=>⟨?_,h0,h1,fin⟩,fun _=>⟨h0,h1,fin⟩⟩;have e:a=0:=by have:=of_decide_eq_true (show decide (a<=0)=aC from e);omega
    subst e;exact BH (s':=.Ak [.agg [.i .i64 x,.i .i64 y,.sl 1 (0+1) (F6 0 hh [.i .i64 q]),.sl 2 b l],.i .i64 1,.i .i64 0]) ⟨⟨rfl,rfl,.inr ⟨rfl,rfl,fun j hj=>by
     obtain rfl:j=0:=by omega
     rfl⟩,.inr ⟨rfl,rfl,fun _ _=>rfl⟩,trivial⟩,rfl,rfl,trivial⟩ hφ
  ·exact h.elim
 ·exact h.elim
theorem O99:Ar aB (AZ W7) 178 F99:=by
 refine DU (C:=C7 zW W7 Dt Ap) (dw _ _) (LH _) (m:=300) (n:=400) (L:=L0) (fn:=zM) (by kernel_rfl) (by kernel_rfl) fun H w A8 args φ hrep h=>?_
 have hn:zM.ntmps=25:=by kernel_rfl
 unfold F99 at h;split at h
 ·rename_i x y s2 s3 t u
  split at h
  ·rename_i a hh b l p q hs2 hs3 ht hu
   obtain ⟨h1,hφ⟩:=h;match args,hrep with
   |[v,v1,v2],⟨hv,r1,r2,_⟩=>
    refine ⟨[.agg [.i .i64 x,.i .i64 y,.sl 1 a (zX (zZ (α:=Int) hh)),.sl 2 b l],.i .i64 p,.i .i64 q],⟨Hz hv (fun u hu=>Ei (BD hs2 hu) h1) (fun u hu=>BD hs3 hu),Ej ht r1,Ej hu r2,trivial⟩,?_⟩;have hrow:=JB h1;generalize zZ (α:=Int) hh=o at *;have hφ:φ (.Ak [.agg [.i .i64 x,.i .i64 y,.sl 1 (Qp a) (NV hh),.sl 2 b l],.i .i64 (Ug a),.i .i64 (Qq a o)]):=hφ;rw[hn,a99 zW W7 x y a b o l p q];refine ⟨fun e=>?_,fun e=>?_⟩
    ·have e:a=0:=by simpa[Aq,Az] using e
     subst e;exact BH (s':=.Ak [.agg [.i .i64 x,.i .i64 y,.sl 1 (Qp 0) (NV hh),.sl 2 b l],.i .i64 (Ug 0),.i .i64 (Qq 0 o)]) ⟨⟨rfl,rfl,.inl ⟨rfl,rfl⟩,.inr ⟨rfl,rfl,fun _ _=>rfl⟩,trivial⟩,rfl,rfl,trivial⟩ hφ
    ·have e:¬a=0:=by simpa[Aq,Az] using e
     refine ⟨by simp[Bl];omega,by simp[J8];omega,?_⟩;refine BH (s':=.Ak [.agg [.i .i64 x,.i .i64 y,.sl 1 (Qp a) (NV hh),.sl 2 b l],.i .i64 (Ug a),.i .i64 (Qq a o)]) ⟨⟨rfl,rfl,.inr ⟨rfl,rfl,fun j hj=>?_⟩,.inr ⟨rfl,rfl,fun _ _=>rfl⟩,trivial⟩,?_,?_,trivial⟩ hφ
     ·have hj:j<a - 1:=hj
      show zX o (1+j)=hh (1+j);rw[hrow (1+j) (by omega)];rfl
     ·simp[Wk,Ug,e]
     ·simp[Wk,Qq,e]
  ·exact h.elim
 ·exact h.elim
end Go.Proofs
