/- Own work. -/
import Derived.Test.YthehnhaoiijkhaaGreatDoorO08
import Derived.Conc.LoneSelect
import Derived.KernelRfl
open Int (ofNat)
open And renaming intro->ba
open BitVec renaming ofInt->bS,toNat_and->iP,toNat_ofNat->cB
open Bool renaming true->aj,and_eq_true->al,false->ag,or_eq_true->eT
open Classical renaming propDecidable->aB
open Go.BinOp renaming or->cy,shl->b9
open Go.Conc renaming base->mw
open Go.Frame renaming enter->bY
open Go.IntKind renaming i64->aA
open Go.Proofs.C7 renaming ok->aS,Gh->dZ
open Go.Proofs.Tryz renaming prog->ah,f118->mu,f144->gV,f92->gw,f76->ik,f41->im,f69->io,func69->lK
open Go.Sx renaming Sh->my
open Go.Sx.oC renaming sh->av,int->ac,nat->ap,Ez->aF,get->ax,val->dG,mg->cP
open Go.Sx.rQ renaming ret->ay,at_->aK
open Go.Sx.It renaming code->aH,inBlock->aW
open Go.Sx.Sh renaming mV->aQ,agg->aN,sl->ao,i->az,er->aC,pV->fP,pt->ij,b->bX
open Go.Sx.Tree renaming need->am,node->ak,leaf->ai
open Go.Value renaming nilIface->aI,chan->ck,int->cN
open Int renaming toNat_natCast->bR,ofNat->ab
open Int.ofNat renaming inj->dR
open List renaming range->aE,all_eq_true->be,mem_range->bh,getElem_mem->jF,mem_cons->fj,range_succ->j7,map_append->eU,range_succ_eq_map->gY,map_cons->dI,map_map->iE,map_congr_left->dD,mem_cons_self->bo,mem_cons_of_mem->bi,mem_of_getElem?->bf,mem_iff_getElem->eI,getElem?_eq_some_iff->aT,pairwise_iff_getElem->cS,countP_append->iO,mem_map->bN,mem_flatMap->cj,append_nil->bQ,append_assoc->cQ,length_append->bz
open Nat renaming mul_le_mul_right->bj,shiftLeft_eq->eE,or_lt_two_pow->gq,one_mul->gC,pow_lt_pow_right->cO,eq_of_testBit_eq->iF,testBit_lt_two_pow->ew,lt_of_lt_of_le->da,pow_le_pow_right->dq,lt_of_le_of_lt->jf,mod_eq_of_lt->cu,min_eq_left->gS,shiftRight_eq_div_pow->gO,and_comm->lJ,zero_testBit->j8,beq->bA
open Option renaming some->ae,none->aq
namespace Go.Pl
open Go Go.Sx Go.Proofs
def Pq(s:pO):Bool:=qg s.kind&&qg s.num&&s.q.all qg&&s.ps.all (fun p=>qg p.key&&qg p.val)&&decide (s.q.length<=100000/\s.ps.length<=100000)
def keysB(n:Nat)(d:Nat->pO):Bool:=decide (n<=1000)&&(aE n).all fun j=>Pq (d j)
def Yy(l:List pO):List UInt8:=qJ (l.map keyS) [59,32]
def LK:XH where
 key:=keyS
 join n g sep:=qJ (lst (List UInt8) n g) sep
theorem acs{s:pO}(h:Pq s=aj):SN s.kind s.num (len s.q) (mF (nth s.q)) (len s.ps) (mF (nth s.ps))=aj:=by
 unfold Pq at h;simp only[al,decide_eq_true_eq] at h;obtain ⟨⟨⟨⟨h1,h2⟩,h3⟩,h4⟩,h5⟩:=h;unfold SN;simp only[al,decide_eq_true_eq];refine ⟨⟨⟨⟨⟨⟨rZ _ _,rZ _ _⟩,h1⟩,h2⟩,?_⟩,?_⟩,h5⟩
 ·rw[KF]
  refine be.2 fun j hj=>?_
  have hj:j<s.q.length:=bh.1 hj;simp_all [nth,be,jF]
 ·rw[KF]
  refine be.2 fun j hj=>?_
  have hj:j<s.ps.length:=bh.1 hj;simp_all [nth,be,jF]
theorem aev(s:pO):sQ s.kind s.num (len s.q) (mF (nth s.q)) (len s.ps) (mF (nth s.ps))=s:=by
 show (⟨s.kind,s.num,lst Int s.q.length (mF (nth s.q)),lst Pr s.ps.length (mF (nth s.ps))⟩:pO)=s;rw[BL,BL]
theorem acu{s:pO}(h:Pq s=aj):(zZ s).length<=100001/\∀x∈zZ s,x.length<=50:=by
 unfold Pq at h;simp only[al,decide_eq_true_eq] at h;obtain ⟨⟨⟨⟨h1,h2⟩,h3⟩,h4⟩,h5⟩:=h;unfold zZ;refine ⟨?_,fun x hx=>?_⟩
 ·grind
 ·rcases fj.1 hx with rfl|hx
  ·exact VU _
  ·split at hx
   ·grind [Ba]
   ·split at hx
    ·grind [Ba]
    grind [Yu]
theorem ahs{s:pO}(h:Pq s=aj):(keyS s).length<=6000000:=by
 obtain ⟨h1,h2⟩:=acu h;have h3:=QM (zZ s) [32] h2;grind [zZ,bj,keyS]
theorem acv{l:List pO}(hl:l.length<=1000)(h:∀s∈l,Pq s=aj):yx (qJ (l.map keyS) [59,32])=aj:=by
 have h3:=QM (l.map keyS) [59,32] (m:=6000000) fun x hx=>by
  grind [ahs]
 have h4:(l.map keyS).length*(6000000+[(59:UInt8),32].length)<=1000*6000002:=bj _ (by grind);exact decide_eq_true (by omega)
end Go.Pl
namespace Go.Proofs
open Go Go.Sx Go.Pl
theorem arZ:nG ah (nY W7) 116 (G35 LK):=O35.mono fun H nV args φ hr h=>by
 unfold G35 at h;split at h
 ·split at h
  ·rename_i s2 s3 a hh b l hs2 hs3
   obtain ⟨h1,hφ⟩:=h;simp only[SN,al] at h1;obtain ⟨⟨⟨⟨⟨⟨q1,q2⟩,q3⟩,q4⟩,q5⟩,q6⟩,q7⟩:=h1;simp only[F35,hs2,hs3];exact ⟨q1,q2,q3,q4,q5,q6,q7,hφ⟩
  ·exact h.elim
 ·exact h.elim
theorem ar0:nG ah (nY W7) 117 (G56 LK):=fun H w nV args φ on hg hr h=>by
 unfold G56 at h;split at h
 ·rename_i s0 sep
  split at h
  ·rename_i n g hs
   obtain ⟨h1,hφ⟩:=h;simp only[VY,al] at h1;match args,hr with
   |[v,u],⟨hv,hu,_⟩=>exact O56 H w [.sl 1 n g,.str sep] [v,u] φ on hg ⟨oO hs hv,hu,trivial⟩ ⟨h1.1.1,h1.1.2,h1.2,hφ⟩
  ·exact h.elim
 ·exact h.elim
theorem O64:nG ah (nY W7) 118 F64:=by
 refine rM (C:=C7 mD W7 qN ny) (aS _ _) (CQ _) (m:=300) (n:=400) (L:=L0) (fn:=mu) (by kernel_rfl) (by kernel_rfl) fun H w nV args φ hrep h=>?_
 have hn:mu.ntmps=10:=by kernel_rfl
 unfold F64 at h;split at h
 ·rename_i s0
  split at h
  ·rename_i n g hs
   obtain ⟨h1,hφ⟩:=h;match args,hrep with
   |[v],⟨hv,_⟩=>
    refine ⟨[.agg [.sl 4 n g]],⟨DC hv fun u hu=>oO hs hu,trivial⟩,?_⟩;rw[hn,a64 mD W7 n g,yc,A8,Ed];exact ⟨le0 n,h1,h1,oq (s':=.sl 4 n g) (.inr ⟨rfl,rfl,fun _ _=>rfl⟩) hφ⟩
  ·exact h.elim
 ·exact h.elim
theorem OKs:∀g F,Cm LK g=ae F->nG ah (nY W7) g F:=fun g F h=>by
 unfold Cm at h;grind [arZ,ar0,O64]
theorem acw(stop:Nat->List Nat->Bool):oH ah (C7 mD W7 (Cm LK) stop):=dZ OKs fun g h=>by
 unfold Cm at h;split at h;all_goals first|(cases h;done) |kernel_rfl
theorem nd7:EL Tryz.fns=aj:=by kernel_rfl
noncomputable def F32:List Sh->Tree Sh
 |[.agg [s0]]=>match sD 4 s0 with
  |some (n,g)=>.need (stB n g) (.need (keysB n (sJ n g)) (.leaf (.str (Yy ((aE n).map (sJ n g)))))) |none=>.fail
 |_=>.fail
section
variable{H0:Mem}{w0:World}{φ:Sh->Prop}{n:Nat}{d:Nat->pO}
theorem aga(hn:n<=1000)(hd:∀j,j<n->Pq (d j)=aj)(hφ:φ (.str (Yy ((aE n).map d)))){l:Nat}:∀r k,k+r=n->0<k->
  rE ah (C7 mD W7 (Cm LK) ny) (K0 H0 w0) 144 aq Lj (VZ n d l (k:Int) k (mF (nth (((aE k).map d).map keyS))) ag) (TK l) φ
 |r,k,hkr,h0=>by
  refine EM (fn:=gV) (tb:=af9) (by kernel_rfl) (by kernel_rfl) ?_;refine vJ (aS _ _) (acw _) nd7 (pause:=wF) (m:=300) (n:=800) (ts:=[⟨144,aq,Lj,VZ n d l ((k+1:Nat):Int) (k+1) (mF (nth (((aE (k+1)).map d).map keyS))) ag,TK l⟩]) ?_;refine (congrArg (Hw _) (arY mD W7 LK n d l k (k+1:Nat) k (k+1) (mF (nth (((aE k).map d).map keyS))) (mF (nth (((aE (k+1)).map d).map keyS))))).mpr ?_;rw[AZ];have hlen:(((aE k).map d).map keyS).length=k:=by simp
  simp only[mQ,oJ,pR,qG,wZ,bR,VP];rw[aev (d k)];refine ⟨fun h=>?_,fun h=>?_⟩
  ·have hlt:k<n:=by simp_all
   have hk:=acs (hd k hlt);have hr:mD.room (k+1) 16=aj:=room_le (by omega) (by omega);have hin:decide (0<=(k:Int)/\(k:Int)<(n:Int))=aj:=by simp;omega
   have hw:aA.wrap ((k:Int)+1)=((k+1:Nat):Int):=by grind [pI]
   have hs:∀i,i<k+1->mD.snoc (mF (nth (((aE k).map d).map keyS))) k (nM [[.str (keyS (d k))]]) i=mF (nth (((aE (k+1)).map d).map keyS)) i:=fun i hi=>by
    have:=Gj (((aE k).map d).map keyS) (keyS (d k)) (r:=[[.str (keyS (d k))]]) rfl i (by omega);simp_all [j7,eU]
   have next:∃t:D9,([⟨144,aq,Lj,VZ n d l ((k+1:Nat):Int) (k+1) (mF (nth (((aE (k+1)).map d).map keyS))) ag,TK l⟩]:List D9)[0]?=ae t/\rE ah (C7 mD W7 (Cm LK) ny) (K0 H0 w0) t.g t.r t.td t.c t.stk φ:=by
    match r,hkr with
    |0,hkr=>omega |r+1,hkr=>exact ⟨_,rfl,aga hn hd hφ r (k+1) (by omega) (by omega)⟩
   repeat' (first|exact trivial|exact next|exact hk|exact hr|exact hin|exact hw|exact hs|exact rfl|refine ba ?_ ?_)
  ·have hk:k=n:=by grind
   subst hk;have e:lst (List UInt8) k (mF (nth (((aE k).map d).map keyS)))=((aE k).map d).map keyS:=ZM _ hlen;have hsh:yx (qJ (((aE k).map d).map keyS) [59,32])=aj:=acv (by grind) fun s hs=>by
    grind
   refine ⟨?_,?_⟩
   ·simp only[VY,al]
    grind [rZ,room_le]
   ·show φ (.str (qJ (lst (List UInt8) k (mF (nth (((aE k).map d).map keyS)))) [59,32]))
    rw[e];exact hφ
end
theorem O32:nG ah (nY W7) 92 F32:=by
 refine ane (C:=C7 mD W7 (Cm LK) ny) (aS _ _) (fn:=gw) (by kernel_rfl) (by kernel_rfl) fun H w nV args φ hrep h=>?_
 have hn:gw.ntmps=17:=by kernel_rfl
 unfold F32 at h;split at h
 ·rename_i s0
  split at h
  ·rename_i n g hs
   obtain ⟨h1,h2,hφ⟩:=h;match args,hrep with
   |[v],⟨hv,_⟩=>
    refine ⟨[.agg [.sl 4 n (pz (sJ n g))]],⟨DC hv fun u hu=>sW (oO hs hu) (Hy h1),trivial⟩,L0,?_⟩;generalize sJ n g=d at *;have hφ:φ (.str (Yy ((aE n).map d))):=hφ;simp only[keysB,al,decide_eq_true_eq] at h2;obtain ⟨h2,h3⟩:=h2;have hd:=yh h3;refine vJ (aS _ _) (acw _) nd7 (pause:=wF) (m:=300) (n:=800) (ts:=[⟨92,aq,.code aco::k32,L32 n d,[]⟩]) ?_;rw[hn,a32 mD W7 LK n d,AZ];refine ⟨⟨rfl,trivial⟩,_,rfl,?_⟩;refine Hu (aS _ _) (acw _) (fn:=gw) (uO:=gV) (g2:=144) (caps:=[.ptr 1 0]) (by kernel_rfl) (x:=.tmp 7) (ps:=#[8,9]) (ca:=nP (mX gw) (0::aco)) (cb:=nP (mX gw) (1::aco)) (by kernel_rfl) (by kernel_rfl) (by kernel_rfl) (by kernel_rfl) fun l=>?_
    have hn63:gV.ntmps=20:=by kernel_rfl
    rw[hn63];refine vJ (aS _ _) (acw _) nd7 (pause:=wF) (m:=300) (n:=800) (ts:=[⟨144,aq,Lj,VZ n d l ((0:Nat):Int) 0 noT aj,TK l⟩]) ?_;refine (congrArg (Hw _) (t32 mD W7 LK n d l ((0:Nat):Int) 0 noT)).mpr ?_;rw[AZ];refine ⟨room_le (by omega) (by omega),?_,_,rfl,?_⟩
    ·repeat' (first|exact trivial|exact rfl|exact fun _ _=>rfl|refine ba ?_ ?_)
    refine EM (fn:=gV) (tb:=af9) (by kernel_rfl) (by kernel_rfl) ?_;refine vJ (aS _ _) (acw _) nd7 (pause:=wF) (m:=300) (n:=800) (ts:=[⟨144,aq,Lj,VZ n d l ((1:Nat):Int) 1 (mF (nth (((aE 1).map d).map keyS))) ag,TK l⟩]) ?_;refine (congrArg (Hw _) (arX mD W7 LK n d l ((0:Nat):Int) ((1:Nat):Int) 0 1 noT (mF (nth (((aE 1).map d).map keyS))))).mpr ?_;rw[AZ];simp only[mQ,oJ,pR,qG,wZ,bR];rw[aev (d 0)];refine ⟨fun h=>?_,fun h=>?_⟩
    ·have hlt:0<n:=by simp_all
     have hk:=acs (hd 0 hlt);have hin:decide (0<=((0:Nat):Int)/\((0:Nat):Int)<(n:Int))=aj:=by simp;omega
     have hw:aA.wrap (((0:Nat):Int)+1)=((1:Nat):Int):=by rfl
     have hs:∀i,i<1->nM [[.str (keyS (d 0))]] i=mF (nth (((aE 1).map d).map keyS)) i:=fun i hi=>by
      obtain rfl:i=0:=by omega
      rfl
     have next:∃t:D9,([⟨144,aq,Lj,VZ n d l ((1:Nat):Int) 1 (mF (nth (((aE 1).map d).map keyS))) ag,TK l⟩]:List D9)[0]?=ae t/\rE ah (C7 mD W7 (Cm LK) ny) (K0 H w) t.g t.r t.td t.c t.stk φ:=
      ⟨_,rfl,aga h2 hd hφ (n - 1) 1 (by omega) (by omega)⟩
     repeat' (first|exact trivial|exact next|exact hk|exact hin|exact hw|exact hs|exact rfl|refine ba ?_ ?_)
    ·have:n=0:=by simp_all
     subst this;refine ⟨rfl,hφ⟩
  ·exact h.elim
 ·exact h.elim
end Go.Proofs
namespace Go.Pl
open Go Go.Sx
structure Lb7 where
 op:pO->Int->Int->Int->pO
 r:pO->Int->Int->Int->Int
 g:pO->Int->Int->Int->Int
 key:pO->List UInt8
 join:List (List UInt8)->List UInt8->List UInt8
 at_:Nat->(Nat->List Sh)->Int->pO
def V3(a:Nat):Bool:=oI (a+1) 8
end Go.Pl
namespace Go.Proofs
open Go Go.Sx Go.Pl
noncomputable def G33(L:Lb7):List Sh->Tree Sh
 |[.agg [s0],t]=>match sD 4 s0,nR t with
  |some (n,g),ae i=>.need (stB n g) (.leaf (.mV [.agg [.i .i64 (L.at_ n g i).kind,.i .i64 (L.at_ n g i).num,.sl 1 (len (L.at_ n g i).q) (mF (nth (L.at_ n g i).q)),.sl 2 (len (L.at_ n g i).ps) (mF (nth (L.at_ n g i).ps))],.b (zY n i)])) |_,_=>.fail
 |_=>.fail
def G42(L:Lb7):List Sh->Tree Sh
 |[.agg [.i .i64 x,.i .i64 y,s2,s3],t,u,v]=>match sD 1 s2,sD 2 s3,nR t,nR u,nR v with
  |some (a,h),ae (b,l),ae op,ae k,ae v=>.need (okB Int a h) (.need (okB Pr b l) (.need (V3 a) (.node (xk x op) (.leaf (.mV [.agg [.i .i64 0,.i .i64 0,.sl 1 0 noI,.sl 2 0 noP],.i .i64 0,.i .i64 0,.er 8 329])) (.node (yt x y op k v) (.leaf (.mV [.agg [.i .i64 0,.i .i64 0,.sl 1 0 noI,.sl 2 0 noP],.i .i64 0,.i .i64 0,.er 15 329]))
    (.need (Bc op b l) (.leaf (.mV [.agg [.i .i64 (L.op (sQ x y a h b l) op k v).kind,.i .i64 (L.op (sQ x y a h b l) op k v).num,.sl 1 (len (L.op (sQ x y a h b l) op k v).q) (mF (nth (L.op (sQ x y a h b l) op k v).q)),.sl 2 (len (L.op (sQ x y a h b l) op k v).ps) (mF (nth (L.op (sQ x y a h b l) op k v).ps))],.i .i64 (L.r (sQ x y a h b l) op k v),.i .i64 (L.g (sQ x y a h b l) op k v),.v .nilIface])))))))
  |_,_,_,_,_=>.fail
 |_=>.fail
noncomputable def QZ(L:Lb7):Nat->Option (List Sh->Tree Sh)
 |119=>ae (G33 L) |120=>ae (G42 L) |121=>ae F54 |_=>aq
theorem a29(A:Prim)(W:Wd)(L:Lb7)(n:Nat)(d:Nat->pO)(i op k v:Int):nZ (C7 A W (QZ L) ny) oG 300 400 97 [.code []] (mM 52 [.agg [.sl 4 n (pz d)],.i .i64 i,.i .i64 op,.i .i64 k,.i .i64 v] L0) [] []=am (stB n (pz d)) (ak (A.nt (zY n i)) (ai (ay (aQ [aN [ao 0 0 fun _=>[]],az .i64 (ab 0),az .i64 (ab 0),aC 7 329]))) (am (okB Int (len (L.at_ n (pz d) i).q) (mF (nth (L.at_ n (pz d) i).q))) (am (okB Pr (len (L.at_ n (pz d) i).ps) (mF (nth (L.at_ n (pz d) i).ps))) (am (V3 (len (L.at_ n (pz d) i).q)) (ak (xk (L.at_ n (pz d) i).kind op) (ai (ay (aQ [aN [ao 0 0 fun _=>[]],az .i64 (ab 0),az .i64 (ab 0),aC 8 329]))) (ak (yt (L.at_ n (pz d) i).kind (L.at_ n (pz d) i).num op k v) (ai (ay (aQ [aN [ao 0 0 fun _=>[]],az .i64 (ab 0),az .i64 (ab 0),aC 15 329]))) (am (Bc op (len (L.at_ n (pz d) i).ps) (mF (nth (L.at_ n (pz d) i).ps))) (am (oI n 64) (am (stB n (pz d)) (ai (ay (aQ [aN [ao 4 n (Jz n (pz d) i [az .i64 (L.op (sQ (L.at_ n (pz d) i).kind (L.at_ n (pz d) i).num (len (L.at_ n (pz d) i).q) (mF (nth (L.at_ n (pz d) i).q)) (len (L.at_ n (pz d) i).ps) (mF (nth (L.at_ n (pz d) i).ps))) op k v).kind,az .i64 (L.op (sQ (L.at_ n (pz d) i).kind (L.at_ n (pz d) i).num (len (L.at_ n (pz d) i).q) (mF (nth (L.at_ n (pz d) i).q)) (len (L.at_ n (pz d) i).ps) (mF (nth (L.at_ n (pz d) i).ps))) op k v).num,ao 1 (len (L.op (sQ (L.at_ n (pz d) i).kind (L.at_ n (pz d) i).num (len (L.at_ n (pz d) i).q) (mF (nth (L.at_ n (pz d) i).q)) (len (L.at_ n (pz d) i).ps) (mF (nth (L.at_ n (pz d) i).ps))) op k v).q) (mF (nth (L.op (sQ (L.at_ n (pz d) i).kind (L.at_ n (pz d) i).num (len (L.at_ n (pz d) i).q) (mF (nth (L.at_ n (pz d) i).q)) (len (L.at_ n (pz d) i).ps) (mF (nth (L.at_ n (pz d) i).ps))) op k v).q)),ao 2 (len (L.op (sQ (L.at_ n (pz d) i).kind (L.at_ n (pz d) i).num (len (L.at_ n (pz d) i).q) (mF (nth (L.at_ n (pz d) i).q)) (len (L.at_ n (pz d) i).ps) (mF (nth (L.at_ n (pz d) i).ps))) op k v).ps) (mF (nth (L.op (sQ (L.at_ n (pz d) i).kind (L.at_ n (pz d) i).num (len (L.at_ n (pz d) i).q) (mF (nth (L.at_ n (pz d) i).q)) (len (L.at_ n (pz d) i).ps) (mF (nth (L.at_ n (pz d) i).ps))) op k v).ps))])],az .i64 (L.r (sQ (L.at_ n (pz d) i).kind (L.at_ n (pz d) i).num (len (L.at_ n (pz d) i).q) (mF (nth (L.at_ n (pz d) i).q)) (len (L.at_ n (pz d) i).ps) (mF (nth (L.at_ n (pz d) i).ps))) op k v),az .i64 (L.g (sQ (L.at_ n (pz d) i).kind (L.at_ n (pz d) i).num (len (L.at_ n (pz d) i).q) (mF (nth (L.at_ n (pz d) i).q)) (len (L.at_ n (pz d) i).ps) (mF (nth (L.at_ n (pz d) i).ps))) op k v),Sh.v aI])))))))))))):=by kernel_rfl
end Go.Proofs
namespace Go.Pl
open Go Go.Sx Go.Proofs
noncomputable def L7:Lb7 where
 op s o k v:=(tZ s o k v).1
 r s o k v:=(tZ s o k v).2.1
 g s o k v:=(tZ s o k v).2.2
 key:=keyS
 join:=qJ
 at_ n g i:=ZK n (sJ n g) i
end Go.Pl
namespace Go.Proofs
open Go Go.Sx Go.Pl
theorem ar4:nG ah (nY W7) 119 (G33 L7):=O33
theorem ar5:nG ah (nY W7) 120 (G42 L7):=O42
theorem OEs:∀g F,QZ L7 g=ae F->nG ah (nY W7) g F:=fun g F h=>by
 unfold QZ at h;split at h
 ·cases h;exact ar4
 ·cases h;exact ar5
 ·cases h;exact O54
 ·cases h
theorem ar6(stop:Nat->List Nat->Bool):oH ah (C7 mD W7 (QZ L7) stop):=dZ OEs fun g h=>by
 unfold QZ at h;split at h;all_goals first|(cases h;done) |kernel_rfl
noncomputable def F29:List Sh->Tree Sh
 |[.agg [s0],t,u,v,w]=>match sD 4 s0,nR t,nR u,nR v,nR w with
  |some (n,g),ae i,ae op,ae k,ae v=>.need (stB n g) (.need (oI n 64) (.node (zY n i) (.need (V3 (sJ n g i.toNat).q.length) (.node (xk (sJ n g i.toNat).kind op) (.leaf (.mV [.agg [.sl 4 0 noT],.i .i64 0,.i .i64 0,.er 8 329])) (.node (yt (sJ n g i.toNat).kind (sJ n g i.toNat).num op k v) (.leaf (.mV [.agg [.sl 4 0 noT],.i .i64 0,.i .i64 0,.er 15 329]))
    (.need (Bc op (len (sJ n g i.toNat).ps) (mF (nth (sJ n g i.toNat).ps))) (.leaf (.mV [.agg [.sl 4 n (Jz n g i (qo (tZ (sJ n g i.toNat) op k v).1))],.i .i64 (tZ (sJ n g i.toNat) op k v).2.1,.i .i64 (tZ (sJ n g i.toNat) op k v).2.2,.v .nilIface]))))))
   (.leaf (.mV [.agg [.sl 4 0 noT],.i .i64 0,.i .i64 0,.er 7 329]))))
  |_,_,_,_,_=>.fail
 |_=>.fail
theorem O29:nG ah (nY W7) 97 F29:=by
 refine rM (C:=C7 mD W7 (QZ L7) ny) (aS _ _) (ar6 _) (m:=300) (n:=400) (L:=L0) (fn:=Tryz.f97) (by kernel_rfl) (by kernel_rfl) fun H w nV args φ hrep h=>?_
 have hn:Tryz.f97.ntmps=52:=by kernel_rfl
 unfold F29 at h;split at h
 ·rename_i s0 t u v ww
  split at h
  ·rename_i n g i op k vv hs ht hu hv hw
   obtain ⟨h1,h2,hin,hout⟩:=h;have hout:zY n i=ag->φ (.mV [.agg [.sl 4 0 noT],.i .i64 0,.i .i64 0,.er 7 329]):=hout;match args,hrep with
   |[v0,v1,v2,v3,v4],⟨r0,r1,r2,r3,r4,_⟩=>
    refine ⟨[.agg [.sl 4 n (pz (sJ n g))],.i .i64 i,.i .i64 op,.i .i64 k,.i .i64 vv],⟨DC r0 fun u hu=>sW (oO hs hu) (Hy h1),qW ht r1,qW hu r2,qW hv r3,qW hw r4,trivial⟩,?_⟩;have hrow:=Hy h1;have her (T:Nat) (g0:Nat) (hp:φ (.mV [.agg [.sl 4 0 noT],.i .i64 0,.i .i64 0,.er g0 329])):up φ (.mV [.agg [.sl 0 0 fun _=>[]],.i .i64 (ab 0),.i .i64 (ab 0),.er g0 329]):=
     oq (s':=.mV [.agg [.sl 4 0 noT],.i .i64 0,.i .i64 0,.er g0 329]) ⟨⟨.inl ⟨rfl,rfl⟩,trivial⟩,rfl,rfl,rfl,trivial⟩ hp
    rw[hn,a29 mD W7 L7 n (sJ n g) i op k vv];have e1:L7.at_ n (pz (sJ n g)) i=ZK n (sJ n (pz (sJ n g))) i:=rfl;rw[e1];refine ⟨VQ n _,fun e=>her 0 7 (hout (by simpa[oP] using e)),fun e=>?_⟩;have e:zY n i=aj:=by simpa[oP] using e
    obtain ⟨q1,q3,q4⟩:=hin e;have hlt:i.toNat<n:=by simp[zY] at e;omega
    have e2:ZK n (sJ n (pz (sJ n g))) i=sJ n g i.toNat:=by simp[ZK,e,ajE i.toNat hlt]
    rw[e2,aev];have q4:xk (sJ n g i.toNat).kind op=ag->(yt (sJ n g i.toNat).kind (sJ n g i.toNat).num op k vv=aj->φ (.mV [.agg [.sl 4 0 noT],.i .i64 0,.i .i64 0,.er 15 329]))/\(yt (sJ n g i.toNat).kind (sJ n g i.toNat).num op k vv=ag->Bc op (len (sJ n g i.toNat).ps) (mF (nth (sJ n g i.toNat).ps))=aj/\φ (.mV [.agg [.sl 4 n (Jz n g i (qo (tZ (sJ n g i.toNat) op k vv).1))],.i .i64 (tZ (sJ n g i.toNat) op k vv).2.1,.i .i64 (tZ (sJ n g i.toNat) op k vv).2.2,.v .nilIface])):=q4;refine ⟨rZ _ _,rZ _ _,q1,fun e=>her 0 8 (q3 e),fun e=>⟨fun e'=>her 0 15 ((q4 e).1 e'),fun e'=>⟨((q4 e).2 e').1,h2,VQ n _,oq (s':=.mV [.agg [.sl 4 n (Jz n g i (qo (tZ (sJ n g i.toNat) op k vv).1))],.i .i64 (tZ (sJ n g i.toNat) op k vv).2.1,.i .i64 (tZ (sJ n g i.toNat) op k vv).2.2,.v .nilIface]) ⟨⟨.inr ⟨rfl,rfl,fun j hj=>?_⟩,trivial⟩,rfl,rfl,rfl,trivial⟩ ((q4 e).2 e').2⟩⟩⟩;unfold Jz;split
    ·rfl
    ·exact (hrow j hj).symm
  ·exact h.elim
 ·exact h.elim
end Go.Proofs
namespace Go.Pl
open Go Go.Sx
structure rU where
 id:Int
 th:Int
 st:Int
 bg:Int
 en:Int
 tr:Int
 k:Nat
 g:Nat->List Sh
instance:Inhabited rU:=⟨⟨0,0,0,0,0,0,0,fun _=>[]⟩⟩
instance:Row rU where
 put t:=[.i .i64 t.id,.i .i64 t.th,.i .i64 t.st,.i .i64 t.bg,.i .i64 t.en,.i .i64 t.tr,.sl 8 t.k t.g]
 get l:=match l with
  |[.i .i64 a,.i .i64 b,.i .i64 c,.i .i64 d,.i .i64 e,.i .i64 f,.sl 8 k g]=>ae ⟨a,b,c,d,e,f,k,g⟩ |_=>aq
 rJ l a h:=by
  split at h
  ·cases h;rfl
  ·cases h
 get_put a:=rfl
 zX:=default
structure Dd where
 obj:Int
 op:Int
 key:Int
 val:Int
 ret:Int
 got:Int
 at_:Int
 back:Int
 deriving DecidableEq,Inhabited
instance:Row Dd where
 put d:=[.i .i64 d.obj,.i .i64 d.op,.i .i64 d.key,.i .i64 d.val,.i .i64 d.ret,.i .i64 d.got,.i .i64 d.at_,.i .i64 d.back]
 get l:=match l with
  |[.i .i64 a,.i .i64 b,.i .i64 c,.i .i64 d,.i .i64 e,.i .i64 f,.i .i64 g,.i .i64 h]=>ae ⟨a,b,c,d,e,f,g,h⟩ |_=>aq
 rJ l a h:=by
  split at h
  ·cases h;rfl
  ·cases h
 get_put a:=rfl
 zX:=default
structure Na where
 placed:Int
 n:Nat
 g:Nat->List Sh
instance:Inhabited Na:=⟨⟨0,0,fun _=>[]⟩⟩
instance:Row Na where
 put x:=[.i .i64 x.placed,.sl 4 x.n x.g]
 get l:=match l with
  |[.i .i64 a,.sl 4 n g]=>ae ⟨a,n,g⟩ |_=>aq
 rJ l a h:=by
  split at h
  ·cases h;rfl
  ·cases h
 get_put a:=rfl
 zX:=default
structure Ei where
 tx:Int
 com:Bool
 placed:Int
 n:Nat
 g:Nat->List Sh
instance:Inhabited Ei:=⟨⟨0,ag,0,0,fun _=>[]⟩⟩
instance:Row Ei where
 put x:=[.i .i64 x.tx,.b x.com,.i .i64 x.placed,.sl 4 x.n x.g]
 get l:=match l with
  |[.i .i64 t,.b c,.i .i64 a,.sl 4 n g]=>ae ⟨t,c,a,n,g⟩ |_=>aq
 rJ l a h:=by
  split at h
  ·cases h;rfl
  ·cases h
 get_put a:=rfl
 zX:=default
def Q5(n:Nat)(d:Nat->pO)(i op k v:Int):Bool:=zY n i && !xk (d i.toNat).kind op && !yt (d i.toNat).kind (d i.toNat).num op k v
def erN(n:Nat)(d:Nat->pO)(i op k v:Int):Nat:=if zY n i=aj then (if xk (d i.toNat).kind op=aj then 8 else 15) else 7
def V4(n:Nat)(d:Nat->pO)(i op:Int):Bool:=!zY n i||(Go.Pl.V3 (d i.toNat).q.length&&Bc op (len (d i.toNat).ps) (mF (nth (d i.toNat).ps)))
noncomputable def KU(n:Nat)(g:Nat->List Sh)(i op k v:Int):Bool:=Q5 n (sJ n g) i op k v
noncomputable def Yz(n:Nat)(g:Nat->List Sh)(i op:Int):Bool:=stB n g&&(oI n 64&&V4 n (sJ n g) i op)
noncomputable def erG(n:Nat)(g:Nat->List Sh)(i op k v:Int):Nat:=erN n (sJ n g) i op k v
noncomputable def V5(n:Nat)(g:Nat->List Sh)(i op k v:Int):Nat->List Sh:=Jz n g i (qo (tZ (sJ n g i.toNat) op k v).1)
noncomputable def acy(n:Nat)(g:Nat->List Sh)(i op k v:Int):Int:=(tZ (sJ n g i.toNat) op k v).2.1
noncomputable def acz(n:Nat)(g:Nat->List Sh)(i op k v:Int):Int:=(tZ (sJ n g i.toNat) op k v).2.2
end Go.Pl
namespace Go.Proofs
open Go Go.Sx Go.Pl
noncomputable def D29:List Sh->Tree Sh
 |[.agg [s0],t,u,v,w]=>match sD 4 s0,nR t,nR u,nR v,nR w with
  |some (n,g),ae i,ae op,ae k,ae v=>.need (Yz n g i op) (.node (KU n g i op k v)
   (.leaf (.mV [.agg [.sl 4 n (V5 n g i op k v)],.i .i64 (acy n g i op k v),.i .i64 (acz n g i op k v),.v .nilIface]))
   (.leaf (.mV [.agg [.sl 4 0 noT],.i .i64 0,.i .i64 0,.er (erG n g i op k v) 329])))
  |_,_,_,_,_=>.fail
 |_=>.fail
noncomputable def Ia:Nat->Option (List Sh->Tree Sh)
 |97=>ae D29 |_=>aq
def SQ:List It:=[aH [0,1,0,1],aW 0,aH [1,1]]
def akf:List It:=aH [0,0,1,0,1]::SQ
def SS(n:Nat)(g:Nat->List Sh)(m:Nat)(dd:Nat->Dd)(i:Int):Core:={tm:=vZ 54 [(2,.ptr 0 0),(4,.ptr 1 0),(12,.sh (.sl 8 m (mF dd))),(13,.sym .i64 (m:Int)),(14,.sym .i64 i)],hp:=[(0,.box [.sh (.sl 4 n g)] 100),(1,.box [.nD] 100)],nx:=2,lim:=L0,tc:=[]}
end Go.Proofs
namespace Go.Sx
@[irreducible] def qA (ψ:rQ->Prop) (t:Tree rQ):Prop:=t.All ψ
theorem Ej(ψ:rQ->Prop)(t:Tree rQ):qA ψ t=t.All ψ:=by unfold qA;rfl
theorem uz{P:Program}{C:Ctx}{H0:Mem}{w0:World}(hC:oh P C)(hF:oH P C){m n g:Nat}{td:List It}{c:Core}{stk:List Fr}{ts:List Dh}{R:Hp->Prop}{φ:Sh->Prop}{hold:Nat->Bool}
  (h:qA (yG P C (K0 H0 w0) ts R φ) (nZ C hold m n g td c stk ts)):nX P C (K0 H0 w0) g td c stk R φ:=xA hC hF (by rw[Ej] at h;exact h)
end Go.Sx
namespace Go.Pl
theorem no2{b:Bool}{P:Prop}(h:b=ag)(h2:b=aj):P:=by rw[h] at h2;cases h2
end Go.Pl
namespace Go.Proofs
open Go Go.Sx Go.Pl
theorem ER{A:Prim}{W:Wd}{s s':Nat->Option (List Sh->Tree Sh)}{stop stop':Nat->List Nat->Bool}{K:Kx}{g:Nat}{td:List It}{c:Core}{R:Hp->Prop}{φ:Sh->Prop}
  (h:nX ah (C7 A W s stop) K g td c [] R φ):nX ah (C7 A W s' stop') K g td c [] R φ:=fun H E w a items ms cs fn hf st hi hs hx=>
 h H E w a items ms cs fn hf ⟨st.den,st.hp,st.oQ,st.free,st.gl,st.defers⟩ hi (by cases ms with
  |nil=>trivial |cons _ _=>exact hs.elim) hx
theorem acA{P:Program}{gls:List (Nat×Sh)}{g:Nat}{F G:List Sh->Tree Sh}(hF:nG P gls g F)(h:∀(nV:List Sh) (φ:Sh->Prop),(G nV).All φ->∃s':Sh,φ s'/\(F nV).All fun s=>Wk s s'):nG P gls g G:=by
 intro H w nV args φ hon hg hr hφ;obtain ⟨s',h1,h2⟩:=h nV φ hφ;refine (hF H w nV args _ hon hg hr h2).mono fun e w' ⟨v,s,H',he,hs,r⟩=>?_;obtain ⟨H2,r2⟩:=r.wk hs;exact ⟨v,s',H2,he,h1,r2⟩
theorem Nb{st n:Nat}{g:Nat->List Sh}:Wk (.sl st n g) (.sl st n g):=.inr ⟨rfl,rfl,fun _ _=>rfl⟩
theorem add1{j:Nat}(h:j<=100000):mD.add .i64 (j:Int) (ab 1)=((j+1:Nat):Int):=by
 show aA.wrap ((j:Int)+1)=_;rw[pI (by omega) (by omega)];rfl
end Go.Proofs
namespace Go.Sx
def oC.dg:oC->oC
 | .int a _=>.int a a | .nat a _=>.nat a a | .bool a _=>.bool a a | .str a _=>.str a a | .val a _=>.val a a | .sh a _=>.sh a a | .get n g _=>.get n g g | .Ez g _=>.Ez g g | .mp M _=>.mp M M | .mg M _=>.mg M M
theorem Uh:∀l:List oC,oC.all (l.map oC.dg)
 |[]=>trivial |e::l=>⟨by cases e<;>first|rfl|exact fun _ _=>rfl,Uh l⟩
def Tree.dg{α:Type}:Tree α->Tree α
 | .leaf a=>.leaf a | .node b t f=>.node b t.dg f.dg | .need b t=>.need b t.dg | .must l t=>.must (l.map oC.dg) t.dg | .both t f=>.both t.dg f.dg | .fail=>.fail
def Tree.Pv{α:Type}(φ:α->Prop):Tree α->Prop
 | .leaf a=>φ a | .node b t f=>(b=aj->t.Pv φ)/\(b=ag->f.Pv φ) | .need b t=>b=aj/\t.Pv φ | .must _ t=>t.Pv φ | .both t f=>t.Pv φ/\f.Pv φ | .fail=>False
theorem Tree.V6{α:Type}{φ:α->Prop}:∀{t:Tree α},t.Pv φ->t.dg.All φ
 | .leaf _,h=>h | .node _ _ _,h=>⟨fun e=>Tree.V6 (h.1 e),fun e=>Tree.V6 (h.2 e)⟩ | .need _ _,h=>⟨h.1,Tree.V6 h.2⟩ | .must l _,h=>⟨Uh l,Tree.V6 h⟩ | .both _ _,h=>⟨Tree.V6 h.1,Tree.V6 h.2⟩ | .fail,h=>h
theorem um{P:Prop}{ψ:rQ->Prop}{t:Tree rQ}(k:P)(e:P=t.All ψ):qA ψ t:=by
 rw[Ej,<-e];exact k
theorem acB{P:Prop}{ψ:rQ->Prop}{t:Tree rQ}(h:t.dg=t)(k:P)(e:P=t.Pv ψ):qA ψ t:=by
 rw[Ej,<-h];exact Tree.V6 (e ▸ k:t.Pv ψ)
theorem nd(c:Bool){p q:Prop}(x:c=aj->p)(y:c=ag->q):(c=aj->p)/\(c=ag->q):=⟨x,y⟩
theorem an{a b:Prop}(x:a)(y:b):a/\b:=⟨x,y⟩
end Go.Sx
namespace Go.Proofs
open Go Go.Sx Go.Pl
theorem akh(A:Prim)(W:Wd)(n:Nat)(g:Nat->List Sh)(m:Nat)(dd:Nat->Dd)(i':Int){ψ:rQ->Prop}(y1:ψ (aK 0 [av (ao 8 m (mF dd)) (ao 8 m (mF dd)),ac (A.nH m) (ab m),ac (ab 0) i',av (ao 4 n g) (ao 4 n g)])):qA ψ (nZ (C7 A W Ia ny) oG 300 400 76 [.code []] (mM 54 [.agg [.sl 4 n g],.sl 8 m (mF dd)] L0) [] [⟨76,SQ,SS n g m dd i',[]⟩]):=by
 exact um y1 (by kernel_rfl)
theorem V7(A:Prim)(W:Wd)(n:Nat)(g g':Nat->List Sh)(m:Nat)(dd:Nat->Dd)(i i':Int){ψ:rQ->Prop}{c0 c1 c2 c3 c4:Bool}(e0:A.lt i (ab m)=c0)(e1:A.eq (dd (A.toN i)).ret (ab 0)=c1)(e2:KU n g (dd (A.toN i)).obj (dd (A.toN i)).op (dd (A.toN i)).key (dd (A.toN i)).val=c2)(e3:A.nt (A.eq (acy n g (dd (A.toN i)).obj (dd (A.toN i)).op (dd (A.toN i)).key (dd (A.toN i)).val) (dd (A.toN i)).ret)=c3)(e4:A.nt (A.eq (acz n g (dd (A.toN i)).obj (dd (A.toN i)).op (dd (A.toN i)).key (dd (A.toN i)).val) (dd (A.toN i)).got)=c4)(h1:c0=aj->(A.inB i m)=aj)(h2:c0=aj->c1=ag->(Yz n g (dd (A.toN i)).obj (dd (A.toN i)).op)=aj)(y1:c0=aj->c1=aj->ψ (aK 0 [av (ao 8 m (mF dd)) (ao 8 m (mF dd)),ac (ab m) (ab m),ac (A.add .i64 i (ab 1)) i',av (ao 4 n g) (ao 4 n g')]))(y2:c0=aj->c1=ag->c2=aj->c3=aj->ψ (ay (aQ [aN [ao 0 0 fun _=>[]],fP 109 (ij [az .i64 i,aC 13 329])])))(y3:c0=aj->c1=ag->c2=aj->c3=ag->c4=aj->ψ (ay (aQ [aN [ao 0 0 fun _=>[]],fP 109 (ij [az .i64 i,aC 13 329])])))(y4:c0=aj->c1=ag->c2=aj->c3=ag->c4=ag->ψ (aK 0 [av (ao 8 m (mF dd)) (ao 8 m (mF dd)),ac (ab m) (ab m),ac (A.add .i64 i (ab 1)) i',av (ao 4 n (V5 n g (dd (A.toN i)).obj (dd (A.toN i)).op (dd (A.toN i)).key (dd (A.toN i)).val)) (ao 4 n g')]))(y5:c0=aj->c1=ag->c2=ag->ψ (ay (aQ [aN [ao 0 0 fun _=>[]],fP 109 (ij [az .i64 i,aC (erG n g (dd (A.toN i)).obj (dd (A.toN i)).op (dd (A.toN i)).key (dd (A.toN i)).val) 329])])))(y6:c0=ag->ψ (ay (aQ [aN [ao 4 n g],Sh.v aI]))):qA ψ (nZ (C7 A W Ia ny) oG 300 400 76 akf (SS n g m dd i) [] [⟨76,SQ,SS n g' m dd i',[]⟩]):=by
 subst e0 e1 e2 e3 e4;exact um (an (fun q0=>an (h1 q0) (an (y1 q0) (fun q1=>an (h2 q0 q1) (an (fun q2=>an (y2 q0 q1 q2) (fun q3=>an (y3 q0 q1 q2 q3) (y4 q0 q1 q2 q3))) (y5 q0 q1))))) y6) (by kernel_rfl)
end Go.Proofs
namespace Go.Pl
open Go Go.Sx Go.Proofs
noncomputable def xM(n:Nat):(Nat->List Sh)->Nat->List Dd->(Nat×Nat) ⊕ (Nat->List Sh)
 |g,_,[]=>.inr g |g,i,d::l=>if d.ret=0 then xM n g (i+1) l else if KU n g d.obj d.op d.key d.val=aj then
   (if acy n g d.obj d.op d.key d.val=d.ret/\acz n g d.obj d.op d.key d.val=d.got then xM n (V5 n g d.obj d.op d.key d.val) (i+1) l else .inl (i,13)) else .inl (i,erG n g d.obj d.op d.key d.val)
noncomputable def Ll(n:Nat):(Nat->List Sh)->List Dd->Prop
 |_,[]=>True |g,d::l=>if d.ret=0 then Ll n g l else Yz n g d.obj d.op=aj/\(KU n g d.obj d.op d.key d.val=aj->Ll n (V5 n g d.obj d.op d.key d.val) l)
end Go.Pl
namespace Go.Proofs
open Go Go.Sx Go.Pl
noncomputable def aki(φ:Sh->Prop)(n:Nat):(Nat×Nat) ⊕ (Nat->List Sh)->Prop
 | .inr g=>φ (.mV [.agg [.sl 4 n g],.v .nilIface]) | .inl (i,e)=>φ (.mV [.agg [.sl 4 0 noT],.pV 109 (.pt [.i .i64 (i:Nat),.er e 329])])
theorem ZR(OD:nG ah (nY W7) 97 D29)(stop:Nat->List Nat->Bool):oH ah (C7 mD W7 Ia stop):=dZ (fun g F h=>by
 grind [Ia]) fun g h=>by
 unfold Ia at h;split at h;all_goals first|(cases h;done) |kernel_rfl
section
variable{H0:Mem}{w0:World}{φ:Sh->Prop}{n m:Nat}{dd:Nat->Dd}
theorem ZT(OD:nG ah (nY W7) 97 D29)(hm:m<=100000):∀r i g,i+r=m->Ll n g ((aE r).map fun j=>dd (i+j))->aki φ n (xM n g i ((aE r).map fun j=>dd (i+j)))->
  nX ah (C7 mD W7 Ia ny) (K0 H0 w0) 76 SQ (SS n g m dd (i:Nat)) [] emp (up φ)
 |0,i,g,hi,hf,hφ=>by
  refine wY (fn:=ik) (tb:=akf) (by kernel_rfl) (by kernel_rfl) ?_;refine uz (aS _ _) (ZR OD _) (hold:=oG) (m:=300) (n:=400) (ts:=[⟨76,SQ,SS n g m dd 0,[]⟩]) ?_;have lt {P:Prop} (h:mD.lt (i:Int) (ab m)=aj):P:=by simp_all [mQ]
  have hφ:φ (.mV [.agg [.sl 4 n g],.v .nilIface]):=hφ;exact V7 mD W7 n g g m dd i 0 rfl rfl rfl rfl rfl (fun q=>lt q) (fun q=>lt q) (fun q=>lt q) (fun q=>lt q) (fun q=>lt q) (fun q=>lt q) (fun q=>lt q) (fun _=>oq (s':=.mV [.agg [.sl 4 n g],.v .nilIface]) ⟨⟨Nb,trivial⟩,rfl,trivial⟩ hφ)
 |r+1,i,g,hi,hf,hφ=>by
  refine wY (fn:=ik) (tb:=akf) (by kernel_rfl) (by kernel_rfl) ?_;have w1:mD.add .i64 (i:Int) (ab 1)=((i+1:Nat):Int):=add1 (by omega);have no {P:Prop} (h:mD.lt (i:Int) (ab m)=ag):P:=by grind [mQ]
  have inb (h:mD.lt (i:Int) (ab m)=aj):mD.inB (i:Int) m=aj:=by simp[oJ];omega
  have el:(aE (r+1)).map (fun j=>dd (i+j))=dd i::(aE r).map fun j=>dd (i+1+j):=by
   rw[gY,dI,iE];congr 1;grind [dD]
  rw[el] at hf hφ;have bad (e:Nat) (h:φ (.mV [.agg [.sl 4 0 noT],.pV 109 (.pt [.i .i64 (i:Nat),.er e 329])])):up φ (.mV [.agg [.sl 0 0 fun _=>[]],.pV 109 (.pt [.i .i64 (i:Nat),.er e 329])]):=
   oq (s':=.mV [.agg [.sl 4 0 noT],.pV 109 (.pt [.i .i64 (i:Nat),.er e 329])]) ⟨⟨.inl ⟨rfl,rfl⟩,trivial⟩,rfl,trivial⟩ h
  by_cases h0:(dd i).ret=0
  ·have hf:Ll n g ((aE r).map fun j=>dd (i+1+j)):=by simp_all [Ll]
   have hφ:aki φ n (xM n g (i+1) ((aE r).map fun j=>dd (i+1+j))):=by simp_all [xM]
   have nx:=ZT OD hm r (i+1) g (by omega) hf hφ;refine uz (aS _ _) (ZR OD _) (hold:=oG) (m:=300) (n:=400) (ts:=[⟨76,SQ,SS n g m dd ((i+1:Nat):Int),[]⟩]) ?_;have c1 {P:Prop} (h:mD.eq (dd i).ret (ab 0)=ag):P:=by simp_all [nC]
   exact V7 mD W7 n g g m dd i _ rfl rfl rfl rfl rfl inb (fun _ q=>c1 q) (fun _ _=>⟨⟨rfl,rfl,w1,rfl,trivial⟩,_,rfl,nx⟩) (fun _ q=>c1 q) (fun _ q=>c1 q) (fun _ q=>c1 q) (fun _ q=>c1 q) (fun q=>no q)
  ·have c1 {P:Prop} (h:mD.eq (dd i).ret (ab 0)=aj):P:=(h0 (by grind [nC])).elim
   unfold Ll at hf;rw[if_neg h0] at hf;unfold xM at hφ;rw[if_neg h0] at hφ;refine uz (aS _ _) (ZR OD _) (hold:=oG) (m:=300) (n:=400) (ts:=[⟨76,SQ,SS n (V5 n g (dd i).obj (dd i).op (dd i).key (dd i).val) m dd ((i+1:Nat):Int),[]⟩]) ?_;have nte {a b:Int} (h:mD.nt (mD.eq a b)=aj):a≠b:=by grind [oP,nC]
   have nfe {a b:Int} (h:mD.nt (mD.eq a b)=ag):a=b:=by grind [oP,nC]
   refine V7 mD W7 n g _ m dd i _ rfl rfl rfl rfl rfl inb (fun _ _=>hf.1) (fun _ q=>c1 q) ?_ ?_ ?_ ?_ (fun q=>no q)
   ·intro _ _ q2 q3
    have q2:KU n g (dd i).obj (dd i).op (dd i).key (dd i).val=aj:=q2;rw[if_pos q2,if_neg fun e=>nte q3 e.1] at hφ
    exact bad 13 hφ
   ·intro _ _ q2 _ q4
    have q2:KU n g (dd i).obj (dd i).op (dd i).key (dd i).val=aj:=q2;rw[if_pos q2,if_neg fun e=>nte q4 e.2] at hφ
    exact bad 13 hφ
   ·intro _ _ q2 q3 q4
    have q2:KU n g (dd i).obj (dd i).op (dd i).key (dd i).val=aj:=q2;rw[if_pos q2,if_pos ⟨nfe q3,nfe q4⟩] at hφ;exact ⟨⟨rfl,rfl,w1,rfl,trivial⟩,_,rfl,ZT OD hm r (i+1) _ (by omega) (hf.2 q2) hφ⟩
   ·intro _ _ q2
    have q2:KU n g (dd i).obj (dd i).op (dd i).key (dd i).val=ag:=q2;rw[if_neg (by rw[q2];simp)] at hφ;exact bad _ hφ
end
open Go Go.Sx Go.Pl
theorem aox:nG ah (nY W7) 97 D29:=O29.mono fun H nV args φ hr h=>by
 unfold D29 at h;split at h
 ·split at h
  ·rename_i n g i op k v e0 e1 e2 e3 e4
   obtain ⟨h1,h2,h3⟩:=h;unfold Yz at h1;rw[al,al] at h1;obtain ⟨a1,a2,a3⟩:=h1;unfold F29;simp only[e0,e1,e2,e3,e4];have no (e:Nat) (q:KU n g i op k v=ag) (q2:erG n g i op k v=e):φ (.mV [.agg [.sl 4 0 noT],.i .i64 0,.i .i64 0,.er e 329]):=by
    have:=h3 q;rw[q2] at this;exact this
   refine ⟨a1,a2,fun q=>?_,fun q=>no 7 ?_ ?_⟩
   ·have b3:V3 (sJ n g i.toNat).q.length=aj/\Bc op (len (sJ n g i.toNat).ps) (mF (nth (sJ n g i.toNat).ps))=aj:=by
     unfold V4 at a3;rw[q] at a3;simpa using a3
    refine ⟨b3.1,fun b=>no 8 ?_ ?_,fun b=>⟨fun c=>no 15 ?_ ?_,fun c=>⟨b3.2,h2 ?_⟩⟩⟩
    ·unfold KU Q5;rw[b];simp
    ·unfold erG erN;rw[if_pos q,if_pos b]
    ·unfold KU Q5;rw[c];simp
    ·unfold erG erN;rw[if_pos q,if_neg (by rw[b];simp)]
    ·unfold KU Q5;rw[q,b,c];rfl
   ·unfold KU Q5;rw[q];rfl
   ·unfold erG erN;rw[if_neg (by rw[q];simp)]
  ·exact h.elim
 ·exact h.elim
noncomputable def agb(n:Nat)(g:Nat->List Sh)(l:List Dd):Bool:=@decide (Ll n g l) (aB _)
noncomputable def V8(n:Nat)(g:Nat->List Sh)(l:List Dd):Bool:=match xM n g 0 l with
 | .inr _=>aj | .inl _=>ag
noncomputable def V9(n:Nat)(g:Nat->List Sh)(l:List Dd):Nat->List Sh:=match xM n g 0 l with
 | .inr g=>g | .inl _=>noT
noncomputable def aex(n:Nat)(g:Nat->List Sh)(l:List Dd):Nat:=match xM n g 0 l with
 | .inr _=>0 | .inl (i,_)=>i
noncomputable def aey(n:Nat)(g:Nat->List Sh)(l:List Dd):Nat:=match xM n g 0 l with
 | .inr _=>0 | .inl (_,e)=>e
noncomputable def F76:List Sh->Tree Sh
 |[.agg [s0],s1]=>match sD 4 s0,sD 8 s1 with
  |some (n,g),ae (m,h)=>.need (okB Dd m h) (.need (decide (m<=100000)) (.need (agb n g (lst Dd m h)) (.node (V8 n g (lst Dd m h))
   (.leaf (.mV [.agg [.sl 4 n (V9 n g (lst Dd m h))],.v .nilIface]))
   (.leaf (.mV [.agg [.sl 4 0 noT],.pV 109 (.pt [.i .i64 (aex n g (lst Dd m h)),.er (aey n g (lst Dd m h)) 329])])))))
  |_,_=>.fail
 |_=>.fail
theorem O76:nG ah (nY W7) 76 F76:=by
 refine vM (C:=C7 mD W7 Ia ny) (aS _ _) (fn:=ik) (by kernel_rfl) (by kernel_rfl) fun H w nV args φ hrep h=>?_
 have hn:ik.ntmps=54:=by kernel_rfl
 unfold F76 at h;split at h
 ·rename_i s0 s1
  split at h
  ·rename_i n g m hh e0 e1
   obtain ⟨h1,h2,h3,h4,h5⟩:=h;have h2:=of_decide_eq_true h2;have h3:Ll n g (lst Dd m hh):=@of_decide_eq_true _ (aB _) h3;match args,hrep with
   |[v,u],⟨rv,ru,_⟩=>
    have rv':Rep H (.agg [.sl 4 n g]) v:=by
     cases rv with
     |agg _ vs hl hr=>
      refine .agg _ _ hl fun j s' v' q1 q2=>?_
      match j,q1 with
      |0,q1=>cases q1;exact oO e0 (hr 0 _ _ rfl q2) |j+1,q1=>cases q1
    refine ⟨[.agg [.sl 4 n g],.sl 8 m (mF (mJ (α:=Dd) hh))],⟨rv',uD (oO e1 ru) h1,trivial⟩,L0,?_⟩;have hres:aki φ n (xM n g 0 (lst Dd m hh)):=by
     unfold V8 V9 aex aey at *;cases hp:xM n g 0 (lst Dd m hh) with
     |inr g'=>rw[hp] at h4;exact h4 rfl |inl q=>
      obtain ⟨i,e⟩:=q;rw[hp] at h5;exact h5 rfl
    have el:lst Dd m hh=(aE m).map fun j=>mJ (α:=Dd) hh (0+j):=by
     unfold lst;refine dD fun j _=>?_
     rw[Nat.zero_add]
    rw[el] at h3 hres;refine uz (aS _ _) (ZR aox _) (hold:=oG) (m:=300) (n:=400) (ts:=[⟨76,SQ,SS n g m (mJ (α:=Dd) hh) ((0:Nat):Int),[]⟩]) ?_;rw[hn];exact akh mD W7 n g m (mJ (α:=Dd) hh) _ ⟨⟨rfl,rfl,rfl,rfl,trivial⟩,_,rfl,ZT aox h2 m 0 g (by omega) h3 hres⟩
  ·exact h.elim
 ·exact h.elim
end Go.Proofs
namespace Go.Pl
open Go Go.Sx Go.Proofs
noncomputable def plN(n:Nat)(g:Nat->List Sh)(m:Nat)(h:Nat->List Sh):Bool:=okB Dd m h&&(decide (m<=100000)&&agb n g (lst Dd m h))
noncomputable def XI(n:Nat)(g:Nat->List Sh)(m:Nat)(h:Nat->List Sh):Bool:=V8 n g (lst Dd m h)
noncomputable def JI(n:Nat)(g:Nat->List Sh)(m:Nat)(h:Nat->List Sh):Nat->List Sh:=V9 n g (lst Dd m h)
noncomputable def plP(n:Nat)(g:Nat->List Sh)(m:Nat)(h:Nat->List Sh):Int:=aex n g (lst Dd m h)
noncomputable def plE(n:Nat)(g:Nat->List Sh)(m:Nat)(h:Nat->List Sh):Nat:=aey n g (lst Dd m h)
end Go.Pl
namespace Go.Proofs
open Go Go.Sx Go.Pl
noncomputable def D76:List Sh->Tree Sh
 |[.agg [s0],s1]=>match sD 4 s0,sD 8 s1 with
  |some (n,g),ae (m,h)=>.need (plN n g m h) (.node (XI n g m h)
   (.leaf (.mV [.agg [.sl 4 n (JI n g m h)],.v .nilIface]))
   (.leaf (.mV [.agg [.sl 4 0 noT],.pV 109 (.pt [.i .i64 (plP n g m h),.er (plE n g m h) 329])])))
  |_,_=>.fail
 |_=>.fail
noncomputable def ES:Nat->Option (List Sh->Tree Sh)
 |76=>ae D76 |_=>aq
def oV(lv:Int)(N:Nat)(T:Nat->rU)(N':Nat)(mk:Nat->Int)(k0:Nat)(g0:Nat->List Sh):List Sh:=[.i .i64 lv,.sl 7 N (mF T),.sl 1 N' (mF mk),.sl 4 k0 g0]
def Px:List It:=[aH [0,1,0,1,1],aW 0,aH [1,1,1]]
def agc:List It:=aH [0,0,1,0,1,1]::Px
def SX(lv:Int)(N:Nat)(T:Nat->rU)(N':Nat)(mk:Nat->Int)(k0:Nat)(g0:Nat->List Sh)(p:Int)(n:Nat)(g:Nat->List Sh)(m:Nat)(R:Nat->Ei)(i:Int):Core:={tm:=vZ 104 [(0,.wV 4 1 (fun _=>oV lv N T N' mk k0 g0) 0 0),(3,.ptr 0 0),(5,.gs 1),(15,.sh (.sl 7 N (mF T))),(16,.sym .i64 (N:Int)),(17,.sym .i64 i)],hp:=[(0,.box [.sym .i64 p,.sh (.sl 4 n g)] 104),(1,.own 108 4 m (mF R))],nx:=2,lim:=L0,tc:=[]}
end Go.Proofs
namespace Go.Bf
section
variable{α κ:Type}[DecidableEq κ](key:α->κ)(next:α->List α)
def Aa(o:List α)(k:κ):Bool:=o.any fun n=>decide (key n=k)
def xB(m:Nat)(o:List α)(n:α):Option (List α):=if Aa key o (key n)=aj then ae o else if o.length=m then aq else ae (o++[n])
def uS(m:Nat):List α->List α->Option (List α)
 |o,[]=>ae o |o,n::l=>match xB key m o n with
  |none=>aq |some o'=>uS m o' l
def Di(m:Nat):Nat->List α->Nat->Option (List α)
 |0,o,_=>ae o |f+1,o,i=>match o[i]? with
  |none=>ae o |some n=>match uS key m o (next n) with
   |none=>aq |some o'=>Di m f o' (i+1)
variable{key next}
theorem aht{m:Nat}{o o':List α}{n:α}(h:xB key m o n=ae o'):∃t,o'=o++t/\t.length<=1/\(o.length<=m->o'.length<=m):=by
 unfold xB at h;split at h
 ·cases h;exact ⟨[],by simp,by simp,fun h=>h⟩
 ·split at h
  ·cases h
  ·cases h;exact ⟨[n],rfl,by simp,fun h=>by simp;omega⟩
theorem Gq{m:Nat}:∀{l o o':List α},uS key m o l=ae o'->∃t,o'=o++t/\(o.length<=m->o'.length<=m)
 |[],o,o',h=>by cases h;exact ⟨[],by simp,fun h=>h⟩ |n::l,o,o',h=>by
  simp only[uS] at h;cases hp:xB key m o n with
  |none=>rw[hp] at h;cases h |some o1=>
   rw[hp] at h;obtain ⟨t,rfl,_,h1⟩:=aht hp;obtain ⟨t',rfl,h2⟩:=Gq h;exact ⟨t++t',by simp,fun q=>h2 (h1 q)⟩
theorem Wh{m:Nat}:∀{f i:Nat} {o r:List α},Di key next m f o i=ae r->∃t,r=o++t/\(o.length<=m->r.length<=m)
 |0,_,o,r,h=>by cases h;exact ⟨[],by simp,fun h=>h⟩ |f+1,i,o,r,h=>by
  simp only[Di] at h;cases hi:o[i]? with
  |none=>rw[hi] at h;cases h;exact ⟨[],by simp,fun h=>h⟩ |some n=>
   rw[hi] at h;simp only at h;cases hp:uS key m o (next n) with
   |none=>rw[hp] at h;cases h |some o1=>
    rw[hp] at h;obtain ⟨t,rfl,h1⟩:=Gq hp;obtain ⟨t',rfl,h2⟩:=Wh h;exact ⟨t++t',by simp,fun q=>h2 (h1 q)⟩
end
section
variable{α κ:Type}[DecidableEq κ]{key:α->κ}{next:α->List α}
theorem Em{o:List α}{k:κ}:Aa key o k=aj↔∃n∈o,key n=k:=by simp[Aa]
theorem acC{o t:List α}{k:κ}(h:Aa key o k=aj):Aa key (o++t) k=aj:=by
 grind [Em,List.mem_append_left]
theorem ahu{m:Nat}{o o':List α}{n:α}(h:xB key m o n=ae o'):Aa key o' (key n)=aj:=by
 unfold xB at h;grind [Em]
theorem YA{m:Nat}:∀{l o o':List α},uS key m o l=ae o'->∀n∈l,Aa key o' (key n)=aj
 |[],_,_,_,_,h=>by cases h |n::l,o,o',h,x,hx=>by
  simp only[uS] at h;cases hp:xB key m o n with
  |none=>simp_all |some o1=>
   rw[hp] at h;rcases fj.1 hx with rfl|hx
   ·obtain ⟨t,rfl,_⟩:=Gq h
    exact acC (ahu hp)
   ·exact YA h x hx
theorem YB{m:Nat}{o o':List α}{n:α}{P:α->Prop}(h:xB key m o n=ae o')(ho:∀x∈o,P x)(hn:P n):∀x∈o',P x:=by
 grind [xB]
theorem KG{m:Nat}{P:α->Prop}:∀{l o o':List α},uS key m o l=ae o'->(∀x∈o,P x)->(∀x∈l,P x)->∀x∈o',P x
 |[],_,_,h,ho,_=>by cases h;exact ho |n::l,o,o',h,ho,hl=>by
  simp only[uS] at h;cases hp:xB key m o n with
  |none=>simp_all |some o1=>
   rw[hp] at h;exact KG h (YB hp ho (hl n bo)) fun x hx=>hl x (bi _ hx)
theorem Gs{m:Nat}{P:α->Prop}(hP:∀n,P n->∀t∈next n,P t):∀{f i:Nat} {o r:List α},Di key next m f o i=ae r->(∀x∈o,P x)->∀x∈r,P x
 |0,_,_,_,h,ho=>by cases h;exact ho |f+1,i,o,r,h,ho=>by
  simp only[Di] at h;cases hi:o[i]? with
  |none=>simp_all |some n=>
   rw[hi] at h;simp only at h;cases hp:uS key m o (next n) with
   |none=>simp_all |some o1=>
    rw[hp] at h;exact Gs hP h (KG hp ho (hP n (ho n (bf hi))))
theorem JJ{m:Nat}:∀{f i:Nat} {o r:List α},Di key next m f o i=ae r->r.length<i+f->(∀j n,j<i->o[j]?=ae n->∀t∈next n,Aa key o (key t)=aj)->∀n∈r,∀t∈next n,Aa key r (key t)=aj
 |0,i,o,r,h,hl,hc=>by
  cases h;intro n hn t ht;obtain ⟨j,hj,e⟩:=eI.1 hn;exact hc j n (by omega) (by simp_all) t ht
 |f+1,i,o,r,h,hl,hc=>by
  simp only[Di] at h;cases hi:o[i]? with
  |none=>
   rw[hi] at h;cases h;have hle:o.length<=i:=List.getElem?_eq_none_iff.1 hi;intro n hn t ht;obtain ⟨j,hj,e⟩:=eI.1 hn;exact hc j n (by omega) (by simp_all) t ht
  |some n=>
   rw[hi] at h;simp only at h;cases hp:uS key m o (next n) with
   |none=>simp_all |some o1=>
    rw[hp] at h;obtain ⟨t',e,_⟩:=Gq hp;refine JJ h (by omega) fun j x hj hx t ht=>?_
    have hil:i<o.length:=(aT.1 hi).1;have hx':o[j]?=ae x:=by
     grind
    rcases Nat.lt_or_ge j i with h1|h1
    ·grind [acC]
    grind [YA]
theorem aez{m:Nat}{o o':List α}{n:α}(h:xB key m o n=ae o')(ho:(o.map key).Nodup):(o'.map key).Nodup:=by
 unfold xB at h;grind [Em]
theorem SY{m:Nat}:∀{l o o':List α},uS key m o l=ae o'->(o.map key).Nodup->(o'.map key).Nodup
 |[],_,_,h,ho=>by cases h;exact ho |n::l,o,o',h,ho=>by
  simp only[uS] at h;cases hp:xB key m o n with
  |none=>simp_all |some o1=>
   rw[hp] at h;exact SY h (aez hp ho)
theorem Wi{m:Nat}:∀{f i:Nat} {o r:List α},Di key next m f o i=ae r->(o.map key).Nodup->(r.map key).Nodup
 |0,_,_,_,h,ho=>by cases h;exact ho |f+1,i,o,r,h,ho=>by
  simp only[Di] at h;cases hi:o[i]? with
  |none=>simp_all |some n=>
   rw[hi] at h;simp only at h;cases hp:uS key m o (next n) with
   |none=>simp_all |some o1=>
    rw[hp] at h;exact Wi h (SY hp ho)
def Lay(rk:α->Nat)(b:Nat)(o:List α):Prop:=o.Pairwise (fun x y=>rk x<=rk y)/\∀x∈o,rk x<=b
theorem akk{m b:Nat}{rk:α->Nat}{o o':List α}{n:α}(h:xB key m o n=ae o')(ho:Lay rk b o)(hn:rk n=b):Lay rk b o':=by
 unfold xB at h;split at h
 ·simp_all
 ·split at h
  ·cases h
  ·cases h
   refine ⟨List.pairwise_append.2 ⟨ho.1,List.pairwise_singleton _ _,fun x hx y hy=>?_⟩,fun x hx=>?_⟩
   ·obtain rfl:y=n:=by grind
    rw[hn];exact ho.2 x hx
   ·rcases List.mem_append.1 hx with hx|hx
    ·exact ho.2 x hx
    simp_all
theorem YC{m b:Nat}{rk:α->Nat}:∀{l o o':List α},uS key m o l=ae o'->Lay rk b o->(∀x∈l,rk x=b)->Lay rk b o'
 |[],_,_,h,ho,_=>by cases h;exact ho |n::l,o,o',h,ho,hl=>by
  simp only[uS] at h;cases hp:xB key m o n with
  |none=>simp_all |some o1=>
   rw[hp] at h;exact YC h (akk hp ho (hl n bo)) fun x hx=>hl x (bi _ hx)
theorem acD{m:Nat}{rk:α->Nat}(hr:∀n,∀t∈next n,rk t=rk n+1):∀{f i:Nat} {o r:List α},Di key next m f o i=ae r->(∀n,o[i]?=ae n->Lay rk (rk n+1) o)->o.Pairwise (fun x y=>rk x<=rk y)->r.Pairwise fun x y=>rk x<=rk y
 |0,_,_,_,h,_,ho=>by cases h;exact ho |f+1,i,o,r,h,hL,ho=>by
  simp only[Di] at h;cases hi:o[i]? with
  |none=>simp_all |some n=>
   rw[hi] at h;simp only at h;cases hp:uS key m o (next n) with
   |none=>simp_all |some o1=>
    rw[hp] at h;have h1:=YC hp (hL n hi) fun x hx=>hr n x hx
    refine acD hr h (fun n' hn'=>⟨h1.1,fun x hx=>?_⟩) h1.1;obtain ⟨t,e,_⟩:=Gq hp;have hil:=(aT.1 hi).1;have hn:o1[i]?=ae n:=by grind
    have hle:rk n<=rk n':=by
     obtain ⟨q1,e1⟩:=aT.1 hn;obtain ⟨q2,e2⟩:=aT.1 hn';have:=cS.1 h1.1 i (i+1) q1 q2 (by omega);simp_all
    have:=h1.2 x hx;omega
def xQ(key:α->κ)(next:α->List α)(full:α->Bool):List α->κ->Bool
 |[],_=>ag |n::l,k=>if key n=k then full n||(next n).any (fun t=>xQ key next full l (key t)) else xQ key next full l k
inductive CV(next:α->List α)(full:α->Bool):α->Prop
 |here {n:α}:full n=aj->CV next full n
 |step {n t:α}:t∈next n->CV next full t->CV next full n
theorem Wj{full:α->Bool}{Q:α->Prop}(hQ:∀n,Q n->∀t∈next n,Q t)(hk:∀x y,Q x->Q y->key x=key y->x=y):∀{l:List α},(∀x∈l,Q x)->(l.map key).Nodup->
  (∀(i:Nat) n,l[i]?=ae n->∀t∈next n,∃(j:Nat) (x:α),i<j/\l[j]?=ae x/\key x=key t)->∀n∈l,(xQ key next full l (key n)=aj↔CV next full n)
 |[],_,_,_,n,hn=>by cases hn |a::l,hq,hd,hf,n,hn=>by
  have hd':=List.nodup_cons.1 (by grind:(key a::l.map key).Nodup);have ih:=Wj (l:=l) (full:=full) hQ hk (fun x hx=>hq x (bi _ hx)) hd'.2 (fun i n hi t ht=>by
   obtain ⟨j,x,h1,h2,h3⟩:=hf (i+1) n (by grind) t ht;grind)
  have tail:∀t∈next a,(xQ key next full l (key t)=aj↔CV next full t):=fun t ht=>by
   obtain ⟨j,x,h1,h2,h3⟩:=hf 0 a rfl t ht;grind
  by_cases e:key a=key n
  ·have:a=n:=hk a n (hq a bo) (hq n hn) e
   subst this;unfold xQ;rw[if_pos rfl,eT,List.any_eq_true];constructor
   ·rintro (h|⟨t,ht,h⟩)
    ·exact .here h
    ·exact .step ht ((tail t ht).1 h)
   ·intro h
    cases h with
    |here h=>exact .inl h |step ht h=>grind
  grind [xQ]
theorem behind{m f:Nat}{rk:α->Nat}{Q:α->Prop}{a r:List α}(hQ:∀n,Q n->∀t∈next n,Q t)(hk:∀x y,Q x->Q y->key x=key y->x=y)(hr:∀n,∀t∈next n,rk t=rk n+1)
  (h:Di key next m f a 0=ae r) (hl:r.length<f) (ha:∀x∈a,Q x) (h1:a.length<=1):∀(i:Nat) n,r[i]?=ae n->∀t∈next n,∃(j:Nat) (x:α),i<j/\r[j]?=ae x/\key x=key t:=by
 have hq:=Gs hQ h ha;have hc:=JJ h (by omega) (fun j n hj=>by omega);have hs:=acD hr h (fun n hn=>⟨by
   match a,h1 with
   |[],_=>simp |[x],_=>simp,fun x hx=>by
   match a,h1,hn,hx with
   |[y],_,hn,hx=>
    simp_all⟩) (by
   match a,h1 with
   |[],_=>simp |[x],_=>simp)
 intro i n hi t ht;obtain ⟨x,hx,e⟩:=Em.1 (hc n (bf hi) t ht);obtain ⟨j,hj,ej⟩:=eI.1 hx;have hxt:x=t:=hk x t (hq x hx) (hQ n (hq n (bf hi)) t ht) e;refine ⟨j,x,?_,by simp_all,e⟩;grind [cS]
end
end Go.Bf
namespace Go.Gm
open Go.Bf
structure Nd(S:Type)where
 placed:Nat
 st:S
structure Game(S:Type)where
 n:Nat
 id:Nat->Int
 com:Nat->Bool
 KW:Nat->Bool
 mask:Nat->Nat
 run:S->Nat->Option S
 all:Bool
section
variable{S:Type}(g:Game S)
def may(p i:Nat):Bool:=!p.testBit i&&(aE g.n).all fun j=>!(g.mask i).testBit j||p.testBit j
def uH(nd:Nd S)(i:Nat):List ((Int×Bool)×Nd S):=
 if may g nd.placed i=aj then
  (match g.com i,g.run nd.st i with
   |true,ae s=>[((g.id i,aj),⟨nd.placed|||1<<<i,s⟩)] |_,_=>[]) ++
  (if g.KW i=aj/\(g.all=aj->(g.run nd.st i).isSome=aj) then [((g.id i,ag),⟨nd.placed|||1<<<i,nd.st⟩)] else [])
 else []
def turns(nd:Nd S):List ((Int×Bool)×Nd S):=(aE g.n).flatMap (uH g nd)
def next(nd:Nd S):List (Nd S):=(turns g nd).map (·.2)
def rk(nd:Nd S):Nat:=(aE g.n).countP fun i=>nd.placed.testBit i
def full(nd:Nd S):Bool:=decide (nd.placed=2^g.n - 1)
variable{g}
theorem Py(p i j:Nat):(p|||1<<<i).testBit j=(p.testBit j||decide (i=j)):=by
 grind [eE]
theorem Q7{nd:Nd S}{i:Nat}{t:(Int×Bool)×Nd S}(h:t∈uH g nd i):nd.placed.testBit i=ag/\t.1.1=g.id i/\t.2.placed=nd.placed|||1<<<i:=by
 unfold uH at h;grind [may]
theorem S9{p:Nat->Bool}{i:Nat}:∀n,i<n->p i=ag->(aE n).countP (fun j=>p j||decide (i=j))=(aE n).countP p+1
 |0,h,_=>by omega |n+1,h,hp=>by
  rw[j7,iO,iO];by_cases e:i=n
  ·grind [aE,decide,List.countP_congr,decide_eq_false]
  ·have ih:=S9 (p:=p) (i:=i) n (by omega) hp
   grind
theorem Wn{nd:Nd S}:∀t∈next g nd,rk g t=rk g nd+1:=fun t ht=>by
 unfold next turns at ht;obtain ⟨x,hx,rfl⟩:=bN.1 ht;obtain ⟨i,hi,hx⟩:=cj.1 hx;obtain ⟨h1,_,h2⟩:=Q7 hx;unfold rk;rw[h2];simp only[Py];simp_all [S9,bh]
theorem lt_next{nd:Nd S}(h:nd.placed<2^g.n):∀t∈next g nd,t.placed<2^g.n:=fun t ht=>by
 unfold next turns at ht;obtain ⟨x,hx,rfl⟩:=bN.1 ht;obtain ⟨i,hi,hx⟩:=cj.1 hx;obtain ⟨_,_,h2⟩:=Q7 hx;simp_all [gq,eE,gC,cO,bh]
theorem YD{nd:Nd S}(h:nd.placed<2^g.n):full g nd=aj↔∀i,i<g.n->nd.placed.testBit i=aj:=by
 unfold full;rw[decide_eq_true_eq];constructor
 ·simp_all
 ·intro e
  refine iF fun i=>?_
  grind [Nat.testBit_two_pow_sub_one,decide_eq_true,decide_eq_false,ew,da,dq]
def least(g:Game S)(ld:Nd S->Bool):Nat->Nd S->List (Int×Bool)
 |0,_=>[] |f+1,nd=>if full g nd=aj then [] else match (turns g nd).find? fun t=>ld t.2 with
  |none=>[] |some t=>t.1::least g ld f t.2
theorem aeA{nd:Nd S}(h:CV (next g) (full g) nd)(hn:full g nd=ag):∃t∈turns g nd,CV (next g) (full g) t.2:=by
 cases h with
 |here h=>simp_all |step ht h=>
  obtain ⟨t,q,rfl⟩:=bN.1 ht;grind
end
open Go.Bf
section
variable{S κ:Type}[DecidableEq κ](g:Game S)(key:Nd S->κ)
def start(s:S):Nd S:=⟨0,s⟩
def uV(s:S)(m:Nat):Option (List (Nd S)):=Di key (next g) m (m+1) [start s] 0
def Nc(r:List (Nd S))(nd:Nd S):Bool:=xQ key (next g) (full g) r (key nd)
def JK(s:S)(r:List (Nd S)):Bool:=Nc g key r (start s)
def Dj(s:S)(r:List (Nd S)):List (Int×Bool):=if JK g key s r=aj then least g (Nc g key r) (g.n+1) (start s) else []
variable{g key}
theorem Nh{s:S}{m:Nat}(hm:1<=m){r:List (Nd S)}(h:uV g key s m=ae r):1<=r.length/\r.length<=m:=by
 obtain ⟨t,e,hl⟩:=Wh h;simp_all
theorem agd{s:S}{m:Nat}(hm:1<=m){r:List (Nd S)}(h:uV g key s m=ae r){Q:Nd S->Prop}(hQ:∀n,Q n->∀t∈next g n,Q t)(hk:∀x y,Q x->Q y->key x=key y->x=y)(hs:Q (start s)):
  ∀n∈r,(Nc g key r n=aj↔CV (next g) (full g) n):=by
 have hl:=(Nh hm h).2;have ha:∀x∈[start s],Q x:=fun x hx=>by
  simp_all
 exact Wj hQ hk (Gs hQ h ha) (Wi h (by simp)) (behind hQ hk (fun n t ht=>Wn t ht) h (by omega) ha (by simp))
theorem YE{s:S}{m:Nat}{r:List (Nd S)}(h:uV g key s m=ae r):start s∈r:=by
 obtain ⟨t,e,_⟩:=Wh h;rw[e];simp
theorem start_lt(s:S):(start s).placed<2^g.n:=Nat.pos_of_ne_zero (by simp)
theorem ahv{s:S}{m:Nat}(hm:1<=m){r:List (Nd S)}(h:uV g key s m=ae r){Q:Nd S->Prop}(hQ:∀n,Q n->∀t∈next g n,Q t)(hk:∀x y,Q x->Q y->key x=key y->x=y)(hs:Q (start s)):∀n∈r,∀t∈next g n,t∈r:=by
 have hl:=(Nh hm h).2;have ha:∀x∈[start s],Q x:=fun x hx=>by
  simp_all
 have hq:=Gs hQ h ha;have hc:=JJ h (by omega) (fun j n hj=>by omega);grind [Em]
theorem akl{s:S}{m:Nat}(hm:1<=m){r:List (Nd S)}(h:uV g key s m=ae r){Q:Nd S->Prop}(hQ:∀n,Q n->∀t∈next g n,Q t)(hk:∀x y,Q x->Q y->key x=key y->x=y)(hs:Q (start s)):JK g key s r=aj↔CV (next g) (full g) (start s):=
 agd hm h hQ hk hs _ (YE h)
end
end Go.Gm
namespace Go.Pl
open Go Go.Sx
theorem Bd(p:Nat):bS 64 (p:Int)=BitVec.ofNat 64 p:=BitVec.ofInt_natCast 64 p
theorem Gt{p:Nat}(h:p<2^63):aA.wrap (p:Int)=(p:Int):=pI (by omega) (by omega)
theorem agf{p q n:Nat}(h:p<2^n):p&&&q<2^n:=jf Nat.and_le_left h
theorem akm{p q:Nat}(hp:p<2^63)(hq:q<2^63):mD.bin .and .i64 (p:Int) (q:Int)=((p&&&q:Nat):Int):=by
 show aA.wrap ((bS 64 (p:Int)&&&bS 64 (q:Int)).toNat:Int)=_;rw[Bd,Bd,iP,cB,cB,cu (by omega),cu (by omega)];exact Gt (agf hp)
theorem anv{p q:Nat}(hp:p<2^63)(hq:q<2^63):mD.bin .or .i64 (p:Int) (q:Int)=((p|||q:Nat):Int):=by
 show aA.wrap ((bS 64 (p:Int)|||bS 64 (q:Int)).toNat:Int)=_;rw[Bd,Bd,BitVec.toNat_or,cB,cB,cu (by omega),cu (by omega)];exact Gt (gq hp hq)
theorem acE{p q:Nat}(hp:p<2^63)(hq:q<2^63):mD.bin .andNot .i64 (p:Int) (q:Int)=((p&&&(2^64 - 1 - q):Nat):Int):=by
 show aA.wrap ((bS 64 (p:Int)&&&~~~ bS 64 (q:Int)).toNat:Int)=_;rw[Bd,Bd,iP,BitVec.toNat_not,cB,cB,cu (by omega),cu (by omega)];exact Gt (agf hp)
theorem acF{i:Nat}(h:i<63):mD.bin .shl .i64 (ab 1) (i:Int)=((2^i:Nat):Int):=by
 show aA.wrap ((1:Int)*2^(min (i:Int).toNat 64))=_;rw[bR,gS (by omega),Int.one_mul];have:((2:Int)^i)=((2^i:Nat):Int):=by push_cast;rfl
 rw[this];exact Gt (cO (by decide) h)
theorem akn{p i:Nat}(h:i<=64):mD.bin .shr .i64 (p:Int) (i:Int)=((p>>>i:Nat):Int):=by
 show Int.fdiv (p:Int) (2^(min (i:Int).toNat 64))=_;rw[bR,gS h];have:((2:Int)^i)=((2^i:Nat):Int):=by push_cast;rfl
 rw[this,Int.fdiv_eq_ediv_of_nonneg _ (Int.natCast_nonneg _),<-Int.natCast_ediv,gO]
theorem anw(p i:Nat):p>>>i<=p:=by rw[gO];exact Nat.div_le_self _ _
theorem anx{p i:Nat}(hp:p<2^63)(hi:i<=64):mD.eq (mD.bin .and .i64 (mD.bin .shr .i64 (p:Int) (i:Int)) (ab 1)) (ab 1)=p.testBit i:=by
 rw[akn hi];have h:=akm (p:=p>>>i) (q:=1) (jf (anw p i) hp) (by decide);have h:mD.bin .and .i64 ((p>>>i:Nat):Int) (ab 1)=((p>>>i&&&1:Nat):Int):=h;rw[h,nC];unfold Nat.testBit;rw[lJ];have h1:1&&&p>>>i=p>>>i % 2:=by rw[lJ];exact Nat.and_one_is_mod _
 rw[h1];rcases Nat.mod_two_eq_zero_or_one (p>>>i) with e|e<;>rw[e]<;>rfl
theorem ahw{m p N:Nat}(hm:m<2^N)(hN:N<=62)(hp:p<2^63):mD.nt (mD.eq (mD.bin .andNot .i64 (m:Int) (p:Int)) (ab 0))=!((aE N).all fun j=>!m.testBit j||p.testBit j):=by
 have hm':m<2^63:=da hm (dq (by decide) (by omega));rw[acE hm' hp,oP,nC];congr 1;have key:∀j,(m&&&(2^64 - 1 - p)).testBit j=(m.testBit j && !p.testBit j):=fun j=>by
  rw[Nat.testBit_and];by_cases hj:j<N
  ·rw[show 2^64 - 1 - p=2^64 - (p+1) by omega,Nat.testBit_two_pow_sub_succ (by omega),decide_eq_true (by omega:j<64)];rfl
  ·have:m.testBit j=ag:=ew (da hm (dq (by decide) (by omega)))
   rw[this];rfl
 cases ha:(aE N).all fun j=>!m.testBit j||p.testBit j with
 |true=>
  rw[be] at ha;have:m&&&(2^64 - 1 - p)=0:=iF fun j=>by
   rw[key,j8];by_cases hj:j<N
   ·have:=ha j (bh.2 hj)
    revert this;cases m.testBit j<;>cases p.testBit j<;>simp
   ·have:m.testBit j=ag:=ew (da hm (dq (by decide) (by omega)))
    rw[this];rfl
  rw[this];rfl
 |false=>
  have:m&&&(2^64 - 1 - p)≠0:=fun e=>by
   have:((aE N).all fun j=>!m.testBit j||p.testBit j)=aj:=by
    rw[be];intro j hj;have:=key j;rw[e,j8] at this;revert this;cases m.testBit j<;>cases p.testBit j<;>simp
   rw[this] at ha;cases ha
  have h2:(((m&&&(2^64 - 1 - p):Nat):Int)==ab 0)=ag:=by
   rw[beq_eq_false_iff_ne];intro e;exact this (dR e)
  exact h2
theorem or_eq{p i:Nat}(hp:p<2^63)(hi:i<63):mD.bin .or .i64 (p:Int) (mD.bin .shl .i64 (ab 1) (i:Int))=((p|||1<<<i:Nat):Int):=by
 rw[acF hi,anv hp (cO (by decide) hi),eE,gC]
theorem ako{N:Nat}(hN:N<=62):mD.sub .i64 (mD.bin .shl .i64 (ab 1) (N:Int)) (ab 1)=((2^N - 1:Nat):Int):=by
 rw[acF (by omega),Dz];have h1:1<=2^N:=Nat.one_le_two_pow;have h2:2^N<2^63:=cO (by decide) (by omega);have:((2^N:Nat):Int) - ab 1=((2^N - 1:Nat):Int):=by
  rw[Int.natCast_sub h1];rfl
 rw[this];exact Gt (by omega)
open Go Go.Sx Go.Proofs Go.Gm
noncomputable def KX(lv:Int)(N:Nat)(T:Nat->rU)(mk:Nat->Int)(n:Nat):Game (Nat->List Sh) where
 n:=N
 id i:=(T i).id
 com i:=(T i).st==3||(T i).st==2
 KW i:=!((T i).st==3)
 mask i:=(mk i).toNat
 run g i:=if XI n g (T i).k (T i).g=aj then ae (JI n g (T i).k (T i).g) else aq
 all:=lv==3
def Aj(n:Nat)(t:(Int×Bool)×Nd (Nat->List Sh)):Ei:=⟨t.1.1,t.1.2,(t.2.placed:Nat),n,t.2.st⟩
structure TuP(lv:Int)(N:Nat)(T:Nat->rU)(N':Nat)(mk:Nat->Int)(p:Int)(n:Nat)(g:Nat->List Sh):Prop where
 le:N<=62
 eq:N=N'
 pos:0<=p
 lt:p<2^62
 mpos:∀i,i<N->0<=mk i
 mlt:∀i,i<N->(mk i).toNat<2^N
 fit:∀i,i<N->may (KX lv N T mk n) p.toNat i=aj->plN n g (T i).k (T i).g=aj
noncomputable def tuL(lv:Int)(N:Nat)(T:Nat->rU)(mk:Nat->Int)(p:Int)(n:Nat)(g:Nat->List Sh):List Ei:=(turns (KX lv N T mk n) ⟨p.toNat,g⟩).map (Aj n)
noncomputable def ZU(lv:Int)(N:Nat)(T':Nat->List Sh)(N':Nat)(mk':Nat->List Sh)(p:Int)(st n:Nat)(g:Nat->List Sh):Bool:=
 okB rU N T'&&(okB Int N' mk'&&((bA st 4||bA n 0)&&@decide (TuP lv N (mJ T') N' (mJ mk') p n g) (aB _)))
noncomputable def JL(lv:Int)(N:Nat)(T':Nat->List Sh)(mk':Nat->List Sh)(p:Int)(n:Nat)(g:Nat->List Sh):Nat:=(tuL lv N (mJ T') (mJ mk') p n g).length
noncomputable def ZV(lv:Int)(N:Nat)(T':Nat->List Sh)(mk':Nat->List Sh)(p:Int)(n:Nat)(g:Nat->List Sh):Nat->Ei:=nth (tuL lv N (mJ T') (mJ mk') p n g)
theorem Ib{α:Type}[Row α](o:Nat->α):mJ (mF o)=o:=funext fun i=>Eb o i
end Go.Pl
namespace Go.Proofs
open Go Go.Sx Go.Pl Go.Gm
noncomputable def D41:List Sh->Tree Sh
 |[.pt [.i .i64 lv,s1,s2,s3],.agg [t,.sl st n g]]=>match sD 7 s1,sD 1 s2,sD 4 s3,nR t with
  |some (N,T'),ae (N',mk'),ae _,ae p=>.need (ZU lv N T' N' mk' p st n g) (.leaf (.sl 4 (JL lv N T' mk' p n g) (mF (ZV lv N T' mk' p n g)))) |_,_,_,_=>.fail
 |_=>.fail
open Go Go.Sx Go.Pl
theorem aeC(A:Prim)(W:Wd)(lv:Int)(N:Nat)(T:Nat->rU)(N':Nat)(mk:Nat->Int)(k0:Nat)(g0:Nat->List Sh)(p:Int)(n:Nat)(g:Nat->List Sh)(m:Nat)(R:Nat->Ei)(i':Int){ψ:rQ->Prop}(y1:ψ (aK 0 [ap 1 1,aF (fun (x:Nat)=>oV lv N T N' mk k0 g0) fun (x:Nat)=>oV lv N T N' mk k0 g0,ap 0 0,av (ao 7 N (mF T)) (ao 7 N (mF T)),ac (A.nH N) (ab N),ac (ab 0) i',ac p p,av (ao 4 n g) (ao 4 n g),ap m 0])):qA ψ (nZ (C7 A W ES ny) oG 300 400 41 [.code []] (mM 104 [.pt (oV lv N T N' mk k0 g0),.agg [.i .i64 p,.sl 4 n g]] L0) [] [⟨41,Px,SX lv N T N' mk k0 g0 p n g m R i',[]⟩]):=by
 exact um y1 (by kernel_rfl)
theorem Wp(A:Prim)(W:Wd)(lv:Int)(N:Nat)(T:Nat->rU)(N':Nat)(mk:Nat->Int)(k0:Nat)(g0:Nat->List Sh)(p:Int)(n:Nat)(g:Nat->List Sh)(m m':Nat)(R R':Nat->Ei)(i i':Int){ψ:rQ->Prop}{c0 c1 c2 c3 c4 c5 c6 c7:Bool}(e0:A.lt i (ab N)=c0)(e1:A.eq (A.bin BinOp.and aA (A.bin BinOp.shr aA p i) (ab 1)) (ab 1)=c1)(e2:A.nt (A.eq (A.bin BinOp.andNot aA (mk (A.toN i)) p) (ab 0))=c2)(e3:XI n g (T (A.toN i)).k (T (A.toN i)).g=c3)(e4:A.eq (T (A.toN i)).st (ab 3)=c4)(e5:A.nt (A.eq (T (A.toN i)).st (ab 3))=c5)(e6:A.nt (A.eq lv (ab 3))=c6)(e7:A.eq (T (A.toN i)).st (ab 2)=c7)(h1:c0=aj->(A.inB i N)=aj)(h2:c0=aj->(A.le (ab 0) i)=aj)(h3:c0=aj->c1=ag->(A.inB i N')=aj)(h4:c0=aj->c1=ag->c2=ag->(plN n g (T (A.toN i)).k (T (A.toN i)).g)=aj)(h5:c0=aj->c1=ag->c2=ag->c3=aj->c4=aj->(A.room (A.addN m 1) 48)=aj)(h6:c0=aj->c1=ag->c2=ag->c3=aj->c4=aj->c5=aj->c6=aj->(A.room (A.addN (A.addN m 1) 1) 48)=aj)(h7:c0=aj->c1=ag->c2=ag->c3=aj->c4=aj->c5=aj->c6=ag->(A.room (A.addN (A.addN m 1) 1) 48)=aj)(h8:c0=aj->c1=ag->c2=ag->c3=aj->c4=ag->c7=aj->(A.room (A.addN m 1) 48)=aj)(h9:c0=aj->c1=ag->c2=ag->c3=aj->c4=ag->c7=aj->c5=aj->c6=aj->(A.room (A.addN (A.addN m 1) 1) 48)=aj)(h10:c0=aj->c1=ag->c2=ag->c3=aj->c4=ag->c7=aj->c5=aj->c6=ag->(A.room (A.addN (A.addN m 1) 1) 48)=aj)(h11:c0=aj->c1=ag->c2=ag->c3=aj->c4=ag->c7=ag->c5=aj->c6=aj->(A.room (A.addN m 1) 48)=aj)(h12:c0=aj->c1=ag->c2=ag->c3=aj->c4=ag->c7=ag->c5=aj->c6=ag->(A.room (A.addN m 1) 48)=aj)(h13:c0=aj->c1=ag->c2=ag->c3=ag->c4=aj->c5=aj->c6=aj->(A.room (A.addN m 1) 48)=aj)(h14:c0=aj->c1=ag->c2=ag->c3=ag->c4=ag->c7=aj->c5=aj->c6=aj->(A.room (A.addN m 1) 48)=aj)(h15:c0=aj->c1=ag->c2=ag->c3=ag->c4=ag->c7=ag->c5=aj->c6=aj->(A.room (A.addN m 1) 48)=aj)(y1:c0=aj->c1=aj->ψ (aK 0 [ap 1 1,aF (fun (x:Nat)=>oV lv N T N' mk k0 g0) fun (x:Nat)=>oV lv N T N' mk k0 g0,ap 0 0,av (ao 7 N (mF T)) (ao 7 N (mF T)),ac (ab N) (ab N),ac (A.add .i64 i (ab 1)) i',ac p p,av (ao 4 n g) (ao 4 n g),ap m m',ax m (mF R) (mF R')]))(y2:c0=aj->c1=ag->c2=aj->ψ (aK 0 [ap 1 1,aF (fun (x:Nat)=>oV lv N T N' mk k0 g0) fun (x:Nat)=>oV lv N T N' mk k0 g0,ap 0 0,av (ao 7 N (mF T)) (ao 7 N (mF T)),ac (ab N) (ab N),ac (A.add .i64 i (ab 1)) i',ac p p,av (ao 4 n g) (ao 4 n g),ap m m',ax m (mF R) (mF R')]))(y3:c0=aj->c1=ag->c2=ag->c3=aj->c4=aj->c5=aj->c6=aj->ψ (aK 0 [ap 1 1,aF (fun (x:Nat)=>oV lv N T N' mk k0 g0) fun (x:Nat)=>oV lv N T N' mk k0 g0,ap 0 0,av (ao 7 N (mF T)) (ao 7 N (mF T)),ac (ab N) (ab N),ac (A.add .i64 i (ab 1)) i',ac p p,av (ao 4 n g) (ao 4 n g),ap (A.addN (A.addN m 1) 1) m',ax (A.addN (A.addN m 1) 1) (A.snoc (A.snoc (mF R) m (nM [[az .i64 (T (A.toN i)).id,bX aj,az .i64 (A.bin cy aA p (A.bin b9 aA (ab 1) i)),ao 4 n (JI n g (T (A.toN i)).k (T (A.toN i)).g)]])) (A.addN m 1) (nM [[az .i64 (T (A.toN i)).id,bX ag,az .i64 (A.bin cy aA p (A.bin b9 aA (ab 1) i)),ao 4 n g]])) (mF R')]))(y4:c0=aj->c1=ag->c2=ag->c3=aj->c4=aj->c5=aj->c6=ag->ψ (aK 0 [ap 1 1,aF (fun (x:Nat)=>oV lv N T N' mk k0 g0) fun (x:Nat)=>oV lv N T N' mk k0 g0,ap 0 0,av (ao 7 N (mF T)) (ao 7 N (mF T)),ac (ab N) (ab N),ac (A.add .i64 i (ab 1)) i',ac p p,av (ao 4 n g) (ao 4 n g),ap (A.addN (A.addN m 1) 1) m',ax (A.addN (A.addN m 1) 1) (A.snoc (A.snoc (mF R) m (nM [[az .i64 (T (A.toN i)).id,bX aj,az .i64 (A.bin cy aA p (A.bin b9 aA (ab 1) i)),ao 4 n (JI n g (T (A.toN i)).k (T (A.toN i)).g)]])) (A.addN m 1) (nM [[az .i64 (T (A.toN i)).id,bX ag,az .i64 (A.bin cy aA p (A.bin b9 aA (ab 1) i)),ao 4 n g]])) (mF R')]))(y5:c0=aj->c1=ag->c2=ag->c3=aj->c4=aj->c5=ag->ψ (aK 0 [ap 1 1,aF (fun (x:Nat)=>oV lv N T N' mk k0 g0) fun (x:Nat)=>oV lv N T N' mk k0 g0,ap 0 0,av (ao 7 N (mF T)) (ao 7 N (mF T)),ac (ab N) (ab N),ac (A.add .i64 i (ab 1)) i',ac p p,av (ao 4 n g) (ao 4 n g),ap (A.addN m 1) m',ax (A.addN m 1) (A.snoc (mF R) m (nM [[az .i64 (T (A.toN i)).id,bX aj,az .i64 (A.bin cy aA p (A.bin b9 aA (ab 1) i)),ao 4 n (JI n g (T (A.toN i)).k (T (A.toN i)).g)]])) (mF R')]))(y6:c0=aj->c1=ag->c2=ag->c3=aj->c4=ag->c7=aj->c5=aj->c6=aj->ψ (aK 0 [ap 1 1,aF (fun (x:Nat)=>oV lv N T N' mk k0 g0) fun (x:Nat)=>oV lv N T N' mk k0 g0,ap 0 0,av (ao 7 N (mF T)) (ao 7 N (mF T)),ac (ab N) (ab N),ac (A.add .i64 i (ab 1)) i',ac p p,av (ao 4 n g) (ao 4 n g),ap (A.addN (A.addN m 1) 1) m',ax (A.addN (A.addN m 1) 1) (A.snoc (A.snoc (mF R) m (nM [[az .i64 (T (A.toN i)).id,bX aj,az .i64 (A.bin cy aA p (A.bin b9 aA (ab 1) i)),ao 4 n (JI n g (T (A.toN i)).k (T (A.toN i)).g)]])) (A.addN m 1) (nM [[az .i64 (T (A.toN i)).id,bX ag,az .i64 (A.bin cy aA p (A.bin b9 aA (ab 1) i)),ao 4 n g]])) (mF R')]))(y7:c0=aj->c1=ag->c2=ag->c3=aj->c4=ag->c7=aj->c5=aj->c6=ag->ψ (aK 0 [ap 1 1,aF (fun (x:Nat)=>oV lv N T N' mk k0 g0) fun (x:Nat)=>oV lv N T N' mk k0 g0,ap 0 0,av (ao 7 N (mF T)) (ao 7 N (mF T)),ac (ab N) (ab N),ac (A.add .i64 i (ab 1)) i',ac p p,av (ao 4 n g) (ao 4 n g),ap (A.addN (A.addN m 1) 1) m',ax (A.addN (A.addN m 1) 1) (A.snoc (A.snoc (mF R) m (nM [[az .i64 (T (A.toN i)).id,bX aj,az .i64 (A.bin cy aA p (A.bin b9 aA (ab 1) i)),ao 4 n (JI n g (T (A.toN i)).k (T (A.toN i)).g)]])) (A.addN m 1) (nM [[az .i64 (T (A.toN i)).id,bX ag,az .i64 (A.bin cy aA p (A.bin b9 aA (ab 1) i)),ao 4 n g]])) (mF R')]))(y8:c0=aj->c1=ag->c2=ag->c3=aj->c4=ag->c7=aj->c5=ag->ψ (aK 0 [ap 1 1,aF (fun (x:Nat)=>oV lv N T N' mk k0 g0) fun (x:Nat)=>oV lv N T N' mk k0 g0,ap 0 0,av (ao 7 N (mF T)) (ao 7 N (mF T)),ac (ab N) (ab N),ac (A.add .i64 i (ab 1)) i',ac p p,av (ao 4 n g) (ao 4 n g),ap (A.addN m 1) m',ax (A.addN m 1) (A.snoc (mF R) m (nM [[az .i64 (T (A.toN i)).id,bX aj,az .i64 (A.bin cy aA p (A.bin b9 aA (ab 1) i)),ao 4 n (JI n g (T (A.toN i)).k (T (A.toN i)).g)]])) (mF R')]))(y9:c0=aj->c1=ag->c2=ag->c3=aj->c4=ag->c7=ag->c5=aj->c6=aj->ψ (aK 0 [ap 1 1,aF (fun (x:Nat)=>oV lv N T N' mk k0 g0) fun (x:Nat)=>oV lv N T N' mk k0 g0,ap 0 0,av (ao 7 N (mF T)) (ao 7 N (mF T)),ac (ab N) (ab N),ac (A.add .i64 i (ab 1)) i',ac p p,av (ao 4 n g) (ao 4 n g),ap (A.addN m 1) m',ax (A.addN m 1) (A.snoc (mF R) m (nM [[az .i64 (T (A.toN i)).id,bX ag,az .i64 (A.bin cy aA p (A.bin b9 aA (ab 1) i)),ao 4 n g]])) (mF R')]))(y10:c0=aj->c1=ag->c2=ag->c3=aj->c4=ag->c7=ag->c5=aj->c6=ag->ψ (aK 0 [ap 1 1,aF (fun (x:Nat)=>oV lv N T N' mk k0 g0) fun (x:Nat)=>oV lv N T N' mk k0 g0,ap 0 0,av (ao 7 N (mF T)) (ao 7 N (mF T)),ac (ab N) (ab N),ac (A.add .i64 i (ab 1)) i',ac p p,av (ao 4 n g) (ao 4 n g),ap (A.addN m 1) m',ax (A.addN m 1) (A.snoc (mF R) m (nM [[az .i64 (T (A.toN i)).id,bX ag,az .i64 (A.bin cy aA p (A.bin b9 aA (ab 1) i)),ao 4 n g]])) (mF R')]))(y11:c0=aj->c1=ag->c2=ag->c3=aj->c4=ag->c7=ag->c5=ag->ψ (aK 0 [ap 1 1,aF (fun (x:Nat)=>oV lv N T N' mk k0 g0) fun (x:Nat)=>oV lv N T N' mk k0 g0,ap 0 0,av (ao 7 N (mF T)) (ao 7 N (mF T)),ac (ab N) (ab N),ac (A.add .i64 i (ab 1)) i',ac p p,av (ao 4 n g) (ao 4 n g),ap m m',ax m (mF R) (mF R')]))(y12:c0=aj->c1=ag->c2=ag->c3=ag->c4=aj->c5=aj->c6=aj->ψ (aK 0 [ap 1 1,aF (fun (x:Nat)=>oV lv N T N' mk k0 g0) fun (x:Nat)=>oV lv N T N' mk k0 g0,ap 0 0,av (ao 7 N (mF T)) (ao 7 N (mF T)),ac (ab N) (ab N),ac (A.add .i64 i (ab 1)) i',ac p p,av (ao 4 n g) (ao 4 n g),ap (A.addN m 1) m',ax (A.addN m 1) (A.snoc (mF R) m (nM [[az .i64 (T (A.toN i)).id,bX ag,az .i64 (A.bin cy aA p (A.bin b9 aA (ab 1) i)),ao 4 n g]])) (mF R')]))(y13:c0=aj->c1=ag->c2=ag->c3=ag->c4=aj->c5=aj->c6=ag->ψ (aK 0 [ap 1 1,aF (fun (x:Nat)=>oV lv N T N' mk k0 g0) fun (x:Nat)=>oV lv N T N' mk k0 g0,ap 0 0,av (ao 7 N (mF T)) (ao 7 N (mF T)),ac (ab N) (ab N),ac (A.add .i64 i (ab 1)) i',ac p p,av (ao 4 n g) (ao 4 n g),ap m m',ax m (mF R) (mF R')]))(y14:c0=aj->c1=ag->c2=ag->c3=ag->c4=aj->c5=ag->ψ (aK 0 [ap 1 1,aF (fun (x:Nat)=>oV lv N T N' mk k0 g0) fun (x:Nat)=>oV lv N T N' mk k0 g0,ap 0 0,av (ao 7 N (mF T)) (ao 7 N (mF T)),ac (ab N) (ab N),ac (A.add .i64 i (ab 1)) i',ac p p,av (ao 4 n g) (ao 4 n g),ap m m',ax m (mF R) (mF R')]))(y15:c0=aj->c1=ag->c2=ag->c3=ag->c4=ag->c7=aj->c5=aj->c6=aj->ψ (aK 0 [ap 1 1,aF (fun (x:Nat)=>oV lv N T N' mk k0 g0) fun (x:Nat)=>oV lv N T N' mk k0 g0,ap 0 0,av (ao 7 N (mF T)) (ao 7 N (mF T)),ac (ab N) (ab N),ac (A.add .i64 i (ab 1)) i',ac p p,av (ao 4 n g) (ao 4 n g),ap (A.addN m 1) m',ax (A.addN m 1) (A.snoc (mF R) m (nM [[az .i64 (T (A.toN i)).id,bX ag,az .i64 (A.bin cy aA p (A.bin b9 aA (ab 1) i)),ao 4 n g]])) (mF R')]))(y16:c0=aj->c1=ag->c2=ag->c3=ag->c4=ag->c7=aj->c5=aj->c6=ag->ψ (aK 0 [ap 1 1,aF (fun (x:Nat)=>oV lv N T N' mk k0 g0) fun (x:Nat)=>oV lv N T N' mk k0 g0,ap 0 0,av (ao 7 N (mF T)) (ao 7 N (mF T)),ac (ab N) (ab N),ac (A.add .i64 i (ab 1)) i',ac p p,av (ao 4 n g) (ao 4 n g),ap m m',ax m (mF R) (mF R')]))(y17:c0=aj->c1=ag->c2=ag->c3=ag->c4=ag->c7=aj->c5=ag->ψ (aK 0 [ap 1 1,aF (fun (x:Nat)=>oV lv N T N' mk k0 g0) fun (x:Nat)=>oV lv N T N' mk k0 g0,ap 0 0,av (ao 7 N (mF T)) (ao 7 N (mF T)),ac (ab N) (ab N),ac (A.add .i64 i (ab 1)) i',ac p p,av (ao 4 n g) (ao 4 n g),ap m m',ax m (mF R) (mF R')]))(y18:c0=aj->c1=ag->c2=ag->c3=ag->c4=ag->c7=ag->c5=aj->c6=aj->ψ (aK 0 [ap 1 1,aF (fun (x:Nat)=>oV lv N T N' mk k0 g0) fun (x:Nat)=>oV lv N T N' mk k0 g0,ap 0 0,av (ao 7 N (mF T)) (ao 7 N (mF T)),ac (ab N) (ab N),ac (A.add .i64 i (ab 1)) i',ac p p,av (ao 4 n g) (ao 4 n g),ap (A.addN m 1) m',ax (A.addN m 1) (A.snoc (mF R) m (nM [[az .i64 (T (A.toN i)).id,bX ag,az .i64 (A.bin cy aA p (A.bin b9 aA (ab 1) i)),ao 4 n g]])) (mF R')]))(y19:c0=aj->c1=ag->c2=ag->c3=ag->c4=ag->c7=ag->c5=aj->c6=ag->ψ (aK 0 [ap 1 1,aF (fun (x:Nat)=>oV lv N T N' mk k0 g0) fun (x:Nat)=>oV lv N T N' mk k0 g0,ap 0 0,av (ao 7 N (mF T)) (ao 7 N (mF T)),ac (ab N) (ab N),ac (A.add .i64 i (ab 1)) i',ac p p,av (ao 4 n g) (ao 4 n g),ap m m',ax m (mF R) (mF R')]))(y20:c0=aj->c1=ag->c2=ag->c3=ag->c4=ag->c7=ag->c5=ag->ψ (aK 0 [ap 1 1,aF (fun (x:Nat)=>oV lv N T N' mk k0 g0) fun (x:Nat)=>oV lv N T N' mk k0 g0,ap 0 0,av (ao 7 N (mF T)) (ao 7 N (mF T)),ac (ab N) (ab N),ac (A.add .i64 i (ab 1)) i',ac p p,av (ao 4 n g) (ao 4 n g),ap m m',ax m (mF R) (mF R')]))(y21:c0=ag->ψ (ay (Sh.os 108 4 m (mF R)))):qA ψ (nZ (C7 A W ES ny) oG 300 400 41 agc (SX lv N T N' mk k0 g0 p n g m R i) [] [⟨41,Px,SX lv N T N' mk k0 g0 p n g m' R' i',[]⟩]):=by
 subst e0 e1 e2 e3 e4 e5 e6 e7;exact um (an (fun q0=>an (h1 q0) (an (h2 q0) (an (y1 q0) (fun q1=>an (h3 q0 q1) (an (y2 q0 q1) (fun q2=>an (h4 q0 q1 q2) (an (fun q3=>an (h2 q0) (an (fun q4=>an (h5 q0 q1 q2 q3 q4) (an (fun q5=>an (fun q6=>an (h6 q0 q1 q2 q3 q4 q5 q6) (y3 q0 q1 q2 q3 q4 q5 q6)) (fun q6=>an (h7 q0 q1 q2 q3 q4 q5 q6) (y4 q0 q1 q2 q3 q4 q5 q6))) (y5 q0 q1 q2 q3 q4))) (fun q4=>an (fun q5=>an (h8 q0 q1 q2 q3 q4 q5) (an (fun q6=>an (fun q7=>an (h9 q0 q1 q2 q3 q4 q5 q6 q7) (y6 q0 q1 q2 q3 q4 q5 q6 q7)) (fun q7=>an (h10 q0 q1 q2 q3 q4 q5 q6 q7) (y7 q0 q1 q2 q3 q4 q5 q6 q7))) (y8 q0 q1 q2 q3 q4 q5))) (fun q5=>an (fun q6=>an (fun q7=>an (h11 q0 q1 q2 q3 q4 q5 q6 q7) (y9 q0 q1 q2 q3 q4 q5 q6 q7)) (fun q7=>an (h12 q0 q1 q2 q3 q4 q5 q6 q7) (y10 q0 q1 q2 q3 q4 q5 q6 q7))) (y11 q0 q1 q2 q3 q4 q5))))) (fun q3=>an (h2 q0) (an (fun q4=>an (fun q5=>an (fun q6=>an (h13 q0 q1 q2 q3 q4 q5 q6) (y12 q0 q1 q2 q3 q4 q5 q6)) (y13 q0 q1 q2 q3 q4 q5)) (y14 q0 q1 q2 q3 q4)) (fun q4=>an (fun q5=>an (fun q6=>an (fun q7=>an (h14 q0 q1 q2 q3 q4 q5 q6 q7) (y15 q0 q1 q2 q3 q4 q5 q6 q7)) (y16 q0 q1 q2 q3 q4 q5 q6)) (y17 q0 q1 q2 q3 q4 q5)) (fun q5=>an (fun q6=>an (fun q7=>an (h15 q0 q1 q2 q3 q4 q5 q6 q7) (y18 q0 q1 q2 q3 q4 q5 q6 q7)) (y19 q0 q1 q2 q3 q4 q5 q6)) (y20 q0 q1 q2 q3 q4 q5)))))))))))) y21) (by kernel_rfl)
end Go.Proofs
namespace Go.Pl
open Go Go.Sx Go.Proofs Go.Gm
def xF{α:Type}(c1 c2 c3 c4 c5 c6 c7:Bool)(A B:α):List α:=
 bif c1||c2 then [] else (bif (c4||c7)&&c3 then [A] else [])++(bif c5&&(c6||c3) then [B] else [])
noncomputable def ZW(lv:Int)(N:Nat)(T:Nat->rU)(mk:Nat->Int)(p:Int)(n:Nat)(g:Nat->List Sh):Nat->Nat->List Ei
 |_,0=>[] |i,r+1=>(uH (KX lv N T mk n) ⟨p.toNat,g⟩ i).map (Aj n)++ZW lv N T mk p n g (i+1) r
theorem Wq(lv:Int)(N:Nat)(T:Nat->rU)(mk:Nat->Int)(p:Int)(n:Nat)(g:Nat->List Sh):∀r i,ZW lv N T mk p n g i r=(((aE r).map fun j=>i+j).flatMap (uH (KX lv N T mk n) ⟨p.toNat,g⟩)).map (Aj n)
 |0,i=>rfl |r+1,i=>by
  rw[ZW,Wq lv N T mk p n g r (i+1),gY,dI,List.flatMap_cons,eU,iE];congr 3;grind [dD]
theorem akp(lv:Int)(N:Nat)(T:Nat->rU)(mk:Nat->Int)(p:Int)(n:Nat)(g:Nat->List Sh):ZW lv N T mk p n g 0 N=tuL lv N T mk p n g:=by
 rw[Wq];unfold tuL turns;have:(aE N).map (fun j=>0+j)=aE N:=by simp
 rw[this];rfl
theorem anA{lv:Int}{N:Nat}{T:Nat->rU}{mk:Nat->Int}{p n:Nat}{g:Nat->List Sh}{i:Nat}(hp:p<2^62)(hi:i<N)(hN:N<=62)(hm:0<=mk i)(hm2:(mk i).toNat<2^N){c1 c2 c3 c4 c5 c6 c7:Bool}
  (e1:mD.eq (mD.bin .and .i64 (mD.bin .shr .i64 (p:Int) (i:Int)) (ab 1)) (ab 1)=c1)
  (e2:mD.nt (mD.eq (mD.bin .andNot .i64 (mk i) (p:Int)) (ab 0))=c2)
  (e3:XI n g (T i).k (T i).g=c3) (e4:mD.eq (T i).st (ab 3)=c4) (e5:mD.nt (mD.eq (T i).st (ab 3))=c5) (e6:mD.nt (mD.eq lv (ab 3))=c6) (e7:mD.eq (T i).st (ab 2)=c7) :
  (uH (KX lv N T mk n) ⟨p,g⟩ i).map (Aj n)=xF c1 c2 c3 c4 c5 c6 c7 ⟨(T i).id,aj,mD.bin .or .i64 (p:Int) (mD.bin .shl .i64 (ab 1) (i:Int)),n,JI n g (T i).k (T i).g⟩ ⟨(T i).id,ag,mD.bin .or .i64 (p:Int) (mD.bin .shl .i64 (ab 1) (i:Int)),n,g⟩/\may (KX lv N T mk n) p i=(!c1 && !c2):=by
 have hp2:p<2^63:=by omega
 have hmay:may (KX lv N T mk n) p i=(!c1 && !c2):=by
  rw[<-e1,anx hp2 (by omega),<-e2];have:mk i=((mk i).toNat:Int):=(Int.toNat_of_nonneg hm).symm;rw[this,ahw hm2 hN hp2,Bool.not_not];rfl
 refine ⟨?_,hmay⟩;have ho:=or_eq (p:=p) (i:=i) hp2 (by omega);unfold uH;show List.map (Aj n) (if may (KX lv N T mk n) p i=aj then _ else _)=_;rw[hmay];have hc:(KX lv N T mk n).com i=(c4||c7):=by rw[<-e4,<-e7];rfl
 have ha:(KX lv N T mk n).KW i=c5:=by rw[<-e5];rfl
 have hl:(KX lv N T mk n).all=!c6:=by rw[<-e6];show (lv==3)=!(!(lv==3));simp
 have hr:(KX lv N T mk n).run g i=if c3=aj then ae (JI n g (T i).k (T i).g) else aq:=by rw[<-e3];rfl
 rw[hc,ha,hl];simp only[hr,ho];unfold xF;clear hc ha hl hr hmay e1 e2 e3 e4 e5 e6 e7;grind [Aj,KX]
end Go.Pl
namespace Go.Proofs
open Go Go.Sx Go.Pl Go.Gm
theorem aeD(stop:Nat->List Nat->Bool)(O:nG ah (nY W7) 76 D76):oH ah (C7 mD W7 ES stop):=dZ (fun g F h=>by
 grind [ES]) fun g h=>by
 unfold ES at h;split at h;all_goals first|(cases h;done) |kernel_rfl
theorem akq:nG ah (nY W7) 76 D76:=O76.mono fun H nV args φ hr h=>by
 unfold D76 at h;split at h
 ·split at h
  ·rename_i e0 e1
   obtain ⟨h1,h2,h3⟩:=h;unfold plN at h1;rw[al,al] at h1;unfold F76;simp only[e0,e1];exact ⟨h1.1,h1.2.1,h1.2.2,h2,h3⟩
  ·exact h.elim
 ·exact h.elim
section
variable{H0:Mem}{w0:World}{φ:Sh->Prop}{lv:Int}{N:Nat}{T:Nat->rU}{mk:Nat->Int}{k0:Nat}{g0:Nat->List Sh}{p:Nat}{n:Nat}{g:Nat->List Sh}
theorem akr{α:Type}[Row α](l r:List α)(j:Nat)(h:j<l.length):nth (l++r) j=nth l j:=by
 simp_all [nth,List.getD_eq_getElem?_getD,List.getElem?_append_left]
theorem zI{α:Type}[Row α](l:List α)(a:α)(s:List Sh)(hs:s=Row.put a):∀j,j<l.length+1->mD.snoc (mF (nth l)) l.length (nM [s]) j=mF (nth (l++[a])) j:=fun j hj=>by
 rw[tY];split
 ·rename_i q
  show Row.put (nth l j)=Row.put (nth (l++[a]) j);rw[akr _ _ _ q]
 ·have:j=l.length:=by omega
  subst this;rw[Nat.sub_self];show s=Row.put (nth (l++[a]) l.length);simp_all [nth]
theorem acG{g g':Nat->List Sh}{n:Nat}(h:∀j,j<n->g j=g' j)(r:Nat->List Sh):mD.snoc g n r=mD.snoc g' n r:=by
 grind [tY]
theorem agh(Q:TuP lv N T N mk (p:Int) n g):∀r i (acc:List Ei),i+r=N->acc.length<=2*i->φ (.sl 4 (acc++ZW lv N T mk p n g i r).length (mF (nth (acc++ZW lv N T mk p n g i r))))->
  nX ah (C7 mD W7 ES ny) (K0 H0 w0) 41 Px (SX lv N T N mk k0 g0 p n g acc.length (nth acc) (i:Nat)) [] emp (up φ)
 |0,i,acc,hi,hl,hφ=>by
  refine wY (fn:=im) (tb:=agc) (by kernel_rfl) (by kernel_rfl) ?_;refine uz (aS _ _) (aeD _ akq) (hold:=oG) (m:=300) (n:=400) (ts:=[⟨41,Px,SX lv N T N mk k0 g0 p n g 0 (nth []) 0,[]⟩]) ?_;have lt {P:Prop} (h:mD.lt (i:Int) (ab N)=aj):P:=by simp[mQ] at h;omega
  have e:acc++ZW lv N T mk p n g i 0=acc:=by rw[ZW,bQ]
  rw[e] at hφ;refine Wp mD W7 lv N T N mk k0 g0 p n g acc.length 0 (nth acc) (nth []) i 0 rfl rfl rfl rfl rfl rfl rfl rfl ?_ ?_ ?_ ?_ ?_ ?_ ?_ ?_ ?_ ?_ ?_ ?_ ?_ ?_ ?_ ?_ ?_ ?_ ?_ ?_ ?_ ?_ ?_ ?_ ?_ ?_ ?_ ?_ ?_ ?_ ?_ ?_ ?_ ?_ ?_ ?_;all_goals first|(intro q;exact lt q) |skip
  exact fun _=>oq (s':=.sl 4 acc.length (mF (nth acc))) Nb hφ
 |r+1,i,acc,hi,hl,hφ=>by
  refine wY (fn:=im) (tb:=agc) (by kernel_rfl) (by kernel_rfl) ?_;have hlN:=Q.le;have w1:mD.add .i64 (i:Int) (ab 1)=((i+1:Nat):Int):=add1 (by omega);have no {P:Prop} (h:mD.lt (i:Int) (ab N)=ag):P:=by simp[mQ] at h;omega
  have inb:mD.inB (i:Int) N=aj:=by simp[oJ];omega
  have Ws:mD.room (mD.addN acc.length 1) 48=aj:=by rw[tX,decide_eq_true_eq,qy];unfold maxLen;omega
  have rm2:mD.room (mD.addN (mD.addN acc.length 1) 1) 48=aj:=by rw[tX,decide_eq_true_eq,qy,qy];unfold maxLen;omega
  have le0:mD.le (ab 0) (i:Int)=aj:=by simp[su]
  have hp:p<2^62:=by have:=Q.lt;omega
  obtain ⟨c1,e1⟩:∃c,mD.eq (mD.bin .and .i64 (mD.bin .shr .i64 (p:Int) (i:Int)) (ab 1)) (ab 1)=c:=⟨_,rfl⟩;obtain ⟨c2,e2⟩:∃c,mD.nt (mD.eq (mD.bin .andNot .i64 (mk (mD.toN i)) (p:Int)) (ab 0))=c:=⟨_,rfl⟩;obtain ⟨c3,e3⟩:∃c,XI n g (T (mD.toN i)).k (T (mD.toN i)).g=c:=⟨_,rfl⟩;obtain ⟨c4,e4⟩:∃c,mD.eq (T (mD.toN i)).st (ab 3)=c:=⟨_,rfl⟩;obtain ⟨c5,e5⟩:∃c,mD.nt (mD.eq (T (mD.toN i)).st (ab 3))=c:=⟨_,rfl⟩;obtain ⟨c6,e6⟩:∃c,mD.nt (mD.eq lv (ab 3))=c:=⟨_,rfl⟩;obtain ⟨c7,e7⟩:∃c,mD.eq (T (mD.toN i)).st (ab 2)=c:=⟨_,rfl⟩;obtain ⟨hx,hmay⟩:=anA (lv:=lv) (T:=T) (n:=n) (g:=g) hp (by omega:i<N) Q.le (Q.mpos i (by omega)) (Q.mlt i (by omega)) e1 e2 e3 e4 e5 e6 e7;have hfit:=Q.fit i (by omega);rw[bR,hmay] at hfit;rw[ZW,bR,<-cQ] at hφ;have nx:=fun (h:(acc++(uH (KX lv N T mk n) ⟨p,g⟩ i).map (Aj n)).length<=2*(i+1))=>agh Q r (i+1) (acc++(uH (KX lv N T mk n) ⟨p,g⟩ i).map (Aj n)) (by omega) h hφ;rw[hx] at nx;generalize hacc:acc++xF _ _ _ _ _ _ _ _ _=acc' at nx;refine uz (aS _ _) (aeD _ akq) (hold:=oG) (m:=300) (n:=400) (ts:=[⟨41,Px,SX lv N T N mk k0 g0 p n g acc'.length (nth acc') ((i+1:Nat):Int),[]⟩]) ?_;have lf:∀(mm:Nat) (gg:Nat->List Sh),mm=acc'.length->(∀j,j<mm->gg j=mF (nth acc') j)->acc'.length<=2*(i+1)->yG ah (C7 mD W7 ES ny) (K0 H0 w0) [⟨41,Px,SX lv N T N mk k0 g0 p n g acc'.length (nth acc') ((i+1:Nat):Int),[]⟩] emp (up φ)
    (aK 0 [ap 1 1,aF (fun _=>oV lv N T N mk k0 g0) fun _=>oV lv N T N mk k0 g0,ap 0 0,av (ao 7 N (mF T)) (ao 7 N (mF T)),ac (ab N) (ab N),ac (mD.add .i64 i (ab 1)) ((i+1:Nat):Int),ac p p,av (ao 4 n g) (ao 4 n g),ap mm acc'.length,ax mm gg (mF (nth acc'))]):=
   fun mm gg e1 e2 e3=>⟨⟨rfl,rfl,rfl,rfl,rfl,w1,rfl,rfl,e1,e2,trivial⟩,_,rfl,nx e3⟩
  have l0 (h:acc'=acc):=lf acc.length (mF (nth acc)) (by rw[h]) (fun j _=>by rw[h]) (by rw[h];omega);have l1 (a:Ei) (h:acc'=acc++[a]):=lf (mD.addN acc.length 1) (mD.snoc (mF (nth acc)) acc.length (nM [Row.put a])) (by rw[h,bz];rfl) (fun j hj=>by rw[h];exact zI acc a _ rfl j hj) (by rw[h,bz];show acc.length+1<=_;omega);have l2 (a b:Ei) (h:acc'=acc++[a,b]):=lf (mD.addN (mD.addN acc.length 1) 1) (mD.snoc (mD.snoc (mF (nth acc)) acc.length (nM [Row.put a])) (mD.addN acc.length 1) (nM [Row.put b])) (by rw[h,bz];rfl) (fun j hj=>by
   have e:=zI (acc++[a]) b _ rfl j (by rw[bz];exact hj);rw[cQ,bz] at e;rw[h];have e2:=acG (n:=acc.length+1) (fun j hj=>zI acc a _ rfl j hj) (nM [Row.put b]);exact (congrFun e2 j).trans e) (by rw[h,bz];show acc.length+2<=_;omega)
  clear lf nx;refine Wp mD W7 lv N T N mk k0 g0 p n g acc.length acc'.length (nth acc) (nth acc') i ((i+1:Nat):Int) rfl e1 e2 e3 e4 e5 e6 e7
   (fun _=>inb)
   (fun _=>le0)
   (fun _ _=>inb)
   (fun _ q1 q2=>hfit (by rw[q1,q2];rfl))
   (fun _ _ _ _ _=>Ws)
   (fun _ _ _ _ _ _ _=>rm2)
   (fun _ _ _ _ _ _ _=>rm2)
   (fun _ _ _ _ _ _=>Ws)
   (fun _ _ _ _ _ _ _ _=>rm2)
   (fun _ _ _ _ _ _ _ _=>rm2)
   (fun _ _ _ _ _ _ _ _=>Ws)
   (fun _ _ _ _ _ _ _ _=>Ws)
   (fun _ _ _ _ _ _ _=>Ws)
   (fun _ _ _ _ _ _ _ _=>Ws)
   (fun _ _ _ _ _ _ _ _=>Ws)
   (fun _ q1=>l0 (by rw[<-hacc,q1];exact bQ _))
   (fun _ q1 q2=>l0 (by rw[<-hacc,q1,q2];exact bQ _))
   (fun _ q1 q2 q3 q4 q5 q6=>l2 _ _ (by rw[<-hacc,q1,q2,q3,q4,q5,q6];rfl))
   (fun _ q1 q2 q3 q4 q5 q6=>l2 _ _ (by rw[<-hacc,q1,q2,q3,q4,q5,q6];rfl))
   (fun _ q1 q2 q3 q4 q5=>l1 _ (by rw[<-hacc,q1,q2,q3,q4,q5];rfl))
   (fun _ q1 q2 q3 q4 q5 q6 q7=>l2 _ _ (by rw[<-hacc,q1,q2,q3,q4,q5,q6,q7];rfl))
   (fun _ q1 q2 q3 q4 q5 q6 q7=>l2 _ _ (by rw[<-hacc,q1,q2,q3,q4,q5,q6,q7];rfl))
   (fun _ q1 q2 q3 q4 q5 q6=>l1 _ (by rw[<-hacc,q1,q2,q3,q4,q5,q6];rfl))
   (fun _ q1 q2 q3 q4 q5 q6 q7=>l1 _ (by rw[<-hacc,q1,q2,q3,q4,q5,q6,q7];rfl))
   (fun _ q1 q2 q3 q4 q5 q6 q7=>l1 _ (by rw[<-hacc,q1,q2,q3,q4,q5,q6,q7];rfl))
   (fun _ q1 q2 q3 q4 q5 q6=>l0 (by rw[<-hacc,q1,q2,q3,q4,q5,q6];exact bQ _))
   (fun _ q1 q2 q3 q4 q5 q6=>l1 _ (by rw[<-hacc,q1,q2,q3,q4,q5,q6];rfl))
   (fun _ q1 q2 q3 q4 q5 q6=>l0 (by rw[<-hacc,q1,q2,q3,q4,q5,q6];exact bQ _))
   (fun _ q1 q2 q3 q4 q5=>l0 (by rw[<-hacc,q1,q2,q3,q4,q5];exact bQ _))
   (fun _ q1 q2 q3 q4 q5 q6 q7=>l1 _ (by rw[<-hacc,q1,q2,q3,q4,q5,q6,q7];rfl))
   (fun _ q1 q2 q3 q4 q5 q6 q7=>l0 (by rw[<-hacc,q1,q2,q3,q4,q5,q6,q7];exact bQ _))
   (fun _ q1 q2 q3 q4 q5 q6=>l0 (by rw[<-hacc,q1,q2,q3,q4,q5,q6];exact bQ _))
   (fun _ q1 q2 q3 q4 q5 q6 q7=>l1 _ (by rw[<-hacc,q1,q2,q3,q4,q5,q6,q7];rfl))
   (fun _ q1 q2 q3 q4 q5 q6 q7=>l0 (by rw[<-hacc,q1,q2,q3,q4,q5,q6,q7];exact bQ _))
   (fun _ q1 q2 q3 q4 q5 q6=>l0 (by rw[<-hacc,q1,q2,q3,q4,q5,q6];exact bQ _))
   (fun q=>no q)
end
def Ui(H:Mem):List Sh->List Sh->Prop
 |[],[]=>True |s::l,s'::l'=>(∀u,Rep H s u->Rep H s' u)/\Ui H l l' |_,_=>False
theorem ZX{H:Mem}:∀{l l':List Sh},Ui H l l'->l'.length=l.length/\∀(j:Nat) (s':Sh),l'[j]?=ae s'->∃s:Sh,l[j]?=ae s/\∀u,Rep H s u->Rep H s' u
 |[],[],_=>⟨rfl,fun j s' h=>by cases h⟩ |_::_,_::_,⟨h,t⟩=>by
  obtain ⟨e,q⟩:=ZX t;grind
 |[],_::_,h=>h.elim |_::_,[],h=>h.elim
theorem acI{H:Mem}{l l':List Sh}{v:Value}(hr:Rep H (.pt l) v)(h:Ui H l l'):Rep H (.pt l') v:=by
 obtain ⟨e,q⟩:=ZX h;cases hr with
 |pt _ b off c h1 h2 h3=>
  exact .pt _ b off c (fun j hj=>h1 j (by omega)) (fun j hj=>h2 j (by omega)) fun j s' hs=>by
   grind
theorem Dk{H:Mem}{l l':List Sh}{v:Value}(hr:Rep H (.agg l) v)(h:Ui H l l'):Rep H (.agg l') v:=by
 obtain ⟨e,q⟩:=ZX h;cases hr with
 |agg _ vs h1 h3=>
  exact .agg _ vs (by omega) fun j s' u hs hv=>by
   grind
theorem acJ{H:Mem}{st n:Nat}{g:Nat->List Sh}{u:Value}(h:(bA st 4||bA n 0)=aj)(hr:Rep H (.sl st n g) u):Rep H (.sl 4 n g) u:=by
 rw[eT] at h;rcases h with h|h
 ·simp_all
 ·obtain rfl:=Nat.eq_of_beq_eq_true h
  grind [Ec]
theorem ar9:nG ah (nY W7) 41 D41:=by
 refine vM (C:=C7 mD W7 ES ny) (aS _ _) (fn:=im) (by kernel_rfl) (by kernel_rfl) fun H w nV args φ hrep h=>?_
 have hn:im.ntmps=104:=by kernel_rfl
 unfold D41 at h;split at h
 ·rename_i lv s1 s2 s3 t st n g
  split at h
  ·rename_i N T' N' mk' q0 p e1 e2 e4 e3
   obtain ⟨h1,hφ⟩:=h;unfold ZU at h1;rw[al,al,al] at h1;obtain ⟨a1,a2,a3,a4⟩:=h1;have Q:TuP lv N (mJ T') N' (mJ mk') p n g:=@of_decide_eq_true _ (aB _) a4;obtain rfl:=Q.eq;obtain ⟨q,rfl⟩:=Int.eq_ofNat_of_zero_le Q.pos;match args,hrep with
   |[v,u],⟨rv,ru,_⟩=>
    obtain ⟨k0,g0⟩:=q0;refine ⟨[.pt (oV lv N (mJ T') N (mJ mk') k0 g0),.agg [.i .i64 (q:Int),.sl 4 n g]],⟨acI rv ⟨fun _ r=>r,fun _ r=>uD (oO e1 r) a1,fun _ r=>uD (oO e2 r) a2,fun _ r=>oO e4 r,trivial⟩,Dk ru ⟨fun _ r=>qW e3 r,fun _ r=>acJ a3 r,trivial⟩,trivial⟩,L0,?_⟩;have hφ:φ (.sl 4 (tuL lv N (mJ T') (mJ mk') (q:Int) n g).length (mF (nth (tuL lv N (mJ T') (mJ mk') (q:Int) n g)))):=hφ;rw[<-akp] at hφ;refine uz (aS _ _) (aeD _ akq) (hold:=oG) (m:=300) (n:=400) (ts:=[⟨41,Px,SX lv N (mJ T') N (mJ mk') k0 g0 q n g 0 (nth []) ((0:Nat):Int),[]⟩]) ?_;rw[hn];exact aeC mD W7 lv N (mJ T') N (mJ mk') k0 g0 q n g 0 (nth []) _ ⟨⟨rfl,rfl,rfl,rfl,rfl,rfl,rfl,rfl,rfl,trivial⟩,_,rfl,agh Q N 0 [] (by omega) (by simp) hφ⟩
  ·exact h.elim
 ·exact h.elim
open Go Go.Conc Go.RowKit
set_option maxRecDepth 100000 in
theorem acK(w:World):Calls ah 69 #[.chan aq] w fun e w'=>e=.returned (.bool ag)/\w'=w:=by
 refine calls_of_loneTo fun cs=>?_
 have e:bY ah 69 #[.chan aq] .normal=(mw 69).at ⟨#[.chan aq,undef,undef,undef,undef,undef,undef],[]⟩ [.code (io.body.getD .skip)]:=by
  simp[bY,Frame.at,lK,mw,io]
 rw[e];refine LoneTo.goes (n:=14) ?_;simp only[io,Option.getD_some];s_c stepG_seq
 s_reg
 s_op
 s_c stepG_region_end
 s_c stepG_seq
 s_reg
 s_op
 s_c stepG_region_end
 s_c stepG_seq
 s_reg
 s_stop
 refine LoneTo.step (step_lone_select_recv_nil (z:=.agg #[]) (stepG_comm (cases:=#[rcaseNil (.agg #[])]) (blocking:=ag) (shape:=.select) (w':=w) rfl rfl (by decide) (by simp[go_sem,execOp,rcaseNil,Act.eval]))) ?_;rw[Frame.finish_at];walk_nrm
 refine LoneTo.goes (n:=10) ?_;s_op
 s_op
 s_c stepG_region_end
 s_c stepG_block
 s_cond ag
 s_c stepG_seq
 s_reg
 s_op
 s_c stepG_region_end
 s_c stepG_ret'
 s_stop
 exact LoneTo.done ⟨.returned (.bool ag),_,rfl,⟨rfl,rfl⟩,rfl,rfl,rfl,rfl,_,lK,by simp[results,io,Frame.at]⟩
def aks:List my->Go.Sx.Tree my
 |[.v (.chan aq)]=>.leaf (.b ag) |_=>.fail
theorem asa:Go.Sx.nG ah (nY W7) 69 aks:=by
 intro H w nV args φ hon hg hr h;unfold aks at h;split at h
 ·match args,hr with
  |[v],⟨rv,_⟩=>
   cases rv;refine Calls.mono (acK w) fun e w' ⟨he,hw⟩=>?_;subst hw;exact ⟨_,_,H,he,h,fun _ _ h=>h,hon,rfl,rfl,rfl,Nat.le_refl _,fun _ _=>rfl,fun b h=>.inl h,fun b0=>⟨fun _=>aq,fun i h=>absurd rfl h,fun i b h=>(by cases h),rfl,Go.Sx.Gg⟩⟩
 ·exact h.elim
end Go.Proofs
namespace Go.Pl
open Go Go.Sx Go.Proofs
structure zl where
 okb:Bool
 xC:Bool
 pos:Int
 e:Nat
 lv:Int
 N:Nat
 T:Nat->rU
 ms:Nat->Int
 k0:Nat
 g0:Nat->List Sh
noncomputable def aoy(s:Sh)(l:Int)(h:Sh)(lv:Int):Bool:=@decide (s=h/\l=lv) (aB _)
noncomputable def TL(st n:Nat)(g:Nat->List Sh):Bool:=(bA st 4||bA n 0)&&(stB n g&&keysB n (sJ n g))
noncomputable def FC(n:Nat)(g:Nat->List Sh):List UInt8:=Yy ((aE n).map (sJ n g))
structure JM where
 placed:Int
 st:Nat
 n:Nat
 g:Nat->List Sh
instance:Inhabited JM:=⟨⟨0,0,0,fun _=>[]⟩⟩
instance:Row JM where
 put x:=[.i .i64 x.placed,.sl x.st x.n x.g]
 get l:=match l with
  |[.i .i64 a,.sl s n g]=>ae ⟨a,s,n,g⟩ |_=>aq
 rJ l a h:=by
  split at h
  ·cases h;rfl
  ·cases h
 get_put a:=rfl
 zX:=default
structure ZY where
 placed:Int
 key:List UInt8
instance:Inhabited ZY:=⟨⟨0,[]⟩⟩
instance:Row ZY where
 put x:=[.i .i64 x.placed,.str x.key]
 get l:=match l with
  |[.i .i64 a,.str k]=>ae ⟨a,k⟩ |_=>aq
 rJ l a h:=by
  split at h
  ·cases h;rfl
  ·cases h
 get_put a:=rfl
 zX:=default
end Go.Pl
namespace Go.Proofs
open Go Go.Sx Go.Pl
noncomputable def Wu(h0:Sh)(lv:Int)(B:zl):List Sh->Tree Sh
 |[s,t]=>match nR t with
  |some l=>.need (aoy s l h0 lv) (.node B.okb (.leaf (.mV [.pt (oV B.lv B.N B.T B.N B.ms B.k0 B.g0),.v .nilIface]))
   (.node B.xC (.leaf (.mV [.v (.pointer aq),.pV 109 (.pt [.i .i64 B.pos,.er B.e 329])])) (.leaf (.mV [.v (.pointer aq),.er B.e 329]))))
  |none=>.fail
 |_=>.fail
noncomputable def D92:List Sh->Tree Sh
 |[.agg [.sl st n g]]=>.need (TL st n g) (.leaf (.str (FC n g))) |_=>.fail
noncomputable def tK(h0:Sh)(lv:Int)(B:zl):Nat->Option (List Sh->Tree Sh)
 |40=>ae (Wu h0 lv B) |41=>ae D41 |69=>ae aks |92=>ae D92 |_=>aq
def XJ:List It:=[aH [0,0,1,1,1,1,1,1,1,1,1,1],aW 0,aH [1,1,1,1,1,1,1,1,1,1,1]]
def tbA:List It:=aH [0,0,0,1,1,1,1,1,1,1,1,1,1]::XJ
def hpA(B:zl)(mo:Int)(M:Int×List UInt8->Option Value)(c:Nat)(cr:Nat->ZY)(at_:Int)(q:Nat)(qr:Nat->JM)(m:Nat)(od:Nat->Na):List (Nat×SB):=
 [(1,.box [.bool ag,.nD,.int .i64 0] 44),(2,.pm .int M []),(3,.box [.sym .i64 mo,.mp 2,.gs 7] 204),(4,.box [.ptr 3 0] 154),(5,.box [.gs 8,.sym .i64 at_] 160),(6,.box [.gs 9] 158),(7,.own 157 2 c (mF cr)),(8,.own 104 2 q (mF qr)),(9,.own 104 2 m (mF od))]
def tmA(B:zl):List (Nat×SV):=[(0,.val (.chan aq)),(8,.ptr 1 0),(10,.wV 4 1 (fun _=>oV B.lv B.N B.T B.N B.ms B.k0 B.g0) 0 0),(12,.ptr 4 0),(13,.ptr 5 0),(14,.ptr 6 0),(15,.fn 64 [.ptr 4 0,.ptr 5 0,.ptr 6 0])]
def LA(B:zl)(mo:Int)(M:Int×List UInt8->Option Value)(c:Nat)(cr:Nat->ZY)(at_:Int)(q:Nat)(qr:Nat->JM)(m:Nat)(od:Nat->Na):Core:=
 {tm:=vZ 111 (tmA B),hp:=hpA B mo M c cr at_ q qr m od,nx:=10,lim:=L0,tc:=[]}
def Wv:List It:=[aH [0,1,1,1,1,0,0,0,0,1,1,1,1,1,1,1,1,1,1],aW 2,aW 1,aH [0,0,1,1,1,1,1,1,1,1,1,1],aW 0,aH [1,1,1,1,1,1,1,1,1,1,1]]
def tbB:List It:=aH [0,0,1,1,1,1,0,0,0,0,1,1,1,1,1,1,1,1,1,1]::Wv
def LB(B:zl)(mo:Int)(M:Int×List UInt8->Option Value)(c:Nat)(cr:Nat->ZY)(at_:Int)(q:Nat)(qr:Nat->JM)(m:Nat)(od:Nat->Na)(t:Nat)(tr:Nat->Ei)(j:Int):Core:=
 {tm:=vZ 111 (tmA B++[(76,.sh (.sl 4 t (mF tr))),(77,.sym .i64 (t:Int)),(78,.sym .i64 j)]),hp:=hpA B mo M c cr at_ q qr m od,nx:=10,lim:=L0,tc:=[]}
def FD(B:zl):List Fr:=[{g:=39,td:=[It.reg [0,1,1,1,1,1,1,1,1,1,1,1,1] [2,3],aH [1,1,1,1,1,1,1,1,1,1,1,1,1]],tm:=vZ 111 [(8,.ptr 1 0),(10,.wV 4 1 (fun _=>oV B.lv B.N B.T B.N B.ms B.k0 B.g0) 0 0),(22,.ptr 11 0)]}]
def TM:List It:=[aH [0,1,0,1,1],aW 0,aH [1,1,1]]
def tbC:List It:=aH [0,0,1,0,1,1]::TM
def hpC(m:Nat)(od:Nat->Na)(M:Int×List UInt8->Option Value)(c:Int):List (Nat×SB):=[(1,.box [.bool ag,.nD,.int .i64 0] 44),(9,.own 104 2 m (mF od)),(10,.pm .bool M []),(11,.box [.bool ag,.nD,.sym .i64 c] 44)]
def tmC(B:zl)(i:Int):List (Nat×SV):=[(0,.wV 4 1 (fun _=>oV B.lv B.N B.T B.N B.ms B.k0 B.g0) 0 0),(1,.gs 9),(5,.mp 10),(6,.sym .i64 i)]
def LC(B:zl)(m:Nat)(od:Nat->Na)(M:Int×List UInt8->Option Value)(c:Int)(i:Int):Core:={tm:=vZ 50 (tmC B i),hp:=hpC m od M c,nx:=12,lim:=L0,tc:=[]}
theorem aeE(A:Prim)(W:Wd)(B:zl)(lv mo:Int)(o m:Nat)(og mg:Nat->List Sh)(mo':Int)(M':Int×List UInt8->Option Value)(c':Nat)(KY:Nat->ZY)(at':Int)(q':Nat)(Pz:Nat->JM)(m':Nat)(od':Nat->Na){ψ:rQ->Prop}{c0 c1 c2 c3 c4 c5 c6 c7:Bool}(e0:A.lt lv (ab 1)=c0)(e1:A.lt (ab 3) lv=c1)(e2:A.lt mo (ab 1)=c2)(e3:A.lt (ab 65536) mo=c3)(e4:B.okb=c4)(e5:A.isS aq=c5)(e6:A.eq (ab 0) (A.max mo (ab 0))=c6)(e7:B.xC=c7)(h1:c0=ag->c1=ag->c2=ag->c3=ag->(aoy (aN [ao 2 o og,ao 8 m mg]) lv (aN [ao 2 o og,ao 8 m mg]) lv)=aj)(h2:c0=ag->c1=ag->c2=ag->c3=ag->c4=aj->(TL 4 B.k0 B.g0)=aj)(y1:c0=aj->ψ (ay (aQ [aN [bX ag,ao 0 0 fun _=>[],az .i64 (ab 0)],aC 2 329])))(y2:c0=ag->c1=aj->ψ (ay (aQ [aN [bX ag,ao 0 0 fun _=>[],az .i64 (ab 0)],aC 2 329])))(y3:c0=ag->c1=ag->c2=aj->ψ (ay (aQ [aN [bX ag,ao 0 0 fun _=>[],az .i64 (ab 0)],aC 4 329])))(y4:c0=ag->c1=ag->c2=ag->c3=aj->ψ (ay (aQ [aN [bX ag,ao 0 0 fun _=>[],az .i64 (ab 0)],aC 4 329])))(y5:c0=ag->c1=ag->c2=ag->c3=ag->c4=aj->c5=aj->ψ (aK 0 [dG (ck aq) (ck aq),ap 1 1,aF (fun (x:Nat)=>oV B.lv B.N B.T B.N B.ms B.k0 B.g0) fun (x:Nat)=>oV B.lv B.N B.T B.N B.ms B.k0 B.g0,ap 0 0,ac (ab 0) (ab 0),cP (fun (x:Int×List UInt8)=>aq) M',ac (A.max mo (ab 0)) mo',ac (ab 0) at',ap c' 0,ap q' 0,ap m' 0]))(y6:c0=ag->c1=ag->c2=ag->c3=ag->c4=aj->c5=ag->c6=aj->ψ (ay (aQ [aN [bX ag,ao 0 0 fun _=>[],az .i64 (ab 0)],aC 0 329])))(y7:c0=ag->c1=ag->c2=ag->c3=ag->c4=aj->c5=ag->c6=ag->ψ (aK 0 [dG (ck aq) (ck aq),ap 1 1,aF (fun (x:Nat)=>oV B.lv B.N B.T B.N B.ms B.k0 B.g0) fun (x:Nat)=>oV B.lv B.N B.T B.N B.ms B.k0 B.g0,ap 0 0,ac (ab 0) (ab 0),cP (CJ (ab 0,FC B.k0 B.g0) (ae (cN .i64 (ab 0))) fun (x:Int×List UInt8)=>aq) M',ac (A.max mo (ab 0)) mo',ac (ab 0) at',ap 1 c',ax 1 (nM [[az .i64 (ab 0),Sh.str (FC B.k0 B.g0)]]) (mF KY),ap 1 q',ax 1 (nM [[az .i64 (ab 0),ao 4 B.k0 B.g0]]) (mF Pz),ap 1 m',ax 1 (nM [[az .i64 (ab 0),ao 4 B.k0 B.g0]]) (mF od')]))(y8:c0=ag->c1=ag->c2=ag->c3=ag->c4=ag->c7=aj->ψ (ay (aQ [aN [bX ag,ao 0 0 fun _=>[],az .i64 (ab 0)],fP 109 (ij [az .i64 B.pos,aC B.e 329])])))(y9:c0=ag->c1=ag->c2=ag->c3=ag->c4=ag->c7=ag->ψ (ay (aQ [aN [bX ag,ao 0 0 fun _=>[],az .i64 (ab 0)],aC B.e 329]))):qA ψ (nZ (C7 A W (tK (.agg [.sl 2 o og,.sl 8 m mg]) lv B) ny) oG 300 400 39 [.code []] (mM 111 [.v (.chan aq),.agg [.sl 2 o og,.sl 8 m mg],.i .i64 lv,.i .i64 mo] L0) [] [⟨39,XJ,LA B mo' M' c' KY at' q' Pz m' od',[]⟩]):=by
 subst e0 e1 e2 e3 e4 e5 e6 e7;exact acB (by kernel_rfl) (an y1 (fun q0=>an (y2 q0) (fun q1=>an (y3 q0 q1) (fun q2=>an (y4 q0 q1 q2) (fun q3=>an (h1 q0 q1 q2 q3) (an (fun q4=>an (h2 q0 q1 q2 q3 q4) (an (y5 q0 q1 q2 q3 q4) (fun q5=>an (y6 q0 q1 q2 q3 q4 q5) (y7 q0 q1 q2 q3 q4 q5)))) (fun q4=>an (y8 q0 q1 q2 q3 q4) (y9 q0 q1 q2 q3 q4)))))))) (by kernel_rfl)
theorem Nj(A:Prim)(W:Wd)(B:zl)(hs:Sh)(lv mo:Int)(M:Int×List UInt8->Option Value)(c:Nat)(cr:Nat->ZY)(at_:Int)(q:Nat)(qr:Nat->JM)(m:Nat)(od:Nat->Na)(at':Int)(q':Nat)(Pz:Nat->JM)(t:Nat)(tr:Nat->Ei)(M':Int×List UInt8->Option Value)(c' i':Int){ψ:rQ->Prop}{c0 c1 c2:Bool}(e0:A.eq at_ (A.nH q)=c0)(e1:A.eq (A.add .i64 at_ (ab 1)) (A.nH q)=c1)(e2:ag=c2)(h1:c0=ag->(A.inB at_ q)=aj)(h2:c0=ag->c1=aj->c2=ag->(ZU B.lv B.N (mF B.T) B.N (mF B.ms) (qr (A.toN at_)).placed (qr (A.toN at_)).st (qr (A.toN at_)).n (qr (A.toN at_)).g)=aj)(h3:c0=ag->c1=ag->c2=ag->(ZU B.lv B.N (mF B.T) B.N (mF B.ms) (qr (A.toN at_)).placed (qr (A.toN at_)).st (qr (A.toN at_)).n (qr (A.toN at_)).g)=aj)(y1:c0=aj->ψ (aK 1 [ap 1 1,aF (fun (x:Nat)=>oV B.lv B.N B.T B.N B.ms B.k0 B.g0) fun (x:Nat)=>oV B.lv B.N B.T B.N B.ms B.k0 B.g0,ap 0 0,ac (A.sub .i64 (A.nH m) (ab 1)) i',ac (ab 0) (ab 0),ap m m,ax m (mF od) (mF od),cP (fun (x:Int×List UInt8)=>aq) M',ac (A.nH c) c',ap 1 1,aF (fun (x:Nat)=>oV B.lv B.N B.T B.N B.ms B.k0 B.g0) fun (x:Nat)=>oV B.lv B.N B.T B.N B.ms B.k0 B.g0,ap 0 0]))(y2:c0=ag->c1=aj->c2=aj->ψ (ay (aQ [aN [bX ag,ao 0 0 fun _=>[],az .i64 (ab 0)],aC 5 329])))(y3:c0=ag->c1=aj->c2=ag->ψ (aK 0 [dG (ck aq) (ck aq),ap 1 1,aF (fun (x:Nat)=>oV B.lv B.N B.T B.N B.ms B.k0 B.g0) fun (x:Nat)=>oV B.lv B.N B.T B.N B.ms B.k0 B.g0,ap 0 0,av (ao 4 (JL B.lv B.N (mF B.T) (mF B.ms) (qr (A.toN at_)).placed (qr (A.toN at_)).n (qr (A.toN at_)).g) (mF (ZV B.lv B.N (mF B.T) (mF B.ms) (qr (A.toN at_)).placed (qr (A.toN at_)).n (qr (A.toN at_)).g))) (ao 4 t (mF tr)),ac (A.nH (JL B.lv B.N (mF B.T) (mF B.ms) (qr (A.toN at_)).placed (qr (A.toN at_)).n (qr (A.toN at_)).g)) (ab t),ac (ab 0) (ab 0),ac (ab 0) (ab 0),cP M M,ac mo mo,ac (ab 0) at',ap c c,ax c (mF cr) (mF cr),ap q' 0,ap m m,ax m (mF od) (mF od)]))(y4:c0=ag->c1=ag->c2=aj->ψ (ay (aQ [aN [bX ag,ao 0 0 fun _=>[],az .i64 (ab 0)],aC 5 329])))(y5:c0=ag->c1=ag->c2=ag->ψ (aK 0 [dG (ck aq) (ck aq),ap 1 1,aF (fun (x:Nat)=>oV B.lv B.N B.T B.N B.ms B.k0 B.g0) fun (x:Nat)=>oV B.lv B.N B.T B.N B.ms B.k0 B.g0,ap 0 0,av (ao 4 (JL B.lv B.N (mF B.T) (mF B.ms) (qr (A.toN at_)).placed (qr (A.toN at_)).n (qr (A.toN at_)).g) (mF (ZV B.lv B.N (mF B.T) (mF B.ms) (qr (A.toN at_)).placed (qr (A.toN at_)).n (qr (A.toN at_)).g))) (ao 4 t (mF tr)),ac (A.nH (JL B.lv B.N (mF B.T) (mF B.ms) (qr (A.toN at_)).placed (qr (A.toN at_)).n (qr (A.toN at_)).g)) (ab t),ac (ab 0) (ab 0),ac (ab 0) (ab 0),cP M M,ac mo mo,ac (A.add .i64 at_ (ab 1)) at',ap c c,ax c (mF cr) (mF cr),ap q q',ax q (A.upd (mF qr) (A.toN at_) 0 [az .i64 (ab 0),ao 0 0 fun _=>[]]) (mF Pz),ap m m,ax m (mF od) (mF od)])):qA ψ (nZ (C7 A W (tK hs lv B) ny) oG 300 400 39 tbA (LA B mo M c cr at_ q qr m od) [] [⟨39,Wv,LB B mo M c cr at' q' Pz m od t tr 0,[]⟩,⟨71,TM,LC B m od M' c' i',FD B⟩]):=by
 subst e0 e1 e2;exact um (an y1 (fun q0=>an (h1 q0) (an (h1 q0) (an (fun q1=>an (y2 q0 q1) (fun q2=>an (h2 q0 q1 q2) (y3 q0 q1 q2))) (fun q1=>an (y4 q0 q1) (fun q2=>an (h3 q0 q1 q2) (y5 q0 q1 q2))))))) (by kernel_rfl)
theorem Ic(A:Prim)(W:Wd)(B:zl)(hs:Sh)(lv mo:Int)(M M':Int×List UInt8->Option Value)(c c':Nat)(cr KY:Nat->ZY)(at_:Int)(q q':Nat)(qr Pz:Nat->JM)(m m':Nat)(od od':Nat->Na)(t:Nat)(tr:Nat->Ei)(j j':Int){ψ:rQ->Prop}{c0 c1 c2:Bool}(e0:A.lt j (ab t)=c0)(e1:A.isS (M ((tr (A.toN j)).placed,FC (tr (A.toN j)).n (tr (A.toN j)).g))=c1)(e2:A.eq (A.nH c) mo=c2)(h1:c0=aj->(A.inB j t)=aj)(h2:c0=aj->(TL 4 (tr (A.toN j)).n (tr (A.toN j)).g)=aj)(h3:c0=aj->c1=ag->c2=ag->(A.room (A.addN c 1) 24)=aj)(h4:c0=aj->c1=ag->c2=ag->(A.room (A.addN q 1) 32)=aj)(h5:c0=aj->c1=ag->c2=ag->(A.room (A.addN m 1) 32)=aj)(y1:c0=aj->c1=aj->ψ (aK 0 [dG (ck aq) (ck aq),ap 1 1,aF (fun (x:Nat)=>oV B.lv B.N B.T B.N B.ms B.k0 B.g0) fun (x:Nat)=>oV B.lv B.N B.T B.N B.ms B.k0 B.g0,ap 0 0,av (ao 4 t (mF tr)) (ao 4 t (mF tr)),ac (ab t) (ab t),ac (A.add .i64 j (ab 1)) j',ac (ab 0) (ab 0),cP M M',ac mo mo,ac at_ at_,ap c c',ax c (mF cr) (mF KY),ap q q',ax q (mF qr) (mF Pz),ap m m',ax m (mF od) (mF od')]))(y2:c0=aj->c1=ag->c2=aj->ψ (ay (aQ [aN [bX ag,ao 0 0 fun _=>[],az .i64 (ab 0)],aC 0 329])))(y3:c0=aj->c1=ag->c2=ag->ψ (aK 0 [dG (ck aq) (ck aq),ap 1 1,aF (fun (x:Nat)=>oV B.lv B.N B.T B.N B.ms B.k0 B.g0) fun (x:Nat)=>oV B.lv B.N B.T B.N B.ms B.k0 B.g0,ap 0 0,av (ao 4 t (mF tr)) (ao 4 t (mF tr)),ac (ab t) (ab t),ac (A.add .i64 j (ab 1)) j',ac (ab 0) (ab 0),cP (CJ ((tr (A.toN j)).placed,FC (tr (A.toN j)).n (tr (A.toN j)).g) (ae (cN .i64 (A.nH c))) M) M',ac mo mo,ac at_ at_,ap (A.addN c 1) c',ax (A.addN c 1) (A.snoc (mF cr) c (nM [[az .i64 (tr (A.toN j)).placed,Sh.str (FC (tr (A.toN j)).n (tr (A.toN j)).g)]])) (mF KY),ap (A.addN q 1) q',ax (A.addN q 1) (A.snoc (mF qr) q (nM [[az .i64 (tr (A.toN j)).placed,ao 4 (tr (A.toN j)).n (tr (A.toN j)).g]])) (mF Pz),ap (A.addN m 1) m',ax (A.addN m 1) (A.snoc (mF od) m (nM [[az .i64 (tr (A.toN j)).placed,ao 4 (tr (A.toN j)).n (tr (A.toN j)).g]])) (mF od')]))(y4:c0=ag->ψ (aK 1 [dG (ck aq) (ck aq),ap 1 1,aF (fun (x:Nat)=>oV B.lv B.N B.T B.N B.ms B.k0 B.g0) fun (x:Nat)=>oV B.lv B.N B.T B.N B.ms B.k0 B.g0,ap 0 0,ac (ab 0) (ab 0),cP M M,ac mo mo,ac at_ at_,ap c c,ax c (mF cr) (mF cr),ap q q,ax q (mF qr) (mF qr),ap m m,ax m (mF od) (mF od)])):qA ψ (nZ (C7 A W (tK hs lv B) ny) oG 300 400 39 tbB (LB B mo M c cr at_ q qr m od t tr j) [] [⟨39,Wv,LB B mo M' c' KY at_ q' Pz m' od' t tr j',[]⟩,⟨39,XJ,LA B mo M c cr at_ q qr m od,[]⟩]):=by
 subst e0 e1 e2;exact acB (by kernel_rfl) (an (fun q0=>an (h1 q0) (an (h2 q0) (an (y1 q0) (fun q1=>an (y2 q0 q1) (fun q2=>an (h3 q0 q1 q2) (an (h3 q0 q1 q2) (an (h4 q0 q1 q2) (an (h4 q0 q1 q2) (an (h5 q0 q1 q2) (y3 q0 q1 q2)))))))))) y4) (by kernel_rfl)
end Go.Proofs
namespace Go.Pl
open Go Go.Sx Go.Proofs
structure Ie where
 tx:Int
 com:Bool
 deriving DecidableEq
instance:Inhabited Ie:=⟨⟨0,ag⟩⟩
instance:Row Ie where
 put x:=[.i .i64 x.tx,.b x.com]
 get l:=match l with
  |[.i .i64 a,.b c]=>ae ⟨a,c⟩ |_=>aq
 rJ l a h:=by
  split at h
  ·cases h;rfl
  ·cases h
 get_put a:=rfl
 zX:=default
end Go.Pl
namespace Go.Proofs
open Go Go.Sx Go.Pl
def Z4:List It:=[aH [0,1,0,1,1,0,0,1,0,0,1,0,1,1],aW 2,aH [1,1,1,0,0,1,0,0,1,0,1,1],aW 1,aH [1,1,0,0,1,0,1,1],aH [0,1,0,1,1],aW 0,aH [1,1,1]]
def tbD:List It:=aH [0,0,1,0,1,1,0,0,1,0,0,1,0,1,1]::Z4
def LD(B:zl)(m:Nat)(od:Nat->Na)(M:Int×List UInt8->Option Value)(c:Int)(i:Int)(p:Int)(n:Nat)(g:Nat->List Sh)(is:Bool)(t:Nat)(tr:Nat->Ei)(j:Int):Core:=
 {tm:=vZ 50 (tmC B i++[(7,.ptr 12 0),(8,.test is),(30,.sh (.sl 4 t (mF tr))),(31,.sym .i64 (t:Int)),(32,.sym .i64 j)]),hp:=hpC m od M c++[(12,.box [.sym .i64 p,.sh (.sl 4 n g)] 104)],nx:=13,lim:=L0,tc:=[]}
def KZ(B:zl):List Fr:=[{g:=39,td:=[It.reg [0,1,0,1,1,1,1,1,1,1,1,1,1,1,1,1] [2,3,4,5,6],aH [1,1,1,1,1,1,1,1,1,1,1,1,1,1]],tm:=vZ 111 [(8,.ptr 1 0),(22,.ptr 11 0)]}]
def Z5:List It:=[aH [0,1,0,1,1],aW 0,aH [1,1,1]]
def tbE:List It:=aH [0,0,1,0,1,1]::Z5
def hpE(M:Int×List UInt8->Option Value)(c:Int)(p:Int)(n:Nat)(g:Nat->List Sh)(k:Nat)(sr:Nat->Ie):List (Nat×SB):=[(1,.box [.bool ag,.nD,.int .i64 0] 44),(10,.pm .bool M []),(11,.box [.bool ag,.nD,.sym .i64 c] 44),(12,.box [.sym .i64 p,.sh (.sl 4 n g)] 104),(13,.own 55 2 k (mF sr))]
def tmE(B:zl):List (Nat×SV):=[(0,.wV 4 1 (fun _=>oV B.lv B.N B.T B.N B.ms B.k0 B.g0) 0 0),(1,.mp 10),(5,.gs 13),(6,.ptr 12 0)]
def LE(B:zl)(M:Int×List UInt8->Option Value)(c:Int)(p:Int)(n:Nat)(g:Nat->List Sh)(k:Nat)(sr:Nat->Ie):Core:={tm:=vZ 42 (tmE B),hp:=hpE M c p n g k sr,nx:=14,lim:=L0,tc:=[]}
def tdF:List It:=[aH [0,1,0,0,1,0,0,1,0,1,1],aW 2,aW 1,aH [1,1,0,0,1,0,1,1],aH [0,1,0,1,1],aW 0,aH [1,1,1]]
def tbF:List It:=aH [0,0,1,0,0,1,0,0,1,0,1,1]::tdF
def LF(B:zl)(M:Int×List UInt8->Option Value)(c:Int)(p:Int)(n:Nat)(g:Nat->List Sh)(k:Nat)(sr:Nat->Ie)(t:Nat)(tr:Nat->Ei)(j:Int):Core:={tm:=vZ 42 (tmE B++[(21,.sh (.sl 4 t (mF tr))),(22,.sym .i64 (t:Int)),(23,.sym .i64 j)]),hp:=hpE M c p n g k sr,nx:=14,lim:=L0,tc:=[]}
end Go.Proofs
