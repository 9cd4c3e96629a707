/- Own work. -/
import Derived.Test.YthehnhaoiijkhaaGreatDoorF08
import Derived.Conc.LoneSelect
import Derived.KernelRfl
open Int (ofNat)
open And renaming intro->dh
open BitVec renaming ofInt->fD,toNat_and->rO,toNat_ofNat->iC
open Bool renaming true->aC,and_eq_true->aG,false->ay,or_eq_true->lH
open Classical renaming propDecidable->aX
open Go.BinOp renaming or->ig,shl->fZ
open Go.Conc renaming base->zC
open Go.Frame renaming enter->fM
open Go.IntKind renaming i64->aU
open Go.Proofs.C7 renaming ok->bY,O5->kS
open Go.Proofs.Tryz renaming prog->aA,f118->zB,f144->pG,f92->oq,f76->qp,f41->qw,f69->qx,func69->yC
open Go.Sx renaming Sh->zD
open Go.Sx.AQ renaming sh->aP,int->aj,nat->aJ,Nz->aZ,get->aQ,val->jH,mg->iR
open Go.Sx.DF renaming ret->aS,at_->bJ
open Go.Sx.It renaming code->bF,inBlock->bZ
open Go.Sx.Sh renaming zQ->bT,agg->bP,sl->aI,i->aT,er->aW,BM->mZ,pt->qo,b->gG
open Go.Sx.Tree renaming need->aH,node->aF,leaf->aB
open Go.Value renaming nilIface->bG,chan->gI,int->iQ
open Int renaming toNat_natCast->fB,ofNat->ah
open Int.ofNat renaming inj->jZ
open List renaming range->aY,all_eq_true->dA,mem_range->dD,getElem_mem->uG,mem_cons->lX,range_succ->vJ,map_append->lI,range_succ_eq_map->pK,map_cons->jJ,map_map->qX,map_congr_left->jE,mem_cons_self->dK,mem_cons_of_mem->dF,mem_of_getElem?->dB,mem_iff_getElem->kY,getElem?_eq_some_iff->bW,pairwise_iff_getElem->iV,countP_append->rM,mem_map->fC,mem_flatMap->iL,append_nil->fA,append_assoc->iT,length_append->dP
open Nat renaming mul_le_mul_right->dG,shiftLeft_eq->kV,or_lt_two_pow->nX,one_mul->oH,pow_lt_pow_right->iE,eq_of_testBit_eq->qY,testBit_lt_two_pow->kP,lt_of_lt_of_le->ji,pow_le_pow_right->jv,lt_of_le_of_lt->sS,mod_eq_of_lt->gW,min_eq_left->pq,shiftRight_eq_div_pow->oZ,and_comm->yB,zero_testBit->vK,beq->dQ
open Option renaming some->ak,none->aK
namespace Go.Pl
open Go Go.Sx Go.Proofs
def W9(s:BK):Bool:=BR s.kind&&BR s.num&&s.q.all BR&&s.ps.all (fun p=>BR p.key&&BR p.val)&&decide (s.q.length<=100000/\s.ps.length<=100000)
def keysB(n:Nat)(d:Nat->BK):Bool:=decide (n<=1000)&&(aY n).all fun j=>W9 (d j)
def adz(l:List BK):List UInt8:=CG (l.map keyS) [59,32]
def LK:Lk7 where
 key:=keyS
 join n g sep:=CG (lst (List UInt8) n g) sep
theorem ahb{s:BK}(h:W9 s=aC):Y6 s.kind s.num (len s.q) (zH (nth s.q)) (len s.ps) (zH (nth s.ps))=aC:=by
 unfold W9 at h;simp only[aG,decide_eq_true_eq] at h;obtain ⟨⟨⟨⟨h1,h2⟩,h3⟩,h4⟩,h5⟩:=h;unfold Y6;simp only[aG,decide_eq_true_eq];refine ⟨⟨⟨⟨⟨⟨Dx _ _,Dx _ _⟩,h1⟩,h2⟩,?_⟩,?_⟩,h5⟩
 ·rw[TD]
  refine dA.2 fun j hj=>?_
  have hj:j<s.q.length:=dD.1 hj;simp_all [nth,dA,uG]
 ·rw[TD]
  refine dA.2 fun j hj=>?_
  have hj:j<s.ps.length:=dD.1 hj;simp_all [nth,dA,uG]
theorem ai8(s:BK):sQ s.kind s.num (len s.q) (zH (nth s.q)) (len s.ps) (zH (nth s.ps))=s:=by
 show (⟨s.kind,s.num,lst Int s.q.length (zH (nth s.q)),lst Pr s.ps.length (zH (nth s.ps))⟩:BK)=s;rw[Kw,Kw]
theorem ahc{s:BK}(h:W9 s=aC):(Jo s).length<=100001/\∀x∈Jo s,x.length<=50:=by
 unfold W9 at h;simp only[aG,decide_eq_true_eq] at h;obtain ⟨⟨⟨⟨h1,h2⟩,h3⟩,h4⟩,h5⟩:=h;unfold Jo;refine ⟨?_,fun x hx=>?_⟩
 ·grind
 ·rcases lX.1 hx with rfl|hx
  ·exact abk _
  ·split at hx
   ·grind [JR]
   ·split at hx
    ·grind [JR]
    grind [adv]
theorem al3{s:BK}(h:W9 s=aC):(keyS s).length<=6000000:=by
 obtain ⟨h1,h2⟩:=ahc h;have h3:=Yb (Jo s) [32] h2;grind [Jo,dG,keyS]
theorem ahd{l:List BK}(hl:l.length<=1000)(h:∀s∈l,W9 s=aC):Hw (CG (l.map keyS) [59,32])=aC:=by
 have h3:=Yb (l.map keyS) [59,32] (m:=6000000) fun x hx=>by
  grind [al3]
 have h4:(l.map keyS).length*(6000000+[(59:UInt8),32].length)<=1000*6000002:=dG _ (by grind);exact decide_eq_true (by omega)
end Go.Pl
namespace Go.Proofs
open Go Go.Sx Go.Pl
theorem awP:zZ aA (Ar W7) 116 (G35 LK):=O35.mono fun H Aq args φ hr h=>by
 unfold G35 at h;split at h
 ·split at h
  ·rename_i s2 s3 a hh b l hs2 hs3
   obtain ⟨h1,hφ⟩:=h;simp only[Y6,aG] at h1;obtain ⟨⟨⟨⟨⟨⟨q1,q2⟩,q3⟩,q4⟩,q5⟩,q6⟩,q7⟩:=h1;simp only[F35,hs2,hs3];exact ⟨q1,q2,q3,q4,q5,q6,q7,hφ⟩
  ·exact h.elim
 ·exact h.elim
theorem awQ:zZ aA (Ar W7) 117 (G56 LK):=fun H w Aq args φ on hg hr h=>by
 unfold G56 at h;split at h
 ·rename_i s0 sep
  split at h
  ·rename_i n g hs
   obtain ⟨h1,hφ⟩:=h;simp only[abn,aG] at h1;match args,hr with
   |[v,u],⟨hv,hu,_⟩=>exact O56 H w [.sl 1 n g,.str sep] [v,u] φ on hg ⟨Bd hs hv,hu,trivial⟩ ⟨h1.1.1,h1.1.2,h1.2,hφ⟩
  ·exact h.elim
 ·exact h.elim
theorem O64:zZ aA (Ar W7) 118 F64:=by
 refine Dl (C:=C7 zG W7 CO zW) (bY _ _) (KY _) (m:=300) (n:=400) (L:=L0) (fn:=zB) (by kernel_rfl) (by kernel_rfl) fun H w Aq args φ hrep h=>?_
 have hn:zB.ntmps=10:=by kernel_rfl
 unfold F64 at h;split at h
 ·rename_i s0
  split at h
  ·rename_i n g hs
   obtain ⟨h1,hφ⟩:=h;match args,hrep with
   |[v],⟨hv,_⟩=>
    refine ⟨[.agg [.sl 4 n g]],⟨Mc hv fun u hu=>Bd hs hu,trivial⟩,?_⟩;rw[hn,a64 zG W7 n g,Hg,JQ,Nb];exact ⟨le0 n,h1,h1,AB (s':=.sl 4 n g) (.inr ⟨rfl,rfl,fun _ _=>rfl⟩) hφ⟩
  ·exact h.elim
 ·exact h.elim
theorem OKs:∀g F,KO LK g=ak F->zZ aA (Ar W7) g F:=fun g F h=>by
 unfold KO at h;grind [awP,awQ,O64]
theorem ahe(stop:Nat->List Nat->Bool):AU aA (C7 zG W7 (KO LK) stop):=kS OKs fun g h=>by
 unfold KO at h;split at h;all_goals first|(cases h;done) |kernel_rfl
theorem nd7:NP Tryz.fns=aC:=by kernel_rfl
noncomputable def F32:List Sh->Tree Sh
 |[.agg [s0]]=>match DI 4 s0 with
  |some (n,g)=>.need (stB n g) (.need (keysB n (DN n g)) (.leaf (.str (adz ((aY n).map (DN n g)))))) |none=>.fail
 |_=>.fail
section
variable{H0:Mem}{w0:World}{φ:Sh->Prop}{n:Nat}{d:Nat->BK}
theorem akN(hn:n<=1000)(hd:∀j,j<n->W9 (d j)=aC)(hφ:φ (.str (adz ((aY n).map d)))){l:Nat}:∀r k,k+r=n->0<k->
  Df aA (C7 zG W7 (KO LK) zW) (K0 H0 w0) 144 aK Uf (L63 n d l (k:Int) k (zH (nth (((aY k).map d).map keyS))) ay) (Zv l) φ
 |r,k,hkr,h0=>by
  refine NQ (fn:=pG) (tb:=akM) (by kernel_rfl) (by kernel_rfl) ?_;refine E5 (bY _ _) (ahe _) nd7 (pause:=FP) (m:=300) (n:=800) (ts:=[⟨144,aK,Uf,L63 n d l ((k+1:Nat):Int) (k+1) (zH (nth (((aY (k+1)).map d).map keyS))) ay,Zv l⟩]) ?_;refine (congrArg (Qh _) (awO zG W7 LK n d l k (k+1:Nat) k (k+1) (zH (nth (((aY k).map d).map keyS))) (zH (nth (((aY (k+1)).map d).map keyS))))).mpr ?_;rw[JO];have hlen:(((aY k).map d).map keyS).length=k:=by simp
  simp only[zN,AY,BL,CB,Gl,fB,abg];rw[ai8 (d k)];refine ⟨fun h=>?_,fun h=>?_⟩
  ·have hlt:k<n:=by simp_all
   have hk:=ahb (hd k hlt);have hr:zG.room (k+1) 16=aC:=room_le (by omega) (by omega);have hin:decide (0<=(k:Int)/\(k:Int)<(n:Int))=aC:=by simp;omega
   have hw:aU.wrap ((k:Int)+1)=((k+1:Nat):Int):=by grind [BF]
   have hs:∀i,i<k+1->zG.snoc (zH (nth (((aY k).map d).map keyS))) k (Af [[.str (keyS (d k))]]) i=zH (nth (((aY (k+1)).map d).map keyS)) i:=fun i hi=>by
    have:=O7 (((aY k).map d).map keyS) (keyS (d k)) (r:=[[.str (keyS (d k))]]) rfl i (by omega);simp_all [vJ,lI]
   have next:∃t:MW,([⟨144,aK,Uf,L63 n d l ((k+1:Nat):Int) (k+1) (zH (nth (((aY (k+1)).map d).map keyS))) ay,Zv l⟩]:List MW)[0]?=ak t/\Df aA (C7 zG W7 (KO LK) zW) (K0 H0 w0) t.g t.r t.td t.c t.stk φ:=by
    match r,hkr with
    |0,hkr=>omega |r+1,hkr=>exact ⟨_,rfl,akN hn hd hφ r (k+1) (by omega) (by omega)⟩
   repeat' (first|exact trivial|exact next|exact hk|exact hr|exact hin|exact hw|exact hs|exact rfl|refine dh ?_ ?_)
  ·have hk:k=n:=by grind
   subst hk;have e:lst (List UInt8) k (zH (nth (((aY k).map d).map keyS)))=((aY k).map d).map keyS:=aeN _ hlen;have hsh:Hw (CG (((aY k).map d).map keyS) [59,32])=aC:=ahd (by grind) fun s hs=>by
    grind
   refine ⟨?_,?_⟩
   ·simp only[abn,aG]
    grind [Dx,room_le]
   ·show φ (.str (CG (lst (List UInt8) k (zH (nth (((aY k).map d).map keyS)))) [59,32]))
    rw[e];exact hφ
end
theorem O32:zZ aA (Ar W7) 92 F32:=by
 refine arP (C:=C7 zG W7 (KO LK) zW) (bY _ _) (fn:=oq) (by kernel_rfl) (by kernel_rfl) fun H w Aq args φ hrep h=>?_
 have hn:oq.ntmps=17:=by kernel_rfl
 unfold F32 at h;split at h
 ·rename_i s0
  split at h
  ·rename_i n g hs
   obtain ⟨h1,h2,hφ⟩:=h;match args,hrep with
   |[v],⟨hv,_⟩=>
    refine ⟨[.agg [.sl 4 n (BD (DN n g))]],⟨Mc hv fun u hu=>DZ (Bd hs hu) (Qi h1),trivial⟩,L0,?_⟩;generalize DN n g=d at *;have hφ:φ (.str (adz ((aY n).map d))):=hφ;simp only[keysB,aG,decide_eq_true_eq] at h2;obtain ⟨h2,h3⟩:=h2;have hd:=Ho h3;refine E5 (bY _ _) (ahe _) nd7 (pause:=FP) (m:=300) (n:=800) (ts:=[⟨92,aK,.code ag8::k32,L32 n d,[]⟩]) ?_;rw[hn,a32 zG W7 LK n d,JO];refine ⟨⟨rfl,trivial⟩,_,rfl,?_⟩;refine Qg (bY _ _) (ahe _) (fn:=oq) (EF:=pG) (g2:=144) (caps:=[.ptr 1 0]) (by kernel_rfl) (x:=.tmp 7) (ps:=#[8,9]) (ca:=Ai (zS oq) (0::ag8)) (cb:=Ai (zS oq) (1::ag8)) (by kernel_rfl) (by kernel_rfl) (by kernel_rfl) (by kernel_rfl) fun l=>?_
    have hn63:pG.ntmps=20:=by kernel_rfl
    rw[hn63];refine E5 (bY _ _) (ahe _) nd7 (pause:=FP) (m:=300) (n:=800) (ts:=[⟨144,aK,Uf,L63 n d l ((0:Nat):Int) 0 noT aC,Zv l⟩]) ?_;refine (congrArg (Qh _) (t32 zG W7 LK n d l ((0:Nat):Int) 0 noT)).mpr ?_;rw[JO];refine ⟨room_le (by omega) (by omega),?_,_,rfl,?_⟩
    ·repeat' (first|exact trivial|exact rfl|exact fun _ _=>rfl|refine dh ?_ ?_)
    refine NQ (fn:=pG) (tb:=akM) (by kernel_rfl) (by kernel_rfl) ?_;refine E5 (bY _ _) (ahe _) nd7 (pause:=FP) (m:=300) (n:=800) (ts:=[⟨144,aK,Uf,L63 n d l ((1:Nat):Int) 1 (zH (nth (((aY 1).map d).map keyS))) ay,Zv l⟩]) ?_;refine (congrArg (Qh _) (awN zG W7 LK n d l ((0:Nat):Int) ((1:Nat):Int) 0 1 noT (zH (nth (((aY 1).map d).map keyS))))).mpr ?_;rw[JO];simp only[zN,AY,BL,CB,Gl,fB];rw[ai8 (d 0)];refine ⟨fun h=>?_,fun h=>?_⟩
    ·have hlt:0<n:=by simp_all
     have hk:=ahb (hd 0 hlt);have hin:decide (0<=((0:Nat):Int)/\((0:Nat):Int)<(n:Int))=aC:=by simp;omega
     have hw:aU.wrap (((0:Nat):Int)+1)=((1:Nat):Int):=by rfl
     have hs:∀i,i<1->Af [[.str (keyS (d 0))]] i=zH (nth (((aY 1).map d).map keyS)) i:=fun i hi=>by
      obtain rfl:i=0:=by omega
      rfl
     have next:∃t:MW,([⟨144,aK,Uf,L63 n d l ((1:Nat):Int) 1 (zH (nth (((aY 1).map d).map keyS))) ay,Zv l⟩]:List MW)[0]?=ak t/\Df aA (C7 zG W7 (KO LK) zW) (K0 H w) t.g t.r t.td t.c t.stk φ:=
      ⟨_,rfl,akN h2 hd hφ (n - 1) 1 (by omega) (by omega)⟩
     repeat' (first|exact trivial|exact next|exact hk|exact hin|exact hw|exact hs|exact rfl|refine dh ?_ ?_)
    ·have:n=0:=by simp_all
     subst this;refine ⟨rfl,hφ⟩
  ·exact h.elim
 ·exact h.elim
end Go.Proofs
namespace Go.Pl
open Go Go.Sx
structure Lb7 where
 op:BK->Int->Int->Int->BK
 r:BK->Int->Int->Int->Int
 g:BK->Int->Int->Int->Int
 key:BK->List UInt8
 join:List (List UInt8)->List UInt8->List UInt8
 at_:Nat->(Nat->List Sh)->Int->BK
def abq(a:Nat):Bool:=AV (a+1) 8
end Go.Pl
namespace Go.Proofs
open Go Go.Sx Go.Pl
noncomputable def G33(L:Lb7):List Sh->Tree Sh
 |[.agg [s0],t]=>match DI 4 s0,Ak t with
  |some (n,g),ak i=>.need (stB n g) (.leaf (.zQ [.agg [.i .i64 (L.at_ n g i).kind,.i .i64 (L.at_ n g i).num,.sl 1 (len (L.at_ n g i).q) (zH (nth (L.at_ n g i).q)),.sl 2 (len (L.at_ n g i).ps) (zH (nth (L.at_ n g i).ps))],.b (Jm n i)])) |_,_=>.fail
 |_=>.fail
def G42(L:Lb7):List Sh->Tree Sh
 |[.agg [.i .i64 x,.i .i64 y,s2,s3],t,u,v]=>match DI 1 s2,DI 2 s3,Ak t,Ak u,Ak v with
  |some (a,h),ak (b,l),ak op,ak k,ak v=>.need (okB Int a h) (.need (okB Pr b l) (.need (abq a) (.node (Gp x op) (.leaf (.zQ [.agg [.i .i64 0,.i .i64 0,.sl 1 0 noI,.sl 2 0 noP],.i .i64 0,.i .i64 0,.er 8 329])) (.node (Hr x y op k v) (.leaf (.zQ [.agg [.i .i64 0,.i .i64 0,.sl 1 0 noI,.sl 2 0 noP],.i .i64 0,.i .i64 0,.er 15 329]))
    (.need (JU op b l) (.leaf (.zQ [.agg [.i .i64 (L.op (sQ x y a h b l) op k v).kind,.i .i64 (L.op (sQ x y a h b l) op k v).num,.sl 1 (len (L.op (sQ x y a h b l) op k v).q) (zH (nth (L.op (sQ x y a h b l) op k v).q)),.sl 2 (len (L.op (sQ x y a h b l) op k v).ps) (zH (nth (L.op (sQ x y a h b l) op k v).ps))],.i .i64 (L.r (sQ x y a h b l) op k v),.i .i64 (L.g (sQ x y a h b l) op k v),.v .nilIface])))))))
  |_,_,_,_,_=>.fail
 |_=>.fail
noncomputable def Yl(L:Lb7):Nat->Option (List Sh->Tree Sh)
 |119=>ak (G33 L) |120=>ak (G42 L) |121=>ak F54 |_=>aK
theorem a29(A:Prim)(W:Wd)(L:Lb7)(n:Nat)(d:Nat->BK)(i op k v:Int):AA (C7 A W (Yl L) zW) AX 300 400 97 [.code []] (zL 52 [.agg [.sl 4 n (BD d)],.i .i64 i,.i .i64 op,.i .i64 k,.i .i64 v] L0) [] []=aH (stB n (BD d)) (aF (A.nt (Jm n i)) (aB (aS (bT [bP [aI 0 0 fun _=>[]],aT .i64 (ah 0),aT .i64 (ah 0),aW 7 329]))) (aH (okB Int (len (L.at_ n (BD d) i).q) (zH (nth (L.at_ n (BD d) i).q))) (aH (okB Pr (len (L.at_ n (BD d) i).ps) (zH (nth (L.at_ n (BD d) i).ps))) (aH (abq (len (L.at_ n (BD d) i).q)) (aF (Gp (L.at_ n (BD d) i).kind op) (aB (aS (bT [bP [aI 0 0 fun _=>[]],aT .i64 (ah 0),aT .i64 (ah 0),aW 8 329]))) (aF (Hr (L.at_ n (BD d) i).kind (L.at_ n (BD d) i).num op k v) (aB (aS (bT [bP [aI 0 0 fun _=>[]],aT .i64 (ah 0),aT .i64 (ah 0),aW 15 329]))) (aH (JU op (len (L.at_ n (BD d) i).ps) (zH (nth (L.at_ n (BD d) i).ps))) (aH (AV n 64) (aH (stB n (BD d)) (aB (aS (bT [bP [aI 4 n (RN n (BD d) i [aT .i64 (L.op (sQ (L.at_ n (BD d) i).kind (L.at_ n (BD d) i).num (len (L.at_ n (BD d) i).q) (zH (nth (L.at_ n (BD d) i).q)) (len (L.at_ n (BD d) i).ps) (zH (nth (L.at_ n (BD d) i).ps))) op k v).kind,aT .i64 (L.op (sQ (L.at_ n (BD d) i).kind (L.at_ n (BD d) i).num (len (L.at_ n (BD d) i).q) (zH (nth (L.at_ n (BD d) i).q)) (len (L.at_ n (BD d) i).ps) (zH (nth (L.at_ n (BD d) i).ps))) op k v).num,aI 1 (len (L.op (sQ (L.at_ n (BD d) i).kind (L.at_ n (BD d) i).num (len (L.at_ n (BD d) i).q) (zH (nth (L.at_ n (BD d) i).q)) (len (L.at_ n (BD d) i).ps) (zH (nth (L.at_ n (BD d) i).ps))) op k v).q) (zH (nth (L.op (sQ (L.at_ n (BD d) i).kind (L.at_ n (BD d) i).num (len (L.at_ n (BD d) i).q) (zH (nth (L.at_ n (BD d) i).q)) (len (L.at_ n (BD d) i).ps) (zH (nth (L.at_ n (BD d) i).ps))) op k v).q)),aI 2 (len (L.op (sQ (L.at_ n (BD d) i).kind (L.at_ n (BD d) i).num (len (L.at_ n (BD d) i).q) (zH (nth (L.at_ n (BD d) i).q)) (len (L.at_ n (BD d) i).ps) (zH (nth (L.at_ n (BD d) i).ps))) op k v).ps) (zH (nth (L.op (sQ (L.at_ n (BD d) i).kind (L.at_ n (BD d) i).num (len (L.at_ n (BD d) i).q) (zH (nth (L.at_ n (BD d) i).q)) (len (L.at_ n (BD d) i).ps) (zH (nth (L.at_ n (BD d) i).ps))) op k v).ps))])],aT .i64 (L.r (sQ (L.at_ n (BD d) i).kind (L.at_ n (BD d) i).num (len (L.at_ n (BD d) i).q) (zH (nth (L.at_ n (BD d) i).q)) (len (L.at_ n (BD d) i).ps) (zH (nth (L.at_ n (BD d) i).ps))) op k v),aT .i64 (L.g (sQ (L.at_ n (BD d) i).kind (L.at_ n (BD d) i).num (len (L.at_ n (BD d) i).q) (zH (nth (L.at_ n (BD d) i).q)) (len (L.at_ n (BD d) i).ps) (zH (nth (L.at_ n (BD d) i).ps))) op k v),Sh.v bG])))))))))))):=by kernel_rfl
end Go.Proofs
namespace Go.Pl
open Go Go.Sx Go.Proofs
noncomputable def L7:Lb7 where
 op s o k v:=(Eh s o k v).1
 r s o k v:=(Eh s o k v).2.1
 g s o k v:=(Eh s o k v).2.2
 key:=keyS
 join:=CG
 at_ n g i:=atT n (DN n g) i
end Go.Pl
namespace Go.Proofs
open Go Go.Sx Go.Pl
theorem awT:zZ aA (Ar W7) 119 (G33 L7):=O33
theorem awU:zZ aA (Ar W7) 120 (G42 L7):=O42
theorem OEs:∀g F,Yl L7 g=ak F->zZ aA (Ar W7) g F:=fun g F h=>by
 unfold Yl at h;split at h
 ·cases h;exact awT
 ·cases h;exact awU
 ·cases h;exact O54
 ·cases h
theorem awV(stop:Nat->List Nat->Bool):AU aA (C7 zG W7 (Yl L7) stop):=kS OEs fun g h=>by
 unfold Yl at h;split at h;all_goals first|(cases h;done) |kernel_rfl
noncomputable def F29:List Sh->Tree Sh
 |[.agg [s0],t,u,v,w]=>match DI 4 s0,Ak t,Ak u,Ak v,Ak w with
  |some (n,g),ak i,ak op,ak k,ak v=>.need (stB n g) (.need (AV n 64) (.node (Jm n i) (.need (abq (DN n g i.toNat).q.length) (.node (Gp (DN n g i.toNat).kind op) (.leaf (.zQ [.agg [.sl 4 0 noT],.i .i64 0,.i .i64 0,.er 8 329])) (.node (Hr (DN n g i.toNat).kind (DN n g i.toNat).num op k v) (.leaf (.zQ [.agg [.sl 4 0 noT],.i .i64 0,.i .i64 0,.er 15 329]))
    (.need (JU op (len (DN n g i.toNat).ps) (zH (nth (DN n g i.toNat).ps))) (.leaf (.zQ [.agg [.sl 4 n (RN n g i (Cb (Eh (DN n g i.toNat) op k v).1))],.i .i64 (Eh (DN n g i.toNat) op k v).2.1,.i .i64 (Eh (DN n g i.toNat) op k v).2.2,.v .nilIface]))))))
   (.leaf (.zQ [.agg [.sl 4 0 noT],.i .i64 0,.i .i64 0,.er 7 329]))))
  |_,_,_,_,_=>.fail
 |_=>.fail
theorem O29:zZ aA (Ar W7) 97 F29:=by
 refine Dl (C:=C7 zG W7 (Yl L7) zW) (bY _ _) (awV _) (m:=300) (n:=400) (L:=L0) (fn:=Tryz.f97) (by kernel_rfl) (by kernel_rfl) fun H w Aq args φ hrep h=>?_
 have hn:Tryz.f97.ntmps=52:=by kernel_rfl
 unfold F29 at h;split at h
 ·rename_i s0 t u v ww
  split at h
  ·rename_i n g i op k vv hs ht hu hv hw
   obtain ⟨h1,h2,hin,hout⟩:=h;have hout:Jm n i=ay->φ (.zQ [.agg [.sl 4 0 noT],.i .i64 0,.i .i64 0,.er 7 329]):=hout;match args,hrep with
   |[v0,v1,v2,v3,v4],⟨r0,r1,r2,r3,r4,_⟩=>
    refine ⟨[.agg [.sl 4 n (BD (DN n g))],.i .i64 i,.i .i64 op,.i .i64 k,.i .i64 vv],⟨Mc r0 fun u hu=>DZ (Bd hs hu) (Qi h1),Dn ht r1,Dn hu r2,Dn hv r3,Dn hw r4,trivial⟩,?_⟩;have hrow:=Qi h1;have her (T:Nat) (g0:Nat) (hp:φ (.zQ [.agg [.sl 4 0 noT],.i .i64 0,.i .i64 0,.er g0 329])):up φ (.zQ [.agg [.sl 0 0 fun _=>[]],.i .i64 (ah 0),.i .i64 (ah 0),.er g0 329]):=
     AB (s':=.zQ [.agg [.sl 4 0 noT],.i .i64 0,.i .i64 0,.er g0 329]) ⟨⟨.inl ⟨rfl,rfl⟩,trivial⟩,rfl,rfl,rfl,trivial⟩ hp
    rw[hn,a29 zG W7 L7 n (DN n g) i op k vv];have e1:L7.at_ n (BD (DN n g)) i=atT n (DN n (BD (DN n g))) i:=rfl;rw[e1];refine ⟨abh n _,fun e=>her 0 7 (hout (by simpa[Bh] using e)),fun e=>?_⟩;have e:Jm n i=aC:=by simpa[Bh] using e
    obtain ⟨q1,q3,q4⟩:=hin e;have hlt:i.toNat<n:=by simp[Jm] at e;omega
    have e2:atT n (DN n (BD (DN n g))) i=DN n g i.toNat:=by simp[atT,e,aog i.toNat hlt]
    rw[e2,ai8];have q4:Gp (DN n g i.toNat).kind op=ay->(Hr (DN n g i.toNat).kind (DN n g i.toNat).num op k vv=aC->φ (.zQ [.agg [.sl 4 0 noT],.i .i64 0,.i .i64 0,.er 15 329]))/\(Hr (DN n g i.toNat).kind (DN n g i.toNat).num op k vv=ay->JU op (len (DN n g i.toNat).ps) (zH (nth (DN n g i.toNat).ps))=aC/\φ (.zQ [.agg [.sl 4 n (RN n g i (Cb (Eh (DN n g i.toNat) op k vv).1))],.i .i64 (Eh (DN n g i.toNat) op k vv).2.1,.i .i64 (Eh (DN n g i.toNat) op k vv).2.2,.v .nilIface])):=q4;refine ⟨Dx _ _,Dx _ _,q1,fun e=>her 0 8 (q3 e),fun e=>⟨fun e'=>her 0 15 ((q4 e).1 e'),fun e'=>⟨((q4 e).2 e').1,h2,abh n _,AB (s':=.zQ [.agg [.sl 4 n (RN n g i (Cb (Eh (DN n g i.toNat) op k vv).1))],.i .i64 (Eh (DN n g i.toNat) op k vv).2.1,.i .i64 (Eh (DN n g i.toNat) op k vv).2.2,.v .nilIface]) ⟨⟨.inr ⟨rfl,rfl,fun j hj=>?_⟩,trivial⟩,rfl,rfl,rfl,trivial⟩ ((q4 e).2 e').2⟩⟩⟩;unfold RN;split
    ·rfl
    ·exact (hrow j hj).symm
  ·exact h.elim
 ·exact h.elim
end Go.Proofs
namespace Go.Pl
open Go Go.Sx
structure Dz where
 id:Int
 th:Int
 st:Int
 bg:Int
 en:Int
 tr:Int
 k:Nat
 g:Nat->List Sh
instance:Inhabited Dz:=⟨⟨0,0,0,0,0,0,0,fun _=>[]⟩⟩
instance:Row Dz where
 put t:=[.i .i64 t.id,.i .i64 t.th,.i .i64 t.st,.i .i64 t.bg,.i .i64 t.en,.i .i64 t.tr,.sl 8 t.k t.g]
 get l:=match l with
  |[.i .i64 a,.i .i64 b,.i .i64 c,.i .i64 d,.i .i64 e,.i .i64 f,.sl 8 k g]=>ak ⟨a,b,c,d,e,f,k,g⟩ |_=>aK
 Dk l a h:=by
  split at h
  ·cases h;rfl
  ·cases h
 get_put a:=rfl
 Jl:=default
structure Dd where
 obj:Int
 op:Int
 key:Int
 val:Int
 ret:Int
 got:Int
 at_:Int
 back:Int
 deriving DecidableEq,Inhabited
instance:Row Dd where
 put d:=[.i .i64 d.obj,.i .i64 d.op,.i .i64 d.key,.i .i64 d.val,.i .i64 d.ret,.i .i64 d.got,.i .i64 d.at_,.i .i64 d.back]
 get l:=match l with
  |[.i .i64 a,.i .i64 b,.i .i64 c,.i .i64 d,.i .i64 e,.i .i64 f,.i .i64 g,.i .i64 h]=>ak ⟨a,b,c,d,e,f,g,h⟩ |_=>aK
 Dk l a h:=by
  split at h
  ·cases h;rfl
  ·cases h
 get_put a:=rfl
 Jl:=default
structure U6 where
 placed:Int
 n:Nat
 g:Nat->List Sh
instance:Inhabited U6:=⟨⟨0,0,fun _=>[]⟩⟩
instance:Row U6 where
 put x:=[.i .i64 x.placed,.sl 4 x.n x.g]
 get l:=match l with
  |[.i .i64 a,.sl 4 n g]=>ak ⟨a,n,g⟩ |_=>aK
 Dk l a h:=by
  split at h
  ·cases h;rfl
  ·cases h
 get_put a:=rfl
 Jl:=default
structure Nk where
 tx:Int
 com:Bool
 placed:Int
 n:Nat
 g:Nat->List Sh
instance:Inhabited Nk:=⟨⟨0,ay,0,0,fun _=>[]⟩⟩
instance:Row Nk where
 put x:=[.i .i64 x.tx,.b x.com,.i .i64 x.placed,.sl 4 x.n x.g]
 get l:=match l with
  |[.i .i64 t,.b c,.i .i64 a,.sl 4 n g]=>ak ⟨t,c,a,n,g⟩ |_=>aK
 Dk l a h:=by
  split at h
  ·cases h;rfl
  ·cases h
 get_put a:=rfl
 Jl:=default
def Ym(n:Nat)(d:Nat->BK)(i op k v:Int):Bool:=Jm n i && !Gp (d i.toNat).kind op && !Hr (d i.toNat).kind (d i.toNat).num op k v
def erN(n:Nat)(d:Nat->BK)(i op k v:Int):Nat:=if Jm n i=aC then (if Gp (d i.toNat).kind op=aC then 8 else 15) else 7
def abr(n:Nat)(d:Nat->BK)(i op:Int):Bool:=!Jm n i||(Go.Pl.abq (d i.toNat).q.length&&JU op (len (d i.toNat).ps) (zH (nth (d i.toNat).ps)))
noncomputable def TT(n:Nat)(g:Nat->List Sh)(i op k v:Int):Bool:=Ym n (DN n g) i op k v
noncomputable def adA(n:Nat)(g:Nat->List Sh)(i op:Int):Bool:=stB n g&&(AV n 64&&abr n (DN n g) i op)
noncomputable def erG(n:Nat)(g:Nat->List Sh)(i op k v:Int):Nat:=erN n (DN n g) i op k v
noncomputable def abt(n:Nat)(g:Nat->List Sh)(i op k v:Int):Nat->List Sh:=RN n g i (Cb (Eh (DN n g i.toNat) op k v).1)
noncomputable def ahf(n:Nat)(g:Nat->List Sh)(i op k v:Int):Int:=(Eh (DN n g i.toNat) op k v).2.1
noncomputable def ahg(n:Nat)(g:Nat->List Sh)(i op k v:Int):Int:=(Eh (DN n g i.toNat) op k v).2.2
end Go.Pl
namespace Go.Proofs
open Go Go.Sx Go.Pl
noncomputable def D29:List Sh->Tree Sh
 |[.agg [s0],t,u,v,w]=>match DI 4 s0,Ak t,Ak u,Ak v,Ak w with
  |some (n,g),ak i,ak op,ak k,ak v=>.need (adA n g i op) (.node (TT n g i op k v)
   (.leaf (.zQ [.agg [.sl 4 n (abt n g i op k v)],.i .i64 (ahf n g i op k v),.i .i64 (ahg n g i op k v),.v .nilIface]))
   (.leaf (.zQ [.agg [.sl 4 0 noT],.i .i64 0,.i .i64 0,.er (erG n g i op k v) 329])))
  |_,_,_,_,_=>.fail
 |_=>.fail
noncomputable def Qp:Nat->Option (List Sh->Tree Sh)
 |97=>ak D29 |_=>aK
def Y7:List It:=[bF [0,1,0,1],bZ 0,bF [1,1]]
def aoO:List It:=bF [0,0,1,0,1]::Y7
def Y8(n:Nat)(g:Nat->List Sh)(m:Nat)(dd:Nat->Dd)(i:Int):Core:={tm:=FT 54 [(2,.ptr 0 0),(4,.ptr 1 0),(12,.sh (.sl 8 m (zH dd))),(13,.sym .i64 (m:Int)),(14,.sym .i64 i)],hp:=[(0,.box [.sh (.sl 4 n g)] 100),(1,.box [.zY] 100)],nx:=2,lim:=L0,tc:=[]}
end Go.Proofs
namespace Go.Sx
@[irreducible] def CQ (ψ:DF->Prop) (t:Tree DF):Prop:=t.All ψ
theorem Nl(ψ:DF->Prop)(t:Tree DF):CQ ψ t=t.All ψ:=by unfold CQ;rfl
theorem Ey{P:Program}{C:Ctx}{H0:Mem}{w0:World}(hC:Az P C)(hF:AU P C){m n g:Nat}{td:List It}{c:Core}{stk:List Fr}{ts:List Lp}{R:Hp->Prop}{φ:Sh->Prop}{hold:Nat->Bool}
  (h:CQ (H8 P C (K0 H0 w0) ts R φ) (AA C hold m n g td c stk ts)):Aw P C (K0 H0 w0) g td c stk R φ:=Gv hC hF (by rw[Nl] at h;exact h)
end Go.Sx
namespace Go.Pl
theorem no2{b:Bool}{P:Prop}(h:b=ay)(h2:b=aC):P:=by rw[h] at h2;cases h2
end Go.Pl
namespace Go.Proofs
open Go Go.Sx Go.Pl
theorem NU{A:Prim}{W:Wd}{s s':Nat->Option (List Sh->Tree Sh)}{stop stop':Nat->List Nat->Bool}{K:Kx}{g:Nat}{td:List It}{c:Core}{R:Hp->Prop}{φ:Sh->Prop}
  (h:Aw aA (C7 A W s stop) K g td c [] R φ):Aw aA (C7 A W s' stop') K g td c [] R φ:=fun H E w a items ms cs fn hf st hi hs hx=>
 h H E w a items ms cs fn hf ⟨st.den,st.hp,st.Bg,st.free,st.gl,st.defers⟩ hi (by cases ms with
  |nil=>trivial |cons _ _=>exact hs.elim) hx
theorem ahh{P:Program}{gls:List (Nat×Sh)}{g:Nat}{F G:List Sh->Tree Sh}(hF:zZ P gls g F)(h:∀(Aq:List Sh) (φ:Sh->Prop),(G Aq).All φ->∃s':Sh,φ s'/\(F Aq).All fun s=>Wk s s'):zZ P gls g G:=by
 intro H w Aq args φ hon hg hr hφ;obtain ⟨s',h1,h2⟩:=h Aq φ hφ;refine (hF H w Aq args _ hon hg hr h2).mono fun e w' ⟨v,s,H',he,hs,r⟩=>?_;obtain ⟨H2,r2⟩:=r.wk hs;exact ⟨v,s',H2,he,h1,r2⟩
theorem U7{st n:Nat}{g:Nat->List Sh}:Wk (.sl st n g) (.sl st n g):=.inr ⟨rfl,rfl,fun _ _=>rfl⟩
theorem add1{j:Nat}(h:j<=100000):zG.add .i64 (j:Int) (ah 1)=((j+1:Nat):Int):=by
 show aU.wrap ((j:Int)+1)=_;rw[BF (by omega) (by omega)];rfl
end Go.Proofs
namespace Go.Sx
def AQ.dg:AQ->AQ
 | .int a _=>.int a a | .nat a _=>.nat a a | .bool a _=>.bool a a | .str a _=>.str a a | .val a _=>.val a a | .sh a _=>.sh a a | .get n g _=>.get n g g | .Nz g _=>.Nz g g | .mp M _=>.mp M M | .mg M _=>.mg M M
theorem ZP:∀l:List AQ,AQ.all (l.map AQ.dg)
 |[]=>trivial |e::l=>⟨by cases e<;>first|rfl|exact fun _ _=>rfl,ZP l⟩
def Tree.dg{α:Type}:Tree α->Tree α
 | .leaf a=>.leaf a | .node b t f=>.node b t.dg f.dg | .need b t=>.need b t.dg | .must l t=>.must (l.map AQ.dg) t.dg | .both t f=>.both t.dg f.dg | .fail=>.fail
def Tree.Xa{α:Type}(φ:α->Prop):Tree α->Prop
 | .leaf a=>φ a | .node b t f=>(b=aC->t.Xa φ)/\(b=ay->f.Xa φ) | .need b t=>b=aC/\t.Xa φ | .must _ t=>t.Xa φ | .both t f=>t.Xa φ/\f.Xa φ | .fail=>False
theorem Tree.abu{α:Type}{φ:α->Prop}:∀{t:Tree α},t.Xa φ->t.dg.All φ
 | .leaf _,h=>h | .node _ _ _,h=>⟨fun e=>Tree.abu (h.1 e),fun e=>Tree.abu (h.2 e)⟩ | .need _ _,h=>⟨h.1,Tree.abu h.2⟩ | .must l _,h=>⟨ZP l,Tree.abu h⟩ | .both _ _,h=>⟨Tree.abu h.1,Tree.abu h.2⟩ | .fail,h=>h
theorem EI{P:Prop}{ψ:DF->Prop}{t:Tree DF}(k:P)(e:P=t.All ψ):CQ ψ t:=by
 rw[Nl,<-e];exact k
theorem ahi{P:Prop}{ψ:DF->Prop}{t:Tree DF}(h:t.dg=t)(k:P)(e:P=t.Xa ψ):CQ ψ t:=by
 rw[Nl,<-h];exact Tree.abu (e ▸ k:t.Xa ψ)
theorem nd(c:Bool){p q:Prop}(x:c=aC->p)(y:c=ay->q):(c=aC->p)/\(c=ay->q):=⟨x,y⟩
theorem an{a b:Prop}(x:a)(y:b):a/\b:=⟨x,y⟩
end Go.Sx
namespace Go.Proofs
open Go Go.Sx Go.Pl
theorem aoP(A:Prim)(W:Wd)(n:Nat)(g:Nat->List Sh)(m:Nat)(dd:Nat->Dd)(i':Int){ψ:DF->Prop}(y1:ψ (bJ 0 [aP (aI 8 m (zH dd)) (aI 8 m (zH dd)),aj (A.Aa m) (ah m),aj (ah 0) i',aP (aI 4 n g) (aI 4 n g)])):CQ ψ (AA (C7 A W Qp zW) AX 300 400 76 [.code []] (zL 54 [.agg [.sl 4 n g],.sl 8 m (zH dd)] L0) [] [⟨76,Y7,Y8 n g m dd i',[]⟩]):=by
 exact EI y1 (by kernel_rfl)
theorem abv(A:Prim)(W:Wd)(n:Nat)(g g':Nat->List Sh)(m:Nat)(dd:Nat->Dd)(i i':Int){ψ:DF->Prop}{c0 c1 c2 c3 c4:Bool}(e0:A.lt i (ah m)=c0)(e1:A.eq (dd (A.toN i)).ret (ah 0)=c1)(e2:TT n g (dd (A.toN i)).obj (dd (A.toN i)).op (dd (A.toN i)).key (dd (A.toN i)).val=c2)(e3:A.nt (A.eq (ahf n g (dd (A.toN i)).obj (dd (A.toN i)).op (dd (A.toN i)).key (dd (A.toN i)).val) (dd (A.toN i)).ret)=c3)(e4:A.nt (A.eq (ahg n g (dd (A.toN i)).obj (dd (A.toN i)).op (dd (A.toN i)).key (dd (A.toN i)).val) (dd (A.toN i)).got)=c4)(h1:c0=aC->(A.inB i m)=aC)(h2:c0=aC->c1=ay->(adA n g (dd (A.toN i)).obj (dd (A.toN i)).op)=aC)(y1:c0=aC->c1=aC->ψ (bJ 0 [aP (aI 8 m (zH dd)) (aI 8 m (zH dd)),aj (ah m) (ah m),aj (A.add .i64 i (ah 1)) i',aP (aI 4 n g) (aI 4 n g')]))(y2:c0=aC->c1=ay->c2=aC->c3=aC->ψ (aS (bT [bP [aI 0 0 fun _=>[]],mZ 109 (qo [aT .i64 i,aW 13 329])])))(y3:c0=aC->c1=ay->c2=aC->c3=ay->c4=aC->ψ (aS (bT [bP [aI 0 0 fun _=>[]],mZ 109 (qo [aT .i64 i,aW 13 329])])))(y4:c0=aC->c1=ay->c2=aC->c3=ay->c4=ay->ψ (bJ 0 [aP (aI 8 m (zH dd)) (aI 8 m (zH dd)),aj (ah m) (ah m),aj (A.add .i64 i (ah 1)) i',aP (aI 4 n (abt n g (dd (A.toN i)).obj (dd (A.toN i)).op (dd (A.toN i)).key (dd (A.toN i)).val)) (aI 4 n g')]))(y5:c0=aC->c1=ay->c2=ay->ψ (aS (bT [bP [aI 0 0 fun _=>[]],mZ 109 (qo [aT .i64 i,aW (erG n g (dd (A.toN i)).obj (dd (A.toN i)).op (dd (A.toN i)).key (dd (A.toN i)).val) 329])])))(y6:c0=ay->ψ (aS (bT [bP [aI 4 n g],Sh.v bG]))):CQ ψ (AA (C7 A W Qp zW) AX 300 400 76 aoO (Y8 n g m dd i) [] [⟨76,Y7,Y8 n g' m dd i',[]⟩]):=by
 subst e0 e1 e2 e3 e4;exact EI (an (fun q0=>an (h1 q0) (an (y1 q0) (fun q1=>an (h2 q0 q1) (an (fun q2=>an (y2 q0 q1 q2) (fun q3=>an (y3 q0 q1 q2 q3) (y4 q0 q1 q2 q3))) (y5 q0 q1))))) y6) (by kernel_rfl)
end Go.Proofs
namespace Go.Pl
open Go Go.Sx Go.Proofs
noncomputable def ES(n:Nat):(Nat->List Sh)->Nat->List Dd->(Nat×Nat) ⊕ (Nat->List Sh)
 |g,_,[]=>.inr g |g,i,d::l=>if d.ret=0 then ES n g (i+1) l else if TT n g d.obj d.op d.key d.val=aC then
   (if ahf n g d.obj d.op d.key d.val=d.ret/\ahg n g d.obj d.op d.key d.val=d.got then ES n (abt n g d.obj d.op d.key d.val) (i+1) l else .inl (i,13)) else .inl (i,erG n g d.obj d.op d.key d.val)
noncomputable def Ug(n:Nat):(Nat->List Sh)->List Dd->Prop
 |_,[]=>True |g,d::l=>if d.ret=0 then Ug n g l else adA n g d.obj d.op=aC/\(TT n g d.obj d.op d.key d.val=aC->Ug n (abt n g d.obj d.op d.key d.val) l)
end Go.Pl
namespace Go.Proofs
open Go Go.Sx Go.Pl
noncomputable def aoQ(φ:Sh->Prop)(n:Nat):(Nat×Nat) ⊕ (Nat->List Sh)->Prop
 | .inr g=>φ (.zQ [.agg [.sl 4 n g],.v .nilIface]) | .inl (i,e)=>φ (.zQ [.agg [.sl 4 0 noT],.BM 109 (.pt [.i .i64 (i:Nat),.er e 329])])
theorem aeS(OD:zZ aA (Ar W7) 97 D29)(stop:Nat->List Nat->Bool):AU aA (C7 zG W7 Qp stop):=kS (fun g F h=>by
 grind [Qp]) fun g h=>by
 unfold Qp at h;split at h;all_goals first|(cases h;done) |kernel_rfl
section
variable{H0:Mem}{w0:World}{φ:Sh->Prop}{n m:Nat}{dd:Nat->Dd}
theorem aeT(OD:zZ aA (Ar W7) 97 D29)(hm:m<=100000):∀r i g,i+r=m->Ug n g ((aY r).map fun j=>dd (i+j))->aoQ φ n (ES n g i ((aY r).map fun j=>dd (i+j)))->
  Aw aA (C7 zG W7 Qp zW) (K0 H0 w0) 76 Y7 (Y8 n g m dd (i:Nat)) [] emp (up φ)
 |0,i,g,hi,hf,hφ=>by
  refine G6 (fn:=qp) (tb:=aoO) (by kernel_rfl) (by kernel_rfl) ?_;refine Ey (bY _ _) (aeS OD _) (hold:=AX) (m:=300) (n:=400) (ts:=[⟨76,Y7,Y8 n g m dd 0,[]⟩]) ?_;have lt {P:Prop} (h:zG.lt (i:Int) (ah m)=aC):P:=by simp_all [zN]
  have hφ:φ (.zQ [.agg [.sl 4 n g],.v .nilIface]):=hφ;exact abv zG W7 n g g m dd i 0 rfl rfl rfl rfl rfl (fun q=>lt q) (fun q=>lt q) (fun q=>lt q) (fun q=>lt q) (fun q=>lt q) (fun q=>lt q) (fun q=>lt q) (fun _=>AB (s':=.zQ [.agg [.sl 4 n g],.v .nilIface]) ⟨⟨U7,trivial⟩,rfl,trivial⟩ hφ)
 |r+1,i,g,hi,hf,hφ=>by
  refine G6 (fn:=qp) (tb:=aoO) (by kernel_rfl) (by kernel_rfl) ?_;have w1:zG.add .i64 (i:Int) (ah 1)=((i+1:Nat):Int):=add1 (by omega);have no {P:Prop} (h:zG.lt (i:Int) (ah m)=ay):P:=by grind [zN]
  have inb (h:zG.lt (i:Int) (ah m)=aC):zG.inB (i:Int) m=aC:=by simp[AY];omega
  have el:(aY (r+1)).map (fun j=>dd (i+j))=dd i::(aY r).map fun j=>dd (i+1+j):=by
   rw[pK,jJ,qX];congr 1;grind [jE]
  rw[el] at hf hφ;have bad (e:Nat) (h:φ (.zQ [.agg [.sl 4 0 noT],.BM 109 (.pt [.i .i64 (i:Nat),.er e 329])])):up φ (.zQ [.agg [.sl 0 0 fun _=>[]],.BM 109 (.pt [.i .i64 (i:Nat),.er e 329])]):=
   AB (s':=.zQ [.agg [.sl 4 0 noT],.BM 109 (.pt [.i .i64 (i:Nat),.er e 329])]) ⟨⟨.inl ⟨rfl,rfl⟩,trivial⟩,rfl,trivial⟩ h
  by_cases h0:(dd i).ret=0
  ·have hf:Ug n g ((aY r).map fun j=>dd (i+1+j)):=by simp_all [Ug]
   have hφ:aoQ φ n (ES n g (i+1) ((aY r).map fun j=>dd (i+1+j))):=by simp_all [ES]
   have nx:=aeT OD hm r (i+1) g (by omega) hf hφ;refine Ey (bY _ _) (aeS OD _) (hold:=AX) (m:=300) (n:=400) (ts:=[⟨76,Y7,Y8 n g m dd ((i+1:Nat):Int),[]⟩]) ?_;have c1 {P:Prop} (h:zG.eq (dd i).ret (ah 0)=ay):P:=by simp_all [Ac]
   exact abv zG W7 n g g m dd i _ rfl rfl rfl rfl rfl inb (fun _ q=>c1 q) (fun _ _=>⟨⟨rfl,rfl,w1,rfl,trivial⟩,_,rfl,nx⟩) (fun _ q=>c1 q) (fun _ q=>c1 q) (fun _ q=>c1 q) (fun _ q=>c1 q) (fun q=>no q)
  ·have c1 {P:Prop} (h:zG.eq (dd i).ret (ah 0)=aC):P:=(h0 (by grind [Ac])).elim
   unfold Ug at hf;rw[if_neg h0] at hf;unfold ES at hφ;rw[if_neg h0] at hφ;refine Ey (bY _ _) (aeS OD _) (hold:=AX) (m:=300) (n:=400) (ts:=[⟨76,Y7,Y8 n (abt n g (dd i).obj (dd i).op (dd i).key (dd i).val) m dd ((i+1:Nat):Int),[]⟩]) ?_;have nte {a b:Int} (h:zG.nt (zG.eq a b)=aC):a≠b:=by grind [Bh,Ac]
   have nfe {a b:Int} (h:zG.nt (zG.eq a b)=ay):a=b:=by grind [Bh,Ac]
   refine abv zG W7 n g _ m dd i _ rfl rfl rfl rfl rfl inb (fun _ _=>hf.1) (fun _ q=>c1 q) ?_ ?_ ?_ ?_ (fun q=>no q)
   ·intro _ _ q2 q3
    have q2:TT n g (dd i).obj (dd i).op (dd i).key (dd i).val=aC:=q2;rw[if_pos q2,if_neg fun e=>nte q3 e.1] at hφ
    exact bad 13 hφ
   ·intro _ _ q2 _ q4
    have q2:TT n g (dd i).obj (dd i).op (dd i).key (dd i).val=aC:=q2;rw[if_pos q2,if_neg fun e=>nte q4 e.2] at hφ
    exact bad 13 hφ
   ·intro _ _ q2 q3 q4
    have q2:TT n g (dd i).obj (dd i).op (dd i).key (dd i).val=aC:=q2;rw[if_pos q2,if_pos ⟨nfe q3,nfe q4⟩] at hφ;exact ⟨⟨rfl,rfl,w1,rfl,trivial⟩,_,rfl,aeT OD hm r (i+1) _ (by omega) (hf.2 q2) hφ⟩
   ·intro _ _ q2
    have q2:TT n g (dd i).obj (dd i).op (dd i).key (dd i).val=ay:=q2;rw[if_neg (by rw[q2];simp)] at hφ;exact bad _ hφ
end
open Go Go.Sx Go.Pl
theorem atd:zZ aA (Ar W7) 97 D29:=O29.mono fun H Aq args φ hr h=>by
 unfold D29 at h;split at h
 ·split at h
  ·rename_i n g i op k v e0 e1 e2 e3 e4
   obtain ⟨h1,h2,h3⟩:=h;unfold adA at h1;rw[aG,aG] at h1;obtain ⟨a1,a2,a3⟩:=h1;unfold F29;simp only[e0,e1,e2,e3,e4];have no (e:Nat) (q:TT n g i op k v=ay) (q2:erG n g i op k v=e):φ (.zQ [.agg [.sl 4 0 noT],.i .i64 0,.i .i64 0,.er e 329]):=by
    have:=h3 q;rw[q2] at this;exact this
   refine ⟨a1,a2,fun q=>?_,fun q=>no 7 ?_ ?_⟩
   ·have b3:abq (DN n g i.toNat).q.length=aC/\JU op (len (DN n g i.toNat).ps) (zH (nth (DN n g i.toNat).ps))=aC:=by
     unfold abr at a3;rw[q] at a3;simpa using a3
    refine ⟨b3.1,fun b=>no 8 ?_ ?_,fun b=>⟨fun c=>no 15 ?_ ?_,fun c=>⟨b3.2,h2 ?_⟩⟩⟩
    ·unfold TT Ym;rw[b];simp
    ·unfold erG erN;rw[if_pos q,if_pos b]
    ·unfold TT Ym;rw[c];simp
    ·unfold erG erN;rw[if_pos q,if_neg (by rw[b];simp)]
    ·unfold TT Ym;rw[q,b,c];rfl
   ·unfold TT Ym;rw[q];rfl
   ·unfold erG erN;rw[if_neg (by rw[q];simp)]
  ·exact h.elim
 ·exact h.elim
noncomputable def akO(n:Nat)(g:Nat->List Sh)(l:List Dd):Bool:=@decide (Ug n g l) (aX _)
noncomputable def U8(n:Nat)(g:Nat->List Sh)(l:List Dd):Bool:=match ES n g 0 l with
 | .inr _=>aC | .inl _=>ay
noncomputable def Yn(n:Nat)(g:Nat->List Sh)(l:List Dd):Nat->List Sh:=match ES n g 0 l with
 | .inr g=>g | .inl _=>noT
noncomputable def aja(n:Nat)(g:Nat->List Sh)(l:List Dd):Nat:=match ES n g 0 l with
 | .inr _=>0 | .inl (i,_)=>i
noncomputable def ajb(n:Nat)(g:Nat->List Sh)(l:List Dd):Nat:=match ES n g 0 l with
 | .inr _=>0 | .inl (_,e)=>e
noncomputable def F76:List Sh->Tree Sh
 |[.agg [s0],s1]=>match DI 4 s0,DI 8 s1 with
  |some (n,g),ak (m,h)=>.need (okB Dd m h) (.need (decide (m<=100000)) (.need (akO n g (lst Dd m h)) (.node (U8 n g (lst Dd m h))
   (.leaf (.zQ [.agg [.sl 4 n (Yn n g (lst Dd m h))],.v .nilIface]))
   (.leaf (.zQ [.agg [.sl 4 0 noT],.BM 109 (.pt [.i .i64 (aja n g (lst Dd m h)),.er (ajb n g (lst Dd m h)) 329])])))))
  |_,_=>.fail
 |_=>.fail
theorem O76:zZ aA (Ar W7) 76 F76:=by
 refine Fa (C:=C7 zG W7 Qp zW) (bY _ _) (fn:=qp) (by kernel_rfl) (by kernel_rfl) fun H w Aq args φ hrep h=>?_
 have hn:qp.ntmps=54:=by kernel_rfl
 unfold F76 at h;split at h
 ·rename_i s0 s1
  split at h
  ·rename_i n g m hh e0 e1
   obtain ⟨h1,h2,h3,h4,h5⟩:=h;have h2:=of_decide_eq_true h2;have h3:Ug n g (lst Dd m hh):=@of_decide_eq_true _ (aX _) h3;match args,hrep with
   |[v,u],⟨rv,ru,_⟩=>
    have rv':Rep H (.agg [.sl 4 n g]) v:=by
     cases rv with
     |agg _ vs hl hr=>
      refine .agg _ _ hl fun j s' v' q1 q2=>?_
      match j,q1 with
      |0,q1=>cases q1;exact Bd e0 (hr 0 _ _ rfl q2) |j+1,q1=>cases q1
    refine ⟨[.agg [.sl 4 n g],.sl 8 m (zH (zJ (α:=Dd) hh))],⟨rv',Ed (Bd e1 ru) h1,trivial⟩,L0,?_⟩;have hres:aoQ φ n (ES n g 0 (lst Dd m hh)):=by
     unfold U8 Yn aja ajb at *;cases hp:ES n g 0 (lst Dd m hh) with
     |inr g'=>rw[hp] at h4;exact h4 rfl |inl q=>
      obtain ⟨i,e⟩:=q;rw[hp] at h5;exact h5 rfl
    have el:lst Dd m hh=(aY m).map fun j=>zJ (α:=Dd) hh (0+j):=by
     unfold lst;refine jE fun j _=>?_
     rw[Nat.zero_add]
    rw[el] at h3 hres;refine Ey (bY _ _) (aeS atd _) (hold:=AX) (m:=300) (n:=400) (ts:=[⟨76,Y7,Y8 n g m (zJ (α:=Dd) hh) ((0:Nat):Int),[]⟩]) ?_;rw[hn];exact aoP zG W7 n g m (zJ (α:=Dd) hh) _ ⟨⟨rfl,rfl,rfl,rfl,trivial⟩,_,rfl,aeT atd h2 m 0 g (by omega) h3 hres⟩
  ·exact h.elim
 ·exact h.elim
end Go.Proofs
namespace Go.Pl
open Go Go.Sx Go.Proofs
noncomputable def plN(n:Nat)(g:Nat->List Sh)(m:Nat)(h:Nat->List Sh):Bool:=okB Dd m h&&(decide (m<=100000)&&akO n g (lst Dd m h))
noncomputable def TU(n:Nat)(g:Nat->List Sh)(m:Nat)(h:Nat->List Sh):Bool:=U8 n g (lst Dd m h)
noncomputable def Oy(n:Nat)(g:Nat->List Sh)(m:Nat)(h:Nat->List Sh):Nat->List Sh:=Yn n g (lst Dd m h)
noncomputable def plP(n:Nat)(g:Nat->List Sh)(m:Nat)(h:Nat->List Sh):Int:=aja n g (lst Dd m h)
noncomputable def plE(n:Nat)(g:Nat->List Sh)(m:Nat)(h:Nat->List Sh):Nat:=ajb n g (lst Dd m h)
end Go.Pl
namespace Go.Proofs
open Go Go.Sx Go.Pl
noncomputable def D76:List Sh->Tree Sh
 |[.agg [s0],s1]=>match DI 4 s0,DI 8 s1 with
  |some (n,g),ak (m,h)=>.need (plN n g m h) (.node (TU n g m h)
   (.leaf (.zQ [.agg [.sl 4 n (Oy n g m h)],.v .nilIface]))
   (.leaf (.zQ [.agg [.sl 4 0 noT],.BM 109 (.pt [.i .i64 (plP n g m h),.er (plE n g m h) 329])])))
  |_,_=>.fail
 |_=>.fail
noncomputable def NV:Nat->Option (List Sh->Tree Sh)
 |76=>ak D76 |_=>aK
def Bo(lv:Int)(N:Nat)(T:Nat->Dz)(N':Nat)(mk:Nat->Int)(k0:Nat)(g0:Nat->List Sh):List Sh:=[.i .i64 lv,.sl 7 N (zH T),.sl 1 N' (zH mk),.sl 4 k0 g0]
def Xb:List It:=[bF [0,1,0,1,1],bZ 0,bF [1,1,1]]
def akP:List It:=bF [0,0,1,0,1,1]::Xb
def Y9(lv:Int)(N:Nat)(T:Nat->Dz)(N':Nat)(mk:Nat->Int)(k0:Nat)(g0:Nat->List Sh)(p:Int)(n:Nat)(g:Nat->List Sh)(m:Nat)(R:Nat->Nk)(i:Int):Core:={tm:=FT 104 [(0,.Gh 4 1 (fun _=>Bo lv N T N' mk k0 g0) 0 0),(3,.ptr 0 0),(5,.gs 1),(15,.sh (.sl 7 N (zH T))),(16,.sym .i64 (N:Int)),(17,.sym .i64 i)],hp:=[(0,.box [.sym .i64 p,.sh (.sl 4 n g)] 104),(1,.own 108 4 m (zH R))],nx:=2,lim:=L0,tc:=[]}
end Go.Proofs
namespace Go.Bf
section
variable{α κ:Type}[DecidableEq κ](key:α->κ)(next:α->List α)
def Jp(o:List α)(k:κ):Bool:=o.any fun n=>decide (key n=k)
def Gx(m:Nat)(o:List α)(n:α):Option (List α):=if Jp key o (key n)=aC then ak o else if o.length=m then aK else ak (o++[n])
def EJ(m:Nat):List α->List α->Option (List α)
 |o,[]=>ak o |o,n::l=>match Gx key m o n with
  |none=>aK |some o'=>EJ m o' l
def Lr(m:Nat):Nat->List α->Nat->Option (List α)
 |0,o,_=>ak o |f+1,o,i=>match o[i]? with
  |none=>ak o |some n=>match EJ key m o (next n) with
   |none=>aK |some o'=>Lr m f o' (i+1)
variable{key next}
theorem al4{m:Nat}{o o':List α}{n:α}(h:Gx key m o n=ak o'):∃t,o'=o++t/\t.length<=1/\(o.length<=m->o'.length<=m):=by
 unfold Gx at h;split at h
 ·cases h;exact ⟨[],by simp,by simp,fun h=>h⟩
 ·split at h
  ·cases h
  ·cases h;exact ⟨[n],rfl,by simp,fun h=>by simp;omega⟩
theorem Pj{m:Nat}:∀{l o o':List α},EJ key m o l=ak o'->∃t,o'=o++t/\(o.length<=m->o'.length<=m)
 |[],o,o',h=>by cases h;exact ⟨[],by simp,fun h=>h⟩ |n::l,o,o',h=>by
  simp only[EJ] at h;cases hp:Gx key m o n with
  |none=>rw[hp] at h;cases h |some o1=>
   rw[hp] at h;obtain ⟨t,rfl,_,h1⟩:=al4 hp;obtain ⟨t',rfl,h2⟩:=Pj h;exact ⟨t++t',by simp,fun q=>h2 (h1 q)⟩
theorem abw{m:Nat}:∀{f i:Nat} {o r:List α},Lr key next m f o i=ak r->∃t,r=o++t/\(o.length<=m->r.length<=m)
 |0,_,o,r,h=>by cases h;exact ⟨[],by simp,fun h=>h⟩ |f+1,i,o,r,h=>by
  simp only[Lr] at h;cases hi:o[i]? with
  |none=>rw[hi] at h;cases h;exact ⟨[],by simp,fun h=>h⟩ |some n=>
   rw[hi] at h;simp only at h;cases hp:EJ key m o (next n) with
   |none=>rw[hp] at h;cases h |some o1=>
    rw[hp] at h;obtain ⟨t,rfl,h1⟩:=Pj hp;obtain ⟨t',rfl,h2⟩:=abw h;exact ⟨t++t',by simp,fun q=>h2 (h1 q)⟩
end
section
variable{α κ:Type}[DecidableEq κ]{key:α->κ}{next:α->List α}
theorem Np{o:List α}{k:κ}:Jp key o k=aC↔∃n∈o,key n=k:=by simp[Jp]
theorem ahj{o t:List α}{k:κ}(h:Jp key o k=aC):Jp key (o++t) k=aC:=by
 grind [Np,List.mem_append_left]
theorem al5{m:Nat}{o o':List α}{n:α}(h:Gx key m o n=ak o'):Jp key o' (key n)=aC:=by
 unfold Gx at h;grind [Np]
theorem adB{m:Nat}:∀{l o o':List α},EJ key m o l=ak o'->∀n∈l,Jp key o' (key n)=aC
 |[],_,_,_,_,h=>by cases h |n::l,o,o',h,x,hx=>by
  simp only[EJ] at h;cases hp:Gx key m o n with
  |none=>simp_all |some o1=>
   rw[hp] at h;rcases lX.1 hx with rfl|hx
   ·obtain ⟨t,rfl,_⟩:=Pj h
    exact ahj (al5 hp)
   ·exact adB h x hx
theorem adC{m:Nat}{o o':List α}{n:α}{P:α->Prop}(h:Gx key m o n=ak o')(ho:∀x∈o,P x)(hn:P n):∀x∈o',P x:=by
 grind [Gx]
theorem TF{m:Nat}{P:α->Prop}:∀{l o o':List α},EJ key m o l=ak o'->(∀x∈o,P x)->(∀x∈l,P x)->∀x∈o',P x
 |[],_,_,h,ho,_=>by cases h;exact ho |n::l,o,o',h,ho,hl=>by
  simp only[EJ] at h;cases hp:Gx key m o n with
  |none=>simp_all |some o1=>
   rw[hp] at h;exact TF h (adC hp ho (hl n dK)) fun x hx=>hl x (dF _ hx)
theorem Pm{m:Nat}{P:α->Prop}(hP:∀n,P n->∀t∈next n,P t):∀{f i:Nat} {o r:List α},Lr key next m f o i=ak r->(∀x∈o,P x)->∀x∈r,P x
 |0,_,_,_,h,ho=>by cases h;exact ho |f+1,i,o,r,h,ho=>by
  simp only[Lr] at h;cases hi:o[i]? with
  |none=>simp_all |some n=>
   rw[hi] at h;simp only at h;cases hp:EJ key m o (next n) with
   |none=>simp_all |some o1=>
    rw[hp] at h;exact Pm hP h (TF hp ho (hP n (ho n (dB hi))))
theorem Si{m:Nat}:∀{f i:Nat} {o r:List α},Lr key next m f o i=ak r->r.length<i+f->(∀j n,j<i->o[j]?=ak n->∀t∈next n,Jp key o (key t)=aC)->∀n∈r,∀t∈next n,Jp key r (key t)=aC
 |0,i,o,r,h,hl,hc=>by
  cases h;intro n hn t ht;obtain ⟨j,hj,e⟩:=kY.1 hn;exact hc j n (by omega) (by simp_all) t ht
 |f+1,i,o,r,h,hl,hc=>by
  simp only[Lr] at h;cases hi:o[i]? with
  |none=>
   rw[hi] at h;cases h;have hle:o.length<=i:=List.getElem?_eq_none_iff.1 hi;intro n hn t ht;obtain ⟨j,hj,e⟩:=kY.1 hn;exact hc j n (by omega) (by simp_all) t ht
  |some n=>
   rw[hi] at h;simp only at h;cases hp:EJ key m o (next n) with
   |none=>simp_all |some o1=>
    rw[hp] at h;obtain ⟨t',e,_⟩:=Pj hp;refine Si h (by omega) fun j x hj hx t ht=>?_
    have hil:i<o.length:=(bW.1 hi).1;have hx':o[j]?=ak x:=by
     grind
    rcases Nat.lt_or_ge j i with h1|h1
    ·grind [ahj]
    grind [adB]
theorem ajc{m:Nat}{o o':List α}{n:α}(h:Gx key m o n=ak o')(ho:(o.map key).Nodup):(o'.map key).Nodup:=by
 unfold Gx at h;grind [Np]
theorem Za{m:Nat}:∀{l o o':List α},EJ key m o l=ak o'->(o.map key).Nodup->(o'.map key).Nodup
 |[],_,_,h,ho=>by cases h;exact ho |n::l,o,o',h,ho=>by
  simp only[EJ] at h;cases hp:Gx key m o n with
  |none=>simp_all |some o1=>
   rw[hp] at h;exact Za h (ajc hp ho)
theorem abx{m:Nat}:∀{f i:Nat} {o r:List α},Lr key next m f o i=ak r->(o.map key).Nodup->(r.map key).Nodup
 |0,_,_,_,h,ho=>by cases h;exact ho |f+1,i,o,r,h,ho=>by
  simp only[Lr] at h;cases hi:o[i]? with
  |none=>simp_all |some n=>
   rw[hi] at h;simp only at h;cases hp:EJ key m o (next n) with
   |none=>simp_all |some o1=>
    rw[hp] at h;exact abx h (Za hp ho)
def Lay(rk:α->Nat)(b:Nat)(o:List α):Prop:=o.Pairwise (fun x y=>rk x<=rk y)/\∀x∈o,rk x<=b
theorem aoS{m b:Nat}{rk:α->Nat}{o o':List α}{n:α}(h:Gx key m o n=ak o')(ho:Lay rk b o)(hn:rk n=b):Lay rk b o':=by
 unfold Gx at h;split at h
 ·simp_all
 ·split at h
  ·cases h
  ·cases h
   refine ⟨List.pairwise_append.2 ⟨ho.1,List.pairwise_singleton _ _,fun x hx y hy=>?_⟩,fun x hx=>?_⟩
   ·obtain rfl:y=n:=by grind
    rw[hn];exact ho.2 x hx
   ·rcases List.mem_append.1 hx with hx|hx
    ·exact ho.2 x hx
    simp_all
theorem adD{m b:Nat}{rk:α->Nat}:∀{l o o':List α},EJ key m o l=ak o'->Lay rk b o->(∀x∈l,rk x=b)->Lay rk b o'
 |[],_,_,h,ho,_=>by cases h;exact ho |n::l,o,o',h,ho,hl=>by
  simp only[EJ] at h;cases hp:Gx key m o n with
  |none=>simp_all |some o1=>
   rw[hp] at h;exact adD h (aoS hp ho (hl n dK)) fun x hx=>hl x (dF _ hx)
theorem ahk{m:Nat}{rk:α->Nat}(hr:∀n,∀t∈next n,rk t=rk n+1):∀{f i:Nat} {o r:List α},Lr key next m f o i=ak r->(∀n,o[i]?=ak n->Lay rk (rk n+1) o)->o.Pairwise (fun x y=>rk x<=rk y)->r.Pairwise fun x y=>rk x<=rk y
 |0,_,_,_,h,_,ho=>by cases h;exact ho |f+1,i,o,r,h,hL,ho=>by
  simp only[Lr] at h;cases hi:o[i]? with
  |none=>simp_all |some n=>
   rw[hi] at h;simp only at h;cases hp:EJ key m o (next n) with
   |none=>simp_all |some o1=>
    rw[hp] at h;have h1:=adD hp (hL n hi) fun x hx=>hr n x hx
    refine ahk hr h (fun n' hn'=>⟨h1.1,fun x hx=>?_⟩) h1.1;obtain ⟨t,e,_⟩:=Pj hp;have hil:=(bW.1 hi).1;have hn:o1[i]?=ak n:=by grind
    have hle:rk n<=rk n':=by
     obtain ⟨q1,e1⟩:=bW.1 hn;obtain ⟨q2,e2⟩:=bW.1 hn';have:=iV.1 h1.1 i (i+1) q1 q2 (by omega);simp_all
    have:=h1.2 x hx;omega
def GY(key:α->κ)(next:α->List α)(full:α->Bool):List α->κ->Bool
 |[],_=>ay |n::l,k=>if key n=k then full n||(next n).any (fun t=>GY key next full l (key t)) else GY key next full l k
inductive QK(next:α->List α)(full:α->Bool):α->Prop
 |here {n:α}:full n=aC->QK next full n
 |step {n t:α}:t∈next n->QK next full t->QK next full n
theorem aby{full:α->Bool}{Q:α->Prop}(hQ:∀n,Q n->∀t∈next n,Q t)(hk:∀x y,Q x->Q y->key x=key y->x=y):∀{l:List α},(∀x∈l,Q x)->(l.map key).Nodup->
  (∀(i:Nat) n,l[i]?=ak n->∀t∈next n,∃(j:Nat) (x:α),i<j/\l[j]?=ak x/\key x=key t)->∀n∈l,(GY key next full l (key n)=aC↔QK next full n)
 |[],_,_,_,n,hn=>by cases hn |a::l,hq,hd,hf,n,hn=>by
  have hd':=List.nodup_cons.1 (by grind:(key a::l.map key).Nodup);have ih:=aby (l:=l) (full:=full) hQ hk (fun x hx=>hq x (dF _ hx)) hd'.2 (fun i n hi t ht=>by
   obtain ⟨j,x,h1,h2,h3⟩:=hf (i+1) n (by grind) t ht;grind)
  have tail:∀t∈next a,(GY key next full l (key t)=aC↔QK next full t):=fun t ht=>by
   obtain ⟨j,x,h1,h2,h3⟩:=hf 0 a rfl t ht;grind
  by_cases e:key a=key n
  ·have:a=n:=hk a n (hq a dK) (hq n hn) e
   subst this;unfold GY;rw[if_pos rfl,lH,List.any_eq_true];constructor
   ·rintro (h|⟨t,ht,h⟩)
    ·exact .here h
    ·exact .step ht ((tail t ht).1 h)
   ·intro h
    cases h with
    |here h=>exact .inl h |step ht h=>grind
  grind [GY]
theorem behind{m f:Nat}{rk:α->Nat}{Q:α->Prop}{a r:List α}(hQ:∀n,Q n->∀t∈next n,Q t)(hk:∀x y,Q x->Q y->key x=key y->x=y)(hr:∀n,∀t∈next n,rk t=rk n+1)
  (h:Lr key next m f a 0=ak r) (hl:r.length<f) (ha:∀x∈a,Q x) (h1:a.length<=1):∀(i:Nat) n,r[i]?=ak n->∀t∈next n,∃(j:Nat) (x:α),i<j/\r[j]?=ak x/\key x=key t:=by
 have hq:=Pm hQ h ha;have hc:=Si h (by omega) (fun j n hj=>by omega);have hs:=ahk hr h (fun n hn=>⟨by
   match a,h1 with
   |[],_=>simp |[x],_=>simp,fun x hx=>by
   match a,h1,hn,hx with
   |[y],_,hn,hx=>
    simp_all⟩) (by
   match a,h1 with
   |[],_=>simp |[x],_=>simp)
 intro i n hi t ht;obtain ⟨x,hx,e⟩:=Np.1 (hc n (dB hi) t ht);obtain ⟨j,hj,ej⟩:=kY.1 hx;have hxt:x=t:=hk x t (hq x hx) (hQ n (hq n (dB hi)) t ht) e;refine ⟨j,x,?_,by simp_all,e⟩;grind [iV]
end
end Go.Bf
namespace Go.Gm
open Go.Bf
structure Nd(S:Type)where
 placed:Nat
 st:S
structure Game(S:Type)where
 n:Nat
 id:Nat->Int
 com:Nat->Bool
 Oz:Nat->Bool
 mask:Nat->Nat
 run:S->Nat->Option S
 all:Bool
section
variable{S:Type}(g:Game S)
def may(p i:Nat):Bool:=!p.testBit i&&(aY g.n).all fun j=>!(g.mask i).testBit j||p.testBit j
def EK(nd:Nd S)(i:Nat):List ((Int×Bool)×Nd S):=
 if may g nd.placed i=aC then
  (match g.com i,g.run nd.st i with
   |true,ak s=>[((g.id i,aC),⟨nd.placed|||1<<<i,s⟩)] |_,_=>[]) ++
  (if g.Oz i=aC/\(g.all=aC->(g.run nd.st i).isSome=aC) then [((g.id i,ay),⟨nd.placed|||1<<<i,nd.st⟩)] else [])
 else []
def turns(nd:Nd S):List ((Int×Bool)×Nd S):=(aY g.n).flatMap (EK g nd)
def next(nd:Nd S):List (Nd S):=(turns g nd).map (·.2)
def rk(nd:Nd S):Nat:=(aY g.n).countP fun i=>nd.placed.testBit i
def full(nd:Nd S):Bool:=decide (nd.placed=2^g.n - 1)
variable{g}
theorem aeU(p i j:Nat):(p|||1<<<i).testBit j=(p.testBit j||decide (i=j)):=by
 grind [kV]
theorem adE{nd:Nd S}{i:Nat}{t:(Int×Bool)×Nd S}(h:t∈EK g nd i):nd.placed.testBit i=ay/\t.1.1=g.id i/\t.2.placed=nd.placed|||1<<<i:=by
 unfold EK at h;grind [may]
theorem Zb{p:Nat->Bool}{i:Nat}:∀n,i<n->p i=ay->(aY n).countP (fun j=>p j||decide (i=j))=(aY n).countP p+1
 |0,h,_=>by omega |n+1,h,hp=>by
  rw[vJ,rM,rM];by_cases e:i=n
  ·grind [aY,decide,List.countP_congr,decide_eq_false]
  ·have ih:=Zb (p:=p) (i:=i) n (by omega) hp
   grind
theorem abz{nd:Nd S}:∀t∈next g nd,rk g t=rk g nd+1:=fun t ht=>by
 unfold next turns at ht;obtain ⟨x,hx,rfl⟩:=fC.1 ht;obtain ⟨i,hi,hx⟩:=iL.1 hx;obtain ⟨h1,_,h2⟩:=adE hx;unfold rk;rw[h2];simp only[aeU];simp_all [Zb,dD]
theorem lt_next{nd:Nd S}(h:nd.placed<2^g.n):∀t∈next g nd,t.placed<2^g.n:=fun t ht=>by
 unfold next turns at ht;obtain ⟨x,hx,rfl⟩:=fC.1 ht;obtain ⟨i,hi,hx⟩:=iL.1 hx;obtain ⟨_,_,h2⟩:=adE hx;simp_all [nX,kV,oH,iE,dD]
theorem adF{nd:Nd S}(h:nd.placed<2^g.n):full g nd=aC↔∀i,i<g.n->nd.placed.testBit i=aC:=by
 unfold full;rw[decide_eq_true_eq];constructor
 ·simp_all
 ·intro e
  refine qY fun i=>?_
  grind [Nat.testBit_two_pow_sub_one,decide_eq_true,decide_eq_false,kP,ji,jv]
def least(g:Game S)(ld:Nd S->Bool):Nat->Nd S->List (Int×Bool)
 |0,_=>[] |f+1,nd=>if full g nd=aC then [] else match (turns g nd).find? fun t=>ld t.2 with
  |none=>[] |some t=>t.1::least g ld f t.2
theorem ajd{nd:Nd S}(h:QK (next g) (full g) nd)(hn:full g nd=ay):∃t∈turns g nd,QK (next g) (full g) t.2:=by
 cases h with
 |here h=>simp_all |step ht h=>
  obtain ⟨t,q,rfl⟩:=fC.1 ht;grind
end
open Go.Bf
section
variable{S κ:Type}[DecidableEq κ](g:Game S)(key:Nd S->κ)
def start(s:S):Nd S:=⟨0,s⟩
def EM(s:S)(m:Nat):Option (List (Nd S)):=Lr key (next g) m (m+1) [start s] 0
def U9(r:List (Nd S))(nd:Nd S):Bool:=GY key (next g) (full g) r (key nd)
def Sj(s:S)(r:List (Nd S)):Bool:=U9 g key r (start s)
def Ls(s:S)(r:List (Nd S)):List (Int×Bool):=if Sj g key s r=aC then least g (U9 g key r) (g.n+1) (start s) else []
variable{g key}
theorem Va{s:S}{m:Nat}(hm:1<=m){r:List (Nd S)}(h:EM g key s m=ak r):1<=r.length/\r.length<=m:=by
 obtain ⟨t,e,hl⟩:=abw h;simp_all
theorem akQ{s:S}{m:Nat}(hm:1<=m){r:List (Nd S)}(h:EM g key s m=ak r){Q:Nd S->Prop}(hQ:∀n,Q n->∀t∈next g n,Q t)(hk:∀x y,Q x->Q y->key x=key y->x=y)(hs:Q (start s)):
  ∀n∈r,(U9 g key r n=aC↔QK (next g) (full g) n):=by
 have hl:=(Va hm h).2;have ha:∀x∈[start s],Q x:=fun x hx=>by
  simp_all
 exact aby hQ hk (Pm hQ h ha) (abx h (by simp)) (behind hQ hk (fun n t ht=>abz t ht) h (by omega) ha (by simp))
theorem adG{s:S}{m:Nat}{r:List (Nd S)}(h:EM g key s m=ak r):start s∈r:=by
 obtain ⟨t,e,_⟩:=abw h;rw[e];simp
theorem start_lt(s:S):(start s).placed<2^g.n:=Nat.pos_of_ne_zero (by simp)
theorem al6{s:S}{m:Nat}(hm:1<=m){r:List (Nd S)}(h:EM g key s m=ak r){Q:Nd S->Prop}(hQ:∀n,Q n->∀t∈next g n,Q t)(hk:∀x y,Q x->Q y->key x=key y->x=y)(hs:Q (start s)):∀n∈r,∀t∈next g n,t∈r:=by
 have hl:=(Va hm h).2;have ha:∀x∈[start s],Q x:=fun x hx=>by
  simp_all
 have hq:=Pm hQ h ha;have hc:=Si h (by omega) (fun j n hj=>by omega);grind [Np]
theorem aoT{s:S}{m:Nat}(hm:1<=m){r:List (Nd S)}(h:EM g key s m=ak r){Q:Nd S->Prop}(hQ:∀n,Q n->∀t∈next g n,Q t)(hk:∀x y,Q x->Q y->key x=key y->x=y)(hs:Q (start s)):Sj g key s r=aC↔QK (next g) (full g) (start s):=
 akQ hm h hQ hk hs _ (adG h)
end
end Go.Gm
namespace Go.Pl
open Go Go.Sx
theorem JV(p:Nat):fD 64 (p:Int)=BitVec.ofNat 64 p:=BitVec.ofInt_natCast 64 p
theorem Pn{p:Nat}(h:p<2^63):aU.wrap (p:Int)=(p:Int):=BF (by omega) (by omega)
theorem akR{p q n:Nat}(h:p<2^n):p&&&q<2^n:=sS Nat.and_le_left h
theorem aoU{p q:Nat}(hp:p<2^63)(hq:q<2^63):zG.bin .and .i64 (p:Int) (q:Int)=((p&&&q:Nat):Int):=by
 show aU.wrap ((fD 64 (p:Int)&&&fD 64 (q:Int)).toNat:Int)=_;rw[JV,JV,rO,iC,iC,gW (by omega),gW (by omega)];exact Pn (akR hp)
theorem ar5{p q:Nat}(hp:p<2^63)(hq:q<2^63):zG.bin .or .i64 (p:Int) (q:Int)=((p|||q:Nat):Int):=by
 show aU.wrap ((fD 64 (p:Int)|||fD 64 (q:Int)).toNat:Int)=_;rw[JV,JV,BitVec.toNat_or,iC,iC,gW (by omega),gW (by omega)];exact Pn (nX hp hq)
theorem ahl{p q:Nat}(hp:p<2^63)(hq:q<2^63):zG.bin .andNot .i64 (p:Int) (q:Int)=((p&&&(2^64 - 1 - q):Nat):Int):=by
 show aU.wrap ((fD 64 (p:Int)&&&~~~ fD 64 (q:Int)).toNat:Int)=_;rw[JV,JV,rO,BitVec.toNat_not,iC,iC,gW (by omega),gW (by omega)];exact Pn (akR hp)
theorem ahm{i:Nat}(h:i<63):zG.bin .shl .i64 (ah 1) (i:Int)=((2^i:Nat):Int):=by
 show aU.wrap ((1:Int)*2^(min (i:Int).toNat 64))=_;rw[fB,pq (by omega),Int.one_mul];have:((2:Int)^i)=((2^i:Nat):Int):=by push_cast;rfl
 rw[this];exact Pn (iE (by decide) h)
theorem aoV{p i:Nat}(h:i<=64):zG.bin .shr .i64 (p:Int) (i:Int)=((p>>>i:Nat):Int):=by
 show Int.fdiv (p:Int) (2^(min (i:Int).toNat 64))=_;rw[fB,pq h];have:((2:Int)^i)=((2^i:Nat):Int):=by push_cast;rfl
 rw[this,Int.fdiv_eq_ediv_of_nonneg _ (Int.natCast_nonneg _),<-Int.natCast_ediv,oZ]
theorem ar6(p i:Nat):p>>>i<=p:=by rw[oZ];exact Nat.div_le_self _ _
theorem ar7{p i:Nat}(hp:p<2^63)(hi:i<=64):zG.eq (zG.bin .and .i64 (zG.bin .shr .i64 (p:Int) (i:Int)) (ah 1)) (ah 1)=p.testBit i:=by
 rw[aoV hi];have h:=aoU (p:=p>>>i) (q:=1) (sS (ar6 p i) hp) (by decide);have h:zG.bin .and .i64 ((p>>>i:Nat):Int) (ah 1)=((p>>>i&&&1:Nat):Int):=h;rw[h,Ac];unfold Nat.testBit;rw[yB];have h1:1&&&p>>>i=p>>>i % 2:=by rw[yB];exact Nat.and_one_is_mod _
 rw[h1];rcases Nat.mod_two_eq_zero_or_one (p>>>i) with e|e<;>rw[e]<;>rfl
theorem al7{m p N:Nat}(hm:m<2^N)(hN:N<=62)(hp:p<2^63):zG.nt (zG.eq (zG.bin .andNot .i64 (m:Int) (p:Int)) (ah 0))=!((aY N).all fun j=>!m.testBit j||p.testBit j):=by
 have hm':m<2^63:=ji hm (jv (by decide) (by omega));rw[ahl hm' hp,Bh,Ac];congr 1;have key:∀j,(m&&&(2^64 - 1 - p)).testBit j=(m.testBit j && !p.testBit j):=fun j=>by
  rw[Nat.testBit_and];by_cases hj:j<N
  ·rw[show 2^64 - 1 - p=2^64 - (p+1) by omega,Nat.testBit_two_pow_sub_succ (by omega),decide_eq_true (by omega:j<64)];rfl
  ·have:m.testBit j=ay:=kP (ji hm (jv (by decide) (by omega)))
   rw[this];rfl
 cases ha:(aY N).all fun j=>!m.testBit j||p.testBit j with
 |true=>
  rw[dA] at ha;have:m&&&(2^64 - 1 - p)=0:=qY fun j=>by
   rw[key,vK];by_cases hj:j<N
   ·have:=ha j (dD.2 hj)
    revert this;cases m.testBit j<;>cases p.testBit j<;>simp
   ·have:m.testBit j=ay:=kP (ji hm (jv (by decide) (by omega)))
    rw[this];rfl
  rw[this];rfl
 |false=>
  have:m&&&(2^64 - 1 - p)≠0:=fun e=>by
   have:((aY N).all fun j=>!m.testBit j||p.testBit j)=aC:=by
    rw[dA];intro j hj;have:=key j;rw[e,vK] at this;revert this;cases m.testBit j<;>cases p.testBit j<;>simp
   rw[this] at ha;cases ha
  have h2:(((m&&&(2^64 - 1 - p):Nat):Int)==ah 0)=ay:=by
   rw[beq_eq_false_iff_ne];intro e;exact this (jZ e)
  exact h2
theorem or_eq{p i:Nat}(hp:p<2^63)(hi:i<63):zG.bin .or .i64 (p:Int) (zG.bin .shl .i64 (ah 1) (i:Int))=((p|||1<<<i:Nat):Int):=by
 rw[ahm hi,ar5 hp (iE (by decide) hi),kV,oH]
theorem aoW{N:Nat}(hN:N<=62):zG.sub .i64 (zG.bin .shl .i64 (ah 1) (N:Int)) (ah 1)=((2^N - 1:Nat):Int):=by
 rw[ahm (by omega),L9];have h1:1<=2^N:=Nat.one_le_two_pow;have h2:2^N<2^63:=iE (by decide) (by omega);have:((2^N:Nat):Int) - ah 1=((2^N - 1:Nat):Int):=by
  rw[Int.natCast_sub h1];rfl
 rw[this];exact Pn (by omega)
open Go Go.Sx Go.Proofs Go.Gm
noncomputable def TV(lv:Int)(N:Nat)(T:Nat->Dz)(mk:Nat->Int)(n:Nat):Game (Nat->List Sh) where
 n:=N
 id i:=(T i).id
 com i:=(T i).st==3||(T i).st==2
 Oz i:=!((T i).st==3)
 mask i:=(mk i).toNat
 run g i:=if TU n g (T i).k (T i).g=aC then ak (Oy n g (T i).k (T i).g) else aK
 all:=lv==3
def Ju(n:Nat)(t:(Int×Bool)×Nd (Nat->List Sh)):Nk:=⟨t.1.1,t.1.2,(t.2.placed:Nat),n,t.2.st⟩
structure TuP(lv:Int)(N:Nat)(T:Nat->Dz)(N':Nat)(mk:Nat->Int)(p:Int)(n:Nat)(g:Nat->List Sh):Prop where
 le:N<=62
 eq:N=N'
 pos:0<=p
 lt:p<2^62
 mpos:∀i,i<N->0<=mk i
 mlt:∀i,i<N->(mk i).toNat<2^N
 fit:∀i,i<N->may (TV lv N T mk n) p.toNat i=aC->plN n g (T i).k (T i).g=aC
noncomputable def tuL(lv:Int)(N:Nat)(T:Nat->Dz)(mk:Nat->Int)(p:Int)(n:Nat)(g:Nat->List Sh):List Nk:=(turns (TV lv N T mk n) ⟨p.toNat,g⟩).map (Ju n)
noncomputable def tuB(lv:Int)(N:Nat)(T':Nat->List Sh)(N':Nat)(mk':Nat->List Sh)(p:Int)(st n:Nat)(g:Nat->List Sh):Bool:=
 okB Dz N T'&&(okB Int N' mk'&&((dQ st 4||dQ n 0)&&@decide (TuP lv N (zJ T') N' (zJ mk') p n g) (aX _)))
noncomputable def Sl(lv:Int)(N:Nat)(T':Nat->List Sh)(mk':Nat->List Sh)(p:Int)(n:Nat)(g:Nat->List Sh):Nat:=(tuL lv N (zJ T') (zJ mk') p n g).length
noncomputable def tuR(lv:Int)(N:Nat)(T':Nat->List Sh)(mk':Nat->List Sh)(p:Int)(n:Nat)(g:Nat->List Sh):Nat->Nk:=nth (tuL lv N (zJ T') (zJ mk') p n g)
theorem NW{α:Type}[Row α](o:Nat->α):zJ (zH o)=o:=funext fun i=>MZ o i
end Go.Pl
namespace Go.Proofs
open Go Go.Sx Go.Pl Go.Gm
noncomputable def D41:List Sh->Tree Sh
 |[.pt [.i .i64 lv,s1,s2,s3],.agg [t,.sl st n g]]=>match DI 7 s1,DI 1 s2,DI 4 s3,Ak t with
  |some (N,T'),ak (N',mk'),ak _,ak p=>.need (tuB lv N T' N' mk' p st n g) (.leaf (.sl 4 (Sl lv N T' mk' p n g) (zH (tuR lv N T' mk' p n g)))) |_,_,_,_=>.fail
 |_=>.fail
open Go Go.Sx Go.Pl
theorem ajf(A:Prim)(W:Wd)(lv:Int)(N:Nat)(T:Nat->Dz)(N':Nat)(mk:Nat->Int)(k0:Nat)(g0:Nat->List Sh)(p:Int)(n:Nat)(g:Nat->List Sh)(m:Nat)(R:Nat->Nk)(i':Int){ψ:DF->Prop}(y1:ψ (bJ 0 [aJ 1 1,aZ (fun (x:Nat)=>Bo lv N T N' mk k0 g0) fun (x:Nat)=>Bo lv N T N' mk k0 g0,aJ 0 0,aP (aI 7 N (zH T)) (aI 7 N (zH T)),aj (A.Aa N) (ah N),aj (ah 0) i',aj p p,aP (aI 4 n g) (aI 4 n g),aJ m 0])):CQ ψ (AA (C7 A W NV zW) AX 300 400 41 [.code []] (zL 104 [.pt (Bo lv N T N' mk k0 g0),.agg [.i .i64 p,.sl 4 n g]] L0) [] [⟨41,Xb,Y9 lv N T N' mk k0 g0 p n g m R i',[]⟩]):=by
 exact EI y1 (by kernel_rfl)
theorem abA(A:Prim)(W:Wd)(lv:Int)(N:Nat)(T:Nat->Dz)(N':Nat)(mk:Nat->Int)(k0:Nat)(g0:Nat->List Sh)(p:Int)(n:Nat)(g:Nat->List Sh)(m m':Nat)(R R':Nat->Nk)(i i':Int){ψ:DF->Prop}{c0 c1 c2 c3 c4 c5 c6 c7:Bool}(e0:A.lt i (ah N)=c0)(e1:A.eq (A.bin BinOp.and aU (A.bin BinOp.shr aU p i) (ah 1)) (ah 1)=c1)(e2:A.nt (A.eq (A.bin BinOp.andNot aU (mk (A.toN i)) p) (ah 0))=c2)(e3:TU n g (T (A.toN i)).k (T (A.toN i)).g=c3)(e4:A.eq (T (A.toN i)).st (ah 3)=c4)(e5:A.nt (A.eq (T (A.toN i)).st (ah 3))=c5)(e6:A.nt (A.eq lv (ah 3))=c6)(e7:A.eq (T (A.toN i)).st (ah 2)=c7)(h1:c0=aC->(A.inB i N)=aC)(h2:c0=aC->(A.le (ah 0) i)=aC)(h3:c0=aC->c1=ay->(A.inB i N')=aC)(h4:c0=aC->c1=ay->c2=ay->(plN n g (T (A.toN i)).k (T (A.toN i)).g)=aC)(h5:c0=aC->c1=ay->c2=ay->c3=aC->c4=aC->(A.room (A.addN m 1) 48)=aC)(h6:c0=aC->c1=ay->c2=ay->c3=aC->c4=aC->c5=aC->c6=aC->(A.room (A.addN (A.addN m 1) 1) 48)=aC)(h7:c0=aC->c1=ay->c2=ay->c3=aC->c4=aC->c5=aC->c6=ay->(A.room (A.addN (A.addN m 1) 1) 48)=aC)(h8:c0=aC->c1=ay->c2=ay->c3=aC->c4=ay->c7=aC->(A.room (A.addN m 1) 48)=aC)(h9:c0=aC->c1=ay->c2=ay->c3=aC->c4=ay->c7=aC->c5=aC->c6=aC->(A.room (A.addN (A.addN m 1) 1) 48)=aC)(h10:c0=aC->c1=ay->c2=ay->c3=aC->c4=ay->c7=aC->c5=aC->c6=ay->(A.room (A.addN (A.addN m 1) 1) 48)=aC)(h11:c0=aC->c1=ay->c2=ay->c3=aC->c4=ay->c7=ay->c5=aC->c6=aC->(A.room (A.addN m 1) 48)=aC)(h12:c0=aC->c1=ay->c2=ay->c3=aC->c4=ay->c7=ay->c5=aC->c6=ay->(A.room (A.addN m 1) 48)=aC)(h13:c0=aC->c1=ay->c2=ay->c3=ay->c4=aC->c5=aC->c6=aC->(A.room (A.addN m 1) 48)=aC)(h14:c0=aC->c1=ay->c2=ay->c3=ay->c4=ay->c7=aC->c5=aC->c6=aC->(A.room (A.addN m 1) 48)=aC)(h15:c0=aC->c1=ay->c2=ay->c3=ay->c4=ay->c7=ay->c5=aC->c6=aC->(A.room (A.addN m 1) 48)=aC)(y1:c0=aC->c1=aC->ψ (bJ 0 [aJ 1 1,aZ (fun (x:Nat)=>Bo lv N T N' mk k0 g0) fun (x:Nat)=>Bo lv N T N' mk k0 g0,aJ 0 0,aP (aI 7 N (zH T)) (aI 7 N (zH T)),aj (ah N) (ah N),aj (A.add .i64 i (ah 1)) i',aj p p,aP (aI 4 n g) (aI 4 n g),aJ m m',aQ m (zH R) (zH R')]))(y2:c0=aC->c1=ay->c2=aC->ψ (bJ 0 [aJ 1 1,aZ (fun (x:Nat)=>Bo lv N T N' mk k0 g0) fun (x:Nat)=>Bo lv N T N' mk k0 g0,aJ 0 0,aP (aI 7 N (zH T)) (aI 7 N (zH T)),aj (ah N) (ah N),aj (A.add .i64 i (ah 1)) i',aj p p,aP (aI 4 n g) (aI 4 n g),aJ m m',aQ m (zH R) (zH R')]))(y3:c0=aC->c1=ay->c2=ay->c3=aC->c4=aC->c5=aC->c6=aC->ψ (bJ 0 [aJ 1 1,aZ (fun (x:Nat)=>Bo lv N T N' mk k0 g0) fun (x:Nat)=>Bo lv N T N' mk k0 g0,aJ 0 0,aP (aI 7 N (zH T)) (aI 7 N (zH T)),aj (ah N) (ah N),aj (A.add .i64 i (ah 1)) i',aj p p,aP (aI 4 n g) (aI 4 n g),aJ (A.addN (A.addN m 1) 1) m',aQ (A.addN (A.addN m 1) 1) (A.snoc (A.snoc (zH R) m (Af [[aT .i64 (T (A.toN i)).id,gG aC,aT .i64 (A.bin ig aU p (A.bin fZ aU (ah 1) i)),aI 4 n (Oy n g (T (A.toN i)).k (T (A.toN i)).g)]])) (A.addN m 1) (Af [[aT .i64 (T (A.toN i)).id,gG ay,aT .i64 (A.bin ig aU p (A.bin fZ aU (ah 1) i)),aI 4 n g]])) (zH R')]))(y4:c0=aC->c1=ay->c2=ay->c3=aC->c4=aC->c5=aC->c6=ay->ψ (bJ 0 [aJ 1 1,aZ (fun (x:Nat)=>Bo lv N T N' mk k0 g0) fun (x:Nat)=>Bo lv N T N' mk k0 g0,aJ 0 0,aP (aI 7 N (zH T)) (aI 7 N (zH T)),aj (ah N) (ah N),aj (A.add .i64 i (ah 1)) i',aj p p,aP (aI 4 n g) (aI 4 n g),aJ (A.addN (A.addN m 1) 1) m',aQ (A.addN (A.addN m 1) 1) (A.snoc (A.snoc (zH R) m (Af [[aT .i64 (T (A.toN i)).id,gG aC,aT .i64 (A.bin ig aU p (A.bin fZ aU (ah 1) i)),aI 4 n (Oy n g (T (A.toN i)).k (T (A.toN i)).g)]])) (A.addN m 1) (Af [[aT .i64 (T (A.toN i)).id,gG ay,aT .i64 (A.bin ig aU p (A.bin fZ aU (ah 1) i)),aI 4 n g]])) (zH R')]))(y5:c0=aC->c1=ay->c2=ay->c3=aC->c4=aC->c5=ay->ψ (bJ 0 [aJ 1 1,aZ (fun (x:Nat)=>Bo lv N T N' mk k0 g0) fun (x:Nat)=>Bo lv N T N' mk k0 g0,aJ 0 0,aP (aI 7 N (zH T)) (aI 7 N (zH T)),aj (ah N) (ah N),aj (A.add .i64 i (ah 1)) i',aj p p,aP (aI 4 n g) (aI 4 n g),aJ (A.addN m 1) m',aQ (A.addN m 1) (A.snoc (zH R) m (Af [[aT .i64 (T (A.toN i)).id,gG aC,aT .i64 (A.bin ig aU p (A.bin fZ aU (ah 1) i)),aI 4 n (Oy n g (T (A.toN i)).k (T (A.toN i)).g)]])) (zH R')]))(y6:c0=aC->c1=ay->c2=ay->c3=aC->c4=ay->c7=aC->c5=aC->c6=aC->ψ (bJ 0 [aJ 1 1,aZ (fun (x:Nat)=>Bo lv N T N' mk k0 g0) fun (x:Nat)=>Bo lv N T N' mk k0 g0,aJ 0 0,aP (aI 7 N (zH T)) (aI 7 N (zH T)),aj (ah N) (ah N),aj (A.add .i64 i (ah 1)) i',aj p p,aP (aI 4 n g) (aI 4 n g),aJ (A.addN (A.addN m 1) 1) m',aQ (A.addN (A.addN m 1) 1) (A.snoc (A.snoc (zH R) m (Af [[aT .i64 (T (A.toN i)).id,gG aC,aT .i64 (A.bin ig aU p (A.bin fZ aU (ah 1) i)),aI 4 n (Oy n g (T (A.toN i)).k (T (A.toN i)).g)]])) (A.addN m 1) (Af [[aT .i64 (T (A.toN i)).id,gG ay,aT .i64 (A.bin ig aU p (A.bin fZ aU (ah 1) i)),aI 4 n g]])) (zH R')]))(y7:c0=aC->c1=ay->c2=ay->c3=aC->c4=ay->c7=aC->c5=aC->c6=ay->ψ (bJ 0 [aJ 1 1,aZ (fun (x:Nat)=>Bo lv N T N' mk k0 g0) fun (x:Nat)=>Bo lv N T N' mk k0 g0,aJ 0 0,aP (aI 7 N (zH T)) (aI 7 N (zH T)),aj (ah N) (ah N),aj (A.add .i64 i (ah 1)) i',aj p p,aP (aI 4 n g) (aI 4 n g),aJ (A.addN (A.addN m 1) 1) m',aQ (A.addN (A.addN m 1) 1) (A.snoc (A.snoc (zH R) m (Af [[aT .i64 (T (A.toN i)).id,gG aC,aT .i64 (A.bin ig aU p (A.bin fZ aU (ah 1) i)),aI 4 n (Oy n g (T (A.toN i)).k (T (A.toN i)).g)]])) (A.addN m 1) (Af [[aT .i64 (T (A.toN i)).id,gG ay,aT .i64 (A.bin ig aU p (A.bin fZ aU (ah 1) i)),aI 4 n g]])) (zH R')]))(y8:c0=aC->c1=ay->c2=ay->c3=aC->c4=ay->c7=aC->c5=ay->ψ (bJ 0 [aJ 1 1,aZ (fun (x:Nat)=>Bo lv N T N' mk k0 g0) fun (x:Nat)=>Bo lv N T N' mk k0 g0,aJ 0 0,aP (aI 7 N (zH T)) (aI 7 N (zH T)),aj (ah N) (ah N),aj (A.add .i64 i (ah 1)) i',aj p p,aP (aI 4 n g) (aI 4 n g),aJ (A.addN m 1) m',aQ (A.addN m 1) (A.snoc (zH R) m (Af [[aT .i64 (T (A.toN i)).id,gG aC,aT .i64 (A.bin ig aU p (A.bin fZ aU (ah 1) i)),aI 4 n (Oy n g (T (A.toN i)).k (T (A.toN i)).g)]])) (zH R')]))(y9:c0=aC->c1=ay->c2=ay->c3=aC->c4=ay->c7=ay->c5=aC->c6=aC->ψ (bJ 0 [aJ 1 1,aZ (fun (x:Nat)=>Bo lv N T N' mk k0 g0) fun (x:Nat)=>Bo lv N T N' mk k0 g0,aJ 0 0,aP (aI 7 N (zH T)) (aI 7 N (zH T)),aj (ah N) (ah N),aj (A.add .i64 i (ah 1)) i',aj p p,aP (aI 4 n g) (aI 4 n g),aJ (A.addN m 1) m',aQ (A.addN m 1) (A.snoc (zH R) m (Af [[aT .i64 (T (A.toN i)).id,gG ay,aT .i64 (A.bin ig aU p (A.bin fZ aU (ah 1) i)),aI 4 n g]])) (zH R')]))(y10:c0=aC->c1=ay->c2=ay->c3=aC->c4=ay->c7=ay->c5=aC->c6=ay->ψ (bJ 0 [aJ 1 1,aZ (fun (x:Nat)=>Bo lv N T N' mk k0 g0) fun (x:Nat)=>Bo lv N T N' mk k0 g0,aJ 0 0,aP (aI 7 N (zH T)) (aI 7 N (zH T)),aj (ah N) (ah N),aj (A.add .i64 i (ah 1)) i',aj p p,aP (aI 4 n g) (aI 4 n g),aJ (A.addN m 1) m',aQ (A.addN m 1) (A.snoc (zH R) m (Af [[aT .i64 (T (A.toN i)).id,gG ay,aT .i64 (A.bin ig aU p (A.bin fZ aU (ah 1) i)),aI 4 n g]])) (zH R')]))(y11:c0=aC->c1=ay->c2=ay->c3=aC->c4=ay->c7=ay->c5=ay->ψ (bJ 0 [aJ 1 1,aZ (fun (x:Nat)=>Bo lv N T N' mk k0 g0) fun (x:Nat)=>Bo lv N T N' mk k0 g0,aJ 0 0,aP (aI 7 N (zH T)) (aI 7 N (zH T)),aj (ah N) (ah N),aj (A.add .i64 i (ah 1)) i',aj p p,aP (aI 4 n g) (aI 4 n g),aJ m m',aQ m (zH R) (zH R')]))(y12:c0=aC->c1=ay->c2=ay->c3=ay->c4=aC->c5=aC->c6=aC->ψ (bJ 0 [aJ 1 1,aZ (fun (x:Nat)=>Bo lv N T N' mk k0 g0) fun (x:Nat)=>Bo lv N T N' mk k0 g0,aJ 0 0,aP (aI 7 N (zH T)) (aI 7 N (zH T)),aj (ah N) (ah N),aj (A.add .i64 i (ah 1)) i',aj p p,aP (aI 4 n g) (aI 4 n g),aJ (A.addN m 1) m',aQ (A.addN m 1) (A.snoc (zH R) m (Af [[aT .i64 (T (A.toN i)).id,gG ay,aT .i64 (A.bin ig aU p (A.bin fZ aU (ah 1) i)),aI 4 n g]])) (zH R')]))(y13:c0=aC->c1=ay->c2=ay->c3=ay->c4=aC->c5=aC->c6=ay->ψ (bJ 0 [aJ 1 1,aZ (fun (x:Nat)=>Bo lv N T N' mk k0 g0) fun (x:Nat)=>Bo lv N T N' mk k0 g0,aJ 0 0,aP (aI 7 N (zH T)) (aI 7 N (zH T)),aj (ah N) (ah N),aj (A.add .i64 i (ah 1)) i',aj p p,aP (aI 4 n g) (aI 4 n g),aJ m m',aQ m (zH R) (zH R')]))(y14:c0=aC->c1=ay->c2=ay->c3=ay->c4=aC->c5=ay->ψ (bJ 0 [aJ 1 1,aZ (fun (x:Nat)=>Bo lv N T N' mk k0 g0) fun (x:Nat)=>Bo lv N T N' mk k0 g0,aJ 0 0,aP (aI 7 N (zH T)) (aI 7 N (zH T)),aj (ah N) (ah N),aj (A.add .i64 i (ah 1)) i',aj p p,aP (aI 4 n g) (aI 4 n g),aJ m m',aQ m (zH R) (zH R')]))(y15:c0=aC->c1=ay->c2=ay->c3=ay->c4=ay->c7=aC->c5=aC->c6=aC->ψ (bJ 0 [aJ 1 1,aZ (fun (x:Nat)=>Bo lv N T N' mk k0 g0) fun (x:Nat)=>Bo lv N T N' mk k0 g0,aJ 0 0,aP (aI 7 N (zH T)) (aI 7 N (zH T)),aj (ah N) (ah N),aj (A.add .i64 i (ah 1)) i',aj p p,aP (aI 4 n g) (aI 4 n g),aJ (A.addN m 1) m',aQ (A.addN m 1) (A.snoc (zH R) m (Af [[aT .i64 (T (A.toN i)).id,gG ay,aT .i64 (A.bin ig aU p (A.bin fZ aU (ah 1) i)),aI 4 n g]])) (zH R')]))(y16:c0=aC->c1=ay->c2=ay->c3=ay->c4=ay->c7=aC->c5=aC->c6=ay->ψ (bJ 0 [aJ 1 1,aZ (fun (x:Nat)=>Bo lv N T N' mk k0 g0) fun (x:Nat)=>Bo lv N T N' mk k0 g0,aJ 0 0,aP (aI 7 N (zH T)) (aI 7 N (zH T)),aj (ah N) (ah N),aj (A.add .i64 i (ah 1)) i',aj p p,aP (aI 4 n g) (aI 4 n g),aJ m m',aQ m (zH R) (zH R')]))(y17:c0=aC->c1=ay->c2=ay->c3=ay->c4=ay->c7=aC->c5=ay->ψ (bJ 0 [aJ 1 1,aZ (fun (x:Nat)=>Bo lv N T N' mk k0 g0) fun (x:Nat)=>Bo lv N T N' mk k0 g0,aJ 0 0,aP (aI 7 N (zH T)) (aI 7 N (zH T)),aj (ah N) (ah N),aj (A.add .i64 i (ah 1)) i',aj p p,aP (aI 4 n g) (aI 4 n g),aJ m m',aQ m (zH R) (zH R')]))(y18:c0=aC->c1=ay->c2=ay->c3=ay->c4=ay->c7=ay->c5=aC->c6=aC->ψ (bJ 0 [aJ 1 1,aZ (fun (x:Nat)=>Bo lv N T N' mk k0 g0) fun (x:Nat)=>Bo lv N T N' mk k0 g0,aJ 0 0,aP (aI 7 N (zH T)) (aI 7 N (zH T)),aj (ah N) (ah N),aj (A.add .i64 i (ah 1)) i',aj p p,aP (aI 4 n g) (aI 4 n g),aJ (A.addN m 1) m',aQ (A.addN m 1) (A.snoc (zH R) m (Af [[aT .i64 (T (A.toN i)).id,gG ay,aT .i64 (A.bin ig aU p (A.bin fZ aU (ah 1) i)),aI 4 n g]])) (zH R')]))(y19:c0=aC->c1=ay->c2=ay->c3=ay->c4=ay->c7=ay->c5=aC->c6=ay->ψ (bJ 0 [aJ 1 1,aZ (fun (x:Nat)=>Bo lv N T N' mk k0 g0) fun (x:Nat)=>Bo lv N T N' mk k0 g0,aJ 0 0,aP (aI 7 N (zH T)) (aI 7 N (zH T)),aj (ah N) (ah N),aj (A.add .i64 i (ah 1)) i',aj p p,aP (aI 4 n g) (aI 4 n g),aJ m m',aQ m (zH R) (zH R')]))(y20:c0=aC->c1=ay->c2=ay->c3=ay->c4=ay->c7=ay->c5=ay->ψ (bJ 0 [aJ 1 1,aZ (fun (x:Nat)=>Bo lv N T N' mk k0 g0) fun (x:Nat)=>Bo lv N T N' mk k0 g0,aJ 0 0,aP (aI 7 N (zH T)) (aI 7 N (zH T)),aj (ah N) (ah N),aj (A.add .i64 i (ah 1)) i',aj p p,aP (aI 4 n g) (aI 4 n g),aJ m m',aQ m (zH R) (zH R')]))(y21:c0=ay->ψ (aS (Sh.os 108 4 m (zH R)))):CQ ψ (AA (C7 A W NV zW) AX 300 400 41 akP (Y9 lv N T N' mk k0 g0 p n g m R i) [] [⟨41,Xb,Y9 lv N T N' mk k0 g0 p n g m' R' i',[]⟩]):=by
 subst e0 e1 e2 e3 e4 e5 e6 e7;exact EI (an (fun q0=>an (h1 q0) (an (h2 q0) (an (y1 q0) (fun q1=>an (h3 q0 q1) (an (y2 q0 q1) (fun q2=>an (h4 q0 q1 q2) (an (fun q3=>an (h2 q0) (an (fun q4=>an (h5 q0 q1 q2 q3 q4) (an (fun q5=>an (fun q6=>an (h6 q0 q1 q2 q3 q4 q5 q6) (y3 q0 q1 q2 q3 q4 q5 q6)) (fun q6=>an (h7 q0 q1 q2 q3 q4 q5 q6) (y4 q0 q1 q2 q3 q4 q5 q6))) (y5 q0 q1 q2 q3 q4))) (fun q4=>an (fun q5=>an (h8 q0 q1 q2 q3 q4 q5) (an (fun q6=>an (fun q7=>an (h9 q0 q1 q2 q3 q4 q5 q6 q7) (y6 q0 q1 q2 q3 q4 q5 q6 q7)) (fun q7=>an (h10 q0 q1 q2 q3 q4 q5 q6 q7) (y7 q0 q1 q2 q3 q4 q5 q6 q7))) (y8 q0 q1 q2 q3 q4 q5))) (fun q5=>an (fun q6=>an (fun q7=>an (h11 q0 q1 q2 q3 q4 q5 q6 q7) (y9 q0 q1 q2 q3 q4 q5 q6 q7)) (fun q7=>an (h12 q0 q1 q2 q3 q4 q5 q6 q7) (y10 q0 q1 q2 q3 q4 q5 q6 q7))) (y11 q0 q1 q2 q3 q4 q5))))) (fun q3=>an (h2 q0) (an (fun q4=>an (fun q5=>an (fun q6=>an (h13 q0 q1 q2 q3 q4 q5 q6) (y12 q0 q1 q2 q3 q4 q5 q6)) (y13 q0 q1 q2 q3 q4 q5)) (y14 q0 q1 q2 q3 q4)) (fun q4=>an (fun q5=>an (fun q6=>an (fun q7=>an (h14 q0 q1 q2 q3 q4 q5 q6 q7) (y15 q0 q1 q2 q3 q4 q5 q6 q7)) (y16 q0 q1 q2 q3 q4 q5 q6)) (y17 q0 q1 q2 q3 q4 q5)) (fun q5=>an (fun q6=>an (fun q7=>an (h15 q0 q1 q2 q3 q4 q5 q6 q7) (y18 q0 q1 q2 q3 q4 q5 q6 q7)) (y19 q0 q1 q2 q3 q4 q5 q6)) (y20 q0 q1 q2 q3 q4 q5)))))))))))) y21) (by kernel_rfl)
end Go.Proofs
namespace Go.Pl
open Go Go.Sx Go.Proofs Go.Gm
def xF{α:Type}(c1 c2 c3 c4 c5 c6 c7:Bool)(A B:α):List α:=
 bif c1||c2 then [] else (bif (c4||c7)&&c3 then [A] else [])++(bif c5&&(c6||c3) then [B] else [])
noncomputable def tuG(lv:Int)(N:Nat)(T:Nat->Dz)(mk:Nat->Int)(p:Int)(n:Nat)(g:Nat->List Sh):Nat->Nat->List Nk
 |_,0=>[] |i,r+1=>(EK (TV lv N T mk n) ⟨p.toNat,g⟩ i).map (Ju n)++tuG lv N T mk p n g (i+1) r
theorem abB(lv:Int)(N:Nat)(T:Nat->Dz)(mk:Nat->Int)(p:Int)(n:Nat)(g:Nat->List Sh):∀r i,tuG lv N T mk p n g i r=(((aY r).map fun j=>i+j).flatMap (EK (TV lv N T mk n) ⟨p.toNat,g⟩)).map (Ju n)
 |0,i=>rfl |r+1,i=>by
  rw[tuG,abB lv N T mk p n g r (i+1),pK,jJ,List.flatMap_cons,lI,qX];congr 3;grind [jE]
theorem aoX(lv:Int)(N:Nat)(T:Nat->Dz)(mk:Nat->Int)(p:Int)(n:Nat)(g:Nat->List Sh):tuG lv N T mk p n g 0 N=tuL lv N T mk p n g:=by
 rw[abB];unfold tuL turns;have:(aY N).map (fun j=>0+j)=aY N:=by simp
 rw[this];rfl
theorem ar9{lv:Int}{N:Nat}{T:Nat->Dz}{mk:Nat->Int}{p n:Nat}{g:Nat->List Sh}{i:Nat}(hp:p<2^62)(hi:i<N)(hN:N<=62)(hm:0<=mk i)(hm2:(mk i).toNat<2^N){c1 c2 c3 c4 c5 c6 c7:Bool}
  (e1:zG.eq (zG.bin .and .i64 (zG.bin .shr .i64 (p:Int) (i:Int)) (ah 1)) (ah 1)=c1)
  (e2:zG.nt (zG.eq (zG.bin .andNot .i64 (mk i) (p:Int)) (ah 0))=c2)
  (e3:TU n g (T i).k (T i).g=c3) (e4:zG.eq (T i).st (ah 3)=c4) (e5:zG.nt (zG.eq (T i).st (ah 3))=c5) (e6:zG.nt (zG.eq lv (ah 3))=c6) (e7:zG.eq (T i).st (ah 2)=c7) :
  (EK (TV lv N T mk n) ⟨p,g⟩ i).map (Ju n)=xF c1 c2 c3 c4 c5 c6 c7 ⟨(T i).id,aC,zG.bin .or .i64 (p:Int) (zG.bin .shl .i64 (ah 1) (i:Int)),n,Oy n g (T i).k (T i).g⟩ ⟨(T i).id,ay,zG.bin .or .i64 (p:Int) (zG.bin .shl .i64 (ah 1) (i:Int)),n,g⟩/\may (TV lv N T mk n) p i=(!c1 && !c2):=by
 have hp2:p<2^63:=by omega
 have hmay:may (TV lv N T mk n) p i=(!c1 && !c2):=by
  rw[<-e1,ar7 hp2 (by omega),<-e2];have:mk i=((mk i).toNat:Int):=(Int.toNat_of_nonneg hm).symm;rw[this,al7 hm2 hN hp2,Bool.not_not];rfl
 refine ⟨?_,hmay⟩;have ho:=or_eq (p:=p) (i:=i) hp2 (by omega);unfold EK;show List.map (Ju n) (if may (TV lv N T mk n) p i=aC then _ else _)=_;rw[hmay];have hc:(TV lv N T mk n).com i=(c4||c7):=by rw[<-e4,<-e7];rfl
 have ha:(TV lv N T mk n).Oz i=c5:=by rw[<-e5];rfl
 have hl:(TV lv N T mk n).all=!c6:=by rw[<-e6];show (lv==3)=!(!(lv==3));simp
 have hr:(TV lv N T mk n).run g i=if c3=aC then ak (Oy n g (T i).k (T i).g) else aK:=by rw[<-e3];rfl
 rw[hc,ha,hl];simp only[hr,ho];unfold xF;clear hc ha hl hr hmay e1 e2 e3 e4 e5 e6 e7;grind [Ju,TV]
end Go.Pl
namespace Go.Proofs
open Go Go.Sx Go.Pl Go.Gm
theorem ajg(stop:Nat->List Nat->Bool)(O:zZ aA (Ar W7) 76 D76):AU aA (C7 zG W7 NV stop):=kS (fun g F h=>by
 grind [NV]) fun g h=>by
 unfold NV at h;split at h;all_goals first|(cases h;done) |kernel_rfl
theorem aoY:zZ aA (Ar W7) 76 D76:=O76.mono fun H Aq args φ hr h=>by
 unfold D76 at h;split at h
 ·split at h
  ·rename_i e0 e1
   obtain ⟨h1,h2,h3⟩:=h;unfold plN at h1;rw[aG,aG] at h1;unfold F76;simp only[e0,e1];exact ⟨h1.1,h1.2.1,h1.2.2,h2,h3⟩
  ·exact h.elim
 ·exact h.elim
section
variable{H0:Mem}{w0:World}{φ:Sh->Prop}{lv:Int}{N:Nat}{T:Nat->Dz}{mk:Nat->Int}{k0:Nat}{g0:Nat->List Sh}{p:Nat}{n:Nat}{g:Nat->List Sh}
theorem aoZ{α:Type}[Row α](l r:List α)(j:Nat)(h:j<l.length):nth (l++r) j=nth l j:=by
 simp_all [nth,List.getD_eq_getElem?_getD,List.getElem?_append_left]
theorem I8{α:Type}[Row α](l:List α)(a:α)(s:List Sh)(hs:s=Row.put a):∀j,j<l.length+1->zG.snoc (zH (nth l)) l.length (Af [s]) j=zH (nth (l++[a])) j:=fun j hj=>by
 rw[Ef];split
 ·rename_i q
  show Row.put (nth l j)=Row.put (nth (l++[a]) j);rw[aoZ _ _ _ q]
 ·have:j=l.length:=by omega
  subst this;rw[Nat.sub_self];show s=Row.put (nth (l++[a]) l.length);simp_all [nth]
theorem ahn{g g':Nat->List Sh}{n:Nat}(h:∀j,j<n->g j=g' j)(r:Nat->List Sh):zG.snoc g n r=zG.snoc g' n r:=by
 grind [Ef]
theorem akS(Q:TuP lv N T N mk (p:Int) n g):∀r i (acc:List Nk),i+r=N->acc.length<=2*i->φ (.sl 4 (acc++tuG lv N T mk p n g i r).length (zH (nth (acc++tuG lv N T mk p n g i r))))->
  Aw aA (C7 zG W7 NV zW) (K0 H0 w0) 41 Xb (Y9 lv N T N mk k0 g0 p n g acc.length (nth acc) (i:Nat)) [] emp (up φ)
 |0,i,acc,hi,hl,hφ=>by
  refine G6 (fn:=qw) (tb:=akP) (by kernel_rfl) (by kernel_rfl) ?_;refine Ey (bY _ _) (ajg _ aoY) (hold:=AX) (m:=300) (n:=400) (ts:=[⟨41,Xb,Y9 lv N T N mk k0 g0 p n g 0 (nth []) 0,[]⟩]) ?_;have lt {P:Prop} (h:zG.lt (i:Int) (ah N)=aC):P:=by simp[zN] at h;omega
  have e:acc++tuG lv N T mk p n g i 0=acc:=by rw[tuG,fA]
  rw[e] at hφ;refine abA zG W7 lv N T N mk k0 g0 p n g acc.length 0 (nth acc) (nth []) i 0 rfl rfl rfl rfl rfl rfl rfl rfl ?_ ?_ ?_ ?_ ?_ ?_ ?_ ?_ ?_ ?_ ?_ ?_ ?_ ?_ ?_ ?_ ?_ ?_ ?_ ?_ ?_ ?_ ?_ ?_ ?_ ?_ ?_ ?_ ?_ ?_ ?_ ?_ ?_ ?_ ?_ ?_;all_goals first|(intro q;exact lt q) |skip
  exact fun _=>AB (s':=.sl 4 acc.length (zH (nth acc))) U7 hφ
 |r+1,i,acc,hi,hl,hφ=>by
  refine G6 (fn:=qw) (tb:=akP) (by kernel_rfl) (by kernel_rfl) ?_;have hlN:=Q.le;have w1:zG.add .i64 (i:Int) (ah 1)=((i+1:Nat):Int):=add1 (by omega);have no {P:Prop} (h:zG.lt (i:Int) (ah N)=ay):P:=by simp[zN] at h;omega
  have inb:zG.inB (i:Int) N=aC:=by simp[AY];omega
  have rm1:zG.room (zG.addN acc.length 1) 48=aC:=by rw[Ee,decide_eq_true_eq,Cj];unfold maxLen;omega
  have rm2:zG.room (zG.addN (zG.addN acc.length 1) 1) 48=aC:=by rw[Ee,decide_eq_true_eq,Cj,Cj];unfold maxLen;omega
  have le0:zG.le (ah 0) (i:Int)=aC:=by simp[Dy]
  have hp:p<2^62:=by have:=Q.lt;omega
  obtain ⟨c1,e1⟩:∃c,zG.eq (zG.bin .and .i64 (zG.bin .shr .i64 (p:Int) (i:Int)) (ah 1)) (ah 1)=c:=⟨_,rfl⟩;obtain ⟨c2,e2⟩:∃c,zG.nt (zG.eq (zG.bin .andNot .i64 (mk (zG.toN i)) (p:Int)) (ah 0))=c:=⟨_,rfl⟩;obtain ⟨c3,e3⟩:∃c,TU n g (T (zG.toN i)).k (T (zG.toN i)).g=c:=⟨_,rfl⟩;obtain ⟨c4,e4⟩:∃c,zG.eq (T (zG.toN i)).st (ah 3)=c:=⟨_,rfl⟩;obtain ⟨c5,e5⟩:∃c,zG.nt (zG.eq (T (zG.toN i)).st (ah 3))=c:=⟨_,rfl⟩;obtain ⟨c6,e6⟩:∃c,zG.nt (zG.eq lv (ah 3))=c:=⟨_,rfl⟩;obtain ⟨c7,e7⟩:∃c,zG.eq (T (zG.toN i)).st (ah 2)=c:=⟨_,rfl⟩;obtain ⟨hx,hmay⟩:=ar9 (lv:=lv) (T:=T) (n:=n) (g:=g) hp (by omega:i<N) Q.le (Q.mpos i (by omega)) (Q.mlt i (by omega)) e1 e2 e3 e4 e5 e6 e7;have hfit:=Q.fit i (by omega);rw[fB,hmay] at hfit;rw[tuG,fB,<-iT] at hφ;have nx:=fun (h:(acc++(EK (TV lv N T mk n) ⟨p,g⟩ i).map (Ju n)).length<=2*(i+1))=>akS Q r (i+1) (acc++(EK (TV lv N T mk n) ⟨p,g⟩ i).map (Ju n)) (by omega) h hφ;rw[hx] at nx;generalize hacc:acc++xF _ _ _ _ _ _ _ _ _=acc' at nx;refine Ey (bY _ _) (ajg _ aoY) (hold:=AX) (m:=300) (n:=400) (ts:=[⟨41,Xb,Y9 lv N T N mk k0 g0 p n g acc'.length (nth acc') ((i+1:Nat):Int),[]⟩]) ?_;have lf:∀(mm:Nat) (gg:Nat->List Sh),mm=acc'.length->(∀j,j<mm->gg j=zH (nth acc') j)->acc'.length<=2*(i+1)->H8 aA (C7 zG W7 NV zW) (K0 H0 w0) [⟨41,Xb,Y9 lv N T N mk k0 g0 p n g acc'.length (nth acc') ((i+1:Nat):Int),[]⟩] emp (up φ)
    (bJ 0 [aJ 1 1,aZ (fun _=>Bo lv N T N mk k0 g0) fun _=>Bo lv N T N mk k0 g0,aJ 0 0,aP (aI 7 N (zH T)) (aI 7 N (zH T)),aj (ah N) (ah N),aj (zG.add .i64 i (ah 1)) ((i+1:Nat):Int),aj p p,aP (aI 4 n g) (aI 4 n g),aJ mm acc'.length,aQ mm gg (zH (nth acc'))]):=
   fun mm gg e1 e2 e3=>⟨⟨rfl,rfl,rfl,rfl,rfl,w1,rfl,rfl,e1,e2,trivial⟩,_,rfl,nx e3⟩
  have l0 (h:acc'=acc):=lf acc.length (zH (nth acc)) (by rw[h]) (fun j _=>by rw[h]) (by rw[h];omega);have l1 (a:Nk) (h:acc'=acc++[a]):=lf (zG.addN acc.length 1) (zG.snoc (zH (nth acc)) acc.length (Af [Row.put a])) (by rw[h,dP];rfl) (fun j hj=>by rw[h];exact I8 acc a _ rfl j hj) (by rw[h,dP];show acc.length+1<=_;omega);have l2 (a b:Nk) (h:acc'=acc++[a,b]):=lf (zG.addN (zG.addN acc.length 1) 1) (zG.snoc (zG.snoc (zH (nth acc)) acc.length (Af [Row.put a])) (zG.addN acc.length 1) (Af [Row.put b])) (by rw[h,dP];rfl) (fun j hj=>by
   have e:=I8 (acc++[a]) b _ rfl j (by rw[dP];exact hj);rw[iT,dP] at e;rw[h];have e2:=ahn (n:=acc.length+1) (fun j hj=>I8 acc a _ rfl j hj) (Af [Row.put b]);exact (congrFun e2 j).trans e) (by rw[h,dP];show acc.length+2<=_;omega)
  clear lf nx;refine abA zG W7 lv N T N mk k0 g0 p n g acc.length acc'.length (nth acc) (nth acc') i ((i+1:Nat):Int) rfl e1 e2 e3 e4 e5 e6 e7
   (fun _=>inb)
   (fun _=>le0)
   (fun _ _=>inb)
   (fun _ q1 q2=>hfit (by rw[q1,q2];rfl))
   (fun _ _ _ _ _=>rm1)
   (fun _ _ _ _ _ _ _=>rm2)
   (fun _ _ _ _ _ _ _=>rm2)
   (fun _ _ _ _ _ _=>rm1)
   (fun _ _ _ _ _ _ _ _=>rm2)
   (fun _ _ _ _ _ _ _ _=>rm2)
   (fun _ _ _ _ _ _ _ _=>rm1)
   (fun _ _ _ _ _ _ _ _=>rm1)
   (fun _ _ _ _ _ _ _=>rm1)
   (fun _ _ _ _ _ _ _ _=>rm1)
   (fun _ _ _ _ _ _ _ _=>rm1)
   (fun _ q1=>l0 (by rw[<-hacc,q1];exact fA _))
   (fun _ q1 q2=>l0 (by rw[<-hacc,q1,q2];exact fA _))
   (fun _ q1 q2 q3 q4 q5 q6=>l2 _ _ (by rw[<-hacc,q1,q2,q3,q4,q5,q6];rfl))
   (fun _ q1 q2 q3 q4 q5 q6=>l2 _ _ (by rw[<-hacc,q1,q2,q3,q4,q5,q6];rfl))
   (fun _ q1 q2 q3 q4 q5=>l1 _ (by rw[<-hacc,q1,q2,q3,q4,q5];rfl))
   (fun _ q1 q2 q3 q4 q5 q6 q7=>l2 _ _ (by rw[<-hacc,q1,q2,q3,q4,q5,q6,q7];rfl))
   (fun _ q1 q2 q3 q4 q5 q6 q7=>l2 _ _ (by rw[<-hacc,q1,q2,q3,q4,q5,q6,q7];rfl))
   (fun _ q1 q2 q3 q4 q5 q6=>l1 _ (by rw[<-hacc,q1,q2,q3,q4,q5,q6];rfl))
   (fun _ q1 q2 q3 q4 q5 q6 q7=>l1 _ (by rw[<-hacc,q1,q2,q3,q4,q5,q6,q7];rfl))
   (fun _ q1 q2 q3 q4 q5 q6 q7=>l1 _ (by rw[<-hacc,q1,q2,q3,q4,q5,q6,q7];rfl))
   (fun _ q1 q2 q3 q4 q5 q6=>l0 (by rw[<-hacc,q1,q2,q3,q4,q5,q6];exact fA _))
   (fun _ q1 q2 q3 q4 q5 q6=>l1 _ (by rw[<-hacc,q1,q2,q3,q4,q5,q6];rfl))
   (fun _ q1 q2 q3 q4 q5 q6=>l0 (by rw[<-hacc,q1,q2,q3,q4,q5,q6];exact fA _))
   (fun _ q1 q2 q3 q4 q5=>l0 (by rw[<-hacc,q1,q2,q3,q4,q5];exact fA _))
   (fun _ q1 q2 q3 q4 q5 q6 q7=>l1 _ (by rw[<-hacc,q1,q2,q3,q4,q5,q6,q7];rfl))
   (fun _ q1 q2 q3 q4 q5 q6 q7=>l0 (by rw[<-hacc,q1,q2,q3,q4,q5,q6,q7];exact fA _))
   (fun _ q1 q2 q3 q4 q5 q6=>l0 (by rw[<-hacc,q1,q2,q3,q4,q5,q6];exact fA _))
   (fun _ q1 q2 q3 q4 q5 q6 q7=>l1 _ (by rw[<-hacc,q1,q2,q3,q4,q5,q6,q7];rfl))
   (fun _ q1 q2 q3 q4 q5 q6 q7=>l0 (by rw[<-hacc,q1,q2,q3,q4,q5,q6,q7];exact fA _))
   (fun _ q1 q2 q3 q4 q5 q6=>l0 (by rw[<-hacc,q1,q2,q3,q4,q5,q6];exact fA _))
   (fun q=>no q)
end
def ZQ(H:Mem):List Sh->List Sh->Prop
 |[],[]=>True |s::l,s'::l'=>(∀u,Rep H s u->Rep H s' u)/\ZQ H l l' |_,_=>False
theorem aeY{H:Mem}:∀{l l':List Sh},ZQ H l l'->l'.length=l.length/\∀(j:Nat) (s':Sh),l'[j]?=ak s'->∃s:Sh,l[j]?=ak s/\∀u,Rep H s u->Rep H s' u
 |[],[],_=>⟨rfl,fun j s' h=>by cases h⟩ |_::_,_::_,⟨h,t⟩=>by
  obtain ⟨e,q⟩:=aeY t;grind
 |[],_::_,h=>h.elim |_::_,[],h=>h.elim
theorem ahp{H:Mem}{l l':List Sh}{v:Value}(hr:Rep H (.pt l) v)(h:ZQ H l l'):Rep H (.pt l') v:=by
 obtain ⟨e,q⟩:=aeY h;cases hr with
 |pt _ b off c h1 h2 h3=>
  exact .pt _ b off c (fun j hj=>h1 j (by omega)) (fun j hj=>h2 j (by omega)) fun j s' hs=>by
   grind
theorem Lu{H:Mem}{l l':List Sh}{v:Value}(hr:Rep H (.agg l) v)(h:ZQ H l l'):Rep H (.agg l') v:=by
 obtain ⟨e,q⟩:=aeY h;cases hr with
 |agg _ vs h1 h3=>
  exact .agg _ vs (by omega) fun j s' u hs hv=>by
   grind
theorem ahq{H:Mem}{st n:Nat}{g:Nat->List Sh}{u:Value}(h:(dQ st 4||dQ n 0)=aC)(hr:Rep H (.sl st n g) u):Rep H (.sl 4 n g) u:=by
 rw[lH] at h;rcases h with h|h
 ·simp_all
 ·obtain rfl:=Nat.eq_of_beq_eq_true h
  grind [Na]
theorem awY:zZ aA (Ar W7) 41 D41:=by
 refine Fa (C:=C7 zG W7 NV zW) (bY _ _) (fn:=qw) (by kernel_rfl) (by kernel_rfl) fun H w Aq args φ hrep h=>?_
 have hn:qw.ntmps=104:=by kernel_rfl
 unfold D41 at h;split at h
 ·rename_i lv s1 s2 s3 t st n g
  split at h
  ·rename_i N T' N' mk' q0 p e1 e2 e4 e3
   obtain ⟨h1,hφ⟩:=h;unfold tuB at h1;rw[aG,aG,aG] at h1;obtain ⟨a1,a2,a3,a4⟩:=h1;have Q:TuP lv N (zJ T') N' (zJ mk') p n g:=@of_decide_eq_true _ (aX _) a4;obtain rfl:=Q.eq;obtain ⟨q,rfl⟩:=Int.eq_ofNat_of_zero_le Q.pos;match args,hrep with
   |[v,u],⟨rv,ru,_⟩=>
    obtain ⟨k0,g0⟩:=q0;refine ⟨[.pt (Bo lv N (zJ T') N (zJ mk') k0 g0),.agg [.i .i64 (q:Int),.sl 4 n g]],⟨ahp rv ⟨fun _ r=>r,fun _ r=>Ed (Bd e1 r) a1,fun _ r=>Ed (Bd e2 r) a2,fun _ r=>Bd e4 r,trivial⟩,Lu ru ⟨fun _ r=>Dn e3 r,fun _ r=>ahq a3 r,trivial⟩,trivial⟩,L0,?_⟩;have hφ:φ (.sl 4 (tuL lv N (zJ T') (zJ mk') (q:Int) n g).length (zH (nth (tuL lv N (zJ T') (zJ mk') (q:Int) n g)))):=hφ;rw[<-aoX] at hφ;refine Ey (bY _ _) (ajg _ aoY) (hold:=AX) (m:=300) (n:=400) (ts:=[⟨41,Xb,Y9 lv N (zJ T') N (zJ mk') k0 g0 q n g 0 (nth []) ((0:Nat):Int),[]⟩]) ?_;rw[hn];exact ajf zG W7 lv N (zJ T') N (zJ mk') k0 g0 q n g 0 (nth []) _ ⟨⟨rfl,rfl,rfl,rfl,rfl,rfl,rfl,rfl,rfl,trivial⟩,_,rfl,akS Q N 0 [] (by omega) (by simp) hφ⟩
  ·exact h.elim
 ·exact h.elim
open Go Go.Conc Go.RowKit
set_option maxRecDepth 100000 in
theorem ahr(w:World):Calls aA 69 #[.chan aK] w fun e w'=>e=.returned (.bool ay)/\w'=w:=by
 refine calls_of_loneTo fun cs=>?_
 have e:fM aA 69 #[.chan aK] .normal=(zC 69).at ⟨#[.chan aK,undef,undef,undef,undef,undef,undef],[]⟩ [.code (qx.body.getD .skip)]:=by
  simp[fM,Frame.at,yC,zC,qx]
 rw[e];refine LoneTo.goes (n:=14) ?_;simp only[qx,Option.getD_some];s_c stepG_seq
 s_reg
 s_op
 s_c stepG_region_end
 s_c stepG_seq
 s_reg
 s_op
 s_c stepG_region_end
 s_c stepG_seq
 s_reg
 s_stop
 refine LoneTo.step (step_lone_select_recv_nil (z:=.agg #[]) (stepG_comm (cases:=#[rcaseNil (.agg #[])]) (blocking:=ay) (shape:=.select) (w':=w) rfl rfl (by decide) (by simp[go_sem,execOp,rcaseNil,Act.eval]))) ?_;rw[Frame.finish_at];walk_nrm
 refine LoneTo.goes (n:=10) ?_;s_op
 s_op
 s_c stepG_region_end
 s_c stepG_block
 s_cond ay
 s_c stepG_seq
 s_reg
 s_op
 s_c stepG_region_end
 s_c stepG_ret'
 s_stop
 exact LoneTo.done ⟨.returned (.bool ay),_,rfl,⟨rfl,rfl⟩,rfl,rfl,rfl,rfl,_,yC,by simp[results,qx,Frame.at]⟩
def ao0:List zD->Go.Sx.Tree zD
 |[.v (.chan aK)]=>.leaf (.b ay) |_=>.fail
theorem awZ:Go.Sx.zZ aA (Ar W7) 69 ao0:=by
 intro H w Aq args φ hon hg hr h;unfold ao0 at h;split at h
 ·match args,hr with
  |[v],⟨rv,_⟩=>
   cases rv;refine Calls.mono (ahr w) fun e w' ⟨he,hw⟩=>?_;subst hw;exact ⟨_,_,H,he,h,fun _ _ h=>h,hon,rfl,rfl,rfl,Nat.le_refl _,fun _ _=>rfl,fun b h=>.inl h,fun b0=>⟨fun _=>aK,fun i h=>absurd rfl h,fun i b h=>(by cases h),rfl,Go.Sx.O4⟩⟩
 ·exact h.elim
end Go.Proofs
namespace Go.Pl
open Go Go.Sx Go.Proofs
structure IG where
 okb:Bool
 Gy:Bool
 pos:Int
 e:Nat
 lv:Int
 N:Nat
 T:Nat->Dz
 ms:Nat->Int
 k0:Nat
 g0:Nat->List Sh
noncomputable def ate(s:Sh)(l:Int)(h:Sh)(lv:Int):Bool:=@decide (s=h/\l=lv) (aX _)
noncomputable def Zw(st n:Nat)(g:Nat->List Sh):Bool:=(dQ st 4||dQ n 0)&&(stB n g&&keysB n (DN n g))
noncomputable def OA(n:Nat)(g:Nat->List Sh):List UInt8:=adz ((aY n).map (DN n g))
structure Sm where
 placed:Int
 st:Nat
 n:Nat
 g:Nat->List Sh
instance:Inhabited Sm:=⟨⟨0,0,0,fun _=>[]⟩⟩
instance:Row Sm where
 put x:=[.i .i64 x.placed,.sl x.st x.n x.g]
 get l:=match l with
  |[.i .i64 a,.sl s n g]=>ak ⟨a,s,n,g⟩ |_=>aK
 Dk l a h:=by
  split at h
  ·cases h;rfl
  ·cases h
 get_put a:=rfl
 Jl:=default
structure PrQ where
 placed:Int
 key:List UInt8
instance:Inhabited PrQ:=⟨⟨0,[]⟩⟩
instance:Row PrQ where
 put x:=[.i .i64 x.placed,.str x.key]
 get l:=match l with
  |[.i .i64 a,.str k]=>ak ⟨a,k⟩ |_=>aK
 Dk l a h:=by
  split at h
  ·cases h;rfl
  ·cases h
 get_put a:=rfl
 Jl:=default
end Go.Pl
namespace Go.Proofs
open Go Go.Sx Go.Pl
noncomputable def D40(h0:Sh)(lv:Int)(B:IG):List Sh->Tree Sh
 |[s,t]=>match Ak t with
  |some l=>.need (ate s l h0 lv) (.node B.okb (.leaf (.zQ [.pt (Bo B.lv B.N B.T B.N B.ms B.k0 B.g0),.v .nilIface]))
   (.node B.Gy (.leaf (.zQ [.v (.pointer aK),.BM 109 (.pt [.i .i64 B.pos,.er B.e 329])])) (.leaf (.zQ [.v (.pointer aK),.er B.e 329]))))
  |none=>.fail
 |_=>.fail
noncomputable def D92:List Sh->Tree Sh
 |[.agg [.sl st n g]]=>.need (Zw st n g) (.leaf (.str (OA n g))) |_=>.fail
noncomputable def Ea(h0:Sh)(lv:Int)(B:IG):Nat->Option (List Sh->Tree Sh)
 |40=>ak (D40 h0 lv B) |41=>ak D41 |69=>ak ao0 |92=>ak D92 |_=>aK
def tdA:List It:=[bF [0,0,1,1,1,1,1,1,1,1,1,1],bZ 0,bF [1,1,1,1,1,1,1,1,1,1,1]]
def tbA:List It:=bF [0,0,0,1,1,1,1,1,1,1,1,1,1]::tdA
def hpA(B:IG)(mo:Int)(M:Int×List UInt8->Option Value)(c:Nat)(cr:Nat->PrQ)(at_:Int)(q:Nat)(qr:Nat->Sm)(m:Nat)(od:Nat->U6):List (Nat×SB):=
 [(1,.box [.bool ay,.zY,.int .i64 0] 44),(2,.pm .int M []),(3,.box [.sym .i64 mo,.mp 2,.gs 7] 204),(4,.box [.ptr 3 0] 154),(5,.box [.gs 8,.sym .i64 at_] 160),(6,.box [.gs 9] 158),(7,.own 157 2 c (zH cr)),(8,.own 104 2 q (zH qr)),(9,.own 104 2 m (zH od))]
def tmA(B:IG):List (Nat×SV):=[(0,.val (.chan aK)),(8,.ptr 1 0),(10,.Gh 4 1 (fun _=>Bo B.lv B.N B.T B.N B.ms B.k0 B.g0) 0 0),(12,.ptr 4 0),(13,.ptr 5 0),(14,.ptr 6 0),(15,.fn 64 [.ptr 4 0,.ptr 5 0,.ptr 6 0])]
def LA(B:IG)(mo:Int)(M:Int×List UInt8->Option Value)(c:Nat)(cr:Nat->PrQ)(at_:Int)(q:Nat)(qr:Nat->Sm)(m:Nat)(od:Nat->U6):Core:=
 {tm:=FT 111 (tmA B),hp:=hpA B mo M c cr at_ q qr m od,nx:=10,lim:=L0,tc:=[]}
def tdB:List It:=[bF [0,1,1,1,1,0,0,0,0,1,1,1,1,1,1,1,1,1,1],bZ 2,bZ 1,bF [0,0,1,1,1,1,1,1,1,1,1,1],bZ 0,bF [1,1,1,1,1,1,1,1,1,1,1]]
def tbB:List It:=bF [0,0,1,1,1,1,0,0,0,0,1,1,1,1,1,1,1,1,1,1]::tdB
def LB(B:IG)(mo:Int)(M:Int×List UInt8->Option Value)(c:Nat)(cr:Nat->PrQ)(at_:Int)(q:Nat)(qr:Nat->Sm)(m:Nat)(od:Nat->U6)(t:Nat)(tr:Nat->Nk)(j:Int):Core:=
 {tm:=FT 111 (tmA B++[(76,.sh (.sl 4 t (zH tr))),(77,.sym .i64 (t:Int)),(78,.sym .i64 j)]),hp:=hpA B mo M c cr at_ q qr m od,nx:=10,lim:=L0,tc:=[]}
def OB(B:IG):List Fr:=[{g:=39,td:=[It.reg [0,1,1,1,1,1,1,1,1,1,1,1,1] [2,3],bF [1,1,1,1,1,1,1,1,1,1,1,1,1]],tm:=FT 111 [(8,.ptr 1 0),(10,.Gh 4 1 (fun _=>Bo B.lv B.N B.T B.N B.ms B.k0 B.g0) 0 0),(22,.ptr 11 0)]}]
def Zx:List It:=[bF [0,1,0,1,1],bZ 0,bF [1,1,1]]
def tbC:List It:=bF [0,0,1,0,1,1]::Zx
def hpC(m:Nat)(od:Nat->U6)(M:Int×List UInt8->Option Value)(c:Int):List (Nat×SB):=[(1,.box [.bool ay,.zY,.int .i64 0] 44),(9,.own 104 2 m (zH od)),(10,.pm .bool M []),(11,.box [.bool ay,.zY,.sym .i64 c] 44)]
def tmC(B:IG)(i:Int):List (Nat×SV):=[(0,.Gh 4 1 (fun _=>Bo B.lv B.N B.T B.N B.ms B.k0 B.g0) 0 0),(1,.gs 9),(5,.mp 10),(6,.sym .i64 i)]
def LC(B:IG)(m:Nat)(od:Nat->U6)(M:Int×List UInt8->Option Value)(c:Int)(i:Int):Core:={tm:=FT 50 (tmC B i),hp:=hpC m od M c,nx:=12,lim:=L0,tc:=[]}
theorem ajh(A:Prim)(W:Wd)(B:IG)(lv mo:Int)(o m:Nat)(og mg:Nat->List Sh)(mo':Int)(M':Int×List UInt8->Option Value)(c':Nat)(TW:Nat->PrQ)(at':Int)(q':Nat)(Xc:Nat->Sm)(m':Nat)(od':Nat->U6){ψ:DF->Prop}{c0 c1 c2 c3 c4 c5 c6 c7:Bool}(e0:A.lt lv (ah 1)=c0)(e1:A.lt (ah 3) lv=c1)(e2:A.lt mo (ah 1)=c2)(e3:A.lt (ah 65536) mo=c3)(e4:B.okb=c4)(e5:A.isS aK=c5)(e6:A.eq (ah 0) (A.max mo (ah 0))=c6)(e7:B.Gy=c7)(h1:c0=ay->c1=ay->c2=ay->c3=ay->(ate (bP [aI 2 o og,aI 8 m mg]) lv (bP [aI 2 o og,aI 8 m mg]) lv)=aC)(h2:c0=ay->c1=ay->c2=ay->c3=ay->c4=aC->(Zw 4 B.k0 B.g0)=aC)(y1:c0=aC->ψ (aS (bT [bP [gG ay,aI 0 0 fun _=>[],aT .i64 (ah 0)],aW 2 329])))(y2:c0=ay->c1=aC->ψ (aS (bT [bP [gG ay,aI 0 0 fun _=>[],aT .i64 (ah 0)],aW 2 329])))(y3:c0=ay->c1=ay->c2=aC->ψ (aS (bT [bP [gG ay,aI 0 0 fun _=>[],aT .i64 (ah 0)],aW 4 329])))(y4:c0=ay->c1=ay->c2=ay->c3=aC->ψ (aS (bT [bP [gG ay,aI 0 0 fun _=>[],aT .i64 (ah 0)],aW 4 329])))(y5:c0=ay->c1=ay->c2=ay->c3=ay->c4=aC->c5=aC->ψ (bJ 0 [jH (gI aK) (gI aK),aJ 1 1,aZ (fun (x:Nat)=>Bo B.lv B.N B.T B.N B.ms B.k0 B.g0) fun (x:Nat)=>Bo B.lv B.N B.T B.N B.ms B.k0 B.g0,aJ 0 0,aj (ah 0) (ah 0),iR (fun (x:Int×List UInt8)=>aK) M',aj (A.max mo (ah 0)) mo',aj (ah 0) at',aJ c' 0,aJ q' 0,aJ m' 0]))(y6:c0=ay->c1=ay->c2=ay->c3=ay->c4=aC->c5=ay->c6=aC->ψ (aS (bT [bP [gG ay,aI 0 0 fun _=>[],aT .i64 (ah 0)],aW 0 329])))(y7:c0=ay->c1=ay->c2=ay->c3=ay->c4=aC->c5=ay->c6=ay->ψ (bJ 0 [jH (gI aK) (gI aK),aJ 1 1,aZ (fun (x:Nat)=>Bo B.lv B.N B.T B.N B.ms B.k0 B.g0) fun (x:Nat)=>Bo B.lv B.N B.T B.N B.ms B.k0 B.g0,aJ 0 0,aj (ah 0) (ah 0),iR (KU (ah 0,OA B.k0 B.g0) (ak (iQ .i64 (ah 0))) fun (x:Int×List UInt8)=>aK) M',aj (A.max mo (ah 0)) mo',aj (ah 0) at',aJ 1 c',aQ 1 (Af [[aT .i64 (ah 0),Sh.str (OA B.k0 B.g0)]]) (zH TW),aJ 1 q',aQ 1 (Af [[aT .i64 (ah 0),aI 4 B.k0 B.g0]]) (zH Xc),aJ 1 m',aQ 1 (Af [[aT .i64 (ah 0),aI 4 B.k0 B.g0]]) (zH od')]))(y8:c0=ay->c1=ay->c2=ay->c3=ay->c4=ay->c7=aC->ψ (aS (bT [bP [gG ay,aI 0 0 fun _=>[],aT .i64 (ah 0)],mZ 109 (qo [aT .i64 B.pos,aW B.e 329])])))(y9:c0=ay->c1=ay->c2=ay->c3=ay->c4=ay->c7=ay->ψ (aS (bT [bP [gG ay,aI 0 0 fun _=>[],aT .i64 (ah 0)],aW B.e 329]))):CQ ψ (AA (C7 A W (Ea (.agg [.sl 2 o og,.sl 8 m mg]) lv B) zW) AX 300 400 39 [.code []] (zL 111 [.v (.chan aK),.agg [.sl 2 o og,.sl 8 m mg],.i .i64 lv,.i .i64 mo] L0) [] [⟨39,tdA,LA B mo' M' c' TW at' q' Xc m' od',[]⟩]):=by
 subst e0 e1 e2 e3 e4 e5 e6 e7;exact ahi (by kernel_rfl) (an y1 (fun q0=>an (y2 q0) (fun q1=>an (y3 q0 q1) (fun q2=>an (y4 q0 q1 q2) (fun q3=>an (h1 q0 q1 q2 q3) (an (fun q4=>an (h2 q0 q1 q2 q3 q4) (an (y5 q0 q1 q2 q3 q4) (fun q5=>an (y6 q0 q1 q2 q3 q4 q5) (y7 q0 q1 q2 q3 q4 q5)))) (fun q4=>an (y8 q0 q1 q2 q3 q4) (y9 q0 q1 q2 q3 q4)))))))) (by kernel_rfl)
theorem Vb(A:Prim)(W:Wd)(B:IG)(hs:Sh)(lv mo:Int)(M:Int×List UInt8->Option Value)(c:Nat)(cr:Nat->PrQ)(at_:Int)(q:Nat)(qr:Nat->Sm)(m:Nat)(od:Nat->U6)(at':Int)(q':Nat)(Xc:Nat->Sm)(t:Nat)(tr:Nat->Nk)(M':Int×List UInt8->Option Value)(c' i':Int){ψ:DF->Prop}{c0 c1 c2:Bool}(e0:A.eq at_ (A.Aa q)=c0)(e1:A.eq (A.add .i64 at_ (ah 1)) (A.Aa q)=c1)(e2:ay=c2)(h1:c0=ay->(A.inB at_ q)=aC)(h2:c0=ay->c1=aC->c2=ay->(tuB B.lv B.N (zH B.T) B.N (zH B.ms) (qr (A.toN at_)).placed (qr (A.toN at_)).st (qr (A.toN at_)).n (qr (A.toN at_)).g)=aC)(h3:c0=ay->c1=ay->c2=ay->(tuB B.lv B.N (zH B.T) B.N (zH B.ms) (qr (A.toN at_)).placed (qr (A.toN at_)).st (qr (A.toN at_)).n (qr (A.toN at_)).g)=aC)(y1:c0=aC->ψ (bJ 1 [aJ 1 1,aZ (fun (x:Nat)=>Bo B.lv B.N B.T B.N B.ms B.k0 B.g0) fun (x:Nat)=>Bo B.lv B.N B.T B.N B.ms B.k0 B.g0,aJ 0 0,aj (A.sub .i64 (A.Aa m) (ah 1)) i',aj (ah 0) (ah 0),aJ m m,aQ m (zH od) (zH od),iR (fun (x:Int×List UInt8)=>aK) M',aj (A.Aa c) c',aJ 1 1,aZ (fun (x:Nat)=>Bo B.lv B.N B.T B.N B.ms B.k0 B.g0) fun (x:Nat)=>Bo B.lv B.N B.T B.N B.ms B.k0 B.g0,aJ 0 0]))(y2:c0=ay->c1=aC->c2=aC->ψ (aS (bT [bP [gG ay,aI 0 0 fun _=>[],aT .i64 (ah 0)],aW 5 329])))(y3:c0=ay->c1=aC->c2=ay->ψ (bJ 0 [jH (gI aK) (gI aK),aJ 1 1,aZ (fun (x:Nat)=>Bo B.lv B.N B.T B.N B.ms B.k0 B.g0) fun (x:Nat)=>Bo B.lv B.N B.T B.N B.ms B.k0 B.g0,aJ 0 0,aP (aI 4 (Sl B.lv B.N (zH B.T) (zH B.ms) (qr (A.toN at_)).placed (qr (A.toN at_)).n (qr (A.toN at_)).g) (zH (tuR B.lv B.N (zH B.T) (zH B.ms) (qr (A.toN at_)).placed (qr (A.toN at_)).n (qr (A.toN at_)).g))) (aI 4 t (zH tr)),aj (A.Aa (Sl B.lv B.N (zH B.T) (zH B.ms) (qr (A.toN at_)).placed (qr (A.toN at_)).n (qr (A.toN at_)).g)) (ah t),aj (ah 0) (ah 0),aj (ah 0) (ah 0),iR M M,aj mo mo,aj (ah 0) at',aJ c c,aQ c (zH cr) (zH cr),aJ q' 0,aJ m m,aQ m (zH od) (zH od)]))(y4:c0=ay->c1=ay->c2=aC->ψ (aS (bT [bP [gG ay,aI 0 0 fun _=>[],aT .i64 (ah 0)],aW 5 329])))(y5:c0=ay->c1=ay->c2=ay->ψ (bJ 0 [jH (gI aK) (gI aK),aJ 1 1,aZ (fun (x:Nat)=>Bo B.lv B.N B.T B.N B.ms B.k0 B.g0) fun (x:Nat)=>Bo B.lv B.N B.T B.N B.ms B.k0 B.g0,aJ 0 0,aP (aI 4 (Sl B.lv B.N (zH B.T) (zH B.ms) (qr (A.toN at_)).placed (qr (A.toN at_)).n (qr (A.toN at_)).g) (zH (tuR B.lv B.N (zH B.T) (zH B.ms) (qr (A.toN at_)).placed (qr (A.toN at_)).n (qr (A.toN at_)).g))) (aI 4 t (zH tr)),aj (A.Aa (Sl B.lv B.N (zH B.T) (zH B.ms) (qr (A.toN at_)).placed (qr (A.toN at_)).n (qr (A.toN at_)).g)) (ah t),aj (ah 0) (ah 0),aj (ah 0) (ah 0),iR M M,aj mo mo,aj (A.add .i64 at_ (ah 1)) at',aJ c c,aQ c (zH cr) (zH cr),aJ q q',aQ q (A.upd (zH qr) (A.toN at_) 0 [aT .i64 (ah 0),aI 0 0 fun _=>[]]) (zH Xc),aJ m m,aQ m (zH od) (zH od)])):CQ ψ (AA (C7 A W (Ea hs lv B) zW) AX 300 400 39 tbA (LA B mo M c cr at_ q qr m od) [] [⟨39,tdB,LB B mo M c cr at' q' Xc m od t tr 0,[]⟩,⟨71,Zx,LC B m od M' c' i',OB B⟩]):=by
 subst e0 e1 e2;exact EI (an y1 (fun q0=>an (h1 q0) (an (h1 q0) (an (fun q1=>an (y2 q0 q1) (fun q2=>an (h2 q0 q1 q2) (y3 q0 q1 q2))) (fun q1=>an (y4 q0 q1) (fun q2=>an (h3 q0 q1 q2) (y5 q0 q1 q2))))))) (by kernel_rfl)
theorem Qq(A:Prim)(W:Wd)(B:IG)(hs:Sh)(lv mo:Int)(M M':Int×List UInt8->Option Value)(c c':Nat)(cr TW:Nat->PrQ)(at_:Int)(q q':Nat)(qr Xc:Nat->Sm)(m m':Nat)(od od':Nat->U6)(t:Nat)(tr:Nat->Nk)(j j':Int){ψ:DF->Prop}{c0 c1 c2:Bool}(e0:A.lt j (ah t)=c0)(e1:A.isS (M ((tr (A.toN j)).placed,OA (tr (A.toN j)).n (tr (A.toN j)).g))=c1)(e2:A.eq (A.Aa c) mo=c2)(h1:c0=aC->(A.inB j t)=aC)(h2:c0=aC->(Zw 4 (tr (A.toN j)).n (tr (A.toN j)).g)=aC)(h3:c0=aC->c1=ay->c2=ay->(A.room (A.addN c 1) 24)=aC)(h4:c0=aC->c1=ay->c2=ay->(A.room (A.addN q 1) 32)=aC)(h5:c0=aC->c1=ay->c2=ay->(A.room (A.addN m 1) 32)=aC)(y1:c0=aC->c1=aC->ψ (bJ 0 [jH (gI aK) (gI aK),aJ 1 1,aZ (fun (x:Nat)=>Bo B.lv B.N B.T B.N B.ms B.k0 B.g0) fun (x:Nat)=>Bo B.lv B.N B.T B.N B.ms B.k0 B.g0,aJ 0 0,aP (aI 4 t (zH tr)) (aI 4 t (zH tr)),aj (ah t) (ah t),aj (A.add .i64 j (ah 1)) j',aj (ah 0) (ah 0),iR M M',aj mo mo,aj at_ at_,aJ c c',aQ c (zH cr) (zH TW),aJ q q',aQ q (zH qr) (zH Xc),aJ m m',aQ m (zH od) (zH od')]))(y2:c0=aC->c1=ay->c2=aC->ψ (aS (bT [bP [gG ay,aI 0 0 fun _=>[],aT .i64 (ah 0)],aW 0 329])))(y3:c0=aC->c1=ay->c2=ay->ψ (bJ 0 [jH (gI aK) (gI aK),aJ 1 1,aZ (fun (x:Nat)=>Bo B.lv B.N B.T B.N B.ms B.k0 B.g0) fun (x:Nat)=>Bo B.lv B.N B.T B.N B.ms B.k0 B.g0,aJ 0 0,aP (aI 4 t (zH tr)) (aI 4 t (zH tr)),aj (ah t) (ah t),aj (A.add .i64 j (ah 1)) j',aj (ah 0) (ah 0),iR (KU ((tr (A.toN j)).placed,OA (tr (A.toN j)).n (tr (A.toN j)).g) (ak (iQ .i64 (A.Aa c))) M) M',aj mo mo,aj at_ at_,aJ (A.addN c 1) c',aQ (A.addN c 1) (A.snoc (zH cr) c (Af [[aT .i64 (tr (A.toN j)).placed,Sh.str (OA (tr (A.toN j)).n (tr (A.toN j)).g)]])) (zH TW),aJ (A.addN q 1) q',aQ (A.addN q 1) (A.snoc (zH qr) q (Af [[aT .i64 (tr (A.toN j)).placed,aI 4 (tr (A.toN j)).n (tr (A.toN j)).g]])) (zH Xc),aJ (A.addN m 1) m',aQ (A.addN m 1) (A.snoc (zH od) m (Af [[aT .i64 (tr (A.toN j)).placed,aI 4 (tr (A.toN j)).n (tr (A.toN j)).g]])) (zH od')]))(y4:c0=ay->ψ (bJ 1 [jH (gI aK) (gI aK),aJ 1 1,aZ (fun (x:Nat)=>Bo B.lv B.N B.T B.N B.ms B.k0 B.g0) fun (x:Nat)=>Bo B.lv B.N B.T B.N B.ms B.k0 B.g0,aJ 0 0,aj (ah 0) (ah 0),iR M M,aj mo mo,aj at_ at_,aJ c c,aQ c (zH cr) (zH cr),aJ q q,aQ q (zH qr) (zH qr),aJ m m,aQ m (zH od) (zH od)])):CQ ψ (AA (C7 A W (Ea hs lv B) zW) AX 300 400 39 tbB (LB B mo M c cr at_ q qr m od t tr j) [] [⟨39,tdB,LB B mo M' c' TW at_ q' Xc m' od' t tr j',[]⟩,⟨39,tdA,LA B mo M c cr at_ q qr m od,[]⟩]):=by
 subst e0 e1 e2;exact ahi (by kernel_rfl) (an (fun q0=>an (h1 q0) (an (h2 q0) (an (y1 q0) (fun q1=>an (y2 q0 q1) (fun q2=>an (h3 q0 q1 q2) (an (h3 q0 q1 q2) (an (h4 q0 q1 q2) (an (h4 q0 q1 q2) (an (h5 q0 q1 q2) (y3 q0 q1 q2)))))))))) y4) (by kernel_rfl)
end Go.Proofs
namespace Go.Pl
open Go Go.Sx Go.Proofs
structure Qr where
 tx:Int
 com:Bool
 deriving DecidableEq
instance:Inhabited Qr:=⟨⟨0,ay⟩⟩
instance:Row Qr where
 put x:=[.i .i64 x.tx,.b x.com]
 get l:=match l with
  |[.i .i64 a,.b c]=>ak ⟨a,c⟩ |_=>aK
 Dk l a h:=by
  split at h
  ·cases h;rfl
  ·cases h
 get_put a:=rfl
 Jl:=default
end Go.Pl
namespace Go.Proofs
open Go Go.Sx Go.Pl
def tdD:List It:=[bF [0,1,0,1,1,0,0,1,0,0,1,0,1,1],bZ 2,bF [1,1,1,0,0,1,0,0,1,0,1,1],bZ 1,bF [1,1,0,0,1,0,1,1],bF [0,1,0,1,1],bZ 0,bF [1,1,1]]
def tbD:List It:=bF [0,0,1,0,1,1,0,0,1,0,0,1,0,1,1]::tdD
def LD(B:IG)(m:Nat)(od:Nat->U6)(M:Int×List UInt8->Option Value)(c:Int)(i:Int)(p:Int)(n:Nat)(g:Nat->List Sh)(is:Bool)(t:Nat)(tr:Nat->Nk)(j:Int):Core:=
 {tm:=FT 50 (tmC B i++[(7,.ptr 12 0),(8,.test is),(30,.sh (.sl 4 t (zH tr))),(31,.sym .i64 (t:Int)),(32,.sym .i64 j)]),hp:=hpC m od M c++[(12,.box [.sym .i64 p,.sh (.sl 4 n g)] 104)],nx:=13,lim:=L0,tc:=[]}
def TY(B:IG):List Fr:=[{g:=39,td:=[It.reg [0,1,0,1,1,1,1,1,1,1,1,1,1,1,1,1] [2,3,4,5,6],bF [1,1,1,1,1,1,1,1,1,1,1,1,1,1]],tm:=FT 111 [(8,.ptr 1 0),(22,.ptr 11 0)]}]
def tdE:List It:=[bF [0,1,0,1,1],bZ 0,bF [1,1,1]]
def tbE:List It:=bF [0,0,1,0,1,1]::tdE
def hpE(M:Int×List UInt8->Option Value)(c:Int)(p:Int)(n:Nat)(g:Nat->List Sh)(k:Nat)(sr:Nat->Qr):List (Nat×SB):=[(1,.box [.bool ay,.zY,.int .i64 0] 44),(10,.pm .bool M []),(11,.box [.bool ay,.zY,.sym .i64 c] 44),(12,.box [.sym .i64 p,.sh (.sl 4 n g)] 104),(13,.own 55 2 k (zH sr))]
def tmE(B:IG):List (Nat×SV):=[(0,.Gh 4 1 (fun _=>Bo B.lv B.N B.T B.N B.ms B.k0 B.g0) 0 0),(1,.mp 10),(5,.gs 13),(6,.ptr 12 0)]
def LE(B:IG)(M:Int×List UInt8->Option Value)(c:Int)(p:Int)(n:Nat)(g:Nat->List Sh)(k:Nat)(sr:Nat->Qr):Core:={tm:=FT 42 (tmE B),hp:=hpE M c p n g k sr,nx:=14,lim:=L0,tc:=[]}
def tdF:List It:=[bF [0,1,0,0,1,0,0,1,0,1,1],bZ 2,bZ 1,bF [1,1,0,0,1,0,1,1],bF [0,1,0,1,1],bZ 0,bF [1,1,1]]
def tbF:List It:=bF [0,0,1,0,0,1,0,0,1,0,1,1]::tdF
def LF(B:IG)(M:Int×List UInt8->Option Value)(c:Int)(p:Int)(n:Nat)(g:Nat->List Sh)(k:Nat)(sr:Nat->Qr)(t:Nat)(tr:Nat->Nk)(j:Int):Core:={tm:=FT 42 (tmE B++[(21,.sh (.sl 4 t (zH tr))),(22,.sym .i64 (t:Int)),(23,.sym .i64 j)]),hp:=hpE M c p n g k sr,nx:=14,lim:=L0,tc:=[]}
end Go.Proofs
