/- Own work. -/
import Derived.Test.YthehnhaoiijkhaaGreatDoorF09
open Int (ofNat)
open Bool renaming true->aC,false->ay,and_eq_true->aG
open Classical renaming propDecidable->aX
open Go.BinOp renaming shl->fZ
open Go.Gm renaming start->lK
open Go.IntKind renaming i64->aU
open Go.Proofs renaming W7->pY,akA->zF
open Go.Proofs.C7 renaming O5->kS,ok->bY
open Go.Proofs.Tryz renaming prog->aA,f71->qy,f39->sU,f74->ku,f40->yE,tys->lu,fns->nJ,live->xP,tysB_->xQ,fnsAre_->iH,mixed_->rJ,entersB_->jg,f54->kC,f31->kD,f45->mJ,f21->mM,f29->nK
open Go.Sx.AQ renaming nat->aJ,Nz->aZ,int->aj,bool->oM,sh->aP,get->aQ,mg->iR,ok->gY,all->cu
open Go.Sx.DF renaming at_->bJ,ret->aS
open Go.Sx.Fin renaming ret->aN
open Go.Sx.It renaming code->bF,inBlock->bZ
open Go.Sx.Sh renaming sl->aI,zQ->bT,agg->bP,b->gG,i->aT,v->iW,os->iK,str->bU,er->aW
open Go.Sx.Tree renaming need->aH,leaf->aB,node->aF,must->aO,All->eY,fail->cO
open Go.Value renaming nilIface->bG,pointer->fG
open Int renaming ofNat->ah,ofNat_eq_natCast->jP
open Int.ofNat renaming inj->jZ
open List renaming length_map->iy,getD_eq_getElem?_getD->bQ,length_append->dP,range->aY,length_range->lY,getElem?_eq_getElem->aV,mem_map->fC,mem_of_getElem?->dB,drop_eq_getElem_cons->gX,drop_zero->jF,drop_eq_nil_of_le->kL,map_cons->jJ,append_assoc->iT,nil_append->kW
open Nat renaming beq->dQ,or_lt_two_pow->nX,shiftLeft_eq->kV,one_mul->oH,pow_lt_pow_right->iE,sub_self->pF,eq_of_beq_eq_true->fJ
open Option renaming some->ak,none->aK
open Option.some renaming inj->dw
namespace Go.Proofs
open Go Go.Sx Go.Pl
theorem abG(A:Prim)(W:Wd)(B:IG)(hs:Sh)(lv:Int)(M:Int×List UInt8->Option Value)(m:Nat)(od:Nat->U6)(c i:Int)(p:Int)(n:Nat)(g:Nat->List Sh)(is:Bool)(t:Nat)(tr:Nat->Nk)(sr:Nat->Qr){ψ:DF->Prop}{c0 c1 c2:Bool}(e0:A.le (ah 0) i=c0)(e1:A.isS (M (ah 0,OA B.k0 B.g0))=c1)(e2:A.IQ (M (ah 0,OA B.k0 B.g0))=c2)(h1:c0=aC->(A.inB i m)=aC)(h2:c0=aC->(A.le (ah 0) (A.Aa B.N))=aC)(h3:c0=aC->(tuB B.lv B.N (zH B.T) B.N (zH B.ms) (od (A.toN i)).placed 4 (od (A.toN i)).n (od (A.toN i)).g)=aC)(h4:c0=ay->(Zw 4 B.k0 B.g0)=aC)(y1:c0=aC->ψ (bJ 0 [aJ 1 1,aZ (fun (x:Nat)=>Bo B.lv B.N B.T B.N B.ms B.k0 B.g0) fun (x:Nat)=>Bo B.lv B.N B.T B.N B.ms B.k0 B.g0,aJ 0 0,aj i i,oM (A.eq (od (A.toN i)).placed (A.sub .i64 (A.bin fZ aU (ah 1) (A.Aa B.N)) (ah 1))) is,aP (aI 4 (Sl B.lv B.N (zH B.T) (zH B.ms) (od (A.toN i)).placed (od (A.toN i)).n (od (A.toN i)).g) (zH (tuR B.lv B.N (zH B.T) (zH B.ms) (od (A.toN i)).placed (od (A.toN i)).n (od (A.toN i)).g))) (aI 4 t (zH tr)),aj (A.Aa (Sl B.lv B.N (zH B.T) (zH B.ms) (od (A.toN i)).placed (od (A.toN i)).n (od (A.toN i)).g)) (ah t),aj (ah 0) (ah 0),aj (ah 0) (ah 0),aJ m m,aQ m (zH od) (zH od),iR M M,aj c c,aj (od (A.toN i)).placed p,aP (aI 4 (od (A.toN i)).n (od (A.toN i)).g) (aI 4 n g),aJ 1 1,aZ (fun (x:Nat)=>Bo B.lv B.N B.T B.N B.ms B.k0 B.g0) fun (x:Nat)=>Bo B.lv B.N B.T B.N B.ms B.k0 B.g0,aJ 0 0]))(y2:c0=ay->c1=aC->c2=aC->ψ (bJ 1 [aJ 1 1,aZ (fun (x:Nat)=>Bo B.lv B.N B.T B.N B.ms B.k0 B.g0) fun (x:Nat)=>Bo B.lv B.N B.T B.N B.ms B.k0 B.g0,aJ 0 0,aj (ah 0) (ah 0),iR M M,aj c c,aj (ah 0) (ah 0),aP (aI 4 B.k0 B.g0) (aI 4 B.k0 B.g0),aJ 0 0]))(y3:c0=ay->c1=aC->c2=ay->ψ (aS (bT [bP [gG ay,aI 0 0 fun _=>[],aT .i64 c],iW bG])))(y4:c0=ay->c1=ay->ψ (aS (bT [bP [gG ay,aI 0 0 fun _=>[],aT .i64 c],iW bG]))):CQ ψ (AA (C7 A W (Ea hs lv B) zW) AX 300 400 71 tbC (LC B m od M c i) (OB B) [⟨71,tdD,LD B m od M c i p n g is t tr 0,OB B⟩,⟨72,tdE,LE B M c 0 B.k0 B.g0 0 sr,TY B⟩]):=by
 subst e0 e1 e2;exact EI (an (fun q0=>an (h1 q0) (an (h2 q0) (an (h3 q0) (y1 q0)))) (fun q0=>an (h4 q0) (an (fun q1=>an (y2 q0 q1) (y3 q0 q1)) (y4 q0)))) (by kernel_rfl)
theorem abH(A:Prim)(W:Wd)(B:IG)(hs:Sh)(lv:Int)(M M':Int×List UInt8->Option Value)(m:Nat)(od:Nat->U6)(c i:Int)(p:Int)(n:Nat)(g:Nat->List Sh)(is is':Bool)(t:Nat)(tr:Nat->Nk)(j j' i':Int){ψ:DF->Prop}{c0 c1 c2:Bool}(e0:A.lt j (ah t)=c0)(e1:is=c1)(e2:A.isS (M ((tr (A.toN j)).placed,OA (tr (A.toN j)).n (tr (A.toN j)).g))=c2)(h1:c0=aC->(A.inB j t)=aC)(h2:c0=aC->c1=ay->(Zw 4 (tr (A.toN j)).n (tr (A.toN j)).g)=aC)(h3:c0=ay->(Zw 4 n g)=aC)(y1:c0=aC->c1=aC->ψ (bJ 0 [aJ 1 1,aZ (fun (x:Nat)=>Bo B.lv B.N B.T B.N B.ms B.k0 B.g0) fun (x:Nat)=>Bo B.lv B.N B.T B.N B.ms B.k0 B.g0,aJ 0 0,aj i i,oM aC is',aP (aI 4 t (zH tr)) (aI 4 t (zH tr)),aj (ah t) (ah t),aj (A.add .i64 j (ah 1)) j',aj (ah 0) (ah 0),aJ m m,aQ m (zH od) (zH od),iR M M,aj c c,aj p p,aP (aI 4 n g) (aI 4 n g),aJ 1 1,aZ (fun (x:Nat)=>Bo B.lv B.N B.T B.N B.ms B.k0 B.g0) fun (x:Nat)=>Bo B.lv B.N B.T B.N B.ms B.k0 B.g0,aJ 0 0]))(y2:c0=aC->c1=ay->c2=aC->ψ (bJ 0 [aJ 1 1,aZ (fun (x:Nat)=>Bo B.lv B.N B.T B.N B.ms B.k0 B.g0) fun (x:Nat)=>Bo B.lv B.N B.T B.N B.ms B.k0 B.g0,aJ 0 0,aj i i,oM (A.IQ (M ((tr (A.toN j)).placed,OA (tr (A.toN j)).n (tr (A.toN j)).g))) is',aP (aI 4 t (zH tr)) (aI 4 t (zH tr)),aj (ah t) (ah t),aj (A.add .i64 j (ah 1)) j',aj (ah 0) (ah 0),aJ m m,aQ m (zH od) (zH od),iR M M,aj c c,aj p p,aP (aI 4 n g) (aI 4 n g),aJ 1 1,aZ (fun (x:Nat)=>Bo B.lv B.N B.T B.N B.ms B.k0 B.g0) fun (x:Nat)=>Bo B.lv B.N B.T B.N B.ms B.k0 B.g0,aJ 0 0]))(y3:c0=aC->c1=ay->c2=ay->ψ (bJ 0 [aJ 1 1,aZ (fun (x:Nat)=>Bo B.lv B.N B.T B.N B.ms B.k0 B.g0) fun (x:Nat)=>Bo B.lv B.N B.T B.N B.ms B.k0 B.g0,aJ 0 0,aj i i,oM ay is',aP (aI 4 t (zH tr)) (aI 4 t (zH tr)),aj (ah t) (ah t),aj (A.add .i64 j (ah 1)) j',aj (ah 0) (ah 0),aJ m m,aQ m (zH od) (zH od),iR M M,aj c c,aj p p,aP (aI 4 n g) (aI 4 n g),aJ 1 1,aZ (fun (x:Nat)=>Bo B.lv B.N B.T B.N B.ms B.k0 B.g0) fun (x:Nat)=>Bo B.lv B.N B.T B.N B.ms B.k0 B.g0,aJ 0 0]))(y4:c0=ay->ψ (bJ 1 [aJ 1 1,aZ (fun (x:Nat)=>Bo B.lv B.N B.T B.N B.ms B.k0 B.g0) fun (x:Nat)=>Bo B.lv B.N B.T B.N B.ms B.k0 B.g0,aJ 0 0,aj (A.sub .i64 i (ah 1)) i',aj (ah 0) (ah 0),aJ m m,aQ m (zH od) (zH od),iR (KU (p,OA n g) (ak (Value.bool is)) M) M',aj c c,aJ 1 1,aZ (fun (x:Nat)=>Bo B.lv B.N B.T B.N B.ms B.k0 B.g0) fun (x:Nat)=>Bo B.lv B.N B.T B.N B.ms B.k0 B.g0,aJ 0 0])):CQ ψ (AA (C7 A W (Ea hs lv B) zW) AX 300 400 71 tbD (LD B m od M c i p n g is t tr j) (OB B) [⟨71,tdD,LD B m od M c i p n g is' t tr j',OB B⟩,⟨71,Zx,LC B m od M' c i',OB B⟩]):=by
 subst e0 e1 e2;exact EI (an (fun q0=>an (h1 q0) (an (y1 q0) (fun q1=>an (h2 q0 q1) (an (y2 q0 q1) (y3 q0 q1))))) (fun q0=>an (h3 q0) (y4 q0))) (by kernel_rfl)
theorem abI(A:Prim)(W:Wd)(B:IG)(hs:Sh)(lv:Int)(M:Int×List UInt8->Option Value)(c:Int)(p:Int)(n:Nat)(g:Nat->List Sh)(k:Nat)(sr:Nat->Qr)(t:Nat)(tr:Nat->Nk){ψ:DF->Prop}{c0:Bool}(e0:A.nt (A.eq p (A.sub .i64 (A.bin fZ aU (ah 1) (A.Aa B.N)) (ah 1)))=c0)(h1:(A.le (ah 0) (A.Aa B.N))=aC)(h2:c0=aC->(tuB B.lv B.N (zH B.T) B.N (zH B.ms) p 4 n g)=aC)(y1:c0=aC->ψ (bJ 0 [aJ 1 1,aZ (fun (x:Nat)=>Bo B.lv B.N B.T B.N B.ms B.k0 B.g0) fun (x:Nat)=>Bo B.lv B.N B.T B.N B.ms B.k0 B.g0,aJ 0 0,aP (aI 4 (Sl B.lv B.N (zH B.T) (zH B.ms) p n g) (zH (tuR B.lv B.N (zH B.T) (zH B.ms) p n g))) (aI 4 t (zH tr)),aj (A.Aa (Sl B.lv B.N (zH B.T) (zH B.ms) p n g)) (ah t),aj (ah 0) (ah 0),aj (ah 0) (ah 0),iR M M,aj c c,aj p p,aP (aI 4 n g) (aI 4 n g),aJ k k,aQ k (zH sr) (zH sr)]))(y2:c0=ay->ψ (aS (bT [bP [gG aC,iK 55 2 k (zH sr),aT .i64 c],iW bG]))):CQ ψ (AA (C7 A W (Ea hs lv B) zW) AX 300 400 72 tbE (LE B M c p n g k sr) (TY B) [⟨72,tdF,LF B M c p n g k sr t tr 0,TY B⟩]):=by
 subst e0;exact EI (an h1 (an (fun q0=>an (h2 q0) (y1 q0)) y2)) (by kernel_rfl)
theorem abJ(A:Prim)(W:Wd)(B:IG)(hs:Sh)(lv:Int)(M:Int×List UInt8->Option Value)(c:Int)(p p':Int)(n n':Nat)(g g':Nat->List Sh)(k k':Nat)(sr sr':Nat->Qr)(t:Nat)(tr:Nat->Nk)(j j':Int){ψ:DF->Prop}{c0 c1 c2:Bool}(e0:A.lt j (ah t)=c0)(e1:A.isS (M ((tr (A.toN j)).placed,OA (tr (A.toN j)).n (tr (A.toN j)).g))=c1)(e2:A.IQ (M ((tr (A.toN j)).placed,OA (tr (A.toN j)).n (tr (A.toN j)).g))=c2)(h1:c0=aC->(A.inB j t)=aC)(h2:c0=aC->(Zw 4 (tr (A.toN j)).n (tr (A.toN j)).g)=aC)(h3:c0=aC->c1=aC->c2=aC->(A.room (A.addN k 1) 16)=aC)(y1:c0=aC->c1=aC->c2=aC->ψ (bJ 1 [aJ 1 1,aZ (fun (x:Nat)=>Bo B.lv B.N B.T B.N B.ms B.k0 B.g0) fun (x:Nat)=>Bo B.lv B.N B.T B.N B.ms B.k0 B.g0,aJ 0 0,aj (ah 0) (ah 0),iR M M,aj c c,aj (tr (A.toN j)).placed p',aP (aI 4 (tr (A.toN j)).n (tr (A.toN j)).g) (aI 4 n' g'),aJ (A.addN k 1) k',aQ (A.addN k 1) (A.snoc (zH sr) k (Af [[aT .i64 (tr (A.toN j)).tx,gG (tr (A.toN j)).com]])) (zH sr')]))(y2:c0=aC->c1=aC->c2=ay->ψ (bJ 0 [aJ 1 1,aZ (fun (x:Nat)=>Bo B.lv B.N B.T B.N B.ms B.k0 B.g0) fun (x:Nat)=>Bo B.lv B.N B.T B.N B.ms B.k0 B.g0,aJ 0 0,aP (aI 4 t (zH tr)) (aI 4 t (zH tr)),aj (ah t) (ah t),aj (A.add .i64 j (ah 1)) j',aj (ah 0) (ah 0),iR M M,aj c c,aj p p,aP (aI 4 n g) (aI 4 n g),aJ k k,aQ k (zH sr) (zH sr)]))(y3:c0=aC->c1=ay->ψ (bJ 0 [aJ 1 1,aZ (fun (x:Nat)=>Bo B.lv B.N B.T B.N B.ms B.k0 B.g0) fun (x:Nat)=>Bo B.lv B.N B.T B.N B.ms B.k0 B.g0,aJ 0 0,aP (aI 4 t (zH tr)) (aI 4 t (zH tr)),aj (ah t) (ah t),aj (A.add .i64 j (ah 1)) j',aj (ah 0) (ah 0),iR M M,aj c c,aj p p,aP (aI 4 n g) (aI 4 n g),aJ k k,aQ k (zH sr) (zH sr)]))(y4:c0=ay->ψ (bJ 1 [aJ 1 1,aZ (fun (x:Nat)=>Bo B.lv B.N B.T B.N B.ms B.k0 B.g0) fun (x:Nat)=>Bo B.lv B.N B.T B.N B.ms B.k0 B.g0,aJ 0 0,aj (ah 0) (ah 0),iR M M,aj c c,aj p p',aP (aI 4 n g) (aI 4 n' g'),aJ k k',aQ k (zH sr) (zH sr')])):CQ ψ (AA (C7 A W (Ea hs lv B) zW) AX 300 400 72 tbF (LF B M c p n g k sr t tr j) (TY B) [⟨72,tdF,LF B M c p n g k sr t tr j',TY B⟩,⟨72,tdE,LE B M c p' n' g' k' sr',TY B⟩]):=by
 subst e0 e1 e2;exact EI (an (fun q0=>an (h1 q0) (an (h2 q0) (an (fun q1=>an (fun q2=>an (h3 q0 q1 q2) (y1 q0 q1 q2)) (y2 q0 q1)) (y3 q0)))) y4) (by kernel_rfl)
end Go.Proofs
namespace Go.Pl
open Go Go.Sx Go.Proofs Go.Gm Go.Bf
abbrev SG:=Nat->List Sh
noncomputable def Gb(B:IG):Game SG:=TV B.lv B.N B.T B.ms B.k0
noncomputable def BZ(k0:Nat)(nd:Nd SG):Int×List UInt8:=((nd.placed:Nat),OA k0 nd.st)
def II(k0:Nat)(nd:Nd SG):U6:=⟨(nd.placed:Nat),k0,nd.st⟩
def Jy(t:Int×Bool):Qr:=⟨t.1,t.2⟩
structure OC(B:IG)(Q:Nd SG->Prop):Prop where
 start:Q ⟨0,B.g0⟩
 step:∀nd,Q nd->∀t∈next (Gb B) nd,Q t
 tu:∀nd,Q nd->TuP B.lv B.N B.T B.N B.ms (nd.placed:Nat) B.k0 nd.st
 ke:∀nd,Q nd->Zw 4 B.k0 nd.st=aC
section
variable{B:IG}{Q:Nd SG->Prop}{nd:Nd SG}
theorem ae2(hg:OC B Q)(h:Q nd){st:Nat}(hst:(dQ st 4||dQ B.k0 0)=aC):tuB B.lv B.N (zH B.T) B.N (zH B.ms) (nd.placed:Nat) st B.k0 nd.st=aC:=by
 unfold tuB;rw[Dx,Dx,hst,NW,NW];exact @decide_eq_true _ (aX _) (hg.tu nd h)
theorem TG:Sl B.lv B.N (zH B.T) (zH B.ms) (nd.placed:Nat) B.k0 nd.st=(turns (Gb B) nd).length:=by
 unfold Sl tuL;rw[NW,NW,iy];rfl
theorem ae3:tuR B.lv B.N (zH B.T) (zH B.ms) (nd.placed:Nat) B.k0 nd.st=nth ((turns (Gb B) nd).map (Ju B.k0)):=by
 rfl
theorem Xd{α β:Type}[Row β](f:α->β)(l:List α){j:Nat}{a:α}(h:l[j]?=ak a):nth (l.map f) j=f a:=by
 simp_all [nth,bQ,List.getElem?_map]
theorem Yo(hN:B.N<=62)(nd:Nd SG):(turns (Gb B) nd).length<=124:=by
 have key:∀(l:List Nat),(l.flatMap (EK (Gb B) nd)).length<=2*l.length:=by
  intro l;induction l with
  |nil=>simp |cons a l ih=>
   rw[List.flatMap_cons,dP,List.length_cons];grind [EK,Gb,dP,Nat.le_trans,Nat.add_le_add]
 have:=key (aY B.N);rw[lY] at this;have e:(turns (Gb B) nd).length=(((aY B.N).flatMap (EK (Gb B) nd))).length:=rfl;omega
end
end Go.Pl
namespace Go.Proofs
open Go Go.Sx Go.Pl Go.Gm Go.Bf
theorem aw8:zZ aA (Ar W7) 92 D92:=fun H w Aq args φ hon hg hr h=>by
 unfold D92 at h;split at h
 ·rename_i st n g
  obtain ⟨h1,h2⟩:=h;unfold Zw at h1;rw[aG,aG] at h1;match args,hr with
  |[v],⟨rv,_⟩=>
   refine O32 H w [.agg [.sl 4 n g]] [v] φ hon hg ⟨Lu rv ⟨fun _ r=>ahq h1.1 r,trivial⟩,trivial⟩ ?_;exact ⟨h1.2.1,h1.2.2,h2⟩
 ·exact h.elim
section
variable{B:IG}{hs:Sh}{lv:Int}
theorem IJ(Ip:zZ aA (Ar W7) 40 (D40 hs lv B))(stop:Nat->List Nat->Bool):AU aA (C7 zG W7 (Ea hs lv B) stop):=kS (fun g F h=>by
 unfold Ea at h;grind [awY,awZ,aw8]) fun g h=>by
 unfold Ea at h;split at h;all_goals first|(cases h;done) |kernel_rfl
end
section
variable{H0:Mem}{w0:World}{φ:Sh->Prop}{B:IG}{Q:Nd SG->Prop}{hs:Sh}{lv:Int}{M:Int×List UInt8->Option Value}{c:Int}
theorem Yp{o:Option Value}(h:zG.IQ o=aC):zG.isS o=aC:=by
 cases o with
 |none=>assumption |some v=>rfl
theorem ao1(Ip:zZ aA (Ar W7) 40 (D40 hs lv B))(hg:OC B Q)(nd:Nd SG)(hq:Q nd)(acc:List Qr)(hk:acc.length<=1000):
  ∀r j,j+r=(turns (Gb B) nd).length->
  (∀t,((turns (Gb B) nd).drop j).find? (fun t=>zG.IQ (M (BZ B.k0 t.2)))=ak t->Aw aA (C7 zG W7 (Ea hs lv B) zW) (K0 H0 w0) 72 tdE (LE B M c (t.2.placed:Nat) B.k0 t.2.st (acc++[Jy t.1]).length (nth (acc++[Jy t.1]))) (TY B) emp (up φ))->
  (∃t∈(turns (Gb B) nd).drop j,zG.IQ (M (BZ B.k0 t.2))=aC)->
  Aw aA (C7 zG W7 (Ea hs lv B) zW) (K0 H0 w0) 72 tdF (LF B M c (nd.placed:Nat) B.k0 nd.st acc.length (nth acc) (turns (Gb B) nd).length (nth ((turns (Gb B) nd).map (Ju B.k0))) (j:Nat)) (TY B) emp (up φ)
 |0,j,hj,hnx,⟨t,ht,_⟩=>by
  simp_all
 |r+1,j,hj,hnx,hex=>by
  have hjl:j<(turns (Gb B) nd).length:=by omega
  have hN:(turns (Gb B) nd).length<=124:=Yo (hg.tu nd hq).le nd;obtain ⟨t,ht⟩:∃t,(turns (Gb B) nd)[j]?=ak t:=⟨_,aV hjl⟩;have hqt:Q t.2:=hg.step nd hq _ (fC.2 ⟨t,dB ht,rfl⟩);have hd:(turns (Gb B) nd).drop j=t::(turns (Gb B) nd).drop (j+1):=by
   grind [gX,aV,dw]
  have htr:nth ((turns (Gb B) nd).map (Ju B.k0)) (zG.toN (j:Int))=Ju B.k0 t:=Xd _ _ ht;obtain ⟨tr,etr⟩:∃tr,nth ((turns (Gb B) nd).map (Ju B.k0))=tr:=⟨_,rfl⟩;rw[etr] at htr ⊢;refine G6 (fn:=Tryz.f72) (tb:=tbF) (by kernel_rfl) (by kernel_rfl) ?_;have w1:zG.add .i64 (j:Int) (ah 1)=((j+1:Nat):Int):=add1 (by omega);have no {P:Prop} (h:zG.lt (j:Int) (ah (turns (Gb B) nd).length)=ay):P:=by simp_all [zN]
  have inb:zG.inB (j:Int) (turns (Gb B) nd).length=aC:=by simp[AY];omega
  have hke:Zw 4 (tr (zG.toN (j:Int))).n (tr (zG.toN (j:Int))).g=aC:=by rw[htr];exact hg.ke _ hqt
  have hM:M ((tr (zG.toN (j:Int))).placed,OA (tr (zG.toN (j:Int))).n (tr (zG.toN (j:Int))).g)=M (BZ B.k0 t.2):=by rw[htr];rfl
  have rm:zG.room (zG.addN acc.length 1) 16=aC:=by rw[Ee,decide_eq_true_eq,Cj];unfold maxLen;omega
  cases hb:zG.IQ (M (BZ B.k0 t.2)) with
  |true=>
   have nx:=hnx t (by simp_all);refine Ey (bY _ _) (IJ Ip _) (hold:=AX) (m:=300) (n:=400) (ts:=[⟨72,tdF,LF B M c (nd.placed:Nat) B.k0 nd.st acc.length (nth acc) (turns (Gb B) nd).length tr 0,TY B⟩,⟨72,tdE,LE B M c (t.2.placed:Nat) B.k0 t.2.st (acc++[Jy t.1]).length (nth (acc++[Jy t.1])),TY B⟩]) ?_;refine abJ zG W7 B hs lv M c _ _ B.k0 B.k0 nd.st t.2.st _ _ (nth acc) _ _ tr _ 0 (c1:=aC) (c2:=aC) rfl (by grind [Yp]) (by simp_all) (fun _=>inb) (fun _=>hke) (fun _ _ _=>rm) (fun _ _ _=>?_) (fun _ _ q=>by cases q) (fun _ q=>by cases q) (fun q=>no q);exact ⟨⟨rfl,rfl,rfl,rfl,rfl,rfl,congrArg Nk.placed htr,congrArg (fun x:Nk=>aI 4 x.n x.g) htr,by rw[dP];rfl,fun i hi=>I8 acc (Jy t.1) _ (by rw[htr];rfl) i hi,trivial⟩,_,rfl,nx⟩
  |false=>
   have nx:=ao1 Ip hg nd hq acc hk r (j+1) (by omega) (fun t' h=>hnx t' (by
    simp_all)) (by
    simp_all)
   rw[etr] at nx;refine Ey (bY _ _) (IJ Ip _) (hold:=AX) (m:=300) (n:=400) (ts:=[⟨72,tdF,LF B M c (nd.placed:Nat) B.k0 nd.st acc.length (nth acc) (turns (Gb B) nd).length tr ((j+1:Nat):Int),TY B⟩,⟨72,tdE,LE B M c 0 0 noT 0 (nth []),TY B⟩]) ?_;refine abJ zG W7 B hs lv M c _ _ B.k0 0 nd.st noT _ _ (nth acc) _ _ tr _ ((j+1:Nat):Int) (c2:=ay) rfl rfl (by simp_all) (fun _=>inb) (fun _=>hke) (fun _ _ _=>rm) (fun _ _ q=>by cases q) (fun _ _ _=>?_) (fun _ _=>?_) (fun q=>no q)
   ·exact ⟨⟨rfl,rfl,rfl,rfl,rfl,w1,rfl,rfl,rfl,rfl,rfl,rfl,fun _ _=>rfl,trivial⟩,_,rfl,nx⟩
   ·exact ⟨⟨rfl,rfl,rfl,rfl,rfl,w1,rfl,rfl,rfl,rfl,rfl,rfl,fun _ _=>rfl,trivial⟩,_,rfl,nx⟩
def ajj(c:Int)(l:List (Int×Bool)):Sh:=.zQ [.agg [.b aC,.sl 2 (l.map Jy).length (zH (nth (l.map Jy))),.i .i64 c],.v .nilIface]
def noSh(c:Int):Sh:=.zQ [.agg [.b ay,.sl 2 0 (zH (nth ([]:List Qr))),.i .i64 c],.v .nilIface]
theorem ahs(hN:B.N<=62)(nd:Nd SG):zG.eq ((nd.placed:Nat):Int) (zG.sub .i64 (zG.bin .shl .i64 (ah 1) (zG.Aa B.N)) (ah 1))=full (Gb B) nd:=by
 have e:zG.sub .i64 (zG.bin .shl .i64 (ah 1) (zG.Aa B.N)) (ah 1)=((2^B.N - 1:Nat):Int):=aoW hN;rw[e,Ac];unfold full;rw[Bool.eq_iff_iff,beq_iff_eq];show _↔decide (nd.placed=2^(Gb B).n - 1)=aC;rw[decide_eq_true_eq];exact ⟨fun e=>jZ e,fun e=>congrArg ah e⟩
theorem ao3(nd:Nd SG):rk (Gb B) nd<=B.N:=by
 unfold rk;have:=List.countP_le_length (p:=fun i=>nd.placed.testBit i) (l:=aY (Gb B).n);rw[lY] at this;exact this
theorem ao4(Ip:zZ aA (Ar W7) 40 (D40 hs lv B))(hg:OC B Q){ld:Nd SG->Bool}(hM:∀nd,zG.IQ (M (BZ B.k0 nd))=ld nd)
  (hl:∀nd,Q nd->ld nd=aC->full (Gb B) nd=ay->∃t∈turns (Gb B) nd,ld t.2=aC) :
  ∀f (nd:Nd SG) (acc:List (Int×Bool)),Q nd->ld nd=aC->B.N<rk (Gb B) nd+f->acc.length+f<=1000->φ (ajj c (acc++least (Gb B) ld f nd))->
  Aw aA (C7 zG W7 (Ea hs lv B) zW) (K0 H0 w0) 72 tdE (LE B M c (nd.placed:Nat) B.k0 nd.st (acc.map Jy).length (nth (acc.map Jy))) (TY B) emp (up φ)
 |0,nd,acc,hq,hld,hf,hk,hφ=>by
  grind [ao3]
 |f+1,nd,acc,hq,hld,hf,hk,hφ=>by
  refine G6 (fn:=Tryz.f72) (tb:=tbE) (by kernel_rfl) (by kernel_rfl) ?_;have hN:=(hg.tu nd hq).le;have hfu:=ahs hN nd;have h0:zG.le (ah 0) (zG.Aa B.N)=aC:=by rfl
  refine Ey (bY _ _) (IJ Ip _) (hold:=AX) (m:=300) (n:=400) (ts:=[⟨72,tdF,LF B M c (nd.placed:Nat) B.k0 nd.st (acc.map Jy).length (nth (acc.map Jy)) (turns (Gb B) nd).length (nth ((turns (Gb B) nd).map (Ju B.k0))) ((0:Nat):Int),TY B⟩]) ?_;cases hfl:full (Gb B) nd with
  |true=>
   have e:least (Gb B) ld (f+1) nd=[]:=by grind [least]
   rw[e,List.append_nil] at hφ;refine abI zG W7 B hs lv M c _ B.k0 nd.st _ (nth (acc.map Jy)) _ _ (c0:=ay) (by rw[hfu,hfl];rfl) h0 (fun q=>by cases q) (fun q=>by cases q) (fun _=>?_);exact AB (s':=ajj c acc) ⟨⟨.inl rfl,.inr ⟨rfl,rfl,fun _ _=>rfl⟩,rfl,trivial⟩,rfl,trivial⟩ hφ
  |false=>
   obtain ⟨t,ht,hlt⟩:=hl nd hq hld hfl;have nx:=ao1 (φ:=φ) (c:=c) Ip hg nd hq (acc.map Jy) (by grind) (turns (Gb B) nd).length 0 (by omega) (M:=M) (fun x hx=>by
    rw[jF] at hx;have hx1:=List.mem_of_find?_eq_some hx;have hx2:ld x.2=aC:=by grind
    have hn:x.2∈next (Gb B) nd:=fC.2 ⟨x,hx1,rfl⟩;have hr:=abz _ hn;have hx':(turns (Gb B) nd).find? (fun t=>ld t.2)=ak x:=by
     simp_all
    have e:least (Gb B) ld (f+1) nd=x.1::least (Gb B) ld f x.2:=by simp_all [least]
    rw[e] at hφ;have:=ao4 Ip hg hM hl f x.2 (acc++[x.1]) (hg.step nd hq _ hn) hx2 (by omega) (by simp;omega) (by simp_all);rw[List.map_append] at this;exact this) ⟨t,by assumption,by simp_all⟩
   refine abI zG W7 B hs lv M c _ B.k0 nd.st _ (nth (acc.map Jy)) _ _ (c0:=aC) (by rw[hfu,hfl];rfl) h0 (fun _=>ae2 hg hq rfl) (fun _=>?_) (fun q=>by cases q);exact ⟨⟨rfl,rfl,rfl,by rw[TG,ae3];rfl,by rw[TG];rfl,rfl,rfl,rfl,rfl,rfl,rfl,rfl,fun _ _=>rfl,trivial⟩,_,rfl,nx⟩
theorem ao5(Ip:zZ aA (Ar W7) 40 (D40 hs lv B))(hg:OC B Q)(nd:Nd SG)(hq:Q nd){m:Nat}{od:Nat->U6}{i:Int}:
  ∀r j (is:Bool),j+r=(turns (Gb B) nd).length->
  Aw aA (C7 zG W7 (Ea hs lv B) zW) (K0 H0 w0) 71 Zx (LC B m od (KU (BZ B.k0 nd) (ak (.bool (is||((turns (Gb B) nd).drop j).any fun t=>zG.IQ (M (BZ B.k0 t.2))))) M) c (zG.sub .i64 i (ah 1))) (OB B) emp (up φ)->
  Aw aA (C7 zG W7 (Ea hs lv B) zW) (K0 H0 w0) 71 tdD (LD B m od M c i (nd.placed:Nat) B.k0 nd.st is (turns (Gb B) nd).length (nth ((turns (Gb B) nd).map (Ju B.k0))) (j:Nat)) (OB B) emp (up φ)
 |0,j,is,hj,nx=>by
  rw[kL (by omega),List.any_nil,Bool.or_false] at nx;refine G6 (fn:=qy) (tb:=tbD) (by kernel_rfl) (by kernel_rfl) ?_;have lt {P:Prop} (h:zG.lt (j:Int) (ah (turns (Gb B) nd).length)=aC):P:=by simp_all [zN]
  refine Ey (bY _ _) (IJ Ip _) (hold:=AX) (m:=300) (n:=400) (ts:=[⟨71,tdD,LD B m od M c i (nd.placed:Nat) B.k0 nd.st is (turns (Gb B) nd).length (nth ((turns (Gb B) nd).map (Ju B.k0))) 0,OB B⟩,⟨71,Zx,LC B m od (KU (BZ B.k0 nd) (ak (.bool is)) M) c (zG.sub .i64 i (ah 1)),OB B⟩]) ?_;exact abH zG W7 B hs lv M _ m od c i _ B.k0 nd.st is is _ _ j 0 _ rfl rfl rfl (fun q=>lt q) (fun q=>lt q) (fun _=>hg.ke nd hq) (fun q=>lt q) (fun q=>lt q) (fun q=>lt q)
   (fun _=>⟨⟨rfl,rfl,rfl,rfl,rfl,rfl,fun _ _=>rfl,rfl,rfl,rfl,rfl,rfl,trivial⟩,_,rfl,nx⟩)
 |r+1,j,is,hj,nx=>by
  have hjl:j<(turns (Gb B) nd).length:=by omega
  have hN:(turns (Gb B) nd).length<=124:=Yo (hg.tu nd hq).le nd;obtain ⟨t,ht⟩:∃t,(turns (Gb B) nd)[j]?=ak t:=⟨_,aV hjl⟩;have hqt:Q t.2:=hg.step nd hq _ (fC.2 ⟨t,dB ht,rfl⟩);have hd:(turns (Gb B) nd).drop j=t::(turns (Gb B) nd).drop (j+1):=by
   grind [gX,aV,dw]
  rw[hd,List.any_cons,<-Bool.or_assoc] at nx;have nx:=ao5 Ip hg nd hq r (j+1) (is||zG.IQ (M (BZ B.k0 t.2))) (by omega) nx;have htr:nth ((turns (Gb B) nd).map (Ju B.k0)) (zG.toN (j:Int))=Ju B.k0 t:=Xd _ _ ht;obtain ⟨tr,etr⟩:∃tr,nth ((turns (Gb B) nd).map (Ju B.k0))=tr:=⟨_,rfl⟩;rw[etr] at htr nx ⊢;refine G6 (fn:=qy) (tb:=tbD) (by kernel_rfl) (by kernel_rfl) ?_;have w1:zG.add .i64 (j:Int) (ah 1)=((j+1:Nat):Int):=add1 (by omega);have no {P:Prop} (h:zG.lt (j:Int) (ah (turns (Gb B) nd).length)=ay):P:=by simp_all [zN]
  have inb:zG.inB (j:Int) (turns (Gb B) nd).length=aC:=by simp[AY];omega
  have hke:Zw 4 (tr (zG.toN (j:Int))).n (tr (zG.toN (j:Int))).g=aC:=by rw[htr];exact hg.ke _ hqt
  have hM:M ((tr (zG.toN (j:Int))).placed,OA (tr (zG.toN (j:Int))).n (tr (zG.toN (j:Int))).g)=M (BZ B.k0 t.2):=by rw[htr];rfl
  refine Ey (bY _ _) (IJ Ip _) (hold:=AX) (m:=300) (n:=400) (ts:=[⟨71,tdD,LD B m od M c i (nd.placed:Nat) B.k0 nd.st (is||zG.IQ (M (BZ B.k0 t.2))) (turns (Gb B) nd).length tr ((j+1:Nat):Int),OB B⟩,⟨71,Zx,LC B m od M c 0,OB B⟩]) ?_;have fin (b:Bool) (hb:b=(is||zG.IQ (M (BZ B.k0 t.2)))):H8 aA (C7 zG W7 (Ea hs lv B) zW) (K0 H0 w0) [⟨71,tdD,LD B m od M c i (nd.placed:Nat) B.k0 nd.st (is||zG.IQ (M (BZ B.k0 t.2))) (turns (Gb B) nd).length tr ((j+1:Nat):Int),OB B⟩,⟨71,Zx,LC B m od M c 0,OB B⟩] emp (up φ) (bJ 0 [aJ 1 1,aZ (fun _=>Bo B.lv B.N B.T B.N B.ms B.k0 B.g0) fun _=>Bo B.lv B.N B.T B.N B.ms B.k0 B.g0,aJ 0 0,aj i i,oM b (is||zG.IQ (M (BZ B.k0 t.2))),aP (aI 4 (turns (Gb B) nd).length (zH tr)) (aI 4 (turns (Gb B) nd).length (zH tr)),aj (ah (turns (Gb B) nd).length) (ah (turns (Gb B) nd).length),aj (zG.add .i64 j (ah 1)) ((j+1:Nat):Int),aj (ah 0) (ah 0),aJ m m,aQ m (zH od) (zH od),iR M M,aj c c,aj (nd.placed:Nat) (nd.placed:Nat),aP (aI 4 B.k0 nd.st) (aI 4 B.k0 nd.st),aJ 1 1,aZ (fun _=>Bo B.lv B.N B.T B.N B.ms B.k0 B.g0) fun _=>Bo B.lv B.N B.T B.N B.ms B.k0 B.g0,aJ 0 0]):=
   ⟨⟨rfl,rfl,rfl,rfl,hb,rfl,rfl,w1,rfl,rfl,fun _ _=>rfl,rfl,rfl,rfl,rfl,rfl,rfl,rfl,trivial⟩,_,rfl,nx⟩
  refine abH zG W7 B hs lv M _ m od c i _ B.k0 nd.st is _ _ tr j ((j+1:Nat):Int) _ rfl rfl rfl (fun _=>inb) (fun _ _=>hke) (fun q=>no q) (fun _ q=>?_) (fun _ q q2=>?_) (fun _ q q2=>?_) (fun q=>no q)
  ·simp_all
  ·simp_all
  grind [BZ,Yp]
end
end Go.Proofs
namespace Go.Pl
open Go Go.Sx Go.Proofs Go.Gm Go.Bf
def ndQ(k0:Nat)(nd:Nd SG):Sm:=⟨(nd.placed:Nat),4,k0,nd.st⟩
noncomputable def OE(k0:Nat)(nd:Nd SG):PrQ:=⟨(nd.placed:Nat),OA k0 nd.st⟩
structure QOK(k0:Nat)(o:List (Nd SG))(i at_ q:Nat)(qr:Nat->Sm):Prop where
 le:i<=o.length
 len:q=at_+(o.length - i)
 row:∀j nd,o[i+j]?=ak nd->qr (at_+j)=ndQ k0 nd
end Go.Pl
namespace Go.Proofs
open Go Go.Sx Go.Pl Go.Gm Go.Bf
section
variable{H0:Mem}{w0:World}{φ:Sh->Prop}{B:IG}{Q:Nd SG->Prop}{hs:Sh}{lv:Int}{c:Int}
theorem aw9{r:Nat}(h:r<=100000):zG.sub .i64 (((r+1:Nat):Int) - 1) (ah 1)=(r:Int) - 1:=by
 have e:zG.sub .i64 (((r+1:Nat):Int) - 1) (ah 1)=aU.wrap (((r+1:Nat):Int) - 1 - 1):=rfl;grind [BF]
theorem ao6(Ip:zZ aA (Ar W7) 40 (D40 hs lv B))(hg:OC B Q)(o:List (Nd SG))(ho:∀x∈o,Q x)(hlen:o.length<=100000)
  (hl:∀nd,Q nd->U9 (Gb B) (BZ B.k0) o nd=aC->full (Gb B) nd=ay->∃t∈turns (Gb B) nd,U9 (Gb B) (BZ B.k0) o t.2=aC)
  (hy:Sj (Gb B) (BZ B.k0) B.g0 o=aC->φ (ajj c (Ls (Gb B) (BZ B.k0) B.g0 o))) (hn:Sj (Gb B) (BZ B.k0) B.g0 o=ay->φ (noSh c)) :
  ∀r (M:Int×List UInt8->Option Value),r<=o.length->(∀k,zG.IQ (M k)=GY (BZ B.k0) (next (Gb B)) (full (Gb B)) (o.drop r) k)->
  Aw aA (C7 zG W7 (Ea hs lv B) zW) (K0 H0 w0) 71 Zx (LC B o.length (nth (o.map (II B.k0))) M c ((r:Nat) - 1:Int)) (OB B) emp (up φ)
 |0,M,hr,hM=>by
  refine G6 (fn:=qy) (tb:=tbC) (by kernel_rfl) (by kernel_rfl) ?_;rw[jF] at hM;have ge {P:Prop} (h:zG.le (ah 0) (((0:Nat):Int) - 1)=aC):P:=by simp[Dy] at h
  have hN:=(hg.tu _ hg.start).le;have hK:M (ah 0,OA B.k0 B.g0)=M (BZ B.k0 ⟨0,B.g0⟩):=rfl;refine Ey (bY _ _) (IJ Ip _) (hold:=AX) (m:=300) (n:=400) (ts:=[⟨71,tdD,LD B o.length (nth (o.map (II B.k0))) M c (((0:Nat):Int) - 1) 0 0 noT ay 0 (nth []) 0,OB B⟩,⟨72,tdE,LE B M c 0 B.k0 B.g0 0 (nth []),TY B⟩]) ?_;refine abG zG W7 B hs lv M _ _ c _ 0 0 noT ay 0 (nth []) (nth []) rfl rfl rfl (fun q=>ge q) (fun q=>ge q) (fun q=>ge q) (fun _=>hg.ke _ hg.start) (fun q=>ge q) (fun _ _ q=>?_) (fun _ _ q=>?_) (fun _ q=>?_)
  ·have hld:Sj (Gb B) (BZ B.k0) B.g0 o=aC:=by
    rw[hK,hM] at q;exact q
   have hφ:=hy hld;have e:Ls (Gb B) (BZ B.k0) B.g0 o=least (Gb B) (U9 (Gb B) (BZ B.k0) o) ((Gb B).n+1) (lK B.g0):=if_pos hld;rw[e] at hφ;have nx:=ao4 (H0:=H0) (w0:=w0) (φ:=φ) (c:=c) (M:=M) Ip hg (ld:=U9 (Gb B) (BZ B.k0) o) (fun nd=>hM _) hl ((Gb B).n+1) (lK B.g0) [] hg.start hld (by have:(Gb B).n=B.N:=rfl;omega) (by have:(Gb B).n=B.N:=rfl;simp;omega) (by assumption);exact ⟨⟨rfl,rfl,rfl,rfl,rfl,rfl,rfl,rfl,rfl,trivial⟩,_,rfl,nx⟩
  ·refine AB (s':=noSh c) ⟨⟨.inl rfl,.inl ⟨rfl,rfl⟩,rfl,trivial⟩,rfl,trivial⟩ (hn ?_)
   rw[hK,hM] at q;exact q
  ·refine AB (s':=noSh c) ⟨⟨.inl rfl,.inl ⟨rfl,rfl⟩,rfl,trivial⟩,rfl,trivial⟩ (hn ?_)
   have q2:zG.IQ (M (BZ B.k0 ⟨0,B.g0⟩))=ay:=by
    grind [BZ,Yp]
   rw[hM] at q2;exact q2
 |r+1,M,hr,hM=>by
  obtain ⟨nd,hnd⟩:∃nd,o[r]?=ak nd:=⟨_,aV (by omega)⟩;have hq:Q nd:=ho nd (dB hnd);have hN:=(hg.tu nd hq).le;have hd:o.drop r=nd::o.drop (r+1):=by
   grind [gX,aV,dw]
  have hi:zG.toN (((r+1:Nat):Int) - 1)=r:=by rw[BL];omega
  have hod:nth (o.map (II B.k0)) (zG.toN (((r+1:Nat):Int) - 1))=II B.k0 nd:=by simp_all [Xd]
  have nx:=ao6 Ip hg o ho hlen hl hy hn r (KU (BZ B.k0 nd) (ak (.bool (full (Gb B) nd||((turns (Gb B) nd).drop 0).any fun t=>zG.IQ (M (BZ B.k0 t.2))))) M) (by omega) (fun k=>by
   have e:(next (Gb B) nd).any (fun t=>GY (BZ B.k0) (next (Gb B)) (full (Gb B)) (o.drop (r+1)) (BZ B.k0 t))=((turns (Gb B) nd).drop 0).any fun t=>zG.IQ (M (BZ B.k0 t.2)):=by
    grind [next,List.any_map]
   rw[hd,GY,e];unfold KU;by_cases h:k=BZ B.k0 nd
   ·rw[if_pos h,if_pos h.symm];rfl
   grind)
  refine G6 (fn:=qy) (tb:=tbC) (by kernel_rfl) (by kernel_rfl) ?_;obtain ⟨od,axa⟩:∃od,nth (o.map (II B.k0))=od:=⟨_,rfl⟩;rw[axa] at hod nx ⊢;have lt {P:Prop} (h:zG.le (ah 0) (((r+1:Nat):Int) - 1)=ay):P:=by simp_all [Dy]
  have hD:=ao5 (H0:=H0) (w0:=w0) (φ:=φ) (c:=c) (M:=M) (m:=o.length) (od:=od) (i:=((r+1:Nat):Int) - 1) Ip hg nd hq (turns (Gb B) nd).length 0 (full (Gb B) nd) (by omega) (by grind [aw9]);refine Ey (bY _ _) (IJ Ip _) (hold:=AX) (m:=300) (n:=400) (ts:=[⟨71,tdD,LD B o.length od M c (((r+1:Nat):Int) - 1) (nd.placed:Nat) B.k0 nd.st (full (Gb B) nd) (turns (Gb B) nd).length (nth ((turns (Gb B) nd).map (Ju B.k0))) ((0:Nat):Int),OB B⟩,⟨72,tdE,LE B M c 0 B.k0 B.g0 0 (nth []),TY B⟩]) ?_;refine abG zG W7 B hs lv M _ od c _ _ _ _ _ _ _ (nth []) rfl rfl rfl (fun _=>by grind [AY]) (fun _=>by rfl) (fun _=>by rw[hod];exact ae2 hg hq rfl) (fun q=>lt q) (fun _=>?_) (fun q=>lt q) (fun q=>lt q) (fun q=>lt q);exact ⟨⟨rfl,rfl,rfl,rfl,by rw[hod];exact ahs hN nd,by rw[hod];show aI 4 (Sl B.lv B.N (zH B.T) (zH B.ms) (nd.placed:Nat) B.k0 nd.st) (zH (tuR B.lv B.N (zH B.T) (zH B.ms) (nd.placed:Nat) B.k0 nd.st))=_;rw[TG,ae3],by rw[hod];show ((Sl B.lv B.N (zH B.T) (zH B.ms) (nd.placed:Nat) B.k0 nd.st:Nat):Int)=_;rw[TG];rfl,rfl,rfl,rfl,fun _ _=>rfl,rfl,rfl,by rw[hod];rfl,by rw[hod];rfl,rfl,rfl,rfl,trivial⟩,_,rfl,hD⟩
def ae4:Sh:=.zQ [.agg [.b ay,.sl 2 0 (fun _=>[]),.i .i64 0],.er 0 329]
theorem getM{o:List (Nd SG)}{k:Int×List UInt8}{k0:Nat}{v:Value}{nd:Nd SG}{M:Int×List UInt8->Option Value}(hM:∀k,zG.isS (M k)=Jp (BZ k0) o k):
  ∀k,zG.isS (KU (BZ k0 nd) (ak v) M k)=Jp (BZ k0) (o++[nd]) k:=fun k=>by
 unfold KU;by_cases h:k=BZ k0 nd
 ·rw[if_pos h]
  have:Jp (BZ k0) (o++[nd]) k=aC:=Np.2 ⟨nd,by simp,h.symm⟩;rw[this];rfl
 ·rw[if_neg h,hM k]
  unfold Jp;grind
theorem ao7{k0:Nat}{o:List (Nd SG)}{i at_ q:Nat}{qr:Nat->Sm}{nd:Nd SG}(h:QOK k0 o i at_ q qr):QOK k0 (o++[nd]) i at_ (q+1) (fun j=>if j<q then qr j else ndQ k0 nd):=by
 obtain ⟨h1,h2,h3⟩:=h;refine ⟨by grind,by grind,fun j x hx=>?_⟩;grind
theorem ao8(Ip:zZ aA (Ar W7) 40 (D40 hs lv B))(hg:OC B Q)(nd:Nd SG)(hq:Q nd){m:Nat}(hm:m<=65536){i:Nat}
  {P:List (Nd SG)->Prop} (hA:∀(o':List (Nd SG)) (M:Int×List UInt8->Option Value) (at_ q:Nat) (qr:Nat->Sm),P o'->QOK B.k0 o' i at_ q qr->q<=100000+o'.length->o'.length<=m->(∀k,zG.isS (M k)=Jp (BZ B.k0) o' k)->
   Aw aA (C7 zG W7 (Ea hs lv B) zW) (K0 H0 w0) 39 tdA (LA B (m:Nat) M o'.length (nth (o'.map (OE B.k0))) (at_:Nat) q qr o'.length (nth (o'.map (II B.k0)))) [] emp (up φ)) :
  ∀r j (o:List (Nd SG)) (M:Int×List UInt8->Option Value) (at_ q:Nat) (qr:Nat->Sm),j+r=(turns (Gb B) nd).length->QOK B.k0 o i at_ q qr->q<=100000+o.length->o.length<=m->(∀k,zG.isS (M k)=Jp (BZ B.k0) o k)->
   (∀o',EJ (BZ B.k0) m o (((turns (Gb B) nd).drop j).map (·.2))=ak o'->P o')->(EJ (BZ B.k0) m o (((turns (Gb B) nd).drop j).map (·.2))=aK->φ ae4)->
   Aw aA (C7 zG W7 (Ea hs lv B) zW) (K0 H0 w0) 39 tdB (LB B (m:Nat) M o.length (nth (o.map (OE B.k0))) (at_:Nat) q qr o.length (nth (o.map (II B.k0))) (turns (Gb B) nd).length (nth ((turns (Gb B) nd).map (Ju B.k0))) (j:Nat)) [] emp (up φ)
 |0,j,o,M,at_,q,qr,hj,hQ,hq2,hlo,hM,hP,_=>by
  have hP:=hP o (by rw[kL (by omega)];rfl);have nx:=hA o M at_ q qr hP hQ hq2 hlo hM;refine G6 (fn:=sU) (tb:=tbB) (by kernel_rfl) (by kernel_rfl) ?_;have lt {P:Prop} (h:zG.lt (j:Int) (ah (turns (Gb B) nd).length)=aC):P:=by simp_all [zN]
  refine Ey (bY _ _) (IJ Ip _) (hold:=AX) (m:=300) (n:=400) (ts:=[⟨39,tdB,LB B (m:Nat) M 0 (nth []) (at_:Nat) 0 (fun _=>default) 0 (nth []) (turns (Gb B) nd).length (nth ((turns (Gb B) nd).map (Ju B.k0))) 0,[]⟩,⟨39,tdA,LA B (m:Nat) M o.length (nth (o.map (OE B.k0))) (at_:Nat) q qr o.length (nth (o.map (II B.k0))),[]⟩]) ?_;exact Qq zG W7 B hs lv _ M M _ 0 _ (nth []) _ q 0 qr _ _ 0 _ (nth []) _ _ j 0 rfl rfl rfl (fun q=>lt q) (fun q=>lt q) (fun q=>lt q) (fun q=>lt q) (fun q=>lt q) (fun q=>lt q) (fun q=>lt q) (fun q=>lt q)
   (fun _=>⟨⟨rfl,rfl,rfl,rfl,rfl,rfl,rfl,rfl,rfl,fun _ _=>rfl,rfl,fun _ _=>rfl,rfl,fun _ _=>rfl,trivial⟩,_,rfl,nx⟩)
 |r+1,j,o,M,at_,q,qr,hj,hQ,hq2,hlo,hM,hP,akT=>by
  have hjl:j<(turns (Gb B) nd).length:=by omega
  have hN:(turns (Gb B) nd).length<=124:=Yo (hg.tu nd hq).le nd;obtain ⟨t,ht⟩:∃t,(turns (Gb B) nd)[j]?=ak t:=⟨_,aV hjl⟩;have hqt:Q t.2:=hg.step nd hq _ (fC.2 ⟨t,dB ht,rfl⟩);have hd:(turns (Gb B) nd).drop j=t::(turns (Gb B) nd).drop (j+1):=by
   grind [gX,aV,dw]
  rw[hd,jJ] at hP akT;have ih:=fun o' M' q' Xc (h1:Gx (BZ B.k0) m o t.2=ak o')=>ao8 Ip hg nd hq hm hA r (j+1) o' M' at_ q' Xc (by omega);refine G6 (fn:=sU) (tb:=tbB) (by kernel_rfl) (by kernel_rfl) ?_;have htr:nth ((turns (Gb B) nd).map (Ju B.k0)) (zG.toN (j:Int))=Ju B.k0 t:=Xd _ _ ht;obtain ⟨tr,etr⟩:∃tr,nth ((turns (Gb B) nd).map (Ju B.k0))=tr:=⟨_,rfl⟩;rw[etr] at htr ih ⊢;have w1:zG.add .i64 (j:Int) (ah 1)=((j+1:Nat):Int):=add1 (by omega);have no {P:Prop} (h:zG.lt (j:Int) (ah (turns (Gb B) nd).length)=ay):P:=by simp_all [zN]
  have inb:zG.inB (j:Int) (turns (Gb B) nd).length=aC:=by simp[AY];omega
  have hke:Zw 4 (tr (zG.toN (j:Int))).n (tr (zG.toN (j:Int))).g=aC:=by rw[htr];exact hg.ke _ hqt
  have hMt:M ((tr (zG.toN (j:Int))).placed,OA (tr (zG.toN (j:Int))).n (tr (zG.toN (j:Int))).g)=M (BZ B.k0 t.2):=by rw[htr];rfl
  have rmo:zG.room (zG.addN o.length 1) 32=aC:=by rw[Ee,decide_eq_true_eq,Cj];unfold maxLen;omega
  have rmc:zG.room (zG.addN o.length 1) 24=aC:=by grind [Ee]
  have rmq:zG.room (zG.addN q 1) 32=aC:=by rw[Ee,decide_eq_true_eq,Cj];unfold maxLen;omega
  cases hb:Jp (BZ B.k0) o (BZ B.k0 t.2) with
  |true=>
   have hpb:Gx (BZ B.k0) m o t.2=ak o:=if_pos hb;have nx:=ih o M q qr hpb hQ hq2 hlo hM (fun o' h=>hP o' (by simp_all [EJ])) (fun h=>akT (by simp_all [EJ]));refine Ey (bY _ _) (IJ Ip _) (hold:=AX) (m:=300) (n:=400) (ts:=[⟨39,tdB,LB B (m:Nat) M o.length (nth (o.map (OE B.k0))) (at_:Nat) q qr o.length (nth (o.map (II B.k0))) (turns (Gb B) nd).length tr ((j+1:Nat):Int),[]⟩,⟨39,tdA,LA B (m:Nat) M o.length (nth (o.map (OE B.k0))) (at_:Nat) q qr o.length (nth (o.map (II B.k0))),[]⟩]) ?_;exact Qq zG W7 B hs lv _ M M _ _ _ (nth (o.map (OE B.k0))) _ q q qr qr _ _ _ (nth (o.map (II B.k0))) _ tr j ((j+1:Nat):Int) (c1:=aC) rfl (by grind) rfl (fun _=>inb) (fun _=>hke) (fun _ q=>by cases q) (fun _ q=>by cases q) (fun _ q=>by cases q)
    (fun _ _=>⟨⟨rfl,rfl,rfl,rfl,rfl,rfl,w1,rfl,rfl,rfl,rfl,rfl,fun _ _=>rfl,rfl,fun _ _=>rfl,rfl,fun _ _=>rfl,trivial⟩,_,rfl,nx⟩) (fun _ q=>by cases q) (fun _ q=>by cases q) (fun q=>no q)
  |false=>
   have hc:zG.eq (zG.Aa o.length) ((m:Nat):Int)=decide (o.length=m):=by
    grind [Ac,Ad,decide_eq_true,decide_eq_false,beq_eq_false_iff_ne,jZ]
   by_cases hml:o.length=m
   ·refine Ey (bY _ _) (IJ Ip _) (hold:=AX) (m:=300) (n:=400) (ts:=[⟨39,tdB,LB B (m:Nat) M o.length (nth (o.map (OE B.k0))) (at_:Nat) q qr o.length (nth (o.map (II B.k0))) (turns (Gb B) nd).length tr ((j+1:Nat):Int),[]⟩,⟨39,tdA,LA B (m:Nat) M o.length (nth (o.map (OE B.k0))) (at_:Nat) q qr o.length (nth (o.map (II B.k0))),[]⟩]) ?_
    exact Qq zG W7 B hs lv _ M M _ _ _ (nth (o.map (OE B.k0))) _ q q qr qr _ _ _ (nth (o.map (II B.k0))) _ tr j ((j+1:Nat):Int) (c1:=ay) (c2:=aC) rfl (by simp_all) (by simp_all) (fun _=>inb) (fun _=>hke) (fun _ _ q=>by cases q) (fun _ _ q=>by cases q) (fun _ _ q=>by cases q)
     (fun _ q=>by cases q) (fun _ _ _=>AB (s':=ae4) ⟨⟨.inl rfl,.inl ⟨rfl,rfl⟩,rfl,trivial⟩,rfl,trivial⟩ (akT (by simp_all [EJ,Gx]))) (fun _ _ q=>by cases q) (fun q=>no q)
   ·have hpb:Gx (BZ B.k0) m o t.2=ak (o++[t.2]):=by
     grind [Gx]
    have nx:=ih (o++[t.2]) (KU (BZ B.k0 t.2) (ak (.int .i64 (zG.Aa o.length))) M) (q+1) (fun j=>if j<q then qr j else ndQ B.k0 t.2) hpb (ao7 hQ) (by grind) (by grind) (getM (k:=BZ B.k0 t.2) hM) (fun o' h=>hP o' (by simp_all [EJ])) (fun h=>akT (by simp_all [EJ]));refine Ey (bY _ _) (IJ Ip _) (hold:=AX) (m:=300) (n:=400) (ts:=[⟨39,tdB,LB B (m:Nat) (KU (BZ B.k0 t.2) (ak (.int .i64 (zG.Aa o.length))) M) (o++[t.2]).length (nth ((o++[t.2]).map (OE B.k0))) (at_:Nat) (q+1) (fun j=>if j<q then qr j else ndQ B.k0 t.2) (o++[t.2]).length (nth ((o++[t.2]).map (II B.k0))) (turns (Gb B) nd).length tr ((j+1:Nat):Int),[]⟩,⟨39,tdA,LA B (m:Nat) M o.length (nth (o.map (OE B.k0))) (at_:Nat) q qr o.length (nth (o.map (II B.k0))),[]⟩]) ?_;refine Qq zG W7 B hs lv _ M _ _ _ _ _ _ q _ qr _ _ _ (nth (o.map (II B.k0))) _ _ tr j ((j+1:Nat):Int) (c1:=ay) (c2:=ay) rfl (by grind) (by grind) (fun _=>inb) (fun _=>hke) (fun _ _ _=>rmc) (fun _ _ _=>rmq) (fun _ _ _=>rmo)
     (fun _ q=>by cases q) (fun _ _ q=>by cases q) (fun _ _ _=>?_) (fun q=>no q)
    have atf:(o++[t.2]).length=zG.addN o.length 1:=by rw[dP];rfl
    refine ⟨⟨rfl,rfl,rfl,rfl,rfl,rfl,w1,rfl,?_,rfl,rfl,atf.symm,fun i hi=>?_,rfl,fun i hi=>?_,atf.symm,fun i hi=>?_,trivial⟩,_,rfl,nx⟩
    ·show KU ((tr (zG.toN (j:Int))).placed,OA (tr (zG.toN (j:Int))).n (tr (zG.toN (j:Int))).g) _ M=_
     rw[htr];rfl
    ·have:=I8 (o.map (OE B.k0)) (OE B.k0 t.2) [aT .i64 (tr (zG.toN (j:Int))).placed,bU (OA (tr (zG.toN (j:Int))).n (tr (zG.toN (j:Int))).g)] (by rw[htr];rfl) i (by grind)
     grind
    ·rw[Ef]
     show _=Row.put (if i<q then qr i else ndQ B.k0 t.2);split
     ·rfl
     ·have:i - q=0:=by have:i<q+1:=hi;omega
      rw[this,htr];rfl
    ·have:=I8 (o.map (II B.k0)) (II B.k0 t.2) [aT .i64 (tr (zG.toN (j:Int))).placed,aI 4 (tr (zG.toN (j:Int))).n (tr (zG.toN (j:Int))).g] (by rw[htr];rfl) i (by grind)
     grind
theorem loopA(Ip:zZ aA (Ar W7) 40 (D40 hs lv B))(hg:OC B Q){m:Nat}(hm:m<=65536)
  (hC:∀o:List (Nd SG),EM (Gb B) (BZ B.k0) B.g0 m=ak o->Aw aA (C7 zG W7 (Ea hs lv B) zW) (K0 H0 w0) 71 Zx (LC B o.length (nth (o.map (II B.k0))) (fun _=>aK) (o.length:Nat) (zG.sub .i64 (zG.Aa o.length) (ah 1))) (OB B) emp (up φ)) :
  ∀f i (o:List (Nd SG)) (M:Int×List UInt8->Option Value) (at_ q:Nat) (qr:Nat->Sm),m<i+f->(∀x∈o,Q x)->QOK B.k0 o i at_ q qr->q<=100000+o.length->o.length<=m->(∀k,zG.isS (M k)=Jp (BZ B.k0) o k)->
   (∀r,Lr (BZ B.k0) (next (Gb B)) m f o i=ak r->EM (Gb B) (BZ B.k0) B.g0 m=ak r)->(Lr (BZ B.k0) (next (Gb B)) m f o i=aK->φ ae4)->
   Aw aA (C7 zG W7 (Ea hs lv B) zW) (K0 H0 w0) 39 tdA (LA B (m:Nat) M o.length (nth (o.map (OE B.k0))) (at_:Nat) q qr o.length (nth (o.map (II B.k0)))) [] emp (up φ)
 |f,i,o,M,at_,q,qr,hf,ho,hQ,hq2,hlo,hM,hr,hr0=>by
  refine G6 (fn:=sU) (tb:=tbA) (by kernel_rfl) (by kernel_rfl) ?_;have hil:=hQ.le;have hql:=hQ.len;by_cases hi:i=o.length
  ·
   have hb:Lr (BZ B.k0) (next (Gb B)) m f o i=ak o:=by
    cases f with
    |zero=>rfl |succ f=>
     grind [Lr,List.getElem?_eq_none]
   have hp:=hr o hb;have nx:=hC o hp;have hat:zG.eq (at_:Int) (zG.Aa q)=aC:=by
    simp_all [Ac,Ad]
   refine Ey (bY _ _) (IJ Ip _) (hold:=AX) (m:=300) (n:=400) (ts:=[⟨39,tdB,LB B (m:Nat) M o.length (nth (o.map (OE B.k0))) 0 0 (fun _=>default) o.length (nth (o.map (II B.k0))) 0 (nth []) 0,[]⟩,⟨71,Zx,LC B o.length (nth (o.map (II B.k0))) (fun _=>aK) (o.length:Nat) (zG.sub .i64 (zG.Aa o.length) (ah 1)),OB B⟩]) ?_;exact Vb zG W7 B hs lv _ M _ (nth (o.map (OE B.k0))) _ q qr _ (nth (o.map (II B.k0))) 0 0 (fun _=>default) 0 (nth []) _ _ _ (c0:=aC) hat rfl rfl (fun q=>by cases q) (fun q=>by cases q) (fun q=>by cases q)
    (fun _=>⟨⟨rfl,rfl,rfl,rfl,rfl,rfl,fun _ _=>rfl,rfl,rfl,rfl,rfl,rfl,trivial⟩,_,rfl,nx⟩) (fun q=>by cases q) (fun q=>by cases q) (fun q=>by cases q) (fun q=>by cases q)
  ·obtain ⟨nd,hnd⟩:∃nd,o[i]?=ak nd:=⟨_,aV (by omega)⟩
   have hq:Q nd:=ho nd (dB hnd);have hrow:=hQ.row 0 nd hnd;rw[Nat.add_zero] at hrow;have hqr:qr (zG.toN (at_:Int))=ndQ B.k0 nd:=hrow;cases f with
   |zero=>omega |succ f=>
    rw[Lr,hnd] at hr hr0;have hN:=(hg.tu nd hq).le;have inb:zG.inB (at_:Int) q=aC:=by grind [AY]
    have ne:zG.eq (at_:Int) (zG.Aa q)=ay:=by
     grind [Ac,Ad,beq_eq_false_iff_ne,jZ]
    have w1:zG.add .i64 (at_:Int) (ah 1)=((at_+1:Nat):Int):=by
     show aU.wrap ((at_:Int)+1)=_;grind [BF]
    have htu:tuB B.lv B.N (zH B.T) B.N (zH B.ms) (qr (zG.toN (at_:Int))).placed (qr (zG.toN (at_:Int))).st (qr (zG.toN (at_:Int))).n (qr (zG.toN (at_:Int))).g=aC:=by
     rw[hqr];exact ae2 hg hq rfl
    have e1:aI 4 (Sl B.lv B.N (zH B.T) (zH B.ms) (qr (zG.toN (at_:Int))).placed (qr (zG.toN (at_:Int))).n (qr (zG.toN (at_:Int))).g) (zH (tuR B.lv B.N (zH B.T) (zH B.ms) (qr (zG.toN (at_:Int))).placed (qr (zG.toN (at_:Int))).n (qr (zG.toN (at_:Int))).g))=aI 4 (turns (Gb B) nd).length (zH (nth ((turns (Gb B) nd).map (Ju B.k0)))):=by
     rw[hqr];show aI 4 (Sl B.lv B.N (zH B.T) (zH B.ms) (nd.placed:Nat) B.k0 nd.st) (zH (tuR B.lv B.N (zH B.T) (zH B.ms) (nd.placed:Nat) B.k0 nd.st))=_;rw[TG,ae3]
    have e2:zG.Aa (Sl B.lv B.N (zH B.T) (zH B.ms) (qr (zG.toN (at_:Int))).placed (qr (zG.toN (at_:Int))).n (qr (zG.toN (at_:Int))).g)=ah (turns (Gb B) nd).length:=by
     rw[hqr];show zG.Aa (Sl B.lv B.N (zH B.T) (zH B.ms) (nd.placed:Nat) B.k0 nd.st)=_;rw[TG];rfl
    have hLB:=fun (at' q':Nat) (Xc:Nat->Sm) (h:QOK B.k0 o (i+1) at' q' Xc) (h2:q'<=100000+o.length)=>
     ao8 (H0:=H0) (w0:=w0) (φ:=φ) Ip hg nd hq hm (i:=i+1) (P:=fun o'=>(∀x∈o',Q x)/\(∀r,Lr (BZ B.k0) (next (Gb B)) m f o' (i+1)=ak r->EM (Gb B) (BZ B.k0) B.g0 m=ak r)/\(Lr (BZ B.k0) (next (Gb B)) m f o' (i+1)=aK->φ ae4))
      (fun o' M' axc q'' axd hP hQ' hq' axe hM'=>loopA Ip hg hm hC f (i+1) o' M' axc q'' axd (by omega) hP.1 hQ' hq' axe hM' hP.2.1 hP.2.2)
      (turns (Gb B) nd).length 0 o M at' q' Xc (by omega) h h2 hlo hM (fun o' h=>by
       rw[jF] at h;have h:EJ (BZ B.k0) m o (next (Gb B) nd)=ak o':=h;(refine ⟨TF h ho (hg.step nd hq),fun r hb=>hr r ?_,fun hb=>hr0 ?_⟩)<;>simp_all) (fun h=>hr0 (by
       simp_all [jF,next,Gb]))
    by_cases hlast:at_+1=q
    ·have hc1:zG.eq (zG.add .i64 (at_:Int) (ah 1)) (zG.Aa q)=aC:=by grind [Ac,Ad]
     have nx:=hLB 0 0 (fun _=>default) ⟨by omega,by omega,fun j x hx=>by simp_all⟩ (by omega);refine Ey (bY _ _) (IJ Ip _) (hold:=AX) (m:=300) (n:=400) (ts:=[⟨39,tdB,LB B (m:Nat) M o.length (nth (o.map (OE B.k0))) ((0:Nat):Int) 0 (fun _=>default) o.length (nth (o.map (II B.k0))) (turns (Gb B) nd).length (nth ((turns (Gb B) nd).map (Ju B.k0))) ((0:Nat):Int),[]⟩,⟨71,Zx,LC B o.length (nth (o.map (II B.k0))) (fun _=>aK) (o.length:Nat) 0,OB B⟩]) ?_;exact Vb zG W7 B hs lv _ M _ (nth (o.map (OE B.k0))) _ q qr _ (nth (o.map (II B.k0))) _ 0 (fun _=>default) _ _ _ _ _ (c0:=ay) (c1:=aC) ne hc1 rfl (fun _=>inb) (fun _ _ _=>htu) (fun _ q=>by cases q)
      (fun q=>by cases q) (fun _ _ q=>by cases q) (fun _ _ _=>⟨⟨rfl,rfl,rfl,rfl,e1,e2,rfl,rfl,rfl,rfl,rfl,rfl,fun _ _=>rfl,rfl,rfl,fun _ _=>rfl,trivial⟩,_,rfl,nx⟩) (fun _ q=>by cases q) (fun _ q=>by cases q)
    ·have hc1:zG.eq (zG.add .i64 (at_:Int) (ah 1)) (zG.Aa q)=ay:=by
      grind [Ac,Ad,beq_eq_false_iff_ne,jZ]
     have nx:=hLB (at_+1) q (fun j=>if j=at_ then ⟨0,0,0,fun _=>[]⟩ else qr j) ⟨by omega,by omega,fun j x hx=>by
      show (if at_+1+j=at_ then _ else qr (at_+1+j))=_;rw[if_neg (by omega)];have:=hQ.row (j+1) x (by grind);grind⟩ hq2
     refine Ey (bY _ _) (IJ Ip _) (hold:=AX) (m:=300) (n:=400) (ts:=[⟨39,tdB,LB B (m:Nat) M o.length (nth (o.map (OE B.k0))) ((at_+1:Nat):Int) q (fun j=>if j=at_ then ⟨0,0,0,fun _=>[]⟩ else qr j) o.length (nth (o.map (II B.k0))) (turns (Gb B) nd).length (nth ((turns (Gb B) nd).map (Ju B.k0))) ((0:Nat):Int),[]⟩,⟨71,Zx,LC B o.length (nth (o.map (II B.k0))) (fun _=>aK) (o.length:Nat) 0,OB B⟩]) ?_;refine Vb zG W7 B hs lv _ M _ (nth (o.map (OE B.k0))) _ q qr _ (nth (o.map (II B.k0))) _ q _ _ _ _ _ _ (c0:=ay) (c1:=ay) ne hc1 rfl (fun _=>inb) (fun _ q=>by cases q) (fun _ _ _=>htu)
      (fun q=>by cases q) (fun _ q=>by cases q) (fun _ q=>by cases q) (fun _ _ q=>by cases q) (fun _ _ _=>⟨⟨rfl,rfl,rfl,rfl,e1,e2,rfl,rfl,rfl,rfl,w1,rfl,fun _ _=>rfl,rfl,fun j hj=>?_,rfl,fun _ _=>rfl,trivial⟩,_,rfl,nx⟩)
     show (if j=at_ then (zH qr j).take 0++[aT .i64 (ah 0),aI 0 0 fun _=>[]]++(zH qr j).drop (0+2) else zH qr j)=Row.put (if j=at_ then (⟨0,0,0,fun _=>[]⟩:Sm) else qr j);split
     ·rfl
     ·rfl
end
end Go.Proofs
namespace Go.Pl
open Go Go.Sx Go.Proofs
structure Sr where
 okb:Bool
 Gy:Bool
 pos:Int
 e:Nat
 n:Nat
 T:Nat->Dz
noncomputable def atg(s h:Sh):Bool:=@decide (s=h) (aX _)
def Xe(st lv:Int):Bool:=if lv=1\/lv=2 then st==3||st==2 else lv==3
def Vd(en bg:Int):Bool:=decide (0<=en)&&decide (en<bg)
def Ez(lv:Int)(n:Nat)(T:Nat->Dz):List Dz:=((aY n).map T).filter fun t=>Xe t.st lv
def NY(lv bg:Int):Nat->List Dz->Nat->Nat
 |_,[],m=>m |i,a::l,m=>NY lv bg (i+1) l (if lv≠1/\Vd a.en bg=aC then m|||1<<<i else m)
def Zy(lv:Int)(l:List Dz)(k:Nat):Int:=(NY lv (nth l k).bg 0 l 0:Nat)
noncomputable def mkP(lv:Int)(n:Nat)(T:Nat->List Sh):Bool:=okB Dz n T&&(decide (1<=lv)&&(decide (lv<=3)&&decide (n<=62)))
def mkN(lv:Int)(n:Nat)(T:Nat->List Sh):Nat:=(Ez lv n (zJ T)).length
def mkR(lv:Int)(n:Nat)(T:Nat->List Sh):Nat->Int:=Zy lv (Ez lv n (zJ T))
def nwB(n:Nat)(g:Nat->List Sh):Bool:=okB Oj n g&&(Qj n (zJ g)&&(!RP n&&Nh n (zJ g)))
def Hy(g:Nat->List Sh):Nat->List Sh:=BD (newT (zJ g))
end Go.Pl
namespace Go.Proofs
open Go Go.Sx Go.Pl
noncomputable def D20(hs:Sh)(B:Sr):List Sh->Tree Sh
 |[s]=>.need (atg s hs) (.node B.okb (.leaf (.zQ [.sl 7 B.n (zH B.T),.v .nilIface]))
   (.node B.Gy (.leaf (.zQ [.sl 0 0 (fun _=>[]),.BM 109 (.pt [.i .i64 B.pos,.er B.e 329])])) (.leaf (.zQ [.sl 0 0 (fun _=>[]),.er B.e 329]))))
 |_=>.fail
noncomputable def D73:List Sh->Tree Sh
 |[.agg l,t]=>match Row.get (α:=Dz) l,Ak t with
  |some x,ak lv=>.leaf (.b (Xe x.st lv)) |_,_=>.fail
 |_=>.fail
noncomputable def D94:List Sh->Tree Sh
 |[.agg l,.agg r]=>match Row.get (α:=Dz) l,Row.get (α:=Dz) r with
  |some x,ak y=>.leaf (.b (Vd x.en y.bg)) |_,_=>.fail
 |_=>.fail
noncomputable def D74:List Sh->Tree Sh
 |[s,t]=>match DI 7 s,Ak t with
  |some (n,T),ak lv=>.need (mkP lv n T) (.leaf (.zQ [.sl 1 (mkN lv n T) (zH (mkR lv n T)),.v .nilIface])) |_,_=>.fail
 |_=>.fail
noncomputable def D75:List Sh->Tree Sh
 |[s]=>match DI 2 s with
  |some (n,g)=>.need (nwB n g) (.leaf (.zQ [.agg [.sl 4 n (Hy g)],.v .nilIface])) |none=>.fail
 |_=>.fail
noncomputable def Qs(hs:Sh)(B:Sr):Nat->Option (List Sh->Tree Sh)
 |20=>ak (D20 hs B) |73=>ak D73 |74=>ak D74 |75=>ak D75 |_=>aK
noncomputable def Hz:Nat->Option (List Sh->Tree Sh)
 |73=>ak D73 |94=>ak D94 |_=>aK
def Zc:List It:=[bF [0,1,0,1,1,1,1,1],bZ 0,bF [1,1,1,1,1,1]]
def ao9:List It:=bF [0,0,1,0,1,1,1,1,1]::Zc
def Zd(o m:Nat)(og mg:Nat->List Sh)(lv:Int)(n:Nat)(T:Nat->Dz)(c:Nat)(cr:Nat->Dz)(i:Int):Core:=
 {tm:=FT 71 [(1,.sym .i64 lv),(2,.ptr 0 0),(6,.sh (.sl 7 n (zH T))),(8,.ptr 1 0),(26,.sh (.sl 7 n (zH T))),(27,.sym .i64 (n:Int)),(28,.sym .i64 i)],hp:=[(0,.box [.sh (.sl 2 o og),.sh (.sl 8 m mg)] 25),(1,.box [.sym .i64 lv,.gs 2,.zY,.zY] 102),(2,.own 115 7 c (zH cr))],nx:=3,lim:=L0,tc:=[]}
def Ze:List It:=[bF [0,1,0,1,1,1],bZ 0,bF [1,1,1,1]]
def apa:List It:=bF [0,0,1,0,1,1,1]::Ze
def Zf(lv:Int)(n:Nat)(T:Nat->Dz)(c:Nat)(cr:Nat->Dz)(i:Int):Core:=
 {tm:=FT 74 [(1,.sym .i64 lv),(6,.gs 0),(21,.sh (.sl 7 n (zH T))),(22,.sym .i64 (n:Int)),(23,.sym .i64 i)],hp:=[(0,.own 115 7 c (zH cr))],nx:=1,lim:=L0,tc:=[]}
def KP:List It:=[bF [0,1,0,1,1,1,1,1,1],bZ 2,bF [1,1,1,1,1,1,1]]
def ajn:List It:=bF [0,0,1,0,1,1,1,1,1,1]::KP
def QL(lv:Int)(c:Nat)(cr:Nat->Dz)(n:Nat)(o:Nat->Int)(k:Int):Core:=
 {tm:=FT 74 [(1,.sym .i64 lv),(6,.gs 0),(9,.gs 1),(42,.gs 0),(43,.sym .i64 (c:Int)),(44,.sym .i64 k)],hp:=[(0,.own 115 7 c (zH cr)),(1,.own 3 1 n (zH o))],nx:=2,lim:=L0,tc:=[]}
def OG:List It:=[bF [0,1,1,0,0,1,1,0,0,1,0,1,1,1,1,1,1],bZ 4,bZ 3,bF [1,1,1,0,0,1,0,1,1,1,1,1,1],bF [0,1,0,1,1,1,1,1,1],bZ 2,bF [1,1,1,1,1,1,1]]
def ajo:List It:=bF [0,0,1,1,0,0,1,1,0,0,1,0,1,1,1,1,1,1]::OG
def Uh(lv:Int)(c:Nat)(cr:Nat->Dz)(n:Nat)(o:Nat->Int)(k:Int)(b:Dz)(i:Int):Core:=
 {tm:=FT 74 [(1,.sym .i64 lv),(6,.gs 0),(9,.gs 1),(10,.sym .i64 k),(11,.ptr 2 0),(42,.gs 0),(43,.sym .i64 (c:Int)),(44,.sym .i64 k),(49,.gs 0),(50,.sym .i64 (c:Int)),(51,.sym .i64 i)],hp:=[(0,.own 115 7 c (zH cr)),(1,.own 3 1 n (zH o)),(2,.box [.sym .i64 b.id,.sym .i64 b.th,.sym .i64 b.st,.sym .i64 b.bg,.sym .i64 b.en,.sym .i64 b.tr,.sh (.sl 8 b.k b.g)] 115)],nx:=3,lim:=L0,tc:=[]}
theorem ajp(A:Prim)(W:Wd)(B:Sr)(lv:Int)(o m:Nat)(og mg:Nat->List Sh)(cr:Nat->Dz)(i':Int){ψ:DF->Prop}{c0 c1 c2:Bool}(e0:B.okb=c0)(e1:A.lt (ah 12) (A.Aa B.n)=c1)(e2:B.Gy=c2)(h1:(atg (bP [aI 2 o og,aI 8 m mg]) (bP [aI 2 o og,aI 8 m mg]))=aC)(y1:c0=aC->c1=aC->ψ (aS (bT [iW (fG aK),aW 1 329])))(y2:c0=aC->c1=ay->ψ (bJ 0 [aj lv lv,aP (aI 7 B.n (zH B.T)) (aI 7 B.n (zH B.T)),aP (aI 7 B.n (zH B.T)) (aI 7 B.n (zH B.T)),aj (A.Aa B.n) (ah B.n),aj (ah 0) i',aP (aI 2 o og) (aI 2 o og),aP (aI 8 m mg) (aI 8 m mg),aj lv lv,aJ 0 0]))(y3:c0=ay->c2=aC->ψ (aS (bT [iW (fG aK),Sh.BM 109 (Sh.pt [aT .i64 B.pos,aW B.e 329])])))(y4:c0=ay->c2=ay->ψ (aS (bT [iW (fG aK),aW B.e 329]))):CQ ψ (AA (C7 A W (Qs (.agg [.sl 2 o og,.sl 8 m mg]) B) zW) AX 300 400 40 [.code []] (zL 71 [.agg [.sl 2 o og,.sl 8 m mg],.i .i64 lv] L0) [] [⟨40,Zc,Zd o m og mg lv B.n B.T 0 cr i',[]⟩]):=by
 subst e0 e1 e2;exact EI (an h1 (an (fun q0=>an (y1 q0) (y2 q0)) (fun q0=>an (y3 q0) (y4 q0)))) (by kernel_rfl)
theorem Ve(A:Prim)(W:Wd)(hs:Sh)(B:Sr)(lv:Int)(o m:Nat)(og mg:Nat->List Sh)(n:Nat)(T:Nat->Dz)(c c':Nat)(cr TW:Nat->Dz)(i i':Int){ψ:DF->Prop}{c0 c1:Bool}(e0:A.lt i (ah n)=c0)(e1:Xe (T (A.toN i)).st lv=c1)(h1:c0=aC->(A.inB i n)=aC)(h2:c0=aC->c1=aC->(A.room (A.addN c 1) 72)=aC)(h3:c0=ay->(mkP lv n (zH T))=aC)(h4:c0=ay->(nwB o og)=aC)(y1:c0=aC->c1=aC->ψ (bJ 0 [aj lv lv,aP (aI 7 n (zH T)) (aI 7 n (zH T)),aP (aI 7 n (zH T)) (aI 7 n (zH T)),aj (ah n) (ah n),aj (A.add .i64 i (ah 1)) i',aP (aI 2 o og) (aI 2 o og),aP (aI 8 m mg) (aI 8 m mg),aj lv lv,aJ (A.addN c 1) c',aQ (A.addN c 1) (A.snoc (zH cr) c (Af [[aT .i64 (T (A.toN i)).id,aT .i64 (T (A.toN i)).th,aT .i64 (T (A.toN i)).st,aT .i64 (T (A.toN i)).bg,aT .i64 (T (A.toN i)).en,aT .i64 (T (A.toN i)).tr,aI 8 (T (A.toN i)).k (T (A.toN i)).g]])) (zH TW)]))(y2:c0=aC->c1=ay->ψ (bJ 0 [aj lv lv,aP (aI 7 n (zH T)) (aI 7 n (zH T)),aP (aI 7 n (zH T)) (aI 7 n (zH T)),aj (ah n) (ah n),aj (A.add .i64 i (ah 1)) i',aP (aI 2 o og) (aI 2 o og),aP (aI 8 m mg) (aI 8 m mg),aj lv lv,aJ c c',aQ c (zH cr) (zH TW)]))(y3:c0=ay->ψ (aS (bT [Sh.pt [aT .i64 lv,aI 7 c (zH cr),aI 1 (mkN lv n (zH T)) (zH (mkR lv n (zH T))),aI 4 o (Hy og)],iW bG]))):CQ ψ (AA (C7 A W (Qs hs B) zW) AX 300 400 40 ao9 (Zd o m og mg lv n T c cr i) [] [⟨40,Zc,Zd o m og mg lv n T c' TW i',[]⟩]):=by
 subst e0 e1;exact ahi (by kernel_rfl) (an (fun q0=>an (h1 q0) (an (fun q1=>an (h2 q0 q1) (an (h2 q0 q1) (y1 q0 q1))) (y2 q0))) (fun q0=>an (h3 q0) (an (h4 q0) (y3 q0)))) (by kernel_rfl)
theorem ajq(A:Prim)(W:Wd)(lv:Int)(n:Nat)(T:Nat->Dz)(TW:Nat->Dz)(i':Int){ψ:DF->Prop}{c0 c1:Bool}(e0:A.lt lv (ah 1)=c0)(e1:A.lt (ah 3) lv=c1)(y1:c0=aC->ψ (aS (bT [aI 0 0 fun _=>[],aW 2 329])))(y2:c0=ay->c1=aC->ψ (aS (bT [aI 0 0 fun _=>[],aW 2 329])))(y3:c0=ay->c1=ay->ψ (bJ 0 [aj lv lv,aP (aI 7 n (zH T)) (aI 7 n (zH T)),aj (A.Aa n) (ah n),aj (ah 0) i',aJ 0 0])):CQ ψ (AA (C7 A W Hz zW) AX 300 400 74 [.code []] (zL 74 [.sl 7 n (zH T),.i .i64 lv] L0) [] [⟨74,Ze,Zf lv n T 0 TW i',[]⟩]):=by
 subst e0 e1;exact EI (an y1 (fun q0=>an (y2 q0) (y3 q0))) (by kernel_rfl)
theorem Vf(A:Prim)(W:Wd)(lv:Int)(n:Nat)(T:Nat->Dz)(c c':Nat)(cr TW:Nat->Dz)(i i':Int)(m':Nat)(o':Nat->Int){ψ:DF->Prop}{c0 c1 c2:Bool}(e0:A.lt i (ah n)=c0)(e1:Xe (T (A.toN i)).st lv=c1)(e2:A.lt (ah 62) (A.Aa c)=c2)(h1:c0=aC->(A.inB i n)=aC)(h2:c0=aC->c1=aC->(A.room (A.addN c 1) 72)=aC)(h3:c0=ay->c2=ay->(A.le (ah 0) (A.Aa c))=aC)(h4:c0=ay->c2=ay->(A.room (A.toN (A.Aa c)) 8)=aC)(y1:c0=aC->c1=aC->ψ (bJ 0 [aj lv lv,aP (aI 7 n (zH T)) (aI 7 n (zH T)),aj (ah n) (ah n),aj (A.add .i64 i (ah 1)) i',aJ (A.addN c 1) c',aQ (A.addN c 1) (A.snoc (zH cr) c (Af [[aT .i64 (T (A.toN i)).id,aT .i64 (T (A.toN i)).th,aT .i64 (T (A.toN i)).st,aT .i64 (T (A.toN i)).bg,aT .i64 (T (A.toN i)).en,aT .i64 (T (A.toN i)).tr,aI 8 (T (A.toN i)).k (T (A.toN i)).g]])) (zH TW)]))(y2:c0=aC->c1=ay->ψ (bJ 0 [aj lv lv,aP (aI 7 n (zH T)) (aI 7 n (zH T)),aj (ah n) (ah n),aj (A.add .i64 i (ah 1)) i',aJ c c',aQ c (zH cr) (zH TW)]))(y3:c0=ay->c2=aC->ψ (aS (bT [aI 0 0 fun _=>[],aW 1 329])))(y4:c0=ay->c2=ay->ψ (bJ 1 [aj lv lv,aj (A.Aa c) (ah c),aj (ah 0) (ah 0),aJ c c,aQ c (zH cr) (zH cr),aJ (A.toN (A.Aa c)) m',aQ (A.toN (A.Aa c)) (fun (x:Nat)=>[aT .i64 (ah 0)]) (zH o')])):CQ ψ (AA (C7 A W Hz zW) AX 300 400 74 apa (Zf lv n T c cr i) [] [⟨74,Ze,Zf lv n T c' TW i',[]⟩,⟨74,KP,QL lv c cr m' o' 0,[]⟩]):=by
 subst e0 e1 e2;exact EI (an (fun q0=>an (h1 q0) (an (fun q1=>an (h2 q0 q1) (y1 q0 q1)) (y2 q0))) (fun q0=>an (y3 q0) (fun q1=>an (h3 q0 q1) (an (h4 q0 q1) (y4 q0 q1))))) (by kernel_rfl)
theorem abK(A:Prim)(W:Wd)(lv:Int)(c:Nat)(cr:Nat->Dz)(n:Nat)(o:Nat->Int)(k:Int)(b:Dz){ψ:DF->Prop}{c0:Bool}(e0:A.lt k (ah c)=c0)(h1:c0=aC->(A.inB k c)=aC)(y1:c0=aC->ψ (bJ 0 [aj lv lv,aj k k,aj (ah c) (ah c),aj k k,aj (A.Aa c) (ah c),aj (ah 0) (ah 0),aJ c c,aQ c (zH cr) (zH cr),aJ n n,aQ n (zH o) (zH o),aj (cr (A.toN k)).id b.id,aj (cr (A.toN k)).th b.th,aj (cr (A.toN k)).st b.st,aj (cr (A.toN k)).bg b.bg,aj (cr (A.toN k)).en b.en,aj (cr (A.toN k)).tr b.tr,aP (aI 8 (cr (A.toN k)).k (cr (A.toN k)).g) (aI 8 b.k b.g)]))(y2:c0=ay->ψ (aS (bT [iK 3 1 n (zH o),iW bG]))):CQ ψ (AA (C7 A W Hz zW) AX 300 400 74 ajn (QL lv c cr n o k) [] [⟨74,OG,Uh lv c cr n o k b 0,[]⟩]):=by
 subst e0;exact EI (an (fun q0=>an (h1 q0) (y1 q0)) y2) (by kernel_rfl)
theorem Vg(A:Prim)(W:Wd)(lv:Int)(c:Nat)(cr:Nat->Dz)(n:Nat)(o o':Nat->Int)(k k':Int)(b:Dz)(i i':Int){ψ:DF->Prop}{c0 c1 c2:Bool}(e0:A.lt i (ah c)=c0)(e1:A.nt (A.eq lv (ah 1))=c1)(e2:Vd (cr (A.toN i)).en b.bg=c2)(h1:c0=aC->(A.inB i c)=aC)(h2:c0=aC->c1=aC->c2=aC->(A.inB k n)=aC)(h3:c0=aC->c1=aC->c2=aC->(A.le (ah 0) i)=aC)(y1:c0=aC->c1=aC->c2=aC->ψ (bJ 0 [aj lv lv,aj k k,aj (ah c) (ah c),aj k k,aj (ah c) (ah c),aj (A.add .i64 i (ah 1)) i',aJ c c,aQ c (zH cr) (zH cr),aJ n n,aQ n (A.upd (zH o) (A.toN k) 0 [aT .i64 (A.bin BinOp.or aU (o (A.toN k)) (A.bin fZ aU (ah 1) i))]) (zH o'),aj b.id b.id,aj b.th b.th,aj b.st b.st,aj b.bg b.bg,aj b.en b.en,aj b.tr b.tr,aP (aI 8 b.k b.g) (aI 8 b.k b.g)]))(y2:c0=aC->c1=aC->c2=ay->ψ (bJ 0 [aj lv lv,aj k k,aj (ah c) (ah c),aj k k,aj (ah c) (ah c),aj (A.add .i64 i (ah 1)) i',aJ c c,aQ c (zH cr) (zH cr),aJ n n,aQ n (zH o) (zH o'),aj b.id b.id,aj b.th b.th,aj b.st b.st,aj b.bg b.bg,aj b.en b.en,aj b.tr b.tr,aP (aI 8 b.k b.g) (aI 8 b.k b.g)]))(y3:c0=aC->c1=ay->ψ (bJ 0 [aj lv lv,aj k k,aj (ah c) (ah c),aj k k,aj (ah c) (ah c),aj (A.add .i64 i (ah 1)) i',aJ c c,aQ c (zH cr) (zH cr),aJ n n,aQ n (zH o) (zH o'),aj b.id b.id,aj b.th b.th,aj b.st b.st,aj b.bg b.bg,aj b.en b.en,aj b.tr b.tr,aP (aI 8 b.k b.g) (aI 8 b.k b.g)]))(y4:c0=ay->ψ (bJ 1 [aj lv lv,aj (ah c) (ah c),aj (A.add .i64 k (ah 1)) k',aJ c c,aQ c (zH cr) (zH cr),aJ n n,aQ n (zH o) (zH o)])):CQ ψ (AA (C7 A W Hz zW) AX 300 400 74 ajo (Uh lv c cr n o k b i) [] [⟨74,OG,Uh lv c cr n o' k b i',[]⟩,⟨74,KP,QL lv c cr n o k',[]⟩]):=by
 subst e0 e1 e2;exact EI (an (fun q0=>an (h1 q0) (an (fun q1=>an (fun q2=>an (h2 q0 q1 q2) (an (h3 q0 q1 q2) (an (h2 q0 q1 q2) (y1 q0 q1 q2)))) (y2 q0 q1)) (y3 q0))) y4) (by kernel_rfl)
theorem ajr(A:Prim)(W:Wd)(t:Dz)(lv:Int){ψ:DF->Prop}{c0 c1 c2:Bool}(e0:A.eq lv (ah 1)=c0)(e1:A.eq t.st (ah 3)=c1)(e2:A.eq lv (ah 2)=c2)(y1:c0=aC->c1=aC->ψ (aS (gG aC)))(y2:c0=aC->c1=ay->ψ (aS (gG (A.eq t.st (ah 2)))))(y3:c0=ay->c2=aC->c1=aC->ψ (aS (gG aC)))(y4:c0=ay->c2=aC->c1=ay->ψ (aS (gG (A.eq t.st (ah 2)))))(y5:c0=ay->c2=ay->ψ (aS (gG (A.eq lv (ah 3))))):CQ ψ (AA (C7 A W noSpec zW) AX 300 400 73 [.code []] (zL 19 [.agg [.i .i64 t.id,.i .i64 t.th,.i .i64 t.st,.i .i64 t.bg,.i .i64 t.en,.i .i64 t.tr,.sl 8 t.k t.g],.i .i64 lv] L0) [] []):=by
 subst e0 e1 e2;exact EI (an (fun q0=>an (y1 q0) (y2 q0)) (fun q0=>an (fun q1=>an (y3 q0 q1) (y4 q0 q1)) (y5 q0))) (by kernel_rfl)
theorem ajs(A:Prim)(W:Wd)(t u:Dz){ψ:DF->Prop}{c0:Bool}(e0:A.le (ah 0) t.en=c0)(y1:c0=aC->ψ (aS (gG (A.lt t.en u.bg))))(y2:c0=ay->ψ (aS (gG ay))):CQ ψ (AA (C7 A W noSpec zW) AX 300 400 94 [.code []] (zL 15 [.agg [.i .i64 t.id,.i .i64 t.th,.i .i64 t.st,.i .i64 t.bg,.i .i64 t.en,.i .i64 t.tr,.sl 8 t.k t.g],.agg [.i .i64 u.id,.i .i64 u.th,.i .i64 u.st,.i .i64 u.bg,.i .i64 u.en,.i .i64 u.tr,.sl 8 u.k u.g]] L0) [] []):=by
 subst e0;exact EI (an y1 y2) (by kernel_rfl)
end Go.Proofs
namespace Go.Pl
open Go Go.Sx Go.Proofs
def ctF(lv:Int)(T:Nat->Dz)(i r:Nat):List Dz:=((aY r).map fun j=>T (i+j)).filter fun t=>Xe t.st lv
theorem adH(lv:Int)(T:Nat->Dz)(i r:Nat):ctF lv T i (r+1)=(if Xe (T i).st lv=aC then [T i] else [])++ctF lv T (i+1) r:=by
 unfold ctF;rw[List.range_succ_eq_map,jJ,List.map_map,List.filter_cons];have:((fun j=>T (i+j)) ∘ Nat.succ)=fun j=>T (i+1+j):=by
  grind
 grind
theorem ahu(lv:Int)(T:Nat->Dz)(n:Nat):ctF lv T 0 n=Ez lv n T:=by
 unfold ctF Ez;simp
theorem akU(lv:Int)(n:Nat)(T:Nat->Dz):(Ez lv n T).length<=n:=by
 grind [Ez,List.length_filter_le,Xe,aY,iy,lY]
theorem ahv{lv bg:Int}:∀(l:List Dz) (i m N:Nat),m<2^N->i+l.length<=N->NY lv bg i l m<2^N
 |[],i,m,N,h,_=>h |a::l,i,m,N,h,hl=>by
  rw[NY];refine ahv l (i+1) _ N ?_ (by grind);split
  ·refine nX h ?_
   rw[kV,oH];exact iE (by decide) (by grind)
  ·exact h
end Go.Pl
namespace Go.Proofs
open Go Go.Sx Go.Pl
section
variable{H0:Mem}{w0:World}{φ:Sh->Prop}
theorem Qu(Fz:zZ aA (Ar W7) 73 D73)(FU:zZ aA (Ar W7) 94 D94)(stop:Nat->List Nat->Bool):AU aA (C7 zG W7 Hz stop):=kS (fun g F h=>by
 unfold Hz at h;grind) fun g h=>by
 unfold Hz at h;split at h;all_goals first|(cases h;done) |kernel_rfl
theorem apb{o:Nat->Int}{k:Nat}{v:Int}:∀j,zG.upd (zH o) k 0 [aT .i64 v] j=zH (fun j=>if j=k then v else o j) j:=fun j=>by
 show (if j=k then (zH o j).take 0++[aT .i64 v]++(zH o j).drop (0+1) else zH o j)=Row.put (if j=k then v else o j);split
 ·rfl
 ·rfl
variable{lv:Int}{l:List Dz}
theorem ahw(Fz:zZ aA (Ar W7) 73 D73)(FU:zZ aA (Ar W7) 94 D94)(hl:l.length<=62){k:Nat}(hk:k<l.length){b:Dz}:
  ∀r i (o:Nat->Int) (m:Nat),i+r=l.length->o k=(m:Nat)->m<2^62->
  (Aw aA (C7 zG W7 Hz zW) (K0 H0 w0) 74 KP (QL lv l.length (nth l) l.length (fun j=>if j=k then (NY lv b.bg i (l.drop i) m:Nat) else o j) ((k+1:Nat):Int)) [] emp (up φ))->
  Aw aA (C7 zG W7 Hz zW) (K0 H0 w0) 74 OG (Uh lv l.length (nth l) l.length o (k:Nat) b (i:Nat)) [] emp (up φ)
 |0,i,o,m,hi,ho,hm,nx=>by
  refine G6 (fn:=ku) (tb:=ajo) (by kernel_rfl) (by kernel_rfl) ?_;have lt {P:Prop} (h:zG.lt (i:Int) (ah l.length)=aC):P:=by simp_all [zN]
  have w1:zG.add .i64 (k:Int) (ah 1)=((k+1:Nat):Int):=add1 (by omega);have e:(fun j=>if j=k then ((NY lv b.bg i (l.drop i) m:Nat):Int) else o j)=o:=by
   grind [kL,NY]
  rw[e] at nx;refine Ey (bY _ _) (Qu Fz FU _) (hold:=AX) (m:=300) (n:=400) (ts:=[⟨74,OG,Uh lv l.length (nth l) l.length o (k:Nat) b 0,[]⟩,⟨74,KP,QL lv l.length (nth l) l.length o ((k+1:Nat):Int),[]⟩]) ?_;exact Vg zG W7 lv _ (nth l) _ o o k _ b i 0 rfl rfl rfl (fun q=>lt q) (fun q=>lt q) (fun q=>lt q) (fun q=>lt q) (fun q=>lt q) (fun q=>lt q)
   (fun _=>⟨⟨rfl,rfl,w1,rfl,fun _ _=>rfl,rfl,fun _ _=>rfl,trivial⟩,_,rfl,nx⟩)
 |r+1,i,o,m,hi,ho,hm,nx=>by
  obtain ⟨a,ha⟩:∃a,l[i]?=ak a:=⟨_,aV (by omega)⟩;have hd:l.drop i=a::l.drop (i+1):=by
   grind [gX,aV,dw]
  have hna:nth l (zG.toN (i:Int))=a:=by
   show nth l i=a;simp_all [nth,bQ]
  rw[hd,NY] at nx;refine G6 (fn:=ku) (tb:=ajo) (by kernel_rfl) (by kernel_rfl) ?_;have w1:zG.add .i64 (i:Int) (ah 1)=((i+1:Nat):Int):=add1 (by omega);have no {P:Prop} (h:zG.lt (i:Int) (ah l.length)=ay):P:=by simp_all [zN]
  have inb:zG.inB (i:Int) l.length=aC:=by grind [AY]
  have ath:zG.inB (k:Int) l.length=aC:=by simp_all [AY]
  have le0:zG.le (ah 0) (i:Int)=aC:=by rfl
  have hc1:zG.nt (zG.eq lv (ah 1))=decide (lv≠1):=by
   grind [Bh,Ac,decide_eq_true,beq_eq_false_iff_ne]
  have step (m':Nat) (hm':m'<2^62) (o':Nat->Int) (h1:o'=fun j=>if j=k then (m':Int) else o j)
    (h2:(if lv≠1/\Vd a.en b.bg=aC then m|||1<<<i else m)=m'):=ahw Fz FU hl hk r (i+1) o' m' (by omega) (by rw[h1];simp) hm' (b:=b) (by
     simp_all)
  have same:(fun j=>if j=k then ((m:Nat):Int) else o j)=o:=by
   grind
  by_cases hc:lv≠1/\Vd a.en b.bg=aC
  ·have st:=step (m|||1<<<i) (nX hm (by rw[kV,oH];exact iE (by decide) (by omega))) _ rfl (if_pos hc)
   refine Ey (bY _ _) (Qu Fz FU _) (hold:=AX) (m:=300) (n:=400) (ts:=[⟨74,OG,Uh lv l.length (nth l) l.length (fun j=>if j=k then ((m|||1<<<i:Nat):Int) else o j) (k:Nat) b ((i+1:Nat):Int),[]⟩,⟨74,KP,QL lv l.length (nth l) l.length o 0,[]⟩]) ?_;refine Vg zG W7 lv _ (nth l) _ o _ k _ b i _ (c1:=aC) (c2:=aC) rfl (by simp_all) (by simp_all) (fun _=>inb) (fun _ _ _=>ath) (fun _ _ _=>le0)
    (fun _ _ _=>⟨⟨rfl,rfl,rfl,rfl,rfl,w1,rfl,fun _ _=>rfl,rfl,fun j hj=>?_,rfl,rfl,rfl,rfl,rfl,rfl,rfl,trivial⟩,_,rfl,st⟩) (fun _ _ q=>by cases q) (fun _ q=>by cases q) (fun q=>no q)
   have e:zG.bin .or .i64 (o (zG.toN (k:Int))) (zG.bin .shl .i64 (ah 1) (i:Int))=((m|||1<<<i:Nat):Int):=by
    show zG.bin .or .i64 (o k) _=_;grind [or_eq]
   rw[e];exact apb j
  ·have st:=step m hm o same.symm (if_neg hc)
   refine Ey (bY _ _) (Qu Fz FU _) (hold:=AX) (m:=300) (n:=400) (ts:=[⟨74,OG,Uh lv l.length (nth l) l.length o (k:Nat) b ((i+1:Nat):Int),[]⟩,⟨74,KP,QL lv l.length (nth l) l.length o 0,[]⟩]) ?_;have fin:=(⟨⟨rfl,rfl,rfl,rfl,rfl,w1,rfl,fun _ _=>rfl,rfl,fun _ _=>rfl,rfl,rfl,rfl,rfl,rfl,rfl,rfl,trivial⟩,_,rfl,st⟩:H8 aA (C7 zG W7 Hz zW) (K0 H0 w0) [⟨74,OG,Uh lv l.length (nth l) l.length o (k:Nat) b ((i+1:Nat):Int),[]⟩,⟨74,KP,QL lv l.length (nth l) l.length o 0,[]⟩] emp (up φ) (bJ 0 [aj lv lv,aj k k,aj (ah l.length) (ah l.length),aj k k,aj (ah l.length) (ah l.length),aj (zG.add .i64 i (ah 1)) ((i+1:Nat):Int),aJ l.length l.length,aQ l.length (zH (nth l)) (zH (nth l)),aJ l.length l.length,aQ l.length (zH o) (zH o),aj b.id b.id,aj b.th b.th,aj b.st b.st,aj b.bg b.bg,aj b.en b.en,aj b.tr b.tr,aP (aI 8 b.k b.g) (aI 8 b.k b.g)]));exact Vg zG W7 lv _ (nth l) _ o _ k _ b i _ rfl rfl rfl (fun _=>inb) (fun _ _ _=>ath) (fun _ _ _=>le0)
    (fun _ q1 q2=>(hc ⟨of_decide_eq_true (hc1.symm.trans q1),by simp_all⟩).elim) (fun _ _ _=>fin) (fun _ _=>fin) (fun q=>no q)
theorem ahx(Fz:zZ aA (Ar W7) 73 D73)(FU:zZ aA (Ar W7) 94 D94)(hl:l.length<=62)(hφ:φ (.zQ [.sl 1 l.length (zH (Zy lv l)),.v .nilIface])):
  ∀r k (o:Nat->Int),k+r=l.length->(∀j,j<k->o j=Zy lv l j)->(∀j,k<=j->o j=0)->
  Aw aA (C7 zG W7 Hz zW) (K0 H0 w0) 74 KP (QL lv l.length (nth l) l.length o (k:Nat)) [] emp (up φ)
 |0,k,o,hk,ho,ho2=>by
  refine G6 (fn:=ku) (tb:=ajn) (by kernel_rfl) (by kernel_rfl) ?_;have lt {P:Prop} (h:zG.lt (k:Int) (ah l.length)=aC):P:=by simp_all [zN]
  refine Ey (bY _ _) (Qu Fz FU _) (hold:=AX) (m:=300) (n:=400) (ts:=[⟨74,OG,Uh lv l.length (nth l) l.length o (k:Nat) default 0,[]⟩]) ?_;refine abK zG W7 lv _ (nth l) _ o k default rfl (fun q=>lt q) (fun q=>lt q) (fun _=>?_);refine AB (s':=.zQ [.sl 1 l.length (zH (Zy lv l)),.v .nilIface]) ⟨.inr ⟨rfl,rfl,fun j hj=>?_⟩,rfl,trivial⟩ hφ;show Row.put (o j)=Row.put (Zy lv l j);simp_all
 |r+1,k,o,hk,ho,ho2=>by
  refine G6 (fn:=ku) (tb:=ajn) (by kernel_rfl) (by kernel_rfl) ?_;have no {P:Prop} (h:zG.lt (k:Int) (ah l.length)=ay):P:=by grind [zN]
  have inb:zG.inB (k:Int) l.length=aC:=by grind [AY]
  have st:=ahw (H0:=H0) (w0:=w0) (φ:=φ) (lv:=lv) Fz FU hl (k:=k) (by omega) (b:=nth l k) l.length 0 o 0 (by omega) (ho2 k (Nat.le_refl _)) (by decide)
   (ahx Fz FU hl hφ r (k+1) _ (by omega) (fun j hj=>by
    show (if j=k then ((NY lv (nth l k).bg 0 (l.drop 0) 0:Nat):Int) else o j)=_;split
    ·rename_i h;subst h;rfl
    grind) (fun j hj=>by
    grind))
  refine Ey (bY _ _) (Qu Fz FU _) (hold:=AX) (m:=300) (n:=400) (ts:=[⟨74,OG,Uh lv l.length (nth l) l.length o (k:Nat) (nth l k) ((0:Nat):Int),[]⟩]) ?_;exact abK zG W7 lv _ (nth l) _ o k (nth l k) rfl (fun _=>inb) (fun _=>⟨⟨rfl,rfl,rfl,rfl,rfl,rfl,rfl,fun _ _=>rfl,rfl,fun _ _=>rfl,rfl,rfl,rfl,rfl,rfl,rfl,rfl,trivial⟩,_,rfl,st⟩) (fun q=>no q)
theorem abL{n:Nat}{T:Nat->Dz}(Fz:zZ aA (Ar W7) 73 D73)(FU:zZ aA (Ar W7) 94 D94)(hn:n<=62)(hφ:φ (.zQ [.sl 1 (Ez lv n T).length (zH (Zy lv (Ez lv n T))),.v .nilIface])):
  ∀r i (acc:List Dz),i+r=n->acc.length<=i->acc++ctF lv T i r=Ez lv n T->
  Aw aA (C7 zG W7 Hz zW) (K0 H0 w0) 74 Ze (Zf lv n T acc.length (nth acc) (i:Nat)) [] emp (up φ)
 |0,i,acc,hi,hl,he=>by
  have he:acc=Ez lv n T:=by
   rw[<-he];show acc=acc++[];simp
  refine G6 (fn:=ku) (tb:=apa) (by kernel_rfl) (by kernel_rfl) ?_;have lt {P:Prop} (h:zG.lt (i:Int) (ah n)=aC):P:=by simp_all [zN]
  have c2 {P:Prop} (h:zG.lt (ah 62) (zG.Aa acc.length)=aC):P:=by grind [zN,Ad]
  have st:=ahx (H0:=H0) (w0:=w0) (φ:=φ) (lv:=lv) (l:=acc) Fz FU (by omega) (by simp_all) acc.length 0 (fun _=>0) (by omega) (fun j hj=>by omega) (fun j _=>rfl);refine Ey (bY _ _) (Qu Fz FU _) (hold:=AX) (m:=300) (n:=400) (ts:=[⟨74,Ze,Zf lv n T acc.length (nth acc) 0,[]⟩,⟨74,KP,QL lv acc.length (nth acc) acc.length (fun _=>0) ((0:Nat):Int),[]⟩]) ?_;refine Vf zG W7 lv n T _ _ (nth acc) _ i 0 acc.length (fun _=>0) rfl rfl rfl (fun q=>lt q) (fun q=>lt q) (fun _ _=>by rfl) (fun _ _=>?_) (fun q=>lt q) (fun q=>lt q) (fun _ q=>c2 q)
   (fun _ _=>⟨⟨rfl,rfl,rfl,rfl,fun _ _=>rfl,rfl,fun _ _=>rfl,trivial⟩,_,rfl,st⟩)
  rw[Ee,decide_eq_true_eq,Ad,BL,Int.toNat_natCast];unfold maxLen;omega
 |r+1,i,acc,hi,hl,he=>by
  refine G6 (fn:=ku) (tb:=apa) (by kernel_rfl) (by kernel_rfl) ?_;have w1:zG.add .i64 (i:Int) (ah 1)=((i+1:Nat):Int):=add1 (by omega);have no {P:Prop} (h:zG.lt (i:Int) (ah n)=ay):P:=by grind [zN]
  have inb:zG.inB (i:Int) n=aC:=by grind [AY]
  have rm:zG.room (zG.addN acc.length 1) 72=aC:=by rw[Ee,decide_eq_true_eq,Cj];unfold maxLen;omega
  rw[adH] at he;cases hc:Xe (T i).st lv with
  |true=>
   rw[if_pos hc,<-iT] at he;have nx:=abL Fz FU hn hφ r (i+1) (acc++[T i]) (by omega) (by simp_all) he;refine Ey (bY _ _) (Qu Fz FU _) (hold:=AX) (m:=300) (n:=400) (ts:=[⟨74,Ze,Zf lv n T (acc++[T i]).length (nth (acc++[T i])) ((i+1:Nat):Int),[]⟩,⟨74,KP,QL lv acc.length (nth acc) 0 (fun _=>0) 0,[]⟩]) ?_;exact Vf zG W7 lv n T _ _ (nth acc) _ i _ 0 (fun _=>0) (c1:=aC) rfl hc rfl (fun _=>inb) (fun _ _=>rm) (fun q=>no q) (fun q=>no q)
    (fun _ _=>⟨⟨rfl,rfl,rfl,w1,by rw[dP];rfl,fun j hj=>I8 acc (T i) _ rfl j hj,trivial⟩,_,rfl,nx⟩) (fun _ q=>by cases q) (fun q=>no q) (fun q=>no q)
  |false=>
   rw[if_neg (by rw[hc];simp),kW] at he;have nx:=abL Fz FU hn hφ r (i+1) acc (by omega) (by omega) he;refine Ey (bY _ _) (Qu Fz FU _) (hold:=AX) (m:=300) (n:=400) (ts:=[⟨74,Ze,Zf lv n T acc.length (nth acc) ((i+1:Nat):Int),[]⟩,⟨74,KP,QL lv acc.length (nth acc) 0 (fun _=>0) 0,[]⟩]) ?_;exact Vf zG W7 lv n T _ _ (nth acc) _ i _ 0 (fun _=>0) (c1:=ay) rfl hc rfl (fun _=>inb) (fun _ q=>by cases q) (fun q=>no q) (fun q=>no q)
    (fun _ q=>by cases q) (fun _ _=>⟨⟨rfl,rfl,rfl,w1,rfl,fun _ _=>rfl,trivial⟩,_,rfl,nx⟩) (fun q=>no q) (fun q=>no q)
end
theorem Fz:zZ aA (Ar W7) 73 D73:=by
 refine Fa (C:=C7 zG W7 noSpec zW) (bY _ _) (fn:=Tryz.f73) (by kernel_rfl) (by kernel_rfl) fun H w Aq args φ hrep h=>?_
 have hn:Tryz.f73.ntmps=19:=by kernel_rfl
 unfold D73 at h;split at h
 ·rename_i l t
  split at h
  ·rename_i x lv e1 e2
   have hφ:φ (.b (Xe x.st lv)):=h;match args,hrep with
   |[v,u],⟨rv,ru,_⟩=>
    have hl:l=Row.put x:=(Row.Dk _ _ e1).symm;subst hl;refine ⟨[.agg (Row.put x),.i .i64 lv],⟨rv,Dn e2 ru,trivial⟩,L0,?_⟩;refine Ey (bY _ _) (Kv _) (hold:=AX) (m:=300) (n:=400) (ts:=[]) ?_;rw[hn];have fin (b:Bool) (hb:b=Xe x.st lv):up φ (.b b):=AB (s':=.b (Xe x.st lv)) (.inl (by rw[hb])) hφ;have e3:zG.eq x.st (ah 3)=(x.st==3):=rfl;have e2':zG.eq x.st (ah 2)=(x.st==2):=rfl;refine ajr zG W7 x lv rfl rfl rfl (fun q0 q1=>fin _ ?_) (fun q0 q1=>fin _ ?_) (fun q0 q2 q1=>fin _ ?_) (fun q0 q2 q1=>fin _ ?_) (fun q0 q2=>fin _ ?_);all_goals unfold Xe
    ·simp_all [Ac]
    ·simp_all [Ac]
    ·simp_all [Ac]
    ·simp_all [Ac]
    ·rw[if_neg (by
      rintro (h|h)
      ·rw[h] at q0;cases q0
      ·rw[h] at q2;cases q2)]
     rfl
  ·exact h.elim
 ·exact h.elim
theorem FU:zZ aA (Ar W7) 94 D94:=by
 refine Fa (C:=C7 zG W7 noSpec zW) (bY _ _) (fn:=Tryz.f94) (by kernel_rfl) (by kernel_rfl) fun H w Aq args φ hrep h=>?_
 have hn:Tryz.f94.ntmps=15:=by kernel_rfl
 unfold D94 at h;split at h
 ·rename_i l r
  split at h
  ·rename_i x y e1 e2
   have hφ:φ (.b (Vd x.en y.bg)):=h;have hl:l=Row.put x:=(Row.Dk _ _ e1).symm;have hr:r=Row.put y:=(Row.Dk _ _ e2).symm;subst hl hr;refine ⟨[.agg (Row.put x),.agg (Row.put y)],hrep,L0,?_⟩;refine Ey (bY _ _) (Kv _) (hold:=AX) (m:=300) (n:=400) (ts:=[]) ?_;rw[hn];have fin (b:Bool) (hb:b=Vd x.en y.bg):up φ (.b b):=AB (s':=.b (Vd x.en y.bg)) (.inl (by rw[hb])) hφ;refine ajs zG W7 x y rfl (fun q=>fin _ ?_) (fun q=>fin _ ?_)
   ·have q:decide (0<=x.en)=aC:=q
    unfold Vd;rw[q];rfl
   ·have q:decide (0<=x.en)=ay:=q
    unfold Vd;rw[q];rfl
  ·exact h.elim
 ·exact h.elim
theorem auQ:zZ aA (Ar W7) 74 D74:=by
 refine Fa (C:=C7 zG W7 Hz zW) (bY _ _) (fn:=ku) (by kernel_rfl) (by kernel_rfl) fun H w Aq args φ hrep h=>?_
 have hn:ku.ntmps=74:=by kernel_rfl
 unfold D74 at h;split at h
 ·rename_i s t
  split at h
  ·rename_i n T lv e1 e2
   obtain ⟨h1,hφ⟩:=h;unfold mkP at h1;rw[aG,aG,aG] at h1;obtain ⟨a1,a2,a3,a4⟩:=h1;have a2:=of_decide_eq_true a2;have a3:=of_decide_eq_true a3;have a4:=of_decide_eq_true a4;match args,hrep with
   |[v,u],⟨rv,ru,_⟩=>
    refine ⟨[.sl 7 n (zH (zJ (α:=Dz) T)),.i .i64 lv],⟨Ed (Bd e1 rv) a1,Dn e2 ru,trivial⟩,L0,?_⟩;have st:=abL (H0:=H) (w0:=w) (φ:=φ) (lv:=lv) (n:=n) (T:=zJ T) Fz FU a4 hφ n 0 [] (by omega) (by simp) (by simp_all [ahu]);refine Ey (bY _ _) (Qu Fz FU _) (hold:=AX) (m:=300) (n:=400) (ts:=[⟨74,Ze,Zf lv n (zJ T) 0 (nth []) ((0:Nat):Int),[]⟩]) ?_;rw[hn];have c0 {P:Prop} (h:zG.lt lv (ah 1)=aC):P:=by grind [zN]
    have c1 {P:Prop} (h:zG.lt (ah 3) lv=aC):P:=by grind [zN]
    exact ajq zG W7 lv n (zJ T) (nth []) _ rfl rfl (fun q=>c0 q) (fun _ q=>c1 q) (fun _ _=>⟨⟨rfl,rfl,rfl,rfl,rfl,trivial⟩,_,rfl,st⟩)
  ·exact h.elim
 ·exact h.elim
theorem axf:zZ aA (Ar W7) 75 D75:=O25.mono fun H Aq args φ hr h=>by
 unfold D75 at h;split at h
 ·split at h
  ·rename_i n g e0
   obtain ⟨h1,h2⟩:=h;unfold nwB at h1;rw[aG,aG,aG,Bool.not_eq_true'] at h1;obtain ⟨a1,a2,a3,a4⟩:=h1;unfold F25;simp only[e0];exact ⟨a1,a2,fun q=>(by simp_all),fun _=>⟨fun _=>h2,fun q=>(by simp_all)⟩⟩
  ·exact h.elim
 ·exact h.elim
theorem ae5{hs:Sh}{B:Sr}(O20:zZ aA (Ar W7) 20 (D20 hs B))(stop:Nat->List Nat->Bool):AU aA (C7 zG W7 (Qs hs B) stop):=kS (fun g F h=>by
 unfold Qs at h;grind [Fz,auQ,axf]) fun g h=>by
 unfold Qs at h;split at h;all_goals first|(cases h;done) |kernel_rfl
section
variable{H0:Mem}{w0:World}{φ:Sh->Prop}{hs:Sh}{B:Sr}{lv:Int}{o m:Nat}{og mg:Nat->List Sh}
theorem ae6(O20:zZ aA (Ar W7) 20 (D20 hs B)){n:Nat}{T:Nat->Dz}(h1:1<=lv)(h3:lv<=3)(hn:n<=12)(hw:nwB o og=aC)
  (hφ:φ (.zQ [.pt (Bo lv (Ez lv n T).length (nth (Ez lv n T)) (Ez lv n T).length (Zy lv (Ez lv n T)) o (Hy og)),.v .nilIface])) :
  ∀r i (acc:List Dz),i+r=n->acc.length<=i->acc++ctF lv T i r=Ez lv n T->
  Aw aA (C7 zG W7 (Qs hs B) zW) (K0 H0 w0) 40 Zc (Zd o m og mg lv n T acc.length (nth acc) (i:Nat)) [] emp (up φ)
 |0,i,acc,hi,hl,he=>by
  have he:acc=Ez lv n T:=by
   rw[<-he];show acc=acc++[];simp
  refine G6 (fn:=yE) (tb:=ao9) (by kernel_rfl) (by kernel_rfl) ?_;have lt {P:Prop} (h:zG.lt (i:Int) (ah n)=aC):P:=by simp_all [zN]
  refine Ey (bY _ _) (ae5 O20 _) (hold:=AX) (m:=300) (n:=400) (ts:=[⟨40,Zc,Zd o m og mg lv n T 0 (nth []) 0,[]⟩]) ?_;refine Ve zG W7 hs B lv o m og mg n T _ 0 (nth acc) (nth []) i 0 rfl rfl (fun q=>lt q) (fun q=>lt q) (fun _=>?_) (fun _=>hw) (fun q=>lt q) (fun q=>lt q) (fun _=>?_)
  ·grind [mkP,Dx,decide_eq_true]
  ·have e1:mkN lv n (zH T)=(Ez lv n T).length:=by rfl
   have e2:mkR lv n (zH T)=Zy lv (Ez lv n T):=by rfl
   rw[e1,e2,he];exact AB (s':=.zQ [.pt (Bo lv (Ez lv n T).length (nth (Ez lv n T)) (Ez lv n T).length (Zy lv (Ez lv n T)) o (Hy og)),.v .nilIface]) ⟨rfl,rfl,trivial⟩ hφ
 |r+1,i,acc,hi,hl,he=>by
  refine G6 (fn:=yE) (tb:=ao9) (by kernel_rfl) (by kernel_rfl) ?_;have w1:zG.add .i64 (i:Int) (ah 1)=((i+1:Nat):Int):=add1 (by omega);have no {P:Prop} (h:zG.lt (i:Int) (ah n)=ay):P:=by grind [zN]
  have inb:zG.inB (i:Int) n=aC:=by grind [AY]
  have rm:zG.room (zG.addN acc.length 1) 72=aC:=by rw[Ee,decide_eq_true_eq,Cj];unfold maxLen;omega
  rw[adH] at he;cases hc:Xe (T i).st lv with
  |true=>
   rw[if_pos hc,<-iT] at he;have nx:=ae6 O20 h1 h3 hn hw hφ r (i+1) (acc++[T i]) (by omega) (by simp_all) he;refine Ey (bY _ _) (ae5 O20 _) (hold:=AX) (m:=300) (n:=400) (ts:=[⟨40,Zc,Zd o m og mg lv n T (acc++[T i]).length (nth (acc++[T i])) ((i+1:Nat):Int),[]⟩]) ?_;exact Ve zG W7 hs B lv o m og mg n T _ _ (nth acc) _ i _ (c1:=aC) rfl hc (fun _=>inb) (fun _ _=>rm) (fun q=>no q) (fun q=>no q)
    (fun _ _=>⟨⟨rfl,rfl,rfl,rfl,w1,rfl,rfl,rfl,by rw[dP];rfl,fun j hj=>I8 acc (T i) _ rfl j hj,trivial⟩,_,rfl,nx⟩) (fun _ q=>by cases q) (fun q=>no q)
  |false=>
   rw[if_neg (by rw[hc];simp),kW] at he;have nx:=ae6 O20 h1 h3 hn hw hφ r (i+1) acc (by omega) (by omega) he;refine Ey (bY _ _) (ae5 O20 _) (hold:=AX) (m:=300) (n:=400) (ts:=[⟨40,Zc,Zd o m og mg lv n T acc.length (nth acc) ((i+1:Nat):Int),[]⟩]) ?_;exact Ve zG W7 hs B lv o m og mg n T _ _ (nth acc) _ i _ (c1:=ay) rfl hc (fun _=>inb) (fun _ q=>by cases q) (fun q=>no q) (fun q=>no q)
    (fun _ q=>by cases q) (fun _ _=>⟨⟨rfl,rfl,rfl,rfl,w1,rfl,rfl,rfl,rfl,fun _ _=>rfl,trivial⟩,_,rfl,nx⟩) (fun q=>no q)
end
end Go.Proofs
namespace Go.zM
open Go Go.Sx
abbrev Wd:=Go.Proofs.Wd
abbrev WT:=Go.Proofs.WT
abbrev EO:=Go.Proofs.Ar
abbrev W5:=pY
abbrev noSpec:=Go.Proofs.noSpec
noncomputable def C5(A:Prim)(W:Wd)(spec:Nat->Option (List Sh->Tree Sh))(stop:Nat->List Nat->Bool):Ctx:=
 {A,tys:=lu,fns:=nJ,spec,eqs:=[140,71],VB:=[329],LU:=stop,gls:=EO W,live:=xP,Z9:=[157],ad5:=Go.Proofs.aoc}
theorem axg:WE aA lu [140,71]=aC:=by kernel_rfl
theorem axh:ags aA [329]=aC:=by kernel_rfl
theorem C5.ok(spec:Nat->Option (List Sh->Tree Sh))(stop:Nat->List Nat->Bool):Az aA (C5 zG W5 spec stop):=
 ⟨aaN xQ,P7 iH,rfl,rJ,fun t i h hi xs ys w h1 h2 x y=>XT (Qb axg t i h hi) xs ys w h1 h2 x y,WC axh,zF⟩
theorem C5.O5{spec:Nat->Option (List Sh->Tree Sh)}{stop:Nat->List Nat->Bool}(hs:∀g F,spec g=ak F->zZ aA (EO W5) g F)(he:∀g,(spec g).isSome=aC->(nJ.get g).isSome=aC):AU aA (C5 zG W5 spec stop):=
 ⟨hs,fun g h=>by
  rcases h with h|h
  ·exact F7 iH jg g (he g h)
  ·exact F7 iH jg g h,fun _ _ _ h=>(by cases h),fun _ _ _ h=>(by cases h)⟩
theorem Kv(stop:Nat->List Nat->Bool):AU aA (C5 zG W5 noSpec stop):=C5.O5 (fun _ _ h=>by cases h) (fun _ h=>by cases h)
def zV:Nat->List Nat->Bool:=fun _ _=>ay
end Go.zM
namespace Go.AL
open Go Go.Sx
structure Oj where
 kind:Int
 init:Int
 deriving DecidableEq,Inhabited
structure Ev where
 kind:Int
 tx:Int
 thread:Int
 obj:Int
 op:Int
 key:Int
 val:Int
 ret:Int
 deriving DecidableEq,Inhabited
def obR(o:Oj):List Sh:=[.i .i64 o.kind,.i .i64 o.init]
def EC(e:Ev):List Sh:=[.i .i64 e.kind,.i .i64 e.tx,.i .i64 e.thread,.i .i64 e.obj,.i .i64 e.op,.i .i64 e.key,.i .i64 e.val,.i .i64 e.ret]
def inR(n:Int):List Sh:=[.i .i64 n]
class Row(α:Type)where
 put:α->List Sh
 get:List Sh->Option α
 Dk:∀l a,get l=ak a->put a=l
 get_put:∀a,get (put a)=ak a
 Jl:α
instance:Row Oj where
 put:=obR
 get l:=match l with
  |[.i .i64 a,.i .i64 b]=>ak ⟨a,b⟩ |_=>aK
 Dk l a h:=by
  split at h
  ·cases h;rfl
  ·cases h
 get_put a:=rfl
 Jl:=⟨0,0⟩
instance:Row Ev where
 put:=EC
 get l:=match l with
  |[.i .i64 a,.i .i64 b,.i .i64 c,.i .i64 d,.i .i64 e,.i .i64 f,.i .i64 g,.i .i64 h]=>ak ⟨a,b,c,d,e,f,g,h⟩ |_=>aK
 Dk l a h:=by
  split at h
  ·cases h;rfl
  ·cases h
 get_put a:=rfl
 Jl:=⟨0,0,0,0,0,0,0,0⟩
instance:Row Int where
 put:=inR
 get l:=match l with
  |[.i .i64 a]=>ak a |_=>aK
 Dk l a h:=by
  split at h
  ·cases h;rfl
  ·cases h
 get_put a:=rfl
 Jl:=0
def okB(α:Type)[Row α](n:Nat)(g:Nat->List Sh):Bool:=
 match n with
 |0=>aC |n+1=>okB α n g&&(Row.get (α:=α) (g n)).isSome
def zJ{α:Type}[Row α](g:Nat->List Sh)(i:Nat):α:=(Row.get (g i)).getD Row.Jl
def lst(α:Type)[Row α](n:Nat)(g:Nat->List Sh):List α:=(aY n).map (zJ g)
def nth{α:Type}[Row α](l:List α)(i:Nat):α:=l.getD i Row.Jl
def zH{α:Type}[Row α](o:Nat->α):Nat->List Sh:=fun j=>Row.put (o j)
section
variable{α:Type}[Row α]
theorem J9{n:Nat}{g:Nat->List Sh}(h:okB α n g=aC):∀i,i<n->g i=Row.put (zJ (α:=α) g i):=by
 induction n with
 |zero=>omega |succ n ih=>
  simp only[okB,aG] at h;grind [Option.isSome_iff_exists,zJ,Row.Dk]
theorem Dx(o:Nat->α):∀n,okB α n (zH o)=aC
 |0=>rfl |n+1=>by simp[okB,Dx o n,zH,Row.get_put]
theorem Tz{g:Nat->List Sh}{o:Nat->α}:∀{n:Nat},(∀i,i<n->g i=Row.put (o i))->okB α n g=aC
 |0,_=>rfl |n+1,h=>by simp[okB,Tz (n:=n) fun i hi=>h i (by omega),h n (by omega),Row.get_put]
theorem MZ(o:Nat->α)(i:Nat):zJ (zH o) i=o i:=by simp[zJ,zH,Row.get_put]
@[simp] theorem E8 (n:Nat) (g:Nat->List Sh):(lst α n g).length=n:=by simp[lst]
end
theorem DZ{H:Mem}{st n:Nat}{g g':Nat->List Sh}{v:Value}(h:Rep H (.sl st n g) v)(hg:∀j,j<n->g j=g' j):Rep H (.sl st n g') v:=by
 cases h with
 |sl0 _ _ A cap hc=>exact .sl0 _ _ _ _ hc |sl _ _ _ b off cap c h1 h2 h3 h4 h5 h6=>exact .sl _ _ _ b off cap c h1 h2 (fun i hi=>by simp_all) h4 h5 fun i j s hi e=>h6 i j s hi (by simp_all)
theorem Ed{α:Type}[Row α]{H:Mem}{st n:Nat}{g:Nat->List Sh}{v:Value}(h:Rep H (.sl st n g) v)(hg:okB α n g=aC):Rep H (.sl st n (zH (zJ (α:=α) g))) v:=
 DZ h fun j hj=>J9 hg j hj
def len{α:Type}(l:List α):Nat:=l.length
def fO(g:Nat->List Sh):Nat->List Sh:=zH (zJ (α:=Oj) g)
def fE(g:Nat->List Sh):Nat->List Sh:=zH (zJ (α:=Ev) g)
open Go Go.Sx
theorem zN(a b:Int):zG.lt a b=decide (a<b):=rfl
theorem Dy(a b:Int):zG.le a b=decide (a<=b):=rfl
theorem Ac(a b:Int):zG.eq a b=(a==b):=rfl
theorem AY(a:Int)(n:Nat):zG.inB a n=decide (0<=a/\a<n):=rfl
theorem IE(a:Int)(n:Nat):zG.upTo a n=decide (0<=a/\a<=n):=rfl
theorem Ee(n b:Nat):zG.room n b=decide (n*b<=140737488355328/\n<=maxLen):=rfl
theorem BL(a:Int):zG.toN a=a.toNat:=rfl
theorem Ad(n:Nat):zG.Aa n=(n:Int):=rfl
theorem Cj(n m:Nat):zG.addN n m=n+m:=rfl
theorem X4(n m:Nat):zG.Z8 n m=decide (n<=m):=rfl
theorem Bh(b:Bool):zG.nt b=!b:=rfl
theorem Dt(a b c:Bool):zG.ite a b c=bif a then b else c:=rfl
theorem X5(a b:List UInt8):zG.seq a b=(a==b):=rfl
theorem CB(a b:Int):zG.add .i64 a b=aU.wrap (a+b):=rfl
theorem L9(a b:Int):zG.sub .i64 a b=aU.wrap (a - b):=rfl
theorem I7(a b:Int):zG.max a b=if b>a then b else a:=rfl
theorem O6(a b:Int):zG.min a b=if b<a then b else a:=rfl
theorem Ef(g:Nat->List Sh)(n:Nat)(h:Nat->List Sh)(i:Nat):zG.snoc g n h i=if i<n then g i else h (i - n):=rfl
theorem BF{a:Int}(h1:-9223372036854775808<=a)(h2:a<=9223372036854775807):aU.wrap a=a:=by
 rw[IntKind.wrap_i64];omega
theorem Gl:ah 1=1:=rfl
theorem maxLen_eq:maxLen=9223372036854775807:=rfl
theorem adI{α:Type}[Row α]{k:Nat}{o:Nat->α}{l:List (List Sh)}(h:Af l 0=Row.put (o k)):∀i,i<k+1->zG.snoc (zH o) k (Af l) i=zH o i:=fun i hi=>by
 rw[Ef];split
 ·rfl
 ·have:i=k:=by omega
  subst this;rw[pF,h];rfl
def AV(n b:Nat):Bool:=zG.room n b
end Go.AL
namespace Go.zM
open Go Go.Sx Go.AL
def zW:Nat->List Nat->Bool:=fun _ _=>aC
def Dh:Nat->Bool:=fun _=>ay
abbrev L0:Nat:=1000000000000000000000000000000
def adJ(n:Nat)(o:Nat->Oj)(i:Int)(k:Nat)(gg:Nat->List Sh):Core:={tm:=[.sh (.sl 2 n (zH o)),.any,.any,.gs 0,.sym .i64 i]++rep [.any] 17,hp:=[(0,.own 140 2 k gg)],nx:=1,lim:=L0,tc:=[]}
def Ik:List It:=[bF [0,1,0,1,1],bZ 0,bF [1,1,1]]
def WX:List It:=[bF [0,0,1,0,1,1],bF [0,1,0,1,1],bZ 0,bF [1,1,1]]
def adK(n:Nat)(o:Nat->Ev)(i:Int)(k:Nat)(gg:Nat->List Sh):Core:={tm:=[.sh (.sl 8 n (zH o)),.any,.any,.gs 0,.sym .i64 i]++rep [.any] 17,hp:=[(0,.own 71 8 k gg)],nx:=1,lim:=L0,tc:=[]}
theorem a10(A:Prim)(W:Wd)(n:Nat)(o:Nat->Oj)(i':Int)(k':Nat)(G7:Nat->List Sh):AA (C5 A W noSpec zW) Dh 300 200 54 [.code []] (zL 22 [.sl 2 n (zH o)] L0) [] [⟨54,Ik,adJ n o i' k' G7,[]⟩]=aH (A.le (ah 0) (A.Aa n)) (aH (A.room (A.toN (A.Aa n)) 16) (aB (bJ 0 [aP (aI 2 n (zH o)) (aI 2 n (zH o)),aj (ah 0) i',aJ 0 k',aQ 0 (fun (_x:Nat)=>[]) G7]))):=by kernel_rfl
theorem b10(A:Prim)(W:Wd)(n:Nat)(o:Nat->Oj)(i i':Int)(k k':Nat)(gg G7:Nat->List Sh):AA (C5 A W noSpec zW) Dh 300 200 54 WX (adJ n o i k gg) [] [⟨54,Ik,adJ n o i' k' G7,[]⟩]=aF (A.lt i (A.Aa n)) (aH (A.inB i n) (aH (A.room (A.addN k 1) 16) (aB (bJ 0 [aP (aI 2 n (zH o)) (aI 2 n (zH o)),aj (A.add .i64 i (ah 1)) i',aJ (A.addN k 1) k',aQ (A.addN k 1) (A.snoc gg k (Af [[aT .i64 (o (A.toN i)).kind,aT .i64 (o (A.toN i)).init]])) G7])))) (aB (aS (iK 140 2 k (k,gg).snd))):=by kernel_rfl
theorem a11(A:Prim)(W:Wd)(n:Nat)(o:Nat->Ev)(i':Int)(k':Nat)(G7:Nat->List Sh):AA (C5 A W noSpec zW) Dh 300 200 31 [.code []] (zL 22 [.sl 8 n (zH o)] L0) [] [⟨31,Ik,adK n o i' k' G7,[]⟩]=aH (A.le (ah 0) (A.Aa n)) (aH (A.room (A.toN (A.Aa n)) 64) (aB (bJ 0 [aP (aI 8 n (zH o)) (aI 8 n (zH o)),aj (ah 0) i',aJ 0 k',aQ 0 (fun (_x:Nat)=>[]) G7]))):=by kernel_rfl
theorem b11(A:Prim)(W:Wd)(n:Nat)(o:Nat->Ev)(i i':Int)(k k':Nat)(gg G7:Nat->List Sh):AA (C5 A W noSpec zW) Dh 300 200 31 WX (adK n o i k gg) [] [⟨31,Ik,adK n o i' k' G7,[]⟩]=aF (A.lt i (A.Aa n)) (aH (A.inB i n) (aH (A.room (A.addN k 1) 64) (aB (bJ 0 [aP (aI 8 n (zH o)) (aI 8 n (zH o)),aj (A.add .i64 i (ah 1)) i',aJ (A.addN k 1) k',aQ (A.addN k 1) (A.snoc gg k (Af [[aT .i64 (o (A.toN i)).kind,aT .i64 (o (A.toN i)).tx,aT .i64 (o (A.toN i)).thread,aT .i64 (o (A.toN i)).obj,aT .i64 (o (A.toN i)).op,aT .i64 (o (A.toN i)).key,aT .i64 (o (A.toN i)).val,aT .i64 (o (A.toN i)).ret]])) G7])))) (aB (aS (iK 71 8 k (k,gg).snd))):=by kernel_rfl
def F10:List Sh->Tree Sh
 |[.sl 2 n g]=>.need (okB Oj n g) (.need (AV n 16) (.leaf (.os 140 2 n (fO g)))) |_=>.fail
theorem akV{H0:Mem}{w0:World}{n:Nat}{o:Nat->Oj}{φ:Sh->Prop}(hr:zG.room n 16=aC)(hφ:φ (.os 140 2 n (zH o))):
  ∀m k,k+m=n->Aw aA (C5 zG W5 noSpec zW) (K0 H0 w0) 54 Ik (adJ n o k k (zH o)) [] emp φ
 |m,k,hk=>by
  obtain ⟨hr1,hr2⟩:=EH hr;rw[maxLen_eq] at hr2;refine G6 (fn:=kC) (tb:=WX) (by kernel_rfl) (by kernel_rfl) ?_;refine Gv (C5.ok _ _) (Kv _) (hold:=Dh) (m:=300) (n:=200) (ts:=[⟨54,Ik,adJ n o (k+1:Nat) (k+1) (zH o),[]⟩]) ?_;rw[b10 zG W5 n o k (k+1:Nat) k (k+1) (zH o) (zH o)];refine ⟨fun h=>⟨?_,?_,⟨rfl,?_,rfl,?_,trivial⟩,_,rfl,?_⟩,fun h=>?_⟩
  ·simp[zN,Ad,AY] at h ⊢;omega
  ·simp[zN,Ad,Cj,Ee,maxLen_eq] at h ⊢;omega
  ·simp[zN,Ad] at h
   simp only[gY,CB,Gl];rw[BF (by omega) (by omega)];rfl
  ·exact adI rfl
  ·simp[zN,Ad] at h
   match m,hk with
   |0,hk=>omega |m+1,hk=>exact akV hr hφ m (k+1) (by omega)
  ·simp[zN,Ad] at h
   obtain rfl:k=n:=by omega
   exact hφ
theorem O10:zZ aA (EO W5) 54 F10:=by
 refine J8 (C:=C5 zG W5 noSpec zW) (C5.ok _ _) (fn:=kC) (by kernel_rfl) (by kernel_rfl) fun H w Aq args φ hrep h=>?_
 unfold F10 at h;split at h
 ·rename_i n g
  obtain ⟨h1,h2,h3⟩:=h;have h2:zG.room n 16=aC:=h2;match args,hrep with
  |[v],⟨hv,_⟩=>
   refine ⟨[.sl 2 n (zH (zJ (α:=Oj) g))],⟨Ed hv h1,trivial⟩,L0,?_⟩;refine Gv (C5.ok _ _) (Kv _) (hold:=Dh) (m:=300) (n:=200) (ts:=[⟨54,Ik,adJ n (zJ g) (0:Nat) 0 (zH (zJ (α:=Oj) g)),[]⟩]) ?_;have hn:kC.ntmps=22:=by kernel_rfl
   rw[hn,a10 zG W5 n (zJ g) (0:Nat) 0 (zH (zJ (α:=Oj) g))];refine ⟨by simp[Dy,Ad],by simpa[BL,Ad] using h2,⟨rfl,rfl,rfl,fun j hj=>by omega,trivial⟩,_,rfl,akV h2 h3 n 0 (by omega)⟩
 ·exact h.elim
end Go.zM
namespace Go.AL
open Go Go.Sx
def ai0{α:Type}[DecidableEq α](a b:List α):Bool:=decide (a=b)
end Go.AL
namespace Go.zM
open Go Go.Sx Go.AL
def F35:List Sh->Tree Sh
 |[.sl 2 n g,.sl 2 m h]=>.need (okB Oj n g) (.need (okB Oj m h) (.leaf (.b (ai0 (lst Oj n g) (lst Oj m h))))) |_=>.fail
def F11:List Sh->Tree Sh
 |[.sl 8 n g]=>.need (okB Ev n g) (.need (AV n 64) (.leaf (.os 71 8 n (fE g)))) |_=>.fail
theorem akW{H0:Mem}{w0:World}{n:Nat}{o:Nat->Ev}{φ:Sh->Prop}(hr:zG.room n 64=aC)(hφ:φ (.os 71 8 n (zH o))):
  ∀m k,k+m=n->Aw aA (C5 zG W5 noSpec zW) (K0 H0 w0) 31 Ik (adK n o k k (zH o)) [] emp φ
 |m,k,hk=>by
  obtain ⟨hr1,hr2⟩:=EH hr;rw[maxLen_eq] at hr2;refine G6 (fn:=kD) (tb:=WX) (by kernel_rfl) (by kernel_rfl) ?_;refine Gv (C5.ok _ _) (Kv _) (hold:=Dh) (m:=300) (n:=200) (ts:=[⟨31,Ik,adK n o (k+1:Nat) (k+1) (zH o),[]⟩]) ?_;rw[b11 zG W5 n o k (k+1:Nat) k (k+1) (zH o) (zH o)];refine ⟨fun h=>⟨?_,?_,⟨rfl,?_,rfl,?_,trivial⟩,_,rfl,?_⟩,fun h=>?_⟩
  ·simp[zN,Ad,AY] at h ⊢;omega
  ·simp[zN,Ad,Cj,Ee,maxLen_eq] at h ⊢;omega
  ·simp[zN,Ad] at h
   simp only[gY,CB,Gl];rw[BF (by omega) (by omega)];rfl
  ·exact adI rfl
  ·simp[zN,Ad] at h
   match m,hk with
   |0,hk=>omega |m+1,hk=>exact akW hr hφ m (k+1) (by omega)
  ·simp[zN,Ad] at h
   obtain rfl:k=n:=by omega
   exact hφ
theorem O11:zZ aA (EO W5) 31 F11:=by
 refine J8 (C:=C5 zG W5 noSpec zW) (C5.ok _ _) (fn:=kD) (by kernel_rfl) (by kernel_rfl) fun H w Aq args φ hrep h=>?_
 unfold F11 at h;split at h
 ·rename_i n g
  obtain ⟨h1,h2,h3⟩:=h;have h2:zG.room n 64=aC:=h2;match args,hrep with
  |[v],⟨hv,_⟩=>
   refine ⟨[.sl 8 n (zH (zJ (α:=Ev) g))],⟨Ed hv h1,trivial⟩,L0,?_⟩;refine Gv (C5.ok _ _) (Kv _) (hold:=Dh) (m:=300) (n:=200) (ts:=[⟨31,Ik,adK n (zJ g) (0:Nat) 0 (zH (zJ (α:=Ev) g)),[]⟩]) ?_;have hn:kD.ntmps=22:=by kernel_rfl
   rw[hn,a11 zG W5 n (zJ g) (0:Nat) 0 (zH (zJ (α:=Ev) g))];refine ⟨by simp[Dy,Ad],by simpa[BL,Ad] using h2,⟨rfl,rfl,rfl,fun j hj=>by omega,trivial⟩,_,rfl,akW h2 h3 n 0 (by omega)⟩
 ·exact h.elim
theorem a37(A:Prim)(W:Wd)(n m:Nat)(g h:Nat->List Sh):Bv (C5 A W noSpec zW) 300 45 [.code []] (zL 18 [.agg [.sl 2 n g,.sl 8 m h]] L0)=aH (A.le (ah 0) (A.Aa n)) (aH (A.room (A.toN (A.Aa n)) 16) (aH (A.room (A.addN 0 n) 16) (aH (A.le (ah 0) (A.Aa m)) (aH (A.room (A.toN (A.Aa m)) 64) (aH (A.room (A.addN 0 m) 64) (aH (A.le (ah 0) (A.Aa m)) (aH (A.room (A.toN (A.Aa m)) 64) (aH (A.room (A.addN 0 n) 16) (aH (A.room (A.addN 0 m) 64) (aO [aP (aI 2 n g) (aI 2 n g),aP (aI 8 m h) (aI 8 m h),aP (aI 2 n g) (aI 2 n g),aP (aI 8 m h) (aI 8 m h),aJ (A.addN 0 n) (A.addN 0 n),aZ (A.snoc (fun (_x:Nat)=>[]) 0 g) (A.snoc (fun (_x:Nat)=>[]) 0 g),aJ (A.addN 0 m) (A.addN 0 m),aZ (A.snoc (fun (_x:Nat)=>[]) 0 h) (A.snoc (fun (_x:Nat)=>[]) 0 h)] (aH (A.le (ah 0) (A.Aa m)) (aH (A.room (A.toN (A.Aa m)) 64) (aH (A.le (ah 0) (A.Aa n)) (aH (A.room (A.toN (A.Aa n)) 16) (aH (A.room (A.addN 0 n) 16) (aH (A.room (A.addN 0 m) 64) (aO [aP (aI 2 n g) (aI 2 n g),aP (aI 8 m h) (aI 8 m h),aP (aI 2 n g) (aI 2 n g),aP (aI 8 m h) (aI 8 m h),aJ (A.addN 0 n) (A.addN 0 n),aZ (A.snoc (fun (_x:Nat)=>[]) 0 g) (A.snoc (fun (_x:Nat)=>[]) 0 g),aJ (A.addN 0 m) (A.addN 0 m),aZ (A.snoc (fun (_x:Nat)=>[]) 0 h) (A.snoc (fun (_x:Nat)=>[]) 0 h)] (aB (aN (bP [iK 140 2 (A.addN 0 n) (A.addN 0 n,A.snoc (fun (_x:Nat)=>[]) 0 g).snd,iK 71 8 (A.addN 0 m) (A.addN 0 m,A.snoc (fun (_x:Nat)=>[]) 0 h).snd])))))))))))))))))))):=by kernel_rfl
theorem axk(A:Prim)(W:Wd)(n:Nat)(g h:Nat->List Sh):Bv (C5 A W noSpec zW) 300 45 [.code []] (zL 18 [.agg [.sl 2 n g,.sl 0 0 h]] L0)=aH (A.le (ah 0) (A.Aa n)) (aH (A.room (A.toN (A.Aa n)) 16) (aH (A.room (A.addN 0 n) 16) (aH (A.le (ah 0) (A.Aa 0)) (aH (A.room (A.toN (A.Aa 0)) 64) (aH (A.room (A.addN 0 0) 64) (aH (A.le (ah 0) (A.Aa 0)) (aH (A.room (A.toN (A.Aa 0)) 64) (aH (A.room (A.addN 0 n) 16) (aH (A.room (A.addN 0 0) 64) (aO [aP (aI 2 n g) (aI 2 n g),aP (aI 0 0 h) (aI 0 0 h),aP (aI 2 n g) (aI 2 n g),aP (aI 0 0 h) (aI 0 0 h),aJ (A.addN 0 n) (A.addN 0 n),aZ (A.snoc (fun (_x:Nat)=>[]) 0 g) (A.snoc (fun (_x:Nat)=>[]) 0 g),aJ (A.addN 0 0) (A.addN 0 0),aZ (A.snoc (fun (_x:Nat)=>[]) 0 fun (_x:Nat)=>[]) (A.snoc (fun (_x:Nat)=>[]) 0 fun (_x:Nat)=>[])] (aH (A.le (ah 0) (A.Aa 0)) (aH (A.room (A.toN (A.Aa 0)) 64) (aH (A.le (ah 0) (A.Aa n)) (aH (A.room (A.toN (A.Aa n)) 16) (aH (A.room (A.addN 0 n) 16) (aH (A.room (A.addN 0 0) 64) (aO [aP (aI 2 n g) (aI 2 n g),aP (aI 0 0 h) (aI 0 0 h),aP (aI 2 n g) (aI 2 n g),aP (aI 0 0 h) (aI 0 0 h),aJ (A.addN 0 n) (A.addN 0 n),aZ (A.snoc (fun (_x:Nat)=>[]) 0 g) (A.snoc (fun (_x:Nat)=>[]) 0 g),aJ (A.addN 0 0) (A.addN 0 0),aZ (A.snoc (fun (_x:Nat)=>[]) 0 fun (_x:Nat)=>[]) (A.snoc (fun (_x:Nat)=>[]) 0 fun (_x:Nat)=>[])] (aB (aN (bP [iK 140 2 (A.addN 0 n) (A.addN 0 n,A.snoc (fun (_x:Nat)=>[]) 0 g).snd,iK 71 8 (A.addN 0 0) (A.addN 0 0,A.snoc (fun (_x:Nat)=>[]) 0 fun (_x:Nat)=>[]).snd])))))))))))))))))))):=by kernel_rfl
theorem JQ(g:Nat->List Sh):zG.snoc (fun _=>[]) 0 g=g:=by
 funext i;rw[Ef,if_neg (Nat.not_lt_zero i),Nat.sub_zero]
def DI(st:Nat):Sh->Option (Nat×(Nat->List Sh))
 | .sl st' n g=>bif dQ st' st then ak (n,g) else bif dQ st' 0&&dQ n 0 then ak (0,fun _=>[]) else aK |_=>aK
theorem akX{st:Nat}{s:Sh}{n:Nat}{g:Nat->List Sh}(h:DI st s=ak (n,g)):s=.sl st n g\/(∃g',s=.sl 0 0 g'/\n=0/\g=fun _=>[]):=by
 unfold DI at h;split at h
 ·rename_i st' m g'
  cases h1:dQ st' st<;>simp only[h1,cond_true,cond_false] at h
  ·cases h2:(dQ st' 0&&dQ m 0)<;>simp only[h2,cond_true,cond_false] at h
   ·cases h
   ·cases h
    simp only[aG] at h2;have e1:=fJ h2.1;have e2:=fJ h2.2;subst e1 e2;exact .inr ⟨_,rfl,rfl,rfl⟩
  ·cases h
   have:=fJ h1;subst this;exact .inl rfl
 ·cases h
def F37:List Sh->Tree Sh
 |[.agg [.sl 2 n g,s]]=>match DI 8 s with
  |some (m,h)=>.need (AV n 16) (.need (AV m 64) (.leaf (.agg [.os 140 2 n g,.os 71 8 m h]))) |none=>.fail
 |_=>.fail
theorem O37:zZ aA (EO W5) 45 F37:=by
 refine GL (C:=C5 zG W5 noSpec zW) (C5.ok _ _) (Kv _) (n:=300) (L:=L0) (fn:=mJ) (by kernel_rfl) (by kernel_rfl) fun H w Aq args φ hrep h=>?_
 have hn:mJ.ntmps=18:=by kernel_rfl
 unfold F37 at h;split at h
 ·rename_i n g s
  split at h
  ·rename_i m h' hs
   obtain ⟨h1,h2,h3⟩:=h;have h1:zG.room n 16=aC:=h1;have h2:zG.room m 64=aC:=h2;refine ⟨[.agg [.sl 2 n g,s]],hrep,?_⟩;rw[hn];rcases akX hs with rfl|⟨g',rfl,rfl,rfl⟩
   ·rw[a37 zG W5 n m g h']
    simpa[eY,Bc,cu,gY,Dy,Ad,BL,Cj,h1,h2,JQ] using h3
   ·rw[axk zG W5 n g g']
    simpa[eY,Bc,cu,gY,Dy,Ad,BL,Cj,h1,h2,JQ] using h3
  ·exact h.elim
 ·exact h.elim
def F42:List Sh->Tree Sh
 |[.sl 2 n g,.sl 2 m h]=>.need (okB Oj n g) (.need (okB Oj m h) (.leaf (.b (ai0 (lst Oj n g) (lst Oj m h))))) |_=>.fail
def Xb:List It:=[bF [0,1,0,1],bZ 0,bF [1,1]]
def akP:List It:=[bF [0,0,1,0,1],bF [0,1,0,1],bZ 0,bF [1,1]]
end Go.zM
namespace Go.AL
open Go Go.Sx
def hasB(l:List Int)(x:Int):Bool:=decide (x∈l)
theorem O7{α:Type}[Row α](l:List α)(a:α){r:List (List Sh)}(h:Af r 0=Row.put a):∀i,i<l.length+1->zG.snoc (zH (nth l)) l.length (Af r) i=zH (nth (l++[a])) i:=fun i hi=>by
 rw[Ef];split
 ·rename_i h1
  simp only[zH,nth];rw[bQ,bQ,List.getElem?_append_left h1]
 ·have:i=l.length:=by omega
  subst this;rw[pF,h];simp[zH,nth]
end Go.AL
namespace Go.zM
open Go Go.Sx Go.AL
def F41:List Sh->Tree Sh
 |[.sl 1 n g,.i .i64 x]=>.need (okB Int n g) (.leaf (.b (hasB (lst Int n g) x))) |_=>.fail
def LG:Nat->Option (List Sh->Tree Sh)
 |54=>ak F10 |31=>ak F11 |45=>ak F37 |_=>aK
theorem a13(A:Prim)(W:Wd)(n m:Nat)(g h:Nat->List Sh)(x:Int):Bv (C5 A W LG zW) 300 21 [.code []] (zL 17 [.agg [.sl 2 n g,.sl 8 m h],.i .i64 x] L0)=aH (A.upTo (A.max (ah 0) (A.min x (A.Aa m))) m) (aH (AV n 16) (aH (AV (A.toN (A.max (ah 0) (A.min x (A.Aa m)))) 64) (aB (aN (bP [iK 140 2 n g,iK 71 8 (A.toN (A.max (ah 0) (A.min x (A.Aa m)))) h]))))):=by kernel_rfl
theorem a14(A:Prim)(W:Wd)(n m:Nat)(g h:Nat->List Sh)(x:Int):Bv (C5 A W LG zW) 300 29 [.code []] (zL 20 [.agg [.sl 2 n g,.sl 8 m h],.i .i64 x] L0)=aH (okB Oj n g) (aH (AV n 16) (aH (A.upTo (A.max (ah 0) (A.min x (A.Aa m))) m) (aH (okB Ev (A.toN (A.max (ah 0) (A.min x (A.Aa m)))) h) (aH (AV (A.toN (A.max (ah 0) (A.min x (A.Aa m)))) 64) (aH (A.upTo (A.max (ah 0) (A.min x (A.Aa m))) m) (aH (okB Oj n g) (aH (AV n 16) (aH (okB Ev (A.toN (A.max (ah 0) (A.min x (A.Aa m)))) h) (aH (AV (A.toN (A.max (ah 0) (A.min x (A.Aa m)))) 64) (aO [aP (aI 2 n g) (aI 2 n g),aP (aI 8 m h) (aI 8 m h),aj (A.max (ah 0) (A.min x (A.Aa m))) (A.max (ah 0) (A.min x (A.Aa m))),aP (aI 2 n g) (aI 2 n g),aP (aI 8 m h) (aI 8 m h),aJ n n,aZ (fO g) (fO g),aJ (A.toN (A.max (ah 0) (A.min x (A.Aa m)))) (A.toN (A.max (ah 0) (A.min x (A.Aa m)))),aZ (fE h) (fE h)] (aB (aN (bP [iK 140 2 n (fO g),iK 71 8 (A.toN (A.max (ah 0) (A.min x (A.Aa m)))) (fE h)]))))))))))))):=by kernel_rfl
end Go.zM
namespace Go.AL
open Go Go.Sx
end Go.AL
namespace Go.zM
open Go Go.Sx Go.AL
theorem axn:∀g F,LG g=ak F->zZ aA (EO W5) g F:=fun g F h=>by
 unfold LG at h;split at h
 ·cases h;exact O10
 ·cases h;exact O11
 ·cases h;exact O37
 ·cases h
theorem apc(stop:Nat->List Nat->Bool):AU aA (C5 zG W5 LG stop):=C5.O5 axn fun g h=>by
 unfold LG at h;split at h;all_goals first|(cases h;done) |kernel_rfl
theorem Sv{H:Mem}{n m:Nat}{g h:Nat->List Sh}{v:Value}(hv:Rep H (.agg [.sl 2 n g,.sl 8 m h]) v)(hg:okB Oj n g=aC)(hk:okB Ev m h=aC):Rep H (.agg [.sl 2 n (zH (zJ (α:=Oj) g)),.sl 8 m (zH (zJ (α:=Ev) h))]) v:=by
 cases hv with
 |agg _ vs h1 h2=>
  refine .agg _ vs h1 fun j s v' e1 e2=>?_
  match j,e1 with
  |0,e1=>simp at e1;subst e1;exact Ed (h2 0 _ v' rfl e2) hg |1,e1=>simp at e1;subst e1;exact Ed (h2 1 _ v' rfl e2) hk |j+2,e1=>simp at e1
end Go.zM
namespace Go.AL
open Go Go.Sx
def upN(x:Int)(m:Nat):Nat:=(max 0 (min x (m:Int))).toNat
theorem ahy(x:Int)(m:Nat):zG.toN (zG.max (ah 0) (zG.min x (zG.Aa m)))=upN x m:=by
 unfold upN;rw[I7,O6,BL,Ad];congr 1;simp only[jP];split<;>split<;>omega
theorem abM(x:Int)(m:Nat):zG.upTo (zG.max (ah 0) (zG.min x (zG.Aa m))) m=aC:=by
 rw[I7,O6,IE,Ad];simp only[jP];split<;>split<;>simp<;>omega
end Go.AL
namespace Go.zM
open Go Go.Sx Go.AL
def F13:List Sh->Tree Sh
 |[.agg [.sl 2 n g,.sl 8 m h],.i .i64 x]=>.need (AV n 16) (.need (AV (upN x m) 64) (.leaf (.agg [.os 140 2 n g,.os 71 8 (upN x m) h]))) |_=>.fail
theorem O13:zZ aA (EO W5) 21 F13:=by
 refine GL (C:=C5 zG W5 LG zW) (C5.ok _ _) (apc _) (n:=300) (L:=L0) (fn:=mM) (by kernel_rfl) (by kernel_rfl) fun H w Aq args φ hrep h=>?_
 have hn:mM.ntmps=17:=by kernel_rfl
 unfold F13 at h;split at h
 ·rename_i n g m h' x
  obtain ⟨h1,h2,h3⟩:=h;refine ⟨_,hrep,?_⟩;rw[hn,a13 zG W5 n m g h' x];rw[<-ahy] at h2 h3;exact ⟨abM x m,h1,h2,h3⟩
 ·exact h.elim
def F14:List Sh->Tree Sh
 |[.agg [.sl 2 n g,.sl 8 m h],.i .i64 x]=>.need (okB Oj n g) (.need (okB Ev (upN x m) h) (.need (AV n 16) (.need (AV (upN x m) 64) (.leaf (.agg [.os 140 2 n (fO g),.os 71 8 (upN x m) (fE h)]))))) |_=>.fail
theorem O14:zZ aA (EO W5) 29 F14:=by
 refine GL (C:=C5 zG W5 LG zW) (C5.ok _ _) (apc _) (n:=300) (L:=L0) (fn:=nK) (by kernel_rfl) (by kernel_rfl) fun H w Aq args φ hrep h=>?_
 have hn:nK.ntmps=20:=by kernel_rfl
 unfold F14 at h;split at h
 ·rename_i n g m h' x
  obtain ⟨h1,h2,h3,h4,h5⟩:=h;refine ⟨_,hrep,?_⟩;rw[hn,a14 zG W5 n m g h' x];rw[<-ahy] at h2 h4 h5;exact ⟨h1,h3,abM x m,h2,h4,abM x m,h1,h3,h2,h4,⟨rfl,rfl,rfl,rfl,rfl,rfl,rfl,rfl,rfl,trivial⟩,h5⟩
 ·exact h.elim
def BO:Nat->Option (List Sh->Tree Sh)
 |54=>ak F10 |31=>ak F11 |21=>ak F13 |29=>ak F14 |45=>ak F37 |_=>aK
theorem a57(A:Prim)(W:Wd)(c:Int):Bv (C5 A W BO zW) 300 102 [.code []] (zL 17 [.i .i64 c] L0)=aF (A.eq c (ah 1)) (aB (aN (aT .i64 (ah 1)))) (aF (A.eq c (ah 2)) (aB (aN (aT .i64 (ah 1)))) (aF (A.eq c (ah 3)) (aB (aN (aT .i64 (ah 2)))) (aF (A.eq c (ah 4)) (aB (aN (aT .i64 (ah 2)))) (aF (A.eq c (ah 5)) (aB (aN (aT .i64 (ah 3)))) (aF (A.eq c (ah 6)) (aB (aN (aT .i64 (ah 3)))) (aF (A.eq c (ah 7)) (aB (aN (aT .i64 (ah 4)))) (aF (A.eq c (ah 8)) (aB (aN (aT .i64 (ah 4)))) (aF (A.eq c (ah 9)) (aB (aN (aT .i64 (ah 4)))) (aB (aN (aT .i64 (ah 0)))))))))))):=by kernel_rfl
theorem auR(A:Prim)(W:Wd)(c:Int):Bv (C5 A W BO zW) 300 122 [.code []] (zL 16 [.v (.int .i64 1),.i .i64 c] L0)=aF (A.lt (A.sub .i64 (A.max c (ah 0)) (ah 1)) (ah 0)) (aB (aN (bU []))) (aF (A.le (ah 4) (A.sub .i64 (A.max c (ah 0)) (ah 1))) (aB (aN (bU []))) (aH (A.inB (A.sub .i64 (A.max c (ah 0)) (ah 1)) 4) (aF (A.eq (A.sub .i64 (A.max c (ah 0)) (ah 1)) (ah 0)) (aB (aN (bU (W 16 0)))) (aF (A.eq (A.sub .i64 (A.max c (ah 0)) (ah 1)) (ah 1)) (aB (aN (bU (W 16 1)))) (aF (A.eq (A.sub .i64 (A.max c (ah 0)) (ah 1)) (ah 2)) (aB (aN (bU (W 16 2)))) (aF (A.eq (A.sub .i64 (A.max c (ah 0)) (ah 1)) (ah 3)) (aB (aN (bU (W 16 3)))) cO)))))):=by kernel_rfl
theorem auS(A:Prim)(W:Wd)(c:Int):Bv (C5 A W BO zW) 300 122 [.code []] (zL 16 [.v (.int .i64 2),.i .i64 c] L0)=aF (A.lt (A.sub .i64 (A.max c (ah 0)) (ah 1)) (ah 0)) (aB (aN (bU []))) (aF (A.le (ah 7) (A.sub .i64 (A.max c (ah 0)) (ah 1))) (aB (aN (bU []))) (aH (A.inB (A.sub .i64 (A.max c (ah 0)) (ah 1)) 7) (aF (A.eq (A.sub .i64 (A.max c (ah 0)) (ah 1)) (ah 0)) (aB (aN (bU (W 17 0)))) (aF (A.eq (A.sub .i64 (A.max c (ah 0)) (ah 1)) (ah 1)) (aB (aN (bU (W 17 1)))) (aF (A.eq (A.sub .i64 (A.max c (ah 0)) (ah 1)) (ah 2)) (aB (aN (bU (W 17 2)))) (aF (A.eq (A.sub .i64 (A.max c (ah 0)) (ah 1)) (ah 3)) (aB (aN (bU (W 17 3)))) (aF (A.eq (A.sub .i64 (A.max c (ah 0)) (ah 1)) (ah 4)) (aB (aN (bU (W 17 4)))) (aF (A.eq (A.sub .i64 (A.max c (ah 0)) (ah 1)) (ah 5)) (aB (aN (bU (W 17 5)))) (aF (A.eq (A.sub .i64 (A.max c (ah 0)) (ah 1)) (ah 6)) (aB (aN (bU (W 17 6)))) cO))))))))):=by kernel_rfl
theorem auT(A:Prim)(W:Wd)(c:Int):Bv (C5 A W BO zW) 300 122 [.code []] (zL 16 [.v (.int .i64 3),.i .i64 c] L0)=aF (A.lt (A.sub .i64 (A.max c (ah 0)) (ah 1)) (ah 0)) (aB (aN (bU []))) (aF (A.le (ah 9) (A.sub .i64 (A.max c (ah 0)) (ah 1))) (aB (aN (bU []))) (aH (A.inB (A.sub .i64 (A.max c (ah 0)) (ah 1)) 9) (aF (A.eq (A.sub .i64 (A.max c (ah 0)) (ah 1)) (ah 0)) (aB (aN (bU (W 18 0)))) (aF (A.eq (A.sub .i64 (A.max c (ah 0)) (ah 1)) (ah 1)) (aB (aN (bU (W 18 1)))) (aF (A.eq (A.sub .i64 (A.max c (ah 0)) (ah 1)) (ah 2)) (aB (aN (bU (W 18 2)))) (aF (A.eq (A.sub .i64 (A.max c (ah 0)) (ah 1)) (ah 3)) (aB (aN (bU (W 18 3)))) (aF (A.eq (A.sub .i64 (A.max c (ah 0)) (ah 1)) (ah 4)) (aB (aN (bU (W 18 4)))) (aF (A.eq (A.sub .i64 (A.max c (ah 0)) (ah 1)) (ah 5)) (aB (aN (bU (W 18 5)))) (aF (A.eq (A.sub .i64 (A.max c (ah 0)) (ah 1)) (ah 6)) (aB (aN (bU (W 18 6)))) (aF (A.eq (A.sub .i64 (A.max c (ah 0)) (ah 1)) (ah 7)) (aB (aN (bU (W 18 7)))) (aF (A.eq (A.sub .i64 (A.max c (ah 0)) (ah 1)) (ah 8)) (aB (aN (bU (W 18 8)))) cO))))))))))):=by kernel_rfl
theorem auU(A:Prim)(W:Wd)(c:Int):Bv (C5 A W BO zW) 300 122 [.code []] (zL 16 [.v (.int .i64 4),.i .i64 c] L0)=aF (A.lt (A.sub .i64 (A.max c (ah 0)) (ah 1)) (ah 0)) (aB (aN (bU []))) (aF (A.le (ah 3) (A.sub .i64 (A.max c (ah 0)) (ah 1))) (aB (aN (bU []))) (aH (A.inB (A.sub .i64 (A.max c (ah 0)) (ah 1)) 3) (aF (A.eq (A.sub .i64 (A.max c (ah 0)) (ah 1)) (ah 0)) (aB (aN (bU (W 19 0)))) (aF (A.eq (A.sub .i64 (A.max c (ah 0)) (ah 1)) (ah 1)) (aB (aN (bU (W 19 1)))) (aF (A.eq (A.sub .i64 (A.max c (ah 0)) (ah 1)) (ah 2)) (aB (aN (bU (W 19 2)))) cO))))):=by kernel_rfl
theorem auV(A:Prim)(W:Wd)(c:Int):Bv (C5 A W BO zW) 300 122 [.code []] (zL 16 [.v (.int .i64 5),.i .i64 c] L0)=aF (A.lt (A.sub .i64 (A.max c (ah 0)) (ah 1)) (ah 0)) (aB (aN (bU []))) (aF (A.le (ah 4) (A.sub .i64 (A.max c (ah 0)) (ah 1))) (aB (aN (bU []))) (aH (A.inB (A.sub .i64 (A.max c (ah 0)) (ah 1)) 4) (aF (A.eq (A.sub .i64 (A.max c (ah 0)) (ah 1)) (ah 0)) (aB (aN (bU (W 20 0)))) (aF (A.eq (A.sub .i64 (A.max c (ah 0)) (ah 1)) (ah 1)) (aB (aN (bU (W 20 1)))) (aF (A.eq (A.sub .i64 (A.max c (ah 0)) (ah 1)) (ah 2)) (aB (aN (bU (W 20 2)))) (aF (A.eq (A.sub .i64 (A.max c (ah 0)) (ah 1)) (ah 3)) (aB (aN (bU (W 20 3)))) cO)))))):=by kernel_rfl
theorem auW(A:Prim)(W:Wd)(c:Int):Bv (C5 A W BO zW) 300 122 [.code []] (zL 16 [.v (.int .i64 6),.i .i64 c] L0)=aF (A.lt (A.sub .i64 (A.max c (ah 0)) (ah 1)) (ah 0)) (aB (aN (bU []))) (aF (A.le (ah 4) (A.sub .i64 (A.max c (ah 0)) (ah 1))) (aB (aN (bU []))) (aH (A.inB (A.sub .i64 (A.max c (ah 0)) (ah 1)) 4) (aF (A.eq (A.sub .i64 (A.max c (ah 0)) (ah 1)) (ah 0)) (aB (aN (bU (W 21 0)))) (aF (A.eq (A.sub .i64 (A.max c (ah 0)) (ah 1)) (ah 1)) (aB (aN (bU (W 21 1)))) (aF (A.eq (A.sub .i64 (A.max c (ah 0)) (ah 1)) (ah 2)) (aB (aN (bU (W 21 2)))) (aF (A.eq (A.sub .i64 (A.max c (ah 0)) (ah 1)) (ah 3)) (aB (aN (bU (W 21 3)))) cO)))))):=by kernel_rfl
end Go.zM
