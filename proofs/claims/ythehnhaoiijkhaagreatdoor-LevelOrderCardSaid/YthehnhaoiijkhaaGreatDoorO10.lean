/- Own work. -/
import Derived.Test.YthehnhaoiijkhaaGreatDoorO09
open Int (ofNat)
open Bool renaming true->aj,false->ag,and_eq_true->al
open Classical renaming propDecidable->aB
open Go.BinOp renaming shl->b9
open Go.Gm renaming start->eW
open Go.IntKind renaming i64->aA
open Go.Proofs renaming W7->hZ,afV->mz
open Go.Proofs.C7 renaming Gh->dZ,ok->aS
open Go.Proofs.Tryz renaming prog->ah,f71->ip,f39->jg,f74->d5,f40->lL,tys->eO,fns->fX,live->lq,tysB_->lr,fnsAre_->cG,mixed_->iN,entersB_->c8,f54->d6,f31->d7,f45->fF,f21->fG,f29->fY
open Go.Sx.oC renaming nat->ap,Ez->aF,int->ac,bool->dU,sh->av,get->ax,mg->cP,ok->cw,all->aX
open Go.Sx.rQ renaming at_->aK,ret->ay
open Go.Sx.Fin renaming ret->ar
open Go.Sx.It renaming code->aH,inBlock->aW
open Go.Sx.Sh renaming sl->ao,mV->aQ,agg->aN,b->bX,i->az,v->cT,os->cJ,str->aR,er->aC
open Go.Sx.Tree renaming need->am,leaf->ai,node->ak,must->aw,All->bP,fail->aY
open Go.Value renaming nilIface->aI,pointer->bU
open Int renaming ofNat->ab,ofNat_eq_natCast->dN
open Int.ofNat renaming inj->dR
open List renaming length_map->ct,getD_eq_getElem?_getD->aZ,length_append->bz,range->aE,length_range->fp,getElem?_eq_getElem->aD,mem_map->bN,mem_of_getElem?->bf,drop_eq_getElem_cons->cv,drop_zero->dE,drop_eq_nil_of_le->eh,map_cons->dI,append_assoc->cQ,nil_append->eF
open Nat renaming beq->bA,or_lt_two_pow->gq,shiftLeft_eq->eE,one_mul->gC,pow_lt_pow_right->cO,sub_self->gU,eq_of_beq_eq_true->bW
open Option renaming some->ae,none->aq
open Option.some renaming inj->bd
namespace Go.Proofs
open Go Go.Sx Go.Pl
theorem Wx(A:Prim)(W:Wd)(B:zl)(hs:Sh)(lv:Int)(M:Int×List UInt8->Option Value)(m:Nat)(od:Nat->Na)(c i:Int)(p:Int)(n:Nat)(g:Nat->List Sh)(is:Bool)(t:Nat)(tr:Nat->Ei)(sr:Nat->Ie){ψ:rQ->Prop}{c0 c1 c2:Bool}(e0:A.le (ab 0) i=c0)(e1:A.isS (M (ab 0,FC B.k0 B.g0))=c1)(e2:A.zu (M (ab 0,FC B.k0 B.g0))=c2)(h1:c0=aj->(A.inB i m)=aj)(h2:c0=aj->(A.le (ab 0) (A.nH B.N))=aj)(h3:c0=aj->(ZU B.lv B.N (mF B.T) B.N (mF B.ms) (od (A.toN i)).placed 4 (od (A.toN i)).n (od (A.toN i)).g)=aj)(h4:c0=ag->(TL 4 B.k0 B.g0)=aj)(y1:c0=aj->ψ (aK 0 [ap 1 1,aF (fun (x:Nat)=>oV B.lv B.N B.T B.N B.ms B.k0 B.g0) fun (x:Nat)=>oV B.lv B.N B.T B.N B.ms B.k0 B.g0,ap 0 0,ac i i,dU (A.eq (od (A.toN i)).placed (A.sub .i64 (A.bin b9 aA (ab 1) (A.nH B.N)) (ab 1))) is,av (ao 4 (JL B.lv B.N (mF B.T) (mF B.ms) (od (A.toN i)).placed (od (A.toN i)).n (od (A.toN i)).g) (mF (ZV B.lv B.N (mF B.T) (mF B.ms) (od (A.toN i)).placed (od (A.toN i)).n (od (A.toN i)).g))) (ao 4 t (mF tr)),ac (A.nH (JL B.lv B.N (mF B.T) (mF B.ms) (od (A.toN i)).placed (od (A.toN i)).n (od (A.toN i)).g)) (ab t),ac (ab 0) (ab 0),ac (ab 0) (ab 0),ap m m,ax m (mF od) (mF od),cP M M,ac c c,ac (od (A.toN i)).placed p,av (ao 4 (od (A.toN i)).n (od (A.toN i)).g) (ao 4 n g),ap 1 1,aF (fun (x:Nat)=>oV B.lv B.N B.T B.N B.ms B.k0 B.g0) fun (x:Nat)=>oV B.lv B.N B.T B.N B.ms B.k0 B.g0,ap 0 0]))(y2:c0=ag->c1=aj->c2=aj->ψ (aK 1 [ap 1 1,aF (fun (x:Nat)=>oV B.lv B.N B.T B.N B.ms B.k0 B.g0) fun (x:Nat)=>oV B.lv B.N B.T B.N B.ms B.k0 B.g0,ap 0 0,ac (ab 0) (ab 0),cP M M,ac c c,ac (ab 0) (ab 0),av (ao 4 B.k0 B.g0) (ao 4 B.k0 B.g0),ap 0 0]))(y3:c0=ag->c1=aj->c2=ag->ψ (ay (aQ [aN [bX ag,ao 0 0 fun _=>[],az .i64 c],cT aI])))(y4:c0=ag->c1=ag->ψ (ay (aQ [aN [bX ag,ao 0 0 fun _=>[],az .i64 c],cT aI]))):qA ψ (nZ (C7 A W (tK hs lv B) ny) oG 300 400 71 tbC (LC B m od M c i) (FD B) [⟨71,Z4,LD B m od M c i p n g is t tr 0,FD B⟩,⟨72,Z5,LE B M c 0 B.k0 B.g0 0 sr,KZ B⟩]):=by
 subst e0 e1 e2;exact um (an (fun q0=>an (h1 q0) (an (h2 q0) (an (h3 q0) (y1 q0)))) (fun q0=>an (h4 q0) (an (fun q1=>an (y2 q0 q1) (y3 q0 q1)) (y4 q0)))) (by kernel_rfl)
theorem Wy(A:Prim)(W:Wd)(B:zl)(hs:Sh)(lv:Int)(M M':Int×List UInt8->Option Value)(m:Nat)(od:Nat->Na)(c i:Int)(p:Int)(n:Nat)(g:Nat->List Sh)(is is':Bool)(t:Nat)(tr:Nat->Ei)(j j' i':Int){ψ:rQ->Prop}{c0 c1 c2:Bool}(e0:A.lt j (ab t)=c0)(e1:is=c1)(e2:A.isS (M ((tr (A.toN j)).placed,FC (tr (A.toN j)).n (tr (A.toN j)).g))=c2)(h1:c0=aj->(A.inB j t)=aj)(h2:c0=aj->c1=ag->(TL 4 (tr (A.toN j)).n (tr (A.toN j)).g)=aj)(h3:c0=ag->(TL 4 n g)=aj)(y1:c0=aj->c1=aj->ψ (aK 0 [ap 1 1,aF (fun (x:Nat)=>oV B.lv B.N B.T B.N B.ms B.k0 B.g0) fun (x:Nat)=>oV B.lv B.N B.T B.N B.ms B.k0 B.g0,ap 0 0,ac i i,dU aj is',av (ao 4 t (mF tr)) (ao 4 t (mF tr)),ac (ab t) (ab t),ac (A.add .i64 j (ab 1)) j',ac (ab 0) (ab 0),ap m m,ax m (mF od) (mF od),cP M M,ac c c,ac p p,av (ao 4 n g) (ao 4 n g),ap 1 1,aF (fun (x:Nat)=>oV B.lv B.N B.T B.N B.ms B.k0 B.g0) fun (x:Nat)=>oV B.lv B.N B.T B.N B.ms B.k0 B.g0,ap 0 0]))(y2:c0=aj->c1=ag->c2=aj->ψ (aK 0 [ap 1 1,aF (fun (x:Nat)=>oV B.lv B.N B.T B.N B.ms B.k0 B.g0) fun (x:Nat)=>oV B.lv B.N B.T B.N B.ms B.k0 B.g0,ap 0 0,ac i i,dU (A.zu (M ((tr (A.toN j)).placed,FC (tr (A.toN j)).n (tr (A.toN j)).g))) is',av (ao 4 t (mF tr)) (ao 4 t (mF tr)),ac (ab t) (ab t),ac (A.add .i64 j (ab 1)) j',ac (ab 0) (ab 0),ap m m,ax m (mF od) (mF od),cP M M,ac c c,ac p p,av (ao 4 n g) (ao 4 n g),ap 1 1,aF (fun (x:Nat)=>oV B.lv B.N B.T B.N B.ms B.k0 B.g0) fun (x:Nat)=>oV B.lv B.N B.T B.N B.ms B.k0 B.g0,ap 0 0]))(y3:c0=aj->c1=ag->c2=ag->ψ (aK 0 [ap 1 1,aF (fun (x:Nat)=>oV B.lv B.N B.T B.N B.ms B.k0 B.g0) fun (x:Nat)=>oV B.lv B.N B.T B.N B.ms B.k0 B.g0,ap 0 0,ac i i,dU ag is',av (ao 4 t (mF tr)) (ao 4 t (mF tr)),ac (ab t) (ab t),ac (A.add .i64 j (ab 1)) j',ac (ab 0) (ab 0),ap m m,ax m (mF od) (mF od),cP M M,ac c c,ac p p,av (ao 4 n g) (ao 4 n g),ap 1 1,aF (fun (x:Nat)=>oV B.lv B.N B.T B.N B.ms B.k0 B.g0) fun (x:Nat)=>oV B.lv B.N B.T B.N B.ms B.k0 B.g0,ap 0 0]))(y4:c0=ag->ψ (aK 1 [ap 1 1,aF (fun (x:Nat)=>oV B.lv B.N B.T B.N B.ms B.k0 B.g0) fun (x:Nat)=>oV B.lv B.N B.T B.N B.ms B.k0 B.g0,ap 0 0,ac (A.sub .i64 i (ab 1)) i',ac (ab 0) (ab 0),ap m m,ax m (mF od) (mF od),cP (CJ (p,FC n g) (ae (Value.bool is)) M) M',ac c c,ap 1 1,aF (fun (x:Nat)=>oV B.lv B.N B.T B.N B.ms B.k0 B.g0) fun (x:Nat)=>oV B.lv B.N B.T B.N B.ms B.k0 B.g0,ap 0 0])):qA ψ (nZ (C7 A W (tK hs lv B) ny) oG 300 400 71 tbD (LD B m od M c i p n g is t tr j) (FD B) [⟨71,Z4,LD B m od M c i p n g is' t tr j',FD B⟩,⟨71,TM,LC B m od M' c i',FD B⟩]):=by
 subst e0 e1 e2;exact um (an (fun q0=>an (h1 q0) (an (y1 q0) (fun q1=>an (h2 q0 q1) (an (y2 q0 q1) (y3 q0 q1))))) (fun q0=>an (h3 q0) (y4 q0))) (by kernel_rfl)
theorem WA(A:Prim)(W:Wd)(B:zl)(hs:Sh)(lv:Int)(M:Int×List UInt8->Option Value)(c:Int)(p:Int)(n:Nat)(g:Nat->List Sh)(k:Nat)(sr:Nat->Ie)(t:Nat)(tr:Nat->Ei){ψ:rQ->Prop}{c0:Bool}(e0:A.nt (A.eq p (A.sub .i64 (A.bin b9 aA (ab 1) (A.nH B.N)) (ab 1)))=c0)(h1:(A.le (ab 0) (A.nH B.N))=aj)(h2:c0=aj->(ZU B.lv B.N (mF B.T) B.N (mF B.ms) p 4 n g)=aj)(y1:c0=aj->ψ (aK 0 [ap 1 1,aF (fun (x:Nat)=>oV B.lv B.N B.T B.N B.ms B.k0 B.g0) fun (x:Nat)=>oV B.lv B.N B.T B.N B.ms B.k0 B.g0,ap 0 0,av (ao 4 (JL B.lv B.N (mF B.T) (mF B.ms) p n g) (mF (ZV B.lv B.N (mF B.T) (mF B.ms) p n g))) (ao 4 t (mF tr)),ac (A.nH (JL B.lv B.N (mF B.T) (mF B.ms) p n g)) (ab t),ac (ab 0) (ab 0),ac (ab 0) (ab 0),cP M M,ac c c,ac p p,av (ao 4 n g) (ao 4 n g),ap k k,ax k (mF sr) (mF sr)]))(y2:c0=ag->ψ (ay (aQ [aN [bX aj,cJ 55 2 k (mF sr),az .i64 c],cT aI]))):qA ψ (nZ (C7 A W (tK hs lv B) ny) oG 300 400 72 tbE (LE B M c p n g k sr) (KZ B) [⟨72,tdF,LF B M c p n g k sr t tr 0,KZ B⟩]):=by
 subst e0;exact um (an h1 (an (fun q0=>an (h2 q0) (y1 q0)) y2)) (by kernel_rfl)
theorem WB(A:Prim)(W:Wd)(B:zl)(hs:Sh)(lv:Int)(M:Int×List UInt8->Option Value)(c:Int)(p p':Int)(n n':Nat)(g g':Nat->List Sh)(k k':Nat)(sr sr':Nat->Ie)(t:Nat)(tr:Nat->Ei)(j j':Int){ψ:rQ->Prop}{c0 c1 c2:Bool}(e0:A.lt j (ab t)=c0)(e1:A.isS (M ((tr (A.toN j)).placed,FC (tr (A.toN j)).n (tr (A.toN j)).g))=c1)(e2:A.zu (M ((tr (A.toN j)).placed,FC (tr (A.toN j)).n (tr (A.toN j)).g))=c2)(h1:c0=aj->(A.inB j t)=aj)(h2:c0=aj->(TL 4 (tr (A.toN j)).n (tr (A.toN j)).g)=aj)(h3:c0=aj->c1=aj->c2=aj->(A.room (A.addN k 1) 16)=aj)(y1:c0=aj->c1=aj->c2=aj->ψ (aK 1 [ap 1 1,aF (fun (x:Nat)=>oV B.lv B.N B.T B.N B.ms B.k0 B.g0) fun (x:Nat)=>oV B.lv B.N B.T B.N B.ms B.k0 B.g0,ap 0 0,ac (ab 0) (ab 0),cP M M,ac c c,ac (tr (A.toN j)).placed p',av (ao 4 (tr (A.toN j)).n (tr (A.toN j)).g) (ao 4 n' g'),ap (A.addN k 1) k',ax (A.addN k 1) (A.snoc (mF sr) k (nM [[az .i64 (tr (A.toN j)).tx,bX (tr (A.toN j)).com]])) (mF sr')]))(y2:c0=aj->c1=aj->c2=ag->ψ (aK 0 [ap 1 1,aF (fun (x:Nat)=>oV B.lv B.N B.T B.N B.ms B.k0 B.g0) fun (x:Nat)=>oV B.lv B.N B.T B.N B.ms B.k0 B.g0,ap 0 0,av (ao 4 t (mF tr)) (ao 4 t (mF tr)),ac (ab t) (ab t),ac (A.add .i64 j (ab 1)) j',ac (ab 0) (ab 0),cP M M,ac c c,ac p p,av (ao 4 n g) (ao 4 n g),ap k k,ax k (mF sr) (mF sr)]))(y3:c0=aj->c1=ag->ψ (aK 0 [ap 1 1,aF (fun (x:Nat)=>oV B.lv B.N B.T B.N B.ms B.k0 B.g0) fun (x:Nat)=>oV B.lv B.N B.T B.N B.ms B.k0 B.g0,ap 0 0,av (ao 4 t (mF tr)) (ao 4 t (mF tr)),ac (ab t) (ab t),ac (A.add .i64 j (ab 1)) j',ac (ab 0) (ab 0),cP M M,ac c c,ac p p,av (ao 4 n g) (ao 4 n g),ap k k,ax k (mF sr) (mF sr)]))(y4:c0=ag->ψ (aK 1 [ap 1 1,aF (fun (x:Nat)=>oV B.lv B.N B.T B.N B.ms B.k0 B.g0) fun (x:Nat)=>oV B.lv B.N B.T B.N B.ms B.k0 B.g0,ap 0 0,ac (ab 0) (ab 0),cP M M,ac c c,ac p p',av (ao 4 n g) (ao 4 n' g'),ap k k',ax k (mF sr) (mF sr')])):qA ψ (nZ (C7 A W (tK hs lv B) ny) oG 300 400 72 tbF (LF B M c p n g k sr t tr j) (KZ B) [⟨72,tdF,LF B M c p n g k sr t tr j',KZ B⟩,⟨72,Z5,LE B M c p' n' g' k' sr',KZ B⟩]):=by
 subst e0 e1 e2;exact um (an (fun q0=>an (h1 q0) (an (h2 q0) (an (fun q1=>an (fun q2=>an (h3 q0 q1 q2) (y1 q0 q1 q2)) (y2 q0 q1)) (y3 q0)))) y4) (by kernel_rfl)
end Go.Proofs
namespace Go.Pl
open Go Go.Sx Go.Proofs Go.Gm Go.Bf
abbrev SG:=Nat->List Sh
noncomputable def Gb(B:zl):Game SG:=KX B.lv B.N B.T B.ms B.k0
noncomputable def qm(k0:Nat)(nd:Nd SG):Int×List UInt8:=((nd.placed:Nat),FC k0 nd.st)
def zn(k0:Nat)(nd:Nd SG):Na:=⟨(nd.placed:Nat),k0,nd.st⟩
def Aq(t:Int×Bool):Ie:=⟨t.1,t.2⟩
structure FH(B:zl)(Q:Nd SG->Prop):Prop where
 start:Q ⟨0,B.g0⟩
 step:∀nd,Q nd->∀t∈next (Gb B) nd,Q t
 tu:∀nd,Q nd->TuP B.lv B.N B.T B.N B.ms (nd.placed:Nat) B.k0 nd.st
 ke:∀nd,Q nd->TL 4 B.k0 nd.st=aj
section
variable{B:zl}{Q:Nd SG->Prop}{nd:Nd SG}
theorem Z7(hg:FH B Q)(h:Q nd){st:Nat}(hst:(bA st 4||bA B.k0 0)=aj):ZU B.lv B.N (mF B.T) B.N (mF B.ms) (nd.placed:Nat) st B.k0 nd.st=aj:=by
 unfold ZU;rw[rZ,rZ,hst,Ib,Ib];exact @decide_eq_true _ (aB _) (hg.tu nd h)
theorem KH:JL B.lv B.N (mF B.T) (mF B.ms) (nd.placed:Nat) B.k0 nd.st=(turns (Gb B) nd).length:=by
 unfold JL tuL;rw[Ib,Ib,ct];rfl
theorem Z8:ZV B.lv B.N (mF B.T) (mF B.ms) (nd.placed:Nat) B.k0 nd.st=nth ((turns (Gb B) nd).map (Aj B.k0)):=by
 rfl
theorem PD{α β:Type}[Row β](f:α->β)(l:List α){j:Nat}{a:α}(h:l[j]?=ae a):nth (l.map f) j=f a:=by
 simp_all [nth,aZ,List.getElem?_map]
theorem Q8(hN:B.N<=62)(nd:Nd SG):(turns (Gb B) nd).length<=124:=by
 have key:∀(l:List Nat),(l.flatMap (uH (Gb B) nd)).length<=2*l.length:=by
  intro l;induction l with
  |nil=>simp |cons a l ih=>
   rw[List.flatMap_cons,bz,List.length_cons];grind [uH,Gb,bz,Nat.le_trans,Nat.add_le_add]
 have:=key (aE B.N);rw[fp] at this;have e:(turns (Gb B) nd).length=(((aE B.N).flatMap (uH (Gb B) nd))).length:=rfl;omega
end
end Go.Pl
namespace Go.Proofs
open Go Go.Sx Go.Pl Go.Gm Go.Bf
theorem asl:nG ah (nY W7) 92 D92:=fun H w nV args φ hon hg hr h=>by
 unfold D92 at h;split at h
 ·rename_i st n g
  obtain ⟨h1,h2⟩:=h;unfold TL at h1;rw[al,al] at h1;match args,hr with
  |[v],⟨rv,_⟩=>
   refine O32 H w [.agg [.sl 4 n g]] [v] φ hon hg ⟨Dk rv ⟨fun _ r=>acJ h1.1 r,trivial⟩,trivial⟩ ?_;exact ⟨h1.2.1,h1.2.2,h2⟩
 ·exact h.elim
section
variable{B:zl}{hs:Sh}{lv:Int}
theorem zo(yT:nG ah (nY W7) 40 (Wu hs lv B))(stop:Nat->List Nat->Bool):oH ah (C7 mD W7 (tK hs lv B) stop):=dZ (fun g F h=>by
 unfold tK at h;grind [ar9,asa,asl]) fun g h=>by
 unfold tK at h;split at h;all_goals first|(cases h;done) |kernel_rfl
end
section
variable{H0:Mem}{w0:World}{φ:Sh->Prop}{B:zl}{Q:Nd SG->Prop}{hs:Sh}{lv:Int}{M:Int×List UInt8->Option Value}{c:Int}
theorem Q9{o:Option Value}(h:mD.zu o=aj):mD.isS o=aj:=by
 cases o with
 |none=>assumption |some v=>rfl
theorem akt(yT:nG ah (nY W7) 40 (Wu hs lv B))(hg:FH B Q)(nd:Nd SG)(hq:Q nd)(acc:List Ie)(hk:acc.length<=1000):
  ∀r j,j+r=(turns (Gb B) nd).length->
  (∀t,((turns (Gb B) nd).drop j).find? (fun t=>mD.zu (M (qm B.k0 t.2)))=ae t->nX ah (C7 mD W7 (tK hs lv B) ny) (K0 H0 w0) 72 Z5 (LE B M c (t.2.placed:Nat) B.k0 t.2.st (acc++[Aq t.1]).length (nth (acc++[Aq t.1]))) (KZ B) emp (up φ))->
  (∃t∈(turns (Gb B) nd).drop j,mD.zu (M (qm B.k0 t.2))=aj)->
  nX ah (C7 mD W7 (tK hs lv B) ny) (K0 H0 w0) 72 tdF (LF B M c (nd.placed:Nat) B.k0 nd.st acc.length (nth acc) (turns (Gb B) nd).length (nth ((turns (Gb B) nd).map (Aj B.k0))) (j:Nat)) (KZ B) emp (up φ)
 |0,j,hj,hnx,⟨t,ht,_⟩=>by
  simp_all
 |r+1,j,hj,hnx,hex=>by
  have hjl:j<(turns (Gb B) nd).length:=by omega
  have hN:(turns (Gb B) nd).length<=124:=Q8 (hg.tu nd hq).le nd;obtain ⟨t,ht⟩:∃t,(turns (Gb B) nd)[j]?=ae t:=⟨_,aD hjl⟩;have hqt:Q t.2:=hg.step nd hq _ (bN.2 ⟨t,bf ht,rfl⟩);have hd:(turns (Gb B) nd).drop j=t::(turns (Gb B) nd).drop (j+1):=by
   grind [cv,aD,bd]
  have htr:nth ((turns (Gb B) nd).map (Aj B.k0)) (mD.toN (j:Int))=Aj B.k0 t:=PD _ _ ht;obtain ⟨tr,etr⟩:∃tr,nth ((turns (Gb B) nd).map (Aj B.k0))=tr:=⟨_,rfl⟩;rw[etr] at htr ⊢;refine wY (fn:=Tryz.f72) (tb:=tbF) (by kernel_rfl) (by kernel_rfl) ?_;have w1:mD.add .i64 (j:Int) (ab 1)=((j+1:Nat):Int):=add1 (by omega);have no {P:Prop} (h:mD.lt (j:Int) (ab (turns (Gb B) nd).length)=ag):P:=by simp_all [mQ]
  have inb:mD.inB (j:Int) (turns (Gb B) nd).length=aj:=by simp[oJ];omega
  have hke:TL 4 (tr (mD.toN (j:Int))).n (tr (mD.toN (j:Int))).g=aj:=by rw[htr];exact hg.ke _ hqt
  have hM:M ((tr (mD.toN (j:Int))).placed,FC (tr (mD.toN (j:Int))).n (tr (mD.toN (j:Int))).g)=M (qm B.k0 t.2):=by rw[htr];rfl
  have rm:mD.room (mD.addN acc.length 1) 16=aj:=by rw[tX,decide_eq_true_eq,qy];unfold maxLen;omega
  cases hb:mD.zu (M (qm B.k0 t.2)) with
  |true=>
   have nx:=hnx t (by simp_all);refine uz (aS _ _) (zo yT _) (hold:=oG) (m:=300) (n:=400) (ts:=[⟨72,tdF,LF B M c (nd.placed:Nat) B.k0 nd.st acc.length (nth acc) (turns (Gb B) nd).length tr 0,KZ B⟩,⟨72,Z5,LE B M c (t.2.placed:Nat) B.k0 t.2.st (acc++[Aq t.1]).length (nth (acc++[Aq t.1])),KZ B⟩]) ?_;refine WB mD W7 B hs lv M c _ _ B.k0 B.k0 nd.st t.2.st _ _ (nth acc) _ _ tr _ 0 (c1:=aj) (c2:=aj) rfl (by grind [Q9]) (by simp_all) (fun _=>inb) (fun _=>hke) (fun _ _ _=>rm) (fun _ _ _=>?_) (fun _ _ q=>by cases q) (fun _ q=>by cases q) (fun q=>no q);exact ⟨⟨rfl,rfl,rfl,rfl,rfl,rfl,congrArg Ei.placed htr,congrArg (fun x:Ei=>ao 4 x.n x.g) htr,by rw[bz];rfl,fun i hi=>zI acc (Aq t.1) _ (by rw[htr];rfl) i hi,trivial⟩,_,rfl,nx⟩
  |false=>
   have nx:=akt yT hg nd hq acc hk r (j+1) (by omega) (fun t' h=>hnx t' (by
    simp_all)) (by
    simp_all)
   rw[etr] at nx;refine uz (aS _ _) (zo yT _) (hold:=oG) (m:=300) (n:=400) (ts:=[⟨72,tdF,LF B M c (nd.placed:Nat) B.k0 nd.st acc.length (nth acc) (turns (Gb B) nd).length tr ((j+1:Nat):Int),KZ B⟩,⟨72,Z5,LE B M c 0 0 noT 0 (nth []),KZ B⟩]) ?_;refine WB mD W7 B hs lv M c _ _ B.k0 0 nd.st noT _ _ (nth acc) _ _ tr _ ((j+1:Nat):Int) (c2:=ag) rfl rfl (by simp_all) (fun _=>inb) (fun _=>hke) (fun _ _ _=>rm) (fun _ _ q=>by cases q) (fun _ _ _=>?_) (fun _ _=>?_) (fun q=>no q)
   ·exact ⟨⟨rfl,rfl,rfl,rfl,rfl,w1,rfl,rfl,rfl,rfl,rfl,rfl,fun _ _=>rfl,trivial⟩,_,rfl,nx⟩
   ·exact ⟨⟨rfl,rfl,rfl,rfl,rfl,w1,rfl,rfl,rfl,rfl,rfl,rfl,fun _ _=>rfl,trivial⟩,_,rfl,nx⟩
def aeG(c:Int)(l:List (Int×Bool)):Sh:=.mV [.agg [.b aj,.sl 2 (l.map Aq).length (mF (nth (l.map Aq))),.i .i64 c],.v .nilIface]
def noSh(c:Int):Sh:=.mV [.agg [.b ag,.sl 2 0 (mF (nth ([]:List Ie))),.i .i64 c],.v .nilIface]
theorem acL(hN:B.N<=62)(nd:Nd SG):mD.eq ((nd.placed:Nat):Int) (mD.sub .i64 (mD.bin .shl .i64 (ab 1) (mD.nH B.N)) (ab 1))=full (Gb B) nd:=by
 have e:mD.sub .i64 (mD.bin .shl .i64 (ab 1) (mD.nH B.N)) (ab 1)=((2^B.N - 1:Nat):Int):=ako hN;rw[e,nC];unfold full;rw[Bool.eq_iff_iff,beq_iff_eq];show _↔decide (nd.placed=2^(Gb B).n - 1)=aj;rw[decide_eq_true_eq];exact ⟨fun e=>dR e,fun e=>congrArg ab e⟩
theorem akv(nd:Nd SG):rk (Gb B) nd<=B.N:=by
 unfold rk;have:=List.countP_le_length (p:=fun i=>nd.placed.testBit i) (l:=aE (Gb B).n);rw[fp] at this;exact this
theorem akw(yT:nG ah (nY W7) 40 (Wu hs lv B))(hg:FH B Q){ld:Nd SG->Bool}(hM:∀nd,mD.zu (M (qm B.k0 nd))=ld nd)
  (hl:∀nd,Q nd->ld nd=aj->full (Gb B) nd=ag->∃t∈turns (Gb B) nd,ld t.2=aj) :
  ∀f (nd:Nd SG) (acc:List (Int×Bool)),Q nd->ld nd=aj->B.N<rk (Gb B) nd+f->acc.length+f<=1000->φ (aeG c (acc++least (Gb B) ld f nd))->
  nX ah (C7 mD W7 (tK hs lv B) ny) (K0 H0 w0) 72 Z5 (LE B M c (nd.placed:Nat) B.k0 nd.st (acc.map Aq).length (nth (acc.map Aq))) (KZ B) emp (up φ)
 |0,nd,acc,hq,hld,hf,hk,hφ=>by
  grind [akv]
 |f+1,nd,acc,hq,hld,hf,hk,hφ=>by
  refine wY (fn:=Tryz.f72) (tb:=tbE) (by kernel_rfl) (by kernel_rfl) ?_;have hN:=(hg.tu nd hq).le;have hfu:=acL hN nd;have h0:mD.le (ab 0) (mD.nH B.N)=aj:=by rfl
  refine uz (aS _ _) (zo yT _) (hold:=oG) (m:=300) (n:=400) (ts:=[⟨72,tdF,LF B M c (nd.placed:Nat) B.k0 nd.st (acc.map Aq).length (nth (acc.map Aq)) (turns (Gb B) nd).length (nth ((turns (Gb B) nd).map (Aj B.k0))) ((0:Nat):Int),KZ B⟩]) ?_;cases hfl:full (Gb B) nd with
  |true=>
   have e:least (Gb B) ld (f+1) nd=[]:=by grind [least]
   rw[e,List.append_nil] at hφ;refine WA mD W7 B hs lv M c _ B.k0 nd.st _ (nth (acc.map Aq)) _ _ (c0:=ag) (by rw[hfu,hfl];rfl) h0 (fun q=>by cases q) (fun q=>by cases q) (fun _=>?_);exact oq (s':=aeG c acc) ⟨⟨.inl rfl,.inr ⟨rfl,rfl,fun _ _=>rfl⟩,rfl,trivial⟩,rfl,trivial⟩ hφ
  |false=>
   obtain ⟨t,ht,hlt⟩:=hl nd hq hld hfl;have nx:=akt (φ:=φ) (c:=c) yT hg nd hq (acc.map Aq) (by grind) (turns (Gb B) nd).length 0 (by omega) (M:=M) (fun x hx=>by
    rw[dE] at hx;have hx1:=List.mem_of_find?_eq_some hx;have hx2:ld x.2=aj:=by grind
    have hn:x.2∈next (Gb B) nd:=bN.2 ⟨x,hx1,rfl⟩;have hr:=Wn _ hn;have hx':(turns (Gb B) nd).find? (fun t=>ld t.2)=ae x:=by
     simp_all
    have e:least (Gb B) ld (f+1) nd=x.1::least (Gb B) ld f x.2:=by simp_all [least]
    rw[e] at hφ;have:=akw yT hg hM hl f x.2 (acc++[x.1]) (hg.step nd hq _ hn) hx2 (by omega) (by simp;omega) (by simp_all);rw[List.map_append] at this;exact this) ⟨t,by assumption,by simp_all⟩
   refine WA mD W7 B hs lv M c _ B.k0 nd.st _ (nth (acc.map Aq)) _ _ (c0:=aj) (by rw[hfu,hfl];rfl) h0 (fun _=>Z7 hg hq rfl) (fun _=>?_) (fun q=>by cases q);exact ⟨⟨rfl,rfl,rfl,by rw[KH,Z8];rfl,by rw[KH];rfl,rfl,rfl,rfl,rfl,rfl,rfl,rfl,fun _ _=>rfl,trivial⟩,_,rfl,nx⟩
theorem akx(yT:nG ah (nY W7) 40 (Wu hs lv B))(hg:FH B Q)(nd:Nd SG)(hq:Q nd){m:Nat}{od:Nat->Na}{i:Int}:
  ∀r j (is:Bool),j+r=(turns (Gb B) nd).length->
  nX ah (C7 mD W7 (tK hs lv B) ny) (K0 H0 w0) 71 TM (LC B m od (CJ (qm B.k0 nd) (ae (.bool (is||((turns (Gb B) nd).drop j).any fun t=>mD.zu (M (qm B.k0 t.2))))) M) c (mD.sub .i64 i (ab 1))) (FD B) emp (up φ)->
  nX ah (C7 mD W7 (tK hs lv B) ny) (K0 H0 w0) 71 Z4 (LD B m od M c i (nd.placed:Nat) B.k0 nd.st is (turns (Gb B) nd).length (nth ((turns (Gb B) nd).map (Aj B.k0))) (j:Nat)) (FD B) emp (up φ)
 |0,j,is,hj,nx=>by
  rw[eh (by omega),List.any_nil,Bool.or_false] at nx;refine wY (fn:=ip) (tb:=tbD) (by kernel_rfl) (by kernel_rfl) ?_;have lt {P:Prop} (h:mD.lt (j:Int) (ab (turns (Gb B) nd).length)=aj):P:=by simp_all [mQ]
  refine uz (aS _ _) (zo yT _) (hold:=oG) (m:=300) (n:=400) (ts:=[⟨71,Z4,LD B m od M c i (nd.placed:Nat) B.k0 nd.st is (turns (Gb B) nd).length (nth ((turns (Gb B) nd).map (Aj B.k0))) 0,FD B⟩,⟨71,TM,LC B m od (CJ (qm B.k0 nd) (ae (.bool is)) M) c (mD.sub .i64 i (ab 1)),FD B⟩]) ?_;exact Wy mD W7 B hs lv M _ m od c i _ B.k0 nd.st is is _ _ j 0 _ rfl rfl rfl (fun q=>lt q) (fun q=>lt q) (fun _=>hg.ke nd hq) (fun q=>lt q) (fun q=>lt q) (fun q=>lt q)
   (fun _=>⟨⟨rfl,rfl,rfl,rfl,rfl,rfl,fun _ _=>rfl,rfl,rfl,rfl,rfl,rfl,trivial⟩,_,rfl,nx⟩)
 |r+1,j,is,hj,nx=>by
  have hjl:j<(turns (Gb B) nd).length:=by omega
  have hN:(turns (Gb B) nd).length<=124:=Q8 (hg.tu nd hq).le nd;obtain ⟨t,ht⟩:∃t,(turns (Gb B) nd)[j]?=ae t:=⟨_,aD hjl⟩;have hqt:Q t.2:=hg.step nd hq _ (bN.2 ⟨t,bf ht,rfl⟩);have hd:(turns (Gb B) nd).drop j=t::(turns (Gb B) nd).drop (j+1):=by
   grind [cv,aD,bd]
  rw[hd,List.any_cons,<-Bool.or_assoc] at nx;have nx:=akx yT hg nd hq r (j+1) (is||mD.zu (M (qm B.k0 t.2))) (by omega) nx;have htr:nth ((turns (Gb B) nd).map (Aj B.k0)) (mD.toN (j:Int))=Aj B.k0 t:=PD _ _ ht;obtain ⟨tr,etr⟩:∃tr,nth ((turns (Gb B) nd).map (Aj B.k0))=tr:=⟨_,rfl⟩;rw[etr] at htr nx ⊢;refine wY (fn:=ip) (tb:=tbD) (by kernel_rfl) (by kernel_rfl) ?_;have w1:mD.add .i64 (j:Int) (ab 1)=((j+1:Nat):Int):=add1 (by omega);have no {P:Prop} (h:mD.lt (j:Int) (ab (turns (Gb B) nd).length)=ag):P:=by simp_all [mQ]
  have inb:mD.inB (j:Int) (turns (Gb B) nd).length=aj:=by simp[oJ];omega
  have hke:TL 4 (tr (mD.toN (j:Int))).n (tr (mD.toN (j:Int))).g=aj:=by rw[htr];exact hg.ke _ hqt
  have hM:M ((tr (mD.toN (j:Int))).placed,FC (tr (mD.toN (j:Int))).n (tr (mD.toN (j:Int))).g)=M (qm B.k0 t.2):=by rw[htr];rfl
  refine uz (aS _ _) (zo yT _) (hold:=oG) (m:=300) (n:=400) (ts:=[⟨71,Z4,LD B m od M c i (nd.placed:Nat) B.k0 nd.st (is||mD.zu (M (qm B.k0 t.2))) (turns (Gb B) nd).length tr ((j+1:Nat):Int),FD B⟩,⟨71,TM,LC B m od M c 0,FD B⟩]) ?_;have fin (b:Bool) (hb:b=(is||mD.zu (M (qm B.k0 t.2)))):yG ah (C7 mD W7 (tK hs lv B) ny) (K0 H0 w0) [⟨71,Z4,LD B m od M c i (nd.placed:Nat) B.k0 nd.st (is||mD.zu (M (qm B.k0 t.2))) (turns (Gb B) nd).length tr ((j+1:Nat):Int),FD B⟩,⟨71,TM,LC B m od M c 0,FD B⟩] emp (up φ) (aK 0 [ap 1 1,aF (fun _=>oV B.lv B.N B.T B.N B.ms B.k0 B.g0) fun _=>oV B.lv B.N B.T B.N B.ms B.k0 B.g0,ap 0 0,ac i i,dU b (is||mD.zu (M (qm B.k0 t.2))),av (ao 4 (turns (Gb B) nd).length (mF tr)) (ao 4 (turns (Gb B) nd).length (mF tr)),ac (ab (turns (Gb B) nd).length) (ab (turns (Gb B) nd).length),ac (mD.add .i64 j (ab 1)) ((j+1:Nat):Int),ac (ab 0) (ab 0),ap m m,ax m (mF od) (mF od),cP M M,ac c c,ac (nd.placed:Nat) (nd.placed:Nat),av (ao 4 B.k0 nd.st) (ao 4 B.k0 nd.st),ap 1 1,aF (fun _=>oV B.lv B.N B.T B.N B.ms B.k0 B.g0) fun _=>oV B.lv B.N B.T B.N B.ms B.k0 B.g0,ap 0 0]):=
   ⟨⟨rfl,rfl,rfl,rfl,hb,rfl,rfl,w1,rfl,rfl,fun _ _=>rfl,rfl,rfl,rfl,rfl,rfl,rfl,rfl,trivial⟩,_,rfl,nx⟩
  refine Wy mD W7 B hs lv M _ m od c i _ B.k0 nd.st is _ _ tr j ((j+1:Nat):Int) _ rfl rfl rfl (fun _=>inb) (fun _ _=>hke) (fun q=>no q) (fun _ q=>?_) (fun _ q q2=>?_) (fun _ q q2=>?_) (fun q=>no q)
  ·simp_all
  ·simp_all
  grind [qm,Q9]
end
end Go.Proofs
namespace Go.Pl
open Go Go.Sx Go.Proofs Go.Gm Go.Bf
def ndQ(k0:Nat)(nd:Nd SG):JM:=⟨(nd.placed:Nat),4,k0,nd.st⟩
noncomputable def FI(k0:Nat)(nd:Nd SG):ZY:=⟨(nd.placed:Nat),FC k0 nd.st⟩
structure QOK(k0:Nat)(o:List (Nd SG))(i at_ q:Nat)(qr:Nat->JM):Prop where
 le:i<=o.length
 len:q=at_+(o.length - i)
 row:∀j nd,o[i+j]?=ae nd->qr (at_+j)=ndQ k0 nd
end Go.Pl
namespace Go.Proofs
open Go Go.Sx Go.Pl Go.Gm Go.Bf
section
variable{H0:Mem}{w0:World}{φ:Sh->Prop}{B:zl}{Q:Nd SG->Prop}{hs:Sh}{lv:Int}{c:Int}
theorem asn{r:Nat}(h:r<=100000):mD.sub .i64 (((r+1:Nat):Int) - 1) (ab 1)=(r:Int) - 1:=by
 have e:mD.sub .i64 (((r+1:Nat):Int) - 1) (ab 1)=aA.wrap (((r+1:Nat):Int) - 1 - 1):=rfl;grind [pI]
theorem aky(yT:nG ah (nY W7) 40 (Wu hs lv B))(hg:FH B Q)(o:List (Nd SG))(ho:∀x∈o,Q x)(hlen:o.length<=100000)
  (hl:∀nd,Q nd->Nc (Gb B) (qm B.k0) o nd=aj->full (Gb B) nd=ag->∃t∈turns (Gb B) nd,Nc (Gb B) (qm B.k0) o t.2=aj)
  (hy:JK (Gb B) (qm B.k0) B.g0 o=aj->φ (aeG c (Dj (Gb B) (qm B.k0) B.g0 o))) (hn:JK (Gb B) (qm B.k0) B.g0 o=ag->φ (noSh c)) :
  ∀r (M:Int×List UInt8->Option Value),r<=o.length->(∀k,mD.zu (M k)=xQ (qm B.k0) (next (Gb B)) (full (Gb B)) (o.drop r) k)->
  nX ah (C7 mD W7 (tK hs lv B) ny) (K0 H0 w0) 71 TM (LC B o.length (nth (o.map (zn B.k0))) M c ((r:Nat) - 1:Int)) (FD B) emp (up φ)
 |0,M,hr,hM=>by
  refine wY (fn:=ip) (tb:=tbC) (by kernel_rfl) (by kernel_rfl) ?_;rw[dE] at hM;have ge {P:Prop} (h:mD.le (ab 0) (((0:Nat):Int) - 1)=aj):P:=by simp[su] at h
  have hN:=(hg.tu _ hg.start).le;have hK:M (ab 0,FC B.k0 B.g0)=M (qm B.k0 ⟨0,B.g0⟩):=rfl;refine uz (aS _ _) (zo yT _) (hold:=oG) (m:=300) (n:=400) (ts:=[⟨71,Z4,LD B o.length (nth (o.map (zn B.k0))) M c (((0:Nat):Int) - 1) 0 0 noT ag 0 (nth []) 0,FD B⟩,⟨72,Z5,LE B M c 0 B.k0 B.g0 0 (nth []),KZ B⟩]) ?_;refine Wx mD W7 B hs lv M _ _ c _ 0 0 noT ag 0 (nth []) (nth []) rfl rfl rfl (fun q=>ge q) (fun q=>ge q) (fun q=>ge q) (fun _=>hg.ke _ hg.start) (fun q=>ge q) (fun _ _ q=>?_) (fun _ _ q=>?_) (fun _ q=>?_)
  ·have hld:JK (Gb B) (qm B.k0) B.g0 o=aj:=by
    rw[hK,hM] at q;exact q
   have hφ:=hy hld;have e:Dj (Gb B) (qm B.k0) B.g0 o=least (Gb B) (Nc (Gb B) (qm B.k0) o) ((Gb B).n+1) (eW B.g0):=if_pos hld;rw[e] at hφ;have nx:=akw (H0:=H0) (w0:=w0) (φ:=φ) (c:=c) (M:=M) yT hg (ld:=Nc (Gb B) (qm B.k0) o) (fun nd=>hM _) hl ((Gb B).n+1) (eW B.g0) [] hg.start hld (by have:(Gb B).n=B.N:=rfl;omega) (by have:(Gb B).n=B.N:=rfl;simp;omega) (by assumption);exact ⟨⟨rfl,rfl,rfl,rfl,rfl,rfl,rfl,rfl,rfl,trivial⟩,_,rfl,nx⟩
  ·refine oq (s':=noSh c) ⟨⟨.inl rfl,.inl ⟨rfl,rfl⟩,rfl,trivial⟩,rfl,trivial⟩ (hn ?_)
   rw[hK,hM] at q;exact q
  ·refine oq (s':=noSh c) ⟨⟨.inl rfl,.inl ⟨rfl,rfl⟩,rfl,trivial⟩,rfl,trivial⟩ (hn ?_)
   have q2:mD.zu (M (qm B.k0 ⟨0,B.g0⟩))=ag:=by
    grind [qm,Q9]
   rw[hM] at q2;exact q2
 |r+1,M,hr,hM=>by
  obtain ⟨nd,hnd⟩:∃nd,o[r]?=ae nd:=⟨_,aD (by omega)⟩;have hq:Q nd:=ho nd (bf hnd);have hN:=(hg.tu nd hq).le;have hd:o.drop r=nd::o.drop (r+1):=by
   grind [cv,aD,bd]
  have hi:mD.toN (((r+1:Nat):Int) - 1)=r:=by rw[pR];omega
  have hod:nth (o.map (zn B.k0)) (mD.toN (((r+1:Nat):Int) - 1))=zn B.k0 nd:=by simp_all [PD]
  have nx:=aky yT hg o ho hlen hl hy hn r (CJ (qm B.k0 nd) (ae (.bool (full (Gb B) nd||((turns (Gb B) nd).drop 0).any fun t=>mD.zu (M (qm B.k0 t.2))))) M) (by omega) (fun k=>by
   have e:(next (Gb B) nd).any (fun t=>xQ (qm B.k0) (next (Gb B)) (full (Gb B)) (o.drop (r+1)) (qm B.k0 t))=((turns (Gb B) nd).drop 0).any fun t=>mD.zu (M (qm B.k0 t.2)):=by
    grind [next,List.any_map]
   rw[hd,xQ,e];unfold CJ;by_cases h:k=qm B.k0 nd
   ·rw[if_pos h,if_pos h.symm];rfl
   grind)
  refine wY (fn:=ip) (tb:=tbC) (by kernel_rfl) (by kernel_rfl) ?_;obtain ⟨od,aso⟩:∃od,nth (o.map (zn B.k0))=od:=⟨_,rfl⟩;rw[aso] at hod nx ⊢;have lt {P:Prop} (h:mD.le (ab 0) (((r+1:Nat):Int) - 1)=ag):P:=by simp_all [su]
  have hD:=akx (H0:=H0) (w0:=w0) (φ:=φ) (c:=c) (M:=M) (m:=o.length) (od:=od) (i:=((r+1:Nat):Int) - 1) yT hg nd hq (turns (Gb B) nd).length 0 (full (Gb B) nd) (by omega) (by grind [asn]);refine uz (aS _ _) (zo yT _) (hold:=oG) (m:=300) (n:=400) (ts:=[⟨71,Z4,LD B o.length od M c (((r+1:Nat):Int) - 1) (nd.placed:Nat) B.k0 nd.st (full (Gb B) nd) (turns (Gb B) nd).length (nth ((turns (Gb B) nd).map (Aj B.k0))) ((0:Nat):Int),FD B⟩,⟨72,Z5,LE B M c 0 B.k0 B.g0 0 (nth []),KZ B⟩]) ?_;refine Wx mD W7 B hs lv M _ od c _ _ _ _ _ _ _ (nth []) rfl rfl rfl (fun _=>by grind [oJ]) (fun _=>by rfl) (fun _=>by rw[hod];exact Z7 hg hq rfl) (fun q=>lt q) (fun _=>?_) (fun q=>lt q) (fun q=>lt q) (fun q=>lt q);exact ⟨⟨rfl,rfl,rfl,rfl,by rw[hod];exact acL hN nd,by rw[hod];show ao 4 (JL B.lv B.N (mF B.T) (mF B.ms) (nd.placed:Nat) B.k0 nd.st) (mF (ZV B.lv B.N (mF B.T) (mF B.ms) (nd.placed:Nat) B.k0 nd.st))=_;rw[KH,Z8],by rw[hod];show ((JL B.lv B.N (mF B.T) (mF B.ms) (nd.placed:Nat) B.k0 nd.st:Nat):Int)=_;rw[KH];rfl,rfl,rfl,rfl,fun _ _=>rfl,rfl,rfl,by rw[hod];rfl,by rw[hod];rfl,rfl,rfl,rfl,trivial⟩,_,rfl,hD⟩
def Z9:Sh:=.mV [.agg [.b ag,.sl 2 0 (fun _=>[]),.i .i64 0],.er 0 329]
theorem getM{o:List (Nd SG)}{k:Int×List UInt8}{k0:Nat}{v:Value}{nd:Nd SG}{M:Int×List UInt8->Option Value}(hM:∀k,mD.isS (M k)=Aa (qm k0) o k):
  ∀k,mD.isS (CJ (qm k0 nd) (ae v) M k)=Aa (qm k0) (o++[nd]) k:=fun k=>by
 unfold CJ;by_cases h:k=qm k0 nd
 ·rw[if_pos h]
  have:Aa (qm k0) (o++[nd]) k=aj:=Em.2 ⟨nd,by simp,h.symm⟩;rw[this];rfl
 ·rw[if_neg h,hM k]
  unfold Aa;grind
theorem akz{k0:Nat}{o:List (Nd SG)}{i at_ q:Nat}{qr:Nat->JM}{nd:Nd SG}(h:QOK k0 o i at_ q qr):QOK k0 (o++[nd]) i at_ (q+1) (fun j=>if j<q then qr j else ndQ k0 nd):=by
 obtain ⟨h1,h2,h3⟩:=h;refine ⟨by grind,by grind,fun j x hx=>?_⟩;grind
theorem akA(yT:nG ah (nY W7) 40 (Wu hs lv B))(hg:FH B Q)(nd:Nd SG)(hq:Q nd){m:Nat}(hm:m<=65536){i:Nat}
  {P:List (Nd SG)->Prop} (hA:∀(o':List (Nd SG)) (M:Int×List UInt8->Option Value) (at_ q:Nat) (qr:Nat->JM),P o'->QOK B.k0 o' i at_ q qr->q<=100000+o'.length->o'.length<=m->(∀k,mD.isS (M k)=Aa (qm B.k0) o' k)->
   nX ah (C7 mD W7 (tK hs lv B) ny) (K0 H0 w0) 39 XJ (LA B (m:Nat) M o'.length (nth (o'.map (FI B.k0))) (at_:Nat) q qr o'.length (nth (o'.map (zn B.k0)))) [] emp (up φ)) :
  ∀r j (o:List (Nd SG)) (M:Int×List UInt8->Option Value) (at_ q:Nat) (qr:Nat->JM),j+r=(turns (Gb B) nd).length->QOK B.k0 o i at_ q qr->q<=100000+o.length->o.length<=m->(∀k,mD.isS (M k)=Aa (qm B.k0) o k)->
   (∀o',uS (qm B.k0) m o (((turns (Gb B) nd).drop j).map (·.2))=ae o'->P o')->(uS (qm B.k0) m o (((turns (Gb B) nd).drop j).map (·.2))=aq->φ Z9)->
   nX ah (C7 mD W7 (tK hs lv B) ny) (K0 H0 w0) 39 Wv (LB B (m:Nat) M o.length (nth (o.map (FI B.k0))) (at_:Nat) q qr o.length (nth (o.map (zn B.k0))) (turns (Gb B) nd).length (nth ((turns (Gb B) nd).map (Aj B.k0))) (j:Nat)) [] emp (up φ)
 |0,j,o,M,at_,q,qr,hj,hQ,hq2,hlo,hM,hP,_=>by
  have hP:=hP o (by rw[eh (by omega)];rfl);have nx:=hA o M at_ q qr hP hQ hq2 hlo hM;refine wY (fn:=jg) (tb:=tbB) (by kernel_rfl) (by kernel_rfl) ?_;have lt {P:Prop} (h:mD.lt (j:Int) (ab (turns (Gb B) nd).length)=aj):P:=by simp_all [mQ]
  refine uz (aS _ _) (zo yT _) (hold:=oG) (m:=300) (n:=400) (ts:=[⟨39,Wv,LB B (m:Nat) M 0 (nth []) (at_:Nat) 0 (fun _=>default) 0 (nth []) (turns (Gb B) nd).length (nth ((turns (Gb B) nd).map (Aj B.k0))) 0,[]⟩,⟨39,XJ,LA B (m:Nat) M o.length (nth (o.map (FI B.k0))) (at_:Nat) q qr o.length (nth (o.map (zn B.k0))),[]⟩]) ?_;exact Ic mD W7 B hs lv _ M M _ 0 _ (nth []) _ q 0 qr _ _ 0 _ (nth []) _ _ j 0 rfl rfl rfl (fun q=>lt q) (fun q=>lt q) (fun q=>lt q) (fun q=>lt q) (fun q=>lt q) (fun q=>lt q) (fun q=>lt q) (fun q=>lt q)
   (fun _=>⟨⟨rfl,rfl,rfl,rfl,rfl,rfl,rfl,rfl,rfl,fun _ _=>rfl,rfl,fun _ _=>rfl,rfl,fun _ _=>rfl,trivial⟩,_,rfl,nx⟩)
 |r+1,j,o,M,at_,q,qr,hj,hQ,hq2,hlo,hM,hP,agi=>by
  have hjl:j<(turns (Gb B) nd).length:=by omega
  have hN:(turns (Gb B) nd).length<=124:=Q8 (hg.tu nd hq).le nd;obtain ⟨t,ht⟩:∃t,(turns (Gb B) nd)[j]?=ae t:=⟨_,aD hjl⟩;have hqt:Q t.2:=hg.step nd hq _ (bN.2 ⟨t,bf ht,rfl⟩);have hd:(turns (Gb B) nd).drop j=t::(turns (Gb B) nd).drop (j+1):=by
   grind [cv,aD,bd]
  rw[hd,dI] at hP agi;have ih:=fun o' M' q' Pz (h1:xB (qm B.k0) m o t.2=ae o')=>akA yT hg nd hq hm hA r (j+1) o' M' at_ q' Pz (by omega);refine wY (fn:=jg) (tb:=tbB) (by kernel_rfl) (by kernel_rfl) ?_;have htr:nth ((turns (Gb B) nd).map (Aj B.k0)) (mD.toN (j:Int))=Aj B.k0 t:=PD _ _ ht;obtain ⟨tr,etr⟩:∃tr,nth ((turns (Gb B) nd).map (Aj B.k0))=tr:=⟨_,rfl⟩;rw[etr] at htr ih ⊢;have w1:mD.add .i64 (j:Int) (ab 1)=((j+1:Nat):Int):=add1 (by omega);have no {P:Prop} (h:mD.lt (j:Int) (ab (turns (Gb B) nd).length)=ag):P:=by simp_all [mQ]
  have inb:mD.inB (j:Int) (turns (Gb B) nd).length=aj:=by simp[oJ];omega
  have hke:TL 4 (tr (mD.toN (j:Int))).n (tr (mD.toN (j:Int))).g=aj:=by rw[htr];exact hg.ke _ hqt
  have hMt:M ((tr (mD.toN (j:Int))).placed,FC (tr (mD.toN (j:Int))).n (tr (mD.toN (j:Int))).g)=M (qm B.k0 t.2):=by rw[htr];rfl
  have rmo:mD.room (mD.addN o.length 1) 32=aj:=by rw[tX,decide_eq_true_eq,qy];unfold maxLen;omega
  have rmc:mD.room (mD.addN o.length 1) 24=aj:=by grind [tX]
  have rmq:mD.room (mD.addN q 1) 32=aj:=by rw[tX,decide_eq_true_eq,qy];unfold maxLen;omega
  cases hb:Aa (qm B.k0) o (qm B.k0 t.2) with
  |true=>
   have hpb:xB (qm B.k0) m o t.2=ae o:=if_pos hb;have nx:=ih o M q qr hpb hQ hq2 hlo hM (fun o' h=>hP o' (by simp_all [uS])) (fun h=>agi (by simp_all [uS]));refine uz (aS _ _) (zo yT _) (hold:=oG) (m:=300) (n:=400) (ts:=[⟨39,Wv,LB B (m:Nat) M o.length (nth (o.map (FI B.k0))) (at_:Nat) q qr o.length (nth (o.map (zn B.k0))) (turns (Gb B) nd).length tr ((j+1:Nat):Int),[]⟩,⟨39,XJ,LA B (m:Nat) M o.length (nth (o.map (FI B.k0))) (at_:Nat) q qr o.length (nth (o.map (zn B.k0))),[]⟩]) ?_;exact Ic mD W7 B hs lv _ M M _ _ _ (nth (o.map (FI B.k0))) _ q q qr qr _ _ _ (nth (o.map (zn B.k0))) _ tr j ((j+1:Nat):Int) (c1:=aj) rfl (by grind) rfl (fun _=>inb) (fun _=>hke) (fun _ q=>by cases q) (fun _ q=>by cases q) (fun _ q=>by cases q)
    (fun _ _=>⟨⟨rfl,rfl,rfl,rfl,rfl,rfl,w1,rfl,rfl,rfl,rfl,rfl,fun _ _=>rfl,rfl,fun _ _=>rfl,rfl,fun _ _=>rfl,trivial⟩,_,rfl,nx⟩) (fun _ q=>by cases q) (fun _ q=>by cases q) (fun q=>no q)
  |false=>
   have hc:mD.eq (mD.nH o.length) ((m:Nat):Int)=decide (o.length=m):=by
    grind [nC,nI,decide_eq_true,decide_eq_false,beq_eq_false_iff_ne,dR]
   by_cases hml:o.length=m
   ·refine uz (aS _ _) (zo yT _) (hold:=oG) (m:=300) (n:=400) (ts:=[⟨39,Wv,LB B (m:Nat) M o.length (nth (o.map (FI B.k0))) (at_:Nat) q qr o.length (nth (o.map (zn B.k0))) (turns (Gb B) nd).length tr ((j+1:Nat):Int),[]⟩,⟨39,XJ,LA B (m:Nat) M o.length (nth (o.map (FI B.k0))) (at_:Nat) q qr o.length (nth (o.map (zn B.k0))),[]⟩]) ?_
    exact Ic mD W7 B hs lv _ M M _ _ _ (nth (o.map (FI B.k0))) _ q q qr qr _ _ _ (nth (o.map (zn B.k0))) _ tr j ((j+1:Nat):Int) (c1:=ag) (c2:=aj) rfl (by simp_all) (by simp_all) (fun _=>inb) (fun _=>hke) (fun _ _ q=>by cases q) (fun _ _ q=>by cases q) (fun _ _ q=>by cases q)
     (fun _ q=>by cases q) (fun _ _ _=>oq (s':=Z9) ⟨⟨.inl rfl,.inl ⟨rfl,rfl⟩,rfl,trivial⟩,rfl,trivial⟩ (agi (by simp_all [uS,xB]))) (fun _ _ q=>by cases q) (fun q=>no q)
   ·have hpb:xB (qm B.k0) m o t.2=ae (o++[t.2]):=by
     grind [xB]
    have nx:=ih (o++[t.2]) (CJ (qm B.k0 t.2) (ae (.int .i64 (mD.nH o.length))) M) (q+1) (fun j=>if j<q then qr j else ndQ B.k0 t.2) hpb (akz hQ) (by grind) (by grind) (getM (k:=qm B.k0 t.2) hM) (fun o' h=>hP o' (by simp_all [uS])) (fun h=>agi (by simp_all [uS]));refine uz (aS _ _) (zo yT _) (hold:=oG) (m:=300) (n:=400) (ts:=[⟨39,Wv,LB B (m:Nat) (CJ (qm B.k0 t.2) (ae (.int .i64 (mD.nH o.length))) M) (o++[t.2]).length (nth ((o++[t.2]).map (FI B.k0))) (at_:Nat) (q+1) (fun j=>if j<q then qr j else ndQ B.k0 t.2) (o++[t.2]).length (nth ((o++[t.2]).map (zn B.k0))) (turns (Gb B) nd).length tr ((j+1:Nat):Int),[]⟩,⟨39,XJ,LA B (m:Nat) M o.length (nth (o.map (FI B.k0))) (at_:Nat) q qr o.length (nth (o.map (zn B.k0))),[]⟩]) ?_;refine Ic mD W7 B hs lv _ M _ _ _ _ _ _ q _ qr _ _ _ (nth (o.map (zn B.k0))) _ _ tr j ((j+1:Nat):Int) (c1:=ag) (c2:=ag) rfl (by grind) (by grind) (fun _=>inb) (fun _=>hke) (fun _ _ _=>rmc) (fun _ _ _=>rmq) (fun _ _ _=>rmo)
     (fun _ q=>by cases q) (fun _ _ q=>by cases q) (fun _ _ _=>?_) (fun q=>no q)
    have aoz:(o++[t.2]).length=mD.addN o.length 1:=by rw[bz];rfl
    refine ⟨⟨rfl,rfl,rfl,rfl,rfl,rfl,w1,rfl,?_,rfl,rfl,aoz.symm,fun i hi=>?_,rfl,fun i hi=>?_,aoz.symm,fun i hi=>?_,trivial⟩,_,rfl,nx⟩
    ·show CJ ((tr (mD.toN (j:Int))).placed,FC (tr (mD.toN (j:Int))).n (tr (mD.toN (j:Int))).g) _ M=_
     rw[htr];rfl
    ·have:=zI (o.map (FI B.k0)) (FI B.k0 t.2) [az .i64 (tr (mD.toN (j:Int))).placed,aR (FC (tr (mD.toN (j:Int))).n (tr (mD.toN (j:Int))).g)] (by rw[htr];rfl) i (by grind)
     grind
    ·rw[tY]
     show _=Row.put (if i<q then qr i else ndQ B.k0 t.2);split
     ·rfl
     ·have:i - q=0:=by have:i<q+1:=hi;omega
      rw[this,htr];rfl
    ·have:=zI (o.map (zn B.k0)) (zn B.k0 t.2) [az .i64 (tr (mD.toN (j:Int))).placed,ao 4 (tr (mD.toN (j:Int))).n (tr (mD.toN (j:Int))).g] (by rw[htr];rfl) i (by grind)
     grind
theorem loopA(yT:nG ah (nY W7) 40 (Wu hs lv B))(hg:FH B Q){m:Nat}(hm:m<=65536)
  (hC:∀o:List (Nd SG),uV (Gb B) (qm B.k0) B.g0 m=ae o->nX ah (C7 mD W7 (tK hs lv B) ny) (K0 H0 w0) 71 TM (LC B o.length (nth (o.map (zn B.k0))) (fun _=>aq) (o.length:Nat) (mD.sub .i64 (mD.nH o.length) (ab 1))) (FD B) emp (up φ)) :
  ∀f i (o:List (Nd SG)) (M:Int×List UInt8->Option Value) (at_ q:Nat) (qr:Nat->JM),m<i+f->(∀x∈o,Q x)->QOK B.k0 o i at_ q qr->q<=100000+o.length->o.length<=m->(∀k,mD.isS (M k)=Aa (qm B.k0) o k)->
   (∀r,Di (qm B.k0) (next (Gb B)) m f o i=ae r->uV (Gb B) (qm B.k0) B.g0 m=ae r)->(Di (qm B.k0) (next (Gb B)) m f o i=aq->φ Z9)->
   nX ah (C7 mD W7 (tK hs lv B) ny) (K0 H0 w0) 39 XJ (LA B (m:Nat) M o.length (nth (o.map (FI B.k0))) (at_:Nat) q qr o.length (nth (o.map (zn B.k0)))) [] emp (up φ)
 |f,i,o,M,at_,q,qr,hf,ho,hQ,hq2,hlo,hM,hr,hr0=>by
  refine wY (fn:=jg) (tb:=tbA) (by kernel_rfl) (by kernel_rfl) ?_;have hil:=hQ.le;have hql:=hQ.len;by_cases hi:i=o.length
  ·
   have hb:Di (qm B.k0) (next (Gb B)) m f o i=ae o:=by
    cases f with
    |zero=>rfl |succ f=>
     grind [Di,List.getElem?_eq_none]
   have hp:=hr o hb;have nx:=hC o hp;have hat:mD.eq (at_:Int) (mD.nH q)=aj:=by
    simp_all [nC,nI]
   refine uz (aS _ _) (zo yT _) (hold:=oG) (m:=300) (n:=400) (ts:=[⟨39,Wv,LB B (m:Nat) M o.length (nth (o.map (FI B.k0))) 0 0 (fun _=>default) o.length (nth (o.map (zn B.k0))) 0 (nth []) 0,[]⟩,⟨71,TM,LC B o.length (nth (o.map (zn B.k0))) (fun _=>aq) (o.length:Nat) (mD.sub .i64 (mD.nH o.length) (ab 1)),FD B⟩]) ?_;exact Nj mD W7 B hs lv _ M _ (nth (o.map (FI B.k0))) _ q qr _ (nth (o.map (zn B.k0))) 0 0 (fun _=>default) 0 (nth []) _ _ _ (c0:=aj) hat rfl rfl (fun q=>by cases q) (fun q=>by cases q) (fun q=>by cases q)
    (fun _=>⟨⟨rfl,rfl,rfl,rfl,rfl,rfl,fun _ _=>rfl,rfl,rfl,rfl,rfl,rfl,trivial⟩,_,rfl,nx⟩) (fun q=>by cases q) (fun q=>by cases q) (fun q=>by cases q) (fun q=>by cases q)
  ·obtain ⟨nd,hnd⟩:∃nd,o[i]?=ae nd:=⟨_,aD (by omega)⟩
   have hq:Q nd:=ho nd (bf hnd);have hrow:=hQ.row 0 nd hnd;rw[Nat.add_zero] at hrow;have hqr:qr (mD.toN (at_:Int))=ndQ B.k0 nd:=hrow;cases f with
   |zero=>omega |succ f=>
    rw[Di,hnd] at hr hr0;have hN:=(hg.tu nd hq).le;have inb:mD.inB (at_:Int) q=aj:=by grind [oJ]
    have ne:mD.eq (at_:Int) (mD.nH q)=ag:=by
     grind [nC,nI,beq_eq_false_iff_ne,dR]
    have w1:mD.add .i64 (at_:Int) (ab 1)=((at_+1:Nat):Int):=by
     show aA.wrap ((at_:Int)+1)=_;grind [pI]
    have htu:ZU B.lv B.N (mF B.T) B.N (mF B.ms) (qr (mD.toN (at_:Int))).placed (qr (mD.toN (at_:Int))).st (qr (mD.toN (at_:Int))).n (qr (mD.toN (at_:Int))).g=aj:=by
     rw[hqr];exact Z7 hg hq rfl
    have e1:ao 4 (JL B.lv B.N (mF B.T) (mF B.ms) (qr (mD.toN (at_:Int))).placed (qr (mD.toN (at_:Int))).n (qr (mD.toN (at_:Int))).g) (mF (ZV B.lv B.N (mF B.T) (mF B.ms) (qr (mD.toN (at_:Int))).placed (qr (mD.toN (at_:Int))).n (qr (mD.toN (at_:Int))).g))=ao 4 (turns (Gb B) nd).length (mF (nth ((turns (Gb B) nd).map (Aj B.k0)))):=by
     rw[hqr];show ao 4 (JL B.lv B.N (mF B.T) (mF B.ms) (nd.placed:Nat) B.k0 nd.st) (mF (ZV B.lv B.N (mF B.T) (mF B.ms) (nd.placed:Nat) B.k0 nd.st))=_;rw[KH,Z8]
    have e2:mD.nH (JL B.lv B.N (mF B.T) (mF B.ms) (qr (mD.toN (at_:Int))).placed (qr (mD.toN (at_:Int))).n (qr (mD.toN (at_:Int))).g)=ab (turns (Gb B) nd).length:=by
     rw[hqr];show mD.nH (JL B.lv B.N (mF B.T) (mF B.ms) (nd.placed:Nat) B.k0 nd.st)=_;rw[KH];rfl
    have hLB:=fun (at' q':Nat) (Pz:Nat->JM) (h:QOK B.k0 o (i+1) at' q' Pz) (h2:q'<=100000+o.length)=>
     akA (H0:=H0) (w0:=w0) (φ:=φ) yT hg nd hq hm (i:=i+1) (P:=fun o'=>(∀x∈o',Q x)/\(∀r,Di (qm B.k0) (next (Gb B)) m f o' (i+1)=ae r->uV (Gb B) (qm B.k0) B.g0 m=ae r)/\(Di (qm B.k0) (next (Gb B)) m f o' (i+1)=aq->φ Z9))
      (fun o' M' asr q'' asu hP hQ' hq' asv hM'=>loopA yT hg hm hC f (i+1) o' M' asr q'' asu (by omega) hP.1 hQ' hq' asv hM' hP.2.1 hP.2.2)
      (turns (Gb B) nd).length 0 o M at' q' Pz (by omega) h h2 hlo hM (fun o' h=>by
       rw[dE] at h;have h:uS (qm B.k0) m o (next (Gb B) nd)=ae o':=h;(refine ⟨KG h ho (hg.step nd hq),fun r hb=>hr r ?_,fun hb=>hr0 ?_⟩)<;>simp_all) (fun h=>hr0 (by
       simp_all [dE,next,Gb]))
    by_cases hlast:at_+1=q
    ·have hc1:mD.eq (mD.add .i64 (at_:Int) (ab 1)) (mD.nH q)=aj:=by grind [nC,nI]
     have nx:=hLB 0 0 (fun _=>default) ⟨by omega,by omega,fun j x hx=>by simp_all⟩ (by omega);refine uz (aS _ _) (zo yT _) (hold:=oG) (m:=300) (n:=400) (ts:=[⟨39,Wv,LB B (m:Nat) M o.length (nth (o.map (FI B.k0))) ((0:Nat):Int) 0 (fun _=>default) o.length (nth (o.map (zn B.k0))) (turns (Gb B) nd).length (nth ((turns (Gb B) nd).map (Aj B.k0))) ((0:Nat):Int),[]⟩,⟨71,TM,LC B o.length (nth (o.map (zn B.k0))) (fun _=>aq) (o.length:Nat) 0,FD B⟩]) ?_;exact Nj mD W7 B hs lv _ M _ (nth (o.map (FI B.k0))) _ q qr _ (nth (o.map (zn B.k0))) _ 0 (fun _=>default) _ _ _ _ _ (c0:=ag) (c1:=aj) ne hc1 rfl (fun _=>inb) (fun _ _ _=>htu) (fun _ q=>by cases q)
      (fun q=>by cases q) (fun _ _ q=>by cases q) (fun _ _ _=>⟨⟨rfl,rfl,rfl,rfl,e1,e2,rfl,rfl,rfl,rfl,rfl,rfl,fun _ _=>rfl,rfl,rfl,fun _ _=>rfl,trivial⟩,_,rfl,nx⟩) (fun _ q=>by cases q) (fun _ q=>by cases q)
    ·have hc1:mD.eq (mD.add .i64 (at_:Int) (ab 1)) (mD.nH q)=ag:=by
      grind [nC,nI,beq_eq_false_iff_ne,dR]
     have nx:=hLB (at_+1) q (fun j=>if j=at_ then ⟨0,0,0,fun _=>[]⟩ else qr j) ⟨by omega,by omega,fun j x hx=>by
      show (if at_+1+j=at_ then _ else qr (at_+1+j))=_;rw[if_neg (by omega)];have:=hQ.row (j+1) x (by grind);grind⟩ hq2
     refine uz (aS _ _) (zo yT _) (hold:=oG) (m:=300) (n:=400) (ts:=[⟨39,Wv,LB B (m:Nat) M o.length (nth (o.map (FI B.k0))) ((at_+1:Nat):Int) q (fun j=>if j=at_ then ⟨0,0,0,fun _=>[]⟩ else qr j) o.length (nth (o.map (zn B.k0))) (turns (Gb B) nd).length (nth ((turns (Gb B) nd).map (Aj B.k0))) ((0:Nat):Int),[]⟩,⟨71,TM,LC B o.length (nth (o.map (zn B.k0))) (fun _=>aq) (o.length:Nat) 0,FD B⟩]) ?_;refine Nj mD W7 B hs lv _ M _ (nth (o.map (FI B.k0))) _ q qr _ (nth (o.map (zn B.k0))) _ q _ _ _ _ _ _ (c0:=ag) (c1:=ag) ne hc1 rfl (fun _=>inb) (fun _ q=>by cases q) (fun _ _ _=>htu)
      (fun q=>by cases q) (fun _ q=>by cases q) (fun _ q=>by cases q) (fun _ _ q=>by cases q) (fun _ _ _=>⟨⟨rfl,rfl,rfl,rfl,e1,e2,rfl,rfl,rfl,rfl,w1,rfl,fun _ _=>rfl,rfl,fun j hj=>?_,rfl,fun _ _=>rfl,trivial⟩,_,rfl,nx⟩)
     show (if j=at_ then (mF qr j).take 0++[az .i64 (ab 0),ao 0 0 fun _=>[]]++(mF qr j).drop (0+2) else mF qr j)=Row.put (if j=at_ then (⟨0,0,0,fun _=>[]⟩:JM) else qr j);split
     ·rfl
     ·rfl
end
end Go.Proofs
namespace Go.Pl
open Go Go.Sx Go.Proofs
structure JO where
 okb:Bool
 xC:Bool
 pos:Int
 e:Nat
 n:Nat
 T:Nat->rU
noncomputable def aoA(s h:Sh):Bool:=@decide (s=h) (aB _)
def PE(st lv:Int):Bool:=if lv=1\/lv=2 then st==3||st==2 else lv==3
def PG(en bg:Int):Bool:=decide (0<=en)&&decide (en<bg)
def tC(lv:Int)(n:Nat)(T:Nat->rU):List rU:=((aE n).map T).filter fun t=>PE t.st lv
def BP(lv bg:Int):Nat->List rU->Nat->Nat
 |_,[],m=>m |i,a::l,m=>BP lv bg (i+1) l (if lv≠1/\PG a.en bg=aj then m|||1<<<i else m)
def Rh(lv:Int)(l:List rU)(k:Nat):Int:=(BP lv (nth l k).bg 0 l 0:Nat)
noncomputable def mkP(lv:Int)(n:Nat)(T:Nat->List Sh):Bool:=okB rU n T&&(decide (1<=lv)&&(decide (lv<=3)&&decide (n<=62)))
def mkN(lv:Int)(n:Nat)(T:Nat->List Sh):Nat:=(tC lv n (mJ T)).length
def mkR(lv:Int)(n:Nat)(T:Nat->List Sh):Nat->Int:=Rh lv (tC lv n (mJ T))
def nwB(n:Nat)(g:Nat->List Sh):Bool:=okB Oj n g&&(Hz n (mJ g)&&(!JA n&&Ef n (mJ g)))
def yA(g:Nat->List Sh):Nat->List Sh:=pz (newT (mJ g))
end Go.Pl
namespace Go.Proofs
open Go Go.Sx Go.Pl
noncomputable def D20(hs:Sh)(B:JO):List Sh->Tree Sh
 |[s]=>.need (aoA s hs) (.node B.okb (.leaf (.mV [.sl 7 B.n (mF B.T),.v .nilIface]))
   (.node B.xC (.leaf (.mV [.sl 0 0 (fun _=>[]),.pV 109 (.pt [.i .i64 B.pos,.er B.e 329])])) (.leaf (.mV [.sl 0 0 (fun _=>[]),.er B.e 329]))))
 |_=>.fail
noncomputable def D73:List Sh->Tree Sh
 |[.agg l,t]=>match Row.get (α:=rU) l,nR t with
  |some x,ae lv=>.leaf (.b (PE x.st lv)) |_,_=>.fail
 |_=>.fail
noncomputable def D94:List Sh->Tree Sh
 |[.agg l,.agg r]=>match Row.get (α:=rU) l,Row.get (α:=rU) r with
  |some x,ae y=>.leaf (.b (PG x.en y.bg)) |_,_=>.fail
 |_=>.fail
noncomputable def D74:List Sh->Tree Sh
 |[s,t]=>match sD 7 s,nR t with
  |some (n,T),ae lv=>.need (mkP lv n T) (.leaf (.mV [.sl 1 (mkN lv n T) (mF (mkR lv n T)),.v .nilIface])) |_,_=>.fail
 |_=>.fail
noncomputable def D75:List Sh->Tree Sh
 |[s]=>match sD 2 s with
  |some (n,g)=>.need (nwB n g) (.leaf (.mV [.agg [.sl 4 n (yA g)],.v .nilIface])) |none=>.fail
 |_=>.fail
noncomputable def Ig(hs:Sh)(B:JO):Nat->Option (List Sh->Tree Sh)
 |20=>ae (D20 hs B) |73=>ae D73 |74=>ae D74 |75=>ae D75 |_=>aq
noncomputable def yB:Nat->Option (List Sh->Tree Sh)
 |73=>ae D73 |94=>ae D94 |_=>aq
def Tc:List It:=[aH [0,1,0,1,1,1,1,1],aW 0,aH [1,1,1,1,1,1]]
def akB:List It:=aH [0,0,1,0,1,1,1,1,1]::Tc
def Td(o m:Nat)(og mg:Nat->List Sh)(lv:Int)(n:Nat)(T:Nat->rU)(c:Nat)(cr:Nat->rU)(i:Int):Core:=
 {tm:=vZ 71 [(1,.sym .i64 lv),(2,.ptr 0 0),(6,.sh (.sl 7 n (mF T))),(8,.ptr 1 0),(26,.sh (.sl 7 n (mF T))),(27,.sym .i64 (n:Int)),(28,.sym .i64 i)],hp:=[(0,.box [.sh (.sl 2 o og),.sh (.sl 8 m mg)] 25),(1,.box [.sym .i64 lv,.gs 2,.nD,.nD] 102),(2,.own 115 7 c (mF cr))],nx:=3,lim:=L0,tc:=[]}
def Tf:List It:=[aH [0,1,0,1,1,1],aW 0,aH [1,1,1,1]]
def akC:List It:=aH [0,0,1,0,1,1,1]::Tf
def Ti(lv:Int)(n:Nat)(T:Nat->rU)(c:Nat)(cr:Nat->rU)(i:Int):Core:=
 {tm:=vZ 74 [(1,.sym .i64 lv),(6,.gs 0),(21,.sh (.sl 7 n (mF T))),(22,.sym .i64 (n:Int)),(23,.sym .i64 i)],hp:=[(0,.own 115 7 c (mF cr))],nx:=1,lim:=L0,tc:=[]}
def CB:List It:=[aH [0,1,0,1,1,1,1,1,1],aW 2,aH [1,1,1,1,1,1,1]]
def aeK:List It:=aH [0,0,1,0,1,1,1,1,1,1]::CB
def IK(lv:Int)(c:Nat)(cr:Nat->rU)(n:Nat)(o:Nat->Int)(k:Int):Core:=
 {tm:=vZ 74 [(1,.sym .i64 lv),(6,.gs 0),(9,.gs 1),(42,.gs 0),(43,.sym .i64 (c:Int)),(44,.sym .i64 k)],hp:=[(0,.own 115 7 c (mF cr)),(1,.own 3 1 n (mF o))],nx:=2,lim:=L0,tc:=[]}
def FK:List It:=[aH [0,1,1,0,0,1,1,0,0,1,0,1,1,1,1,1,1],aW 4,aW 3,aH [1,1,1,0,0,1,0,1,1,1,1,1,1],aH [0,1,0,1,1,1,1,1,1],aW 2,aH [1,1,1,1,1,1,1]]
def aeL:List It:=aH [0,0,1,1,0,0,1,1,0,0,1,0,1,1,1,1,1,1]::FK
def Lm(lv:Int)(c:Nat)(cr:Nat->rU)(n:Nat)(o:Nat->Int)(k:Int)(b:rU)(i:Int):Core:=
 {tm:=vZ 74 [(1,.sym .i64 lv),(6,.gs 0),(9,.gs 1),(10,.sym .i64 k),(11,.ptr 2 0),(42,.gs 0),(43,.sym .i64 (c:Int)),(44,.sym .i64 k),(49,.gs 0),(50,.sym .i64 (c:Int)),(51,.sym .i64 i)],hp:=[(0,.own 115 7 c (mF cr)),(1,.own 3 1 n (mF o)),(2,.box [.sym .i64 b.id,.sym .i64 b.th,.sym .i64 b.st,.sym .i64 b.bg,.sym .i64 b.en,.sym .i64 b.tr,.sh (.sl 8 b.k b.g)] 115)],nx:=3,lim:=L0,tc:=[]}
theorem aeM(A:Prim)(W:Wd)(B:JO)(lv:Int)(o m:Nat)(og mg:Nat->List Sh)(cr:Nat->rU)(i':Int){ψ:rQ->Prop}{c0 c1 c2:Bool}(e0:B.okb=c0)(e1:A.lt (ab 12) (A.nH B.n)=c1)(e2:B.xC=c2)(h1:(aoA (aN [ao 2 o og,ao 8 m mg]) (aN [ao 2 o og,ao 8 m mg]))=aj)(y1:c0=aj->c1=aj->ψ (ay (aQ [cT (bU aq),aC 1 329])))(y2:c0=aj->c1=ag->ψ (aK 0 [ac lv lv,av (ao 7 B.n (mF B.T)) (ao 7 B.n (mF B.T)),av (ao 7 B.n (mF B.T)) (ao 7 B.n (mF B.T)),ac (A.nH B.n) (ab B.n),ac (ab 0) i',av (ao 2 o og) (ao 2 o og),av (ao 8 m mg) (ao 8 m mg),ac lv lv,ap 0 0]))(y3:c0=ag->c2=aj->ψ (ay (aQ [cT (bU aq),Sh.pV 109 (Sh.pt [az .i64 B.pos,aC B.e 329])])))(y4:c0=ag->c2=ag->ψ (ay (aQ [cT (bU aq),aC B.e 329]))):qA ψ (nZ (C7 A W (Ig (.agg [.sl 2 o og,.sl 8 m mg]) B) ny) oG 300 400 40 [.code []] (mM 71 [.agg [.sl 2 o og,.sl 8 m mg],.i .i64 lv] L0) [] [⟨40,Tc,Td o m og mg lv B.n B.T 0 cr i',[]⟩]):=by
 subst e0 e1 e2;exact um (an h1 (an (fun q0=>an (y1 q0) (y2 q0)) (fun q0=>an (y3 q0) (y4 q0)))) (by kernel_rfl)
theorem Nk(A:Prim)(W:Wd)(hs:Sh)(B:JO)(lv:Int)(o m:Nat)(og mg:Nat->List Sh)(n:Nat)(T:Nat->rU)(c c':Nat)(cr KY:Nat->rU)(i i':Int){ψ:rQ->Prop}{c0 c1:Bool}(e0:A.lt i (ab n)=c0)(e1:PE (T (A.toN i)).st lv=c1)(h1:c0=aj->(A.inB i n)=aj)(h2:c0=aj->c1=aj->(A.room (A.addN c 1) 72)=aj)(h3:c0=ag->(mkP lv n (mF T))=aj)(h4:c0=ag->(nwB o og)=aj)(y1:c0=aj->c1=aj->ψ (aK 0 [ac lv lv,av (ao 7 n (mF T)) (ao 7 n (mF T)),av (ao 7 n (mF T)) (ao 7 n (mF T)),ac (ab n) (ab n),ac (A.add .i64 i (ab 1)) i',av (ao 2 o og) (ao 2 o og),av (ao 8 m mg) (ao 8 m mg),ac lv lv,ap (A.addN c 1) c',ax (A.addN c 1) (A.snoc (mF cr) c (nM [[az .i64 (T (A.toN i)).id,az .i64 (T (A.toN i)).th,az .i64 (T (A.toN i)).st,az .i64 (T (A.toN i)).bg,az .i64 (T (A.toN i)).en,az .i64 (T (A.toN i)).tr,ao 8 (T (A.toN i)).k (T (A.toN i)).g]])) (mF KY)]))(y2:c0=aj->c1=ag->ψ (aK 0 [ac lv lv,av (ao 7 n (mF T)) (ao 7 n (mF T)),av (ao 7 n (mF T)) (ao 7 n (mF T)),ac (ab n) (ab n),ac (A.add .i64 i (ab 1)) i',av (ao 2 o og) (ao 2 o og),av (ao 8 m mg) (ao 8 m mg),ac lv lv,ap c c',ax c (mF cr) (mF KY)]))(y3:c0=ag->ψ (ay (aQ [Sh.pt [az .i64 lv,ao 7 c (mF cr),ao 1 (mkN lv n (mF T)) (mF (mkR lv n (mF T))),ao 4 o (yA og)],cT aI]))):qA ψ (nZ (C7 A W (Ig hs B) ny) oG 300 400 40 akB (Td o m og mg lv n T c cr i) [] [⟨40,Tc,Td o m og mg lv n T c' KY i',[]⟩]):=by
 subst e0 e1;exact acB (by kernel_rfl) (an (fun q0=>an (h1 q0) (an (fun q1=>an (h2 q0 q1) (an (h2 q0 q1) (y1 q0 q1))) (y2 q0))) (fun q0=>an (h3 q0) (an (h4 q0) (y3 q0)))) (by kernel_rfl)
theorem aeN(A:Prim)(W:Wd)(lv:Int)(n:Nat)(T:Nat->rU)(KY:Nat->rU)(i':Int){ψ:rQ->Prop}{c0 c1:Bool}(e0:A.lt lv (ab 1)=c0)(e1:A.lt (ab 3) lv=c1)(y1:c0=aj->ψ (ay (aQ [ao 0 0 fun _=>[],aC 2 329])))(y2:c0=ag->c1=aj->ψ (ay (aQ [ao 0 0 fun _=>[],aC 2 329])))(y3:c0=ag->c1=ag->ψ (aK 0 [ac lv lv,av (ao 7 n (mF T)) (ao 7 n (mF T)),ac (A.nH n) (ab n),ac (ab 0) i',ap 0 0])):qA ψ (nZ (C7 A W yB ny) oG 300 400 74 [.code []] (mM 74 [.sl 7 n (mF T),.i .i64 lv] L0) [] [⟨74,Tf,Ti lv n T 0 KY i',[]⟩]):=by
 subst e0 e1;exact um (an y1 (fun q0=>an (y2 q0) (y3 q0))) (by kernel_rfl)
theorem Nl(A:Prim)(W:Wd)(lv:Int)(n:Nat)(T:Nat->rU)(c c':Nat)(cr KY:Nat->rU)(i i':Int)(m':Nat)(o':Nat->Int){ψ:rQ->Prop}{c0 c1 c2:Bool}(e0:A.lt i (ab n)=c0)(e1:PE (T (A.toN i)).st lv=c1)(e2:A.lt (ab 62) (A.nH c)=c2)(h1:c0=aj->(A.inB i n)=aj)(h2:c0=aj->c1=aj->(A.room (A.addN c 1) 72)=aj)(h3:c0=ag->c2=ag->(A.le (ab 0) (A.nH c))=aj)(h4:c0=ag->c2=ag->(A.room (A.toN (A.nH c)) 8)=aj)(y1:c0=aj->c1=aj->ψ (aK 0 [ac lv lv,av (ao 7 n (mF T)) (ao 7 n (mF T)),ac (ab n) (ab n),ac (A.add .i64 i (ab 1)) i',ap (A.addN c 1) c',ax (A.addN c 1) (A.snoc (mF cr) c (nM [[az .i64 (T (A.toN i)).id,az .i64 (T (A.toN i)).th,az .i64 (T (A.toN i)).st,az .i64 (T (A.toN i)).bg,az .i64 (T (A.toN i)).en,az .i64 (T (A.toN i)).tr,ao 8 (T (A.toN i)).k (T (A.toN i)).g]])) (mF KY)]))(y2:c0=aj->c1=ag->ψ (aK 0 [ac lv lv,av (ao 7 n (mF T)) (ao 7 n (mF T)),ac (ab n) (ab n),ac (A.add .i64 i (ab 1)) i',ap c c',ax c (mF cr) (mF KY)]))(y3:c0=ag->c2=aj->ψ (ay (aQ [ao 0 0 fun _=>[],aC 1 329])))(y4:c0=ag->c2=ag->ψ (aK 1 [ac lv lv,ac (A.nH c) (ab c),ac (ab 0) (ab 0),ap c c,ax c (mF cr) (mF cr),ap (A.toN (A.nH c)) m',ax (A.toN (A.nH c)) (fun (x:Nat)=>[az .i64 (ab 0)]) (mF o')])):qA ψ (nZ (C7 A W yB ny) oG 300 400 74 akC (Ti lv n T c cr i) [] [⟨74,Tf,Ti lv n T c' KY i',[]⟩,⟨74,CB,IK lv c cr m' o' 0,[]⟩]):=by
 subst e0 e1 e2;exact um (an (fun q0=>an (h1 q0) (an (fun q1=>an (h2 q0 q1) (y1 q0 q1)) (y2 q0))) (fun q0=>an (y3 q0) (fun q1=>an (h3 q0 q1) (an (h4 q0 q1) (y4 q0 q1))))) (by kernel_rfl)
theorem WC(A:Prim)(W:Wd)(lv:Int)(c:Nat)(cr:Nat->rU)(n:Nat)(o:Nat->Int)(k:Int)(b:rU){ψ:rQ->Prop}{c0:Bool}(e0:A.lt k (ab c)=c0)(h1:c0=aj->(A.inB k c)=aj)(y1:c0=aj->ψ (aK 0 [ac lv lv,ac k k,ac (ab c) (ab c),ac k k,ac (A.nH c) (ab c),ac (ab 0) (ab 0),ap c c,ax c (mF cr) (mF cr),ap n n,ax n (mF o) (mF o),ac (cr (A.toN k)).id b.id,ac (cr (A.toN k)).th b.th,ac (cr (A.toN k)).st b.st,ac (cr (A.toN k)).bg b.bg,ac (cr (A.toN k)).en b.en,ac (cr (A.toN k)).tr b.tr,av (ao 8 (cr (A.toN k)).k (cr (A.toN k)).g) (ao 8 b.k b.g)]))(y2:c0=ag->ψ (ay (aQ [cJ 3 1 n (mF o),cT aI]))):qA ψ (nZ (C7 A W yB ny) oG 300 400 74 aeK (IK lv c cr n o k) [] [⟨74,FK,Lm lv c cr n o k b 0,[]⟩]):=by
 subst e0;exact um (an (fun q0=>an (h1 q0) (y1 q0)) y2) (by kernel_rfl)
theorem Np(A:Prim)(W:Wd)(lv:Int)(c:Nat)(cr:Nat->rU)(n:Nat)(o o':Nat->Int)(k k':Int)(b:rU)(i i':Int){ψ:rQ->Prop}{c0 c1 c2:Bool}(e0:A.lt i (ab c)=c0)(e1:A.nt (A.eq lv (ab 1))=c1)(e2:PG (cr (A.toN i)).en b.bg=c2)(h1:c0=aj->(A.inB i c)=aj)(h2:c0=aj->c1=aj->c2=aj->(A.inB k n)=aj)(h3:c0=aj->c1=aj->c2=aj->(A.le (ab 0) i)=aj)(y1:c0=aj->c1=aj->c2=aj->ψ (aK 0 [ac lv lv,ac k k,ac (ab c) (ab c),ac k k,ac (ab c) (ab c),ac (A.add .i64 i (ab 1)) i',ap c c,ax c (mF cr) (mF cr),ap n n,ax n (A.upd (mF o) (A.toN k) 0 [az .i64 (A.bin BinOp.or aA (o (A.toN k)) (A.bin b9 aA (ab 1) i))]) (mF o'),ac b.id b.id,ac b.th b.th,ac b.st b.st,ac b.bg b.bg,ac b.en b.en,ac b.tr b.tr,av (ao 8 b.k b.g) (ao 8 b.k b.g)]))(y2:c0=aj->c1=aj->c2=ag->ψ (aK 0 [ac lv lv,ac k k,ac (ab c) (ab c),ac k k,ac (ab c) (ab c),ac (A.add .i64 i (ab 1)) i',ap c c,ax c (mF cr) (mF cr),ap n n,ax n (mF o) (mF o'),ac b.id b.id,ac b.th b.th,ac b.st b.st,ac b.bg b.bg,ac b.en b.en,ac b.tr b.tr,av (ao 8 b.k b.g) (ao 8 b.k b.g)]))(y3:c0=aj->c1=ag->ψ (aK 0 [ac lv lv,ac k k,ac (ab c) (ab c),ac k k,ac (ab c) (ab c),ac (A.add .i64 i (ab 1)) i',ap c c,ax c (mF cr) (mF cr),ap n n,ax n (mF o) (mF o'),ac b.id b.id,ac b.th b.th,ac b.st b.st,ac b.bg b.bg,ac b.en b.en,ac b.tr b.tr,av (ao 8 b.k b.g) (ao 8 b.k b.g)]))(y4:c0=ag->ψ (aK 1 [ac lv lv,ac (ab c) (ab c),ac (A.add .i64 k (ab 1)) k',ap c c,ax c (mF cr) (mF cr),ap n n,ax n (mF o) (mF o)])):qA ψ (nZ (C7 A W yB ny) oG 300 400 74 aeL (Lm lv c cr n o k b i) [] [⟨74,FK,Lm lv c cr n o' k b i',[]⟩,⟨74,CB,IK lv c cr n o k',[]⟩]):=by
 subst e0 e1 e2;exact um (an (fun q0=>an (h1 q0) (an (fun q1=>an (fun q2=>an (h2 q0 q1 q2) (an (h3 q0 q1 q2) (an (h2 q0 q1 q2) (y1 q0 q1 q2)))) (y2 q0 q1)) (y3 q0))) y4) (by kernel_rfl)
theorem aeO(A:Prim)(W:Wd)(t:rU)(lv:Int){ψ:rQ->Prop}{c0 c1 c2:Bool}(e0:A.eq lv (ab 1)=c0)(e1:A.eq t.st (ab 3)=c1)(e2:A.eq lv (ab 2)=c2)(y1:c0=aj->c1=aj->ψ (ay (bX aj)))(y2:c0=aj->c1=ag->ψ (ay (bX (A.eq t.st (ab 2)))))(y3:c0=ag->c2=aj->c1=aj->ψ (ay (bX aj)))(y4:c0=ag->c2=aj->c1=ag->ψ (ay (bX (A.eq t.st (ab 2)))))(y5:c0=ag->c2=ag->ψ (ay (bX (A.eq lv (ab 3))))):qA ψ (nZ (C7 A W noSpec ny) oG 300 400 73 [.code []] (mM 19 [.agg [.i .i64 t.id,.i .i64 t.th,.i .i64 t.st,.i .i64 t.bg,.i .i64 t.en,.i .i64 t.tr,.sl 8 t.k t.g],.i .i64 lv] L0) [] []):=by
 subst e0 e1 e2;exact um (an (fun q0=>an (y1 q0) (y2 q0)) (fun q0=>an (fun q1=>an (y3 q0 q1) (y4 q0 q1)) (y5 q0))) (by kernel_rfl)
theorem aeP(A:Prim)(W:Wd)(t u:rU){ψ:rQ->Prop}{c0:Bool}(e0:A.le (ab 0) t.en=c0)(y1:c0=aj->ψ (ay (bX (A.lt t.en u.bg))))(y2:c0=ag->ψ (ay (bX ag))):qA ψ (nZ (C7 A W noSpec ny) oG 300 400 94 [.code []] (mM 15 [.agg [.i .i64 t.id,.i .i64 t.th,.i .i64 t.st,.i .i64 t.bg,.i .i64 t.en,.i .i64 t.tr,.sl 8 t.k t.g],.agg [.i .i64 u.id,.i .i64 u.th,.i .i64 u.st,.i .i64 u.bg,.i .i64 u.en,.i .i64 u.tr,.sl 8 u.k u.g]] L0) [] []):=by
 subst e0;exact um (an y1 y2) (by kernel_rfl)
end Go.Proofs
namespace Go.Pl
open Go Go.Sx Go.Proofs
def ctF(lv:Int)(T:Nat->rU)(i r:Nat):List rU:=((aE r).map fun j=>T (i+j)).filter fun t=>PE t.st lv
theorem YF(lv:Int)(T:Nat->rU)(i r:Nat):ctF lv T i (r+1)=(if PE (T i).st lv=aj then [T i] else [])++ctF lv T (i+1) r:=by
 unfold ctF;rw[List.range_succ_eq_map,dI,List.map_map,List.filter_cons];have:((fun j=>T (i+j)) ∘ Nat.succ)=fun j=>T (i+1+j):=by
  grind
 grind
theorem acN(lv:Int)(T:Nat->rU)(n:Nat):ctF lv T 0 n=tC lv n T:=by
 unfold ctF tC;simp
theorem agj(lv:Int)(n:Nat)(T:Nat->rU):(tC lv n T).length<=n:=by
 grind [tC,List.length_filter_le,PE,aE,ct,fp]
theorem acO{lv bg:Int}:∀(l:List rU) (i m N:Nat),m<2^N->i+l.length<=N->BP lv bg i l m<2^N
 |[],i,m,N,h,_=>h |a::l,i,m,N,h,hl=>by
  rw[BP];refine acO l (i+1) _ N ?_ (by grind);split
  ·refine gq h ?_
   rw[eE,gC];exact cO (by decide) (by grind)
  ·exact h
end Go.Pl
namespace Go.Proofs
open Go Go.Sx Go.Pl
section
variable{H0:Mem}{w0:World}{φ:Sh->Prop}
theorem Ih(vW:nG ah (nY W7) 73 D73)(wH:nG ah (nY W7) 94 D94)(stop:Nat->List Nat->Bool):oH ah (C7 mD W7 yB stop):=dZ (fun g F h=>by
 unfold yB at h;grind) fun g h=>by
 unfold yB at h;split at h;all_goals first|(cases h;done) |kernel_rfl
theorem akD{o:Nat->Int}{k:Nat}{v:Int}:∀j,mD.upd (mF o) k 0 [az .i64 v] j=mF (fun j=>if j=k then v else o j) j:=fun j=>by
 show (if j=k then (mF o j).take 0++[az .i64 v]++(mF o j).drop (0+1) else mF o j)=Row.put (if j=k then v else o j);split
 ·rfl
 ·rfl
variable{lv:Int}{l:List rU}
theorem acP(vW:nG ah (nY W7) 73 D73)(wH:nG ah (nY W7) 94 D94)(hl:l.length<=62){k:Nat}(hk:k<l.length){b:rU}:
  ∀r i (o:Nat->Int) (m:Nat),i+r=l.length->o k=(m:Nat)->m<2^62->
  (nX ah (C7 mD W7 yB ny) (K0 H0 w0) 74 CB (IK lv l.length (nth l) l.length (fun j=>if j=k then (BP lv b.bg i (l.drop i) m:Nat) else o j) ((k+1:Nat):Int)) [] emp (up φ))->
  nX ah (C7 mD W7 yB ny) (K0 H0 w0) 74 FK (Lm lv l.length (nth l) l.length o (k:Nat) b (i:Nat)) [] emp (up φ)
 |0,i,o,m,hi,ho,hm,nx=>by
  refine wY (fn:=d5) (tb:=aeL) (by kernel_rfl) (by kernel_rfl) ?_;have lt {P:Prop} (h:mD.lt (i:Int) (ab l.length)=aj):P:=by simp_all [mQ]
  have w1:mD.add .i64 (k:Int) (ab 1)=((k+1:Nat):Int):=add1 (by omega);have e:(fun j=>if j=k then ((BP lv b.bg i (l.drop i) m:Nat):Int) else o j)=o:=by
   grind [eh,BP]
  rw[e] at nx;refine uz (aS _ _) (Ih vW wH _) (hold:=oG) (m:=300) (n:=400) (ts:=[⟨74,FK,Lm lv l.length (nth l) l.length o (k:Nat) b 0,[]⟩,⟨74,CB,IK lv l.length (nth l) l.length o ((k+1:Nat):Int),[]⟩]) ?_;exact Np mD W7 lv _ (nth l) _ o o k _ b i 0 rfl rfl rfl (fun q=>lt q) (fun q=>lt q) (fun q=>lt q) (fun q=>lt q) (fun q=>lt q) (fun q=>lt q)
   (fun _=>⟨⟨rfl,rfl,w1,rfl,fun _ _=>rfl,rfl,fun _ _=>rfl,trivial⟩,_,rfl,nx⟩)
 |r+1,i,o,m,hi,ho,hm,nx=>by
  obtain ⟨a,ha⟩:∃a,l[i]?=ae a:=⟨_,aD (by omega)⟩;have hd:l.drop i=a::l.drop (i+1):=by
   grind [cv,aD,bd]
  have hna:nth l (mD.toN (i:Int))=a:=by
   show nth l i=a;simp_all [nth,aZ]
  rw[hd,BP] at nx;refine wY (fn:=d5) (tb:=aeL) (by kernel_rfl) (by kernel_rfl) ?_;have w1:mD.add .i64 (i:Int) (ab 1)=((i+1:Nat):Int):=add1 (by omega);have no {P:Prop} (h:mD.lt (i:Int) (ab l.length)=ag):P:=by simp_all [mQ]
  have inb:mD.inB (i:Int) l.length=aj:=by grind [oJ]
  have aoB:mD.inB (k:Int) l.length=aj:=by simp_all [oJ]
  have le0:mD.le (ab 0) (i:Int)=aj:=by rfl
  have hc1:mD.nt (mD.eq lv (ab 1))=decide (lv≠1):=by
   grind [oP,nC,decide_eq_true,beq_eq_false_iff_ne]
  have step (m':Nat) (hm':m'<2^62) (o':Nat->Int) (h1:o'=fun j=>if j=k then (m':Int) else o j)
    (h2:(if lv≠1/\PG a.en b.bg=aj then m|||1<<<i else m)=m'):=acP vW wH hl hk r (i+1) o' m' (by omega) (by rw[h1];simp) hm' (b:=b) (by
     simp_all)
  have same:(fun j=>if j=k then ((m:Nat):Int) else o j)=o:=by
   grind
  by_cases hc:lv≠1/\PG a.en b.bg=aj
  ·have st:=step (m|||1<<<i) (gq hm (by rw[eE,gC];exact cO (by decide) (by omega))) _ rfl (if_pos hc)
   refine uz (aS _ _) (Ih vW wH _) (hold:=oG) (m:=300) (n:=400) (ts:=[⟨74,FK,Lm lv l.length (nth l) l.length (fun j=>if j=k then ((m|||1<<<i:Nat):Int) else o j) (k:Nat) b ((i+1:Nat):Int),[]⟩,⟨74,CB,IK lv l.length (nth l) l.length o 0,[]⟩]) ?_;refine Np mD W7 lv _ (nth l) _ o _ k _ b i _ (c1:=aj) (c2:=aj) rfl (by simp_all) (by simp_all) (fun _=>inb) (fun _ _ _=>aoB) (fun _ _ _=>le0)
    (fun _ _ _=>⟨⟨rfl,rfl,rfl,rfl,rfl,w1,rfl,fun _ _=>rfl,rfl,fun j hj=>?_,rfl,rfl,rfl,rfl,rfl,rfl,rfl,trivial⟩,_,rfl,st⟩) (fun _ _ q=>by cases q) (fun _ q=>by cases q) (fun q=>no q)
   have e:mD.bin .or .i64 (o (mD.toN (k:Int))) (mD.bin .shl .i64 (ab 1) (i:Int))=((m|||1<<<i:Nat):Int):=by
    show mD.bin .or .i64 (o k) _=_;grind [or_eq]
   rw[e];exact akD j
  ·have st:=step m hm o same.symm (if_neg hc)
   refine uz (aS _ _) (Ih vW wH _) (hold:=oG) (m:=300) (n:=400) (ts:=[⟨74,FK,Lm lv l.length (nth l) l.length o (k:Nat) b ((i+1:Nat):Int),[]⟩,⟨74,CB,IK lv l.length (nth l) l.length o 0,[]⟩]) ?_;have fin:=(⟨⟨rfl,rfl,rfl,rfl,rfl,w1,rfl,fun _ _=>rfl,rfl,fun _ _=>rfl,rfl,rfl,rfl,rfl,rfl,rfl,rfl,trivial⟩,_,rfl,st⟩:yG ah (C7 mD W7 yB ny) (K0 H0 w0) [⟨74,FK,Lm lv l.length (nth l) l.length o (k:Nat) b ((i+1:Nat):Int),[]⟩,⟨74,CB,IK lv l.length (nth l) l.length o 0,[]⟩] emp (up φ) (aK 0 [ac lv lv,ac k k,ac (ab l.length) (ab l.length),ac k k,ac (ab l.length) (ab l.length),ac (mD.add .i64 i (ab 1)) ((i+1:Nat):Int),ap l.length l.length,ax l.length (mF (nth l)) (mF (nth l)),ap l.length l.length,ax l.length (mF o) (mF o),ac b.id b.id,ac b.th b.th,ac b.st b.st,ac b.bg b.bg,ac b.en b.en,ac b.tr b.tr,av (ao 8 b.k b.g) (ao 8 b.k b.g)]));exact Np mD W7 lv _ (nth l) _ o _ k _ b i _ rfl rfl rfl (fun _=>inb) (fun _ _ _=>aoB) (fun _ _ _=>le0)
    (fun _ q1 q2=>(hc ⟨of_decide_eq_true (hc1.symm.trans q1),by simp_all⟩).elim) (fun _ _ _=>fin) (fun _ _=>fin) (fun q=>no q)
theorem acQ(vW:nG ah (nY W7) 73 D73)(wH:nG ah (nY W7) 94 D94)(hl:l.length<=62)(hφ:φ (.mV [.sl 1 l.length (mF (Rh lv l)),.v .nilIface])):
  ∀r k (o:Nat->Int),k+r=l.length->(∀j,j<k->o j=Rh lv l j)->(∀j,k<=j->o j=0)->
  nX ah (C7 mD W7 yB ny) (K0 H0 w0) 74 CB (IK lv l.length (nth l) l.length o (k:Nat)) [] emp (up φ)
 |0,k,o,hk,ho,ho2=>by
  refine wY (fn:=d5) (tb:=aeK) (by kernel_rfl) (by kernel_rfl) ?_;have lt {P:Prop} (h:mD.lt (k:Int) (ab l.length)=aj):P:=by simp_all [mQ]
  refine uz (aS _ _) (Ih vW wH _) (hold:=oG) (m:=300) (n:=400) (ts:=[⟨74,FK,Lm lv l.length (nth l) l.length o (k:Nat) default 0,[]⟩]) ?_;refine WC mD W7 lv _ (nth l) _ o k default rfl (fun q=>lt q) (fun q=>lt q) (fun _=>?_);refine oq (s':=.mV [.sl 1 l.length (mF (Rh lv l)),.v .nilIface]) ⟨.inr ⟨rfl,rfl,fun j hj=>?_⟩,rfl,trivial⟩ hφ;show Row.put (o j)=Row.put (Rh lv l j);simp_all
 |r+1,k,o,hk,ho,ho2=>by
  refine wY (fn:=d5) (tb:=aeK) (by kernel_rfl) (by kernel_rfl) ?_;have no {P:Prop} (h:mD.lt (k:Int) (ab l.length)=ag):P:=by grind [mQ]
  have inb:mD.inB (k:Int) l.length=aj:=by grind [oJ]
  have st:=acP (H0:=H0) (w0:=w0) (φ:=φ) (lv:=lv) vW wH hl (k:=k) (by omega) (b:=nth l k) l.length 0 o 0 (by omega) (ho2 k (Nat.le_refl _)) (by decide)
   (acQ vW wH hl hφ r (k+1) _ (by omega) (fun j hj=>by
    show (if j=k then ((BP lv (nth l k).bg 0 (l.drop 0) 0:Nat):Int) else o j)=_;split
    ·rename_i h;subst h;rfl
    grind) (fun j hj=>by
    grind))
  refine uz (aS _ _) (Ih vW wH _) (hold:=oG) (m:=300) (n:=400) (ts:=[⟨74,FK,Lm lv l.length (nth l) l.length o (k:Nat) (nth l k) ((0:Nat):Int),[]⟩]) ?_;exact WC mD W7 lv _ (nth l) _ o k (nth l k) rfl (fun _=>inb) (fun _=>⟨⟨rfl,rfl,rfl,rfl,rfl,rfl,rfl,fun _ _=>rfl,rfl,fun _ _=>rfl,rfl,rfl,rfl,rfl,rfl,rfl,rfl,trivial⟩,_,rfl,st⟩) (fun q=>no q)
theorem WE{n:Nat}{T:Nat->rU}(vW:nG ah (nY W7) 73 D73)(wH:nG ah (nY W7) 94 D94)(hn:n<=62)(hφ:φ (.mV [.sl 1 (tC lv n T).length (mF (Rh lv (tC lv n T))),.v .nilIface])):
  ∀r i (acc:List rU),i+r=n->acc.length<=i->acc++ctF lv T i r=tC lv n T->
  nX ah (C7 mD W7 yB ny) (K0 H0 w0) 74 Tf (Ti lv n T acc.length (nth acc) (i:Nat)) [] emp (up φ)
 |0,i,acc,hi,hl,he=>by
  have he:acc=tC lv n T:=by
   rw[<-he];show acc=acc++[];simp
  refine wY (fn:=d5) (tb:=akC) (by kernel_rfl) (by kernel_rfl) ?_;have lt {P:Prop} (h:mD.lt (i:Int) (ab n)=aj):P:=by simp_all [mQ]
  have c2 {P:Prop} (h:mD.lt (ab 62) (mD.nH acc.length)=aj):P:=by grind [mQ,nI]
  have st:=acQ (H0:=H0) (w0:=w0) (φ:=φ) (lv:=lv) (l:=acc) vW wH (by omega) (by simp_all) acc.length 0 (fun _=>0) (by omega) (fun j hj=>by omega) (fun j _=>rfl);refine uz (aS _ _) (Ih vW wH _) (hold:=oG) (m:=300) (n:=400) (ts:=[⟨74,Tf,Ti lv n T acc.length (nth acc) 0,[]⟩,⟨74,CB,IK lv acc.length (nth acc) acc.length (fun _=>0) ((0:Nat):Int),[]⟩]) ?_;refine Nl mD W7 lv n T _ _ (nth acc) _ i 0 acc.length (fun _=>0) rfl rfl rfl (fun q=>lt q) (fun q=>lt q) (fun _ _=>by rfl) (fun _ _=>?_) (fun q=>lt q) (fun q=>lt q) (fun _ q=>c2 q)
   (fun _ _=>⟨⟨rfl,rfl,rfl,rfl,fun _ _=>rfl,rfl,fun _ _=>rfl,trivial⟩,_,rfl,st⟩)
  rw[tX,decide_eq_true_eq,nI,pR,Int.toNat_natCast];unfold maxLen;omega
 |r+1,i,acc,hi,hl,he=>by
  refine wY (fn:=d5) (tb:=akC) (by kernel_rfl) (by kernel_rfl) ?_;have w1:mD.add .i64 (i:Int) (ab 1)=((i+1:Nat):Int):=add1 (by omega);have no {P:Prop} (h:mD.lt (i:Int) (ab n)=ag):P:=by grind [mQ]
  have inb:mD.inB (i:Int) n=aj:=by grind [oJ]
  have rm:mD.room (mD.addN acc.length 1) 72=aj:=by rw[tX,decide_eq_true_eq,qy];unfold maxLen;omega
  rw[YF] at he;cases hc:PE (T i).st lv with
  |true=>
   rw[if_pos hc,<-cQ] at he;have nx:=WE vW wH hn hφ r (i+1) (acc++[T i]) (by omega) (by simp_all) he;refine uz (aS _ _) (Ih vW wH _) (hold:=oG) (m:=300) (n:=400) (ts:=[⟨74,Tf,Ti lv n T (acc++[T i]).length (nth (acc++[T i])) ((i+1:Nat):Int),[]⟩,⟨74,CB,IK lv acc.length (nth acc) 0 (fun _=>0) 0,[]⟩]) ?_;exact Nl mD W7 lv n T _ _ (nth acc) _ i _ 0 (fun _=>0) (c1:=aj) rfl hc rfl (fun _=>inb) (fun _ _=>rm) (fun q=>no q) (fun q=>no q)
    (fun _ _=>⟨⟨rfl,rfl,rfl,w1,by rw[bz];rfl,fun j hj=>zI acc (T i) _ rfl j hj,trivial⟩,_,rfl,nx⟩) (fun _ q=>by cases q) (fun q=>no q) (fun q=>no q)
  |false=>
   rw[if_neg (by rw[hc];simp),eF] at he;have nx:=WE vW wH hn hφ r (i+1) acc (by omega) (by omega) he;refine uz (aS _ _) (Ih vW wH _) (hold:=oG) (m:=300) (n:=400) (ts:=[⟨74,Tf,Ti lv n T acc.length (nth acc) ((i+1:Nat):Int),[]⟩,⟨74,CB,IK lv acc.length (nth acc) 0 (fun _=>0) 0,[]⟩]) ?_;exact Nl mD W7 lv n T _ _ (nth acc) _ i _ 0 (fun _=>0) (c1:=ag) rfl hc rfl (fun _=>inb) (fun _ q=>by cases q) (fun q=>no q) (fun q=>no q)
    (fun _ q=>by cases q) (fun _ _=>⟨⟨rfl,rfl,rfl,w1,rfl,fun _ _=>rfl,trivial⟩,_,rfl,nx⟩) (fun q=>no q) (fun q=>no q)
end
theorem vW:nG ah (nY W7) 73 D73:=by
 refine vM (C:=C7 mD W7 noSpec ny) (aS _ _) (fn:=Tryz.f73) (by kernel_rfl) (by kernel_rfl) fun H w nV args φ hrep h=>?_
 have hn:Tryz.f73.ntmps=19:=by kernel_rfl
 unfold D73 at h;split at h
 ·rename_i l t
  split at h
  ·rename_i x lv e1 e2
   have hφ:φ (.b (PE x.st lv)):=h;match args,hrep with
   |[v,u],⟨rv,ru,_⟩=>
    have hl:l=Row.put x:=(Row.rJ _ _ e1).symm;subst hl;refine ⟨[.agg (Row.put x),.i .i64 lv],⟨rv,qW e2 ru,trivial⟩,L0,?_⟩;refine uz (aS _ _) (BK _) (hold:=oG) (m:=300) (n:=400) (ts:=[]) ?_;rw[hn];have fin (b:Bool) (hb:b=PE x.st lv):up φ (.b b):=oq (s':=.b (PE x.st lv)) (.inl (by rw[hb])) hφ;have e3:mD.eq x.st (ab 3)=(x.st==3):=rfl;have e2':mD.eq x.st (ab 2)=(x.st==2):=rfl;refine aeO mD W7 x lv rfl rfl rfl (fun q0 q1=>fin _ ?_) (fun q0 q1=>fin _ ?_) (fun q0 q2 q1=>fin _ ?_) (fun q0 q2 q1=>fin _ ?_) (fun q0 q2=>fin _ ?_);all_goals unfold PE
    ·simp_all [nC]
    ·simp_all [nC]
    ·simp_all [nC]
    ·simp_all [nC]
    ·rw[if_neg (by
      rintro (h|h)
      ·rw[h] at q0;cases q0
      ·rw[h] at q2;cases q2)]
     rfl
  ·exact h.elim
 ·exact h.elim
theorem wH:nG ah (nY W7) 94 D94:=by
 refine vM (C:=C7 mD W7 noSpec ny) (aS _ _) (fn:=Tryz.f94) (by kernel_rfl) (by kernel_rfl) fun H w nV args φ hrep h=>?_
 have hn:Tryz.f94.ntmps=15:=by kernel_rfl
 unfold D94 at h;split at h
 ·rename_i l r
  split at h
  ·rename_i x y e1 e2
   have hφ:φ (.b (PG x.en y.bg)):=h;have hl:l=Row.put x:=(Row.rJ _ _ e1).symm;have hr:r=Row.put y:=(Row.rJ _ _ e2).symm;subst hl hr;refine ⟨[.agg (Row.put x),.agg (Row.put y)],hrep,L0,?_⟩;refine uz (aS _ _) (BK _) (hold:=oG) (m:=300) (n:=400) (ts:=[]) ?_;rw[hn];have fin (b:Bool) (hb:b=PG x.en y.bg):up φ (.b b):=oq (s':=.b (PG x.en y.bg)) (.inl (by rw[hb])) hφ;refine aeP mD W7 x y rfl (fun q=>fin _ ?_) (fun q=>fin _ ?_)
   ·have q:decide (0<=x.en)=aj:=q
    unfold PG;rw[q];rfl
   ·have q:decide (0<=x.en)=ag:=q
    unfold PG;rw[q];rfl
  ·exact h.elim
 ·exact h.elim
theorem apZ:nG ah (nY W7) 74 D74:=by
 refine vM (C:=C7 mD W7 yB ny) (aS _ _) (fn:=d5) (by kernel_rfl) (by kernel_rfl) fun H w nV args φ hrep h=>?_
 have hn:d5.ntmps=74:=by kernel_rfl
 unfold D74 at h;split at h
 ·rename_i s t
  split at h
  ·rename_i n T lv e1 e2
   obtain ⟨h1,hφ⟩:=h;unfold mkP at h1;rw[al,al,al] at h1;obtain ⟨a1,a2,a3,a4⟩:=h1;have a2:=of_decide_eq_true a2;have a3:=of_decide_eq_true a3;have a4:=of_decide_eq_true a4;match args,hrep with
   |[v,u],⟨rv,ru,_⟩=>
    refine ⟨[.sl 7 n (mF (mJ (α:=rU) T)),.i .i64 lv],⟨uD (oO e1 rv) a1,qW e2 ru,trivial⟩,L0,?_⟩;have st:=WE (H0:=H) (w0:=w) (φ:=φ) (lv:=lv) (n:=n) (T:=mJ T) vW wH a4 hφ n 0 [] (by omega) (by simp) (by simp_all [acN]);refine uz (aS _ _) (Ih vW wH _) (hold:=oG) (m:=300) (n:=400) (ts:=[⟨74,Tf,Ti lv n (mJ T) 0 (nth []) ((0:Nat):Int),[]⟩]) ?_;rw[hn];have c0 {P:Prop} (h:mD.lt lv (ab 1)=aj):P:=by grind [mQ]
    have c1 {P:Prop} (h:mD.lt (ab 3) lv=aj):P:=by grind [mQ]
    exact aeN mD W7 lv n (mJ T) (nth []) _ rfl rfl (fun q=>c0 q) (fun _ q=>c1 q) (fun _ _=>⟨⟨rfl,rfl,rfl,rfl,rfl,trivial⟩,_,rfl,st⟩)
  ·exact h.elim
 ·exact h.elim
theorem asw:nG ah (nY W7) 75 D75:=O25.mono fun H nV args φ hr h=>by
 unfold D75 at h;split at h
 ·split at h
  ·rename_i n g e0
   obtain ⟨h1,h2⟩:=h;unfold nwB at h1;rw[al,al,al,Bool.not_eq_true'] at h1;obtain ⟨a1,a2,a3,a4⟩:=h1;unfold F25;simp only[e0];exact ⟨a1,a2,fun q=>(by simp_all),fun _=>⟨fun _=>h2,fun q=>(by simp_all)⟩⟩
  ·exact h.elim
 ·exact h.elim
theorem aac{hs:Sh}{B:JO}(XK:nG ah (nY W7) 20 (D20 hs B))(stop:Nat->List Nat->Bool):oH ah (C7 mD W7 (Ig hs B) stop):=dZ (fun g F h=>by
 unfold Ig at h;grind [vW,apZ,asw]) fun g h=>by
 unfold Ig at h;split at h;all_goals first|(cases h;done) |kernel_rfl
section
variable{H0:Mem}{w0:World}{φ:Sh->Prop}{hs:Sh}{B:JO}{lv:Int}{o m:Nat}{og mg:Nat->List Sh}
theorem aad(XK:nG ah (nY W7) 20 (D20 hs B)){n:Nat}{T:Nat->rU}(h1:1<=lv)(h3:lv<=3)(hn:n<=12)(hw:nwB o og=aj)
  (hφ:φ (.mV [.pt (oV lv (tC lv n T).length (nth (tC lv n T)) (tC lv n T).length (Rh lv (tC lv n T)) o (yA og)),.v .nilIface])) :
  ∀r i (acc:List rU),i+r=n->acc.length<=i->acc++ctF lv T i r=tC lv n T->
  nX ah (C7 mD W7 (Ig hs B) ny) (K0 H0 w0) 40 Tc (Td o m og mg lv n T acc.length (nth acc) (i:Nat)) [] emp (up φ)
 |0,i,acc,hi,hl,he=>by
  have he:acc=tC lv n T:=by
   rw[<-he];show acc=acc++[];simp
  refine wY (fn:=lL) (tb:=akB) (by kernel_rfl) (by kernel_rfl) ?_;have lt {P:Prop} (h:mD.lt (i:Int) (ab n)=aj):P:=by simp_all [mQ]
  refine uz (aS _ _) (aac XK _) (hold:=oG) (m:=300) (n:=400) (ts:=[⟨40,Tc,Td o m og mg lv n T 0 (nth []) 0,[]⟩]) ?_;refine Nk mD W7 hs B lv o m og mg n T _ 0 (nth acc) (nth []) i 0 rfl rfl (fun q=>lt q) (fun q=>lt q) (fun _=>?_) (fun _=>hw) (fun q=>lt q) (fun q=>lt q) (fun _=>?_)
  ·grind [mkP,rZ,decide_eq_true]
  ·have e1:mkN lv n (mF T)=(tC lv n T).length:=by rfl
   have e2:mkR lv n (mF T)=Rh lv (tC lv n T):=by rfl
   rw[e1,e2,he];exact oq (s':=.mV [.pt (oV lv (tC lv n T).length (nth (tC lv n T)) (tC lv n T).length (Rh lv (tC lv n T)) o (yA og)),.v .nilIface]) ⟨rfl,rfl,trivial⟩ hφ
 |r+1,i,acc,hi,hl,he=>by
  refine wY (fn:=lL) (tb:=akB) (by kernel_rfl) (by kernel_rfl) ?_;have w1:mD.add .i64 (i:Int) (ab 1)=((i+1:Nat):Int):=add1 (by omega);have no {P:Prop} (h:mD.lt (i:Int) (ab n)=ag):P:=by grind [mQ]
  have inb:mD.inB (i:Int) n=aj:=by grind [oJ]
  have rm:mD.room (mD.addN acc.length 1) 72=aj:=by rw[tX,decide_eq_true_eq,qy];unfold maxLen;omega
  rw[YF] at he;cases hc:PE (T i).st lv with
  |true=>
   rw[if_pos hc,<-cQ] at he;have nx:=aad XK h1 h3 hn hw hφ r (i+1) (acc++[T i]) (by omega) (by simp_all) he;refine uz (aS _ _) (aac XK _) (hold:=oG) (m:=300) (n:=400) (ts:=[⟨40,Tc,Td o m og mg lv n T (acc++[T i]).length (nth (acc++[T i])) ((i+1:Nat):Int),[]⟩]) ?_;exact Nk mD W7 hs B lv o m og mg n T _ _ (nth acc) _ i _ (c1:=aj) rfl hc (fun _=>inb) (fun _ _=>rm) (fun q=>no q) (fun q=>no q)
    (fun _ _=>⟨⟨rfl,rfl,rfl,rfl,w1,rfl,rfl,rfl,by rw[bz];rfl,fun j hj=>zI acc (T i) _ rfl j hj,trivial⟩,_,rfl,nx⟩) (fun _ q=>by cases q) (fun q=>no q)
  |false=>
   rw[if_neg (by rw[hc];simp),eF] at he;have nx:=aad XK h1 h3 hn hw hφ r (i+1) acc (by omega) (by omega) he;refine uz (aS _ _) (aac XK _) (hold:=oG) (m:=300) (n:=400) (ts:=[⟨40,Tc,Td o m og mg lv n T acc.length (nth acc) ((i+1:Nat):Int),[]⟩]) ?_;exact Nk mD W7 hs B lv o m og mg n T _ _ (nth acc) _ i _ (c1:=ag) rfl hc (fun _=>inb) (fun _ q=>by cases q) (fun q=>no q) (fun q=>no q)
    (fun _ q=>by cases q) (fun _ _=>⟨⟨rfl,rfl,rfl,rfl,w1,rfl,rfl,rfl,rfl,fun _ _=>rfl,trivial⟩,_,rfl,nx⟩) (fun q=>no q)
end
end Go.Proofs
namespace Go.mP
open Go Go.Sx
abbrev Wd:=Go.Proofs.Wd
abbrev O7:=Go.Proofs.O7
abbrev uY:=Go.Proofs.nY
abbrev W5:=hZ
abbrev noSpec:=Go.Proofs.noSpec
noncomputable def C5(A:Prim)(W:Wd)(spec:Nat->Option (List Sh->Tree Sh))(stop:Nat->List Nat->Bool):Ctx:=
 {A,tys:=eO,fns:=fX,spec,eqs:=[140,71],NP:=[329],Dq:=stop,gls:=uY W,live:=lq,Uy:=[157],Y4:=Go.Proofs.ajA}
theorem asx:OT ah eO [140,71]=aj:=by kernel_rfl
theorem asy:abA ah [329]=aj:=by kernel_rfl
theorem C5.ok(spec:Nat->Option (List Sh->Tree Sh))(stop:Nat->List Nat->Bool):oh ah (C5 mD W5 spec stop):=
 ⟨Vj lr,He cG,rfl,iN,fun t i h hi xs ys w h1 h2 x y=>Qx (Ho asx t i h hi) xs ys w h1 h2 x y,OQ asy,mz⟩
theorem C5.Gh{spec:Nat->Option (List Sh->Tree Sh)}{stop:Nat->List Nat->Bool}(hs:∀g F,spec g=ae F->nG ah (uY W5) g F)(he:∀g,(spec g).isSome=aj->(fX.get g).isSome=aj):oH ah (C5 mD W5 spec stop):=
 ⟨hs,fun g h=>by
  rcases h with h|h
  ·exact wP cG c8 g (he g h)
  ·exact wP cG c8 g h,fun _ _ _ h=>(by cases h),fun _ _ _ h=>(by cases h)⟩
theorem BK(stop:Nat->List Nat->Bool):oH ah (C5 mD W5 noSpec stop):=C5.Gh (fun _ _ h=>by cases h) (fun _ h=>by cases h)
def ni:Nat->List Nat->Bool:=fun _ _=>ag
end Go.mP
namespace Go.oD
open Go Go.Sx
structure Oj where
 kind:Int
 init:Int
 deriving DecidableEq,Inhabited
structure Ev where
 kind:Int
 tx:Int
 thread:Int
 obj:Int
 op:Int
 key:Int
 val:Int
 ret:Int
 deriving DecidableEq,Inhabited
def obR(o:Oj):List Sh:=[.i .i64 o.kind,.i .i64 o.init]
def uM(e:Ev):List Sh:=[.i .i64 e.kind,.i .i64 e.tx,.i .i64 e.thread,.i .i64 e.obj,.i .i64 e.op,.i .i64 e.key,.i .i64 e.val,.i .i64 e.ret]
def inR(n:Int):List Sh:=[.i .i64 n]
class Row(α:Type)where
 put:α->List Sh
 get:List Sh->Option α
 rJ:∀l a,get l=ae a->put a=l
 get_put:∀a,get (put a)=ae a
 zX:α
instance:Row Oj where
 put:=obR
 get l:=match l with
  |[.i .i64 a,.i .i64 b]=>ae ⟨a,b⟩ |_=>aq
 rJ l a h:=by
  split at h
  ·cases h;rfl
  ·cases h
 get_put a:=rfl
 zX:=⟨0,0⟩
instance:Row Ev where
 put:=uM
 get l:=match l with
  |[.i .i64 a,.i .i64 b,.i .i64 c,.i .i64 d,.i .i64 e,.i .i64 f,.i .i64 g,.i .i64 h]=>ae ⟨a,b,c,d,e,f,g,h⟩ |_=>aq
 rJ l a h:=by
  split at h
  ·cases h;rfl
  ·cases h
 get_put a:=rfl
 zX:=⟨0,0,0,0,0,0,0,0⟩
instance:Row Int where
 put:=inR
 get l:=match l with
  |[.i .i64 a]=>ae a |_=>aq
 rJ l a h:=by
  split at h
  ·cases h;rfl
  ·cases h
 get_put a:=rfl
 zX:=0
def okB(α:Type)[Row α](n:Nat)(g:Nat->List Sh):Bool:=
 match n with
 |0=>aj |n+1=>okB α n g&&(Row.get (α:=α) (g n)).isSome
def mJ{α:Type}[Row α](g:Nat->List Sh)(i:Nat):α:=(Row.get (g i)).getD Row.zX
def lst(α:Type)[Row α](n:Nat)(g:Nat->List Sh):List α:=(aE n).map (mJ g)
def nth{α:Type}[Row α](l:List α)(i:Nat):α:=l.getD i Row.zX
def mF{α:Type}[Row α](o:Nat->α):Nat->List Sh:=fun j=>Row.put (o j)
section
variable{α:Type}[Row α]
theorem BD{n:Nat}{g:Nat->List Sh}(h:okB α n g=aj):∀i,i<n->g i=Row.put (mJ (α:=α) g i):=by
 induction n with
 |zero=>omega |succ n ih=>
  simp only[okB,al] at h;grind [Option.isSome_iff_exists,mJ,Row.rJ]
theorem rZ(o:Nat->α):∀n,okB α n (mF o)=aj
 |0=>rfl |n+1=>by simp[okB,rZ o n,mF,Row.get_put]
theorem Ph{g:Nat->List Sh}{o:Nat->α}:∀{n:Nat},(∀i,i<n->g i=Row.put (o i))->okB α n g=aj
 |0,_=>rfl |n+1,h=>by simp[okB,Ph (n:=n) fun i hi=>h i (by omega),h n (by omega),Row.get_put]
theorem Eb(o:Nat->α)(i:Nat):mJ (mF o) i=o i:=by simp[mJ,mF,Row.get_put]
@[simp] theorem vK (n:Nat) (g:Nat->List Sh):(lst α n g).length=n:=by simp[lst]
end
theorem sW{H:Mem}{st n:Nat}{g g':Nat->List Sh}{v:Value}(h:Rep H (.sl st n g) v)(hg:∀j,j<n->g j=g' j):Rep H (.sl st n g') v:=by
 cases h with
 |sl0 _ _ A cap hc=>exact .sl0 _ _ _ _ hc |sl _ _ _ b off cap c h1 h2 h3 h4 h5 h6=>exact .sl _ _ _ b off cap c h1 h2 (fun i hi=>by simp_all) h4 h5 fun i j s hi e=>h6 i j s hi (by simp_all)
theorem uD{α:Type}[Row α]{H:Mem}{st n:Nat}{g:Nat->List Sh}{v:Value}(h:Rep H (.sl st n g) v)(hg:okB α n g=aj):Rep H (.sl st n (mF (mJ (α:=α) g))) v:=
 sW h fun j hj=>BD hg j hj
def len{α:Type}(l:List α):Nat:=l.length
def fO(g:Nat->List Sh):Nat->List Sh:=mF (mJ (α:=Oj) g)
def fE(g:Nat->List Sh):Nat->List Sh:=mF (mJ (α:=Ev) g)
open Go Go.Sx
theorem mQ(a b:Int):mD.lt a b=decide (a<b):=rfl
theorem su(a b:Int):mD.le a b=decide (a<=b):=rfl
theorem nC(a b:Int):mD.eq a b=(a==b):=rfl
theorem oJ(a:Int)(n:Nat):mD.inB a n=decide (0<=a/\a<n):=rfl
theorem zk(a:Int)(n:Nat):mD.upTo a n=decide (0<=a/\a<=n):=rfl
theorem tX(n b:Nat):mD.room n b=decide (n*b<=140737488355328/\n<=maxLen):=rfl
theorem pR(a:Int):mD.toN a=a.toNat:=rfl
theorem nI(n:Nat):mD.nH n=(n:Int):=rfl
theorem qy(n m:Nat):mD.addN n m=n+m:=rfl
theorem QF(n m:Nat):mD.Ux n m=decide (n<=m):=rfl
theorem oP(b:Bool):mD.nt b=!b:=rfl
theorem rV(a b c:Bool):mD.ite a b c=bif a then b else c:=rfl
theorem QG(a b:List UInt8):mD.seq a b=(a==b):=rfl
theorem qG(a b:Int):mD.add .i64 a b=aA.wrap (a+b):=rfl
theorem Dz(a b:Int):mD.sub .i64 a b=aA.wrap (a - b):=rfl
theorem zH(a b:Int):mD.max a b=if b>a then b else a:=rfl
theorem Gi(a b:Int):mD.min a b=if b<a then b else a:=rfl
theorem tY(g:Nat->List Sh)(n:Nat)(h:Nat->List Sh)(i:Nat):mD.snoc g n h i=if i<n then g i else h (i - n):=rfl
theorem pI{a:Int}(h1:-9223372036854775808<=a)(h2:a<=9223372036854775807):aA.wrap a=a:=by
 rw[IntKind.wrap_i64];omega
theorem wZ:ab 1=1:=rfl
theorem maxLen_eq:maxLen=9223372036854775807:=rfl
theorem YG{α:Type}[Row α]{k:Nat}{o:Nat->α}{l:List (List Sh)}(h:nM l 0=Row.put (o k)):∀i,i<k+1->mD.snoc (mF o) k (nM l) i=mF o i:=fun i hi=>by
 rw[tY];split
 ·rfl
 ·have:i=k:=by omega
  subst this;rw[gU,h];rfl
def oI(n b:Nat):Bool:=mD.room n b
end Go.oD
namespace Go.mP
open Go Go.Sx Go.oD
def ny:Nat->List Nat->Bool:=fun _ _=>aj
def rF:Nat->Bool:=fun _=>ag
abbrev L0:Nat:=1000000000000000000000000000000
def YH(n:Nat)(o:Nat->Oj)(i:Int)(k:Nat)(gg:Nat->List Sh):Core:={tm:=[.sh (.sl 2 n (mF o)),.any,.any,.gs 0,.sym .i64 i]++rep [.any] 17,hp:=[(0,.own 140 2 k gg)],nx:=1,lim:=L0,tc:=[]}
def yQ:List It:=[aH [0,1,0,1,1],aW 0,aH [1,1,1]]
def Pm:List It:=[aH [0,0,1,0,1,1],aH [0,1,0,1,1],aW 0,aH [1,1,1]]
def YI(n:Nat)(o:Nat->Ev)(i:Int)(k:Nat)(gg:Nat->List Sh):Core:={tm:=[.sh (.sl 8 n (mF o)),.any,.any,.gs 0,.sym .i64 i]++rep [.any] 17,hp:=[(0,.own 71 8 k gg)],nx:=1,lim:=L0,tc:=[]}
theorem a10(A:Prim)(W:Wd)(n:Nat)(o:Nat->Oj)(i':Int)(k':Nat)(xW:Nat->List Sh):nZ (C5 A W noSpec ny) rF 300 200 54 [.code []] (mM 22 [.sl 2 n (mF o)] L0) [] [⟨54,yQ,YH n o i' k' xW,[]⟩]=am (A.le (ab 0) (A.nH n)) (am (A.room (A.toN (A.nH n)) 16) (ai (aK 0 [av (ao 2 n (mF o)) (ao 2 n (mF o)),ac (ab 0) i',ap 0 k',ax 0 (fun (_x:Nat)=>[]) xW]))):=by kernel_rfl
theorem b10(A:Prim)(W:Wd)(n:Nat)(o:Nat->Oj)(i i':Int)(k k':Nat)(gg xW:Nat->List Sh):nZ (C5 A W noSpec ny) rF 300 200 54 Pm (YH n o i k gg) [] [⟨54,yQ,YH n o i' k' xW,[]⟩]=ak (A.lt i (A.nH n)) (am (A.inB i n) (am (A.room (A.addN k 1) 16) (ai (aK 0 [av (ao 2 n (mF o)) (ao 2 n (mF o)),ac (A.add .i64 i (ab 1)) i',ap (A.addN k 1) k',ax (A.addN k 1) (A.snoc gg k (nM [[az .i64 (o (A.toN i)).kind,az .i64 (o (A.toN i)).init]])) xW])))) (ai (ay (cJ 140 2 k (k,gg).snd))):=by kernel_rfl
theorem a11(A:Prim)(W:Wd)(n:Nat)(o:Nat->Ev)(i':Int)(k':Nat)(xW:Nat->List Sh):nZ (C5 A W noSpec ny) rF 300 200 31 [.code []] (mM 22 [.sl 8 n (mF o)] L0) [] [⟨31,yQ,YI n o i' k' xW,[]⟩]=am (A.le (ab 0) (A.nH n)) (am (A.room (A.toN (A.nH n)) 64) (ai (aK 0 [av (ao 8 n (mF o)) (ao 8 n (mF o)),ac (ab 0) i',ap 0 k',ax 0 (fun (_x:Nat)=>[]) xW]))):=by kernel_rfl
theorem b11(A:Prim)(W:Wd)(n:Nat)(o:Nat->Ev)(i i':Int)(k k':Nat)(gg xW:Nat->List Sh):nZ (C5 A W noSpec ny) rF 300 200 31 Pm (YI n o i k gg) [] [⟨31,yQ,YI n o i' k' xW,[]⟩]=ak (A.lt i (A.nH n)) (am (A.inB i n) (am (A.room (A.addN k 1) 64) (ai (aK 0 [av (ao 8 n (mF o)) (ao 8 n (mF o)),ac (A.add .i64 i (ab 1)) i',ap (A.addN k 1) k',ax (A.addN k 1) (A.snoc gg k (nM [[az .i64 (o (A.toN i)).kind,az .i64 (o (A.toN i)).tx,az .i64 (o (A.toN i)).thread,az .i64 (o (A.toN i)).obj,az .i64 (o (A.toN i)).op,az .i64 (o (A.toN i)).key,az .i64 (o (A.toN i)).val,az .i64 (o (A.toN i)).ret]])) xW])))) (ai (ay (cJ 71 8 k (k,gg).snd))):=by kernel_rfl
def F10:List Sh->Tree Sh
 |[.sl 2 n g]=>.need (okB Oj n g) (.need (oI n 16) (.leaf (.os 140 2 n (fO g)))) |_=>.fail
theorem agk{H0:Mem}{w0:World}{n:Nat}{o:Nat->Oj}{φ:Sh->Prop}(hr:mD.room n 16=aj)(hφ:φ (.os 140 2 n (mF o))):
  ∀m k,k+m=n->nX ah (C5 mD W5 noSpec ny) (K0 H0 w0) 54 yQ (YH n o k k (mF o)) [] emp φ
 |m,k,hk=>by
  obtain ⟨hr1,hr2⟩:=uQ hr;rw[maxLen_eq] at hr2;refine wY (fn:=d6) (tb:=Pm) (by kernel_rfl) (by kernel_rfl) ?_;refine xA (C5.ok _ _) (BK _) (hold:=rF) (m:=300) (n:=200) (ts:=[⟨54,yQ,YH n o (k+1:Nat) (k+1) (mF o),[]⟩]) ?_;rw[b10 mD W5 n o k (k+1:Nat) k (k+1) (mF o) (mF o)];refine ⟨fun h=>⟨?_,?_,⟨rfl,?_,rfl,?_,trivial⟩,_,rfl,?_⟩,fun h=>?_⟩
  ·simp[mQ,nI,oJ] at h ⊢;omega
  ·simp[mQ,nI,qy,tX,maxLen_eq] at h ⊢;omega
  ·simp[mQ,nI] at h
   simp only[cw,qG,wZ];rw[pI (by omega) (by omega)];rfl
  ·exact YG rfl
  ·simp[mQ,nI] at h
   match m,hk with
   |0,hk=>omega |m+1,hk=>exact agk hr hφ m (k+1) (by omega)
  ·simp[mQ,nI] at h
   obtain rfl:k=n:=by omega
   exact hφ
theorem O10:nG ah (uY W5) 54 F10:=by
 refine BA (C:=C5 mD W5 noSpec ny) (C5.ok _ _) (fn:=d6) (by kernel_rfl) (by kernel_rfl) fun H w nV args φ hrep h=>?_
 unfold F10 at h;split at h
 ·rename_i n g
  obtain ⟨h1,h2,h3⟩:=h;have h2:mD.room n 16=aj:=h2;match args,hrep with
  |[v],⟨hv,_⟩=>
   refine ⟨[.sl 2 n (mF (mJ (α:=Oj) g))],⟨uD hv h1,trivial⟩,L0,?_⟩;refine xA (C5.ok _ _) (BK _) (hold:=rF) (m:=300) (n:=200) (ts:=[⟨54,yQ,YH n (mJ g) (0:Nat) 0 (mF (mJ (α:=Oj) g)),[]⟩]) ?_;have hn:d6.ntmps=22:=by kernel_rfl
   rw[hn,a10 mD W5 n (mJ g) (0:Nat) 0 (mF (mJ (α:=Oj) g))];refine ⟨by simp[su,nI],by simpa[pR,nI] using h2,⟨rfl,rfl,rfl,fun j hj=>by omega,trivial⟩,_,rfl,agk h2 h3 n 0 (by omega)⟩
 ·exact h.elim
end Go.mP
namespace Go.oD
open Go Go.Sx
def ael{α:Type}[DecidableEq α](a b:List α):Bool:=decide (a=b)
end Go.oD
namespace Go.mP
open Go Go.Sx Go.oD
def F35:List Sh->Tree Sh
 |[.sl 2 n g,.sl 2 m h]=>.need (okB Oj n g) (.need (okB Oj m h) (.leaf (.b (ael (lst Oj n g) (lst Oj m h))))) |_=>.fail
def F11:List Sh->Tree Sh
 |[.sl 8 n g]=>.need (okB Ev n g) (.need (oI n 64) (.leaf (.os 71 8 n (fE g)))) |_=>.fail
theorem agl{H0:Mem}{w0:World}{n:Nat}{o:Nat->Ev}{φ:Sh->Prop}(hr:mD.room n 64=aj)(hφ:φ (.os 71 8 n (mF o))):
  ∀m k,k+m=n->nX ah (C5 mD W5 noSpec ny) (K0 H0 w0) 31 yQ (YI n o k k (mF o)) [] emp φ
 |m,k,hk=>by
  obtain ⟨hr1,hr2⟩:=uQ hr;rw[maxLen_eq] at hr2;refine wY (fn:=d7) (tb:=Pm) (by kernel_rfl) (by kernel_rfl) ?_;refine xA (C5.ok _ _) (BK _) (hold:=rF) (m:=300) (n:=200) (ts:=[⟨31,yQ,YI n o (k+1:Nat) (k+1) (mF o),[]⟩]) ?_;rw[b11 mD W5 n o k (k+1:Nat) k (k+1) (mF o) (mF o)];refine ⟨fun h=>⟨?_,?_,⟨rfl,?_,rfl,?_,trivial⟩,_,rfl,?_⟩,fun h=>?_⟩
  ·simp[mQ,nI,oJ] at h ⊢;omega
  ·simp[mQ,nI,qy,tX,maxLen_eq] at h ⊢;omega
  ·simp[mQ,nI] at h
   simp only[cw,qG,wZ];rw[pI (by omega) (by omega)];rfl
  ·exact YG rfl
  ·simp[mQ,nI] at h
   match m,hk with
   |0,hk=>omega |m+1,hk=>exact agl hr hφ m (k+1) (by omega)
  ·simp[mQ,nI] at h
   obtain rfl:k=n:=by omega
   exact hφ
theorem O11:nG ah (uY W5) 31 F11:=by
 refine BA (C:=C5 mD W5 noSpec ny) (C5.ok _ _) (fn:=d7) (by kernel_rfl) (by kernel_rfl) fun H w nV args φ hrep h=>?_
 unfold F11 at h;split at h
 ·rename_i n g
  obtain ⟨h1,h2,h3⟩:=h;have h2:mD.room n 64=aj:=h2;match args,hrep with
  |[v],⟨hv,_⟩=>
   refine ⟨[.sl 8 n (mF (mJ (α:=Ev) g))],⟨uD hv h1,trivial⟩,L0,?_⟩;refine xA (C5.ok _ _) (BK _) (hold:=rF) (m:=300) (n:=200) (ts:=[⟨31,yQ,YI n (mJ g) (0:Nat) 0 (mF (mJ (α:=Ev) g)),[]⟩]) ?_;have hn:d7.ntmps=22:=by kernel_rfl
   rw[hn,a11 mD W5 n (mJ g) (0:Nat) 0 (mF (mJ (α:=Ev) g))];refine ⟨by simp[su,nI],by simpa[pR,nI] using h2,⟨rfl,rfl,rfl,fun j hj=>by omega,trivial⟩,_,rfl,agl h2 h3 n 0 (by omega)⟩
 ·exact h.elim
theorem a37(A:Prim)(W:Wd)(n m:Nat)(g h:Nat->List Sh):o7 (C5 A W noSpec ny) 300 45 [.code []] (mM 18 [.agg [.sl 2 n g,.sl 8 m h]] L0)=am (A.le (ab 0) (A.nH n)) (am (A.room (A.toN (A.nH n)) 16) (am (A.room (A.addN 0 n) 16) (am (A.le (ab 0) (A.nH m)) (am (A.room (A.toN (A.nH m)) 64) (am (A.room (A.addN 0 m) 64) (am (A.le (ab 0) (A.nH m)) (am (A.room (A.toN (A.nH m)) 64) (am (A.room (A.addN 0 n) 16) (am (A.room (A.addN 0 m) 64) (aw [av (ao 2 n g) (ao 2 n g),av (ao 8 m h) (ao 8 m h),av (ao 2 n g) (ao 2 n g),av (ao 8 m h) (ao 8 m h),ap (A.addN 0 n) (A.addN 0 n),aF (A.snoc (fun (_x:Nat)=>[]) 0 g) (A.snoc (fun (_x:Nat)=>[]) 0 g),ap (A.addN 0 m) (A.addN 0 m),aF (A.snoc (fun (_x:Nat)=>[]) 0 h) (A.snoc (fun (_x:Nat)=>[]) 0 h)] (am (A.le (ab 0) (A.nH m)) (am (A.room (A.toN (A.nH m)) 64) (am (A.le (ab 0) (A.nH n)) (am (A.room (A.toN (A.nH n)) 16) (am (A.room (A.addN 0 n) 16) (am (A.room (A.addN 0 m) 64) (aw [av (ao 2 n g) (ao 2 n g),av (ao 8 m h) (ao 8 m h),av (ao 2 n g) (ao 2 n g),av (ao 8 m h) (ao 8 m h),ap (A.addN 0 n) (A.addN 0 n),aF (A.snoc (fun (_x:Nat)=>[]) 0 g) (A.snoc (fun (_x:Nat)=>[]) 0 g),ap (A.addN 0 m) (A.addN 0 m),aF (A.snoc (fun (_x:Nat)=>[]) 0 h) (A.snoc (fun (_x:Nat)=>[]) 0 h)] (ai (ar (aN [cJ 140 2 (A.addN 0 n) (A.addN 0 n,A.snoc (fun (_x:Nat)=>[]) 0 g).snd,cJ 71 8 (A.addN 0 m) (A.addN 0 m,A.snoc (fun (_x:Nat)=>[]) 0 h).snd])))))))))))))))))))):=by kernel_rfl
theorem asB(A:Prim)(W:Wd)(n:Nat)(g h:Nat->List Sh):o7 (C5 A W noSpec ny) 300 45 [.code []] (mM 18 [.agg [.sl 2 n g,.sl 0 0 h]] L0)=am (A.le (ab 0) (A.nH n)) (am (A.room (A.toN (A.nH n)) 16) (am (A.room (A.addN 0 n) 16) (am (A.le (ab 0) (A.nH 0)) (am (A.room (A.toN (A.nH 0)) 64) (am (A.room (A.addN 0 0) 64) (am (A.le (ab 0) (A.nH 0)) (am (A.room (A.toN (A.nH 0)) 64) (am (A.room (A.addN 0 n) 16) (am (A.room (A.addN 0 0) 64) (aw [av (ao 2 n g) (ao 2 n g),av (ao 0 0 h) (ao 0 0 h),av (ao 2 n g) (ao 2 n g),av (ao 0 0 h) (ao 0 0 h),ap (A.addN 0 n) (A.addN 0 n),aF (A.snoc (fun (_x:Nat)=>[]) 0 g) (A.snoc (fun (_x:Nat)=>[]) 0 g),ap (A.addN 0 0) (A.addN 0 0),aF (A.snoc (fun (_x:Nat)=>[]) 0 fun (_x:Nat)=>[]) (A.snoc (fun (_x:Nat)=>[]) 0 fun (_x:Nat)=>[])] (am (A.le (ab 0) (A.nH 0)) (am (A.room (A.toN (A.nH 0)) 64) (am (A.le (ab 0) (A.nH n)) (am (A.room (A.toN (A.nH n)) 16) (am (A.room (A.addN 0 n) 16) (am (A.room (A.addN 0 0) 64) (aw [av (ao 2 n g) (ao 2 n g),av (ao 0 0 h) (ao 0 0 h),av (ao 2 n g) (ao 2 n g),av (ao 0 0 h) (ao 0 0 h),ap (A.addN 0 n) (A.addN 0 n),aF (A.snoc (fun (_x:Nat)=>[]) 0 g) (A.snoc (fun (_x:Nat)=>[]) 0 g),ap (A.addN 0 0) (A.addN 0 0),aF (A.snoc (fun (_x:Nat)=>[]) 0 fun (_x:Nat)=>[]) (A.snoc (fun (_x:Nat)=>[]) 0 fun (_x:Nat)=>[])] (ai (ar (aN [cJ 140 2 (A.addN 0 n) (A.addN 0 n,A.snoc (fun (_x:Nat)=>[]) 0 g).snd,cJ 71 8 (A.addN 0 0) (A.addN 0 0,A.snoc (fun (_x:Nat)=>[]) 0 fun (_x:Nat)=>[]).snd])))))))))))))))))))):=by kernel_rfl
theorem A8(g:Nat->List Sh):mD.snoc (fun _=>[]) 0 g=g:=by
 funext i;rw[tY,if_neg (Nat.not_lt_zero i),Nat.sub_zero]
def sD(st:Nat):Sh->Option (Nat×(Nat->List Sh))
 | .sl st' n g=>bif bA st' st then ae (n,g) else bif bA st' 0&&bA n 0 then ae (0,fun _=>[]) else aq |_=>aq
theorem agm{st:Nat}{s:Sh}{n:Nat}{g:Nat->List Sh}(h:sD st s=ae (n,g)):s=.sl st n g\/(∃g',s=.sl 0 0 g'/\n=0/\g=fun _=>[]):=by
 unfold sD at h;split at h
 ·rename_i st' m g'
  cases h1:bA st' st<;>simp only[h1,cond_true,cond_false] at h
  ·cases h2:(bA st' 0&&bA m 0)<;>simp only[h2,cond_true,cond_false] at h
   ·cases h
   ·cases h
    simp only[al] at h2;have e1:=bW h2.1;have e2:=bW h2.2;subst e1 e2;exact .inr ⟨_,rfl,rfl,rfl⟩
  ·cases h
   have:=bW h1;subst this;exact .inl rfl
 ·cases h
def F37:List Sh->Tree Sh
 |[.agg [.sl 2 n g,s]]=>match sD 8 s with
  |some (m,h)=>.need (oI n 16) (.need (oI m 64) (.leaf (.agg [.os 140 2 n g,.os 71 8 m h]))) |none=>.fail
 |_=>.fail
theorem O37:nG ah (uY W5) 45 F37:=by
 refine xH (C:=C5 mD W5 noSpec ny) (C5.ok _ _) (BK _) (n:=300) (L:=L0) (fn:=fF) (by kernel_rfl) (by kernel_rfl) fun H w nV args φ hrep h=>?_
 have hn:fF.ntmps=18:=by kernel_rfl
 unfold F37 at h;split at h
 ·rename_i n g s
  split at h
  ·rename_i m h' hs
   obtain ⟨h1,h2,h3⟩:=h;have h1:mD.room n 16=aj:=h1;have h2:mD.room m 64=aj:=h2;refine ⟨[.agg [.sl 2 n g,s]],hrep,?_⟩;rw[hn];rcases agm hs with rfl|⟨g',rfl,rfl,rfl⟩
   ·rw[a37 mD W5 n m g h']
    simpa[bP,oN,aX,cw,su,nI,pR,qy,h1,h2,A8] using h3
   ·rw[asB mD W5 n g g']
    simpa[bP,oN,aX,cw,su,nI,pR,qy,h1,h2,A8] using h3
  ·exact h.elim
 ·exact h.elim
def F42:List Sh->Tree Sh
 |[.sl 2 n g,.sl 2 m h]=>.need (okB Oj n g) (.need (okB Oj m h) (.leaf (.b (ael (lst Oj n g) (lst Oj m h))))) |_=>.fail
def Px:List It:=[aH [0,1,0,1],aW 0,aH [1,1]]
def agc:List It:=[aH [0,0,1,0,1],aH [0,1,0,1],aW 0,aH [1,1]]
end Go.mP
namespace Go.oD
open Go Go.Sx
def hasB(l:List Int)(x:Int):Bool:=decide (x∈l)
theorem Gj{α:Type}[Row α](l:List α)(a:α){r:List (List Sh)}(h:nM r 0=Row.put a):∀i,i<l.length+1->mD.snoc (mF (nth l)) l.length (nM r) i=mF (nth (l++[a])) i:=fun i hi=>by
 rw[tY];split
 ·rename_i h1
  simp only[mF,nth];rw[aZ,aZ,List.getElem?_append_left h1]
 ·have:i=l.length:=by omega
  subst this;rw[gU,h];simp[mF,nth]
end Go.oD
namespace Go.mP
open Go Go.Sx Go.oD
def F41:List Sh->Tree Sh
 |[.sl 1 n g,.i .i64 x]=>.need (okB Int n g) (.leaf (.b (hasB (lst Int n g) x))) |_=>.fail
def Dl:Nat->Option (List Sh->Tree Sh)
 |54=>ae F10 |31=>ae F11 |45=>ae F37 |_=>aq
theorem a13(A:Prim)(W:Wd)(n m:Nat)(g h:Nat->List Sh)(x:Int):o7 (C5 A W Dl ny) 300 21 [.code []] (mM 17 [.agg [.sl 2 n g,.sl 8 m h],.i .i64 x] L0)=am (A.upTo (A.max (ab 0) (A.min x (A.nH m))) m) (am (oI n 16) (am (oI (A.toN (A.max (ab 0) (A.min x (A.nH m)))) 64) (ai (ar (aN [cJ 140 2 n g,cJ 71 8 (A.toN (A.max (ab 0) (A.min x (A.nH m)))) h]))))):=by kernel_rfl
theorem a14(A:Prim)(W:Wd)(n m:Nat)(g h:Nat->List Sh)(x:Int):o7 (C5 A W Dl ny) 300 29 [.code []] (mM 20 [.agg [.sl 2 n g,.sl 8 m h],.i .i64 x] L0)=am (okB Oj n g) (am (oI n 16) (am (A.upTo (A.max (ab 0) (A.min x (A.nH m))) m) (am (okB Ev (A.toN (A.max (ab 0) (A.min x (A.nH m)))) h) (am (oI (A.toN (A.max (ab 0) (A.min x (A.nH m)))) 64) (am (A.upTo (A.max (ab 0) (A.min x (A.nH m))) m) (am (okB Oj n g) (am (oI n 16) (am (okB Ev (A.toN (A.max (ab 0) (A.min x (A.nH m)))) h) (am (oI (A.toN (A.max (ab 0) (A.min x (A.nH m)))) 64) (aw [av (ao 2 n g) (ao 2 n g),av (ao 8 m h) (ao 8 m h),ac (A.max (ab 0) (A.min x (A.nH m))) (A.max (ab 0) (A.min x (A.nH m))),av (ao 2 n g) (ao 2 n g),av (ao 8 m h) (ao 8 m h),ap n n,aF (fO g) (fO g),ap (A.toN (A.max (ab 0) (A.min x (A.nH m)))) (A.toN (A.max (ab 0) (A.min x (A.nH m)))),aF (fE h) (fE h)] (ai (ar (aN [cJ 140 2 n (fO g),cJ 71 8 (A.toN (A.max (ab 0) (A.min x (A.nH m)))) (fE h)]))))))))))))):=by kernel_rfl
end Go.mP
namespace Go.oD
open Go Go.Sx
end Go.oD
namespace Go.mP
open Go Go.Sx Go.oD
theorem asD:∀g F,Dl g=ae F->nG ah (uY W5) g F:=fun g F h=>by
 unfold Dl at h;split at h
 ·cases h;exact O10
 ·cases h;exact O11
 ·cases h;exact O37
 ·cases h
theorem akE(stop:Nat->List Nat->Bool):oH ah (C5 mD W5 Dl stop):=C5.Gh asD fun g h=>by
 unfold Dl at h;split at h;all_goals first|(cases h;done) |kernel_rfl
theorem JQ{H:Mem}{n m:Nat}{g h:Nat->List Sh}{v:Value}(hv:Rep H (.agg [.sl 2 n g,.sl 8 m h]) v)(hg:okB Oj n g=aj)(hk:okB Ev m h=aj):Rep H (.agg [.sl 2 n (mF (mJ (α:=Oj) g)),.sl 8 m (mF (mJ (α:=Ev) h))]) v:=by
 cases hv with
 |agg _ vs h1 h2=>
  refine .agg _ vs h1 fun j s v' e1 e2=>?_
  match j,e1 with
  |0,e1=>simp at e1;subst e1;exact uD (h2 0 _ v' rfl e2) hg |1,e1=>simp at e1;subst e1;exact uD (h2 1 _ v' rfl e2) hk |j+2,e1=>simp at e1
end Go.mP
namespace Go.oD
open Go Go.Sx
def upN(x:Int)(m:Nat):Nat:=(max 0 (min x (m:Int))).toNat
theorem acR(x:Int)(m:Nat):mD.toN (mD.max (ab 0) (mD.min x (mD.nH m)))=upN x m:=by
 unfold upN;rw[zH,Gi,pR,nI];congr 1;simp only[dN];split<;>split<;>omega
theorem WG(x:Int)(m:Nat):mD.upTo (mD.max (ab 0) (mD.min x (mD.nH m))) m=aj:=by
 rw[zH,Gi,zk,nI];simp only[dN];split<;>split<;>simp<;>omega
end Go.oD
namespace Go.mP
open Go Go.Sx Go.oD
def F13:List Sh->Tree Sh
 |[.agg [.sl 2 n g,.sl 8 m h],.i .i64 x]=>.need (oI n 16) (.need (oI (upN x m) 64) (.leaf (.agg [.os 140 2 n g,.os 71 8 (upN x m) h]))) |_=>.fail
theorem O13:nG ah (uY W5) 21 F13:=by
 refine xH (C:=C5 mD W5 Dl ny) (C5.ok _ _) (akE _) (n:=300) (L:=L0) (fn:=fG) (by kernel_rfl) (by kernel_rfl) fun H w nV args φ hrep h=>?_
 have hn:fG.ntmps=17:=by kernel_rfl
 unfold F13 at h;split at h
 ·rename_i n g m h' x
  obtain ⟨h1,h2,h3⟩:=h;refine ⟨_,hrep,?_⟩;rw[hn,a13 mD W5 n m g h' x];rw[<-acR] at h2 h3;exact ⟨WG x m,h1,h2,h3⟩
 ·exact h.elim
def F14:List Sh->Tree Sh
 |[.agg [.sl 2 n g,.sl 8 m h],.i .i64 x]=>.need (okB Oj n g) (.need (okB Ev (upN x m) h) (.need (oI n 16) (.need (oI (upN x m) 64) (.leaf (.agg [.os 140 2 n (fO g),.os 71 8 (upN x m) (fE h)]))))) |_=>.fail
theorem O14:nG ah (uY W5) 29 F14:=by
 refine xH (C:=C5 mD W5 Dl ny) (C5.ok _ _) (akE _) (n:=300) (L:=L0) (fn:=fY) (by kernel_rfl) (by kernel_rfl) fun H w nV args φ hrep h=>?_
 have hn:fY.ntmps=20:=by kernel_rfl
 unfold F14 at h;split at h
 ·rename_i n g m h' x
  obtain ⟨h1,h2,h3,h4,h5⟩:=h;refine ⟨_,hrep,?_⟩;rw[hn,a14 mD W5 n m g h' x];rw[<-acR] at h2 h4 h5;exact ⟨h1,h3,WG x m,h2,h4,WG x m,h1,h3,h2,h4,⟨rfl,rfl,rfl,rfl,rfl,rfl,rfl,rfl,rfl,trivial⟩,h5⟩
 ·exact h.elim
def pX:Nat->Option (List Sh->Tree Sh)
 |54=>ae F10 |31=>ae F11 |21=>ae F13 |29=>ae F14 |45=>ae F37 |_=>aq
theorem a57(A:Prim)(W:Wd)(c:Int):o7 (C5 A W pX ny) 300 102 [.code []] (mM 17 [.i .i64 c] L0)=ak (A.eq c (ab 1)) (ai (ar (az .i64 (ab 1)))) (ak (A.eq c (ab 2)) (ai (ar (az .i64 (ab 1)))) (ak (A.eq c (ab 3)) (ai (ar (az .i64 (ab 2)))) (ak (A.eq c (ab 4)) (ai (ar (az .i64 (ab 2)))) (ak (A.eq c (ab 5)) (ai (ar (az .i64 (ab 3)))) (ak (A.eq c (ab 6)) (ai (ar (az .i64 (ab 3)))) (ak (A.eq c (ab 7)) (ai (ar (az .i64 (ab 4)))) (ak (A.eq c (ab 8)) (ai (ar (az .i64 (ab 4)))) (ak (A.eq c (ab 9)) (ai (ar (az .i64 (ab 4)))) (ai (ar (az .i64 (ab 0)))))))))))):=by kernel_rfl
theorem ap0(A:Prim)(W:Wd)(c:Int):o7 (C5 A W pX ny) 300 122 [.code []] (mM 16 [.v (.int .i64 1),.i .i64 c] L0)=ak (A.lt (A.sub .i64 (A.max c (ab 0)) (ab 1)) (ab 0)) (ai (ar (aR []))) (ak (A.le (ab 4) (A.sub .i64 (A.max c (ab 0)) (ab 1))) (ai (ar (aR []))) (am (A.inB (A.sub .i64 (A.max c (ab 0)) (ab 1)) 4) (ak (A.eq (A.sub .i64 (A.max c (ab 0)) (ab 1)) (ab 0)) (ai (ar (aR (W 16 0)))) (ak (A.eq (A.sub .i64 (A.max c (ab 0)) (ab 1)) (ab 1)) (ai (ar (aR (W 16 1)))) (ak (A.eq (A.sub .i64 (A.max c (ab 0)) (ab 1)) (ab 2)) (ai (ar (aR (W 16 2)))) (ak (A.eq (A.sub .i64 (A.max c (ab 0)) (ab 1)) (ab 3)) (ai (ar (aR (W 16 3)))) aY)))))):=by kernel_rfl
theorem ap1(A:Prim)(W:Wd)(c:Int):o7 (C5 A W pX ny) 300 122 [.code []] (mM 16 [.v (.int .i64 2),.i .i64 c] L0)=ak (A.lt (A.sub .i64 (A.max c (ab 0)) (ab 1)) (ab 0)) (ai (ar (aR []))) (ak (A.le (ab 7) (A.sub .i64 (A.max c (ab 0)) (ab 1))) (ai (ar (aR []))) (am (A.inB (A.sub .i64 (A.max c (ab 0)) (ab 1)) 7) (ak (A.eq (A.sub .i64 (A.max c (ab 0)) (ab 1)) (ab 0)) (ai (ar (aR (W 17 0)))) (ak (A.eq (A.sub .i64 (A.max c (ab 0)) (ab 1)) (ab 1)) (ai (ar (aR (W 17 1)))) (ak (A.eq (A.sub .i64 (A.max c (ab 0)) (ab 1)) (ab 2)) (ai (ar (aR (W 17 2)))) (ak (A.eq (A.sub .i64 (A.max c (ab 0)) (ab 1)) (ab 3)) (ai (ar (aR (W 17 3)))) (ak (A.eq (A.sub .i64 (A.max c (ab 0)) (ab 1)) (ab 4)) (ai (ar (aR (W 17 4)))) (ak (A.eq (A.sub .i64 (A.max c (ab 0)) (ab 1)) (ab 5)) (ai (ar (aR (W 17 5)))) (ak (A.eq (A.sub .i64 (A.max c (ab 0)) (ab 1)) (ab 6)) (ai (ar (aR (W 17 6)))) aY))))))))):=by kernel_rfl
theorem ap2(A:Prim)(W:Wd)(c:Int):o7 (C5 A W pX ny) 300 122 [.code []] (mM 16 [.v (.int .i64 3),.i .i64 c] L0)=ak (A.lt (A.sub .i64 (A.max c (ab 0)) (ab 1)) (ab 0)) (ai (ar (aR []))) (ak (A.le (ab 9) (A.sub .i64 (A.max c (ab 0)) (ab 1))) (ai (ar (aR []))) (am (A.inB (A.sub .i64 (A.max c (ab 0)) (ab 1)) 9) (ak (A.eq (A.sub .i64 (A.max c (ab 0)) (ab 1)) (ab 0)) (ai (ar (aR (W 18 0)))) (ak (A.eq (A.sub .i64 (A.max c (ab 0)) (ab 1)) (ab 1)) (ai (ar (aR (W 18 1)))) (ak (A.eq (A.sub .i64 (A.max c (ab 0)) (ab 1)) (ab 2)) (ai (ar (aR (W 18 2)))) (ak (A.eq (A.sub .i64 (A.max c (ab 0)) (ab 1)) (ab 3)) (ai (ar (aR (W 18 3)))) (ak (A.eq (A.sub .i64 (A.max c (ab 0)) (ab 1)) (ab 4)) (ai (ar (aR (W 18 4)))) (ak (A.eq (A.sub .i64 (A.max c (ab 0)) (ab 1)) (ab 5)) (ai (ar (aR (W 18 5)))) (ak (A.eq (A.sub .i64 (A.max c (ab 0)) (ab 1)) (ab 6)) (ai (ar (aR (W 18 6)))) (ak (A.eq (A.sub .i64 (A.max c (ab 0)) (ab 1)) (ab 7)) (ai (ar (aR (W 18 7)))) (ak (A.eq (A.sub .i64 (A.max c (ab 0)) (ab 1)) (ab 8)) (ai (ar (aR (W 18 8)))) aY))))))))))):=by kernel_rfl
theorem ap3(A:Prim)(W:Wd)(c:Int):o7 (C5 A W pX ny) 300 122 [.code []] (mM 16 [.v (.int .i64 4),.i .i64 c] L0)=ak (A.lt (A.sub .i64 (A.max c (ab 0)) (ab 1)) (ab 0)) (ai (ar (aR []))) (ak (A.le (ab 3) (A.sub .i64 (A.max c (ab 0)) (ab 1))) (ai (ar (aR []))) (am (A.inB (A.sub .i64 (A.max c (ab 0)) (ab 1)) 3) (ak (A.eq (A.sub .i64 (A.max c (ab 0)) (ab 1)) (ab 0)) (ai (ar (aR (W 19 0)))) (ak (A.eq (A.sub .i64 (A.max c (ab 0)) (ab 1)) (ab 1)) (ai (ar (aR (W 19 1)))) (ak (A.eq (A.sub .i64 (A.max c (ab 0)) (ab 1)) (ab 2)) (ai (ar (aR (W 19 2)))) aY))))):=by kernel_rfl
theorem ap4(A:Prim)(W:Wd)(c:Int):o7 (C5 A W pX ny) 300 122 [.code []] (mM 16 [.v (.int .i64 5),.i .i64 c] L0)=ak (A.lt (A.sub .i64 (A.max c (ab 0)) (ab 1)) (ab 0)) (ai (ar (aR []))) (ak (A.le (ab 4) (A.sub .i64 (A.max c (ab 0)) (ab 1))) (ai (ar (aR []))) (am (A.inB (A.sub .i64 (A.max c (ab 0)) (ab 1)) 4) (ak (A.eq (A.sub .i64 (A.max c (ab 0)) (ab 1)) (ab 0)) (ai (ar (aR (W 20 0)))) (ak (A.eq (A.sub .i64 (A.max c (ab 0)) (ab 1)) (ab 1)) (ai (ar (aR (W 20 1)))) (ak (A.eq (A.sub .i64 (A.max c (ab 0)) (ab 1)) (ab 2)) (ai (ar (aR (W 20 2)))) (ak (A.eq (A.sub .i64 (A.max c (ab 0)) (ab 1)) (ab 3)) (ai (ar (aR (W 20 3)))) aY)))))):=by kernel_rfl
theorem ap5(A:Prim)(W:Wd)(c:Int):o7 (C5 A W pX ny) 300 122 [.code []] (mM 16 [.v (.int .i64 6),.i .i64 c] L0)=ak (A.lt (A.sub .i64 (A.max c (ab 0)) (ab 1)) (ab 0)) (ai (ar (aR []))) (ak (A.le (ab 4) (A.sub .i64 (A.max c (ab 0)) (ab 1))) (ai (ar (aR []))) (am (A.inB (A.sub .i64 (A.max c (ab 0)) (ab 1)) 4) (ak (A.eq (A.sub .i64 (A.max c (ab 0)) (ab 1)) (ab 0)) (ai (ar (aR (W 21 0)))) (ak (A.eq (A.sub .i64 (A.max c (ab 0)) (ab 1)) (ab 1)) (ai (ar (aR (W 21 1)))) (ak (A.eq (A.sub .i64 (A.max c (ab 0)) (ab 1)) (ab 2)) (ai (ar (aR (W 21 2)))) (ak (A.eq (A.sub .i64 (A.max c (ab 0)) (ab 1)) (ab 3)) (ai (ar (aR (W 21 3)))) aY)))))):=by kernel_rfl
end Go.mP
