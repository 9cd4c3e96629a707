/- Own work. -/
import Derived.Test.YtemojddccikgkaaGreatDoorB07
import Derived.Lib.AppendZerosOnto
open Int (ofNat)
open And renaming intro->aW
open Bool renaming false->ag,true->ah,and_eq_true->ak
open Go.BinOp renaming shr->gS
open Go.Builtin renaming zeroCells->cV
open Go.Fn renaming yield->fR
open Go.IntKind renaming u64->dG,i64->az
open Go.Proofs.C7 renaming Hq->cO,ok->dC
open Go.Proofs.Tryz renaming prog->ai,f171->jL,f148->mt,tys->eU,func175->lJ,ntmps175->kP,fnsAre_->cu,entersB_->cI,fns->fi,f151->mu,f146->mw,f153->my,f150->mz,f152->mA,f110->mB,f111->mC,f112->mD,f140->mE,f141->mF,f142->mG,f143->mH,f145->mI,f46->im,f98->io,f57->gy
open Go.Sx renaming Enters->kQ
open Go.Sx.oM renaming sh->aw,int->ac,nat->am,Gf->aF,val->dL,get->ax,all->bi
open Go.Sx.pI renaming at_->aH,ret->ar
open Go.Sx.It renaming code->aA,inBlock->aM
open Go.Sx.Sh renaming sl->aj,mX->aL,i->av,agg->aN,os->bS,er->aX,v->fQ,str->bA
open Go.Sx.Tree renaming leaf->ap,node->aq,need->al,fail->dN,must->aR
open Go.Value renaming nilIface->bd,func->eh
open Int renaming ofNat->ab,negSucc->bW,toNat_natCast->bm
open List renaming takeWhile->dV,length_cons->cJ,pairwise_iff_getElem->cT,all_eq_true->bh,getElem_mem->eD,range->aD,takeWhile_prefix->ig,mem_cons->fD,getElem?_append_left->cj,length_nil->gI,mem_range->bI
open Nat renaming le_refl->aV,zero_le->cM,le_succ->j3,beq->bJ,mul_le_mul_right->ba
open Option renaming some->ae,none->ao
namespace Go.Pl
open Go Go.Sx
structure Lm7 where
 pos:Nat->(Nat->List Sh)->Int->Nat
 has:Nat->(Nat->List Sh)->Int->Bool
 wf:Nat->(Nat->List Sh)->Int->Bool
end Go.Pl
namespace Go.Proofs
open Go Go.Sx Go.Pl
def LY:List It:=[aA [0,0,1,1,1],aM 0,aA [1,1,1,1]]
def amQ:List It:=aA [0,0,0,1,1,1]::LY
def LZ(n:Nat)(p:Nat->Pr)(key i j:Int):Core:={tm:=sK 49 [(0,.sh (.sl 2 n (mO p))),(1,.sym .i64 key),(2,.fn 172 []),(8,.sym .i64 (n:Int)),(9,.sym .i64 i),(10,.sym .i64 j)],hp:=[],nx:=0,lim:=L0,tc:=[]}
theorem auZ(A:Prim)(W:Wd)(n:Nat)(p:Nat->Pr)(key i' j':Int):nR (C7 A W noSpec mZ) qm 300 400 171 [.code []] (nX 49 [.sl 2 n (mO p),.i .i64 key,.fn 172 []] L0) [] [⟨171,LY,LZ n p key i' j',[]⟩]=ap (aH 0 [aw (aj 2 n (mO p)) (aj 2 n (mO p)),ac key key,ac (A.nK n) (ab n),ac (ab 0) i',ac (A.nK n) j']):=by kernel_rfl
theorem amR(A:Prim)(W:Wd)(n:Nat)(p:Nat->Pr)(key i j i' j':Int):nR (C7 A W noSpec mZ) qm 300 400 171 amQ (LZ n p key i j) [] [⟨171,LY,LZ n p key i' j',[]⟩]=aq (A.lt i j) (al (A.inB (A.conv .i64 (A.bin gS dG (A.conv .u64 (A.add .i64 i j)) (ab 1))) n) (aq (A.lt (A.sub .i64 (p (A.toN (A.conv .i64 (A.bin gS dG (A.conv .u64 (A.add .i64 i j)) (ab 1))))).key key) (ab 0)) (ap (aH 0 [aw (aj 2 n (mO p)) (aj 2 n (mO p)),ac key key,ac (ab n) (ab n),ac (A.add .i64 (A.conv .i64 (A.bin gS dG (A.conv .u64 (A.add .i64 i j)) (ab 1))) (ab 1)) i',ac j j'])) (ap (aH 0 [aw (aj 2 n (mO p)) (aj 2 n (mO p)),ac key key,ac (ab n) (ab n),ac i i',ac (A.conv .i64 (A.bin gS dG (A.conv .u64 (A.add .i64 i j)) (ab 1))) j'])))) (aq (A.lt i (ab n)) (al (A.inB i n) (ap (ar (aL [av .i64 i,Sh.b (A.eq (A.sub .i64 (p (A.toN i)).key key) (ab 0))])))) (ap (ar (aL [av .i64 i,Sh.b ag])))):=by kernel_rfl
end Go.Proofs
namespace Go.Pl
open Go Go.Sx Go.Proofs
def JC(ps:List Pr):Bool:=decide (ps.Pairwise fun a b=>a.key<b.key)&&ps.all fun p=>decide (0<=p.key/\p.key<=1000)
def tZ(key:Int):Bool:=decide (0<=key/\key<=1000)
def pR(ps:List Pr)(key:Int):Nat:=(ps.takeWhile fun p=>decide (p.key<key)).length
def sW(ps:List Pr)(key:Int):Bool:=ps.any fun p=>p.key==key
theorem aeI:∀{ps:List Pr} {key:Int} {k:Nat},k<=ps.length->(∀t (h:t<ps.length),t<k->ps[t].key<key)->(∀t (h:t<ps.length),k<=t->key<=ps[t].key)->pR ps key=k
 |[],key,k,hk,_,_=>by simp at hk;subst hk;rfl |a::ps,key,0,_,_,h2=>by
  have:=h2 0 (by simp) (aV _);grind [decide,decide_eq_false,pR,dV]
 |a::ps,key,k+1,hk,h1,h2=>by
  have ha:=h1 0 (by simp) (by omega);simp only[List.getElem_cons_zero] at ha;have hd:decide (a.key<key)=ah:=decide_eq_true ha;have ih:=aeI (ps:=ps) (key:=key) (k:=k) (by grind) (fun t ht hlt=>h1 (t+1) (by simp;omega) (by omega)) (fun t ht hle=>h2 (t+1) (by simp;omega) (by omega));simp_all [pR,dV,cJ]
theorem aeJ{ps:List Pr}{key:Int}{k:Nat}(hs:ps.Pairwise fun a b=>a.key<b.key)(h1:∀t (h:t<ps.length),t<k->ps[t].key<key)(h2:∀t (h:t<ps.length),k<=t->key<=ps[t].key):
  sW ps key=ah↔∃h:k<ps.length,ps[k].key=key:=by
 unfold sW;rw[List.any_eq_true];constructor
 ·rintro ⟨x,hx,he⟩
  obtain ⟨t,ht,rfl⟩:=List.getElem_of_mem hx;grind [cT]
 grind
theorem vN{ps:List Pr}(h:JC ps=ah):ps.Pairwise fun a b=>a.key<b.key:=by
 simp_all [JC,ak,of_decide_eq_true]
theorem amS{ps:List Pr}(h:JC ps=ah){t:Nat}(ht:t<ps.length):0<=ps[t].key/\ps[t].key<=1000:=by
 simp_all [JC,ak,bh,eD,of_decide_eq_true]
theorem ap7{i j:Nat}(h:i+j<=1000000):mM.conv .i64 (mM.bin .shr .u64 (mM.conv .u64 (mM.add .i64 i j)) (ab 1))=(((i+j) / 2:Nat):Int):=by
 have e1:mM.add .i64 i j=((i+j:Nat):Int):=by grind [rP,pF]
 rw[e1];have e2:mM.conv .u64 ((i+j:Nat):Int)=((i+j:Nat):Int):=by
  show dG.wrap _=_;rw[IntKind.wrap_u64];omega
 rw[e2];have e3:mM.bin .shr .u64 ((i+j:Nat):Int) (ab 1)=(((i+j) / 2:Nat):Int):=by
  show Int.fdiv ((i+j:Nat):Int) (2^(min 1 64))=_;grind
 rw[e3];show az.wrap _=_;grind [pF]
end Go.Pl
namespace Go.Proofs
open Go Go.Sx Go.Pl
def amT:List Sh->Tree Sh
 |[.sl 2 n g,.i .i64 key,.fn 172 []]=>.need (okB Pr n g) (.need (decide (n<=100000)) (.need (JC (lst Pr n g)) (.need (tZ key) (.leaf (.mX [.i .i64 (pR (lst Pr n g) key),.b (sW (lst Pr n g) key)]))))) |_=>.fail
theorem X3{H0:Mem}{w0:World}{n:Nat}{p:Nat->Pr}{key:Int}{φ:Sh->Prop}(hn:n<=100000)(hs:JC ((aD n).map p)=ah)(hk:tZ key=ah)
  (hφ:φ (.mX [.i .i64 (pR ((aD n).map p) key),.b (sW ((aD n).map p) key)])) :
  ∀m i j,j - i<=m->i<=j->j<=n->(∀t,t<i->(p t).key<key)->(∀t,t<n->j<=t->key<=(p t).key)->mY ai (C7 mM W7 noSpec mZ) (K0 H0 w0) 171 LY (LZ n p key i j) [] emp φ
 |m,i,j,hm,hij,hjn,h1,h2=>by
  have hkey:0<=key/\key<=1000:=of_decide_eq_true hk;have hp:∀t,t<n->0<=(p t).key/\(p t).key<=1000:=fun t ht=>by
   have:=amS hs (t:=t) (by grind);simp_all
  have hso:=vN hs;have hlt:∀a b,a<b->b<n->(p a).key<(p b).key:=fun a b hab hb=>by
   grind [cT]
  have sub_eq:∀t,t<n->mM.sub .i64 (p t).key key=(p t).key - key:=fun t ht=>by
   grind [Di,pF]
  have hfin:i=j->(i<n->(p i).key=key->φ (.mX [.i .i64 i,.b ah]))/\((i<n->(p i).key≠key)->φ (.mX [.i .i64 i,.b ag])):=fun e=>by
   subst e;have hl:((aD n).map p).length=n:=by simp
   grind [aD,aeI,aeJ,sW]
  have hmid:=ap7 (i:=i) (j:=j) (by omega);refine uT jL amQ ?_;by_cases hlt2:i<j
  ·by_cases hcmp:(p ((i+j) / 2)).key<key
   ·refine pK tX (vk _) 300 400 [⟨171,LY,LZ n p key ((i+j) / 2+1:Nat) j,[]⟩] ?_
    rw[show tX=qm from rfl,amR mM W7 n p key i j ((i+j) / 2+1:Nat) j,hmid];refine ⟨fun _=>⟨by simp[nN];omega,fun _=>⟨⟨rfl,rfl,rfl,?_,rfl,trivial⟩,_,rfl,?_⟩,fun h=>?_⟩,fun h=>?_⟩
    ·grind [oM.ok,rP,zi,pF]
    ·match m,hm with
     |0,hm=>omega |m+1,hm=>
      refine X3 hn hs hk hφ m ((i+j) / 2+1) j (by omega) (by omega) hjn (fun t ht=>?_) h2;by_cases e:t=(i+j) / 2
      ·simp_all
      ·have:=hlt t ((i+j) / 2) (by omega) (by omega);omega
    ·have e:mM.toN (((i+j) / 2:Nat):Int)=(i+j) / 2:=rfl
     grind [mW]
    simp_all [mW]
   ·refine pK tX (vk _) 300 400 [⟨171,LY,LZ n p key i ((i+j) / 2:Nat),[]⟩] ?_
    rw[show tX=qm from rfl,amR mM W7 n p key i j i ((i+j) / 2:Nat),hmid];refine ⟨fun _=>⟨by simp[nN];omega,fun h=>?_,fun _=>⟨⟨rfl,rfl,rfl,rfl,rfl,trivial⟩,_,rfl,?_⟩⟩,fun h=>?_⟩
    ·have e:mM.toN (((i+j) / 2:Nat):Int)=(i+j) / 2:=rfl
     grind [mW]
    ·match m,hm with
     |0,hm=>omega |m+1,hm=>
      refine X3 hn hs hk hφ m i ((i+j) / 2) (by omega) (by omega) (by omega) h1 (fun t ht hle=>?_);by_cases e:t=(i+j) / 2
      ·grind
      ·have:=hlt ((i+j) / 2) t (by omega) ht;omega
    simp_all [mW]
  ·have e:i=j:=by omega
   obtain ⟨f1,f2⟩:=hfin e;refine pK tX (vk _) 300 400 [⟨171,LY,LZ n p key i j,[]⟩] ?_;rw[show tX=qm from rfl,amR mM W7 n p key i j i j];refine ⟨fun h=>?_,fun _=>⟨fun h=>⟨?_,?_⟩,fun h=>?_⟩⟩
   ·simp_all [mW]
   ·simp_all [mW,nN]
   ·have hi:i<n:=by grind
    show φ _;have e1:mM.toN (i:Int)=i:=rfl;grind [nG]
   ·exact f2 fun hi=>by grind [mW]
theorem au0:nD ai (nJ W7) 171 amT:=by
 refine zI (C7 mM W7 noSpec mZ) jL fun H w nY args φ hrep h=>?_
 unfold amT at h;split at h
 ·rename_i n g key
  obtain ⟨h1,h2,h3,h4,hφ⟩:=h;match args,hrep with
  |[v,u1,u2],⟨hv,r1,r2,_⟩=>
   refine ⟨[.sl 2 n (mO (mP (α:=Pr) g)),.i .i64 key,.fn 172 []],⟨pX hv h1,r1,r2,trivial⟩,L0,?_⟩;have e:lst Pr n g=(aD n).map (mP g):=rfl;rw[e] at h3 hφ;generalize mP (α:=Pr) g=p at *;have h2:=of_decide_eq_true h2;have hn:jL.ntmps=49:=by kernel_rfl
   refine pK tX (vk _) 300 400 [⟨171,LY,LZ n p key (0:Nat) n,[]⟩] ?_;rw[show tX=qm from rfl,hn,auZ mM W7 n p key (0:Nat) n];exact ⟨⟨rfl,rfl,rfl,rfl,rfl,trivial⟩,_,rfl,X3 h2 h3 h4 hφ n 0 n (by omega) (cM _) (aV _) (fun t ht=>by omega) (fun t ht hle=>by omega)⟩
 ·exact h.elim
end Go.Proofs
namespace Go.Pl
open Go Go.Sx
def oV(n:Nat)(g:Nat->List Sh)(key:Int):Int:=(pR (lst Pr n g) key:Int)
def yI(n:Nat)(g:Nat->List Sh)(key:Int):Bool:=sW (lst Pr n g) key
def yZ(n:Nat)(g:Nat->List Sh):Bool:=okB Pr n g&&decide (n<=100000)&&JC (lst Pr n g)
def IB(n:Nat)(g:Nat->List Sh)(key:Int):Int:=if yI n g key=ah then (mP (α:=Pr) g (pR (lst Pr n g) key)).val else 0
def Ko(n:Nat)(g:Nat->List Sh)(key:Int):Int:=if yI n g key=ah then 3 else 2
def Gs(n m:Nat):Nat:=n+m
def aaP(g:Nat->List Sh)(n:Nat)(h:Nat->List Sh):Nat->List Sh:=mM.snoc g n h
end Go.Pl
namespace Go.Proofs
open Go Go.Sx Go.Pl
def ag1:List Sh->Tree Sh
 |[.sl 2 n g,.i .i64 key,.fn 172 []]=>.need (yZ n g) (.need (tZ key) (.leaf (.mX [.i .i64 (oV n g key),.b (yI n g key)]))) |_=>.fail
def L6:Nat->Option (List Sh->Tree Sh)
 |171=>ae ag1 |_=>ao
def aiK:List Sh->Tree Sh
 |[.agg [.i .i64 _,.i .i64 _,s2,s3],.i .i64 key]=>match qp 1 s2,qp 2 s3 with
  |some _,ae (n,g)=>.need (yZ n g) (.need (tZ key) (.leaf (.mX [.i .i64 (oV n g key),.b (yI n g key)]))) |_,_=>.fail
 |_=>.fail
def DT:Nat->Option (List Sh->Tree Sh)
 |148=>ae aiK |149=>ae (fun _=>.fail) |_=>ao
def amU:List Sh->Tree Sh
 |[.agg [.i .i64 _,.i .i64 _,s2,s3],.i .i64 key]=>match qp 1 s2,qp 2 s3 with
  |some _,ae (n,g)=>.need (yZ n g) (.need (tZ key) (.leaf (.mX [.i .i64 (Ko n g key),.i .i64 (IB n g key)]))) |_,_=>.fail
 |_=>.fail
def L8:Nat->Option (List Sh->Tree Sh)
 |175=>ae (fun _=>.fail) |_=>ao
def amV:List Sh->Tree Sh
 |[.sl 1 2 g]=>match g 0,g 1 with
  |[.sl 2 n g1],[.sl 2 m g2]=>.need (pq (Gs n m) 16) (.leaf (.sl 2 (Gs n m) (aaP g1 n g2))) |_,_=>.fail
 |_=>.fail
def wu:Nat->Option (List Sh->Tree Sh)
 |148=>ae aiK |151=>ae amU |153=>ae amV |_=>ao
theorem au1(A:Prim)(W:Wd)(x y:Int)(a b:Nat)(h:Nat->List Sh)(p:Nat->Pr)(key:Int):nR (C7 A W L6 mZ) qm 300 400 148 [.code []] (nX 12 [.agg [.i .i64 x,.i .i64 y,.sl 1 a h,.sl 2 b (mO p)],.i .i64 key] L0) [] []=al (yZ b (mO p)) (al (tZ key) (ap (ar (aL [av .i64 (oV b (mO p) key),Sh.b (yI b (mO p) key)])))):=by kernel_rfl
theorem a105(A:Prim)(W:Wd)(x y:Int)(a b:Nat)(h:Nat->List Sh)(p:Nat->Pr)(key:Int):nR (C7 A W DT mZ) qm 300 400 151 [.code []] (nX 21 [.agg [.i .i64 x,.i .i64 y,.sl 1 a h,.sl 2 b (mO p)],.i .i64 key] L0) [] []=al (yZ b (mO p)) (al (tZ key) (aq (yI b (mO p) key) (al (A.inB (oV b (mO p) key) b) (ap (ar (aL [av .i64 (ab 3),av .i64 (p (A.toN (oV b (mO p) key))).val])))) (ap (ar (aL [av .i64 (ab 2),av .i64 (ab 0)]))))):=by kernel_rfl
theorem au2(A:Prim)(W:Wd)(x y:Int)(a b:Nat)(h:Nat->List Sh)(p:Nat->Pr)(key v:Int):nR (C7 A W wu mZ) qm 300 400 150 [.code []] (nX 20 [.agg [.i .i64 x,.i .i64 y,.sl 1 a h,.sl 2 b (mO p)],.i .i64 key,.i .i64 v] L0) [] []=al (yZ b (mO p)) (al (tZ key) (ap (ar (aL [aN [av .i64 x,av .i64 y,aj 1 a h,aj 2 b (mO p)],av .i64 (Ko b (mO p) key),av .i64 (IB b (mO p) key)])))):=by kernel_rfl
theorem au3(A:Prim)(W:Wd)(x y:Int)(a b:Nat)(h:Nat->List Sh)(p:Nat->Pr)(key v:Int):nR (XK A W DT mZ) qm 300 400 146 [.code []] (nX 38 [.agg [.i .i64 x,.i .i64 y,.sl 1 a h,.sl 2 b (mO p)],.i .i64 key,.i .i64 v] L0) [] []=aq (A.Wu b 0) ((al (yZ 0 fun _=>[]) (al (tZ key) (aq (yI 0 (fun _=>[]) key) dN (al (A.upTo (oV 0 (fun _=>[]) key) 0) (al (A.room (A.addN 0 1) 16) (ap (ar (aL [aN [av .i64 x,av .i64 y,aj 1 a h,bS 212 2 (A.addN 0 1) (A.ins (fun _=>[]) (A.toN (oV 0 (fun _=>[]) key)) [av .i64 key,av .i64 v])],av .i64 (ab 1),av .i64 (ab 0)])))))))).both (al (A.room (A.addN 0 b) 16) (al (yZ (A.addN 0 b) (A.snoc (nM []) 0 (mO p))) (al (tZ key) (aq (yI (A.addN 0 b) (A.snoc (nM []) 0 (mO p)) key) (al (A.inB (oV (A.addN 0 b) (A.snoc (nM []) 0 (mO p)) key) (A.addN 0 b)) (ap (ar (aL [aN [av .i64 x,av .i64 y,aj 1 a h,bS 212 2 (A.addN 0 b) (A.upd (A.snoc (nM []) 0 (mO p)) (A.toN (oV (A.addN 0 b) (A.snoc (nM []) 0 (mO p)) key)) 1 [av .i64 v])],av .i64 (ab 1),av .i64 (ab 0)])))) (al (A.upTo (oV (A.addN 0 b) (A.snoc (nM []) 0 (mO p)) key) (A.addN 0 b)) (al (A.room (A.addN (A.addN 0 b) 1) 16) (ap (ar (aL [aN [av .i64 x,av .i64 y,aj 1 a h,bS 212 2 (A.addN (A.addN 0 b) 1) (A.ins (A.snoc (nM []) 0 (mO p)) (A.toN (oV (A.addN 0 b) (A.snoc (nM []) 0 (mO p)) key)) [av .i64 key,av .i64 v])],av .i64 (ab 1),av .i64 (ab 0)])))))))))) (al (A.room (A.addN 0 b) 16) (al (yZ (A.addN 0 b) (A.snoc (nM []) 0 (mO p))) (al (tZ key) (aq (yI (A.addN 0 b) (A.snoc (nM []) 0 (mO p)) key) (al (A.inB (oV (A.addN 0 b) (A.snoc (nM []) 0 (mO p)) key) (A.addN 0 b)) (ap (ar (aL [aN [av .i64 x,av .i64 y,aj 1 a h,bS 212 2 (A.addN 0 b) (A.upd (A.snoc (nM []) 0 (mO p)) (A.toN (oV (A.addN 0 b) (A.snoc (nM []) 0 (mO p)) key)) 1 [av .i64 v])],av .i64 (ab 1),av .i64 (ab 0)])))) (al (A.upTo (oV (A.addN 0 b) (A.snoc (nM []) 0 (mO p)) key) (A.addN 0 b)) (al (A.room (A.addN (A.addN 0 b) 1) 16) (ap (ar (aL [aN [av .i64 x,av .i64 y,aj 1 a h,bS 212 2 (A.addN (A.addN 0 b) 1) (A.ins (A.snoc (nM []) 0 (mO p)) (A.toN (oV (A.addN 0 b) (A.snoc (nM []) 0 (mO p)) key)) [av .i64 key,av .i64 v])],av .i64 (ab 1),av .i64 (ab 0)]))))))))):=by kernel_rfl
theorem a107(A:Prim)(W:Wd)(n m:Nat)(g1 g2:Nat->List Sh):nR (XK A W L8 oN) qm 300 400 153 [.code []] (nX 36 [.sl 1 2 (nM [[.sl 2 n g1],[.sl 2 m g2]])] L0) [] []=aq (A.lt (ab 0) (A.nK 2)) (al (A.inB (ab 0) 2) (aq (A.lt (A.add .i64 (ab 0) (A.nK n)) (ab 0)) dN (aq (A.lt (ab 1) (A.nK 2)) (al (A.inB (ab 1) 2) (aq (A.lt (A.add .i64 (A.add .i64 (ab 0) (A.nK n)) (A.nK m)) (ab 0)) dN (aq (A.lt (ab 2) (A.nK 2)) (al (A.inB (ab 2) 2) dN) (al (A.le (ab 0) (A.add .i64 (A.add .i64 (ab 0) (A.nK n)) (A.nK m))) (al (A.room (A.toN (A.add .i64 (A.add .i64 (ab 0) (A.nK n)) (A.nK m))) 16) (aq (A.lt (ab 0) (A.nK 2)) (al (A.inB (ab 0) 2) (al (A.room (A.addN 0 n) 16) (aq (A.lt (ab 1) (A.nK 2)) (al (A.inB (ab 1) 2) (al (A.room (A.addN (A.addN 0 n) m) 16) (aq (A.lt (ab 2) (A.nK 2)) (al (A.inB (ab 2) 2) dN) (ap (ar (bS 212 2 (A.addN (A.addN 0 n) m) (A.snoc (A.snoc (fun _=>[]) 0 g1) (A.addN 0 n) g2))))))) (ap (ar (bS 212 2 (A.addN 0 n) (A.snoc (fun _=>[]) 0 g1))))))) (ap (ar (bS 212 2 0 fun _=>[]))))))))) (al (A.le (ab 0) (A.add .i64 (ab 0) (A.nK n))) (al (A.room (A.toN (A.add .i64 (ab 0) (A.nK n))) 16) (aq (A.lt (ab 0) (A.nK 2)) (al (A.inB (ab 0) 2) (al (A.room (A.addN 0 n) 16) (aq (A.lt (ab 1) (A.nK 2)) (al (A.inB (ab 1) 2) (al (A.room (A.addN (A.addN 0 n) m) 16) (aq (A.lt (ab 2) (A.nK 2)) (al (A.inB (ab 2) 2) dN) (ap (ar (bS 212 2 (A.addN (A.addN 0 n) m) (A.snoc (A.snoc (fun _=>[]) 0 g1) (A.addN 0 n) g2))))))) (ap (ar (bS 212 2 (A.addN 0 n) (A.snoc (fun _=>[]) 0 g1))))))) (ap (ar (bS 212 2 0 fun _=>[]))))))))) (al (A.le (ab 0) (ab 0)) (al (A.room 0 16) (aq (A.lt (ab 0) (A.nK 2)) (al (A.inB (ab 0) 2) (al (A.room (A.addN 0 n) 16) (aq (A.lt (ab 1) (A.nK 2)) (al (A.inB (ab 1) 2) (al (A.room (A.addN (A.addN 0 n) m) 16) (aq (A.lt (ab 2) (A.nK 2)) (al (A.inB (ab 2) 2) dN) (ap (ar (bS 212 2 (A.addN (A.addN 0 n) m) (A.snoc (A.snoc (fun _=>[]) 0 g1) (A.addN 0 n) g2))))))) (ap (ar (bS 212 2 (A.addN 0 n) (A.snoc (fun _=>[]) 0 g1))))))) (ap (ar (bS 212 2 0 fun _=>[])))))):=by kernel_rfl
noncomputable def L9(A:Prim)(W:Wd)(x y:Int)(a b:Nat)(h:Nat->List Sh)(p:Nat->Pr)(key:Int):List oM:=[ac x x,ac y y,aw (aj 1 a h) (aj 1 a h),aw (aj 2 b (mO p)) (aj 2 b (mO p)),ac key key,ac (Ko b (mO p) key) (Ko b (mO p) key),ac (IB b (mO p) key) (IB b (mO p) key),ac (oV b (mO p) key) (oV b (mO p) key),oM.bool (yI b (mO p) key) (yI b (mO p) key),ac x x,ac y y,aw (aj 1 a h) (aj 1 a h),aw (aj 2 (Gs (A.toN (oV b (mO p) key)) (A.uy b (A.toN (A.add .i64 (oV b (mO p) key) (ab 1))))) (aaP (mO p) (A.toN (oV b (mO p) key)) fun (j:Nat)=>mO p ((C7 A W wu mZ).A.addN ((C7 A W wu mZ).A.toN ((C7 A W wu mZ).A.add .i64 (oV b (mO p) key) 1)) j))) (aj 2 (Gs (A.toN (oV b (mO p) key)) (A.uy b (A.toN (A.add .i64 (oV b (mO p) key) (ab 1))))) (aaP (mO p) (A.toN (oV b (mO p) key)) fun (j:Nat)=>mO p ((C7 A W wu mZ).A.addN ((C7 A W wu mZ).A.toN ((C7 A W wu mZ).A.add .i64 (oV b (mO p) key) 1)) j))),am 2 2,aF (nM [[aj 2 (A.toN (oV b (mO p) key)) (mO p)],[aj 2 (A.uy b (A.toN (A.add .i64 (oV b (mO p) key) (ab 1)))) fun (j:Nat)=>mO p (A.addN (A.toN (A.add .i64 (oV b (mO p) key) (ab 1))) j)]]) (nM [[aj 2 (A.toN (oV b (mO p) key)) (mO p)],[aj 2 (A.uy b (A.toN (A.add .i64 (oV b (mO p) key) (ab 1)))) fun (j:Nat)=>mO p (A.addN (A.toN (A.add .i64 (oV b (mO p) key) (ab 1))) j)]])]
theorem au4(A:Prim)(W:Wd)(x y:Int)(a b:Nat)(h:Nat->List Sh)(p:Nat->Pr)(key v:Int):nR (C7 A W wu mZ) qm 600 800 152 [.code []] (nX 41 [.agg [.i .i64 x,.i .i64 y,.sl 1 a h,.sl 2 b (mO p)],.i .i64 key,.i .i64 v] L0) [] []=al (yZ b (mO p)) (al (tZ key) (al (yZ b (mO p)) (al (tZ key) (aq (yI b (mO p) key) (al (A.upTo (oV b (mO p) key) b) (al (A.upTo (A.add .i64 (oV b (mO p) key) (ab 1)) b) (al (pq (Gs (A.toN (oV b (mO p) key)) (A.uy b (A.toN (A.add .i64 (oV b (mO p) key) (ab 1))))) 16) (al (A.upTo (oV b (mO p) key) b) (al (A.upTo (A.add .i64 (oV b (mO p) key) (ab 1)) b) (al (pq (Gs (A.toN (oV b (mO p) key)) (A.uy b (A.toN (A.add .i64 (oV b (mO p) key) (ab 1))))) 16) (al (A.upTo (A.add .i64 (oV b (mO p) key) (ab 1)) b) (al (A.upTo (oV b (mO p) key) b) (al (pq (Gs (A.toN (oV b (mO p) key)) (A.uy b (A.toN (A.add .i64 (oV b (mO p) key) (ab 1))))) 16) (aR (L9 A W x y a b h p key) (aR (L9 A W x y a b h p key) (al (A.upTo (oV b (mO p) key) b) (al (A.upTo (A.add .i64 (oV b (mO p) key) (ab 1)) b) (al (pq (Gs (A.toN (oV b (mO p) key)) (A.uy b (A.toN (A.add .i64 (oV b (mO p) key) (ab 1))))) 16) (al (A.upTo (A.add .i64 (oV b (mO p) key) (ab 1)) b) (al (A.upTo (oV b (mO p) key) b) (al (pq (Gs (A.toN (oV b (mO p) key)) (A.uy b (A.toN (A.add .i64 (oV b (mO p) key) (ab 1))))) 16) (aR (L9 A W x y a b h p key) (al (A.upTo (A.add .i64 (oV b (mO p) key) (ab 1)) b) (al (A.upTo (oV b (mO p) key) b) (al (pq (Gs (A.toN (oV b (mO p) key)) (A.uy b (A.toN (A.add .i64 (oV b (mO p) key) (ab 1))))) 16) (aR (L9 A W x y a b h p key) (aR (L9 A W x y a b h p key) (ap (ar (aL [aN [av .i64 x,av .i64 y,aj 1 a h,aj 2 (Gs (A.toN (oV b (mO p) key)) (A.uy b (A.toN (A.add .i64 (oV b (mO p) key) (ab 1))))) (aaP (mO p) (A.toN (oV b (mO p) key)) fun (j:Nat)=>mO p ((C7 A W wu mZ).A.addN ((C7 A W wu mZ).A.toN ((C7 A W wu mZ).A.add .i64 (oV b (mO p) key) 1)) j))],av .i64 (Ko b (mO p) key),av .i64 (IB b (mO p) key)])))))))))))))))))))))))))) (ap (ar (aL [aN [av .i64 x,av .i64 y,aj 1 a h,aj 2 b (mO p)],av .i64 (Ko b (mO p) key),av .i64 (IB b (mO p) key)]))))))):=by kernel_rfl
end Go.Proofs
namespace Go.Pl
open Go Go.Sx Go.Proofs
def vH(ps:List Pr)(key v:Int):List Pr:=if sW ps key=ah then ps.set (pR ps key) ⟨key,v⟩ else ps.take (pR ps key)++⟨key,v⟩::ps.drop (pR ps key)
def xk(ps:List Pr)(key:Int):List Pr:=if sW ps key=ah then ps.take (pR ps key)++ps.drop (pR ps key+1) else ps
def BA(ps:List Pr)(key:Int):Int:=if sW ps key=ah then (nth ps (pR ps key)).val else 0
def Ci(ps:List Pr)(key:Int):Int:=if sW ps key=ah then 3 else 2
theorem Mc(ps:List Pr)(key:Int):pR ps key<=ps.length:=by grind [pR,ig]
theorem aiL{α:Type}{p:α->Bool}{x:α}:∀{l:List α},x∈l.takeWhile p->p x=ah
 |[],h=>by simp at h |a::l,h=>by
  cases ha:p a with
  |false=>simp_all |true=>
   simp only[dV,ha,fD] at h;rcases h with rfl|h
   ·exact ha
   ·exact aiL h
theorem aeK(ps:List Pr)(key:Int):∀t (h:t<ps.length),t<pR ps key->ps[t].key<key:=by
 intro t h ht;have h2:(ps.takeWhile fun p=>decide (p.key<key))[t]?=ps[t]?:=by
  have:=ig (p:=fun p:Pr=>decide (p.key<key)) (l:=ps);obtain ⟨r,hr⟩:=this;conv=>rhs;rw[<-hr]
  rw[cj ht]
 have h3:ps[t]∈ps.takeWhile fun p=>decide (p.key<key):=by
  grind
 grind [aiL]
theorem aeL{ps:List Pr}{key:Int}(hs:ps.Pairwise fun a b=>a.key<b.key):∀t (h:t<ps.length),pR ps key<=t->key<=ps[t].key:=by
 intro t h ht;have hk:pR ps key<ps.length:=by omega
 have h0:¬ps[pR ps key].key<key:=by
  intro hlt;have:pR ps key<(ps.takeWhile fun p=>decide (p.key<key)).length:=by
   have key2:∀(l:List Pr),(h:(l.takeWhile fun p=>decide (p.key<key)).length<l.length)->¬(l[(l.takeWhile fun p=>decide (p.key<key)).length].key<key):=by
    intro l;induction l with
    |nil=>simp |cons a l ih=>
     grind [decide,decide_eq_true,dV,cJ,decide_eq_false,gI]
   exact (key2 ps hk hlt).elim
  simp_all [pR]
 grind [pR,cT]
theorem IC{ps:List Pr}{key:Int}(hs:ps.Pairwise fun a b=>a.key<b.key)(h:sW ps key=ah):∃h:pR ps key<ps.length,ps[pR ps key].key=key:=(aeJ hs (aeK ps key) (aeL hs)).1 h
theorem aeM{α:Type}[Row α]{l:List α}{j:Nat}(h:j<l.length):nth l j=l[j]:=by simp[nth,h]
theorem amW{α:Type}[Row α]{l:List α}{k j:Nat}{a:α}(hk:k<l.length)(hj:j<l.length):nth (l.set k a) j=if j=k then a else nth l j:=by
 grind [aeM]
theorem amX{α:Type}[Row α]{l:List α}{k j:Nat}{a:α}(hk:k<=l.length)(hj:j<l.length+1):nth (l.take k++a::l.drop k) j=if j<k then nth l j else if j=k then a else nth l (j - 1):=by
 have hlen:(l.take k++a::l.drop k).length=l.length+1:=by simp;omega
 have ht:(l.take k).length=k:=by simp;omega
 unfold nth;grind
theorem amY{α:Type}[Row α]{l:List α}{k j:Nat}(hk:k<l.length)(hj:j<l.length - 1):nth (l.take k++l.drop (k+1)) j=if j<k then nth l j else nth l (j+1):=by
 have ht:(l.take k).length=k:=by simp;omega
 unfold nth;grind
theorem acj{ps:List Pr}{key v:Int}(h:sW ps key=ag):vH ps key v=ps.take (pR ps key)++⟨key,v⟩::ps.drop (pR ps key):=if_neg (by rw[h];simp)
theorem acn{ps:List Pr}{key v:Int}(h:sW ps key=ah):vH ps key v=ps.set (pR ps key) ⟨key,v⟩:=if_pos h
theorem aco{ps:List Pr}{key:Int}(h:sW ps key=ag):xk ps key=ps:=if_neg (by rw[h];simp)
theorem acp{ps:List Pr}{key:Int}(h:sW ps key=ah):xk ps key=ps.take (pR ps key)++ps.drop (pR ps key+1):=if_pos h
theorem X4{ps:List Pr}{key v:Int}:(vH ps key v).length=if sW ps key=ah then ps.length else ps.length+1:=by
 grind [Mc,vH]
theorem aeN{ps:List Pr}{key:Int}(hs:JC ps=ah):(xk ps key).length=if sW ps key=ah then ps.length - 1 else ps.length:=by
 have:=Mc ps key;unfold xk;split
 ·rename_i h
  obtain ⟨h1,_⟩:=IC (vN hs) h;simp;omega
 ·rfl
theorem amZ{n:Nat}{g:Nat->List Sh}{key:Int}(hs:JC (lst Pr n g)=ah):IB n g key=BA (lst Pr n g) key:=by
 unfold IB BA yI;split
 ·rename_i h
  obtain ⟨h1,_⟩:=IC (vN hs) h;rw[QW (by simpa using h1)]
 ·rfl
theorem zB{n:Nat}{g:Nat->List Sh}:yZ n g=ah↔okB Pr n g=ah/\n<=100000/\JC (lst Pr n g)=ah:=by
 grind [yZ]
end Go.Pl
namespace Go.Proofs
open Go Go.Sx Go.Pl Go.Lib
theorem asw:nD ai (nJ W7) 171 ag1:=au0.mono fun H nY args φ hr h=>by
 unfold ag1 at h;split at h
 ·rename_i n g key
  obtain ⟨h1,h2,hφ⟩:=h;obtain ⟨q1,q2,q3⟩:=zB.1 h1;simp only[amT];exact ⟨q1,decide_eq_true q2,q3,h2,hφ⟩
 ·exact h.elim
theorem asx:∀g F,L6 g=ae F->nD ai (nJ W7) g F:=fun g F h=>by
 grind [L6,asw]
theorem ap8(stop:Nat->List Nat->Bool):oD ai (C7 mM W7 L6 stop):=cO asx fun g h=>by
 unfold L6 at h;split at h;all_goals first|(cases h;done) |kernel_rfl
theorem Md{H:Mem}{x y:Int}{s2 s3:Sh}{n b:Nat}{g l:Nat->List Sh}{v:Value}(hs2:qp 1 s2=ae (n,g))(hs:qp 2 s3=ae (b,l))(hw:okB Pr b l=ah)(r:Rep H (.agg [.i .i64 x,.i .i64 y,s2,s3]) v):
  Rep H (.agg [.i .i64 x,.i .i64 y,.sl 1 n g,.sl 2 b (mO (mP (α:=Pr) l))]) v:=yh r (fun _ hu=>nZ hs2 hu) fun _ hu=>pX (nZ hs hu) hw
theorem Me{b:Nat}{l:Nat->List Sh}(h:yZ b l=ah):yZ b (mO (mP (α:=Pr) l))=ah/\∀key,yI b (mO (mP (α:=Pr) l)) key=yI b l key/\oV b (mO (mP (α:=Pr) l)) key=oV b l key:=by
 have e:lst Pr b (mO (mP (α:=Pr) l))=lst Pr b l:=by rfl
 simp_all [zB,o9,yI,oV]
theorem arz:nD ai (nJ W7) 148 aiK:=by
 refine pJ (ap8 mZ) 300 400 L0 mt fun H w nY args φ hrep h=>?_
 have hn:mt.ntmps=12:=by kernel_rfl
 unfold aiK at h;split at h
 ·rename_i x y s2 s3 key
  split at h
  ·rename_i z b l hs2 hs
   obtain ⟨a,hh⟩:=z;obtain ⟨h1,h2,hφ⟩:=h;match args,hrep with
   |[v,u1],⟨hv,r1,_⟩=>
    obtain ⟨q1,q2⟩:=Me h1;refine ⟨[.agg [.i .i64 x,.i .i64 y,.sl 1 a hh,.sl 2 b (mO (mP (α:=Pr) l))],.i .i64 key],⟨Md hs2 hs (zB.1 h1).1 hv,r1,trivial⟩,?_⟩;rw[hn,au1 mM W7 x y a b hh (mP l) key,(q2 key).1,(q2 key).2];exact ⟨q1,h2,nP (s':=.mX [.i .i64 (oV b l key),.b (yI b l key)]) ⟨rfl,.inl rfl,trivial⟩ hφ⟩
  ·exact h.elim
 ·exact h.elim
theorem am0:∀g F,DT g=ae F->nD ai (nJ W7) g F:=fun g F h=>by
 unfold DT at h;split at h
 ·cases h;exact arz
 ·cases h;exact fun H w nY args φ _ _ _ h=>h.elim
 ·cases h
theorem ap9(stop:Nat->List Nat->Bool):oD ai (C7 mM W7 DT stop):=cO am0 fun g h=>by
 unfold DT at h;split at h;all_goals first|(cases h;done) |kernel_rfl
theorem am1:eU.get 212=ae ⟨.struct [(0,1,ag),(1,1,ag)],2,16,[.int .i64 0,.int .i64 0]⟩:=by kernel_rfl
set_option maxHeartbeats 4000000 in
set_option maxRecDepth 100000 in
theorem am2:abS ai 175 212 2 16:=by
 intro w k hk hb;obtain ⟨inf,z,i1,i2,i3,i4,i5,zs,hz⟩:=info116;have hsmall:k<=9223372036854775807:=by omega
 have hse:∀w,(Go.sizeOf 212).run ai w=.ok 2 w:=fun w=>by rfl
 by_cases h0:k=0
 ·subst h0
  go_enter lJ,kP
  go_wp2
  go_ret
  exact ⟨_,rfl,Ik _ _ _,⟨rfl,rfl,rfl,aV _,fun _ _ _=>rfl⟩,fun b hb=>by simp[nH] at hb⟩
 ·obtain ⟨G,hG⟩:∃G,G=grownCap w (0+k) 0 212:=⟨_,rfl⟩
  have hGn:k<=G:=by simp_all [grownCap_ge]
  have hGm:G<=maxLen:=by simp_all [grownCap_le_maxLen]
  have hG63:G<=9223372036854775807:=by assumption
  obtain ⟨ROW,hROW⟩:∃ROW:Array Value,ROW=([]:List Value).toArray++cV z.cells k++cV z.cells (G - (0+k)):=⟨_,rfl⟩;have hRs:ROW.size=G*2:=by
   grind [Array.size_append,List.size_toArray,size_zeroCells,gI]
  have hr:∀ty,(Builtin.append_ #[160,3] ty #[.slice ao 0 0,.int .i64 k]).run ai w=.ok (.slice (ae ⟨w.heap.size,0,ao⟩) k G) (w.drew.alloc (.cells ROW 212)):=fun ty=>by
   have h:=Lib.run_append_grow_zeros w 160 3 ty 212 inf z .i64 .i64 Tryz.underlying160 Tryz.underlying3 i1 i4 ao 0 0 [] (by rfl) k (by omega) (by omega) (by omega) (by omega) (by grind) (by rw[i3];exact growslice_fits (by omega) (by omega));simp_all
  obtain ⟨W1,hW1⟩:∃W1,W1=w.drew.alloc (.cells ROW 212):=⟨_,rfl⟩;have f1:W1.heap[w.heap.size]?=ae (.cells ROW 212 (0,0)):=by rw[hW1];exact heap_alloc_new w.drew _
  have f2:w.grownBy W1 ao:=⟨by rw[hW1];rfl,by rw[hW1];rfl,by rw[hW1];rfl,by grind,fun j hj _=>by rw[hW1];first|exact Go.heap_alloc_old w.drew _ j hj|exact heap_alloc_old w.drew _ hj⟩
  have hr1:=hr 160;rw[<-hW1] at hr1;have hk0:¬((k:Int)=0):=by omega
  have hk1:(0:Int)<k:=by omega
  clear hROW hr hG hW1;go_enter lJ,kP
  go_wp2_with (first
   |(at_builtin;refine Lib.wpList_append_run _ rfl _ _ _ _ rfl _ _ rfl rfl _ _ hr1 ?_))
  go_ret
  exact ⟨_,rfl,⟨by simp,.inr ⟨w.heap.size,G,ROW,rfl,cM _,f1,cM _,hGm,hRs,by simp⟩⟩,f2,fun b hb=>by simp_all [nH]⟩
theorem asy:∀g e te,amF g=ae e->eU.get e=ae te->kQ ai g/\agE ai g e te.size te.bytes:=fun g e te h ht=>by
 unfold amF at h;split at h
 ·cases h
  rw[am1] at ht;cases ht;exact ⟨uz cu cI 149 (by kernel_rfl),ap6⟩
 ·cases h
theorem asz:∀g e te,agW g=ae e->eU.get e=ae te->kQ ai g/\abS ai g e te.size te.bytes:=fun g e te h ht=>by
 unfold agW at h;split at h
 ·cases h
  rw[am1] at ht;cases ht;exact ⟨uz cu cI 175 (by kernel_rfl),am2⟩
 ·cases h
theorem XK.Hq{spec:Nat->Option (List Sh->Tree Sh)}{stop:Nat->List Nat->Bool}(hs:∀g F,spec g=ae F->nD ai (nJ W7) g F)(he:∀g,(spec g).isSome=ah->(fi.get g).isSome=ah):oD ai (XK mM W7 spec stop):=⟨hs,(fun g h=>by
  rcases h with h|h
  ·exact uz cu cI g (he g h)
  ·exact uz cu cI g h),asy,asz⟩
theorem am3(stop:Nat->List Nat->Bool):oD ai (XK mM W7 DT stop):=XK.Hq am0 fun g h=>by
 unfold DT at h;split at h;all_goals first|(cases h;done) |kernel_rfl
theorem QZ{b:Nat}{l:Nat->List Sh}{key:Int}(h1:yZ b l=ah)(h:yI b l key=ah):pR (lst Pr b l) key<b:=by
 obtain ⟨_,_,h3⟩:=zB.1 h1;obtain ⟨h4,_⟩:=IC (vN h3) h;simpa using h4
theorem au5:nD ai (nJ W7) 151 amU:=by
 refine pJ (ap9 mZ) 300 400 L0 mu fun H w nY args φ hrep h=>?_
 have hn:mu.ntmps=21:=by kernel_rfl
 unfold amU at h;split at h
 ·rename_i x y s2 s3 key
  split at h
  ·rename_i z b l hs2 hs
   obtain ⟨a,hh⟩:=z;obtain ⟨h1,h2,hφ⟩:=h;match args,hrep with
   |[v,u1],⟨hv,r1,_⟩=>
    obtain ⟨q1,q2⟩:=Me h1;refine ⟨[.agg [.i .i64 x,.i .i64 y,.sl 1 a hh,.sl 2 b (mO (mP (α:=Pr) l))],.i .i64 key],⟨Md hs2 hs (zB.1 h1).1 hv,r1,trivial⟩,?_⟩;rw[hn,a105 mM W7 x y a b hh (mP l) key,(q2 key).1,(q2 key).2];have e:mM.toN (oV b l key)=pR (lst Pr b l) key:=rfl;refine ⟨q1,h2,fun h=>⟨?_,nP (s':=.mX [.i .i64 (Ko b l key),.i .i64 (IB b l key)]) ⟨?_,?_,trivial⟩ hφ⟩,fun h=>nP (s':=.mX [.i .i64 (Ko b l key),.i .i64 (IB b l key)]) ⟨?_,?_,trivial⟩ hφ⟩
    ·simp_all [QZ,nN,oV]
    ·show av _ _=_;simp[Ko,h]
    ·show av _ _=_;grind [IB]
    ·show av _ _=_;simp[Ko,h]
    ·show av _ _=_;simp[IB,h]
  ·exact h.elim
 ·exact h.elim
def am4:List Sh->Tree Sh
 |[.agg [.i .i64 x,.i .i64 y,s2,s3],u,t]=>match qp 1 s2,qp 2 s3,nO u,nO t with
  |some (a,h),ae (b,l),ae key,ae _=>.need (yZ b l) (.need (tZ key) (.leaf (.mX [.agg [.i .i64 x,.i .i64 y,.sl 1 a h,.sl 2 b l],.i .i64 (Ci (lst Pr b l) key),.i .i64 (BA (lst Pr b l) key)]))) |_,_,_,_=>.fail
 |_=>.fail
def am5:List Sh->Tree Sh
 |[.agg [.i .i64 x,.i .i64 y,s2,s3],u,t]=>match qp 1 s2,qp 2 s3,nO u,nO t with
  |some (a,h),ae (b,l),ae key,ae v=>.need (yZ b l) (.need (tZ key) (.need (pq (b+1) 16) (.leaf (.mX [.agg [.i .i64 x,.i .i64 y,.sl 1 a h,.sl 2 (len (vH (lst Pr b l) key v)) (mO (nth (vH (lst Pr b l) key v)))],.i .i64 1,.i .i64 0])))) |_,_,_,_=>.fail
 |_=>.fail
def am6:List Sh->Tree Sh
 |[.agg [.i .i64 x,.i .i64 y,s2,s3],u,t]=>match qp 1 s2,qp 2 s3,nO u,nO t with
  |some (a,h),ae (b,l),ae key,ae _=>.need (yZ b l) (.need (tZ key) (.need (pq (b+1) 16) (.leaf (.mX [.agg [.i .i64 x,.i .i64 y,.sl 1 a h,.sl 2 (len (xk (lst Pr b l) key)) (mO (nth (xk (lst Pr b l) key)))],.i .i64 (Ci (lst Pr b l) key),.i .i64 (BA (lst Pr b l) key)])))) |_,_,_,_=>.fail
 |_=>.fail
theorem au6:nD ai (nJ W7) 146 am5:=by
 refine pJ (am3 mZ) 300 400 L0 mw fun H w nY args φ hrep h=>?_
 have hn:mw.ntmps=38:=by kernel_rfl
 unfold am5 at h;split at h
 ·rename_i x y s2 s3 u t
  split at h
  ·rename_i a hh b l key vv hs2 hs hu ht
   obtain ⟨h1,h2,h3,hφ⟩:=h;match args,hrep with
   |[v,u1,u2],⟨hv,r1,r2,_⟩=>
    obtain ⟨q1,q2⟩:=Me h1;obtain ⟨w1,w2,w3⟩:=zB.1 h1;have hso:=vN w3;refine ⟨[.agg [.i .i64 x,.i .i64 y,.sl 1 a hh,.sl 2 b (mO (mP (α:=Pr) l))],.i .i64 key,.i .i64 vv],⟨Md hs2 hs w1 hv,rO hu r1,rO ht r2,trivial⟩,?_⟩;rw[hn,au3 mM W7 x y a b hh (mP l) key vv,Jy b,TD,(q2 key).1,(q2 key).2];have hll:(lst Pr b l).length=b:=uV b l;have hat:∀j (hj:j<b),nth (lst Pr b l) j=mP (α:=Pr) l j:=fun j hj=>QW hj
    have e:mM.toN (oV b l key)=pR (lst Pr b l) key:=rfl;have ayA:pR (lst Pr b l) key<=b:=by grind [Mc,lst]
    have hup:mM.upTo (oV b l key) b=ah:=by simp[vG,oV];omega
    have r0:mM.room b 16=ah:=DN h3 (j3 b);have fin (n':Nat) (g':Nat->List Sh) (hn':n'=len (vH (lst Pr b l) key vv)) (hg:∀j,j<n'->g' j=mO (nth (vH (lst Pr b l) key vv)) j) :
      up φ (.mX [.agg [.i .i64 x,.i .i64 y,.sl 1 a hh,.os 212 2 n' g'],.i .i64 (ab 1),.i .i64 (ab 0)]):=
     nP (s':=.mX [.agg [.i .i64 x,.i .i64 y,.sl 1 a hh,.sl 2 (len (vH (lst Pr b l) key vv)) (mO (nth (vH (lst Pr b l) key vv)))],.i .i64 1,.i .i64 0]) ⟨⟨rfl,rfl,.inr ⟨rfl,rfl,fun _ _=>rfl⟩,.inr ⟨rfl,hn',hg⟩,trivial⟩,rfl,rfl,trivial⟩ hφ
    have hput (hb:yI b l key=ah):len (vH (lst Pr b l) key vv)=b:=by
     have hb:sW (lst Pr b l) key=ah:=hb;show (vH (lst Pr b l) key vv).length=b;simp_all [X4]
    have am7 (hb:yI b l key=ag):len (vH (lst Pr b l) key vv)=b+1:=by
     have hb:sW (lst Pr b l) key=ag:=hb;show (vH (lst Pr b l) key vv).length=b+1;simp_all [X4]
    have yes (hb:yI b l key=ah):mM.inB (oV b l key) b=ah/\up φ (.mX [.agg [.i .i64 x,.i .i64 y,.sl 1 a hh,.os 212 2 b (mM.upd (mO (mP (α:=Pr) l)) (mM.toN (oV b l key)) 1 [.i .i64 vv])],.i .i64 (ab 1),.i .i64 (ab 0)]):=by
     have hlt:=QZ h1 hb;refine ⟨by simp[nN,oV];omega,fin b _ (hput hb).symm fun j hj=>?_⟩;have hb':sW (lst Pr b l) key=ah:=hb;obtain ⟨k1,k2⟩:=IC hso hb';rw[ER,e];show _=prR (nth (vH (lst Pr b l) key vv) j);rw[acn hb',amW k1 (by omega)];by_cases ej:j=pR (lst Pr b l) key
     ·rw[if_pos ej,if_pos ej]
      have hk:(mP (α:=Pr) l (pR (lst Pr b l) key)).key=key:=by simp_all [aeM]
      simp_all [mO,Row.put,prR]
     ·rw[if_neg ej,if_neg ej,hat j hj];rfl
    have no (hb:yI b l key=ag):up φ (.mX [.agg [.i .i64 x,.i .i64 y,.sl 1 a hh,.os 212 2 (mM.addN b 1) (mM.ins (mO (mP (α:=Pr) l)) (mM.toN (oV b l key)) [.i .i64 key,.i .i64 vv])],.i .i64 (ab 1),.i .i64 (ab 0)]):=by
     refine fin (b+1) _ (am7 hb).symm fun j hj=>?_
     have hb':sW (lst Pr b l) key=ag:=hb;rw[e];show (if j<_ then _ else if j=_ then _ else _)=prR (nth (vH (lst Pr b l) key vv) j);rw[acj hb',amX (by omega) (by omega)];split
     ·rw[hat j (by omega)];rfl
     ·split
      ·rfl
      ·rw[hat (j - 1) (by omega)];rfl
    refine ⟨fun h0=>⟨?_,?_⟩,fun _=>?_⟩
    ·
     have hb0:b=0:=by simp_all [TA]
     subst hb0;have hnil:∀g':Nat->List Sh,lst Pr 0 g'=[]:=fun _=>rfl
     have wf0:yZ 0 (fun _=>[])=ah:=by rfl
     have hh0:yI 0 (fun _=>[]) key=ag:=by rfl
     have hh1:yI 0 l key=ag:=by rfl
     have hp0:oV 0 (fun _=>[]) key=0:=by rfl
     refine ⟨wf0,h2,fun hx=>(by simp_all),fun _=>⟨by rw[hp0];rfl,h3,?_⟩⟩;refine fin 1 _ (am7 hh1).symm fun j hj=>?_
     obtain rfl:j=0:=by omega
     rfl
    all_goals exact ⟨r0,q1,h2,fun hb=>yes hb,fun hb=>⟨hup,h3,no hb⟩⟩
  ·exact h.elim
 ·exact h.elim
theorem aqa(stop:Nat->List Nat->Bool):oD ai (XK mM W7 L8 stop):=XK.Hq (fun g F h=>by
  unfold L8 at h;split at h
  ·cases h;exact fun H w nY args φ _ _ _ h=>h.elim
  ·cases h) fun g h=>by
 unfold L8 at h;split at h;all_goals first|(cases h;done) |kernel_rfl
theorem au7:nD ai (nJ W7) 153 amV:=by
 refine rC (XK mM W7 L8 oN) my fun H w nY args φ hrep h=>?_
 have hn:my.ntmps=36:=by kernel_rfl
 unfold amV at h;split at h
 ·rename_i g
  split at h
  ·rename_i n g1 m g2 h0 h1
   obtain ⟨hr,hφ⟩:=h;match args,hrep with
   |[v],⟨hv,_⟩=>
    refine ⟨[.sl 1 2 (nM [[.sl 2 n g1],[.sl 2 m g2]])],⟨qN hv fun j hj=>?_,trivial⟩,L0,KF (aqa _) 300 400 [] ?_⟩
    ·have:j=0\/j=1:=by omega
     rcases this with rfl|rfl
     ·rw[h0];rfl
     ·rw[h1];rfl
    ·rw[hn,a107 mM W7 n m g1 g2]
     have hr:mM.room (n+m) 16=ah:=hr;obtain ⟨hr1,hr2⟩:=vZ hr;rw[maxLen_eq] at hr2;have e0:mM.add .i64 (ab 0) (mM.nK n)=(n:Int):=by
      rw[rP,ny];grind [pF]
     have e1:mM.add .i64 (n:Int) (mM.nK m)=((n+m:Nat):Int):=by
      grind [rP,ny,pF]
     rw[e0,e1];have ng (k:Nat):mM.lt (k:Int) (ab 0)=ag:=by rfl
     have r0:mM.room (mM.addN 0 n) 16=ah:=by rw[Jy];exact DN hr (Nat.le_add_right n m)
     have r1:mM.room (mM.addN (mM.addN 0 n) m) 16=ah:=by rw[Jy];exact hr
     have le:mM.le (ab 0) ((n+m:Nat):Int)=ah:=by rfl
     have fin:=nP (φ:=φ) (s:=.os 212 2 (mM.addN (mM.addN 0 n) m) (mM.snoc (mM.snoc (fun (x:Nat)=>[]) 0 g1) (mM.addN 0 n) g2)) (s':=.sl 2 (Gs n m) (aaP g1 n g2)) (.inr ⟨rfl,by rw[Jy];rfl,fun j hj=>by rw[Jy,TD];rfl⟩);exact ⟨fun _=>⟨rfl,fun h=>(by simp_all),fun _=>⟨fun _=>⟨rfl,fun h=>(by grind),fun _=>⟨fun h=>(by cases h),fun _=>⟨le,hr,fun _=>⟨rfl,r0,fun _=>⟨rfl,r1,fun h=>(by cases h),fun _=>fin hφ⟩,fun h=>(by cases h)⟩,fun h=>(by cases h)⟩⟩⟩,fun h=>(by cases h)⟩⟩,fun h=>(by cases h)⟩
  ·exact h.elim
 ·exact h.elim
end Go.Proofs
namespace Go.Pl
open Go Go.Sx Go.Proofs
def Dk(op:Int)(b:Nat)(l:Nat->List Sh):Bool:=!decide (uO op=4)||(yZ b l&&pq (b+1) 16)
end Go.Pl
namespace Go.Proofs
open Go Go.Sx Go.Pl
theorem asA:∀g F,wu g=ae F->nD ai (nJ W7) g F:=fun g F h=>by
 unfold wu at h;grind [arz,au5,au7]
theorem aiM(stop:Nat->List Nat->Bool):oD ai (C7 mM W7 wu stop):=cO asA fun g h=>by
 unfold wu at h;split at h;all_goals first|(cases h;done) |kernel_rfl
theorem aaQ{b:Nat}{l:Nat->List Sh}(h:yZ b l=ah)(key:Int):Ko b (mO (mP (α:=Pr) l)) key=Ci (lst Pr b l) key/\IB b (mO (mP (α:=Pr) l)) key=BA (lst Pr b l) key:=by
 have e:lst Pr b (mO (mP (α:=Pr) l))=lst Pr b l:=by rfl
 simp_all [zB,Ko,Ci,yI,amZ]
theorem au8:nD ai (nJ W7) 150 am4:=by
 refine pJ (aiM mZ) 300 400 L0 mz fun H w nY args φ hrep h=>?_
 have hn:mz.ntmps=20:=by kernel_rfl
 unfold am4 at h;split at h
 ·rename_i x y s2 s3 u t
  split at h
  ·rename_i a hh b l key vv hs2 hs hu ht
   obtain ⟨h1,h2,hφ⟩:=h;match args,hrep with
   |[v,u1,u2],⟨hv,r1,r2,_⟩=>
    obtain ⟨q1,q2⟩:=Me h1;obtain ⟨e1,e2⟩:=aaQ h1 key;refine ⟨[.agg [.i .i64 x,.i .i64 y,.sl 1 a hh,.sl 2 b (mO (mP (α:=Pr) l))],.i .i64 key,.i .i64 vv],⟨Md hs2 hs (zB.1 h1).1 hv,rO hu r1,rO ht r2,trivial⟩,?_⟩;rw[hn,au2 mM W7 x y a b hh (mP l) key vv,e1,e2];exact ⟨q1,h2,nP (s':=.mX [.agg [.i .i64 x,.i .i64 y,.sl 1 a hh,.sl 2 b l],.i .i64 (Ci (lst Pr b l) key),.i .i64 (BA (lst Pr b l) key)]) ⟨⟨rfl,rfl,.inr ⟨rfl,rfl,fun _ _=>rfl⟩,.inr ⟨rfl,rfl,fun j hj=>(zh (zB.1 h1).1 j hj).symm⟩,trivial⟩,rfl,rfl,trivial⟩ hφ⟩
  ·exact h.elim
 ·exact h.elim
theorem au9:nD ai (nJ W7) 152 am6:=by
 refine pJ (aiM mZ) 600 800 L0 mA fun H w nY args φ hrep h=>?_
 have hn:mA.ntmps=41:=by kernel_rfl
 unfold am6 at h;split at h
 ·rename_i x y s2 s3 u t
  split at h
  ·rename_i a hh b l key vv hs2 hs hu ht
   obtain ⟨h1,h2,h3,hφ⟩:=h;match args,hrep with
   |[v,u1,u2],⟨hv,r1,r2,_⟩=>
    obtain ⟨q1,q2⟩:=Me h1;obtain ⟨e1,e2⟩:=aaQ h1 key;obtain ⟨w1,w2,w3⟩:=zB.1 h1;refine ⟨[.agg [.i .i64 x,.i .i64 y,.sl 1 a hh,.sl 2 b (mO (mP (α:=Pr) l))],.i .i64 key,.i .i64 vv],⟨Md hs2 hs w1 hv,rO hu r1,rO ht r2,trivial⟩,?_⟩;have hll:(lst Pr b l).length=b:=uV b l;have hat:∀j (hj:j<b),nth (lst Pr b l) j=mP (α:=Pr) l j:=fun j hj=>QW hj
    have e:mM.toN (oV b l key)=pR (lst Pr b l) key:=rfl;have e1':mM.toN (mM.add .i64 (oV b l key) (ab 1))=pR (lst Pr b l) key+1:=by
     have:pR (lst Pr b l) key<=b:=by grind [Mc,lst]
     rw[rP];show (az.wrap ((pR (lst Pr b l) key:Int)+1)).toNat=_;grind [pF]
    have e1i:yI b l key=ah->mM.upTo (mM.add .i64 (oV b l key) (ab 1)) b=ah:=fun hb=>by
     have:=QZ h1 hb;rw[rP];show mM.upTo (az.wrap ((pR (lst Pr b l) key:Int)+1)) b=ah;grind [pF,vG]
    have hup:mM.upTo (oV b l key) b=ah:=by
     grind [pR,lst,Mc,vG,oV]
    rw[hn,au4 mM W7 x y a b hh (mP l) key vv,e1,e2,(q2 key).1,(q2 key).2];have fin (n':Nat) (g':Nat->List Sh) (hn':n'=len (xk (lst Pr b l) key)) (hg:∀j,j<n'->g' j=mO (nth (xk (lst Pr b l) key)) j) :
      up φ (.mX [.agg [.i .i64 x,.i .i64 y,.sl 1 a hh,.sl 2 n' g'],.i .i64 (Ci (lst Pr b l) key),.i .i64 (BA (lst Pr b l) key)]):=
     nP (s':=.mX [.agg [.i .i64 x,.i .i64 y,.sl 1 a hh,.sl 2 (len (xk (lst Pr b l) key)) (mO (nth (xk (lst Pr b l) key)))],.i .i64 (Ci (lst Pr b l) key),.i .i64 (BA (lst Pr b l) key)]) ⟨⟨rfl,rfl,.inr ⟨rfl,rfl,fun _ _=>rfl⟩,.inr ⟨rfl,hn',hg⟩,trivial⟩,rfl,rfl,trivial⟩ hφ
    have hdl:len (xk (lst Pr b l) key)=if sW (lst Pr b l) key=ah then b - 1 else b:=by
     show (xk (lst Pr b l) key).length=_;rw[aeN w3,hll]
    refine ⟨q1,h2,q1,h2,fun hb=>?_,fun hb=>?_⟩
    ·have ava:=e1i hb
     have hlt:=QZ h1 hb;have hb':sW (lst Pr b l) key=ah:=hb;have rr:pq (Gs (mM.toN (oV b l key)) (mM.uy b (mM.toN (mM.add .i64 (oV b l key) (ab 1))))) 16=ah:=by
      rw[e,e1',XR];exact DN h3 (by show pR (lst Pr b l) key+(b - (pR (lst Pr b l) key+1))<=b+1;omega)
     have last:up φ (.mX [.agg [.i .i64 x,.i .i64 y,.sl 1 a hh,.sl 2 (Gs (mM.toN (oV b l key)) (mM.uy b (mM.toN (mM.add .i64 (oV b l key) (ab 1))))) (aaP (mO (mP (α:=Pr) l)) (mM.toN (oV b l key)) fun (j:Nat)=>mO (mP (α:=Pr) l) (mM.addN (mM.toN (mM.add .i64 (oV b l key) 1)) j))],.i .i64 (Ci (lst Pr b l) key),.i .i64 (BA (lst Pr b l) key)]):=by
      have e2':mM.toN (mM.add .i64 (oV b l key) 1)=pR (lst Pr b l) key+1:=e1';rw[e1',e2',e,XR];refine fin _ _ (by rw[hdl,if_pos hb'];show pR (lst Pr b l) key+(b - (pR (lst Pr b l) key+1))=_;omega) fun j hj=>?_
      have hj:j<pR (lst Pr b l) key+(b - (pR (lst Pr b l) key+1)):=hj;obtain ⟨k1,_⟩:=IC (vN w3) hb';show mM.snoc _ _ _ j=prR (nth (xk (lst Pr b l) key) j);rw[acp hb',amY k1 (by omega),rH];split
      ·rw[hat j (by omega)];rfl
      ·rw[hat (j+1) (by omega),uo]
       show prR (mP l (pR (lst Pr b l) key+1+(j - pR (lst Pr b l) key)))=_;grind
     clear hφ fin hat;rw[hup,ava,rr];generalize mM.toN (oV b l key)=n1 at *;generalize mM.uy b (mM.toN (mM.add .i64 (oV b l key) (ab 1)))=n2 at *;repeat' (first|exact rfl|exact trivial|exact last|refine aW ?_ ?_)
    ·have hb':sW (lst Pr b l) key=ag:=hb
     exact fin b _ (by simp_all) fun j hj=>by
      show prR (mP l j)=prR (nth (xk (lst Pr b l) key) j);simp_all [aco]
  ·exact h.elim
 ·exact h.elim
end Go.Proofs
namespace Go.Sx
section
variable{P:Program}{C:Ctx}{K:Kx}
theorem aki{g:Nat}{td:List It}{c:Core}{stk:List Fr}{R:Hp->Prop}{φ:Sh->Prop}(tm':List SV)(h:∀(H:Mem) (E:Env) (vs:List Value),ni H E c.tm vs->ni H E tm' vs)(hgo:mY P C K g td {c with tm:=tm'} stk R φ):mY P C K g td c stk R φ:=by
 intro H E w a items ms cs fn hfn st hi hs hx;exact hgo H E w a items ms cs fn hfn ⟨h H E _ st.den,st.hp,st.o7,st.free,st.gl,st.defers⟩ hi hs hx
theorem aeO{H:Mem}{E:Env}{k:IntKind}{n:Int}:∀(i:Nat) {l:List SV} {vs:List Value},l[i]?=ae (.sym k n)->ni H E l vs->ni H E (l.set i (.int k n)) vs
 |_,[],_,h,_=>by simp at h |_,_::_,[],_,h=>h.elim |0,x::l,v::vs,h,⟨h1,h2⟩=>by
  simp at h;subst h;exact ⟨h1,h2⟩
 |i+1,x::l,v::vs,h,⟨h1,h2⟩=>⟨h1,aeO i (by simpa using h) h2⟩
end
end Go.Sx
namespace Go.Pl
open Go Go.Sx
def A8(a b:Int):Int:=az.wrap (a+b)
def Gt(h:Nat->List Sh):Nat->List Sh:=fun j=>h (1+j)
def JD(a:Nat):Nat:=a - 1
def Oe(a:Nat):Int:=if a=0 then 2 else 3
def JE(a:Nat)(o:Nat->Int):Int:=if a=0 then 0 else o 0
end Go.Pl
namespace Go.Proofs
open Go Go.Sx Go.Pl
def F66:List Sh->Tree Sh
 |[t]=>match nO t with
  |some op=>.leaf (.i .i64 (uO op)) |none=>.fail
 |_=>.fail
def F67:List Sh->Tree Sh
 |[t]=>match nO t with
  |some op=>.leaf (.b (keyed op)) |none=>.fail
 |_=>.fail
def F68:List Sh->Tree Sh
 |[t]=>match nO t with
  |some op=>.leaf (.b (valued op)) |none=>.fail
 |_=>.fail
def F69:List Sh->Tree Sh
 |[t,u,v]=>match nO t,nO u,nO v with
  |some k,ae x,ae y=>.leaf (.b (Ae k x y)) |_,_,_=>.fail
 |_=>.fail
def F94:List Sh->Tree Sh
 |[.agg [.i .i64 x,.i .i64 y,s2,s3],u,t]=>match qp 1 s2,qp 2 s3,nO u,nO t with
  |some (a,h),ae (b,l),ae _,ae _=>.leaf (.mX [.agg [.i .i64 x,.i .i64 y,.sl 1 a h,.sl 2 b l],.i .i64 3,.i .i64 y]) |_,_,_,_=>.fail
 |_=>.fail
def F95:List Sh->Tree Sh
 |[.agg [.i .i64 x,.i .i64 _,s2,s3],u,t]=>match qp 1 s2,qp 2 s3,nO u,nO t with
  |some (a,h),ae (b,l),ae _,ae v=>.leaf (.mX [.agg [.i .i64 x,.i .i64 v,.sl 1 a h,.sl 2 b l],.i .i64 1,.i .i64 0]) |_,_,_,_=>.fail
 |_=>.fail
def F96:List Sh->Tree Sh
 |[.agg [.i .i64 x,.i .i64 y,s2,s3],u,t]=>match qp 1 s2,qp 2 s3,nO u,nO t with
  |some (a,h),ae (b,l),ae _,ae v=>.leaf (.mX [.agg [.i .i64 x,.i .i64 (A8 y v),.sl 1 a h,.sl 2 b l],.i .i64 1,.i .i64 0]) |_,_,_,_=>.fail
 |_=>.fail
def F97:List Sh->Tree Sh
 |[.agg [.i .i64 x,.i .i64 y,s2,s3],u,t]=>match qp 1 s2,qp 2 s3,nO u,nO t with
  |some (a,h),ae (b,l),ae _,ae v=>.need (pq (a+1) 8) (.leaf (.mX [.agg [.i .i64 x,.i .i64 y,.sl 1 (a+1) (yg a h [.i .i64 v]),.sl 2 b l],.i .i64 1,.i .i64 0])) |_,_,_,_=>.fail
 |_=>.fail
def F99:List Sh->Tree Sh
 |[.agg [.i .i64 x,.i .i64 y,s2,s3],u,t]=>match qp 1 s2,qp 2 s3,nO u,nO t with
  |some (a,h),ae (b,l),ae _,ae _=>.need (okB Int a h) (.leaf (.mX [.agg [.i .i64 x,.i .i64 y,.sl 1 (JD a) (Gt h),.sl 2 b l],.i .i64 (Oe a),.i .i64 (JE a (mP h))])) |_,_,_,_=>.fail
 |_=>.fail
def yM:Nat->Option (List Sh->Tree Sh)
 |82=>ae F66 |110=>ae F67 |111=>ae F68 |112=>ae F69 |140=>ae F94 |141=>ae F95 |142=>ae F96 |143=>ae F97 |145=>ae F99 |146=>ae am5 |150=>ae am4 |152=>ae am6 |_=>ao
def aiN:List Nat->List Nat->Bool
 |[],[]=>ah |x::l,y::r=>bJ x y&&aiN l r |_,_=>ag
def am8(f:Nat)(ps:List (List Nat))(g:Nat)(td:List It):Bool:=bJ g f&&match td with
 | .code r::_=>ps.any (aiN r) |_=>ag
def aeP:Nat->List It->Bool:=am8 85 [[0,1,1,1,1]]
def L42(x y:Int)(a b:Nat)(h l:Nat->List Sh)(op k v:Int):Core:={tm:=sK 88 [(1,.sym .i64 op),(2,.sym .i64 k),(3,.sym .i64 v),(4,.ptr 0 0),(8,.ptr 1 0)],hp:=[(0,.box [.sym .i64 x,.sym .i64 y,.sh (.sl 1 a h),.sh (.sl 2 b l)] 162),(1,.box [.int .i64 0,.int .i64 0,.nS,.nS] 162)],nx:=2,lim:=L0,tc:=[]}
def Og(x y:Int)(a b:Nat)(h l:Nat->List Sh)(n:Int)(k v:Int):Core:={tm:=(L42 x y a b h l n k v).tm.set 1 (.int .i64 n),hp:=(L42 x y a b h l n k v).hp,nx:=2,lim:=L0,tc:=[]}
def FN:List It:=[aA [0,1,1,1,1],aA [1,1,1,1,1]]
noncomputable def JF:Nat->Option (List Sh->Tree Sh)
 |84=>ae F33 |75=>ae F35 |63=>ae F41 |62=>ae F49 |64=>ae F50 |86=>ae F54 |76=>ae F56 |_=>ao
def U9:List It:=[aA [0,1,0,1,1,1],aM 0,aA [1,1,1,1]]
def aiO:List It:=aA [0,0,1,0,1,1,1]::U9
def avb(k:Nat)(gg:Nat->List Sh):Bool->SV
 |true=>.nS |false=>.sh (.sl 4 k gg)
def Q5(n:Nat)(o:Nat->Oj)(i:Int)(k:Nat)(gg:Nat->List Sh)(v:Bool):Core:={tm:=sK 38 [(2,.ptr 0 0),(5,.ptr 1 0),(17,.sh (.sl 2 n (mO o))),(18,.sym .i64 (n:Int)),(19,.sym .i64 i)],hp:=[(0,.box [.nS] 81),(1,.box [avb k gg v] 79)],nx:=2,lim:=L0,tc:=[]}
theorem a25(A:Prim)(W:Wd)(n:Nat)(o:Nat->Oj)(i':Int)(k':Nat)(zl:Nat->List Sh):nR (C7 A W JF mZ) qm 300 400 46 [.code []] (nX 38 [.sl 2 n (mO o)] L0) [] [⟨46,U9,Q5 n o i' k' zl ah,[]⟩]=al (okB Oj n (mO o)) (al (JA n (mP (mO o))) (aq (LW n) (ap (ar (aL [aN [aj 0 0 fun _=>[]],aX 6 288]))) (aq (FM n (mP (mO o))) (ap (aH 0 [aw (aj 2 n (mO o)) (aj 2 n (mO o)),ac (A.nK n) (ab n),ac (ab 0) i'])) (ap (ar (aL [aN [aj 0 0 fun _=>[]],Sh.qK 90 (Sh.pt [av .i64 (ab (DR n (mP (mO o)))),aX 7 288])])))))):=by kernel_rfl
theorem b25(A:Prim)(W:Wd)(n:Nat)(o:Nat->Oj)(i i':Int)(k k':Nat)(gg zl:Nat->List Sh):nR (C7 A W JF mZ) qm 300 400 46 aiO (Q5 n o i k gg ag) [] [⟨46,U9,Q5 n o i' k' zl ag,[]⟩]=aq (A.lt i (ab n)) (al (A.inB i n) (al (qJ (o (A.toN i)).kind) (aq (rV (o (A.toN i)).kind (o (A.toN i)).init) (ap (ar (aL [aN [aj 0 0 fun _=>[]],aX 7 288]))) (al (pq k.succ 64) (ap (aH 0 [aw (aj 2 n (mO o)) (aj 2 n (mO o)),ac (ab n) (ab n),ac (A.add .i64 i (ab 1)) i',aw (aj 4 k.succ (yg k gg [av .i64 (o (A.toN i)).kind,av .i64 (o (A.toN i)).init,aj 1 0 yL,aj 2 0 noP])) (aj 4 k' zl)])))))) (ap (ar (aL [aN [aj 4 k gg],fQ bd]))):=by kernel_rfl
theorem c25(A:Prim)(W:Wd)(n:Nat)(o:Nat->Oj)(i i':Int)(k k':Nat)(gg zl:Nat->List Sh):nR (C7 A W JF mZ) qm 300 400 46 aiO (Q5 n o i k gg ah) [] [⟨46,U9,Q5 n o i' k' zl ag,[]⟩]=aq (A.lt i (ab n)) (al (A.inB i n) (al (qJ (o (A.toN i)).kind) (aq (rV (o (A.toN i)).kind (o (A.toN i)).init) (ap (ar (aL [aN [aj 0 0 fun _=>[]],aX 7 288]))) (al (pq 1 64) (ap (aH 0 [aw (aj 2 n (mO o)) (aj 2 n (mO o)),ac (ab n) (ab n),ac (A.add .i64 i (ab 1)) i',aw (aj 4 1 (yg 0 (fun _=>[]) [av .i64 (o (A.toN i)).kind,av .i64 (o (A.toN i)).init,aj 1 0 yL,aj 2 0 noP])) (aj 4 k' zl)])))))) (ap (ar (aL [aN [aj 0 0 fun _=>[]],fQ bd]))):=by kernel_rfl
theorem a94(A:Prim)(W:Wd)(x y:Int)(a b:Nat)(h l:Nat->List Sh)(k v:Int):nR (C7 A W xG mZ) qm 300 400 140 [.code []] (nX 12 [.agg [.i .i64 x,.i .i64 y,.sl 1 a h,.sl 2 b l],.i .i64 k,.i .i64 v] L0) [] []=ap (ar (aL [aN [av .i64 x,av .i64 y,aj 1 a h,aj 2 b l],av .i64 (ab 3),av .i64 y])):=by kernel_rfl
theorem a95(A:Prim)(W:Wd)(x y:Int)(a b:Nat)(h l:Nat->List Sh)(k v:Int):nR (C7 A W xG mZ) qm 300 400 141 [.code []] (nX 12 [.agg [.i .i64 x,.i .i64 y,.sl 1 a h,.sl 2 b l],.i .i64 k,.i .i64 v] L0) [] []=ap (ar (aL [aN [av .i64 x,av .i64 v,aj 1 a h,aj 2 b l],av .i64 (ab 1),av .i64 (ab 0)])):=by kernel_rfl
theorem a96(A:Prim)(W:Wd)(x y:Int)(a b:Nat)(h l:Nat->List Sh)(k v:Int):nR (C7 A W xG mZ) qm 300 400 142 [.code []] (nX 15 [.agg [.i .i64 x,.i .i64 y,.sl 1 a h,.sl 2 b l],.i .i64 k,.i .i64 v] L0) [] []=ap (ar (aL [aN [av .i64 x,av .i64 (A.add .i64 y v),aj 1 a h,aj 2 b l],av .i64 (ab 1),av .i64 (ab 0)])):=by kernel_rfl
theorem a97(A:Prim)(W:Wd)(x y:Int)(a b:Nat)(h l:Nat->List Sh)(k v:Int):nR (C7 A W xG mZ) qm 300 400 143 [.code []] (nX 17 [.agg [.i .i64 x,.i .i64 y,.sl 1 a h,.sl 2 b l],.i .i64 k,.i .i64 v] L0) [] []=aq (A.Wu a 0) ((ap (ar (aL [aN [av .i64 x,av .i64 y,bS 3 1 1 (nM [[av .i64 v]]),aj 2 b l],av .i64 (ab 1),av .i64 (ab 0)]))).both (al (A.room (A.addN 0 a) 8) (al (A.room (A.addN (A.addN 0 a) 1) 8) (ap (ar (aL [aN [av .i64 x,av .i64 y,bS 3 1 (A.addN (A.addN 0 a) 1) (A.snoc (A.snoc (nM []) 0 h) (A.addN 0 a) (nM [[av .i64 v]])),aj 2 b l],av .i64 (ab 1),av .i64 (ab 0)])))))) (al (A.room (A.addN 0 a) 8) (al (A.room (A.addN (A.addN 0 a) 1) 8) (ap (ar (aL [aN [av .i64 x,av .i64 y,bS 3 1 (A.addN (A.addN 0 a) 1) (A.snoc (A.snoc (nM []) 0 h) (A.addN 0 a) (nM [[av .i64 v]])),aj 2 b l],av .i64 (ab 1),av .i64 (ab 0)]))))):=by kernel_rfl
theorem a99(A:Prim)(W:Wd)(x y:Int)(a b:Nat)(o:Nat->Int)(l:Nat->List Sh)(k v:Int):nR (C7 A W xG mZ) qm 300 400 145 [.code []] (nX 25 [.agg [.i .i64 x,.i .i64 y,.sl 1 a (mO o),.sl 2 b l],.i .i64 k,.i .i64 v] L0) [] []=aq (A.eq (A.nK a) (ab 0)) (ap (ar (aL [aN [av .i64 x,av .i64 y,aj 1 a (mO o),aj 2 b l],av .i64 (ab 2),av .i64 (ab 0)]))) (al (A.inB (ab 0) a) (al (A.upTo (ab 1) a) (ap (ar (aL [aN [av .i64 x,av .i64 y,aj 1 (A.uy a 1) fun (j:Nat)=>mO o (A.addN 1 j),aj 2 b l],av .i64 (ab 3),av .i64 (o 0)]))))):=by kernel_rfl
theorem a42(A:Prim)(W:Wd)(x y:Int)(a b:Nat)(h l:Nat->List Sh)(op k v:Int):arq (C7 A W yM mZ) aeP 300 400 85 [.code []] (nX 88 [.agg [.i .i64 x,.i .i64 y,.sl 1 a h,.sl 2 b l],.i .i64 op,.i .i64 k,.i .i64 v] L0) [] [⟨85,FN,L42 x y a b h l op k v,[]⟩]=aq (A.eq x (ab 0)) (ap (ar (aL [aN [av .i64 (ab 0),av .i64 (ab 0),aj 0 0 fun _=>[],aj 0 0 fun _=>[]],av .i64 (ab 0),av .i64 (ab 0),aX 8 288]))) (aq (A.nt (A.eq (uO op) x)) (ap (ar (aL [aN [av .i64 (ab 0),av .i64 (ab 0),aj 0 0 fun _=>[],aj 0 0 fun _=>[]],av .i64 (ab 0),av .i64 (ab 0),aX 8 288]))) (aq (A.nt (A.eq k (ab 0))) (aq (A.nt (keyed op)) (ap (ar (aL [aN [av .i64 (ab 0),av .i64 (ab 0),aj 0 0 fun _=>[],aj 0 0 fun _=>[]],av .i64 (ab 0),av .i64 (ab 0),aX 15 288]))) (aq (A.lt k (ab 0)) (ap (ar (aL [aN [av .i64 (ab 0),av .i64 (ab 0),aj 0 0 fun _=>[],aj 0 0 fun _=>[]],av .i64 (ab 0),av .i64 (ab 0),aX 15 288]))) (aq (A.lt (ab 1000) k) (ap (ar (aL [aN [av .i64 (ab 0),av .i64 (ab 0),aj 0 0 fun _=>[],aj 0 0 fun _=>[]],av .i64 (ab 0),av .i64 (ab 0),aX 15 288]))) (aq (A.nt (A.eq v (ab 0))) (aq (A.nt (valued op)) (ap (ar (aL [aN [av .i64 (ab 0),av .i64 (ab 0),aj 0 0 fun _=>[],aj 0 0 fun _=>[]],av .i64 (ab 0),av .i64 (ab 0),aX 15 288]))) (aq (A.lt v (bW 999999999)) (ap (ar (aL [aN [av .i64 (ab 0),av .i64 (ab 0),aj 0 0 fun _=>[],aj 0 0 fun _=>[]],av .i64 (ab 0),av .i64 (ab 0),aX 15 288]))) (aq (A.lt (ab 1000000000) v) (ap (ar (aL [aN [av .i64 (ab 0),av .i64 (ab 0),aj 0 0 fun _=>[],aj 0 0 fun _=>[]],av .i64 (ab 0),av .i64 (ab 0),aX 15 288]))) (aq (A.eq op (ab 3)) (aq (Ae x (ab 0) (A.add .i64 y v)) (ap (ar (aL [aN [av .i64 (ab 0),av .i64 (ab 0),aj 0 0 fun _=>[],aj 0 0 fun _=>[]],av .i64 (ab 0),av .i64 (ab 0),aX 15 288]))) (ap (aH 0 [ac op op,ac k k,ac v v,ac x x,ac y y,aw (aj 1 a h) (aj 1 a h),aw (aj 2 b l) (aj 2 b l),ac (ab 0) (ab 0),ac (ab 0) (ab 0)]))) (ap (aH 0 [ac op op,ac k k,ac v v,ac x x,ac y y,aw (aj 1 a h) (aj 1 a h),aw (aj 2 b l) (aj 2 b l),ac (ab 0) (ab 0),ac (ab 0) (ab 0)])))))) (aq (A.lt v (bW 999999999)) (ap (ar (aL [aN [av .i64 (ab 0),av .i64 (ab 0),aj 0 0 fun _=>[],aj 0 0 fun _=>[]],av .i64 (ab 0),av .i64 (ab 0),aX 15 288]))) (aq (A.lt (ab 1000000000) v) (ap (ar (aL [aN [av .i64 (ab 0),av .i64 (ab 0),aj 0 0 fun _=>[],aj 0 0 fun _=>[]],av .i64 (ab 0),av .i64 (ab 0),aX 15 288]))) (aq (A.eq op (ab 3)) (aq (Ae x (ab 0) (A.add .i64 y v)) (ap (ar (aL [aN [av .i64 (ab 0),av .i64 (ab 0),aj 0 0 fun _=>[],aj 0 0 fun _=>[]],av .i64 (ab 0),av .i64 (ab 0),aX 15 288]))) (ap (aH 0 [ac op op,ac k k,ac v v,ac x x,ac y y,aw (aj 1 a h) (aj 1 a h),aw (aj 2 b l) (aj 2 b l),ac (ab 0) (ab 0),ac (ab 0) (ab 0)]))) (ap (aH 0 [ac op op,ac k k,ac v v,ac x x,ac y y,aw (aj 1 a h) (aj 1 a h),aw (aj 2 b l) (aj 2 b l),ac (ab 0) (ab 0),ac (ab 0) (ab 0)]))))))))) (aq (A.lt k (ab 0)) (ap (ar (aL [aN [av .i64 (ab 0),av .i64 (ab 0),aj 0 0 fun _=>[],aj 0 0 fun _=>[]],av .i64 (ab 0),av .i64 (ab 0),aX 15 288]))) (aq (A.lt (ab 1000) k) (ap (ar (aL [aN [av .i64 (ab 0),av .i64 (ab 0),aj 0 0 fun _=>[],aj 0 0 fun _=>[]],av .i64 (ab 0),av .i64 (ab 0),aX 15 288]))) (aq (A.nt (A.eq v (ab 0))) (aq (A.nt (valued op)) (ap (ar (aL [aN [av .i64 (ab 0),av .i64 (ab 0),aj 0 0 fun _=>[],aj 0 0 fun _=>[]],av .i64 (ab 0),av .i64 (ab 0),aX 15 288]))) (aq (A.lt v (bW 999999999)) (ap (ar (aL [aN [av .i64 (ab 0),av .i64 (ab 0),aj 0 0 fun _=>[],aj 0 0 fun _=>[]],av .i64 (ab 0),av .i64 (ab 0),aX 15 288]))) (aq (A.lt (ab 1000000000) v) (ap (ar (aL [aN [av .i64 (ab 0),av .i64 (ab 0),aj 0 0 fun _=>[],aj 0 0 fun _=>[]],av .i64 (ab 0),av .i64 (ab 0),aX 15 288]))) (aq (A.eq op (ab 3)) (aq (Ae x (ab 0) (A.add .i64 y v)) (ap (ar (aL [aN [av .i64 (ab 0),av .i64 (ab 0),aj 0 0 fun _=>[],aj 0 0 fun _=>[]],av .i64 (ab 0),av .i64 (ab 0),aX 15 288]))) (ap (aH 0 [ac op op,ac k k,ac v v,ac x x,ac y y,aw (aj 1 a h) (aj 1 a h),aw (aj 2 b l) (aj 2 b l),ac (ab 0) (ab 0),ac (ab 0) (ab 0)]))) (ap (aH 0 [ac op op,ac k k,ac v v,ac x x,ac y y,aw (aj 1 a h) (aj 1 a h),aw (aj 2 b l) (aj 2 b l),ac (ab 0) (ab 0),ac (ab 0) (ab 0)])))))) (aq (A.lt v (bW 999999999)) (ap (ar (aL [aN [av .i64 (ab 0),av .i64 (ab 0),aj 0 0 fun _=>[],aj 0 0 fun _=>[]],av .i64 (ab 0),av .i64 (ab 0),aX 15 288]))) (aq (A.lt (ab 1000000000) v) (ap (ar (aL [aN [av .i64 (ab 0),av .i64 (ab 0),aj 0 0 fun _=>[],aj 0 0 fun _=>[]],av .i64 (ab 0),av .i64 (ab 0),aX 15 288]))) (aq (A.eq op (ab 3)) (aq (Ae x (ab 0) (A.add .i64 y v)) (ap (ar (aL [aN [av .i64 (ab 0),av .i64 (ab 0),aj 0 0 fun _=>[],aj 0 0 fun _=>[]],av .i64 (ab 0),av .i64 (ab 0),aX 15 288]))) (ap (aH 0 [ac op op,ac k k,ac v v,ac x x,ac y y,aw (aj 1 a h) (aj 1 a h),aw (aj 2 b l) (aj 2 b l),ac (ab 0) (ab 0),ac (ab 0) (ab 0)]))) (ap (aH 0 [ac op op,ac k k,ac v v,ac x x,ac y y,aw (aj 1 a h) (aj 1 a h),aw (aj 2 b l) (aj 2 b l),ac (ab 0) (ab 0),ac (ab 0) (ab 0)])))))))))):=by kernel_rfl
noncomputable def TL(x y:Int)(a b:Nat)(h l:Nat->List Sh)(k v:Int):List oM:=[ac k k,ac v v,ac (ab 3) (ab 3),ac y y,ac x x,ac y y,aw (aj 1 a h) (aj 1 a h),aw (aj 2 b l) (aj 2 b l),ac x x,ac y y,aw (aj 1 a h) (aj 1 a h),aw (aj 2 b l) (aj 2 b l)]
theorem asJ(A:Prim)(W:Wd)(x y:Int)(a b:Nat)(h l:Nat->List Sh)(k v:Int):nR (C7 A W yM mZ) qm 300 400 85 FN (Og x y a b h l 1 k v) [] []=aR (TL x y a b h l k v) (aR (TL x y a b h l k v) (aR (TL x y a b h l k v) (ap (ar (aL [aN [av .i64 x,av .i64 y,aj 1 a h,aj 2 b l],av .i64 (ab 3),av .i64 y,fQ bd]))))):=by kernel_rfl
noncomputable def TM(x y:Int)(a b:Nat)(h l:Nat->List Sh)(k v:Int):List oM:=[ac k k,ac v v,ac (ab 1) (ab 1),ac (ab 0) (ab 0),ac x x,ac y y,aw (aj 1 a h) (aj 1 a h),aw (aj 2 b l) (aj 2 b l),ac x x,ac v v,aw (aj 1 a h) (aj 1 a h),aw (aj 2 b l) (aj 2 b l)]
theorem asK(A:Prim)(W:Wd)(x y:Int)(a b:Nat)(h l:Nat->List Sh)(k v:Int):nR (C7 A W yM mZ) qm 300 400 85 FN (Og x y a b h l 2 k v) [] []=aR (TM x y a b h l k v) (aR (TM x y a b h l k v) (aR (TM x y a b h l k v) (ap (ar (aL [aN [av .i64 x,av .i64 v,aj 1 a h,aj 2 b l],av .i64 (ab 1),av .i64 (ab 0),fQ bd]))))):=by kernel_rfl
noncomputable def TN(x y:Int)(a b:Nat)(h l:Nat->List Sh)(k v:Int):List oM:=[ac k k,ac v v,ac (ab 1) (ab 1),ac (ab 0) (ab 0),ac x x,ac y y,aw (aj 1 a h) (aj 1 a h),aw (aj 2 b l) (aj 2 b l),ac x x,ac (A8 y v) (A8 y v),aw (aj 1 a h) (aj 1 a h),aw (aj 2 b l) (aj 2 b l)]
theorem asL(A:Prim)(W:Wd)(x y:Int)(a b:Nat)(h l:Nat->List Sh)(k v:Int):nR (C7 A W yM mZ) qm 300 400 85 FN (Og x y a b h l 3 k v) [] []=aR (TN x y a b h l k v) (aR (TN x y a b h l k v) (aR (TN x y a b h l k v) (ap (ar (aL [aN [av .i64 x,av .i64 (A8 y v),aj 1 a h,aj 2 b l],av .i64 (ab 1),av .i64 (ab 0),fQ bd]))))):=by kernel_rfl
noncomputable def TP(x y:Int)(a b:Nat)(h l:Nat->List Sh)(k v:Int):List oM:=[ac k k,ac v v,ac (ab 3) (ab 3),ac y y,ac x x,ac y y,aw (aj 1 a h) (aj 1 a h),aw (aj 2 b l) (aj 2 b l),ac x x,ac y y,aw (aj 1 a h) (aj 1 a h),aw (aj 2 b l) (aj 2 b l)]
theorem asM(A:Prim)(W:Wd)(x y:Int)(a b:Nat)(h l:Nat->List Sh)(k v:Int):nR (C7 A W yM mZ) qm 300 400 85 FN (Og x y a b h l 4 k v) [] []=aR (TP x y a b h l k v) (aR (TP x y a b h l k v) (aR (TP x y a b h l k v) (ap (ar (aL [aN [av .i64 x,av .i64 y,aj 1 a h,aj 2 b l],av .i64 (ab 3),av .i64 y,fQ bd]))))):=by kernel_rfl
noncomputable def TQ(x y:Int)(a b:Nat)(h l:Nat->List Sh)(k v:Int):List oM:=[ac k k,ac v v,ac (ab 1) (ab 1),ac (ab 0) (ab 0),ac x x,ac y y,aw (aj 1 a h) (aj 1 a h),aw (aj 2 b l) (aj 2 b l),ac x x,ac y y,aw (aj 1 a.succ (yg a h [av .i64 v])) (aj 1 a.succ (yg a h [av .i64 v])),aw (aj 2 b l) (aj 2 b l)]
theorem asN(A:Prim)(W:Wd)(x y:Int)(a b:Nat)(h l:Nat->List Sh)(k v:Int):nR (C7 A W yM mZ) qm 300 400 85 FN (Og x y a b h l 5 k v) [] []=al (pq a.succ 8) (al (pq a.succ 8) (aR (TQ x y a b h l k v) (al (pq a.succ 8) (aR (TQ x y a b h l k v) (al (pq a.succ 8) (aR (TQ x y a b h l k v) (ap (ar (aL [aN [av .i64 x,av .i64 y,aj 1 a.succ (yg a h [av .i64 v]),aj 2 b l],av .i64 (ab 1),av .i64 (ab 0),fQ bd]))))))))):=by kernel_rfl
noncomputable def TR(x y:Int)(a b:Nat)(h l:Nat->List Sh)(k v:Int):List oM:=[ac k k,ac v v,ac (Oe a) (Oe a),ac (JE a (mP h)) (JE a (mP h)),ac x x,ac y y,aw (aj 1 a h) (aj 1 a h),aw (aj 2 b l) (aj 2 b l),ac x x,ac y y,aw (aj 1 (JD a) (Gt h)) (aj 1 (JD a) (Gt h)),aw (aj 2 b l) (aj 2 b l)]
theorem asO(A:Prim)(W:Wd)(x y:Int)(a b:Nat)(h l:Nat->List Sh)(k v:Int):nR (C7 A W yM mZ) qm 300 400 85 FN (Og x y a b h l 6 k v) [] []=al (okB Int a h) (al (okB Int a h) (aR (TR x y a b h l k v) (al (okB Int a h) (aR (TR x y a b h l k v) (al (okB Int a h) (aR (TR x y a b h l k v) (ap (ar (aL [aN [av .i64 x,av .i64 y,aj 1 (JD a) (Gt h),aj 2 b l],av .i64 (Oe a),av .i64 (JE a (mP h)),fQ bd]))))))))):=by kernel_rfl
noncomputable def TS(x y:Int)(a b:Nat)(h:Nat->List Sh)(p:Nat->Pr)(k v:Int):List oM:=[ac k k,ac v v,ac (ab 1) (ab 1),ac (ab 0) (ab 0),ac x x,ac y y,aw (aj 1 a h) (aj 1 a h),aw (aj 2 b (mO p)) (aj 2 b (mO p)),ac x x,ac y y,aw (aj 1 a h) (aj 1 a h),aw (aj 2 (len (vH (lst Pr b (mO p)) k v)) (mO (nth (vH (lst Pr b (mO p)) k v)))) (aj 2 (len (vH (lst Pr b (mO p)) k v)) (mO (nth (vH (lst Pr b (mO p)) k v))))]
theorem asP(A:Prim)(W:Wd)(x y:Int)(a b:Nat)(h:Nat->List Sh)(p:Nat->Pr)(k v:Int):nR (C7 A W yM mZ) qm 300 400 85 FN (Og x y a b h (mO p) 7 k v) [] []=al (yZ b (mO p)) (al (tZ k) (al (pq b.succ 16) (al (yZ b (mO p)) (al (tZ k) (al (pq b.succ 16) (aR (TS x y a b h p k v) (al (yZ b (mO p)) (al (tZ k) (al (pq b.succ 16) (aR (TS x y a b h p k v) (al (yZ b (mO p)) (al (tZ k) (al (pq b.succ 16) (aR (TS x y a b h p k v) (ap (ar (aL [aN [av .i64 x,av .i64 y,aj 1 a h,aj 2 (len (vH (lst Pr b (mO p)) k v)) (mO (nth (vH (lst Pr b (mO p)) k v)))],av .i64 (ab 1),av .i64 (ab 0),fQ bd]))))))))))))))))):=by kernel_rfl
noncomputable def TT(x y:Int)(a b:Nat)(h:Nat->List Sh)(p:Nat->Pr)(k v:Int):List oM:=[ac k k,ac v v,ac (Ci (lst Pr b (mO p)) k) (Ci (lst Pr b (mO p)) k),ac (BA (lst Pr b (mO p)) k) (BA (lst Pr b (mO p)) k),ac x x,ac y y,aw (aj 1 a h) (aj 1 a h),aw (aj 2 b (mO p)) (aj 2 b (mO p)),ac x x,ac y y,aw (aj 1 a h) (aj 1 a h),aw (aj 2 b (mO p)) (aj 2 b (mO p))]
theorem asQ(A:Prim)(W:Wd)(x y:Int)(a b:Nat)(h:Nat->List Sh)(p:Nat->Pr)(k v:Int):nR (C7 A W yM mZ) qm 300 400 85 FN (Og x y a b h (mO p) 8 k v) [] []=al (yZ b (mO p)) (al (tZ k) (al (yZ b (mO p)) (al (tZ k) (aR (TT x y a b h p k v) (al (yZ b (mO p)) (al (tZ k) (aR (TT x y a b h p k v) (al (yZ b (mO p)) (al (tZ k) (aR (TT x y a b h p k v) (ap (ar (aL [aN [av .i64 x,av .i64 y,aj 1 a h,aj 2 b (mO p)],av .i64 (Ci (lst Pr b (mO p)) k),av .i64 (BA (lst Pr b (mO p)) k),fQ bd]))))))))))))):=by kernel_rfl
noncomputable def TU(x y:Int)(a b:Nat)(h:Nat->List Sh)(p:Nat->Pr)(k v:Int):List oM:=[ac k k,ac v v,ac (Ci (lst Pr b (mO p)) k) (Ci (lst Pr b (mO p)) k),ac (BA (lst Pr b (mO p)) k) (BA (lst Pr b (mO p)) k),ac x x,ac y y,aw (aj 1 a h) (aj 1 a h),aw (aj 2 b (mO p)) (aj 2 b (mO p)),ac x x,ac y y,aw (aj 1 a h) (aj 1 a h),aw (aj 2 (len (xk (lst Pr b (mO p)) k)) (mO (nth (xk (lst Pr b (mO p)) k)))) (aj 2 (len (xk (lst Pr b (mO p)) k)) (mO (nth (xk (lst Pr b (mO p)) k))))]
theorem asR(A:Prim)(W:Wd)(x y:Int)(a b:Nat)(h:Nat->List Sh)(p:Nat->Pr)(k v:Int):nR (C7 A W yM mZ) qm 300 400 85 FN (Og x y a b h (mO p) 9 k v) [] []=al (yZ b (mO p)) (al (tZ k) (al (pq b.succ 16) (al (yZ b (mO p)) (al (tZ k) (al (pq b.succ 16) (aR (TU x y a b h p k v) (al (yZ b (mO p)) (al (tZ k) (al (pq b.succ 16) (aR (TU x y a b h p k v) (al (yZ b (mO p)) (al (tZ k) (al (pq b.succ 16) (aR (TU x y a b h p k v) (ap (ar (aL [aN [av .i64 x,av .i64 y,aj 1 a h,aj 2 (len (xk (lst Pr b (mO p)) k)) (mO (nth (xk (lst Pr b (mO p)) k)))],av .i64 (Ci (lst Pr b (mO p)) k),av .i64 (BA (lst Pr b (mO p)) k),fQ bd]))))))))))))))))):=by kernel_rfl
end Go.Proofs
namespace Go.Pl
open Go Go.Sx
def yN(x op:Int):Bool:=decide (x=0) || !decide (uO op=x)
def zC(x y op k v:Int):Bool:=
 (!decide (k=0) && !keyed op)||decide (k<0)||decide (1000<k)||(!decide (v=0) && !valued op)||decide (v < -1000000000)||decide (1000000000<v)||(decide (op=3)&&Ae x 0 (A8 y v))
end Go.Pl
namespace Go.Proofs
open Go Go.Sx Go.Pl
theorem O66:nD ai (nJ W7) 82 F66:=by
 refine pJ (Eu mZ) 300 400 L0 Tryz.f82 fun H w nY args φ hrep h=>?_
 have hn:Tryz.f82.ntmps=17:=by kernel_rfl
 unfold F66 at h;split at h
 ·rename_i t
  split at h
  ·rename_i op ht
   match args,hrep with
   |[v],⟨hv,_⟩=>
    refine ⟨[.i .i64 op],⟨rO ht hv,trivial⟩,?_⟩;rw[hn,a66 mM W7 op];have key (n:Int) (e:uO op=n):up φ (.i .i64 n):=nP (s':=.i .i64 (uO op)) (by rw[e];rfl) h;have q1:ab 1=1:=rfl;have q2:ab 2=2:=rfl;have q3:ab 3=3:=rfl;have q4:ab 4=4:=rfl;have q5:ab 5=5:=rfl;have q6:ab 6=6:=rfl;have q7:ab 7=7:=rfl;have q8:ab 8=8:=rfl;have q9:ab 9=9:=rfl;have q0:ab 0=0:=rfl;simp only[nG,q0,q1,q2,q3,q4,q5,q6,q7,q8,q9];(refine ⟨fun _=>key _ ?_,fun _=>⟨fun _=>key _ ?_,fun _=>⟨fun _=>key _ ?_,fun _=>⟨fun _=>key _ ?_,fun _=>⟨fun _=>key _ ?_,fun _=>⟨fun _=>key _ ?_,fun _=>⟨fun _=>key _ ?_,fun _=>⟨fun _=>key _ ?_,fun _=>⟨fun _=>key _ ?_,fun _=>key _ ?_⟩⟩⟩⟩⟩⟩⟩⟩⟩)<;>simp_all [uO]
  ·exact h.elim
 ·exact h.elim
theorem O67:nD ai (nJ W7) 110 F67:=by
 refine pJ (Eu mZ) 300 400 L0 mB fun H w nY args φ hrep h=>?_
 have hn:mB.ntmps=13:=by kernel_rfl
 unfold F67 at h;split at h
 ·rename_i t
  split at h
  ·rename_i op ht
   match args,hrep with
   |[v],⟨hv,_⟩=>
    refine ⟨[.i .i64 op],⟨rO ht hv,trivial⟩,?_⟩;rw[hn,a67 mM W7 op];have key (n:Bool) (e:keyed op=n):up φ (.b n):=nP (s':=.b (keyed op)) (by rw[e];exact .inl rfl) h;have q7:ab 7=7:=rfl;have q8:ab 8=8:=rfl;have q9:ab 9=9:=rfl;simp only[nG,q7,q8,q9];(refine ⟨fun _=>key _ ?_,fun _=>⟨fun _=>key _ ?_,fun _=>key _ ?_⟩⟩)<;>grind [keyed]
  ·exact h.elim
 ·exact h.elim
theorem O68:nD ai (nJ W7) 111 F68:=by
 refine pJ (Eu mZ) 300 400 L0 mC fun H w nY args φ hrep h=>?_
 have hn:mC.ntmps=17:=by kernel_rfl
 unfold F68 at h;split at h
 ·rename_i t
  split at h
  ·rename_i op ht
   match args,hrep with
   |[v],⟨hv,_⟩=>
    refine ⟨[.i .i64 op],⟨rO ht hv,trivial⟩,?_⟩;rw[hn,a68 mM W7 op];have key (n:Bool) (e:valued op=n):up φ (.b n):=nP (s':=.b (valued op)) (by rw[e];exact .inl rfl) h;have q2:ab 2=2:=rfl;have q3:ab 3=3:=rfl;have q5:ab 5=5:=rfl;have q7:ab 7=7:=rfl;simp only[nG,q2,q3,q5,q7];(refine ⟨fun _=>key _ ?_,fun _=>⟨fun _=>key _ ?_,fun _=>⟨fun _=>key _ ?_,fun _=>key _ ?_⟩⟩⟩)<;>grind [valued]
  ·exact h.elim
 ·exact h.elim
theorem O69:nD ai (nJ W7) 112 F69:=by
 refine pJ (Eu mZ) 300 400 L0 mD fun H w nY args φ hrep h=>?_
 have hn:mD.ntmps=27:=by kernel_rfl
 unfold F69 at h;split at h
 ·rename_i t u v
  split at h
  ·rename_i k x y ht hu hv
   match args,hrep with
   |[v1,v2,v3],⟨r1,r2,r3,_⟩=>
    refine ⟨[.i .i64 k,.i .i64 x,.i .i64 y],⟨rO ht r1,rO hu r2,rO hv r3,trivial⟩,?_⟩;rw[hn,a69 mM W7 k x y];have key (n:Bool) (e:Ae k x y=n):up φ (.b n):=nP (s':=.b (Ae k x y)) (by rw[e];exact .inl rfl) h;have q0:ab 0=0:=rfl;have q2:ab 2=2:=rfl;have q3:ab 1000=1000:=rfl;have q4:ab 1000000000=1000000000:=rfl;have q5:ab 1000000000000000=1000000000000000:=rfl;have q6:bW 999999999=-1000000000:=rfl;have q7:bW 999999999999999=-1000000000000000:=rfl;simp only[nG,mW,q0,q2,q3,q4,q5,q6,q7];(refine ⟨fun e=>⟨fun _=>key _ ?_,fun _=>⟨fun _=>key _ ?_,fun _=>⟨fun _=>key _ ?_,fun _=>key _ ?_⟩⟩⟩,fun e=>⟨fun _=>key _ ?_,fun _=>⟨fun _=>key _ ?_,fun _=>⟨fun _=>key _ ?_,fun _=>key _ ?_⟩⟩⟩⟩)<;>grind [Ae]
  ·exact h.elim
 ·exact h.elim
theorem zD{H:Mem}{t:Sh}{v:Value}{c:Int}(h:nO t=ae c)(r:Rep H t v):Rep H (.i .i64 c) v:=rO h r
theorem O94:nD ai (nJ W7) 140 F94:=by
 refine pJ (Eu mZ) 300 400 L0 mE fun H w nY args φ hrep h=>?_
 have hn:mE.ntmps=12:=by kernel_rfl
 unfold F94 at h;split at h
 ·rename_i x y s2 s3 t u
  split at h
  ·rename_i a hh b l p q hs2 hs3 ht hu
   match args,hrep with
   |[v,v1,v2],⟨hv,r1,r2,_⟩=>
    refine ⟨[.agg [.i .i64 x,.i .i64 y,.sl 1 a hh,.sl 2 b l],.i .i64 p,.i .i64 q],⟨yh hv (fun u hu=>nZ hs2 hu) (fun u hu=>nZ hs3 hu),rO ht r1,rO hu r2,trivial⟩,?_⟩;rw[hn,a94 mM W7 x y a b hh l p q];exact nP (s':=.mX [.agg [.i .i64 x,.i .i64 y,.sl 1 a hh,.sl 2 b l],.i .i64 3,.i .i64 y]) (by simp[Wk,F7]) h
  ·exact h.elim
 ·exact h.elim
theorem O95:nD ai (nJ W7) 141 F95:=by
 refine pJ (Eu mZ) 300 400 L0 mF fun H w nY args φ hrep h=>?_
 have hn:mF.ntmps=12:=by kernel_rfl
 unfold F95 at h;split at h
 ·rename_i x y s2 s3 t u
  split at h
  ·rename_i a hh b l p q hs2 hs3 ht hu
   match args,hrep with
   |[v,v1,v2],⟨hv,r1,r2,_⟩=>
    refine ⟨[.agg [.i .i64 x,.i .i64 y,.sl 1 a hh,.sl 2 b l],.i .i64 p,.i .i64 q],⟨yh hv (fun u hu=>nZ hs2 hu) (fun u hu=>nZ hs3 hu),rO ht r1,rO hu r2,trivial⟩,?_⟩;rw[hn,a95 mM W7 x y a b hh l p q];exact nP (s':=.mX [.agg [.i .i64 x,.i .i64 q,.sl 1 a hh,.sl 2 b l],.i .i64 1,.i .i64 0]) (by simp[Wk,F7]) h
  ·exact h.elim
 ·exact h.elim
theorem O96:nD ai (nJ W7) 142 F96:=by
 refine pJ (Eu mZ) 300 400 L0 mG fun H w nY args φ hrep h=>?_
 have hn:mG.ntmps=15:=by kernel_rfl
 unfold F96 at h;split at h
 ·rename_i x y s2 s3 t u
  split at h
  ·rename_i a hh b l p q hs2 hs3 ht hu
   match args,hrep with
   |[v,v1,v2],⟨hv,r1,r2,_⟩=>
    refine ⟨[.agg [.i .i64 x,.i .i64 y,.sl 1 a hh,.sl 2 b l],.i .i64 p,.i .i64 q],⟨yh hv (fun u hu=>nZ hs2 hu) (fun u hu=>nZ hs3 hu),rO ht r1,rO hu r2,trivial⟩,?_⟩;rw[hn,a96 mM W7 x y a b hh l p q];exact nP (s':=.mX [.agg [.i .i64 x,.i .i64 (A8 y q),.sl 1 a hh,.sl 2 b l],.i .i64 1,.i .i64 0]) (by simp[Wk,F7];rfl) h
  ·exact h.elim
 ·exact h.elim
theorem O97:nD ai (nJ W7) 143 F97:=by
 refine pJ (Eu mZ) 300 400 L0 mH fun H w nY args φ hrep h=>?_
 have hn:mH.ntmps=17:=by kernel_rfl
 unfold F97 at h;split at h
 ·rename_i x y s2 s3 t u
  split at h
  ·rename_i a hh b l p q hs2 hs3 ht hu
   obtain ⟨h1,hφ⟩:=h;match args,hrep with
   |[v,v1,v2],⟨hv,r1,r2,_⟩=>
    refine ⟨[.agg [.i .i64 x,.i .i64 y,.sl 1 a hh,.sl 2 b l],.i .i64 p,.i .i64 q],⟨yh hv (fun u hu=>nZ hs2 hu) (fun u hu=>nZ hs3 hu),rO ht r1,rO hu r2,trivial⟩,?_⟩;have h0:=DN h1 (j3 a);rw[hn,a97 mM W7 x y a b hh l p q,Jy,TD,XV];have fin:up φ (.mX [.agg [.i .i64 x,.i .i64 y,.os 3 1 (a+1) (mM.snoc hh a (nM [[.i .i64 q]])),.sl 2 b l],.i .i64 (ab 1),.i .i64 (ab 0)]):=
     nP (s':=.mX [.agg [.i .i64 x,.i .i64 y,.sl 1 (a+1) (yg a hh [.i .i64 q]),.sl 2 b l],.i .i64 1,.i .i64 0]) ⟨⟨rfl,rfl,.inr ⟨rfl,rfl,aaM⟩,.inr ⟨rfl,rfl,fun _ _=>rfl⟩,trivial⟩,rfl,rfl,trivial⟩ hφ
    refine ⟨fun e=>⟨?_,h0,h1,fin⟩,fun _=>⟨h0,h1,fin⟩⟩;have e:a=0:=by have:=of_decide_eq_true (show decide (a<=0)=ah from e);omega
    subst e;assumption
  ·exact h.elim
 ·exact h.elim
theorem O99:nD ai (nJ W7) 145 F99:=by
 refine pJ (Eu mZ) 300 400 L0 mI fun H w nY args φ hrep h=>?_
 have hn:mI.ntmps=25:=by kernel_rfl
 unfold F99 at h;split at h
 ·rename_i x y s2 s3 t u
  split at h
  ·rename_i a hh b l p q hs2 hs3 ht hu
   obtain ⟨h1,hφ⟩:=h;match args,hrep with
   |[v,v1,v2],⟨hv,r1,r2,_⟩=>
    refine ⟨[.agg [.i .i64 x,.i .i64 y,.sl 1 a (mO (mP (α:=Int) hh)),.sl 2 b l],.i .i64 p,.i .i64 q],⟨yh hv (fun u hu=>pX (nZ hs2 hu) h1) (fun u hu=>nZ hs3 hu),rO ht r1,rO hu r2,trivial⟩,?_⟩;have hrow:=zh h1;generalize mP (α:=Int) hh=o at *;have hφ:φ (.mX [.agg [.i .i64 x,.i .i64 y,.sl 1 (JD a) (Gt hh),.sl 2 b l],.i .i64 (Oe a),.i .i64 (JE a o)]):=hφ;rw[hn,a99 mM W7 x y a b o l p q];refine ⟨fun e=>?_,fun e=>?_⟩
    ·have e:a=0:=by grind [nG,ny]
     subst e;exact nP (s':=.mX [.agg [.i .i64 x,.i .i64 y,.sl 1 (JD 0) (Gt hh),.sl 2 b l],.i .i64 (Oe 0),.i .i64 (JE 0 o)]) ⟨⟨rfl,rfl,.inl ⟨rfl,rfl⟩,.inr ⟨rfl,rfl,fun _ _=>rfl⟩,trivial⟩,rfl,rfl,trivial⟩ hφ
    ·have e:¬a=0:=by grind [nG,ny]
     refine ⟨by simp[nN];omega,by simp[vG];omega,?_⟩;refine nP (s':=.mX [.agg [.i .i64 x,.i .i64 y,.sl 1 (JD a) (Gt hh),.sl 2 b l],.i .i64 (Oe a),.i .i64 (JE a o)]) ⟨⟨rfl,rfl,.inr ⟨rfl,rfl,fun j hj=>?_⟩,.inr ⟨rfl,rfl,fun _ _=>rfl⟩,trivial⟩,?_,?_,trivial⟩ hφ
     ·have hj:j<a - 1:=hj
      show mO o (1+j)=hh (1+j);rw[hrow (1+j) (by omega)];rfl
     ·simp[Wk,Oe,e]
     ·simp[Wk,JE,e]
  ·exact h.elim
 ·exact h.elim
end Go.Proofs
namespace Go.Pl
open Go Go.Sx
def sG(s:oO)(op k v:Int):oO×Int×Int:=
 if op=1\/op=4 then (s,3,s.num)
 else if op=2 then ({s with num:=v},1,0)
 else if op=3 then ({s with num:=A8 s.num v},1,0)
 else if op=5 then ({s with q:=s.q++[v]},1,0)
 else if op=6 then ({s with q:=s.q.tail},Oe s.q.length,s.q.headD 0)
 else if op=7 then ({s with ps:=vH s.ps k v},1,0)
 else if op=8 then (s,Ci s.ps k,BA s.ps k)
 else if op=9 then ({s with ps:=xk s.ps k},Ci s.ps k,BA s.ps k)
 else (s,0,0)
def newT(o:Nat->Oj)(j:Nat):oO:=⟨(o j).kind,(o j).init,[],[]⟩
def noT:Nat->List Sh:=fun _=>[]
end Go.Pl
namespace Go.Proofs
open Go Go.Sx Go.Pl
theorem ODs:∀g F,yM g=ae F->nD ai (nJ W7) g F:=fun g F h=>by
 unfold yM at h;split at h
 ·cases h;exact O66
 ·cases h;exact O67
 ·cases h;exact O68
 ·cases h;exact O69
 ·cases h;exact O94
 ·cases h;exact O95
 ·cases h;exact O96
 ·cases h;exact O97
 ·cases h;exact O99
 ·cases h;exact au6
 ·cases h;exact au8
 ·cases h;exact au9
 ·cases h
theorem Oh(stop:Nat->List Nat->Bool):oD ai (C7 mM W7 yM stop):=cO ODs fun g h=>by
 unfold yM at h;split at h;all_goals first|(cases h;done) |kernel_rfl
def F42:List Sh->Tree Sh
 |[.agg [.i .i64 x,.i .i64 y,s2,s3],t,u,v]=>match qp 1 s2,qp 2 s3,nO t,nO u,nO v with
  |some (a,h),ae (b,l),ae op,ae k,ae v=>.need (okB Int a h) (.need (okB Pr b l) (.need (pq (a+1) 8) (.node (yN x op) (.leaf (.mX [.agg (qO FK),.i .i64 0,.i .i64 0,.er 8 288])) (.node (zC x y op k v) (.leaf (.mX [.agg (qO FK),.i .i64 0,.i .i64 0,.er 15 288]))
    (.need (Dk op b l) (.leaf (.mX [.agg (qO (sG ⟨x,y,lst Int a h,lst Pr b l⟩ op k v).1),.i .i64 (sG ⟨x,y,lst Int a h,lst Pr b l⟩ op k v).2.1,.i .i64 (sG ⟨x,y,lst Int a h,lst Pr b l⟩ op k v).2.2,.v .nilIface])))))))
  |_,_,_,_,_=>.fail
 |_=>.fail
theorem am9{α:Type}[Row α](l:List α)(a:α):∀i,i<l.length+1->yg l.length (mO (nth l)) (Row.put a) i=mO (nth (l++[a])) i:=fun i hi=>by
 grind [yg,mO,nth,cj]
theorem yj{α:Type}[Row α](o:Nat->α):mP (mO o)=o:=funext fun i=>Dh o i
section
variable{H0:Mem}{w0:World}{φ:Sh->Prop}
theorem avd{x y op k v:Int}{q:List Int}{ps:List Pr}(hr:pq (q.length+1) 8=ah)(hop:op=1\/op=2\/op=3\/op=4\/op=5\/op=6\/op=7\/op=8\/op=9)(hm:Dk op ps.length (mO (nth ps))=ah)(hkey:tZ k=ah)
  (hφ:φ (.mX [.agg (qO (sG ⟨x,y,q,ps⟩ op k v).1),.i .i64 (sG ⟨x,y,q,ps⟩ op k v).2.1,.i .i64 (sG ⟨x,y,q,ps⟩ op k v).2.2,.v .nilIface])) :
  mY ai (C7 mM W7 yM mZ) (K0 H0 w0) 85 FN (L42 x y q.length ps.length (mO (nth q)) (mO (nth ps)) op k v) [] emp (up φ):=by
 have lit (n:Int) (h:mY ai (C7 mM W7 yM mZ) (K0 H0 w0) 85 FN (Og x y q.length ps.length (mO (nth q)) (mO (nth ps)) n k v) [] emp (up φ)):mY ai (C7 mM W7 yM mZ) (K0 H0 w0) 85 FN (L42 x y q.length ps.length (mO (nth q)) (mO (nth ps)) n k v) [] emp (up φ):=
  aki _ (fun H E vs hd=>aeO 1 rfl hd) h
 have fin (s':oO) (r g:Int) (e:sG ⟨x,y,q,ps⟩ op k v=(s',r,g)) (c:List Sh) (hc:F7 c (qO s')):up φ (.mX [.agg c,.i .i64 r,.i .i64 g,.v .nilIface]):=
  nP (s':=.mX [.agg (qO (sG ⟨x,y,q,ps⟩ op k v).1),.i .i64 (sG ⟨x,y,q,ps⟩ op k v).2.1,.i .i64 (sG ⟨x,y,q,ps⟩ op k v).2.2,.v .nilIface]) (by rw[e];exact ⟨hc,rfl,rfl,rfl,trivial⟩) hφ
 rcases hop with rfl|rfl|rfl|rfl|rfl|rfl|rfl|rfl|rfl
 ·refine lit 1 (KF (Oh _) 300 400 [] ?_)
  rw[asJ mM W7 x y q.length ps.length (mO (nth q)) (mO (nth ps)) k v];have:=fin _ _ _ rfl [.i .i64 x,.i .i64 y,.sl 1 q.length (mO (nth q)),.sl 2 ps.length (mO (nth ps))] (by simp[qO,Wk,F7,len]);repeat' (first|exact trivial|exact rfl|exact this|refine aW ?_ ?_)
 ·refine lit 2 (KF (Oh _) 300 400 [] ?_)
  rw[asK mM W7 x y q.length ps.length (mO (nth q)) (mO (nth ps)) k v];have:=fin _ _ _ rfl [.i .i64 x,.i .i64 v,.sl 1 q.length (mO (nth q)),.sl 2 ps.length (mO (nth ps))] (by simp[qO,Wk,F7,len]);repeat' (first|exact trivial|exact rfl|exact this|refine aW ?_ ?_)
 ·refine lit 3 (KF (Oh _) 300 400 [] ?_)
  rw[asL mM W7 x y q.length ps.length (mO (nth q)) (mO (nth ps)) k v];have:=fin _ _ _ rfl [.i .i64 x,.i .i64 (A8 y v),.sl 1 q.length (mO (nth q)),.sl 2 ps.length (mO (nth ps))] (by simp[qO,Wk,F7,len]);repeat' (first|exact trivial|exact rfl|exact this|refine aW ?_ ?_)
 ·refine lit 4 (KF (Oh _) 300 400 [] ?_)
  rw[asM mM W7 x y q.length ps.length (mO (nth q)) (mO (nth ps)) k v];have:=fin _ _ _ rfl [.i .i64 x,.i .i64 y,.sl 1 q.length (mO (nth q)),.sl 2 ps.length (mO (nth ps))] (by simp[qO,Wk,F7,len]);repeat' (first|exact trivial|exact rfl|exact this|refine aW ?_ ?_)
 ·refine lit 5 (KF (Oh _) 300 400 [] ?_)
  rw[asN mM W7 x y q.length ps.length (mO (nth q)) (mO (nth ps)) k v];have:=fin _ _ _ rfl [.i .i64 x,.i .i64 y,.sl 1 (q.length+1) (yg q.length (mO (nth q)) [.i .i64 v]),.sl 2 ps.length (mO (nth ps))] ⟨rfl,rfl,.inr ⟨rfl,by simp[len],am9 q v⟩,.inr ⟨rfl,rfl,fun _ _=>rfl⟩,trivial⟩;repeat' (first|exact trivial|exact hr|exact rfl|exact this|refine aW ?_ ?_)
 ·refine lit 6 (KF (Oh _) 300 400 [] ?_)
  rw[asO mM W7 x y q.length ps.length (mO (nth q)) (mO (nth ps)) k v,yj];have hh:JE q.length (nth q)=q.headD 0:=by cases q<;>rfl
  rw[hh];have:=fin _ _ _ rfl [.i .i64 x,.i .i64 y,.sl 1 (JD q.length) (Gt (mO (nth q))),.sl 2 ps.length (mO (nth ps))] ⟨rfl,rfl,.inr ⟨rfl,by simp[len,JD],fun j hj=>by
   show mO (nth q) (1+j)=mO (nth q.tail) j;simp_all [mO,nth,Nat.add_comm]⟩,.inr ⟨rfl,rfl,fun _ _=>rfl⟩,trivial⟩
  repeat' (first|exact trivial|exact o9 _ _|exact rfl|exact this|refine aW ?_ ?_)
 all_goals
  have hm2:(!decide (uO _=4)||(yZ ps.length (mO (nth ps))&&pq (ps.length+1) 16))=ah:=hm;have hm3:yZ ps.length (mO (nth ps))=ah/\pq (ps.length+1) 16=ah:=by
   simp_all [uO]
  obtain ⟨m1,m2⟩:=hm3;have el:lst Pr ps.length (mO (nth ps))=ps:=zA ps
 ·refine lit 7 (KF (Oh _) 300 400 [] ?_)
  rw[asP mM W7 x y q.length ps.length (mO (nth q)) (nth ps) k v,el];have:=fin _ _ _ rfl [.i .i64 x,.i .i64 y,.sl 1 q.length (mO (nth q)),.sl 2 (len (vH ps k v)) (mO (nth (vH ps k v)))] (by simp[qO,Wk,F7,len]);repeat' (first|exact trivial|exact m1|exact m2|exact hkey|exact rfl|exact this|refine aW ?_ ?_)
 ·refine lit 8 (KF (Oh _) 300 400 [] ?_)
  rw[asQ mM W7 x y q.length ps.length (mO (nth q)) (nth ps) k v,el];have:=fin _ _ _ rfl [.i .i64 x,.i .i64 y,.sl 1 q.length (mO (nth q)),.sl 2 ps.length (mO (nth ps))] (by simp[qO,Wk,F7,len]);repeat' (first|exact trivial|exact m1|exact m2|exact hkey|exact rfl|exact this|refine aW ?_ ?_)
 ·refine lit 9 (KF (Oh _) 300 400 [] ?_)
  rw[asR mM W7 x y q.length ps.length (mO (nth q)) (nth ps) k v,el];have:=fin _ _ _ rfl [.i .i64 x,.i .i64 y,.sl 1 q.length (mO (nth q)),.sl 2 (len (xk ps k)) (mO (nth (xk ps k)))] (by simp[qO,Wk,F7,len]);repeat' (first|exact trivial|exact m1|exact m2|exact hkey|exact rfl|exact this|refine aW ?_ ?_)
end
theorem aeQ{op:Int}(h0:uO op≠0):op=1\/op=2\/op=3\/op=4\/op=5\/op=6\/op=7\/op=8\/op=9:=by
 grind [uO]
theorem O42:nD ai (nJ W7) 85 F42:=by
 refine rC (C7 mM W7 yM mZ) Tryz.f85 fun H w nY args φ hrep h=>?_
 have hn:Tryz.f85.ntmps=88:=by kernel_rfl
 unfold F42 at h;split at h
 ·rename_i x y s2 s3 t u v
  split at h
  ·rename_i a hh b l op k vv hs2 hs3 ht hu hv
   obtain ⟨h1,h2,h3,he,hb⟩:=h;have hml:Dk op b l=ah->Dk op (lst Pr b l).length (mO (nth (lst Pr b l)))=ah:=fun hq=>by
    unfold Dk yZ at hq ⊢;rw[zA,uV,o9];simp_all
   match args,hrep with
   |[v0,v1,v2,v3],⟨r0,r1,r2,r3,_⟩=>
    refine ⟨[.agg [.i .i64 x,.i .i64 y,.sl 1 (lst Int a hh).length (mO (nth (lst Int a hh))),.sl 2 (lst Pr b l).length (mO (nth (lst Pr b l)))],.i .i64 op,.i .i64 k,.i .i64 vv],⟨yh r0 (fun u hu=>yX (nZ hs2 hu) h1) (fun u hu=>yX (nZ hs3 hu) h2),rO ht r1,rO hu r2,rO hv r3,trivial⟩,L0,?_⟩;have h3:pq ((lst Int a hh).length+1) 8=ah:=by simp_all
    have hb:yN x op=ag->(zC x y op k vv=ah->φ (.mX [.agg (qO FK),.i .i64 0,.i .i64 0,.er 15 288]))/\(zC x y op k vv=ag->Dk op (lst Pr b l).length (mO (nth (lst Pr b l)))=ah/\φ (.mX [.agg (qO (sG ⟨x,y,lst Int a hh,lst Pr b l⟩ op k vv).1),.i .i64 (sG ⟨x,y,lst Int a hh,lst Pr b l⟩ op k vv).2.1,.i .i64 (sG ⟨x,y,lst Int a hh,lst Pr b l⟩ op k vv).2.2,.v .nilIface])):=fun e=>⟨(hb e).1,fun e2=>⟨hml ((hb e).2 e2).1,((hb e).2 e2).2⟩⟩;clear hml;generalize lst Int a hh=q at *;generalize lst Pr b l=ps at *;have e1 (e:yN x op=ah):up φ (.mX [.agg [.i .i64 (ab 0),.i .i64 (ab 0),.sl 0 0 fun _=>[],.sl 0 0 fun _=>[]],.i .i64 (ab 0),.i .i64 (ab 0),.er 8 288]):=
     nP (s':=.mX [.agg (qO FK),.i .i64 0,.i .i64 0,.er 8 288]) ⟨⟨rfl,rfl,.inl ⟨rfl,rfl⟩,.inl ⟨rfl,rfl⟩,trivial⟩,rfl,rfl,rfl,trivial⟩ (he e)
    have e3 (e:yN x op=ag) (e2:zC x y op k vv=ah):up φ (.mX [.agg [.i .i64 (ab 0),.i .i64 (ab 0),.sl 0 0 fun _=>[],.sl 0 0 fun _=>[]],.i .i64 (ab 0),.i .i64 (ab 0),.er 15 288]):=
     nP (s':=.mX [.agg (qO FK),.i .i64 0,.i .i64 0,.er 15 288]) ⟨⟨rfl,rfl,.inl ⟨rfl,rfl⟩,.inl ⟨rfl,rfl⟩,trivial⟩,rfl,rfl,rfl,trivial⟩ ((hb e).1 e2)
    have go (e:yN x op=ag) (e2:zC x y op k vv=ag):∃t:zx,([⟨85,FN,L42 x y q.length ps.length (mO (nth q)) (mO (nth ps)) op k vv,[]⟩]:List zx)[0]?=ae t/\mY ai (C7 mM W7 yM mZ) (K0 H w) t.g t.td t.c t.stk emp (up φ):=
     ⟨_,rfl,avd h3 (aeQ (by
      simp_all [yN])) ((hb e).2 e2).1 (by
       simp_all [zC,tZ,decide_eq_true]) ((hb e).2 e2).2⟩
    refine aeh (dC _ _) (Oh _) (pause:=aeP) (m:=300) (n:=400) (ts:=[⟨85,FN,L42 x y q.length ps.length (mO (nth q)) (mO (nth ps)) op k vv,[]⟩]) ?_;rw[hn,a42 mM W7 x y q.length ps.length (mO (nth q)) (mO (nth ps)) op k vv];have q0:ab 0=0:=rfl;have q3:ab 3=3:=rfl;have qk:ab 1000=1000:=rfl;have q4:ab 1000000000=1000000000:=rfl;have q6:bW 999999999=-1000000000:=rfl;have qa:mM.add .i64 y vv=A8 y vv:=rfl;rw[q0] at e1 e3;simp only[nG,oL,mW,q0,q3,qk,q4,q6,qa];clear he hb h3 hn;repeat' (first|exact trivial|exact rfl|(intro _) |refine aW ?_ ?_)
    all_goals first
     |exact e1 (by simp_all [yN])
     |exact e3 (by simp_all [yN]) (by simp_all [zC])
     |simp_all [yN,zC]
  ·exact h.elim
 ·exact h.elim
open Go Go.Sx Go.Pl
theorem OCs:∀g F,JF g=ae F->nD ai (nJ W7) g F:=fun g F h=>by
 unfold JF at h;split at h
 ·cases h;exact O33
 ·cases h;exact O35
 ·cases h;exact O41
 ·cases h;exact O49
 ·cases h;exact O50
 ·cases h;exact O54
 ·cases h;exact O56
 ·cases h
theorem ana(stop:Nat->List Nat->Bool):oD ai (C7 mM W7 JF stop):=cO OCs fun g h=>by
 unfold JF at h;split at h;all_goals first|(cases h;done) |kernel_rfl
def F25:List Sh->Tree Sh
 |[s0]=>match qp 2 s0 with
  |some (n,g)=>.need (okB Oj n g) (.need (JA n (mP g)) (.node (LW n) (.leaf (.mX [.agg [.sl 4 0 noT],.er 6 288])) (.node (FM n (mP g)) (.leaf (.mX [.agg [.sl 4 n (pY (newT (mP g)))],.v .nilIface])) (.leaf (.mX [.agg [.sl 4 0 noT],.qK 90 (.pt [.i .i64 (DR n (mP g)),.er 7 288])]))))) |none=>.fail
 |_=>.fail
theorem akk{n j:Nat}{g:Nat->List Sh}{r:List Sh}(h:j<n):yg n g r j=g j:=if_pos h
theorem aaR{n:Nat}{g:Nat->List Sh}{r:List Sh}:yg n g r n=r:=if_neg (by omega)
section
variable{H0:Mem}{w0:World}{φ:Sh->Prop}
theorem aiP{n:Nat}{o:Nat->Oj}(hn:n<=8)(hk:∀j,j<n->qJ (o j).kind=ah)(hT:∀j,j<n->rV (o j).kind (o j).init=ag)(hφ:φ (.mX [.agg [.sl 4 n (pY (newT o))],.v .nilIface])):
  ∀r k (gg:Nat->List Sh),k+r=n->(∀j,j<k->gg j=qO (newT o j))->mY ai (C7 mM W7 JF mZ) (K0 H0 w0) 46 U9 (Q5 n o (k:Int) k gg ag) [] emp (up φ)
 |r,k,gg,hkr,hg=>by
  refine uT im aiO ?_;refine KF (ana _) 300 400 [⟨46,U9,Q5 n o (k+1:Nat) (k+1) (yg k gg (qO (newT o k))) ag,[]⟩] ?_;rw[b25 mM W7 n o k (k+1:Nat) k (k+1) gg (yg k gg (qO (newT o k)))];simp only[mW,nN,oZ,rP,zi,bm];refine ⟨fun h=>?_,fun h=>?_⟩
  ·have hlt:k<n:=by simp_all
   refine ⟨by simp;omega,hk k hlt,fun hb=>(by simp_all),fun _=>⟨room_le (by omega) (by omega),⟨rfl,rfl,?_,rfl,trivial⟩,_,rfl,?_⟩⟩
   ·grind [oM.ok,pF]
   ·match r,hkr with
    |0,hkr=>omega |r+1,hkr=>
     refine aiP hn hk hT hφ r (k+1) _ (by omega) fun j hj=>?_
     grind [aaR,akk]
  ·have:k=n:=by grind
   subst this;exact nP (s':=.mX [.agg [.sl 4 k (pY (newT o))],.v .nilIface]) ⟨⟨.inr ⟨rfl,rfl,hg⟩,trivial⟩,rfl,trivial⟩ hφ
end
theorem O25:nD ai (nJ W7) 46 F25:=by
 refine rC (C7 mM W7 JF mZ) im fun H w nY args φ hrep h=>?_
 have hn:im.ntmps=38:=by kernel_rfl
 unfold F25 at h;split at h
 ·rename_i s0
  split at h
  ·rename_i n g hs0
   obtain ⟨h1,h2,hbig,hsm⟩:=h;have hsm:LW n=ag->(FM n (mP g)=ah->φ (.mX [.agg [.sl 4 n (pY (newT (mP g)))],.v .nilIface]))/\(FM n (mP g)=ag->φ (.mX [.agg [.sl 4 0 noT],.qK 90 (.pt [.i .i64 (DR n (mP g)),.er 7 288])])):=hsm;match args,hrep with
   |[v],⟨hv,_⟩=>
    refine ⟨[.sl 2 n (mO (mP (α:=Oj) g))],⟨pX (nZ hs0 hv) h1,trivial⟩,L0,?_⟩;generalize mP (α:=Oj) g=o at *;refine KF (ana _) 300 400 [⟨46,U9,Q5 n o (0:Nat) 0 noT ah,[]⟩] ?_;rw[hn,a25 mM W7 n o (0:Nat) 0 noT,yj];refine ⟨o9 _ _,h2,fun e=>nP (s':=.mX [.agg [.sl 4 0 noT],.er 6 288]) ⟨⟨.inl ⟨rfl,rfl⟩,trivial⟩,rfl,trivial⟩ (hbig e),fun e=>?_⟩;obtain ⟨q1,q2⟩:=hsm e;have hn8:n<=8:=by simp_all [LW]
    refine ⟨fun e=>⟨⟨rfl,rfl,rfl,trivial⟩,_,rfl,?_⟩,fun e=>nP (s':=.mX [.agg [.sl 4 0 noT],.qK 90 (.pt [.i .i64 (DR n o),.er 7 288])]) ⟨⟨.inl ⟨rfl,rfl⟩,trivial⟩,rfl,trivial⟩ (q2 e)⟩;have hT:∀j,j<n->rV (o j).kind (o j).init=ag:=fun j hj=>by simpa using xH e j hj
    refine uT im aiO ?_;refine KF (ana _) 300 400 [⟨46,U9,Q5 n o (1:Nat) 1 (yg 0 (fun _=>[]) (qO (newT o 0))) ag,[]⟩] ?_;rw[c25 mM W7 n o (0:Nat) (1:Nat) 0 1 noT (yg 0 (fun _=>[]) (qO (newT o 0)))];simp only[mW,nN,oZ,rP,zi,bm];refine ⟨fun h=>?_,fun h=>?_⟩
    ·have hlt:0<n:=by simp_all
     refine ⟨by simp;omega,xH h2 0 hlt,fun hb=>(by simp_all),fun _=>⟨room_le (by omega) (by omega),⟨rfl,rfl,?_,rfl,trivial⟩,_,rfl,?_⟩⟩
     ·rfl
     ·refine aiP hn8 (xH h2) hT (q1 e) (n - 1) 1 _ (by omega) fun j hj=>?_
      obtain rfl:j=0:=by omega
      exact aaR
    ·have:n=0:=by simp_all
     subst this;exact nP (s':=.mX [.agg [.sl 4 0 (pY (newT o))],.v .nilIface]) ⟨⟨.inl ⟨rfl,rfl⟩,trivial⟩,rfl,trivial⟩ (q1 e)
  ·exact h.elim
 ·exact h.elim
end Go.Proofs
namespace Go.Pl
open Go Go.Sx
structure ZV where
 key:oO->List UInt8
 join:Nat->(Nat->List Sh)->List UInt8->List UInt8
def sQ(x y:Int)(a:Nat)(h:Nat->List Sh)(b:Nat)(l:Nat->List Sh):oO:=⟨x,y,lst Int a h,lst Pr b l⟩
def Va(x y:Int)(a:Nat)(h:Nat->List Sh)(b:Nat)(l:Nat->List Sh):Bool:=
 okB Int a h&&okB Pr b l&&qJ x&&qJ y&&amM a (mP h)&&aru b (mP l)&&decide (a<=100000/\b<=100000)
def X5(n:Nat)(g:Nat->List Sh)(sep:List UInt8):Bool:=okB (List UInt8) n g&&pq n 16&&zJ (rJ (lst (List UInt8) n g) sep)
end Go.Pl
namespace Go.Proofs
open Go Go.Sx Go.Pl
def G35(L:ZV):List Sh->Tree Sh
 |[.agg [.i .i64 x,.i .i64 y,s2,s3]]=>match qp 1 s2,qp 2 s3 with
  |some (a,h),ae (b,l)=>.need (Va x y a h b l) (.leaf (.str (L.key (sQ x y a h b l)))) |_,_=>.fail
 |_=>.fail
def G56(L:ZV):List Sh->Tree Sh
 |[s0,.str sep]=>match qp 1 s0 with
  |some (n,g)=>.need (X5 n g sep) (.leaf (.str (L.join n g sep))) |none=>.fail
 |_=>.fail
def F64:List Sh->Tree Sh
 |[.agg [s0]]=>match qp 4 s0 with
  |some (n,g)=>.need (pq n 64) (.leaf (.sl 4 n g)) |none=>.fail
 |_=>.fail
def Ee(L:ZV):Nat->Option (List Sh->Tree Sh)
 |75=>ae (G35 L) |76=>ae (G56 L) |83=>ae F64 |_=>ao
def aeR:List Nat:=[0,1,0,1,1]
def k32:List It:=[aM 0,aA [1,1,1]]
def arA(j:Nat)(gg:Nat->List Sh):Bool->SV×List (Nat×SB)
 |true=>(.nS,[]) |false=>(.gs 2,[(2,.own 9 1 j gg)])
def arB(n:Nat)(d:Nat->oO)(j:Nat)(gg:Nat->List Sh)(v:Bool):List (Nat×SB):=[(0,.box [(arA j gg v).1] 175),(1,.box [.sh (.sl 4 n (pY d))] 81)]++(arA j gg v).2
def arC:List SV:=sK 17 [(3,.ptr 0 0),(7,.fn 98 [.ptr 1 0])]
def L32(n:Nat)(d:Nat->oO):Core:={tm:=arC,hp:=arB n d 0 (fun _=>[]) ah,nx:=2,lim:=L0,tc:=[]}
def VH(l:Nat):List Fw:=[⟨57,ao,k32,arC,ae (l,aeR,.ready)⟩]
def Oi:List It:=[aA [0,1],aM 0]
def aiQ:List It:=aA [0,0,1]::Oi
def ave:Bool->Nat
 |true=>2 |false=>3
def X6(n:Nat)(d:Nat->oO)(l:Nat)(k:Int)(j:Nat)(gg:Nat->List Sh)(v:Bool):Core:=
 {tm:=sK 20 [(0,.val (yv l)),(7,.sh (.sl 4 n (pY d))),(8,.sym .i64 (n:Int)),(9,.sym .i64 k)],hp:=arB n d j gg v,nx:=ave v,lim:=L0,tc:=[]}
theorem a32(A:Prim)(W:Wd)(L:ZV)(n:Nat)(d:Nat->oO):aep (C7 A W (Ee L) mZ) DL 300 800 57 ao [.code []] (nX 17 [.agg [.sl 4 n (pY d)]] L0) [] [⟨57,ao,.code aeR::k32,L32 n d,[]⟩]=ap (aH 0 [aw (aj 4 n (pY d)) (aj 4 n (pY d))]):=by kernel_rfl
theorem t32(A:Prim)(W:Wd)(L:ZV)(n:Nat)(d:Nat->oO)(l:Nat)(k:Int)(j:Nat)(gg:Nat->List Sh):aep (C7 A W (Ee L) mZ) DL 300 800 98 ao [.code []] {L32 n d with tm:=(.val (yv l)::[.ptr 1 0])++List.replicate (20 - (1+1)) .any} (VH l) [⟨98,ao,Oi,X6 n d l k j gg ah,VH l⟩]=al (pq n 64) (ap (aH 0 [dL (eh (fR l) {toList:=[]} {toList:=[]}) (eh (fR l) {toList:=[]} {toList:=[]}),aw (aj 4 n (pY d)) (aj 4 n (pY d)),ac (A.nK n) (ab n),ac (ab 0) k,aw (aj 4 n (pY d)) (aj 4 n (pY d)),am l l])):=by kernel_rfl
noncomputable def aeS(A:Prim)(L:ZV)(n:Nat)(d:Nat->oO)(k:Int):List oM:=[ac k k,ac (d (A.toN k)).kind (d (A.toN k)).kind,ac (d (A.toN k)).num (d (A.toN k)).num,aw (aj 1 (len (d (A.toN k)).q) (mO (nth (d (A.toN k)).q))) (aj 1 (len (d (A.toN k)).q) (mO (nth (d (A.toN k)).q))),aw (aj 2 (len (d (A.toN k)).ps) (mO (nth (d (A.toN k)).ps))) (aj 2 (len (d (A.toN k)).ps) (mO (nth (d (A.toN k)).ps))),aw (aj 4 n (pY d)) (aj 4 n (pY d)),ac (d (A.toN k)).kind (d (A.toN k)).kind,ac (d (A.toN k)).num (d (A.toN k)).num,aw (aj 1 (len (d (A.toN k)).q) (mO (nth (d (A.toN k)).q))) (aj 1 (len (d (A.toN k)).q) (mO (nth (d (A.toN k)).q))),aw (aj 2 (len (d (A.toN k)).ps) (mO (nth (d (A.toN k)).ps))) (aj 2 (len (d (A.toN k)).ps) (mO (nth (d (A.toN k)).ps))),ac (d (A.toN k)).kind (d (A.toN k)).kind,ac (d (A.toN k)).num (d (A.toN k)).num,aw (aj 1 (len (d (A.toN k)).q) (mO (nth (d (A.toN k)).q))) (aj 1 (len (d (A.toN k)).q) (mO (nth (d (A.toN k)).q))),aw (aj 2 (len (d (A.toN k)).ps) (mO (nth (d (A.toN k)).ps))) (aj 2 (len (d (A.toN k)).ps) (mO (nth (d (A.toN k)).ps))),aw (bA (L.key (sQ (d (A.toN k)).kind (d (A.toN k)).num (len (d (A.toN k)).q) (mO (nth (d (A.toN k)).q)) (len (d (A.toN k)).ps) (mO (nth (d (A.toN k)).ps))))) (bA (L.key (sQ (d (A.toN k)).kind (d (A.toN k)).num (len (d (A.toN k)).q) (mO (nth (d (A.toN k)).q)) (len (d (A.toN k)).ps) (mO (nth (d (A.toN k)).ps))))),aw (bA (L.key (sQ (d (A.toN k)).kind (d (A.toN k)).num (len (d (A.toN k)).q) (mO (nth (d (A.toN k)).q)) (len (d (A.toN k)).ps) (mO (nth (d (A.toN k)).ps))))) (bA (L.key (sQ (d (A.toN k)).kind (d (A.toN k)).num (len (d (A.toN k)).q) (mO (nth (d (A.toN k)).q)) (len (d (A.toN k)).ps) (mO (nth (d (A.toN k)).ps)))))]
theorem avf(A:Prim)(W:Wd)(L:ZV)(n:Nat)(d:Nat->oO)(l:Nat)(k k':Int)(j j':Nat)(gg zl:Nat->List Sh):aep (C7 A W (Ee L) mZ) DL 300 800 98 ao aiQ (X6 n d l k j gg ah) (VH l) [⟨98,ao,Oi,X6 n d l k' j' zl ag,VH l⟩]=aq (A.lt k (ab n)) (al (A.inB k n) (aR [am l l] (aR [am l l] (al (Va (d (A.toN k)).kind (d (A.toN k)).num (len (d (A.toN k)).q) (mO (nth (d (A.toN k)).q)) (len (d (A.toN k)).ps) (mO (nth (d (A.toN k)).ps))) (al (Va (d (A.toN k)).kind (d (A.toN k)).num (len (d (A.toN k)).q) (mO (nth (d (A.toN k)).q)) (len (d (A.toN k)).ps) (mO (nth (d (A.toN k)).ps))) (aR (aeS A L n d k) (aR (aeS A L n d k) (aR [am l l] (ap (aH 0 [dL (eh (fR l) {toList:=[]} {toList:=[]}) (eh (fR l) {toList:=[]} {toList:=[]}),aw (aj 4 n (pY d)) (aj 4 n (pY d)),ac (ab n) (ab n),ac (A.add .i64 k (ab 1)) k',aw (aj 4 n (pY d)) (aj 4 n (pY d)),am 1 j',ax 1 (nM [[bA (L.key (sQ (d (A.toN k)).kind (d (A.toN k)).num (len (d (A.toN k)).q) (mO (nth (d (A.toN k)).q)) (len (d (A.toN k)).ps) (mO (nth (d (A.toN k)).ps))))]]) zl,am l l])))))))))) (al (X5 0 (fun _=>[]) [59,32]) (ap (ar (bA (L.join 0 (fun _=>[]) [59,32]))))):=by kernel_rfl
noncomputable def aeT(A:Prim)(L:ZV)(n:Nat)(d:Nat->oO)(k:Int)(j:Nat)(gg:Nat->List Sh):List oM:=[ac k k,ac (d (A.toN k)).kind (d (A.toN k)).kind,ac (d (A.toN k)).num (d (A.toN k)).num,aw (aj 1 (len (d (A.toN k)).q) (mO (nth (d (A.toN k)).q))) (aj 1 (len (d (A.toN k)).q) (mO (nth (d (A.toN k)).q))),aw (aj 2 (len (d (A.toN k)).ps) (mO (nth (d (A.toN k)).ps))) (aj 2 (len (d (A.toN k)).ps) (mO (nth (d (A.toN k)).ps))),aw (aj 4 n (pY d)) (aj 4 n (pY d)),ac (d (A.toN k)).kind (d (A.toN k)).kind,ac (d (A.toN k)).num (d (A.toN k)).num,aw (aj 1 (len (d (A.toN k)).q) (mO (nth (d (A.toN k)).q))) (aj 1 (len (d (A.toN k)).q) (mO (nth (d (A.toN k)).q))),aw (aj 2 (len (d (A.toN k)).ps) (mO (nth (d (A.toN k)).ps))) (aj 2 (len (d (A.toN k)).ps) (mO (nth (d (A.toN k)).ps))),ac (d (A.toN k)).kind (d (A.toN k)).kind,ac (d (A.toN k)).num (d (A.toN k)).num,aw (aj 1 (len (d (A.toN k)).q) (mO (nth (d (A.toN k)).q))) (aj 1 (len (d (A.toN k)).q) (mO (nth (d (A.toN k)).q))),aw (aj 2 (len (d (A.toN k)).ps) (mO (nth (d (A.toN k)).ps))) (aj 2 (len (d (A.toN k)).ps) (mO (nth (d (A.toN k)).ps))),aw (bA (L.key (sQ (d (A.toN k)).kind (d (A.toN k)).num (len (d (A.toN k)).q) (mO (nth (d (A.toN k)).q)) (len (d (A.toN k)).ps) (mO (nth (d (A.toN k)).ps))))) (bA (L.key (sQ (d (A.toN k)).kind (d (A.toN k)).num (len (d (A.toN k)).q) (mO (nth (d (A.toN k)).q)) (len (d (A.toN k)).ps) (mO (nth (d (A.toN k)).ps))))),am (A.addN j 1) (A.addN j 1),aF (A.snoc gg j (nM [[bA (L.key (sQ (d (A.toN k)).kind (d (A.toN k)).num (len (d (A.toN k)).q) (mO (nth (d (A.toN k)).q)) (len (d (A.toN k)).ps) (mO (nth (d (A.toN k)).ps))))]])) (A.snoc gg j (nM [[bA (L.key (sQ (d (A.toN k)).kind (d (A.toN k)).num (len (d (A.toN k)).q) (mO (nth (d (A.toN k)).q)) (len (d (A.toN k)).ps) (mO (nth (d (A.toN k)).ps))))]]))]
theorem avg(A:Prim)(W:Wd)(L:ZV)(n:Nat)(d:Nat->oO)(l:Nat)(k k':Int)(j j':Nat)(gg zl:Nat->List Sh):aep (C7 A W (Ee L) mZ) DL 300 800 98 ao aiQ (X6 n d l k j gg ag) (VH l) [⟨98,ao,Oi,X6 n d l k' j' zl ag,VH l⟩]=aq (A.lt k (ab n)) (al (A.inB k n) (aR [am l l] (aR [am l l] (al (Va (d (A.toN k)).kind (d (A.toN k)).num (len (d (A.toN k)).q) (mO (nth (d (A.toN k)).q)) (len (d (A.toN k)).ps) (mO (nth (d (A.toN k)).ps))) (al (A.room (A.addN j 1) 16) (al (Va (d (A.toN k)).kind (d (A.toN k)).num (len (d (A.toN k)).q) (mO (nth (d (A.toN k)).q)) (len (d (A.toN k)).ps) (mO (nth (d (A.toN k)).ps))) (al (A.room (A.addN j 1) 16) (al (A.room (A.addN j 1) 16) (aR (aeT A L n d k j gg) (aR (aeT A L n d k j gg) (aR [am l l] (ap (aH 0 [dL (eh (fR l) {toList:=[]} {toList:=[]}) (eh (fR l) {toList:=[]} {toList:=[]}),aw (aj 4 n (pY d)) (aj 4 n (pY d)),ac (ab n) (ab n),ac (A.add .i64 k (ab 1)) k',aw (aj 4 n (pY d)) (aj 4 n (pY d)),am (A.addN j 1) j',ax (A.addN j 1) (A.snoc gg j (nM [[bA (L.key (sQ (d (A.toN k)).kind (d (A.toN k)).num (len (d (A.toN k)).q) (mO (nth (d (A.toN k)).q)) (len (d (A.toN k)).ps) (mO (nth (d (A.toN k)).ps))))]])) zl,am l l]))))))))))))) (al (X5 j gg [59,32]) (ap (ar (bA (L.join j gg [59,32]))))):=by kernel_rfl
end Go.Proofs
namespace Go.Pl
open Go Go.Sx Go.Proofs
def DU(s:oO):Bool:=qJ s.kind&&qJ s.num&&s.q.all qJ&&s.ps.all (fun p=>qJ p.key&&qJ p.val)&&decide (s.q.length<=100000/\s.ps.length<=100000)
def keysB(n:Nat)(d:Nat->oO):Bool:=decide (n<=1000)&&(aD n).all fun j=>DU (d j)
def aaS(l:List oO):List UInt8:=rJ (l.map keyS) [59,32]
def LK:ZV where
 key:=keyS
 join n g sep:=rJ (lst (List UInt8) n g) sep
theorem aeU{s:oO}(h:DU s=ah):Va s.kind s.num (len s.q) (mO (nth s.q)) (len s.ps) (mO (nth s.ps))=ah:=by
 unfold DU at h;simp only[ak,decide_eq_true_eq] at h;obtain ⟨⟨⟨⟨h1,h2⟩,h3⟩,h4⟩,h5⟩:=h;unfold Va;simp only[ak,decide_eq_true_eq];refine ⟨⟨⟨⟨⟨⟨o9 _ _,o9 _ _⟩,h1⟩,h2⟩,?_⟩,?_⟩,h5⟩
 ·rw[yj]
  refine bh.2 fun j hj=>?_
  have hj:j<s.q.length:=bI.1 hj;simp_all [nth,bh,eD]
 ·rw[yj]
  refine bh.2 fun j hj=>?_
  have hj:j<s.ps.length:=bI.1 hj;simp_all [nth,bh,eD]
theorem ag3(s:oO):sQ s.kind s.num (len s.q) (mO (nth s.q)) (len s.ps) (mO (nth s.ps))=s:=by
 show (⟨s.kind,s.num,lst Int s.q.length (mO (nth s.q)),lst Pr s.ps.length (mO (nth s.ps))⟩:oO)=s;rw[zA,zA]
theorem aeV{s:oO}(h:DU s=ah):(Bz s).length<=100001/\∀x∈Bz s,x.length<=50:=by
 unfold DU at h;simp only[ak,decide_eq_true_eq] at h;obtain ⟨⟨⟨⟨h1,h2⟩,h3⟩,h4⟩,h5⟩:=h;unfold Bz;refine ⟨?_,fun x hx=>?_⟩
 ·grind
 ·rcases fD.1 hx with rfl|hx
  ·exact X0 _
  ·split at hx
   ·grind [Dj]
   ·split at hx
    ·grind [Dj]
    grind [aaO]
theorem akl{s:oO}(h:DU s=ah):(keyS s).length<=6000000:=by
 obtain ⟨h1,h2⟩:=aeV h;have h3:=TK (Bz s) [32] h2;grind [Bz,ba,keyS]
theorem aeW{l:List oO}(hl:l.length<=1000)(h:∀s∈l,DU s=ah):zJ (rJ (l.map keyS) [59,32])=ah:=by
 have h3:=TK (l.map keyS) [59,32] (m:=6000000) fun x hx=>by
  grind [akl]
 have h4:(l.map keyS).length*(6000000+[(59:UInt8),32].length)<=1000*6000002:=ba _ (by grind);exact decide_eq_true (by omega)
end Go.Pl
namespace Go.Proofs
open Go Go.Sx Go.Pl
theorem avh:nD ai (nJ W7) 75 (G35 LK):=O35.mono fun H nY args φ hr h=>by
 unfold G35 at h;split at h
 ·split at h
  ·rename_i s2 s3 a hh b l hs2 hs3
   obtain ⟨h1,hφ⟩:=h;simp only[Va,ak] at h1;obtain ⟨⟨⟨⟨⟨⟨q1,q2⟩,q3⟩,q4⟩,q5⟩,q6⟩,q7⟩:=h1;simp only[F35,hs2,hs3];exact ⟨q1,q2,q3,q4,q5,q6,q7,hφ⟩
  ·exact h.elim
 ·exact h.elim
theorem avi:nD ai (nJ W7) 76 (G56 LK):=fun H w nY args φ on hg hr h=>by
 unfold G56 at h;split at h
 ·rename_i s0 sep
  split at h
  ·rename_i n g hs
   obtain ⟨h1,hφ⟩:=h;simp only[X5,ak] at h1;match args,hr with
   |[v,u],⟨hv,hu,_⟩=>exact O56 H w [.sl 1 n g,.str sep] [v,u] φ on hg ⟨nZ hs hv,hu,trivial⟩ ⟨h1.1.1,h1.1.2,h1.2,hφ⟩
  ·exact h.elim
 ·exact h.elim
theorem O64:nD ai (nJ W7) 83 F64:=by
 refine pJ (Eu mZ) 300 400 L0 Tryz.f83 fun H w nY args φ hrep h=>?_
 have hn:Tryz.f83.ntmps=10:=by kernel_rfl
 unfold F64 at h;split at h
 ·rename_i s0
  split at h
  ·rename_i n g hs
   obtain ⟨h1,hφ⟩:=h;match args,hrep with
   |[v],⟨hv,_⟩=>
    refine ⟨[.agg [.sl 4 n g]],⟨EO hv fun u hu=>nZ hs hu,trivial⟩,?_⟩;rw[hn,a64 mM W7 n g,Jy,TD,XU];exact ⟨le0 n,h1,h1,nP (s':=.sl 4 n g) (.inr ⟨rfl,rfl,fun _ _=>rfl⟩) hφ⟩
  ·exact h.elim
 ·exact h.elim
theorem OKs:∀g F,Ee LK g=ae F->nD ai (nJ W7) g F:=fun g F h=>by
 unfold Ee at h;grind [avh,avi,O64]
theorem aeX(stop:Nat->List Nat->Bool):oD ai (C7 mM W7 (Ee LK) stop):=cO OKs fun g h=>by
 unfold Ee at h;split at h;all_goals first|(cases h;done) |kernel_rfl
theorem nd7:LQ fi=ah:=by kernel_rfl
noncomputable def F32:List Sh->Tree Sh
 |[.agg [s0]]=>match qp 4 s0 with
  |some (n,g)=>.need (stB n g) (.need (keysB n (tH n g)) (.leaf (.str (aaS ((aD n).map (tH n g)))))) |none=>.fail
 |_=>.fail
section
variable{H0:Mem}{w0:World}{φ:Sh->Prop}{n:Nat}{d:Nat->oO}
theorem aiR(hn:n<=1000)(hd:∀j,j<n->DU (d j)=ah)(hφ:φ (.str (aaS ((aD n).map d)))){l:Nat}:∀r k,k+r=n->0<k->
  wL ai (C7 mM W7 (Ee LK) mZ) (K0 H0 w0) 98 ao Oi (X6 n d l (k:Int) k (mO (nth (((aD k).map d).map keyS))) ag) (VH l) φ
 |r,k,hkr,h0=>by
  refine U7 (fn:=io) (tb:=aiQ) (by kernel_rfl) (by kernel_rfl) ?_;refine Gp (dC _ _) (aeX _) nd7 (pause:=DL) (m:=300) (n:=800) (ts:=[⟨98,ao,Oi,X6 n d l ((k+1:Nat):Int) (k+1) (mO (nth (((aD (k+1)).map d).map keyS))) ag,VH l⟩]) ?_;refine (congrArg (Nv _) (avg mM W7 LK n d l k (k+1:Nat) k (k+1) (mO (nth (((aD k).map d).map keyS))) (mO (nth (((aD (k+1)).map d).map keyS))))).mpr ?_;rw[FH];have hlen:(((aD k).map d).map keyS).length=k:=by simp
  simp only[mW,nN,oZ,rP,zi,bm,XV];rw[ag3 (d k)];refine ⟨fun h=>?_,fun h=>?_⟩
  ·have hlt:k<n:=by simp_all
   have hk:=aeU (hd k hlt);have hr:mM.room (k+1) 16=ah:=room_le (by omega) (by omega);have hin:decide (0<=(k:Int)/\(k:Int)<(n:Int))=ah:=by simp;omega
   have hw:az.wrap ((k:Int)+1)=((k+1:Nat):Int):=by grind [pF]
   have hs:∀i,i<k+1->mM.snoc (mO (nth (((aD k).map d).map keyS))) k (nM [[.str (keyS (d k))]]) i=mO (nth (((aD (k+1)).map d).map keyS)) i:=fun i hi=>by
    have:=Iz (((aD k).map d).map keyS) (keyS (d k)) (r:=[[.str (keyS (d k))]]) rfl i (by omega);simp_all [List.range_succ,List.map_append]
   have next:∃t:Iu,([⟨98,ao,Oi,X6 n d l ((k+1:Nat):Int) (k+1) (mO (nth (((aD (k+1)).map d).map keyS))) ag,VH l⟩]:List Iu)[0]?=ae t/\wL ai (C7 mM W7 (Ee LK) mZ) (K0 H0 w0) t.g t.r t.td t.c t.stk φ:=by
    match r,hkr with
    |0,hkr=>omega |r+1,hkr=>exact ⟨_,rfl,aiR hn hd hφ r (k+1) (by omega) (by omega)⟩
   repeat' (first|exact trivial|exact next|exact hk|exact hr|exact hin|exact hw|exact hs|exact rfl|refine aW ?_ ?_)
  ·have hk:k=n:=by grind
   subst hk;have e:lst (List UInt8) k (mO (nth (((aD k).map d).map keyS)))=((aD k).map d).map keyS:=aci _ hlen;have hsh:zJ (rJ (((aD k).map d).map keyS) [59,32])=ah:=aeW (by grind) fun s hs=>by
    grind
   refine ⟨?_,?_⟩
   ·simp only[X5,ak]
    grind [o9,room_le]
   ·show φ (.str (rJ (lst (List UInt8) k (mO (nth (((aD k).map d).map keyS)))) [59,32]))
    rw[e];exact hφ
end
theorem O32:nD ai (nJ W7) 57 F32:=by
 refine ap0 (C:=C7 mM W7 (Ee LK) mZ) (dC _ _) (fn:=gy) (by kernel_rfl) (by kernel_rfl) fun H w nY args φ hrep h=>?_
 have hn:gy.ntmps=17:=by kernel_rfl
 unfold F32 at h;split at h
 ·rename_i s0
  split at h
  ·rename_i n g hs
   obtain ⟨h1,h2,hφ⟩:=h;match args,hrep with
   |[v],⟨hv,_⟩=>
    refine ⟨[.agg [.sl 4 n (pY (tH n g))]],⟨EO hv fun u hu=>qN (nZ hs hu) (Jz h1),trivial⟩,L0,?_⟩;generalize tH n g=d at *;have hφ:φ (.str (aaS ((aD n).map d))):=hφ;simp only[keysB,ak,decide_eq_true_eq] at h2;obtain ⟨h2,h3⟩:=h2;have hd:=xH h3;refine Gp (dC _ _) (aeX _) nd7 (pause:=DL) (m:=300) (n:=800) (ts:=[⟨57,ao,.code aeR::k32,L32 n d,[]⟩]) ?_;rw[hn,a32 mM W7 LK n d,FH];refine ⟨⟨rfl,trivial⟩,_,rfl,?_⟩;refine acd (dC _ _) (aeX _) (fn:=gy) (vX:=io) (g2:=98) (caps:=[.ptr 1 0]) (by kernel_rfl) (x:=.tmp 7) (ps:=#[8,9]) (ca:=oh (nC gy) (0::aeR)) (cb:=oh (nC gy) (1::aeR)) (by kernel_rfl) (by kernel_rfl) (by kernel_rfl) (by kernel_rfl) fun l=>?_
    have hn63:io.ntmps=20:=by kernel_rfl
    rw[hn63];refine Gp (dC _ _) (aeX _) nd7 (pause:=DL) (m:=300) (n:=800) (ts:=[⟨98,ao,Oi,X6 n d l ((0:Nat):Int) 0 noT ah,VH l⟩]) ?_;refine (congrArg (Nv _) (t32 mM W7 LK n d l ((0:Nat):Int) 0 noT)).mpr ?_;rw[FH];refine ⟨room_le (by omega) (by omega),?_,_,rfl,?_⟩
    ·repeat' (first|exact trivial|exact rfl|exact fun _ _=>rfl|refine aW ?_ ?_)
    refine U7 (fn:=io) (tb:=aiQ) (by kernel_rfl) (by kernel_rfl) ?_;refine Gp (dC _ _) (aeX _) nd7 (pause:=DL) (m:=300) (n:=800) (ts:=[⟨98,ao,Oi,X6 n d l ((1:Nat):Int) 1 (mO (nth (((aD 1).map d).map keyS))) ag,VH l⟩]) ?_;refine (congrArg (Nv _) (avf mM W7 LK n d l ((0:Nat):Int) ((1:Nat):Int) 0 1 noT (mO (nth (((aD 1).map d).map keyS))))).mpr ?_;rw[FH];simp only[mW,nN,oZ,rP,zi,bm];rw[ag3 (d 0)];refine ⟨fun h=>?_,fun h=>?_⟩
    ·have hlt:0<n:=by simp_all
     have hk:=aeU (hd 0 hlt);have hin:decide (0<=((0:Nat):Int)/\((0:Nat):Int)<(n:Int))=ah:=by simp;omega
     have hw:az.wrap (((0:Nat):Int)+1)=((1:Nat):Int):=by rfl
     have hs:∀i,i<1->nM [[.str (keyS (d 0))]] i=mO (nth (((aD 1).map d).map keyS)) i:=fun i hi=>by
      obtain rfl:i=0:=by omega
      rfl
     have next:∃t:Iu,([⟨98,ao,Oi,X6 n d l ((1:Nat):Int) 1 (mO (nth (((aD 1).map d).map keyS))) ag,VH l⟩]:List Iu)[0]?=ae t/\wL ai (C7 mM W7 (Ee LK) mZ) (K0 H w) t.g t.r t.td t.c t.stk φ:=
      ⟨_,rfl,aiR h2 hd hφ (n - 1) 1 (by omega) (by omega)⟩
     repeat' (first|exact trivial|exact next|exact hk|exact hin|exact hw|exact hs|exact rfl|refine aW ?_ ?_)
    ·have:n=0:=by simp_all
     subst this;refine ⟨rfl,hφ⟩
  ·exact h.elim
 ·exact h.elim
end Go.Proofs
namespace Go.Sx
@[irreducible] def oP (ψ:pI->Prop) (t:Tree pI):Prop:=t.All ψ
theorem qc(ψ:pI->Prop)(t:Tree pI):oP ψ t=t.All ψ:=by unfold oP;rfl
theorem EG{P:Program}{C:Ctx}{H0:Mem}{w0:World}[hC:oC P C](hold:Nat->Bool)(hF:oD P C)(m n:Nat)(ts:List zx){g:Nat}{td:List It}{c:Core}{stk:List Fr}{R:Hp->Prop}{φ:Sh->Prop}
  (h:oP (yc P C (K0 H0 w0) ts R φ) (nR C hold m n g td c stk ts)):mY P C (K0 H0 w0) g td c stk R φ:=pK _ hF _ _ _ (by rw[qc] at h;exact h) (hC:=hC)
theorem qg{P:Program}{C:Ctx}{H0:Mem}{w0:World}[hC:oC P C](hF:oD P C)(m n:Nat)(ts:List zx){g:Nat}{td:List It}{c:Core}{stk:List Fr}{R:Hp->Prop}{φ:Sh->Prop}(h:oP (yc P C (K0 H0 w0) ts R φ) (nR C qm m n g td c stk ts)):mY P C (K0 H0 w0) g td c stk R φ:=EG _ hF m n ts h
end Go.Sx
namespace Go.Pl
theorem MB{b:Bool}{P:Prop}(h:b=ag)(h2:b=ah):P:=by simp_all
end Go.Pl
namespace Go.Proofs
open Go Go.Sx Go.Pl
theorem X7{P:Program}{gls:List (Nat×Sh)}{g:Nat}{F G:List Sh->Tree Sh}(hF:nD P gls g F)(h:∀(nY:List Sh) (φ:Sh->Prop),(G nY).All φ->∃s':Sh,φ s'/\(F nY).All fun s=>Wk s s'):nD P gls g G:=by
 intro H w nY args φ hon hg hr hφ;obtain ⟨s',h1,h2⟩:=h nY φ hφ;refine (hF H w nY args _ hon hg hr h2).mono fun e w' ⟨v,s,H',he,hs,r⟩=>?_;obtain ⟨H2,r2⟩:=r.wk hs;grind
theorem Af{H:Mem}{k:IntKind}{n:Int}{v:Value}(h:Rep H (.i k n) v):Rep H (.v (.int k n)) v:=by
 cases h;exact .v _ rfl
theorem anc{st n:Nat}{g:Nat->List Sh}:Wk (.sl st n g) (.sl st n g):=.inr ⟨rfl,rfl,fun _ _=>rfl⟩
theorem add1{j:Nat}(h:j<=100000):mM.add .i64 (j:Int) (ab 1)=((j+1:Nat):Int):=by
 show az.wrap ((j:Int)+1)=_;grind [pF]
end Go.Proofs
namespace Go.Sx
def oM.dg:oM->oM
 | .int a _=>.int a a | .nat a _=>.nat a a | .bool a _=>.bool a a | .str a _=>.str a a | .val a _=>.val a a | .sh a _=>.sh a a | .get n g _=>.get n g g | .Gf g _=>.Gf g g | .mp M _=>.mp M M | .mg M _=>.mg M M
theorem Ny:∀l:List oM,bi (l.map oM.dg)
 |[]=>trivial |e::l=>⟨by cases e<;>first|rfl|exact fun _ _=>rfl,Ny l⟩
def Tree.dg{α:Type}:Tree α->Tree α
 | .leaf a=>.leaf a | .node b t f=>.node b t.dg f.dg | .need b t=>.need b t.dg | .must l t=>.must (l.map oM.dg) t.dg | .both t f=>.both t.dg f.dg | .fail=>.fail
def Tree.Vb{α:Type}(φ:α->Prop):Tree α->Prop
 | .leaf a=>φ a | .node b t f=>(b=ah->t.Vb φ)/\(b=ag->f.Vb φ) | .need b t=>b=ah/\t.Vb φ | .must _ t=>t.Vb φ | .both t f=>t.Vb φ/\f.Vb φ | .fail=>False
theorem Tree.X8{α:Type}{φ:α->Prop}:∀{t:Tree α},t.Vb φ->t.dg.All φ
 | .leaf _,h=>h | .node _ _ _,h=>⟨fun e=>Tree.X8 (h.1 e),fun e=>Tree.X8 (h.2 e)⟩ | .need _ _,h=>⟨h.1,Tree.X8 h.2⟩ | .must l _,h=>⟨Ny l,Tree.X8 h⟩ | .both _ _,h=>⟨Tree.X8 h.1,Tree.X8 h.2⟩ | .fail,h=>h
theorem wH{P:Prop}{ψ:pI->Prop}{t:Tree pI}(k:P)(e:P=t.All ψ:=by kernel_rfl):oP ψ t:=by
 simp_all [qc]
theorem DV{P:Prop}{ψ:pI->Prop}{t:Tree pI}(k:P)(h:t.dg=t:=by kernel_rfl)(e:P=t.Vb ψ:=by kernel_rfl):oP ψ t:=by
 grind [qc,Tree.X8]
theorem nd(c:Bool){p q:Prop}(x:c=ah->p)(y:c=ag->q):(c=ah->p)/\(c=ag->q):=⟨x,y⟩
theorem an{a b:Prop}(x:a)(y:b):a/\b:=⟨x,y⟩
def pI.dg:pI->pI
 | .ret s=>.ret s | .at_ k l=>.at_ k (l.map oM.dg)
def Tree.dgE:Tree pI->Tree pI
 | .leaf a=>.leaf a.dg | .node b t f=>.node b t.dgE f.dgE | .need b t=>.need b t.dgE | .must l t=>.must (l.map oM.dg) t.dgE | .both t f=>.both t.dgE f.dgE | .fail=>.fail
def Tree.MC(χ:Sh->Prop)(ξ:Nat->Prop):Tree pI->Prop
 | .leaf (.ret s)=>χ s | .leaf (.at_ k _)=>ξ k | .node b t f=>(b=ah->t.MC χ ξ)/\(b=ag->f.MC χ ξ) | .need b t=>b=ah/\t.MC χ ξ | .must _ t=>t.MC χ ξ | .both t f=>t.MC χ ξ/\f.MC χ ξ | .fail=>False
theorem Tree.Vd{χ:Sh->Prop}{ξ:Nat->Prop}{ψ:pI->Prop}(h1:∀s,χ s->ψ (.ret s))(h2:∀k l,bi l->ξ k->ψ (.at_ k l)):∀{t:Tree pI},t.MC χ ξ->t.dgE.All ψ
 | .leaf (.ret s),h=>h1 s h | .leaf (.at_ k l),h=>h2 k _ (Ny l) h | .node _ _ _,h=>⟨fun e=>Tree.Vd h1 h2 (h.1 e),fun e=>Tree.Vd h1 h2 (h.2 e)⟩ | .need _ _,h=>⟨h.1,Tree.Vd h1 h2 h.2⟩ | .must l _,h=>⟨Ny l,Tree.Vd h1 h2 h⟩ | .both _ _,h=>⟨Tree.Vd h1 h2 h.1,Tree.Vd h1 h2 h.2⟩ | .fail,h=>h
section
variable{P:Program}{C:Ctx}{K:Kx}{φ:Sh->Prop}
def atS(P:Program)(C:Ctx)(K:Kx)(R:Hp->Prop)(φ:Sh->Prop)(ts:List zx)(k:Nat):Prop:=match ts[k]? with
 |some t=>mY P C K t.g t.td t.c t.stk R φ |none=>False
theorem rQ{Q:Prop}{R:Hp->Prop}{ts:List zx}{t:Tree pI}(k:Q)(h:t.dgE=t:=by kernel_rfl)(e:Q=t.MC φ (atS P C K R φ ts):=by kernel_rfl):oP (yc P C K ts R φ) t:=by
 rw[qc,<-h];refine Tree.Vd (fun s x=>x) (fun k l hl x=>?_) (e ▸ k:t.MC φ (atS P C K R φ ts));unfold atS at x;split at x
 ·rename_i t' ht
  exact ⟨hl,t',ht,x⟩
 grind
end
def Tree.vT{α:Type}[Inhabited α](d:Sh->Option α):Tree pI->α
 | .leaf (.ret s)=>(d s).getD default | .node b t f=>bif b then t.vT d else f.vT d | .must _ t| .need _ t=>t.vT d |_=>default
def Tree.DU{α:Type}(d:Sh->Option α):Tree pI->Bool
 | .leaf (.ret s)=>(d s).isSome | .node b t f=>(t.DU d || !b)&&(f.DU d||b) | .must _ t=>t.DU d | .need b t=>b&&t.DU d |_=>ag
section
variable{α:Type}[Inhabited α]{d:Sh->Option α}{u:α->Sh}{ψ:pI->Prop}
theorem Tree.allT(hd:∀{s c},d s=ae c->s=u c):∀{t:Tree pI},t.DU d=ah->ψ (.ret (u (t.vT d)))->t.dg.All ψ
 | .leaf (.ret s),o,h=>by
  obtain ⟨c,hc⟩:=Option.isSome_iff_exists.1 o;have e:s=u ((d s).getD default):=by rw[hc];exact hd hc
  show ψ (.ret s);rw[e];exact h
 | .node b t f,o,h=>by
  have o:((t.DU d || !b)&&(f.DU d||b))=ah:=o;rw[ak] at o;exact ⟨fun e=>Tree.allT hd (by subst e;simpa using o.1) (by subst e;exact h),fun e=>Tree.allT hd (by subst e;simpa using o.2) (by subst e;exact h)⟩
 | .must l t,o,h=>⟨Ny l,Tree.allT hd (t:=t) o h⟩ | .need b t,o,h=>by
  have o:(b&&t.DU d)=ah:=o;rw[ak] at o;exact ⟨o.1,Tree.allT hd (t:=t) o.2 h⟩
def Ans(d:Sh->Option α)(t:Tree pI)(c:α):Prop:=t.dg=t/\t.DU d=ah/\t.vT d=c
theorem aaT(hd:∀{s c},d s=ae c->s=u c){t:Tree pI}{c:α}(k:ψ (.ret (u c)))(h:Ans d t c):oP ψ t:=by
 obtain ⟨h,o,rfl⟩:=h;rw[qc,<-h];exact Tree.allT hd o k
end
def dI:Sh->Option Int
 | .i .i64 c=>ae c |_=>ao
def dB:Sh->Option Bool
 | .b c=>ae c |_=>ao
theorem ag4{s:Sh}{c:Int}(h:dI s=ae c):s=.i .i64 c:=by
 unfold dI at h;split at h<;>cases h;rfl
theorem ag5{s:Sh}{c:Bool}(h:dB s=ae c):s=.b c:=by
 unfold dB at h;split at h<;>cases h;rfl
theorem ane{ψ:pI->Prop}{t:Tree pI}(c:Int)(k:ψ (.ret (.i .i64 c)))(h:t.dg=t:=by kernel_rfl)(o:t.DU dI=ah:=by kernel_rfl)(e:t.vT dI=c:=by kernel_rfl):oP ψ t:=aaT ag4 k ⟨h,o,e⟩
theorem arD{ψ:pI->Prop}{t:Tree pI}(c:Bool)(k:ψ (.ret (.b c)))(h:t.dg=t:=by kernel_rfl)(o:t.DU dB=ah:=by kernel_rfl)(e:t.vT dB=c:=by kernel_rfl):oP ψ t:=aaT ag5 k ⟨h,o,e⟩
def Tree.go:Tree pI->List Bool->Tree pI
 | .must _ t,l| .need _ t,l=>t.go l | .node _ t f,b::l=>(bif b then t.go l else f.go l) |t,_=>t
def Tree.asks:Tree pI->List Bool->List Bool
 | .must _ t,l| .need _ t,l=>t.asks l | .node c t f,b::l=>c::(bif b then t.asks l else f.asks l) |_,_=>[]
def Tree.eqs:Tree pI->List Bool->Bool×List oM
 | .must m t,l=>((t.eqs l).1,m++(t.eqs l).2) | .need c t,l=>(c&&(t.eqs l).1,(t.eqs l).2) | .node _ t f,b::l=>(bif b then t.eqs l else f.eqs l) |_,_=>(ah,[])
theorem Q7:∀{l m:List oM},bi (l++m)->bi l/\bi m
 |[],_,h=>⟨trivial,h⟩ |_::_,_,h=>⟨⟨h.1,(Q7 h.2).1⟩,(Q7 h.2).2⟩
theorem Tree.Q8{ψ:pI->Prop}:∀{t:Tree pI} {l:List Bool},t.asks l=l->(t.eqs l).1=ah->bi (t.eqs l).2->(t.go l).All ψ->t.All ψ
 | .must m t,l,a,n,e,h=>⟨(Q7 e).1,Tree.Q8 (t:=t) a n (Q7 e).2 h⟩ | .need c t,l,a,n,e,h=>by
  have n:(c&&(t.eqs l).1)=ah:=n;rw[ak] at n;exact ⟨n.1,Tree.Q8 (t:=t) a n.2 e h⟩
 | .node c t f,[],a,n,e,h=>h | .node c t f,b::l,a,n,e,h=>by
  obtain ⟨rfl,a⟩:=List.cons.inj a;cases c
  ·exact ⟨fun q=>(by cases q),fun _=>Tree.Q8 (t:=f) a n e h⟩
  ·exact ⟨fun _=>Tree.Q8 (t:=t) a n e h,fun q=>by cases q⟩
 | .leaf _,l,a,n,e,h| .both _ _,l,a,n,e,h| .fail,l,a,n,e,h=>by cases l<;>exact h
theorem Q9{ψ:pI->Prop}{t:Tree pI}{s:Sh}(l cs:List Bool)(hc:cs=l)(k:ψ (.ret s))(ha:t.asks l=cs:=by kernel_rfl)(hg:t.go l=.leaf (.ret s):=by kernel_rfl)
  (hn:(t.eqs l).1=ah:=by kernel_rfl) (he:(t.eqs l).2.map oM.dg=(t.eqs l).2:=by kernel_rfl):oP ψ t:=by
 rw[qc];exact Tree.Q8 (ha.trans hc) hn (he ▸ Ny _) (by rw[hg];exact k)
end Go.Sx
