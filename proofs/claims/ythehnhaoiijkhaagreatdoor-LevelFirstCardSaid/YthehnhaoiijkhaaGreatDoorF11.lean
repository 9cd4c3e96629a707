/- Own work. -/
import Derived.Test.YthehnhaoiijkhaaGreatDoorF10
open Int (ofNat)
open Array renaming getElem?_eq_some_iff->bK
open Bool renaming true->aC,false->ay
open Classical renaming byContradiction->yF
open Go.IntKind renaming i64->aU,wrap_i64->gZ
open Go.Proofs renaming W7->pY
open Go.Proofs.Tryz renaming prog->aA,f102->lS,f122->dn,f99->jB,f101->bH,f100->nH,f77->iF,f128->nI
open Go.zM renaming W5->jh
open Go.zM.C5 renaming ok->mO
open Go.Sx.AQ renaming int->aj,all->cu,ok->gY,sh->aP,nat->aJ,get->aQ,mp->bI,Nz->aZ,val->jH
open Go.Sx.DF renaming ret->aS,at_->bJ
open Go.Sx.Fin renaming ret->aN
open Go.Sx.It renaming code->bF,inBlock->bZ
open Go.Sx.SV renaming sh->dH,CS->fH
open Go.Sx.Sh renaming er->aW,v->iW,BM->mZ,pt->qo,i->aT,sl->aI,b->gG
open Go.Sx.Tree renaming node->aF,need->aH,leaf->aB,All->eY,must->aO,fail->cO
open Go.Value renaming nilIface->bG,pointer->fG
open Int renaming ofNat->ah,negSucc->dZ,toNat_natCast->fB
open List renaming range->aY,getElem?_eq_getElem->aV,getElem?_eq_some_iff->bW
open Option renaming some->ak,none->aK
namespace Go.AL
open Go Go.Sx
def Ak:Sh->Option Int
 | .i .i64 c=>ak c | .v (.int .i64 c)=>ak c |_=>aK
def Yq(t:Int):Nat×Nat:=
 bif t==1 then (16,4) else bif t==2 then (17,7) else bif t==3 then (18,9) else bif t==4 then (19,3) else bif t==5 then (20,4) else (21,4)
def idx(c:Int):Int:=aU.wrap ((if (0:Int)>c then 0 else c) - 1)
def Zz(m:Nat)(c:Int):Bool:=decide (0<=idx c/\idx c<(m:Int))
def BX(g m:Nat)(c:Int):List UInt8:=bif Zz m c then jh g (idx c).toNat else []
def Dc(c:Int):Int:=
 bif c==1 then 1 else bif c==2 then 1 else bif c==3 then 2 else bif c==4 then 2 else bif c==5 then 3 else bif c==6 then 3 else bif c==7 then 4 else bif c==8 then 4 else bif c==9 then 4 else 0
theorem Dn{H:Mem}{s:Sh}{c:Int}{v:Value}(h:Ak s=ak c)(r:Rep H s v):Rep H (.i .i64 c) v:=by
 unfold Ak at h;split at h
 ·simp_all
 ·cases h;cases r;exact .i _ _
 ·cases h
theorem U5{H:Mem}{s:Sh}{c:Int}{v:Value}(h:Ak s=ak c)(r:Rep H s v):Rep H (.v (.int .i64 c)) v:=by
 have:=Dn h r;cases this;exact .v _ rfl
end Go.AL
namespace Go.zM
open Go Go.Sx Go.AL
theorem axo:∀g F,BO g=ak F->zZ aA (EO W5) g F:=fun g F h=>by
 unfold BO at h;grind [O10,O11,O13,O14,O37]
theorem apd(stop:Nat->List Nat->Bool):AU aA (C5 zG W5 BO stop):=C5.O5 axo fun g h=>by
 unfold BO at h;split at h;all_goals first|(cases h;done) |kernel_rfl
theorem Jq{ψ:Int->Prop}{b:Bool}{x y:Int}(h:ψ (bif b then x else y)):(b=aC->ψ x)/\(b=ay->ψ y):=by
 grind
def F57:List Sh->Tree Sh
 |[s]=>match Ak s with
  |some c=>.leaf (.i .i64 (Dc c)) |none=>.fail
 |_=>.fail
theorem O57:zZ aA (EO W5) 102 F57:=by
 refine GL (C:=C5 zG W5 BO zW) (mO _ _) (apd _) (n:=300) (L:=L0) (fn:=lS) (by kernel_rfl) (by kernel_rfl) fun H w Aq args φ hrep h=>?_
 have hn:lS.ntmps=17:=by kernel_rfl
 unfold F57 at h;split at h
 ·rename_i s
  split at h
  ·rename_i c hc
   match args,hrep with
   |[v],⟨hv,_⟩=>
    refine ⟨[.i .i64 c],⟨Dn hc hv,trivial⟩,?_⟩;rw[hn,a57 zG W5 c];have h:φ (.i .i64 (Dc c)):=h;exact let h1:=Jq (ψ:=fun d=>φ (.i .i64 d)) h;⟨h1.1,fun q=>let h1:=Jq (ψ:=fun d=>φ (.i .i64 d)) (h1.2 q);⟨h1.1,fun q=>let h1:=Jq (ψ:=fun d=>φ (.i .i64 d)) (h1.2 q);⟨h1.1,fun q=>let h1:=Jq (ψ:=fun d=>φ (.i .i64 d)) (h1.2 q);⟨h1.1,fun q=>let h1:=Jq (ψ:=fun d=>φ (.i .i64 d)) (h1.2 q);⟨h1.1,fun q=>let h1:=Jq (ψ:=fun d=>φ (.i .i64 d)) (h1.2 q);⟨h1.1,fun q=>let h1:=Jq (ψ:=fun d=>φ (.i .i64 d)) (h1.2 q);⟨h1.1,fun q=>let h1:=Jq (ψ:=fun d=>φ (.i .i64 d)) (h1.2 q);⟨h1.1,fun q=>let h1:=Jq (ψ:=fun d=>φ (.i .i64 d)) (h1.2 q);⟨h1.1,fun q=>h1.2 q⟩⟩⟩⟩⟩⟩⟩⟩⟩
  ·exact h.elim
 ·exact h.elim
def F61:List Sh->Tree Sh
 |[s0,s]=>match Ak s0 with
  |some t=>match Ak s with
   |some c=>.need (decide (1<=t/\t<=6)) (.leaf (.str (BX (Yq t).1 (Yq t).2 c))) |none=>.fail
  |none=>.fail
 |_=>.fail
theorem Md{φ:Sh->Prop}{g m:Nat}{c:Int}{T:Prop}(h:φ (.str (BX g m c)))(hT:∀k:Nat,k<m->idx c=(k:Int)->φ (.str (W5 g k))->T):
  (zG.lt (zG.sub .i64 (zG.max c (ah 0)) (ah 1)) (ah 0)=aC->φ (.str []))/\
  (zG.lt (zG.sub .i64 (zG.max c (ah 0)) (ah 1)) (ah 0)=ay->(zG.le (ah m) (zG.sub .i64 (zG.max c (ah 0)) (ah 1))=aC->φ (.str []))/\
   (zG.le (ah m) (zG.sub .i64 (zG.max c (ah 0)) (ah 1))=ay->zG.inB (zG.sub .i64 (zG.max c (ah 0)) (ah 1)) m=aC/\T)):=by
 have he:zG.sub .i64 (zG.max c (ah 0)) (ah 1)=idx c:=rfl;rw[he,zN,Dy,AY];unfold BX at h;simp only[Int.ofNat_eq_natCast,decide_eq_true_eq,decide_eq_false_iff_not];grind [Zz]
def NZ(g:Nat)(i:Int):List Nat->Tree Fin
 |[]=>.fail |k::l=>.node (zG.eq i (ah k)) (.leaf (.ret (.str (W5 g k)))) (NZ g i l)
theorem IK{ψ:Fin->Prop}{g k:Nat}{i:Int}(e:i=(k:Int))(hψ:ψ (.ret (.str (W5 g k)))):∀l,k∈l->(NZ g i l).All ψ
 |[],h=>by cases h |a::l,h=>by
  refine ⟨fun q=>?_,fun q=>?_⟩
  ·rw[Ac,e] at q
   have:k=a:=by grind
   rw[<-this];exact hψ
  ·rw[Ac,e] at q
   have:k≠a:=fun e=>by simp_all
   exact IK e hψ l ((List.mem_cons.1 h).resolve_left this)
@[irreducible] def CW (ψ:Fin->Prop) (t:Tree Fin):Prop:=t.All ψ
theorem Bj(ψ:Fin->Prop)(t:Tree Fin):t.All ψ=CW ψ t:=by unfold CW;rfl
theorem au0{H:Mem}{w:World}{φ:Sh->Prop}{c:Int}(h2:φ (.str (BX 16 4 c))):
  CW (Bc aA (C5 zG W5 BO zW) (K0 H w) dn φ) (Bv (C5 zG W5 BO zW) 300 122 [.code []] (zL 16 [.v (.int .i64 1),.i .i64 c] L0)):=by
 rw[auR zG W5 c,<-Bj];exact Md (T:=(NZ 16 (idx c) [0,1,2,3]).All (Bc aA (C5 zG W5 BO zW) (K0 H w) dn φ)) h2 fun k hk e hφ=>IK e hφ _ (by simp;omega)
theorem au1{H:Mem}{w:World}{φ:Sh->Prop}{c:Int}(h2:φ (.str (BX 17 7 c))):
  CW (Bc aA (C5 zG W5 BO zW) (K0 H w) dn φ) (Bv (C5 zG W5 BO zW) 300 122 [.code []] (zL 16 [.v (.int .i64 2),.i .i64 c] L0)):=by
 rw[auS zG W5 c,<-Bj];exact Md (T:=(NZ 17 (idx c) [0,1,2,3,4,5,6]).All (Bc aA (C5 zG W5 BO zW) (K0 H w) dn φ)) h2 fun k hk e hφ=>IK e hφ _ (by simp;omega)
theorem au2{H:Mem}{w:World}{φ:Sh->Prop}{c:Int}(h2:φ (.str (BX 18 9 c))):
  CW (Bc aA (C5 zG W5 BO zW) (K0 H w) dn φ) (Bv (C5 zG W5 BO zW) 300 122 [.code []] (zL 16 [.v (.int .i64 3),.i .i64 c] L0)):=by
 rw[auT zG W5 c,<-Bj];exact Md (T:=(NZ 18 (idx c) [0,1,2,3,4,5,6,7,8]).All (Bc aA (C5 zG W5 BO zW) (K0 H w) dn φ)) h2 fun k hk e hφ=>IK e hφ _ (by simp;omega)
theorem au3{H:Mem}{w:World}{φ:Sh->Prop}{c:Int}(h2:φ (.str (BX 19 3 c))):
  CW (Bc aA (C5 zG W5 BO zW) (K0 H w) dn φ) (Bv (C5 zG W5 BO zW) 300 122 [.code []] (zL 16 [.v (.int .i64 4),.i .i64 c] L0)):=by
 rw[auU zG W5 c,<-Bj];exact Md (T:=(NZ 19 (idx c) [0,1,2]).All (Bc aA (C5 zG W5 BO zW) (K0 H w) dn φ)) h2 fun k hk e hφ=>IK e hφ _ (by simp;omega)
theorem au4{H:Mem}{w:World}{φ:Sh->Prop}{c:Int}(h2:φ (.str (BX 20 4 c))):
  CW (Bc aA (C5 zG W5 BO zW) (K0 H w) dn φ) (Bv (C5 zG W5 BO zW) 300 122 [.code []] (zL 16 [.v (.int .i64 5),.i .i64 c] L0)):=by
 rw[auV zG W5 c,<-Bj];exact Md (T:=(NZ 20 (idx c) [0,1,2,3]).All (Bc aA (C5 zG W5 BO zW) (K0 H w) dn φ)) h2 fun k hk e hφ=>IK e hφ _ (by simp;omega)
theorem au5{H:Mem}{w:World}{φ:Sh->Prop}{c:Int}(h2:φ (.str (BX 21 4 c))):
  CW (Bc aA (C5 zG W5 BO zW) (K0 H w) dn φ) (Bv (C5 zG W5 BO zW) 300 122 [.code []] (zL 16 [.v (.int .i64 6),.i .i64 c] L0)):=by
 rw[auW zG W5 c,<-Bj];exact Md (T:=(NZ 21 (idx c) [0,1,2,3]).All (Bc aA (C5 zG W5 BO zW) (K0 H w) dn φ)) h2 fun k hk e hφ=>IK e hφ _ (by simp;omega)
theorem six{P:Int->Nat->Nat->Prop}(h1:P 1 16 4)(h2:P 2 17 7)(h3:P 3 18 9)(h4:P 4 19 3)(h5:P 5 20 4)(h6:P 6 21 4){t:Int}(ht:decide (1<=t/\t<=6)=aC):P t (Yq t).1 (Yq t).2:=by
 have ht:=of_decide_eq_true ht;have e:t=1\/t=2\/t=3\/t=4\/t=5\/t=6:=by omega
 rcases e with rfl|rfl|rfl|rfl|rfl|rfl
 ·exact h1
 ·exact h2
 ·exact h3
 ·exact h4
 ·exact h5
 ·exact h6
theorem w61{H:Mem}{w:World}{φ:Sh->Prop}{c t:Int}(ht:decide (1<=t/\t<=6)=aC)(h2:φ (.str (BX (Yq t).1 (Yq t).2 c))):
  CW (Bc aA (C5 zG W5 BO zW) (K0 H w) dn φ) (Bv (C5 zG W5 BO zW) 300 122 [.code []] (zL 16 [.v (.int .i64 t),.i .i64 c] L0)):=
 six (P:=fun t g m=>φ (.str (BX g m c))->CW (Bc aA (C5 zG W5 BO zW) (K0 H w) dn φ) (Bv (C5 zG W5 BO zW) 300 122 [.code []] (zL 16 [.v (.int .i64 t),.i .i64 c] L0))) au0 au1 au2 au3 au4 au5 ht h2
theorem O61:zZ aA (EO W5) 122 F61:=by
 refine GL (C:=C5 zG W5 BO zW) (mO _ _) (apd _) (n:=300) (L:=L0) (fn:=dn) (by kernel_rfl) (by kernel_rfl) fun H w Aq args φ hrep h=>?_
 have hn:dn.ntmps=16:=by kernel_rfl
 unfold F61 at h;split at h
 ·rename_i s0 s
  split at h
  ·rename_i t ht
   split at h
   ·rename_i c hc
    obtain ⟨h1,h2⟩:=h;match args,hrep with
    |[u,v],⟨hu,hv,_⟩=>
     refine ⟨[.v (.int .i64 t),.i .i64 c],⟨U5 ht hu,Dn hc hv,trivial⟩,?_⟩;rw[hn,Bj];exact w61 h1 h2
   ·exact h.elim
  ·exact h.elim
 ·exact h.elim
def Ae:Nat->Option (List Sh->Tree Sh)
 |102=>ak F57 |122=>ak F61 |_=>aK
theorem a54(A:Prim)(W:Wd)(x y:Int):Bv (C5 A W Ae zW) 300 99 [.code []] (zL 36 [.agg [.i .i64 x,.i .i64 y]] L0)=aF (A.eq x (ah 1)) (aH aC (aF (A.seq (BX 16 4 x) []) (aB (aN (aW 7 329))) (aF (A.lt y (dZ 999999999)) (aB (aN (aW 7 329))) (aF (A.lt (ah 1000000000) y) (aB (aN (aW 7 329))) (aB (aN (iW bG))))))) (aH aC (aF (A.seq (BX 16 4 x) []) (aB (aN (aW 7 329))) (aF (A.lt y (dZ 999999999)) (aB (aN (aW 7 329))) (aF (A.lt (ah 1000000000) y) (aB (aN (aW 7 329))) (aF (A.nt (A.eq x (ah 2))) (aF (A.nt (A.eq y (ah 0))) (aB (aN (aW 7 329))) (aB (aN (iW bG)))) (aB (aN (iW bG)))))))):=by kernel_rfl
theorem a55(A:Prim)(W:Wd)(x:Int)(e:Nat):Bv (C5 A W Ae zW) 300 100 [.code []] (zL 10 [.i .i64 x,.er e 329] L0)=aB (aN (mZ 109 (qo [aT .i64 x,aW e 329]))):=by kernel_rfl
end Go.zM
namespace Go.AL
open Go Go.Sx
def abN(k i:Int):Bool:=Zz 4 k && !decide (i < -1000000000) && !decide (1000000000<i)&&(k==1||k==2||i==0)
theorem Po{g m:Nat}{c:Int}(h:∀k,k<m->jh g k≠[]):zG.seq (BX g m c) []=!Zz m c:=by
 rw[X5];unfold BX;cases hi:Zz m c with
 |true=>
  have hi:=of_decide_eq_true hi;have:=h (idx c).toNat (by omega);simpa using this
 |false=>rfl
theorem axp:∀k,k<4->jh 16 k≠[]:=fun k hk=>by
 obtain rfl|rfl|rfl|rfl:k=0\/k=1\/k=2\/k=3:=by omega
 all_goals simp[jh,pY]
theorem akY:∀k,k<3->jh 19 k≠[]:=fun k hk=>by
 obtain rfl|rfl|rfl:k=0\/k=1\/k=2:=by omega
 all_goals simp[jh,pY]
end Go.AL
namespace Go.zM
open Go Go.Sx Go.AL
theorem axq:∀g F,Ae g=ak F->zZ aA (EO W5) g F:=fun g F h=>by
 unfold Ae at h;split at h
 ·cases h;exact O57
 ·cases h;exact O61
 ·cases h
theorem ae7(stop:Nat->List Nat->Bool):AU aA (C5 zG W5 Ae stop):=C5.O5 axq fun g h=>by
 unfold Ae at h;split at h;all_goals first|(cases h;done) |kernel_rfl
def F54:List Sh->Tree Sh
 |[.agg [s,s']]=>match Ak s with
  |some k=>match Ak s' with
   |some i=>.node (abN k i) (.leaf (.v .nilIface)) (.leaf (.er 7 329)) |none=>.fail
  |none=>.fail
 |_=>.fail
theorem X6{H:Mem}{s s' t t':Sh}{v:Value}(hv:Rep H (.agg [s,s']) v)(h1:∀u,Rep H s u->Rep H t u)(h2:∀u,Rep H s' u->Rep H t' u):Rep H (.agg [t,t']) v:=by
 cases hv with
 |agg _ vs h3 h4=>
  refine .agg _ vs h3 fun j s0 v' e1 e2=>?_
  match j,e1 with
  |0,e1=>simp at e1;subst e1;exact h1 _ (h4 0 _ v' rfl e2) |1,e1=>simp at e1;subst e1;exact h2 _ (h4 1 _ v' rfl e2) |j+2,e1=>simp at e1
theorem apf{φ:Sh->Prop}{x y:Int}(hT:abN x y=aC->φ (.v .nilIface))(hF:abN x y=ay->φ (.er 7 329)){H:Mem}{w:World}:
  CW (Bc aA (C5 zG W5 Ae zW) (K0 H w) jB φ) (Bv (C5 zG W5 Ae zW) 300 99 [.code []] (zL 36 [.agg [.i .i64 x,.i .i64 y]] L0)):=by
 rw[a54 zG W5 x y,<-Bj,Po axp];unfold abN at hT hF;simp only[eY,Bc,Ac,zN,Bh];cases h1:Zz 4 x<;>simp[h1] at hT hF ⊢
 ·exact hF
 ·refine ⟨fun e1=>⟨fun e=>hF fun q=>absurd q (by omega),fun e=>⟨fun e'=>hF fun _ q=>absurd q (by omega),fun e'=>hT e e' (.inl (.inl e1))⟩⟩,fun e1=>⟨fun e=>hF fun q=>absurd q (by omega),fun e=>⟨fun e'=>hF fun _ q=>absurd q (by omega),fun e'=>⟨fun e2=>⟨fun e3=>hF fun _ _=>⟨⟨e1,e2⟩,e3⟩,fun e3=>hT e e' (.inr e3)⟩,fun e2=>hT e e' (.inl (.inr e2))⟩⟩⟩⟩
theorem O54:zZ aA (EO W5) 99 F54:=by
 refine GL (C:=C5 zG W5 Ae zW) (mO _ _) (ae7 _) (n:=300) (L:=L0) (fn:=jB) (by kernel_rfl) (by kernel_rfl) fun H w Aq args φ hrep h=>?_
 have hn:jB.ntmps=36:=by kernel_rfl
 unfold F54 at h;split at h
 ·rename_i s s'
  split at h
  ·rename_i k hk
   split at h
   ·rename_i i hi
    obtain ⟨h1,h2⟩:=h;match args,hrep with
    |[u],⟨hu,_⟩=>
     refine ⟨[.agg [.i .i64 k,.i .i64 i]],⟨X6 hu (fun _=>Dn hk) (fun _=>Dn hi),trivial⟩,?_⟩;rw[hn,Bj];exact apf h1 h2
   ·exact h.elim
  ·exact h.elim
 ·exact h.elim
def il(n:Int):Sh:=.v (.int .i64 n)
def sy(n:Int):Sh:=.i .i64 n
def Ir:Nat->List Nat->Bool:=fun g _=>Nat.beq g 101
def dead:Tree Fin->Tree Fin
 | .leaf (.ret s)=>.leaf (.ret s) | .leaf (.stop _ _)=>.fail | .node b t f=>.node b (dead t) (dead f) | .need b t=>.need b (dead t) | .must l t=>.must l (dead t) | .both t f=>.both (dead t) (dead f) | .fail=>.fail
theorem Nq{ψ:Fin->Prop}:∀{t:Tree Fin},(dead t).All ψ->t.All ψ
 | .leaf (.ret _),h=>h | .leaf (.stop _ _),h=>h.elim | .node _ _ _,h=>⟨fun q=>Nq (h.1 q),fun q=>Nq (h.2 q)⟩ | .need _ _,h=>⟨h.1,Nq h.2⟩ | .must _ _,h=>⟨h.1,Nq h.2⟩ | .both _ _,h=>⟨Nq h.1,Nq h.2⟩ | .fail,h=>h
theorem au6(A:Prim)(W:Wd)(_k x t o p y v r:Int):Bv (C5 A W Ae zV) 3000 101 [.code []] (zL 75 [.agg [il 1,sy x,sy t,sy o,sy p,sy y,sy v,sy r]] L0)=aO [aj x x,aj t t,aj o o,aj p p,aj y y,aj v v,aj r r] (aO [aj x x,aj t t,aj o o,aj p p,aj y y,aj v v,aj r r] (aO [aj x x,aj t t,aj o o,aj p p,aj y y,aj v v,aj r r] (aO [aj x x,aj t t,aj o o,aj p p,aj y y,aj v v,aj r r] (aF (A.lt x (ah 1)) (aB (aN (aW 15 329))) (aF (A.lt (ah 1000) x) (aB (aN (aW 15 329))) (aF (A.lt t (ah 0)) (aB (aN (aW 15 329))) (aF (A.lt (ah 7) t) (aB (aN (aW 15 329))) (aF (A.nt (A.ite (A.eq (ah 0) (ah 0)) (A.ite (A.eq (ah 0) (ah 0)) (A.ite (A.eq (ah 0) (ah 0)) (A.ite (A.eq o (ah 0)) (A.ite (A.eq p (ah 0)) (A.ite (A.eq y (ah 0)) (A.ite (A.eq v (ah 0)) (A.ite (A.eq r (ah 0)) aC ay) ay) ay) ay) ay) ay) ay) ay)) (aB (aN (aW 15 329))) (aB (aN (iW bG))))))))))):=by kernel_rfl
theorem au7(A:Prim)(W:Wd)(_k x t o p y v r:Int):Bv (C5 A W Ae zV) 3000 101 [.code []] (zL 75 [.agg [il 4,sy x,sy t,sy o,sy p,sy y,sy v,sy r]] L0)=aO [aj x x,aj t t,aj o o,aj p p,aj y y,aj v v,aj r r] (aO [aj x x,aj t t,aj o o,aj p p,aj y y,aj v v,aj r r] (aO [aj x x,aj t t,aj o o,aj p p,aj y y,aj v v,aj r r] (aO [aj x x,aj t t,aj o o,aj p p,aj y y,aj v v,aj r r] (aF (A.lt x (ah 1)) (aB (aN (aW 15 329))) (aF (A.lt (ah 1000) x) (aB (aN (aW 15 329))) (aF (A.nt (A.ite (A.eq (ah 0) (ah 0)) (A.ite (A.eq (ah 0) (ah 0)) (A.ite (A.eq t (ah 0)) (A.ite (A.eq o (ah 0)) (A.ite (A.eq p (ah 0)) (A.ite (A.eq y (ah 0)) (A.ite (A.eq v (ah 0)) (A.ite (A.eq r (ah 0)) aC ay) ay) ay) ay) ay) ay) ay) ay)) (aB (aN (aW 15 329))) (aB (aN (iW bG))))))))):=by kernel_rfl
theorem au8(A:Prim)(W:Wd)(_k x t o p y v r:Int):Bv (C5 A W Ae zV) 3000 101 [.code []] (zL 75 [.agg [il 5,sy x,sy t,sy o,sy p,sy y,sy v,sy r]] L0)=aO [aj x x,aj t t,aj o o,aj p p,aj y y,aj v v,aj r r] (aO [aj x x,aj t t,aj o o,aj p p,aj y y,aj v v,aj r r] (aO [aj x x,aj t t,aj o o,aj p p,aj y y,aj v v,aj r r] (aO [aj x x,aj t t,aj o o,aj p p,aj y y,aj v v,aj r r] (aF (A.lt x (ah 1)) (aB (aN (aW 15 329))) (aF (A.lt (ah 1000) x) (aB (aN (aW 15 329))) (aF (A.nt (A.ite (A.eq (ah 0) (ah 0)) (A.ite (A.eq (ah 0) (ah 0)) (A.ite (A.eq t (ah 0)) (A.ite (A.eq o (ah 0)) (A.ite (A.eq p (ah 0)) (A.ite (A.eq y (ah 0)) (A.ite (A.eq v (ah 0)) (A.ite (A.eq r (ah 0)) aC ay) ay) ay) ay) ay) ay) ay) ay)) (aB (aN (aW 15 329))) (aB (aN (iW bG))))))))):=by kernel_rfl
theorem au9(A:Prim)(W:Wd)(_k x t o p y v r:Int):Bv (C5 A W Ae zV) 3000 101 [.code []] (zL 75 [.agg [il 6,sy x,sy t,sy o,sy p,sy y,sy v,sy r]] L0)=aO [aj x x,aj t t,aj o o,aj p p,aj y y,aj v v,aj r r] (aO [aj x x,aj t t,aj o o,aj p p,aj y y,aj v v,aj r r] (aO [aj x x,aj t t,aj o o,aj p p,aj y y,aj v v,aj r r] (aO [aj x x,aj t t,aj o o,aj p p,aj y y,aj v v,aj r r] (aF (A.lt x (ah 1)) (aB (aN (aW 15 329))) (aF (A.lt (ah 1000) x) (aB (aN (aW 15 329))) (aF (A.nt (A.ite (A.eq (ah 0) (ah 0)) (A.ite (A.eq (ah 0) (ah 0)) (A.ite (A.eq t (ah 0)) (A.ite (A.eq o (ah 0)) (A.ite (A.eq p (ah 0)) (A.ite (A.eq y (ah 0)) (A.ite (A.eq v (ah 0)) (A.ite (A.eq r (ah 0)) aC ay) ay) ay) ay) ay) ay) ay) ay)) (aB (aN (aW 15 329))) (aB (aN (iW bG))))))))):=by kernel_rfl
theorem ava(A:Prim)(W:Wd)(_k x t o p y v r:Int):Bv (C5 A W Ae zV) 3000 101 [.code []] (zL 75 [.agg [il 7,sy x,sy t,sy o,sy p,sy y,sy v,sy r]] L0)=aO [aj x x,aj t t,aj o o,aj p p,aj y y,aj v v,aj r r] (aO [aj x x,aj t t,aj o o,aj p p,aj y y,aj v v,aj r r] (aO [aj x x,aj t t,aj o o,aj p p,aj y y,aj v v,aj r r] (aO [aj x x,aj t t,aj o o,aj p p,aj y y,aj v v,aj r r] (aF (A.lt x (ah 1)) (aB (aN (aW 15 329))) (aF (A.lt (ah 1000) x) (aB (aN (aW 15 329))) (aF (A.nt (A.ite (A.eq (ah 0) (ah 0)) (A.ite (A.eq (ah 0) (ah 0)) (A.ite (A.eq t (ah 0)) (A.ite (A.eq o (ah 0)) (A.ite (A.eq p (ah 0)) (A.ite (A.eq y (ah 0)) (A.ite (A.eq v (ah 0)) (A.ite (A.eq r (ah 0)) aC ay) ay) ay) ay) ay) ay) ay) ay)) (aB (aN (aW 15 329))) (aB (aN (iW bG))))))))):=by kernel_rfl
theorem apg(A:Prim)(W:Wd)(_k x t o _p y v r:Int):Bv (C5 A W Ae zV) 3000 101 [.code []] (zL 75 [.agg [il 2,sy x,sy t,sy o,il 1,sy y,sy v,sy r]] L0)=aO [aj x x,aj t t,aj o o,aj y y,aj v v,aj r r] (aO [aj x x,aj t t,aj o o,aj y y,aj v v,aj r r] (aO [aj x x,aj t t,aj o o,aj y y,aj v v,aj r r] (aO [aj x x,aj t t,aj o o,aj y y,aj v v,aj r r] (aF (A.eq (Dc (ah 1)) (ah 0)) (aB (aN (aW 14 329))) (aF (A.lt x (ah 1)) (aB (aN (aW 15 329))) (aF (A.lt (ah 1000) x) (aB (aN (aW 15 329))) (aF (A.lt o (ah 0)) (aB (aN (aW 15 329))) (aF (A.lt (ah 7) o) (aB (aN (aW 15 329))) (aF (A.nt (A.ite (A.eq (ah 0) (ah 0)) (A.ite (A.eq (ah 0) (ah 0)) (A.ite (A.eq t (ah 0)) (A.ite (A.eq (ah 0) (ah 0)) (A.ite (A.eq (ah 0) (ah 0)) (A.ite (A.eq y (ah 0)) (A.ite (A.eq v (ah 0)) (A.ite (A.eq r (ah 0)) aC ay) ay) ay) ay) ay) ay) ay) ay)) (aB (aN (aW 15 329))) (aB (aN (iW bG)))))))))))):=by kernel_rfl
theorem aph(A:Prim)(W:Wd)(_k x t o _p y v r:Int):Bv (C5 A W Ae zV) 3000 101 [.code []] (zL 75 [.agg [il 2,sy x,sy t,sy o,il 2,sy y,sy v,sy r]] L0)=aO [aj x x,aj t t,aj o o,aj y y,aj v v,aj r r] (aO [aj x x,aj t t,aj o o,aj y y,aj v v,aj r r] (aO [aj x x,aj t t,aj o o,aj y y,aj v v,aj r r] (aO [aj x x,aj t t,aj o o,aj y y,aj v v,aj r r] (aF (A.eq (Dc (ah 2)) (ah 0)) (aB (aN (aW 14 329))) (aF (A.lt x (ah 1)) (aB (aN (aW 15 329))) (aF (A.lt (ah 1000) x) (aB (aN (aW 15 329))) (aF (A.lt o (ah 0)) (aB (aN (aW 15 329))) (aF (A.lt (ah 7) o) (aB (aN (aW 15 329))) (aF (A.lt v (dZ 999999999)) (aB (aN (aW 15 329))) (aF (A.lt (ah 1000000000) v) (aB (aN (aW 15 329))) (aF (A.nt (A.ite (A.eq (ah 0) (ah 0)) (A.ite (A.eq (ah 0) (ah 0)) (A.ite (A.eq t (ah 0)) (A.ite (A.eq (ah 0) (ah 0)) (A.ite (A.eq (ah 0) (ah 0)) (A.ite (A.eq y (ah 0)) (A.ite (A.eq (ah 0) (ah 0)) (A.ite (A.eq r (ah 0)) aC ay) ay) ay) ay) ay) ay) ay) ay)) (aB (aN (aW 15 329))) (aB (aN (iW bG)))))))))))))):=by kernel_rfl
theorem apj(A:Prim)(W:Wd)(_k x t o _p y v r:Int):Bv (C5 A W Ae zV) 3000 101 [.code []] (zL 75 [.agg [il 2,sy x,sy t,sy o,il 3,sy y,sy v,sy r]] L0)=aO [aj x x,aj t t,aj o o,aj y y,aj v v,aj r r] (aO [aj x x,aj t t,aj o o,aj y y,aj v v,aj r r] (aO [aj x x,aj t t,aj o o,aj y y,aj v v,aj r r] (aO [aj x x,aj t t,aj o o,aj y y,aj v v,aj r r] (aF (A.eq (Dc (ah 3)) (ah 0)) (aB (aN (aW 14 329))) (aF (A.lt x (ah 1)) (aB (aN (aW 15 329))) (aF (A.lt (ah 1000) x) (aB (aN (aW 15 329))) (aF (A.lt o (ah 0)) (aB (aN (aW 15 329))) (aF (A.lt (ah 7) o) (aB (aN (aW 15 329))) (aF (A.lt v (dZ 999999999)) (aB (aN (aW 15 329))) (aF (A.lt (ah 1000000000) v) (aB (aN (aW 15 329))) (aF (A.nt (A.ite (A.eq (ah 0) (ah 0)) (A.ite (A.eq (ah 0) (ah 0)) (A.ite (A.eq t (ah 0)) (A.ite (A.eq (ah 0) (ah 0)) (A.ite (A.eq (ah 0) (ah 0)) (A.ite (A.eq y (ah 0)) (A.ite (A.eq (ah 0) (ah 0)) (A.ite (A.eq r (ah 0)) aC ay) ay) ay) ay) ay) ay) ay) ay)) (aB (aN (aW 15 329))) (aB (aN (iW bG)))))))))))))):=by kernel_rfl
theorem apk(A:Prim)(W:Wd)(_k x t o _p y v r:Int):Bv (C5 A W Ae zV) 3000 101 [.code []] (zL 75 [.agg [il 2,sy x,sy t,sy o,il 4,sy y,sy v,sy r]] L0)=aO [aj x x,aj t t,aj o o,aj y y,aj v v,aj r r] (aO [aj x x,aj t t,aj o o,aj y y,aj v v,aj r r] (aO [aj x x,aj t t,aj o o,aj y y,aj v v,aj r r] (aO [aj x x,aj t t,aj o o,aj y y,aj v v,aj r r] (aF (A.eq (Dc (ah 4)) (ah 0)) (aB (aN (aW 14 329))) (aF (A.lt x (ah 1)) (aB (aN (aW 15 329))) (aF (A.lt (ah 1000) x) (aB (aN (aW 15 329))) (aF (A.lt o (ah 0)) (aB (aN (aW 15 329))) (aF (A.lt (ah 7) o) (aB (aN (aW 15 329))) (aF (A.nt (A.ite (A.eq (ah 0) (ah 0)) (A.ite (A.eq (ah 0) (ah 0)) (A.ite (A.eq t (ah 0)) (A.ite (A.eq (ah 0) (ah 0)) (A.ite (A.eq (ah 0) (ah 0)) (A.ite (A.eq y (ah 0)) (A.ite (A.eq v (ah 0)) (A.ite (A.eq r (ah 0)) aC ay) ay) ay) ay) ay) ay) ay) ay)) (aB (aN (aW 15 329))) (aB (aN (iW bG)))))))))))):=by kernel_rfl
theorem apl(A:Prim)(W:Wd)(_k x t o _p y v r:Int):Bv (C5 A W Ae zV) 3000 101 [.code []] (zL 75 [.agg [il 2,sy x,sy t,sy o,il 5,sy y,sy v,sy r]] L0)=aO [aj x x,aj t t,aj o o,aj y y,aj v v,aj r r] (aO [aj x x,aj t t,aj o o,aj y y,aj v v,aj r r] (aO [aj x x,aj t t,aj o o,aj y y,aj v v,aj r r] (aO [aj x x,aj t t,aj o o,aj y y,aj v v,aj r r] (aF (A.eq (Dc (ah 5)) (ah 0)) (aB (aN (aW 14 329))) (aF (A.lt x (ah 1)) (aB (aN (aW 15 329))) (aF (A.lt (ah 1000) x) (aB (aN (aW 15 329))) (aF (A.lt o (ah 0)) (aB (aN (aW 15 329))) (aF (A.lt (ah 7) o) (aB (aN (aW 15 329))) (aF (A.lt v (dZ 999999999)) (aB (aN (aW 15 329))) (aF (A.lt (ah 1000000000) v) (aB (aN (aW 15 329))) (aF (A.nt (A.ite (A.eq (ah 0) (ah 0)) (A.ite (A.eq (ah 0) (ah 0)) (A.ite (A.eq t (ah 0)) (A.ite (A.eq (ah 0) (ah 0)) (A.ite (A.eq (ah 0) (ah 0)) (A.ite (A.eq y (ah 0)) (A.ite (A.eq (ah 0) (ah 0)) (A.ite (A.eq r (ah 0)) aC ay) ay) ay) ay) ay) ay) ay) ay)) (aB (aN (aW 15 329))) (aB (aN (iW bG)))))))))))))):=by kernel_rfl
theorem apm(A:Prim)(W:Wd)(_k x t o _p y v r:Int):Bv (C5 A W Ae zV) 3000 101 [.code []] (zL 75 [.agg [il 2,sy x,sy t,sy o,il 6,sy y,sy v,sy r]] L0)=aO [aj x x,aj t t,aj o o,aj y y,aj v v,aj r r] (aO [aj x x,aj t t,aj o o,aj y y,aj v v,aj r r] (aO [aj x x,aj t t,aj o o,aj y y,aj v v,aj r r] (aO [aj x x,aj t t,aj o o,aj y y,aj v v,aj r r] (aF (A.eq (Dc (ah 6)) (ah 0)) (aB (aN (aW 14 329))) (aF (A.lt x (ah 1)) (aB (aN (aW 15 329))) (aF (A.lt (ah 1000) x) (aB (aN (aW 15 329))) (aF (A.lt o (ah 0)) (aB (aN (aW 15 329))) (aF (A.lt (ah 7) o) (aB (aN (aW 15 329))) (aF (A.nt (A.ite (A.eq (ah 0) (ah 0)) (A.ite (A.eq (ah 0) (ah 0)) (A.ite (A.eq t (ah 0)) (A.ite (A.eq (ah 0) (ah 0)) (A.ite (A.eq (ah 0) (ah 0)) (A.ite (A.eq y (ah 0)) (A.ite (A.eq v (ah 0)) (A.ite (A.eq r (ah 0)) aC ay) ay) ay) ay) ay) ay) ay) ay)) (aB (aN (aW 15 329))) (aB (aN (iW bG)))))))))))):=by kernel_rfl
theorem apn(A:Prim)(W:Wd)(_k x t o _p y v r:Int):Bv (C5 A W Ae zV) 3000 101 [.code []] (zL 75 [.agg [il 2,sy x,sy t,sy o,il 7,sy y,sy v,sy r]] L0)=aO [aj x x,aj t t,aj o o,aj y y,aj v v,aj r r] (aO [aj x x,aj t t,aj o o,aj y y,aj v v,aj r r] (aO [aj x x,aj t t,aj o o,aj y y,aj v v,aj r r] (aO [aj x x,aj t t,aj o o,aj y y,aj v v,aj r r] (aF (A.eq (Dc (ah 7)) (ah 0)) (aB (aN (aW 14 329))) (aF (A.lt x (ah 1)) (aB (aN (aW 15 329))) (aF (A.lt (ah 1000) x) (aB (aN (aW 15 329))) (aF (A.lt o (ah 0)) (aB (aN (aW 15 329))) (aF (A.lt (ah 7) o) (aB (aN (aW 15 329))) (aF (A.lt y (ah 0)) (aB (aN (aW 15 329))) (aF (A.lt (ah 1000) y) (aB (aN (aW 15 329))) (aF (A.lt v (dZ 999999999)) (aB (aN (aW 15 329))) (aF (A.lt (ah 1000000000) v) (aB (aN (aW 15 329))) (aF (A.nt (A.ite (A.eq (ah 0) (ah 0)) (A.ite (A.eq (ah 0) (ah 0)) (A.ite (A.eq t (ah 0)) (A.ite (A.eq (ah 0) (ah 0)) (A.ite (A.eq (ah 0) (ah 0)) (A.ite (A.eq (ah 0) (ah 0)) (A.ite (A.eq (ah 0) (ah 0)) (A.ite (A.eq r (ah 0)) aC ay) ay) ay) ay) ay) ay) ay) ay)) (aB (aN (aW 15 329))) (aB (aN (iW bG)))))))))))))))):=by kernel_rfl
theorem apo(A:Prim)(W:Wd)(_k x t o _p y v r:Int):Bv (C5 A W Ae zV) 3000 101 [.code []] (zL 75 [.agg [il 2,sy x,sy t,sy o,il 8,sy y,sy v,sy r]] L0)=aO [aj x x,aj t t,aj o o,aj y y,aj v v,aj r r] (aO [aj x x,aj t t,aj o o,aj y y,aj v v,aj r r] (aO [aj x x,aj t t,aj o o,aj y y,aj v v,aj r r] (aO [aj x x,aj t t,aj o o,aj y y,aj v v,aj r r] (aF (A.eq (Dc (ah 8)) (ah 0)) (aB (aN (aW 14 329))) (aF (A.lt x (ah 1)) (aB (aN (aW 15 329))) (aF (A.lt (ah 1000) x) (aB (aN (aW 15 329))) (aF (A.lt o (ah 0)) (aB (aN (aW 15 329))) (aF (A.lt (ah 7) o) (aB (aN (aW 15 329))) (aF (A.lt y (ah 0)) (aB (aN (aW 15 329))) (aF (A.lt (ah 1000) y) (aB (aN (aW 15 329))) (aF (A.nt (A.ite (A.eq (ah 0) (ah 0)) (A.ite (A.eq (ah 0) (ah 0)) (A.ite (A.eq t (ah 0)) (A.ite (A.eq (ah 0) (ah 0)) (A.ite (A.eq (ah 0) (ah 0)) (A.ite (A.eq (ah 0) (ah 0)) (A.ite (A.eq v (ah 0)) (A.ite (A.eq r (ah 0)) aC ay) ay) ay) ay) ay) ay) ay) ay)) (aB (aN (aW 15 329))) (aB (aN (iW bG)))))))))))))):=by kernel_rfl
theorem apq(A:Prim)(W:Wd)(_k x t o _p y v r:Int):Bv (C5 A W Ae zV) 3000 101 [.code []] (zL 75 [.agg [il 2,sy x,sy t,sy o,il 9,sy y,sy v,sy r]] L0)=aO [aj x x,aj t t,aj o o,aj y y,aj v v,aj r r] (aO [aj x x,aj t t,aj o o,aj y y,aj v v,aj r r] (aO [aj x x,aj t t,aj o o,aj y y,aj v v,aj r r] (aO [aj x x,aj t t,aj o o,aj y y,aj v v,aj r r] (aF (A.eq (Dc (ah 9)) (ah 0)) (aB (aN (aW 14 329))) (aF (A.lt x (ah 1)) (aB (aN (aW 15 329))) (aF (A.lt (ah 1000) x) (aB (aN (aW 15 329))) (aF (A.lt o (ah 0)) (aB (aN (aW 15 329))) (aF (A.lt (ah 7) o) (aB (aN (aW 15 329))) (aF (A.lt y (ah 0)) (aB (aN (aW 15 329))) (aF (A.lt (ah 1000) y) (aB (aN (aW 15 329))) (aF (A.nt (A.ite (A.eq (ah 0) (ah 0)) (A.ite (A.eq (ah 0) (ah 0)) (A.ite (A.eq t (ah 0)) (A.ite (A.eq (ah 0) (ah 0)) (A.ite (A.eq (ah 0) (ah 0)) (A.ite (A.eq (ah 0) (ah 0)) (A.ite (A.eq v (ah 0)) (A.ite (A.eq r (ah 0)) aC ay) ay) ay) ay) ay) ay) ay) ay)) (aB (aN (aW 15 329))) (aB (aN (iW bG)))))))))))))):=by kernel_rfl
theorem apr(A:Prim)(W:Wd)(_k x t o p y v _r:Int):Bv (C5 A W Ae zV) 3000 101 [.code []] (zL 75 [.agg [il 3,sy x,sy t,sy o,sy p,sy y,sy v,il 1]] L0)=aO [aj x x,aj t t,aj o o,aj p p,aj y y,aj v v] (aO [aj x x,aj t t,aj o o,aj p p,aj y y,aj v v] (aO [aj x x,aj t t,aj o o,aj p p,aj y y,aj v v] (aO [aj x x,aj t t,aj o o,aj p p,aj y y,aj v v] (aH aC (aF (A.seq (BX 19 3 (ah 1)) []) (aB (aN (aW 14 329))) (aF (A.lt x (ah 1)) (aB (aN (aW 15 329))) (aF (A.lt (ah 1000) x) (aB (aN (aW 15 329))) (aF (A.nt (A.ite (A.eq (ah 0) (ah 0)) (A.ite (A.eq (ah 0) (ah 0)) (A.ite (A.eq t (ah 0)) (A.ite (A.eq o (ah 0)) (A.ite (A.eq p (ah 0)) (A.ite (A.eq y (ah 0)) (A.ite (A.eq v (ah 0)) (A.ite (A.eq (ah 0) (ah 0)) aC ay) ay) ay) ay) ay) ay) ay) ay)) (aB (aN (aW 15 329))) (aB (aN (iW bG))))))))))):=by kernel_rfl
theorem aps(A:Prim)(W:Wd)(_k x t o p y v _r:Int):Bv (C5 A W Ae zV) 3000 101 [.code []] (zL 75 [.agg [il 3,sy x,sy t,sy o,sy p,sy y,sy v,il 2]] L0)=aO [aj x x,aj t t,aj o o,aj p p,aj y y,aj v v] (aO [aj x x,aj t t,aj o o,aj p p,aj y y,aj v v] (aO [aj x x,aj t t,aj o o,aj p p,aj y y,aj v v] (aO [aj x x,aj t t,aj o o,aj p p,aj y y,aj v v] (aH aC (aF (A.seq (BX 19 3 (ah 2)) []) (aB (aN (aW 14 329))) (aF (A.lt x (ah 1)) (aB (aN (aW 15 329))) (aF (A.lt (ah 1000) x) (aB (aN (aW 15 329))) (aF (A.nt (A.ite (A.eq (ah 0) (ah 0)) (A.ite (A.eq (ah 0) (ah 0)) (A.ite (A.eq t (ah 0)) (A.ite (A.eq o (ah 0)) (A.ite (A.eq p (ah 0)) (A.ite (A.eq y (ah 0)) (A.ite (A.eq v (ah 0)) (A.ite (A.eq (ah 0) (ah 0)) aC ay) ay) ay) ay) ay) ay) ay) ay)) (aB (aN (aW 15 329))) (aB (aN (iW bG))))))))))):=by kernel_rfl
theorem apt(A:Prim)(W:Wd)(_k x t o p y v _r:Int):Bv (C5 A W Ae zV) 3000 101 [.code []] (zL 75 [.agg [il 3,sy x,sy t,sy o,sy p,sy y,sy v,il 3]] L0)=aO [aj x x,aj t t,aj o o,aj p p,aj y y,aj v v] (aO [aj x x,aj t t,aj o o,aj p p,aj y y,aj v v] (aO [aj x x,aj t t,aj o o,aj p p,aj y y,aj v v] (aO [aj x x,aj t t,aj o o,aj p p,aj y y,aj v v] (aH aC (aF (A.seq (BX 19 3 (ah 3)) []) (aB (aN (aW 14 329))) (aF (A.lt x (ah 1)) (aB (aN (aW 15 329))) (aF (A.lt (ah 1000) x) (aB (aN (aW 15 329))) (aF (A.lt v (dZ 999999999)) (aB (aN (aW 15 329))) (aF (A.lt (ah 1000000000) v) (aB (aN (aW 15 329))) (aF (A.nt (A.ite (A.eq (ah 0) (ah 0)) (A.ite (A.eq (ah 0) (ah 0)) (A.ite (A.eq t (ah 0)) (A.ite (A.eq o (ah 0)) (A.ite (A.eq p (ah 0)) (A.ite (A.eq y (ah 0)) (A.ite (A.eq (ah 0) (ah 0)) (A.ite (A.eq (ah 0) (ah 0)) aC ay) ay) ay) ay) ay) ay) ay) ay)) (aB (aN (aW 15 329))) (aB (aN (iW bG))))))))))))):=by kernel_rfl
theorem avb(A:Prim)(W:Wd)(k x t o p y v r:Int):dead (Bv (C5 A W Ae Ir) 3000 101 [.code []] (zL 75 [.agg [sy k,sy x,sy t,sy o,sy p,sy y,sy v,sy r]] L0))=aO [aj k k,aj x x,aj t t,aj o o,aj p p,aj y y,aj v v,aj r r] (aO [aj k k,aj x x,aj t t,aj o o,aj p p,aj y y,aj v v,aj r r] (aO [aj k k,aj x x,aj t t,aj o o,aj p p,aj y y,aj v v,aj r r] (aO [aj k k,aj x x,aj t t,aj o o,aj p p,aj y y,aj v v,aj r r] (aF (A.eq k (ah 1)) (aF (A.eq k (ah 2)) (aF (A.eq (Dc p) (ah 0)) (aB (aN (aW 14 329))) (aF (A.eq k (ah 3)) (aH aC (aF (A.seq (BX 19 3 r) []) (aB (aN (aW 14 329))) cO)) cO)) (aF (A.eq k (ah 3)) (aH aC (aF (A.seq (BX 19 3 r) []) (aB (aN (aW 14 329))) cO)) cO)) (aF (A.eq k (ah 4)) (aF (A.eq k (ah 2)) (aF (A.eq (Dc p) (ah 0)) (aB (aN (aW 14 329))) (aF (A.eq k (ah 3)) (aH aC (aF (A.seq (BX 19 3 r) []) (aB (aN (aW 14 329))) cO)) cO)) (aF (A.eq k (ah 3)) (aH aC (aF (A.seq (BX 19 3 r) []) (aB (aN (aW 14 329))) cO)) cO)) (aF (A.eq k (ah 5)) (aF (A.eq k (ah 2)) (aF (A.eq (Dc p) (ah 0)) (aB (aN (aW 14 329))) (aF (A.eq k (ah 3)) (aH aC (aF (A.seq (BX 19 3 r) []) (aB (aN (aW 14 329))) cO)) cO)) (aF (A.eq k (ah 3)) (aH aC (aF (A.seq (BX 19 3 r) []) (aB (aN (aW 14 329))) cO)) cO)) (aF (A.eq k (ah 6)) (aF (A.eq k (ah 2)) (aF (A.eq (Dc p) (ah 0)) (aB (aN (aW 14 329))) (aF (A.eq k (ah 3)) (aH aC (aF (A.seq (BX 19 3 r) []) (aB (aN (aW 14 329))) cO)) cO)) (aF (A.eq k (ah 3)) (aH aC (aF (A.seq (BX 19 3 r) []) (aB (aN (aW 14 329))) cO)) cO)) (aF (A.eq k (ah 7)) (aF (A.eq k (ah 2)) (aF (A.eq (Dc p) (ah 0)) (aB (aN (aW 14 329))) (aF (A.eq k (ah 3)) (aH aC (aF (A.seq (BX 19 3 r) []) (aB (aN (aW 14 329))) cO)) cO)) (aF (A.eq k (ah 3)) (aH aC (aF (A.seq (BX 19 3 r) []) (aB (aN (aW 14 329))) cO)) cO)) (aF (A.eq k (ah 2)) (aF (A.eq k (ah 2)) (aF (A.eq (Dc p) (ah 0)) (aB (aN (aW 14 329))) (aF (A.eq k (ah 3)) (aH aC (aF (A.seq (BX 19 3 r) []) (aB (aN (aW 14 329))) cO)) cO)) (aF (A.eq k (ah 3)) (aH aC (aF (A.seq (BX 19 3 r) []) (aB (aN (aW 14 329))) cO)) cO)) (aF (A.eq k (ah 3)) (aF (A.eq k (ah 2)) (aF (A.eq (Dc p) (ah 0)) (aB (aN (aW 14 329))) (aF (A.eq k (ah 3)) (aH aC (aF (A.seq (BX 19 3 r) []) (aB (aN (aW 14 329))) cO)) cO)) (aF (A.eq k (ah 3)) (aH aC (aF (A.seq (BX 19 3 r) []) (aB (aN (aW 14 329))) cO)) cO)) (aB (aN (aW 14 329))))))))))))):=by kernel_rfl
theorem asc(A:Prim)(W:Wd)(_k x t o p y v r:Int):dead (Bv (C5 A W Ae Ir) 3000 101 [.code []] (zL 75 [.agg [il 2,sy x,sy t,sy o,sy p,sy y,sy v,sy r]] L0))=aO [aj x x,aj t t,aj o o,aj p p,aj y y,aj v v,aj r r] (aO [aj x x,aj t t,aj o o,aj p p,aj y y,aj v v,aj r r] (aO [aj x x,aj t t,aj o o,aj p p,aj y y,aj v v,aj r r] (aO [aj x x,aj t t,aj o o,aj p p,aj y y,aj v v,aj r r] (aF (A.eq (Dc p) (ah 0)) (aB (aN (aW 14 329))) cO)))):=by kernel_rfl
theorem ase(A:Prim)(W:Wd)(_k x t o p y v r:Int):dead (Bv (C5 A W Ae Ir) 3000 101 [.code []] (zL 75 [.agg [il 3,sy x,sy t,sy o,sy p,sy y,sy v,sy r]] L0))=aO [aj x x,aj t t,aj o o,aj p p,aj y y,aj v v,aj r r] (aO [aj x x,aj t t,aj o o,aj p p,aj y y,aj v v,aj r r] (aO [aj x x,aj t t,aj o o,aj p p,aj y y,aj v v,aj r r] (aO [aj x x,aj t t,aj o o,aj p p,aj y y,aj v v,aj r r] (aH aC (aF (A.seq (BX 19 3 r) []) (aB (aN (aW 14 329))) cO))))):=by kernel_rfl
end Go.zM
namespace Go.AL
open Go Go.Sx
def Vh(e:Ev):Prop:=(1<=e.kind/\e.kind<=7)/\(e.kind=2->1<=e.op/\e.op<=9)/\(e.kind=3->1<=e.ret/\e.ret<=3)
def Aj(e:Ev):Prop:=
 (1<=e.tx/\e.tx<=1000)/\
 ((e.kind=1/\0<=e.thread/\e.thread<=7)\/(e.kind≠1/\e.thread=0))/\
 ((e.kind=2/\0<=e.obj/\e.obj<=7)\/(e.kind≠2/\e.obj=0))/\
 ((e.kind=2/\1<=e.op/\e.op<=9)\/(e.kind≠2/\e.op=0))/\
 ((e.kind=2/\7<=e.op/\0<=e.key/\e.key<=1000)\/(¬(e.kind=2/\7<=e.op)/\e.key=0))/\
 ((((e.kind=2/\(e.op=2\/e.op=3\/e.op=5\/e.op=7))\/(e.kind=3/\e.ret=3))/\-1000000000<=e.val/\e.val<=1000000000)\/(¬((e.kind=2/\(e.op=2\/e.op=3\/e.op=5\/e.op=7))\/(e.kind=3/\e.ret=3))/\e.val=0))/\
 ((e.kind=3/\1<=e.ret/\e.ret<=3)\/(e.kind≠3/\e.ret=0))
instance (e:Ev):Decidable (Vh e):=by unfold Vh;infer_instance
instance (e:Ev):Decidable (Aj e):=by unfold Aj;infer_instance
end Go.AL
namespace Go.zM
open Go Go.Sx Go.AL
theorem avc{H:Mem}{w:World}{φ:Sh->Prop}{x t o p y v r:Int}(hN:Aj ⟨1,x,t,o,p,y,v,r⟩->φ (.v .nilIface))(h9:¬Aj ⟨1,x,t,o,p,y,v,r⟩->φ (.er 15 329)):
  CW (Bc aA (C5 zG W5 Ae zV) (K0 H w) bH φ) (Bv (C5 zG W5 Ae zV) 3000 101 [.code []] (zL 75 [.agg [il 1,sy x,sy t,sy o,sy p,sy y,sy v,sy r]] L0)):=by
 rw[au6 zG W5 0 x t o p y v r,<-Bj];simp[eY,Bc,cu,gY,zN,Ac,Bh,Dt];grind [Aj]
theorem avd{H:Mem}{w:World}{φ:Sh->Prop}{x t o p y v r:Int}(hN:Aj ⟨4,x,t,o,p,y,v,r⟩->φ (.v .nilIface))(h9:¬Aj ⟨4,x,t,o,p,y,v,r⟩->φ (.er 15 329)):
  CW (Bc aA (C5 zG W5 Ae zV) (K0 H w) bH φ) (Bv (C5 zG W5 Ae zV) 3000 101 [.code []] (zL 75 [.agg [il 4,sy x,sy t,sy o,sy p,sy y,sy v,sy r]] L0)):=by
 rw[au7 zG W5 0 x t o p y v r,<-Bj];simp[eY,Bc,cu,gY,zN,Ac,Bh,Dt];grind [Aj]
theorem ave{H:Mem}{w:World}{φ:Sh->Prop}{x t o p y v r:Int}(hN:Aj ⟨5,x,t,o,p,y,v,r⟩->φ (.v .nilIface))(h9:¬Aj ⟨5,x,t,o,p,y,v,r⟩->φ (.er 15 329)):
  CW (Bc aA (C5 zG W5 Ae zV) (K0 H w) bH φ) (Bv (C5 zG W5 Ae zV) 3000 101 [.code []] (zL 75 [.agg [il 5,sy x,sy t,sy o,sy p,sy y,sy v,sy r]] L0)):=by
 rw[au8 zG W5 0 x t o p y v r,<-Bj];simp[eY,Bc,cu,gY,zN,Ac,Bh,Dt];grind [Aj]
theorem avf{H:Mem}{w:World}{φ:Sh->Prop}{x t o p y v r:Int}(hN:Aj ⟨6,x,t,o,p,y,v,r⟩->φ (.v .nilIface))(h9:¬Aj ⟨6,x,t,o,p,y,v,r⟩->φ (.er 15 329)):
  CW (Bc aA (C5 zG W5 Ae zV) (K0 H w) bH φ) (Bv (C5 zG W5 Ae zV) 3000 101 [.code []] (zL 75 [.agg [il 6,sy x,sy t,sy o,sy p,sy y,sy v,sy r]] L0)):=by
 rw[au9 zG W5 0 x t o p y v r,<-Bj];simp[eY,Bc,cu,gY,zN,Ac,Bh,Dt];grind [Aj]
theorem avg{H:Mem}{w:World}{φ:Sh->Prop}{x t o p y v r:Int}(hN:Aj ⟨7,x,t,o,p,y,v,r⟩->φ (.v .nilIface))(h9:¬Aj ⟨7,x,t,o,p,y,v,r⟩->φ (.er 15 329)):
  CW (Bc aA (C5 zG W5 Ae zV) (K0 H w) bH φ) (Bv (C5 zG W5 Ae zV) 3000 101 [.code []] (zL 75 [.agg [il 7,sy x,sy t,sy o,sy p,sy y,sy v,sy r]] L0)):=by
 rw[ava zG W5 0 x t o p y v r,<-Bj];simp[eY,Bc,cu,gY,zN,Ac,Bh,Dt];grind [Aj]
theorem apu{H:Mem}{w:World}{φ:Sh->Prop}{x t o p y v r:Int}(hN:Aj ⟨2,x,t,o,1,y,v,r⟩->φ (.v .nilIface))(h9:¬Aj ⟨2,x,t,o,1,y,v,r⟩->φ (.er 15 329)):
  CW (Bc aA (C5 zG W5 Ae zV) (K0 H w) bH φ) (Bv (C5 zG W5 Ae zV) 3000 101 [.code []] (zL 75 [.agg [il 2,sy x,sy t,sy o,il 1,sy y,sy v,sy r]] L0)):=by
 rw[apg zG W5 0 x t o p y v r,<-Bj];simp[eY,Bc,cu,gY,zN,Ac,Bh,Dt,Dc];grind [Aj]
theorem apv{H:Mem}{w:World}{φ:Sh->Prop}{x t o p y v r:Int}(hN:Aj ⟨2,x,t,o,2,y,v,r⟩->φ (.v .nilIface))(h9:¬Aj ⟨2,x,t,o,2,y,v,r⟩->φ (.er 15 329)):
  CW (Bc aA (C5 zG W5 Ae zV) (K0 H w) bH φ) (Bv (C5 zG W5 Ae zV) 3000 101 [.code []] (zL 75 [.agg [il 2,sy x,sy t,sy o,il 2,sy y,sy v,sy r]] L0)):=by
 rw[aph zG W5 0 x t o p y v r,<-Bj];simp[eY,Bc,cu,gY,zN,Ac,Bh,Dt,Dc];grind [Aj]
theorem apw{H:Mem}{w:World}{φ:Sh->Prop}{x t o p y v r:Int}(hN:Aj ⟨2,x,t,o,3,y,v,r⟩->φ (.v .nilIface))(h9:¬Aj ⟨2,x,t,o,3,y,v,r⟩->φ (.er 15 329)):
  CW (Bc aA (C5 zG W5 Ae zV) (K0 H w) bH φ) (Bv (C5 zG W5 Ae zV) 3000 101 [.code []] (zL 75 [.agg [il 2,sy x,sy t,sy o,il 3,sy y,sy v,sy r]] L0)):=by
 rw[apj zG W5 0 x t o p y v r,<-Bj];simp[eY,Bc,cu,gY,zN,Ac,Bh,Dt,Dc];grind [Aj]
theorem apx{H:Mem}{w:World}{φ:Sh->Prop}{x t o p y v r:Int}(hN:Aj ⟨2,x,t,o,4,y,v,r⟩->φ (.v .nilIface))(h9:¬Aj ⟨2,x,t,o,4,y,v,r⟩->φ (.er 15 329)):
  CW (Bc aA (C5 zG W5 Ae zV) (K0 H w) bH φ) (Bv (C5 zG W5 Ae zV) 3000 101 [.code []] (zL 75 [.agg [il 2,sy x,sy t,sy o,il 4,sy y,sy v,sy r]] L0)):=by
 rw[apk zG W5 0 x t o p y v r,<-Bj];simp[eY,Bc,cu,gY,zN,Ac,Bh,Dt,Dc];grind [Aj]
theorem apy{H:Mem}{w:World}{φ:Sh->Prop}{x t o p y v r:Int}(hN:Aj ⟨2,x,t,o,5,y,v,r⟩->φ (.v .nilIface))(h9:¬Aj ⟨2,x,t,o,5,y,v,r⟩->φ (.er 15 329)):
  CW (Bc aA (C5 zG W5 Ae zV) (K0 H w) bH φ) (Bv (C5 zG W5 Ae zV) 3000 101 [.code []] (zL 75 [.agg [il 2,sy x,sy t,sy o,il 5,sy y,sy v,sy r]] L0)):=by
 rw[apl zG W5 0 x t o p y v r,<-Bj];simp[eY,Bc,cu,gY,zN,Ac,Bh,Dt,Dc];grind [Aj]
theorem apz{H:Mem}{w:World}{φ:Sh->Prop}{x t o p y v r:Int}(hN:Aj ⟨2,x,t,o,6,y,v,r⟩->φ (.v .nilIface))(h9:¬Aj ⟨2,x,t,o,6,y,v,r⟩->φ (.er 15 329)):
  CW (Bc aA (C5 zG W5 Ae zV) (K0 H w) bH φ) (Bv (C5 zG W5 Ae zV) 3000 101 [.code []] (zL 75 [.agg [il 2,sy x,sy t,sy o,il 6,sy y,sy v,sy r]] L0)):=by
 rw[apm zG W5 0 x t o p y v r,<-Bj];simp[eY,Bc,cu,gY,zN,Ac,Bh,Dt,Dc];grind [Aj]
theorem apA{H:Mem}{w:World}{φ:Sh->Prop}{x t o p y v r:Int}(hN:Aj ⟨2,x,t,o,7,y,v,r⟩->φ (.v .nilIface))(h9:¬Aj ⟨2,x,t,o,7,y,v,r⟩->φ (.er 15 329)):
  CW (Bc aA (C5 zG W5 Ae zV) (K0 H w) bH φ) (Bv (C5 zG W5 Ae zV) 3000 101 [.code []] (zL 75 [.agg [il 2,sy x,sy t,sy o,il 7,sy y,sy v,sy r]] L0)):=by
 rw[apn zG W5 0 x t o p y v r,<-Bj];simp[eY,Bc,cu,gY,zN,Ac,Bh,Dt,Dc];grind [Aj]
theorem apB{H:Mem}{w:World}{φ:Sh->Prop}{x t o p y v r:Int}(hN:Aj ⟨2,x,t,o,8,y,v,r⟩->φ (.v .nilIface))(h9:¬Aj ⟨2,x,t,o,8,y,v,r⟩->φ (.er 15 329)):
  CW (Bc aA (C5 zG W5 Ae zV) (K0 H w) bH φ) (Bv (C5 zG W5 Ae zV) 3000 101 [.code []] (zL 75 [.agg [il 2,sy x,sy t,sy o,il 8,sy y,sy v,sy r]] L0)):=by
 rw[apo zG W5 0 x t o p y v r,<-Bj];simp[eY,Bc,cu,gY,zN,Ac,Bh,Dt,Dc];grind [Aj]
theorem apC{H:Mem}{w:World}{φ:Sh->Prop}{x t o p y v r:Int}(hN:Aj ⟨2,x,t,o,9,y,v,r⟩->φ (.v .nilIface))(h9:¬Aj ⟨2,x,t,o,9,y,v,r⟩->φ (.er 15 329)):
  CW (Bc aA (C5 zG W5 Ae zV) (K0 H w) bH φ) (Bv (C5 zG W5 Ae zV) 3000 101 [.code []] (zL 75 [.agg [il 2,sy x,sy t,sy o,il 9,sy y,sy v,sy r]] L0)):=by
 rw[apq zG W5 0 x t o p y v r,<-Bj];simp[eY,Bc,cu,gY,zN,Ac,Bh,Dt,Dc];grind [Aj]
theorem apD{H:Mem}{w:World}{φ:Sh->Prop}{x t o p y v r:Int}(hN:Aj ⟨3,x,t,o,p,y,v,1⟩->φ (.v .nilIface))(h9:¬Aj ⟨3,x,t,o,p,y,v,1⟩->φ (.er 15 329)):
  CW (Bc aA (C5 zG W5 Ae zV) (K0 H w) bH φ) (Bv (C5 zG W5 Ae zV) 3000 101 [.code []] (zL 75 [.agg [il 3,sy x,sy t,sy o,sy p,sy y,sy v,il 1]] L0)):=by
 rw[apr zG W5 0 x t o p y v r,<-Bj];simp[eY,Bc,cu,gY,zN,Ac,Bh,Dt,Po akY,Zz,idx,gZ];grind [Aj]
theorem apE{H:Mem}{w:World}{φ:Sh->Prop}{x t o p y v r:Int}(hN:Aj ⟨3,x,t,o,p,y,v,2⟩->φ (.v .nilIface))(h9:¬Aj ⟨3,x,t,o,p,y,v,2⟩->φ (.er 15 329)):
  CW (Bc aA (C5 zG W5 Ae zV) (K0 H w) bH φ) (Bv (C5 zG W5 Ae zV) 3000 101 [.code []] (zL 75 [.agg [il 3,sy x,sy t,sy o,sy p,sy y,sy v,il 2]] L0)):=by
 rw[aps zG W5 0 x t o p y v r,<-Bj];simp[eY,Bc,cu,gY,zN,Ac,Bh,Dt,Po akY,Zz,idx,gZ];grind [Aj]
theorem apF{H:Mem}{w:World}{φ:Sh->Prop}{x t o p y v r:Int}(hN:Aj ⟨3,x,t,o,p,y,v,3⟩->φ (.v .nilIface))(h9:¬Aj ⟨3,x,t,o,p,y,v,3⟩->φ (.er 15 329)):
  CW (Bc aA (C5 zG W5 Ae zV) (K0 H w) bH φ) (Bv (C5 zG W5 Ae zV) 3000 101 [.code []] (zL 75 [.agg [il 3,sy x,sy t,sy o,sy p,sy y,sy v,il 3]] L0)):=by
 rw[apt zG W5 0 x t o p y v r,<-Bj];simp[eY,Bc,cu,gY,zN,Ac,Bh,Dt,Po akY,Zz,idx,gZ];grind [Aj]
end Go.zM
namespace Go.AL
open Go Go.Sx
def OH(e:Ev):Bool:=decide (Vh e)
def fieldsB(e:Ev):Bool:=decide (Aj e)
def BR(n:Int):Bool:=decide (-9223372036854775808<=n/\n<=9223372036854775807)
def abO:List Sh->Option Ev
 |[a,b,c,d,e,f,g,h]=>match Ak a with
  |none=>aK |some a=>match Ak b with
   |none=>aK |some b=>match Ak c with
    |none=>aK |some c=>match Ak d with
     |none=>aK |some d=>match Ak e with
      |none=>aK |some e=>match Ak f with
       |none=>aK |some f=>match Ak g with
        |none=>aK |some g=>match Ak h with
         |none=>aK |some h=>ak ⟨a,b,c,d,e,f,g,h⟩
 |_=>aK
theorem BJ{H:Mem}{l l':List Sh}{v:Value}(hv:Rep H (.agg l) v)(hl:l'.length=l.length)(h:∀(j:Nat) (s s':Sh),l[j]?=ak s->l'[j]?=ak s'->∀u,Rep H s u->Rep H s' u):Rep H (.agg l') v:=by
 cases hv with
 |agg _ vs h3 h4=>
  refine .agg _ vs (by omega) fun j s' v' e1 e2=>?_
  grind
theorem ahz{H:Mem}{l:List Sh}{e:Ev}{v:Value}(h:abO l=ak e)(hv:Rep H (.agg l) v):Rep H (.agg (EC e)) v:=by
 unfold abO at h;repeat' split at h
 all_goals simp_all
 rename_i h1 _ _ h2 _ _ h3 _ _ h4 _ _ h5 _ _ h6 _ _ h7 _ _ h8;cases h;refine BJ hv rfl fun j s s' e1 e2 u hu=>?_
 match j,e1,e2 with
 |0,e1,e2=>grind [EC,Dn] |1,e1,e2=>grind [EC,Dn] |2,e1,e2=>grind [EC,Dn] |3,e1,e2=>grind [EC,Dn] |4,e1,e2=>grind [EC,Dn] |5,e1,e2=>grind [EC,Dn] |6,e1,e2=>grind [EC,Dn] |7,e1,e2=>simp[EC] at e1 e2;grind [Dn] |j+8,e1,e2=>simp_all
theorem D6{H:Mem}{c:Int}{u:Value}(h:Rep H (.i .i64 c) u):Rep H (.v (.int .i64 c)) u:=by
 cases h;exact .v _ rfl
end Go.AL
namespace Go.zM
open Go Go.Sx Go.AL
def apG:List Sh->Tree Sh
 |[.agg l]=>match abO l with
  |some e=>.need (OH e) (.node (fieldsB e) (.leaf (.v .nilIface)) (.leaf (.er 15 329))) |none=>.fail
 |_=>.fail
def apH:List Sh->Tree Sh
 |[.agg l]=>match abO l with
  |some e=>.need (BR e.ret) (.need (!OH e) (.leaf (.er 14 329))) |none=>.fail
 |_=>.fail
def F56:List Sh->Tree Sh
 |[.agg l]=>match abO l with
  |some e=>.need (BR e.ret) (.node (OH e) (.node (fieldsB e) (.leaf (.v .nilIface)) (.leaf (.er 15 329))) (.leaf (.er 14 329))) |none=>.fail
 |_=>.fail
theorem avh{H:Mem}{x t o p y v r:Int}{u:Value}(h:Rep H (.agg (EC ⟨1,x,t,o,p,y,v,r⟩)) u):Rep H (.agg [il 1,sy x,sy t,sy o,sy p,sy y,sy v,sy r]) u:=by
 refine BJ h rfl fun j s s' e1 e2 u hu=>?_
 match j,e1,e2 with
 |0,e1,e2|1,e1,e2|2,e1,e2|3,e1,e2|4,e1,e2|5,e1,e2|6,e1,e2|7,e1,e2=>simp[EC] at e1 e2;subst e1 e2;first|exact hu|exact D6 hu
 |j+8,e1,e2=>simp at e2
theorem avi{H:Mem}{x t o p y v r:Int}{u:Value}(h:Rep H (.agg (EC ⟨4,x,t,o,p,y,v,r⟩)) u):Rep H (.agg [il 4,sy x,sy t,sy o,sy p,sy y,sy v,sy r]) u:=by
 refine BJ h rfl fun j s s' e1 e2 u hu=>?_
 match j,e1,e2 with
 |0,e1,e2|1,e1,e2|2,e1,e2|3,e1,e2|4,e1,e2|5,e1,e2|6,e1,e2|7,e1,e2=>simp[EC] at e1 e2;subst e1 e2;first|exact hu|exact D6 hu
 |j+8,e1,e2=>simp at e2
theorem avj{H:Mem}{x t o p y v r:Int}{u:Value}(h:Rep H (.agg (EC ⟨5,x,t,o,p,y,v,r⟩)) u):Rep H (.agg [il 5,sy x,sy t,sy o,sy p,sy y,sy v,sy r]) u:=by
 refine BJ h rfl fun j s s' e1 e2 u hu=>?_
 match j,e1,e2 with
 |0,e1,e2|1,e1,e2|2,e1,e2|3,e1,e2|4,e1,e2|5,e1,e2|6,e1,e2|7,e1,e2=>simp[EC] at e1 e2;subst e1 e2;first|exact hu|exact D6 hu
 |j+8,e1,e2=>simp at e2
theorem avk{H:Mem}{x t o p y v r:Int}{u:Value}(h:Rep H (.agg (EC ⟨6,x,t,o,p,y,v,r⟩)) u):Rep H (.agg [il 6,sy x,sy t,sy o,sy p,sy y,sy v,sy r]) u:=by
 refine BJ h rfl fun j s s' e1 e2 u hu=>?_
 match j,e1,e2 with
 |0,e1,e2|1,e1,e2|2,e1,e2|3,e1,e2|4,e1,e2|5,e1,e2|6,e1,e2|7,e1,e2=>simp[EC] at e1 e2;subst e1 e2;first|exact hu|exact D6 hu
 |j+8,e1,e2=>simp at e2
theorem avl{H:Mem}{x t o p y v r:Int}{u:Value}(h:Rep H (.agg (EC ⟨7,x,t,o,p,y,v,r⟩)) u):Rep H (.agg [il 7,sy x,sy t,sy o,sy p,sy y,sy v,sy r]) u:=by
 refine BJ h rfl fun j s s' e1 e2 u hu=>?_
 match j,e1,e2 with
 |0,e1,e2|1,e1,e2|2,e1,e2|3,e1,e2|4,e1,e2|5,e1,e2|6,e1,e2|7,e1,e2=>simp[EC] at e1 e2;subst e1 e2;first|exact hu|exact D6 hu
 |j+8,e1,e2=>simp at e2
theorem apI{H:Mem}{x t o p y v r:Int}{u:Value}(h:Rep H (.agg (EC ⟨2,x,t,o,1,y,v,r⟩)) u):Rep H (.agg [il 2,sy x,sy t,sy o,il 1,sy y,sy v,sy r]) u:=by
 refine BJ h rfl fun j s s' e1 e2 u hu=>?_
 match j,e1,e2 with
 |0,e1,e2|1,e1,e2|2,e1,e2|3,e1,e2|4,e1,e2|5,e1,e2|6,e1,e2|7,e1,e2=>simp[EC] at e1 e2;subst e1 e2;first|exact hu|exact D6 hu
 |j+8,e1,e2=>simp at e2
theorem apJ{H:Mem}{x t o p y v r:Int}{u:Value}(h:Rep H (.agg (EC ⟨2,x,t,o,2,y,v,r⟩)) u):Rep H (.agg [il 2,sy x,sy t,sy o,il 2,sy y,sy v,sy r]) u:=by
 refine BJ h rfl fun j s s' e1 e2 u hu=>?_
 match j,e1,e2 with
 |0,e1,e2|1,e1,e2|2,e1,e2|3,e1,e2|4,e1,e2|5,e1,e2|6,e1,e2|7,e1,e2=>simp[EC] at e1 e2;subst e1 e2;first|exact hu|exact D6 hu
 |j+8,e1,e2=>simp at e2
theorem apK{H:Mem}{x t o p y v r:Int}{u:Value}(h:Rep H (.agg (EC ⟨2,x,t,o,3,y,v,r⟩)) u):Rep H (.agg [il 2,sy x,sy t,sy o,il 3,sy y,sy v,sy r]) u:=by
 refine BJ h rfl fun j s s' e1 e2 u hu=>?_
 match j,e1,e2 with
 |0,e1,e2|1,e1,e2|2,e1,e2|3,e1,e2|4,e1,e2|5,e1,e2|6,e1,e2|7,e1,e2=>simp[EC] at e1 e2;subst e1 e2;first|exact hu|exact D6 hu
 |j+8,e1,e2=>simp at e2
theorem apL{H:Mem}{x t o p y v r:Int}{u:Value}(h:Rep H (.agg (EC ⟨2,x,t,o,4,y,v,r⟩)) u):Rep H (.agg [il 2,sy x,sy t,sy o,il 4,sy y,sy v,sy r]) u:=by
 refine BJ h rfl fun j s s' e1 e2 u hu=>?_
 match j,e1,e2 with
 |0,e1,e2|1,e1,e2|2,e1,e2|3,e1,e2|4,e1,e2|5,e1,e2|6,e1,e2|7,e1,e2=>simp[EC] at e1 e2;subst e1 e2;first|exact hu|exact D6 hu
 |j+8,e1,e2=>simp at e2
theorem apM{H:Mem}{x t o p y v r:Int}{u:Value}(h:Rep H (.agg (EC ⟨2,x,t,o,5,y,v,r⟩)) u):Rep H (.agg [il 2,sy x,sy t,sy o,il 5,sy y,sy v,sy r]) u:=by
 refine BJ h rfl fun j s s' e1 e2 u hu=>?_
 match j,e1,e2 with
 |0,e1,e2|1,e1,e2|2,e1,e2|3,e1,e2|4,e1,e2|5,e1,e2|6,e1,e2|7,e1,e2=>simp[EC] at e1 e2;subst e1 e2;first|exact hu|exact D6 hu
 |j+8,e1,e2=>simp at e2
theorem apN{H:Mem}{x t o p y v r:Int}{u:Value}(h:Rep H (.agg (EC ⟨2,x,t,o,6,y,v,r⟩)) u):Rep H (.agg [il 2,sy x,sy t,sy o,il 6,sy y,sy v,sy r]) u:=by
 refine BJ h rfl fun j s s' e1 e2 u hu=>?_
 match j,e1,e2 with
 |0,e1,e2|1,e1,e2|2,e1,e2|3,e1,e2|4,e1,e2|5,e1,e2|6,e1,e2|7,e1,e2=>simp[EC] at e1 e2;subst e1 e2;first|exact hu|exact D6 hu
 |j+8,e1,e2=>simp at e2
theorem apO{H:Mem}{x t o p y v r:Int}{u:Value}(h:Rep H (.agg (EC ⟨2,x,t,o,7,y,v,r⟩)) u):Rep H (.agg [il 2,sy x,sy t,sy o,il 7,sy y,sy v,sy r]) u:=by
 refine BJ h rfl fun j s s' e1 e2 u hu=>?_
 match j,e1,e2 with
 |0,e1,e2|1,e1,e2|2,e1,e2|3,e1,e2|4,e1,e2|5,e1,e2|6,e1,e2|7,e1,e2=>simp[EC] at e1 e2;subst e1 e2;first|exact hu|exact D6 hu
 |j+8,e1,e2=>simp at e2
theorem apP{H:Mem}{x t o p y v r:Int}{u:Value}(h:Rep H (.agg (EC ⟨2,x,t,o,8,y,v,r⟩)) u):Rep H (.agg [il 2,sy x,sy t,sy o,il 8,sy y,sy v,sy r]) u:=by
 refine BJ h rfl fun j s s' e1 e2 u hu=>?_
 match j,e1,e2 with
 |0,e1,e2|1,e1,e2|2,e1,e2|3,e1,e2|4,e1,e2|5,e1,e2|6,e1,e2|7,e1,e2=>simp[EC] at e1 e2;subst e1 e2;first|exact hu|exact D6 hu
 |j+8,e1,e2=>simp at e2
theorem apQ{H:Mem}{x t o p y v r:Int}{u:Value}(h:Rep H (.agg (EC ⟨2,x,t,o,9,y,v,r⟩)) u):Rep H (.agg [il 2,sy x,sy t,sy o,il 9,sy y,sy v,sy r]) u:=by
 refine BJ h rfl fun j s s' e1 e2 u hu=>?_
 match j,e1,e2 with
 |0,e1,e2|1,e1,e2|2,e1,e2|3,e1,e2|4,e1,e2|5,e1,e2|6,e1,e2|7,e1,e2=>simp[EC] at e1 e2;subst e1 e2;first|exact hu|exact D6 hu
 |j+8,e1,e2=>simp at e2
theorem apR{H:Mem}{x t o p y v r:Int}{u:Value}(h:Rep H (.agg (EC ⟨3,x,t,o,p,y,v,1⟩)) u):Rep H (.agg [il 3,sy x,sy t,sy o,sy p,sy y,sy v,il 1]) u:=by
 refine BJ h rfl fun j s s' e1 e2 u hu=>?_
 match j,e1,e2 with
 |0,e1,e2|1,e1,e2|2,e1,e2|3,e1,e2|4,e1,e2|5,e1,e2|6,e1,e2|7,e1,e2=>simp[EC] at e1 e2;subst e1 e2;first|exact hu|exact D6 hu
 |j+8,e1,e2=>simp at e2
theorem apS{H:Mem}{x t o p y v r:Int}{u:Value}(h:Rep H (.agg (EC ⟨3,x,t,o,p,y,v,2⟩)) u):Rep H (.agg [il 3,sy x,sy t,sy o,sy p,sy y,sy v,il 2]) u:=by
 refine BJ h rfl fun j s s' e1 e2 u hu=>?_
 match j,e1,e2 with
 |0,e1,e2|1,e1,e2|2,e1,e2|3,e1,e2|4,e1,e2|5,e1,e2|6,e1,e2|7,e1,e2=>simp[EC] at e1 e2;subst e1 e2;first|exact hu|exact D6 hu
 |j+8,e1,e2=>simp at e2
theorem apT{H:Mem}{x t o p y v r:Int}{u:Value}(h:Rep H (.agg (EC ⟨3,x,t,o,p,y,v,3⟩)) u):Rep H (.agg [il 3,sy x,sy t,sy o,sy p,sy y,sy v,il 3]) u:=by
 refine BJ h rfl fun j s s' e1 e2 u hu=>?_
 match j,e1,e2 with
 |0,e1,e2|1,e1,e2|2,e1,e2|3,e1,e2|4,e1,e2|5,e1,e2|6,e1,e2|7,e1,e2=>simp[EC] at e1 e2;subst e1 e2;first|exact hu|exact D6 hu
 |j+8,e1,e2=>simp at e2
theorem codes{P:Ev->Prop}{e:Ev}(hc:Vh e)
  (h_1:∀x t o p y v r:Int,P ⟨1,x,t,o,p,y,v,r⟩)
  (h_4:∀x t o p y v r:Int,P ⟨4,x,t,o,p,y,v,r⟩)
  (h_5:∀x t o p y v r:Int,P ⟨5,x,t,o,p,y,v,r⟩)
  (h_6:∀x t o p y v r:Int,P ⟨6,x,t,o,p,y,v,r⟩)
  (h_7:∀x t o p y v r:Int,P ⟨7,x,t,o,p,y,v,r⟩)
  (azn:∀x t o p y v r:Int,P ⟨2,x,t,o,1,y,v,r⟩)
  (azo:∀x t o p y v r:Int,P ⟨2,x,t,o,2,y,v,r⟩)
  (azp:∀x t o p y v r:Int,P ⟨2,x,t,o,3,y,v,r⟩)
  (azq:∀x t o p y v r:Int,P ⟨2,x,t,o,4,y,v,r⟩)
  (azr:∀x t o p y v r:Int,P ⟨2,x,t,o,5,y,v,r⟩)
  (azs:∀x t o p y v r:Int,P ⟨2,x,t,o,6,y,v,r⟩)
  (azt:∀x t o p y v r:Int,P ⟨2,x,t,o,7,y,v,r⟩)
  (azu:∀x t o p y v r:Int,P ⟨2,x,t,o,8,y,v,r⟩)
  (azv:∀x t o p y v r:Int,P ⟨2,x,t,o,9,y,v,r⟩)
  (azw:∀x t o p y v r:Int,P ⟨3,x,t,o,p,y,v,1⟩)
  (azx:∀x t o p y v r:Int,P ⟨3,x,t,o,p,y,v,2⟩)
  (azy:∀x t o p y v r:Int,P ⟨3,x,t,o,p,y,v,3⟩)
  : P e:=by
 obtain ⟨k,x,t,o,p,y,v,r⟩:=e;obtain ⟨h1,h2,h3⟩:=hc;simp only at h1 h2 h3;have hk:k=1\/k=2\/k=3\/k=4\/k=5\/k=6\/k=7:=by omega
 rcases hk with rfl|rfl|rfl|rfl|rfl|rfl|rfl
 ·simp_all
 ·have h2:=h2 rfl
  have hp:p=1\/p=2\/p=3\/p=4\/p=5\/p=6\/p=7\/p=8\/p=9:=by omega
  rcases hp with rfl|rfl|rfl|rfl|rfl|rfl|rfl|rfl|rfl
  ·simp_all
  ·simp_all
  ·simp_all
  ·simp_all
  ·simp_all
  ·simp_all
  ·simp_all
  ·simp_all
  simp_all
 ·have h3:=h3 rfl
  have hr:r=1\/r=2\/r=3:=by omega
  (rcases hr with rfl|rfl|rfl)<;>simp_all
 ·simp_all
 ·simp_all
 ·simp_all
 simp_all
theorem avm{H:Mem}{w:World}{φ:Sh->Prop}{u:Value}{e:Ev}(hc:Vh e):Rep H (.agg (EC e)) u->(Aj e->φ (.v .nilIface))->(¬Aj e->φ (.er 15 329))->
  ∃Aq:List Sh,CU H Aq [u]/\CW (Bc aA (C5 zG W5 Ae zV) (K0 H w) bH φ) (Bv (C5 zG W5 Ae zV) 3000 101 [.code []] (zL 75 Aq L0)):=by
 refine codes (P:=fun e=>Rep H (.agg (EC e)) u->(Aj e->φ (.v .nilIface))->(¬Aj e->φ (.er 15 329))->
  ∃Aq:List Sh,CU H Aq [u]/\CW (Bc aA (C5 zG W5 Ae zV) (K0 H w) bH φ) (Bv (C5 zG W5 Ae zV) 3000 101 [.code []] (zL 75 Aq L0))) hc ?_ ?_ ?_ ?_ ?_ ?_ ?_ ?_ ?_ ?_ ?_ ?_ ?_ ?_ ?_ ?_ ?_
 ·exact fun x t o p y v r hr hN h9=>⟨[.agg [il 1,sy x,sy t,sy o,sy p,sy y,sy v,sy r]],⟨avh (p:=p) (r:=r) hr,trivial⟩,avc (p:=p) (r:=r) hN h9⟩
 ·exact fun x t o p y v r hr hN h9=>⟨[.agg [il 4,sy x,sy t,sy o,sy p,sy y,sy v,sy r]],⟨avi (p:=p) (r:=r) hr,trivial⟩,avd (p:=p) (r:=r) hN h9⟩
 ·exact fun x t o p y v r hr hN h9=>⟨[.agg [il 5,sy x,sy t,sy o,sy p,sy y,sy v,sy r]],⟨avj (p:=p) (r:=r) hr,trivial⟩,ave (p:=p) (r:=r) hN h9⟩
 ·exact fun x t o p y v r hr hN h9=>⟨[.agg [il 6,sy x,sy t,sy o,sy p,sy y,sy v,sy r]],⟨avk (p:=p) (r:=r) hr,trivial⟩,avf (p:=p) (r:=r) hN h9⟩
 ·exact fun x t o p y v r hr hN h9=>⟨[.agg [il 7,sy x,sy t,sy o,sy p,sy y,sy v,sy r]],⟨avl (p:=p) (r:=r) hr,trivial⟩,avg (p:=p) (r:=r) hN h9⟩
 ·exact fun x t o p y v r hr hN h9=>⟨[.agg [il 2,sy x,sy t,sy o,il 1,sy y,sy v,sy r]],⟨apI (p:=p) (r:=r) hr,trivial⟩,apu (p:=p) (r:=r) hN h9⟩
 ·exact fun x t o p y v r hr hN h9=>⟨[.agg [il 2,sy x,sy t,sy o,il 2,sy y,sy v,sy r]],⟨apJ (p:=p) (r:=r) hr,trivial⟩,apv (p:=p) (r:=r) hN h9⟩
 ·exact fun x t o p y v r hr hN h9=>⟨[.agg [il 2,sy x,sy t,sy o,il 3,sy y,sy v,sy r]],⟨apK (p:=p) (r:=r) hr,trivial⟩,apw (p:=p) (r:=r) hN h9⟩
 ·exact fun x t o p y v r hr hN h9=>⟨[.agg [il 2,sy x,sy t,sy o,il 4,sy y,sy v,sy r]],⟨apL (p:=p) (r:=r) hr,trivial⟩,apx (p:=p) (r:=r) hN h9⟩
 ·exact fun x t o p y v r hr hN h9=>⟨[.agg [il 2,sy x,sy t,sy o,il 5,sy y,sy v,sy r]],⟨apM (p:=p) (r:=r) hr,trivial⟩,apy (p:=p) (r:=r) hN h9⟩
 ·exact fun x t o p y v r hr hN h9=>⟨[.agg [il 2,sy x,sy t,sy o,il 6,sy y,sy v,sy r]],⟨apN (p:=p) (r:=r) hr,trivial⟩,apz (p:=p) (r:=r) hN h9⟩
 ·exact fun x t o p y v r hr hN h9=>⟨[.agg [il 2,sy x,sy t,sy o,il 7,sy y,sy v,sy r]],⟨apO (p:=p) (r:=r) hr,trivial⟩,apA (p:=p) (r:=r) hN h9⟩
 ·exact fun x t o p y v r hr hN h9=>⟨[.agg [il 2,sy x,sy t,sy o,il 8,sy y,sy v,sy r]],⟨apP (p:=p) (r:=r) hr,trivial⟩,apB (p:=p) (r:=r) hN h9⟩
 ·exact fun x t o p y v r hr hN h9=>⟨[.agg [il 2,sy x,sy t,sy o,il 9,sy y,sy v,sy r]],⟨apQ (p:=p) (r:=r) hr,trivial⟩,apC (p:=p) (r:=r) hN h9⟩
 ·exact fun x t o p y v r hr hN h9=>⟨[.agg [il 3,sy x,sy t,sy o,sy p,sy y,sy v,il 1]],⟨apR (p:=p) (r:=r) hr,trivial⟩,apD (p:=p) (r:=r) hN h9⟩
 ·exact fun x t o p y v r hr hN h9=>⟨[.agg [il 3,sy x,sy t,sy o,sy p,sy y,sy v,il 2]],⟨apS (p:=p) (r:=r) hr,trivial⟩,apE (p:=p) (r:=r) hN h9⟩
 ·exact fun x t o p y v r hr hN h9=>⟨[.agg [il 3,sy x,sy t,sy o,sy p,sy y,sy v,il 3]],⟨apT (p:=p) (r:=r) hr,trivial⟩,apF (p:=p) (r:=r) hN h9⟩
theorem axr:zZ aA (EO W5) 101 apG:=by
 refine GL (C:=C5 zG W5 Ae zV) (mO _ _) (ae7 _) (n:=3000) (L:=L0) (fn:=bH) (by kernel_rfl) (by kernel_rfl) fun H w Aq args φ hrep h=>?_
 have hn:bH.ntmps=75:=by kernel_rfl
 unfold apG at h;split at h
 ·rename_i l
  split at h
  ·rename_i e he
   obtain ⟨h1,h2,h3⟩:=h;match args,hrep with
   |[u],⟨hu,_⟩=>
    rw[hn];simp only[Bj];exact avm (of_decide_eq_true h1) (ahz he hu) (fun q=>h2 (decide_eq_true q)) (fun q=>h3 (decide_eq_false q))
  ·exact h.elim
 ·exact h.elim
end Go.zM
namespace Go.AL
open Go Go.Sx
theorem asf{p:Int}(h:¬(1<=p/\p<=9)):Dc p=0:=by
 have e:∀i:Int,1<=i->i<=9->(p==i)=ay:=fun i h1 h2=>by
  grind
 unfold Dc;grind
theorem apU{m:Nat}{c:Int}(h:BR c=aC)(hm:¬(1<=c/\c<=(m:Int))):Zz m c=ay:=by
 have h:=of_decide_eq_true h;unfold Zz idx;grind [BF]
end Go.AL
namespace Go.zM
open Go Go.Sx Go.AL
theorem Sz{ψ:Fin->Prop}{t:Tree Fin}(h:(dead t).All ψ):CW ψ t:=by
 rw[<-Bj];exact Nq h
theorem avn{H:Mem}{w:World}{φ:Sh->Prop}{k x t o p y v r:Int}(hk:¬(1<=k/\k<=7))(h8:φ (.er 14 329)):
  CW (Bc aA (C5 zG W5 Ae Ir) (K0 H w) bH φ) (Bv (C5 zG W5 Ae Ir) 3000 101 [.code []] (zL 75 [.agg [sy k,sy x,sy t,sy o,sy p,sy y,sy v,sy r]] L0)):=by
 apply Sz;rw[avb zG W5 k x t o p y v r];have n1:k≠1:=by omega
 have n2:k≠2:=by omega
 have n3:k≠3:=by omega
 have n4:k≠4:=by omega
 have n5:k≠5:=by omega
 have n6:k≠6:=by omega
 have n7:k≠7:=by omega
 simp_all [eY,Bc,cu,gY,Ac]
theorem avo{H:Mem}{w:World}{φ:Sh->Prop}{x t o p y v r:Int}(hp:¬(1<=p/\p<=9))(h8:φ (.er 14 329)):
  CW (Bc aA (C5 zG W5 Ae Ir) (K0 H w) bH φ) (Bv (C5 zG W5 Ae Ir) 3000 101 [.code []] (zL 75 [.agg [il 2,sy x,sy t,sy o,sy p,sy y,sy v,sy r]] L0)):=by
 apply Sz;rw[asc zG W5 0 x t o p y v r];simp[eY,Bc,cu,gY,Ac,asf hp,h8]
theorem avp{H:Mem}{w:World}{φ:Sh->Prop}{x t o p y v r:Int}(hi:BR r=aC)(hr:¬(1<=r/\r<=3))(h8:φ (.er 14 329)):
  CW (Bc aA (C5 zG W5 Ae Ir) (K0 H w) bH φ) (Bv (C5 zG W5 Ae Ir) 3000 101 [.code []] (zL 75 [.agg [il 3,sy x,sy t,sy o,sy p,sy y,sy v,sy r]] L0)):=by
 apply Sz;rw[ase zG W5 0 x t o p y v r,Po akY,apU hi (by omega)];simp[eY,Bc,cu,gY,h8]
theorem asg{H:Mem}{w:World}{φ:Sh->Prop}{u:Value}{e:Ev}(hi:BR e.ret=aC)(hc:¬Vh e)(hr:Rep H (.agg (EC e)) u)(h8:φ (.er 14 329)):
  ∃Aq:List Sh,CU H Aq [u]/\CW (Bc aA (C5 zG W5 Ae Ir) (K0 H w) bH φ) (Bv (C5 zG W5 Ae Ir) 3000 101 [.code []] (zL 75 Aq L0)):=by
 obtain ⟨k,x,t,o,p,y,v,r⟩:=e;by_cases h1:1<=k/\k<=7
 ·by_cases h2:k=2
  ·subst h2
   have:¬(1<=p/\p<=9):=fun h=>hc ⟨h1,fun _=>h,fun q=>by simp at q⟩;refine ⟨[.agg [il 2,sy x,sy t,sy o,sy p,sy y,sy v,sy r]],⟨BJ hr rfl fun j s s' e1 e2 u hu=>?_,trivial⟩,avo this h8⟩;grind [EC,D6,il,sy]
  ·have h3:k=3:=by
    apply yF;intro h3;exact hc ⟨h1,fun q=>absurd q h2,fun q=>absurd q h3⟩
   subst h3;have:¬(1<=r/\r<=3):=fun h=>hc ⟨h1,fun q=>by simp at q,fun _=>h⟩;refine ⟨[.agg [il 3,sy x,sy t,sy o,sy p,sy y,sy v,sy r]],⟨BJ hr rfl fun j s s' e1 e2 u hu=>?_,trivial⟩,avp hi this h8⟩;grind [EC,D6,il,sy]
 ·exact ⟨[.agg [sy k,sy x,sy t,sy o,sy p,sy y,sy v,sy r]],⟨hr,trivial⟩,avn h1 h8⟩
theorem axt:zZ aA (EO W5) 101 apH:=by
 refine GL (C:=C5 zG W5 Ae Ir) (mO _ _) (ae7 _) (n:=3000) (L:=L0) (fn:=bH) (by kernel_rfl) (by kernel_rfl) fun H w Aq args φ hrep h=>?_
 have hn:bH.ntmps=75:=by kernel_rfl
 unfold apH at h;split at h
 ·rename_i l
  split at h
  ·rename_i e he
   obtain ⟨h1,h2,h3⟩:=h;match args,hrep with
   |[u],⟨hu,_⟩=>
    rw[hn];simp only[Bj];have hc:¬Vh e:=fun q=>by
     simp_all [OH,decide_eq_true]
    exact asg h1 hc (ahz he hu) h3
  ·exact h.elim
 ·exact h.elim
theorem O56:zZ aA (EO W5) 101 F56:=by
 intro H w Aq args φ hon hg hr hφ;unfold F56 at hφ;split at hφ
 ·rename_i l
  split at hφ
  ·rename_i e he
   obtain ⟨h1,h2,h3⟩:=hφ;cases hc:OH e with
   |true=>
    refine axr H w _ args φ hon hg hr ?_;simp only[apG,he];exact ⟨hc,h2 hc⟩
   |false=>
    refine axt H w _ args φ hon hg hr ?_;simp only[apH,he];exact ⟨h1,by rw[hc];rfl,h3 hc⟩
  ·exact hφ.elim
 ·exact hφ.elim
def F55:List Sh->Tree Sh
 |[s,.er e 329]=>match Ak s with
  |some x=>.leaf (.BM 109 (.pt [.i .i64 x,.er e 329])) |none=>.fail
 |_=>.fail
theorem O55:zZ aA (EO W5) 100 F55:=by
 refine GL (C:=C5 zG W5 Ae zW) (mO _ _) (ae7 _) (n:=300) (L:=L0) (fn:=nH) (by kernel_rfl) (by kernel_rfl) fun H w Aq args φ hrep h=>?_
 have hn:nH.ntmps=10:=by kernel_rfl
 unfold F55 at h;split at h
 ·rename_i s e
  split at h
  ·rename_i x hx
   match args,hrep with
   |[u,v],⟨hu,hv,_⟩=>
    refine ⟨[.i .i64 x,.er e 329],⟨Dn hx hu,hv,trivial⟩,?_⟩;rw[hn,a55 zG W5 x e];exact h
  ·exact h.elim
 ·exact h.elim
def Jr:Nat->Option (List Sh->Tree Sh)
 |99=>ak F54 |100=>ak F55 |101=>ak F56 |102=>ak F57 |_=>aK
theorem axu:∀g F,Jr g=ak F->zZ aA (EO W5) g F:=fun g F h=>by
 unfold Jr at h;split at h
 ·cases h;exact O54
 ·cases h;exact O55
 ·cases h;exact O56
 ·cases h;exact O57
 ·cases h
theorem ajv(stop:Nat->List Nat->Bool):AU aA (C5 zG W5 Jr stop):=C5.O5 axu fun g h=>by
 unfold Jr at h;split at h;all_goals first|(cases h;done) |kernel_rfl
def adL:List It:=[bF [0,1,0,1,1,1],bZ 2,bF [1,1,1,1]]
def ati:List It:=[bF [0,0,1,0,1,1,1],bF [0,1,0,1,1,1],bZ 2,bF [1,1,1,1]]
def adM(n m:Nat)(o:Nat->Oj)(p:Nat->Ev)(c i:Int):Core:=
 {tm:=[.any,.ptr 0 0,.CS]++rep [.any] 18++[.sh (.sl 2 n (zH o)),.sym .i64 c,.sym .i64 i]++rep [.any] 54,
  hp:=[(0,.box [.sh (.sl 2 n (zH o)),.sh (.sl 8 m (zH p))] 25)],nx:=1,lim:=L0,tc:=[]}
def Vj(n m:Nat)(o:Nat->Oj)(p:Nat->Ev)(c i:Int):Core:=
 {tm:=[.any,.ptr 0 0,.CS]++rep [.any] 34++[.sh (.sl 8 m (zH p)),.sym .i64 c,.sym .i64 i]++rep [.any] 38,
  hp:=[(0,.box [.sh (.sl 2 n (zH o)),.sh (.sl 8 m (zH p))] 25)],nx:=1,lim:=L0,tc:=[]}
theorem a51(A:Prim)(W:Wd)(n m:Nat)(o:Nat->Oj)(p:Nat->Ev)(c' i':Int):AA (C5 A W Jr zW) Dh 300 200 77 [.code []] (zL 78 [.agg [.sl 2 n (zH o),.sl 8 m (zH p)]] L0) [] [⟨77,Ik,adM n m o p c' i',[]⟩]=aF (A.lt (ah 8) (A.Aa n)) (aB (aS (aW 6 329))) (aF (A.lt (ah 400) (A.Aa m)) (aB (aS (aW 6 329))) (aB (bJ 0 [aP (aI 2 n (zH o)) (aI 2 n (zH o)),aj (A.Aa n) c',aj (ah 0) i',aP (aI 2 n (zH o)) (aI 2 n (zH o)),aP (aI 8 m (zH p)) (aI 8 m (zH p))]))):=by kernel_rfl
theorem b51(A:Prim)(W:Wd)(n m:Nat)(o:Nat->Oj)(p:Nat->Ev)(c i i' d' j':Int):AA (C5 A W Jr zW) Dh 300 200 77 WX (adM n m o p c i) [] [⟨77,Ik,adM n m o p c i',[]⟩,⟨77,adL,Vj n m o p d' j',[]⟩]=aF (A.lt i c) (aH (A.inB i n) (aF (abN (o (A.toN i)).kind (o (A.toN i)).init) (aB (bJ 0 [aP (aI 2 n (zH o)) (aI 2 n (zH o)),aj c c,aj (A.add .i64 i (ah 1)) i',aP (aI 2 n (zH o)) (aI 2 n (zH o)),aP (aI 8 m (zH p)) (aI 8 m (zH p))])) (aB (aS (mZ 109 (qo [aT .i64 i,aW 7 329])))))) (aB (bJ 1 [aP (aI 8 m (zH p)) (aI 8 m (zH p)),aj (A.Aa m) d',aj (ah 0) j',aP (aI 2 n (zH o)) (aI 2 n (zH o)),aP (aI 8 m (zH p)) (aI 8 m (zH p))])):=by kernel_rfl
theorem c51(A:Prim)(W:Wd)(n m:Nat)(o:Nat->Oj)(p:Nat->Ev)(c i i':Int):AA (C5 A W Jr zW) Dh 300 200 77 ati (Vj n m o p c i) [] [⟨77,adL,Vj n m o p c i',[]⟩]=aF (A.lt i c) (aH (A.inB i m) (aH (BR ({kind:=(p (A.toN i)).kind,tx:=(p (A.toN i)).tx,thread:=(p (A.toN i)).thread,obj:=(p (A.toN i)).obj,op:=(p (A.toN i)).op,key:=(p (A.toN i)).key,val:=(p (A.toN i)).val,ret:=(p (A.toN i)).ret}:Ev).ret) (aF (OH {kind:=(p (A.toN i)).kind,tx:=(p (A.toN i)).tx,thread:=(p (A.toN i)).thread,obj:=(p (A.toN i)).obj,op:=(p (A.toN i)).op,key:=(p (A.toN i)).key,val:=(p (A.toN i)).val,ret:=(p (A.toN i)).ret}) (aF (AL.fieldsB {kind:=(p (A.toN i)).kind,tx:=(p (A.toN i)).tx,thread:=(p (A.toN i)).thread,obj:=(p (A.toN i)).obj,op:=(p (A.toN i)).op,key:=(p (A.toN i)).key,val:=(p (A.toN i)).val,ret:=(p (A.toN i)).ret}) (aF (A.nt (A.eq (p (A.toN i)).kind (ah 2))) (aB (bJ 0 [aP (aI 8 m (zH p)) (aI 8 m (zH p)),aj c c,aj (A.add .i64 i (ah 1)) i',aP (aI 2 n (zH o)) (aI 2 n (zH o)),aP (aI 8 m (zH p)) (aI 8 m (zH p))])) (aF (A.le (A.Aa n) (p (A.toN i)).obj) (aB (aS (mZ 109 (qo [aT .i64 i,aW 7 329])))) (aH (A.inB (p (A.toN i)).obj n) (aF (A.nt (A.eq (Dc (p (A.toN i)).op) (o (A.toN (p (A.toN i)).obj)).kind)) (aB (aS (mZ 109 (qo [aT .i64 i,aW 8 329])))) (aB (bJ 0 [aP (aI 8 m (zH p)) (aI 8 m (zH p)),aj c c,aj (A.add .i64 i (ah 1)) i',aP (aI 2 n (zH o)) (aI 2 n (zH o)),aP (aI 8 m (zH p)) (aI 8 m (zH p))])))))) (aB (aS (mZ 109 (qo [aT .i64 i,aW 15 329]))))) (aB (aS (mZ 109 (qo [aT .i64 i,aW 14 329]))))))) (aB (aS (iW bG))):=by kernel_rfl
end Go.zM
namespace Go.AL
open Go Go.Sx
def JW(n:Nat)(o:Nat->Oj)(e:Ev):Option Nat:=
 bif OH e then bif fieldsB e then bif e.kind==2 then bif decide ((n:Int)<=e.obj) then ak 7 else bif Dc e.op==(o e.obj.toNat).kind then aK else ak 8 else aK else ak 15 else ak 14
def OI(o:Oj):Option Nat:=bif abN o.kind o.init then aK else ak 7
def GV(f:Nat->Option Nat):Nat->Nat->Option (Nat×Nat)
 |_,0=>aK |k,m+1=>match f k with
  |some e=>ak (k,e) |none=>GV f (k+1) m
def resE:Option (Nat×Nat)->Sh
 |none=>.v .nilIface |some (k,e)=>.BM 109 (.pt [.i .i64 (k:Int),.er e 329])
theorem Zg{e:Ev}(h:fieldsB e=aC)(hk:e.kind=2):0<=e.obj:=by
 have h:=of_decide_eq_true h;unfold Aj at h;omega
end Go.AL
namespace Go.zM
open Go Go.Sx Go.AL
theorem ahA{H0:Mem}{w0:World}{n m:Nat}{o:Nat->Oj}{p:Nat->Ev}{φ:Sh->Prop}(hm:m<=400)(hi:∀k,k<m->BR (p k).ret=aC):
  ∀rm k,k+rm=m->φ (resE (GV (fun k=>JW n o (p k)) k rm))->Aw aA (C5 zG W5 Jr zW) (K0 H0 w0) 77 adL (Vj n m o p (m:Int) k) [] emp φ
 |rm,k,hk,hφ=>by
  refine G6 (fn:=iF) (tb:=ati) (by kernel_rfl) (by kernel_rfl) ?_;refine Gv (mO _ _) (ajv _) (hold:=Dh) (m:=300) (n:=200) (ts:=[⟨77,adL,Vj n m o p (m:Int) (k+1:Nat),[]⟩]) ?_;rw[c51 zG W5 n m o p (m:Int) k (k+1:Nat)];simp only[zN,Dy,Ad,AY,BL,Ac,Bh,CB,Gl,eY,H8,fB];have hstep:aU.wrap ((k:Int)+1)=((k+1:Nat):Int)\/m<k:=by
   by_cases h:m<k
   ·exact .inr h
   ·left;rw[BF (by omega) (by omega)];rfl
  refine ⟨fun h=>?_,fun h=>?_⟩
  ·have hlt:k<m:=by simp at h;omega
   have hw:=hstep.resolve_right (by omega);match rm,hk,hφ with
   |0,hk,_=>omega |rm+1,hk,hφ=>
    have next:JW n o (p k)=aK->Aw aA (C5 zG W5 Jr zW) (K0 H0 w0) 77 adL (Vj n m o p (m:Int) (k+1:Nat)) [] emp φ:=fun hn=>ahA hm hi rm (k+1) (by omega) (by simpa only[GV,hn] using hφ);have bad:∀e,JW n o (p k)=ak e->φ (.BM 109 (.pt [.i .i64 (k:Int),.er e 329])):=fun e he=>by
     simpa only[GV,he,resE] using hφ
    refine ⟨by simp;omega,hi k hlt,fun q1=>⟨fun q2=>⟨fun q3=>?_,fun q3=>⟨fun q4=>?_,fun q4=>⟨?_,fun q5=>?_,fun q5=>?_⟩⟩⟩,fun q2=>?_⟩,fun q1=>?_⟩
    ·refine ⟨⟨rfl,rfl,hw,rfl,rfl,trivial⟩,_,rfl,next ?_⟩
     have k2:((p k).kind==2)=ay:=by simpa using q3
     unfold JW;rw[q1,q2,k2];rfl
    ·have k2:((p k).kind==2)=aC:=by simpa using q3
     apply bad;unfold JW;rw[q1,q2,k2,q4];rfl
    ·have:=Zg q2 (by simpa using q3)
     simp at q4;simp;omega
    ·have k2:((p k).kind==2)=aC:=by simpa using q3
     have k3:(Dc (p k).op==(o (p k).obj.toNat).kind)=ay:=by simpa using q5
     apply bad;unfold JW;rw[q1,q2,k2,q4,k3];rfl
    ·have k2:((p k).kind==2)=aC:=by simpa using q3
     have k3:(Dc (p k).op==(o (p k).obj.toNat).kind)=aC:=by simpa using q5
     refine ⟨⟨rfl,rfl,hw,rfl,rfl,trivial⟩,_,rfl,next ?_⟩;unfold JW;rw[q1,q2,k2,q4,k3];rfl
    ·apply bad;unfold JW;rw[q1,q2];rfl
    ·apply bad;unfold JW;rw[q1];rfl
  ·have:k=m:=by simp at h;omega
   have:rm=0:=by omega
   subst this;exact hφ
end Go.zM
namespace Go.AL
open Go Go.Sx
def Ui(n m:Nat)(o:Nat->Oj)(p:Nat->Ev):Option (Nat×Nat):=
 match GV (fun k=>OI (o k)) 0 n with
 |some x=>ak x |none=>GV (fun k=>JW n o (p k)) 0 m
def apV(n m:Nat)(o:Nat->Oj)(p:Nat->Ev)(k:Nat):Nat->Option (Nat×Nat):=fun r=>
 match GV (fun k=>OI (o k)) k r with
 |some x=>ak x |none=>GV (fun k=>JW n o (p k)) 0 m
end Go.AL
namespace Go.zM
open Go Go.Sx Go.AL
theorem akZ{H0:Mem}{w0:World}{n m:Nat}{o:Nat->Oj}{p:Nat->Ev}{φ:Sh->Prop}(hn:n<=8)(hm:m<=400)(hi:∀k,k<m->BR (p k).ret=aC):
  ∀rm k,k+rm=n->φ (resE (apV n m o p k rm))->Aw aA (C5 zG W5 Jr zW) (K0 H0 w0) 77 Ik (adM n m o p (n:Int) k) [] emp φ
 |rm,k,hk,hφ=>by
  refine G6 (fn:=iF) (tb:=WX) (by kernel_rfl) (by kernel_rfl) ?_;refine Gv (mO _ _) (ajv _) (hold:=Dh) (m:=300) (n:=200) (ts:=[⟨77,Ik,adM n m o p (n:Int) (k+1:Nat),[]⟩,⟨77,adL,Vj n m o p (m:Int) (0:Nat),[]⟩]) ?_;rw[b51 zG W5 n m o p (n:Int) k (k+1:Nat) (m:Int) (0:Nat)];simp only[zN,Ad,AY,BL,CB,Gl,eY,H8,fB];refine ⟨fun h=>?_,fun h=>?_⟩
  ·have hlt:k<n:=by simp at h;omega
   have hw:aU.wrap ((k:Int)+1)=((k+1:Nat):Int):=by rw[BF (by omega) (by omega)];rfl
   match rm,hk,hφ with
   |0,hk,_=>omega |rm+1,hk,hφ=>
    refine ⟨by simp;omega,fun q=>?_,fun q=>?_⟩
    ·have e:OI (o k)=aK:=by unfold OI;rw[q];rfl
     exact ⟨⟨rfl,rfl,hw,rfl,rfl,trivial⟩,_,rfl,akZ hn hm hi rm (k+1) (by omega) (by simpa only[apV,GV,e] using hφ)⟩
    ·have e:OI (o k)=ak 7:=by unfold OI;rw[q];rfl
     simpa only[apV,GV,e,resE] using hφ
  ·have:k=n:=by simp at h;omega
   have:rm=0:=by omega
   subst this;exact ⟨⟨rfl,rfl,rfl,rfl,rfl,trivial⟩,_,rfl,ahA hm hi m 0 (by omega) hφ⟩
end Go.zM
namespace Go.AL
open Go Go.Sx
def Qv(m:Nat)(h:Nat->List Sh):Bool:=(aY m).all fun k=>BR (zJ (α:=Ev) h k).ret
def Kq(n m:Nat)(g h:Nat->List Sh):Int:=match Ui n m (zJ g) (zJ h) with|some (k,_)=>(k:Int) |none=>0
def OJ(n m:Nat)(g h:Nat->List Sh):Nat:=match Ui n m (zJ g) (zJ h) with|some (_,e)=>e|none=>0
def FB(n m:Nat)(g h:Nat->List Sh):Bool:=(Ui n m (zJ g) (zJ h)).isNone
def Gg(n m:Nat):Bool:=decide (8<n\/400<m)
end Go.AL
namespace Go.zM
open Go Go.Sx Go.AL
def F51:List Sh->Tree Sh
 |[.agg [.sl 2 n g,.sl 8 m h]]=>.need (okB Oj n g) (.need (okB Ev m h) (.need (Qv m h) (.node (Gg n m) (.leaf (.er 6 329)) (.node (FB n m g h) (.leaf (.v .nilIface)) (.leaf (.BM 109 (.pt [.i .i64 (Kq n m g h),.er (OJ n m g h) 329]))))))) |_=>.fail
theorem O51:zZ aA (EO W5) 77 F51:=by
 refine J8 (C:=C5 zG W5 Jr zW) (mO _ _) (fn:=iF) (by kernel_rfl) (by kernel_rfl) fun H w Aq args φ hrep h=>?_
 have hn:iF.ntmps=78:=by kernel_rfl
 unfold F51 at h;split at h
 ·rename_i n g m h'
  obtain ⟨h1,h2,h3,h4,h5⟩:=h;match args,hrep with
  |[v],⟨hv,_⟩=>
   rw[hn];refine ⟨[.agg [.sl 2 n (zH (zJ (α:=Oj) g)),.sl 8 m (zH (zJ (α:=Ev) h'))]],⟨Sv hv h1 h2,trivial⟩,L0,?_⟩;refine Gv (mO _ _) (ajv _) (hold:=Dh) (m:=300) (n:=200) (ts:=[⟨77,Ik,adM n m (zJ g) (zJ h') (n:Int) (0:Nat),[]⟩]) ?_;rw[a51 zG W5 n m (zJ g) (zJ h') (n:Int) (0:Nat)];refine ⟨fun q=>h4 ?_,fun q=>⟨fun q'=>h4 ?_,fun q'=>⟨⟨rfl,rfl,rfl,rfl,rfl,trivial⟩,_,rfl,?_⟩⟩⟩
   ·simp[zN,Ad] at q;simp[Gg];omega
   ·simp[zN,Ad] at q';simp[Gg];omega
   ·simp[zN,Ad] at q q'
    have h5:=h5 (by simp[Gg];omega);refine akZ (by omega) (by omega) (fun k hk=>?_) n 0 (by omega) ?_
    ·exact List.all_eq_true.1 h3 k (List.mem_range.2 hk)
    ·show φ (resE (Ui n m (zJ g) (zJ h')))
     obtain ⟨hT,hF⟩:=h5;unfold FB at hT hF;unfold Kq OJ at hF;cases hb:Ui n m (zJ (α:=Oj) g) (zJ (α:=Ev) h') with
     |none=>rw[hb] at hT;exact hT rfl |some x=>rw[hb] at hF;exact hF rfl
 ·exact h.elim
theorem ae8{H:Mem}{st st':Nat}{g g':Nat->List Sh}{v:Value}(h:Rep H (.sl st 0 g) v):Rep H (.sl st' 0 g') v:=by
 cases h with
 |sl0 _ _ A cap hc=>exact .sl0 _ _ _ _ hc |sl _ _ _ b off cap c h1 h2=>exact .sl0 _ _ _ _ h2
theorem Bd{H:Mem}{st n:Nat}{s:Sh}{g:Nat->List Sh}{v:Value}(hs:DI st s=ak (n,g))(h:Rep H s v):Rep H (.sl st n g) v:=by
 rcases akX hs with rfl|⟨g',rfl,rfl,rfl⟩
 ·exact h
 ·exact ae8 h
theorem ajw{H:Mem}{s0 s1 s0' s1':Sh}{v:Value}(hv:Rep H (.agg [s0,s1]) v)(h0:∀u,Rep H s0 u->Rep H s0' u)(h1:∀u,Rep H s1 u->Rep H s1' u):Rep H (.agg [s0',s1']) v:=by
 cases hv with
 |agg _ vs h2 h3=>
  refine .agg _ vs h2 fun j s v' e1 e2=>?_
  match j,e1 with
  |0,e1=>simp at e1;subst e1;exact h0 _ (h3 0 _ v' rfl e2) |1,e1=>simp at e1;subst e1;exact h1 _ (h3 1 _ v' rfl e2) |j+2,e1=>simp at e1
def apW:List Sh->Tree Sh
 |[.agg [s0,s1]]=>match DI 2 s0,DI 8 s1 with
  |some (n,g),ak (m,h)=>F51 [.agg [.sl 2 n g,.sl 8 m h]] |_,_=>.fail
 |_=>.fail
theorem axv:zZ aA (EO W5) 77 apW:=fun H w Aq args φ h1 h2 h3 h4=>by
 unfold apW at h4;split at h4
 ·rename_i s0 s1
  split at h4
  ·rename_i n g m h e1 e2
   match args,h3 with
   |[v],⟨hv,_⟩=>exact O51 H w [.agg [.sl 2 n g,.sl 8 m h]] [v] φ h1 h2 ⟨ajw hv (fun u=>Bd e1) (fun u=>Bd e2),trivial⟩ h4
  ·exact h4.elim
 ·exact h4.elim
theorem a67(A:Prim)(W:Wd)(x y:Int):Bv (C5 A W noSpec zV) 300 128 [.code []] (zL 36 [.i .i64 x,.i .i64 y] L0)=aF (A.eq x (ah 2)) (aB (aN (gG (A.eq y (ah 1))))) (aF (A.eq x (ah 3)) (aB (aN (gG (A.eq y (ah 1))))) (aF (A.eq x (ah 5)) (aB (aN (gG (A.eq y (ah 1))))) (aF (A.eq x (ah 7)) (aB (aN (gG (A.eq y (ah 1))))) (aF (A.eq x (ah 1)) (aB (aN (gG (A.eq y (ah 3))))) (aF (A.eq x (ah 4)) (aB (aN (gG (A.eq y (ah 3))))) (aF (A.eq x (ah 6)) (aF (A.eq y (ah 2)) (aB (aN (gG aC))) (aB (aN (gG (A.eq y (ah 3)))))) (aF (A.eq x (ah 8)) (aF (A.eq y (ah 2)) (aB (aN (gG aC))) (aB (aN (gG (A.eq y (ah 3)))))) (aF (A.eq x (ah 9)) (aF (A.eq y (ah 2)) (aB (aN (gG aC))) (aB (aN (gG (A.eq y (ah 3)))))) (aB (aN (gG ay))))))))))):=by kernel_rfl
end Go.zM
namespace Go.AL
open Go Go.Sx
def Qw(x y:Int):Bool:=
 bif x==2 then y==1 else bif x==3 then y==1 else bif x==5 then y==1 else bif x==7 then y==1 else bif x==1 then y==3 else bif x==4 then y==3 else
 bif x==6 then (bif y==2 then aC else y==3) else bif x==8 then (bif y==2 then aC else y==3) else bif x==9 then (bif y==2 then aC else y==3) else ay
end Go.AL
namespace Go.zM
open Go Go.Sx Go.AL
theorem amc{ψ:Bool->Prop}{b x y:Bool}(h:ψ (bif b then x else y)):(b=aC->ψ x)/\(b=ay->ψ y):=by
 cases b
 ·exact ⟨fun q=>(by cases q),fun _=>h⟩
 ·exact ⟨fun _=>h,fun q=>by cases q⟩
def F67:List Sh->Tree Sh
 |[s,t]=>match Ak s with
  |some x=>match Ak t with
   |some y=>.leaf (.b (Qw x y)) |none=>.fail
  |none=>.fail
 |_=>.fail
theorem O67:zZ aA (EO W5) 128 F67:=by
 refine GL (C:=C5 zG W5 noSpec zV) (mO _ _) (Kv _) (n:=300) (L:=L0) (fn:=nI) (by kernel_rfl) (by kernel_rfl) fun H w Aq args φ hrep h=>?_
 have hn:nI.ntmps=36:=by kernel_rfl
 unfold F67 at h;split at h
 ·rename_i s t
  split at h
  ·rename_i x hx
   split at h
   ·rename_i y hy
    match args,hrep with
    |[u,v],⟨hu,hv,_⟩=>
     refine ⟨[.i .i64 x,.i .i64 y],⟨Dn hx hu,Dn hy hv,trivial⟩,?_⟩;rw[hn,a67 zG W5 x y,Bj];have h:φ (.b (Qw x y)):=h;have r:∀{b:Bool} {c d:Bool},φ (.b (bif b then c else d))->(b=aC->φ (.b c))/\(b=ay->φ (.b d)):=fun h=>amc (ψ:=fun b=>φ (.b b)) h;rw[<-Bj];have h1:=r h;refine ⟨h1.1,fun q=>?_⟩;have h1:=r (h1.2 q);refine ⟨h1.1,fun q=>?_⟩;have h1:=r (h1.2 q);refine ⟨h1.1,fun q=>?_⟩;have h1:=r (h1.2 q);refine ⟨h1.1,fun q=>?_⟩;have h1:=r (h1.2 q);refine ⟨h1.1,fun q=>?_⟩;have h1:=r (h1.2 q);refine ⟨h1.1,fun q=>?_⟩;have h1:=r (h1.2 q);refine ⟨fun q=>r (h1.1 q),fun q=>?_⟩;have h1:=r (h1.2 q);refine ⟨fun q=>r (h1.1 q),fun q=>?_⟩;have h1:=r (h1.2 q);exact ⟨fun q=>r (h1.1 q),h1.2⟩
   ·exact h.elim
  ·exact h.elim
 ·exact h.elim
end Go.zM
namespace Go.AL
open Go Go.Sx
def tmO(n:Nat)(l:List (Nat×SV)):List SV:=l.foldl (fun t p=>t.set p.1 p.2) (List.replicate n .any)
structure De where
 obj:Int
 op:Int
 key:Int
 val:Int
 ret:Int
 got:Int
 here:Int
 back:Int
 deriving DecidableEq,Inhabited
def deR(e:De):List Sh:=[.i .i64 e.obj,.i .i64 e.op,.i .i64 e.key,.i .i64 e.val,.i .i64 e.ret,.i .i64 e.got,.i .i64 e.here,.i .i64 e.back]
instance:Row De where
 put:=deR
 get l:=match l with
  |[.i .i64 a,.i .i64 b,.i .i64 c,.i .i64 d,.i .i64 e,.i .i64 f,.i .i64 g,.i .i64 h]=>ak ⟨a,b,c,d,e,f,g,h⟩ |_=>aK
 Dk l a h:=by
  split at h
  ·cases h;rfl
  ·cases h
 get_put a:=rfl
 Jl:=⟨0,0,0,0,0,0,0,0⟩
def Bl(e:Ev):Bool:=OH e&&fieldsB e&&BR e.ret
end Go.AL
namespace Go.zM
open Go Go.Sx Go.AL
def apX:List Sh->Tree Sh
 |[.agg l]=>match abO l with
  |some e=>.need (Bl e) (.leaf (.v .nilIface)) |none=>.fail
 |_=>.fail
def BI:Nat->Option (List Sh->Tree Sh)
 |101=>ak apX |102=>ak F57 |128=>ak F67 |_=>aK
def hpA(n m:Nat)(o:Nat->Oj)(many:Int)(gR:Nat->List Sh)(M1 M2:Int->Option Value)(f1 f2:List (Int×Bool×SV)):List (Nat×SB):=
 [(0,.box [.gs 6,.sym .i64 many,.gs 1,.mp 2,.mp 3] 181),(1,.own 182 1 m gR),(2,.fm .i64 M1 f1 [] aK),(3,.fm .i64 M2 f2 [] aK),(6,.own 140 2 n (zH o))]
def hpR(a b c d x y z:Int)(k:Nat)(gd:Nat->List Sh):List (Nat×SB):=
 [(4,.box [.sym .i64 a,.sym .i64 b,.sym .i64 c,.sym .i64 d,.sym .i64 x,.sym .i64 y,.gs 5,.sym .i64 z] 184),(5,.own 197 8 k gd)]
def evS(kind:Int)(e:Ev):SV:=.agg [.int .i64 kind,.sym .i64 e.tx,.sym .i64 e.thread,.sym .i64 e.obj,.sym .i64 e.op,.sym .i64 e.key,.sym .i64 e.val,.sym .i64 e.ret]
def LA(kind:Int)(e:Ev)(hp:List (Nat×SB)):Core:={tm:=tmO 168 [(0,.ptr 0 0),(1,evS kind e)],hp,nx:=7,lim:=L0,tc:=[]}
def toR(n m:Nat)(o:Nat->Oj)(gR:Nat->List Sh)(M1 M2:Int->Option Value)(e:Ev)(many' a' b' c' d' x' y' z':Int)(k':Nat)(gd':Nat->List Sh)(us:List (Int×Bool×SV)):QS:=
 ⟨[(0,.box [.gs 6,.sym .i64 many',.gs 1,.mp 2,.mp 3] 181),(1,.own 182 1 m gR),(2,.fm .i64 M1 [(e.tx,aC,.ptr 4 0)] [] aK),(3,.fm .i64 M2 [] us aK),(6,.own 140 2 n (zH o)),
  (4,.box [.sym .i64 a',.sym .i64 b',.sym .i64 c',.sym .i64 d',.sym .i64 x',.sym .i64 y',.gs 5,.sym .i64 z'] 184),(5,.own 197 8 k' gd')],[0,4]⟩
def toN(n m:Nat)(o:Nat->Oj)(many':Int)(gR:Nat->List Sh)(M1 M2:Int->Option Value)(f1 f2:List (Int×Bool×SV)):QS:=⟨hpA n m o many' gR M1 M2 f1 f2,[0]⟩
def toB(n m:Nat)(o:Nat->Oj)(gR:Nat->List Sh)(M1 M2:Int->Option Value)(e:Ev)(many' a' b' c' d' x' y' z':Int):QS:=
 ⟨[(0,.box [.gs 6,.sym .i64 many',.gs 1,.mp 2,.mp 3] 181),(6,.own 140 2 n (zH o)),(1,.FY 182 1 m gR [.ptr 4 0]),(2,.fm .i64 M1 [(e.tx,ay,.any)] [(e.tx,aC,.ptr 4 0),(e.tx,aC,.any)] aK),(3,.fm .i64 M2 [(e.thread,ay,.any)] [(e.thread,aC,.ptr 4 0),(e.thread,aC,.any)] aK),
  (4,.box [.sym .i64 a',.sym .i64 b',.sym .i64 c',.sym .i64 d',.sym .i64 x',.sym .i64 y',.zY,.sym .i64 z'] 184)],[0]⟩
theorem apY(A:Prim)(W:Wd)(n m:Nat)(o:Nat->Oj)(many:Int)(gR:Nat->List Sh)(M1 M2:Int->Option Value)(e:Ev)(a b c d x y z:Int)(k:Nat)(dd:Nat->De)(many' a' b' c' d' x' y' z':Int)(k':Nat)(gd':Nat->List Sh):(run (C5 A W BI zV) 700 aC 79 [.code []] (LA 2 e (hpA n m o many gR M1 M2 [(e.tx,aC,.ptr 4 0)] []++hpR a b c d x y z k (zH dd)))).bind (toEnd [toR n m o gR M1 M2 e many' a' b' c' d' x' y' z' k' gd' []])=aF (A.eq many (ah 400)) (aB (dH (aW 6 329),0,[aj many many',aJ m m,aQ m gR gR,bI M1 M1,aj e.tx e.tx,bI M2 M2,aJ n n,aQ n (zH o) (zH o),aj a a',aj b b',aj c c',aj d d',aj x x',aj y y',aj z z',aJ k k',aQ k (zH dd) gd'])) (aH (Bl {kind:=ah 2,tx:=e.tx,thread:=e.thread,obj:=e.obj,op:=e.op,key:=e.key,val:=e.val,ret:=e.ret}) (aF (A.le (A.Aa n) e.obj) (aB (dH (aW 7 329),0,[aj many many',aJ m m,aQ m gR gR,bI M1 M1,aj e.tx e.tx,bI M2 M2,aJ n n,aQ n (zH o) (zH o),aj a a',aj b b',aj c c',aj d d',aj x x',aj y y',aj z z',aJ k k',aQ k (zH dd) gd'])) (aH (A.inB e.obj n) (aF (A.nt (A.eq (Dc e.op) (o (A.toN e.obj)).kind)) (aB (dH (aW 8 329),0,[aj many many',aJ m m,aQ m gR gR,bI M1 M1,aj e.tx e.tx,bI M2 M2,aJ n n,aQ n (zH o) (zH o),aj a a',aj b b',aj c c',aj d d',aj x x',aj y y',aj z z',aJ k k',aQ k (zH dd) gd'])) (aH (A.eq e.tx e.tx) (aO [aj e.tx e.tx,aj e.thread e.thread,aj e.obj e.obj,aj e.op e.op,aj e.key e.key,aj e.val e.val,aj e.ret e.ret,aj many many,aJ m m,aZ gR gR,bI M1 M1,aj e.tx e.tx,bI M2 M2,aJ n n,aZ (zH o) (zH o),aj a a,aj b b,aj c c,aj d d,aj x x,aj y y,aj z z,aJ k k,aZ (zH dd) (zH dd),aj e.tx e.tx,aj e.thread e.thread,aj e.obj e.obj,aj e.op e.op,aj e.key e.key,aj e.val e.val,aj e.ret e.ret] (aO [aj e.tx e.tx,aj e.thread e.thread,aj e.obj e.obj,aj e.op e.op,aj e.key e.key,aj e.val e.val,aj e.ret e.ret,aj many many,aJ m m,aZ gR gR,bI M1 M1,aj e.tx e.tx,bI M2 M2,aJ n n,aZ (zH o) (zH o),aj a a,aj b b,aj c c,aj d d,aj x x,aj y y,aj z z,aJ k k,aZ (zH dd) (zH dd),aj e.tx e.tx,aj e.thread e.thread,aj e.obj e.obj,aj e.op e.op,aj e.key e.key,aj e.val e.val,aj e.ret e.ret] (aF (A.eq z (ah 1)) (aH (A.room (A.addN k 1) 64) (aH (A.room (A.addN k 1) 64) (aO [aj e.tx e.tx,aj e.thread e.thread,aj e.obj e.obj,aj e.op e.op,aj e.key e.key,aj e.val e.val,aj e.ret e.ret,aj many many,aj many many,aJ m m,aZ gR gR,bI M1 M1,aj e.tx e.tx,bI M2 M2,aJ n n,aZ (zH o) (zH o),aj a a,aj b b,aj c c,aj d d,aj x x,aj y y,aj e.tx e.tx,aj e.thread e.thread,aj e.obj e.obj,aj e.op e.op,aj e.key e.key,aj e.val e.val,aj e.ret e.ret,aj e.tx e.tx,aj e.thread e.thread,aj e.obj e.obj,aj e.op e.op,aj e.key e.key,aj e.val e.val,aj e.ret e.ret,aj e.obj e.obj,aj e.op e.op,aj e.key e.key,aj e.val e.val,aj many many,aJ (A.addN k 1) (A.addN k 1),aZ (A.snoc (zH dd) k (Af [[aT .i64 e.obj,aT .i64 e.op,aT .i64 e.key,aT .i64 e.val,aT .i64 (ah 0),aT .i64 (ah 0),aT .i64 many,aT .i64 (dZ 0)]])) (A.snoc (zH dd) k (Af [[aT .i64 e.obj,aT .i64 e.op,aT .i64 e.key,aT .i64 e.val,aT .i64 (ah 0),aT .i64 (ah 0),aT .i64 many,aT .i64 (dZ 0)]]))] (aB (fH,0,[aj (A.add .i64 many (ah 1)) many',aJ m m,aQ m gR gR,bI M1 M1,aj e.tx e.tx,bI M2 M2,aJ n n,aQ n (zH o) (zH o),aj a a',aj b b',aj c c',aj d d',aj x x',aj y y',aj (ah 2) z',aJ (A.addN k 1) k',aQ (A.addN k 1) (A.snoc (zH dd) k (Af [[aT .i64 e.obj,aT .i64 e.op,aT .i64 e.key,aT .i64 e.val,aT .i64 (ah 0),aT .i64 (ah 0),aT .i64 many,aT .i64 (dZ 0)]])) gd']))))) (aB (dH (aW 12 329),0,[aj many many',aJ m m,aQ m gR gR,bI M1 M1,aj e.tx e.tx,bI M2 M2,aJ n n,aQ n (zH o) (zH o),aj a a',aj b b',aj c c',aj d d',aj x x',aj y y',aj z z',aJ k k',aQ k (zH dd) gd'])))))))))):=by kernel_rfl
theorem avs(A:Prim)(W:Wd)(n m:Nat)(o:Nat->Oj)(many:Int)(gR:Nat->List Sh)(M1 M2:Int->Option Value)(e:Ev)(many':Int):(run (C5 A W BI zV) 700 aC 79 [.code []] (LA 2 e (hpA n m o many gR M1 M2 [(e.tx,ay,.any)] []))).bind (toEnd [toN n m o many' gR M1 M2 [(e.tx,ay,.any)] []])=aF (A.eq many (ah 400)) (aB (dH (aW 6 329),0,[aj many many',aJ m m,aQ m gR gR,bI M1 M1,aj e.tx e.tx,bI M2 M2,aJ n n,aQ n (zH o) (zH o)])) (aH (Bl {kind:=ah 2,tx:=e.tx,thread:=e.thread,obj:=e.obj,op:=e.op,key:=e.key,val:=e.val,ret:=e.ret}) (aF (A.le (A.Aa n) e.obj) (aB (dH (aW 7 329),0,[aj many many',aJ m m,aQ m gR gR,bI M1 M1,aj e.tx e.tx,bI M2 M2,aJ n n,aQ n (zH o) (zH o)])) (aH (A.inB e.obj n) (aF (A.nt (A.eq (Dc e.op) (o (A.toN e.obj)).kind)) (aB (dH (aW 8 329),0,[aj many many',aJ m m,aQ m gR gR,bI M1 M1,aj e.tx e.tx,bI M2 M2,aJ n n,aQ n (zH o) (zH o)])) (aH (A.eq e.tx e.tx) (aB (dH (aW 11 329),0,[aj many many',aJ m m,aQ m gR gR,bI M1 M1,aj e.tx e.tx,bI M2 M2,aJ n n,aQ n (zH o) (zH o)]))))))):=by kernel_rfl
theorem ajx(A:Prim)(W:Wd)(n m:Nat)(o:Nat->Oj)(many:Int)(gR:Nat->List Sh)(M1 M2:Int->Option Value)(e:Ev)(a b c d x y z:Int)(k:Nat)(dd:Nat->De)(many' a' b' c' d' x' y' z':Int)(k':Nat)(gd':Nat->List Sh):(run (C5 A W BI zV) 700 aC 79 [.code []] (LA 3 e (hpA n m o many gR M1 M2 [(e.tx,aC,.ptr 4 0)] []++hpR a b c d x y z k (zH dd)))).bind (toEnd [toR n m o gR M1 M2 e many' a' b' c' d' x' y' z' k' gd' []])=aF (A.eq many (ah 400)) (aB (dH (aW 6 329),0,[aj many many',aJ m m,aQ m gR gR,bI M1 M1,aj e.tx e.tx,bI M2 M2,aJ n n,aQ n (zH o) (zH o),aj a a',aj b b',aj c c',aj d d',aj x x',aj y y',aj z z',aJ k k',aQ k (zH dd) gd'])) (aH (Bl {kind:=ah 3,tx:=e.tx,thread:=e.thread,obj:=e.obj,op:=e.op,key:=e.key,val:=e.val,ret:=e.ret}) (aH (A.eq e.tx e.tx) (aO [aj e.tx e.tx,aj e.thread e.thread,aj e.obj e.obj,aj e.op e.op,aj e.key e.key,aj e.val e.val,aj e.ret e.ret,aj many many,aJ m m,aZ gR gR,bI M1 M1,aj e.tx e.tx,bI M2 M2,aJ n n,aZ (zH o) (zH o),aj a a,aj b b,aj c c,aj d d,aj x x,aj y y,aj z z,aJ k k,aZ (zH dd) (zH dd),aj e.tx e.tx,aj e.thread e.thread,aj e.obj e.obj,aj e.op e.op,aj e.key e.key,aj e.val e.val,aj e.ret e.ret] (aO [aj e.tx e.tx,aj e.thread e.thread,aj e.obj e.obj,aj e.op e.op,aj e.key e.key,aj e.val e.val,aj e.ret e.ret,aj many many,aJ m m,aZ gR gR,bI M1 M1,aj e.tx e.tx,bI M2 M2,aJ n n,aZ (zH o) (zH o),aj a a,aj b b,aj c c,aj d d,aj x x,aj y y,aj z z,aJ k k,aZ (zH dd) (zH dd),aj e.tx e.tx,aj e.thread e.thread,aj e.obj e.obj,aj e.op e.op,aj e.key e.key,aj e.val e.val,aj e.ret e.ret] (aF (A.eq z (ah 2)) (aH (A.inB (A.sub .i64 (A.Aa k) (ah 1)) k) (aF (A.nt (Qw (dd (A.toN (A.sub .i64 (A.Aa k) (ah 1)))).op e.ret)) (aB (dH (aW 13 329),0,[aj many many',aJ m m,aQ m gR gR,bI M1 M1,aj e.tx e.tx,bI M2 M2,aJ n n,aQ n (zH o) (zH o),aj a a',aj b b',aj c c',aj d d',aj x x',aj y y',aj z z',aJ k k',aQ k (zH dd) gd'])) (aB (fH,0,[aj (A.add .i64 many (ah 1)) many',aJ m m,aQ m gR gR,bI M1 M1,aj e.tx e.tx,bI M2 M2,aJ n n,aQ n (zH o) (zH o),aj a a',aj b b',aj c c',aj d d',aj x x',aj y y',aj (ah 1) z',aJ k k',aQ k (A.upd (A.upd (A.upd (zH dd) (A.toN (A.sub .i64 (A.Aa k) (ah 1))) 4 [aT .i64 e.ret]) (A.toN (A.sub .i64 (A.Aa k) (ah 1))) 5 [aT .i64 e.val]) (A.toN (A.sub .i64 (A.Aa k) (ah 1))) 7 [aT .i64 many]) gd'])))) (aB (dH (aW 12 329),0,[aj many many',aJ m m,aQ m gR gR,bI M1 M1,aj e.tx e.tx,bI M2 M2,aJ n n,aQ n (zH o) (zH o),aj a a',aj b b',aj c c',aj d d',aj x x',aj y y',aj z z',aJ k k',aQ k (zH dd) gd']))))))):=by kernel_rfl
theorem avt(A:Prim)(W:Wd)(n m:Nat)(o:Nat->Oj)(many:Int)(gR:Nat->List Sh)(M1 M2:Int->Option Value)(e:Ev)(many':Int):(run (C5 A W BI zV) 700 aC 79 [.code []] (LA 3 e (hpA n m o many gR M1 M2 [(e.tx,ay,.any)] []))).bind (toEnd [toN n m o many' gR M1 M2 [(e.tx,ay,.any)] []])=aF (A.eq many (ah 400)) (aB (dH (aW 6 329),0,[aj many many',aJ m m,aQ m gR gR,bI M1 M1,aj e.tx e.tx,bI M2 M2,aJ n n,aQ n (zH o) (zH o)])) (aH (Bl {kind:=ah 3,tx:=e.tx,thread:=e.thread,obj:=e.obj,op:=e.op,key:=e.key,val:=e.val,ret:=e.ret}) (aH (A.eq e.tx e.tx) (aB (dH (aW 11 329),0,[aj many many',aJ m m,aQ m gR gR,bI M1 M1,aj e.tx e.tx,bI M2 M2,aJ n n,aQ n (zH o) (zH o)])))):=by kernel_rfl
theorem apZ(A:Prim)(W:Wd)(n m:Nat)(o:Nat->Oj)(many:Int)(gR:Nat->List Sh)(M1 M2:Int->Option Value)(e:Ev)(a b c d x y z:Int)(k:Nat)(dd:Nat->De)(many' a' b' c' d' x' y' z':Int)(k':Nat)(gd':Nat->List Sh):(run (C5 A W BI zV) 700 aC 79 [.code []] (LA 4 e (hpA n m o many gR M1 M2 [(e.tx,aC,.ptr 4 0)] []++hpR a b c d x y z k (zH dd)))).bind (toEnd [toR n m o gR M1 M2 e many' a' b' c' d' x' y' z' k' gd' []])=aF (A.eq many (ah 400)) (aB (dH (aW 6 329),0,[aj many many',aJ m m,aQ m gR gR,bI M1 M1,aj e.tx e.tx,bI M2 M2,aJ n n,aQ n (zH o) (zH o),aj a a',aj b b',aj c c',aj d d',aj x x',aj y y',aj z z',aJ k k',aQ k (zH dd) gd'])) (aH (Bl {kind:=ah 4,tx:=e.tx,thread:=e.thread,obj:=e.obj,op:=e.op,key:=e.key,val:=e.val,ret:=e.ret}) (aH (A.eq e.tx e.tx) (aO [aj e.tx e.tx,aj e.thread e.thread,aj e.obj e.obj,aj e.op e.op,aj e.key e.key,aj e.val e.val,aj e.ret e.ret,aj many many,aJ m m,aZ gR gR,bI M1 M1,aj e.tx e.tx,bI M2 M2,aJ n n,aZ (zH o) (zH o),aj a a,aj b b,aj c c,aj d d,aj x x,aj y y,aj z z,aJ k k,aZ (zH dd) (zH dd),aj e.tx e.tx,aj e.thread e.thread,aj e.obj e.obj,aj e.op e.op,aj e.key e.key,aj e.val e.val,aj e.ret e.ret] (aO [aj e.tx e.tx,aj e.thread e.thread,aj e.obj e.obj,aj e.op e.op,aj e.key e.key,aj e.val e.val,aj e.ret e.ret,aj many many,aJ m m,aZ gR gR,bI M1 M1,aj e.tx e.tx,bI M2 M2,aJ n n,aZ (zH o) (zH o),aj a a,aj b b,aj c c,aj d d,aj x x,aj y y,aj z z,aJ k k,aZ (zH dd) (zH dd),aj e.tx e.tx,aj e.thread e.thread,aj e.obj e.obj,aj e.op e.op,aj e.key e.key,aj e.val e.val,aj e.ret e.ret] (aF (A.eq z (ah 1)) (aB (fH,0,[aj (A.add .i64 many (ah 1)) many',aJ m m,aQ m gR gR,bI M1 M1,aj e.tx e.tx,bI M2 M2,aJ n n,aQ n (zH o) (zH o),aj a a',aj b b',aj (ah 2) c',aj d d',aj x x',aj many y',aj (ah 3) z',aJ k k',aQ k (zH dd) gd'])) (aB (dH (aW 12 329),0,[aj many many',aJ m m,aQ m gR gR,bI M1 M1,aj e.tx e.tx,bI M2 M2,aJ n n,aQ n (zH o) (zH o),aj a a',aj b b',aj c c',aj d d',aj x x',aj y y',aj z z',aJ k k',aQ k (zH dd) gd']))))))):=by kernel_rfl
theorem avu(A:Prim)(W:Wd)(n m:Nat)(o:Nat->Oj)(many:Int)(gR:Nat->List Sh)(M1 M2:Int->Option Value)(e:Ev)(many':Int):(run (C5 A W BI zV) 700 aC 79 [.code []] (LA 4 e (hpA n m o many gR M1 M2 [(e.tx,ay,.any)] []))).bind (toEnd [toN n m o many' gR M1 M2 [(e.tx,ay,.any)] []])=aF (A.eq many (ah 400)) (aB (dH (aW 6 329),0,[aj many many',aJ m m,aQ m gR gR,bI M1 M1,aj e.tx e.tx,bI M2 M2,aJ n n,aQ n (zH o) (zH o)])) (aH (Bl {kind:=ah 4,tx:=e.tx,thread:=e.thread,obj:=e.obj,op:=e.op,key:=e.key,val:=e.val,ret:=e.ret}) (aH (A.eq e.tx e.tx) (aB (dH (aW 11 329),0,[aj many many',aJ m m,aQ m gR gR,bI M1 M1,aj e.tx e.tx,bI M2 M2,aJ n n,aQ n (zH o) (zH o)])))):=by kernel_rfl
theorem ap0(A:Prim)(W:Wd)(n m:Nat)(o:Nat->Oj)(many:Int)(gR:Nat->List Sh)(M1 M2:Int->Option Value)(e:Ev)(a b c d x y z:Int)(k:Nat)(dd:Nat->De)(many' a' b' c' d' x' y' z':Int)(k':Nat)(gd':Nat->List Sh):(run (C5 A W BI zV) 700 aC 79 [.code []] (LA 5 e (hpA n m o many gR M1 M2 [(e.tx,aC,.ptr 4 0)] []++hpR a b c d x y z k (zH dd)))).bind (toEnd [toR n m o gR M1 M2 e many' a' b' c' d' x' y' z' k' gd' [],toR n m o gR M1 M2 e many' a' b' c' d' x' y' z' k' gd' [(b,ay,.any)]])=aF (A.eq many (ah 400)) (aB (dH (aW 6 329),0,[aj many many',aJ m m,aQ m gR gR,bI M1 M1,aj e.tx e.tx,bI M2 M2,aJ n n,aQ n (zH o) (zH o),aj a a',aj b b',aj c c',aj d d',aj x x',aj y y',aj z z',aJ k k',aQ k (zH dd) gd'])) (aH (Bl {kind:=ah 5,tx:=e.tx,thread:=e.thread,obj:=e.obj,op:=e.op,key:=e.key,val:=e.val,ret:=e.ret}) (aH (A.eq e.tx e.tx) (aO [aj e.tx e.tx,aj e.thread e.thread,aj e.obj e.obj,aj e.op e.op,aj e.key e.key,aj e.val e.val,aj e.ret e.ret,aj many many,aJ m m,aZ gR gR,bI M1 M1,aj e.tx e.tx,bI M2 M2,aJ n n,aZ (zH o) (zH o),aj a a,aj b b,aj c c,aj d d,aj x x,aj y y,aj z z,aJ k k,aZ (zH dd) (zH dd),aj e.tx e.tx,aj e.thread e.thread,aj e.obj e.obj,aj e.op e.op,aj e.key e.key,aj e.val e.val,aj e.ret e.ret] (aO [aj e.tx e.tx,aj e.thread e.thread,aj e.obj e.obj,aj e.op e.op,aj e.key e.key,aj e.val e.val,aj e.ret e.ret,aj many many,aJ m m,aZ gR gR,bI M1 M1,aj e.tx e.tx,bI M2 M2,aJ n n,aZ (zH o) (zH o),aj a a,aj b b,aj c c,aj d d,aj x x,aj y y,aj z z,aJ k k,aZ (zH dd) (zH dd),aj e.tx e.tx,aj e.thread e.thread,aj e.obj e.obj,aj e.op e.op,aj e.key e.key,aj e.val e.val,aj e.ret e.ret] (aF (A.eq z (ah 3)) (aB (fH,1,[aj (A.add .i64 many (ah 1)) many',aJ m m,aQ m gR gR,bI M1 M1,aj e.tx e.tx,bI M2 M2,aj b b,aJ n n,aQ n (zH o) (zH o),aj a a',aj b b',aj (ah 3) c',aj d d',aj many x',aj y y',aj (ah 5) z',aJ k k',aQ k (zH dd) gd'])) (aB (dH (aW 12 329),0,[aj many many',aJ m m,aQ m gR gR,bI M1 M1,aj e.tx e.tx,bI M2 M2,aJ n n,aQ n (zH o) (zH o),aj a a',aj b b',aj c c',aj d d',aj x x',aj y y',aj z z',aJ k k',aQ k (zH dd) gd']))))))):=by kernel_rfl
theorem avv(A:Prim)(W:Wd)(n m:Nat)(o:Nat->Oj)(many:Int)(gR:Nat->List Sh)(M1 M2:Int->Option Value)(e:Ev)(many':Int):(run (C5 A W BI zV) 700 aC 79 [.code []] (LA 5 e (hpA n m o many gR M1 M2 [(e.tx,ay,.any)] []))).bind (toEnd [toN n m o many' gR M1 M2 [(e.tx,ay,.any)] []])=aF (A.eq many (ah 400)) (aB (dH (aW 6 329),0,[aj many many',aJ m m,aQ m gR gR,bI M1 M1,aj e.tx e.tx,bI M2 M2,aJ n n,aQ n (zH o) (zH o)])) (aH (Bl {kind:=ah 5,tx:=e.tx,thread:=e.thread,obj:=e.obj,op:=e.op,key:=e.key,val:=e.val,ret:=e.ret}) (aH (A.eq e.tx e.tx) (aB (dH (aW 11 329),0,[aj many many',aJ m m,aQ m gR gR,bI M1 M1,aj e.tx e.tx,bI M2 M2,aJ n n,aQ n (zH o) (zH o)])))):=by kernel_rfl
theorem ap1(A:Prim)(W:Wd)(n m:Nat)(o:Nat->Oj)(many:Int)(gR:Nat->List Sh)(M1 M2:Int->Option Value)(e:Ev)(a b c d x y z:Int)(k:Nat)(dd:Nat->De)(many' a' b' c' d' x' y' z':Int)(k':Nat)(gd':Nat->List Sh):(run (C5 A W BI zV) 700 aC 79 [.code []] (LA 6 e (hpA n m o many gR M1 M2 [(e.tx,aC,.ptr 4 0)] []++hpR a b c d x y z k (zH dd)))).bind (toEnd [toR n m o gR M1 M2 e many' a' b' c' d' x' y' z' k' gd' [],toR n m o gR M1 M2 e many' a' b' c' d' x' y' z' k' gd' [(b,ay,.any)]])=aF (A.eq many (ah 400)) (aB (dH (aW 6 329),0,[aj many many',aJ m m,aQ m gR gR,bI M1 M1,aj e.tx e.tx,bI M2 M2,aJ n n,aQ n (zH o) (zH o),aj a a',aj b b',aj c c',aj d d',aj x x',aj y y',aj z z',aJ k k',aQ k (zH dd) gd'])) (aH (Bl {kind:=ah 6,tx:=e.tx,thread:=e.thread,obj:=e.obj,op:=e.op,key:=e.key,val:=e.val,ret:=e.ret}) (aH (A.eq e.tx e.tx) (aO [aj e.tx e.tx,aj e.thread e.thread,aj e.obj e.obj,aj e.op e.op,aj e.key e.key,aj e.val e.val,aj e.ret e.ret,aj many many,aJ m m,aZ gR gR,bI M1 M1,aj e.tx e.tx,bI M2 M2,aJ n n,aZ (zH o) (zH o),aj a a,aj b b,aj c c,aj d d,aj x x,aj y y,aj z z,aJ k k,aZ (zH dd) (zH dd),aj e.tx e.tx,aj e.thread e.thread,aj e.obj e.obj,aj e.op e.op,aj e.key e.key,aj e.val e.val,aj e.ret e.ret] (aO [aj e.tx e.tx,aj e.thread e.thread,aj e.obj e.obj,aj e.op e.op,aj e.key e.key,aj e.val e.val,aj e.ret e.ret,aj many many,aJ m m,aZ gR gR,bI M1 M1,aj e.tx e.tx,bI M2 M2,aJ n n,aZ (zH o) (zH o),aj a a,aj b b,aj c c,aj d d,aj x x,aj y y,aj z z,aJ k k,aZ (zH dd) (zH dd),aj e.tx e.tx,aj e.thread e.thread,aj e.obj e.obj,aj e.op e.op,aj e.key e.key,aj e.val e.val,aj e.ret e.ret] (aF (A.eq z (ah 1)) (aB (fH,1,[aj (A.add .i64 many (ah 1)) many',aJ m m,aQ m gR gR,bI M1 M1,aj e.tx e.tx,bI M2 M2,aj b b,aJ n n,aQ n (zH o) (zH o),aj a a',aj b b',aj (ah 4) c',aj d d',aj many x',aj y y',aj (ah 5) z',aJ k k',aQ k (zH dd) gd'])) (aF (A.eq z (ah 2)) (aB (fH,1,[aj (A.add .i64 many (ah 1)) many',aJ m m,aQ m gR gR,bI M1 M1,aj e.tx e.tx,bI M2 M2,aj b b,aJ n n,aQ n (zH o) (zH o),aj a a',aj b b',aj (ah 4) c',aj d d',aj many x',aj y y',aj (ah 5) z',aJ k k',aQ k (zH dd) gd'])) (aF (A.eq z (ah 3)) (aB (fH,1,[aj (A.add .i64 many (ah 1)) many',aJ m m,aQ m gR gR,bI M1 M1,aj e.tx e.tx,bI M2 M2,aj b b,aJ n n,aQ n (zH o) (zH o),aj a a',aj b b',aj (ah 4) c',aj d d',aj many x',aj y y',aj (ah 5) z',aJ k k',aQ k (zH dd) gd'])) (aF (A.eq z (ah 4)) (aB (fH,1,[aj (A.add .i64 many (ah 1)) many',aJ m m,aQ m gR gR,bI M1 M1,aj e.tx e.tx,bI M2 M2,aj b b,aJ n n,aQ n (zH o) (zH o),aj a a',aj b b',aj (ah 4) c',aj d d',aj many x',aj y y',aj (ah 5) z',aJ k k',aQ k (zH dd) gd'])) (aB (dH (aW 12 329),0,[aj many many',aJ m m,aQ m gR gR,bI M1 M1,aj e.tx e.tx,bI M2 M2,aJ n n,aQ n (zH o) (zH o),aj a a',aj b b',aj c c',aj d d',aj x x',aj y y',aj z z',aJ k k',aQ k (zH dd) gd'])))))))))):=by kernel_rfl
theorem avw(A:Prim)(W:Wd)(n m:Nat)(o:Nat->Oj)(many:Int)(gR:Nat->List Sh)(M1 M2:Int->Option Value)(e:Ev)(many':Int):(run (C5 A W BI zV) 700 aC 79 [.code []] (LA 6 e (hpA n m o many gR M1 M2 [(e.tx,ay,.any)] []))).bind (toEnd [toN n m o many' gR M1 M2 [(e.tx,ay,.any)] []])=aF (A.eq many (ah 400)) (aB (dH (aW 6 329),0,[aj many many',aJ m m,aQ m gR gR,bI M1 M1,aj e.tx e.tx,bI M2 M2,aJ n n,aQ n (zH o) (zH o)])) (aH (Bl {kind:=ah 6,tx:=e.tx,thread:=e.thread,obj:=e.obj,op:=e.op,key:=e.key,val:=e.val,ret:=e.ret}) (aH (A.eq e.tx e.tx) (aB (dH (aW 11 329),0,[aj many many',aJ m m,aQ m gR gR,bI M1 M1,aj e.tx e.tx,bI M2 M2,aJ n n,aQ n (zH o) (zH o)])))):=by kernel_rfl
theorem ap2(A:Prim)(W:Wd)(n m:Nat)(o:Nat->Oj)(many:Int)(gR:Nat->List Sh)(M1 M2:Int->Option Value)(e:Ev)(a b c d x y z:Int)(k:Nat)(dd:Nat->De)(many' a' b' c' d' x' y' z':Int)(k':Nat)(gd':Nat->List Sh):(run (C5 A W BI zV) 700 aC 79 [.code []] (LA 7 e (hpA n m o many gR M1 M2 [(e.tx,aC,.ptr 4 0)] []++hpR a b c d x y z k (zH dd)))).bind (toEnd [toR n m o gR M1 M2 e many' a' b' c' d' x' y' z' k' gd' []])=aF (A.eq many (ah 400)) (aB (dH (aW 6 329),0,[aj many many',aJ m m,aQ m gR gR,bI M1 M1,aj e.tx e.tx,bI M2 M2,aJ n n,aQ n (zH o) (zH o),aj a a',aj b b',aj c c',aj d d',aj x x',aj y y',aj z z',aJ k k',aQ k (zH dd) gd'])) (aH (Bl {kind:=ah 7,tx:=e.tx,thread:=e.thread,obj:=e.obj,op:=e.op,key:=e.key,val:=e.val,ret:=e.ret}) (aH (A.eq e.tx e.tx) (aO [aj e.tx e.tx,aj e.thread e.thread,aj e.obj e.obj,aj e.op e.op,aj e.key e.key,aj e.val e.val,aj e.ret e.ret,aj many many,aJ m m,aZ gR gR,bI M1 M1,aj e.tx e.tx,bI M2 M2,aJ n n,aZ (zH o) (zH o),aj a a,aj b b,aj c c,aj d d,aj x x,aj y y,aj z z,aJ k k,aZ (zH dd) (zH dd),aj e.tx e.tx,aj e.thread e.thread,aj e.obj e.obj,aj e.op e.op,aj e.key e.key,aj e.val e.val,aj e.ret e.ret] (aO [aj e.tx e.tx,aj e.thread e.thread,aj e.obj e.obj,aj e.op e.op,aj e.key e.key,aj e.val e.val,aj e.ret e.ret,aj many many,aJ m m,aZ gR gR,bI M1 M1,aj e.tx e.tx,bI M2 M2,aJ n n,aZ (zH o) (zH o),aj a a,aj b b,aj c c,aj d d,aj x x,aj y y,aj z z,aJ k k,aZ (zH dd) (zH dd),aj e.tx e.tx,aj e.thread e.thread,aj e.obj e.obj,aj e.op e.op,aj e.key e.key,aj e.val e.val,aj e.ret e.ret] (aF (A.eq z (ah 1)) (aB (fH,0,[aj (A.add .i64 many (ah 1)) many',aJ m m,aQ m gR gR,bI M1 M1,aj e.tx e.tx,bI M2 M2,aJ n n,aQ n (zH o) (zH o),aj a a',aj b b',aj c c',aj d d',aj x x',aj y y',aj (ah 4) z',aJ k k',aQ k (zH dd) gd'])) (aB (dH (aW 12 329),0,[aj many many',aJ m m,aQ m gR gR,bI M1 M1,aj e.tx e.tx,bI M2 M2,aJ n n,aQ n (zH o) (zH o),aj a a',aj b b',aj c c',aj d d',aj x x',aj y y',aj z z',aJ k k',aQ k (zH dd) gd']))))))):=by kernel_rfl
theorem avx(A:Prim)(W:Wd)(n m:Nat)(o:Nat->Oj)(many:Int)(gR:Nat->List Sh)(M1 M2:Int->Option Value)(e:Ev)(many':Int):(run (C5 A W BI zV) 700 aC 79 [.code []] (LA 7 e (hpA n m o many gR M1 M2 [(e.tx,ay,.any)] []))).bind (toEnd [toN n m o many' gR M1 M2 [(e.tx,ay,.any)] []])=aF (A.eq many (ah 400)) (aB (dH (aW 6 329),0,[aj many many',aJ m m,aQ m gR gR,bI M1 M1,aj e.tx e.tx,bI M2 M2,aJ n n,aQ n (zH o) (zH o)])) (aH (Bl {kind:=ah 7,tx:=e.tx,thread:=e.thread,obj:=e.obj,op:=e.op,key:=e.key,val:=e.val,ret:=e.ret}) (aH (A.eq e.tx e.tx) (aB (dH (aW 11 329),0,[aj many many',aJ m m,aQ m gR gR,bI M1 M1,aj e.tx e.tx,bI M2 M2,aJ n n,aQ n (zH o) (zH o)])))):=by kernel_rfl
theorem avy(A:Prim)(W:Wd)(n m:Nat)(o:Nat->Oj)(many:Int)(gR:Nat->List Sh)(M1 M2:Int->Option Value)(e:Ev)(a b c d x y z:Int)(k:Nat)(dd:Nat->De)(many' a' b' c' d' x' y' z':Int)(k':Nat)(gd':Nat->List Sh):(run (C5 A W BI zV) 700 aC 79 [.code []] (LA 1 e (hpA n m o many gR M1 M2 [(e.tx,aC,.ptr 4 0)] []++hpR a b c d x y z k (zH dd)))).bind (toEnd [toR n m o gR M1 M2 e many' a' b' c' d' x' y' z' k' gd' []])=aF (A.eq many (ah 400)) (aB (dH (aW 6 329),0,[aj many many',aJ m m,aQ m gR gR,bI M1 M1,aj e.tx e.tx,bI M2 M2,aJ n n,aQ n (zH o) (zH o),aj a a',aj b b',aj c c',aj d d',aj x x',aj y y',aj z z',aJ k k',aQ k (zH dd) gd'])) (aH (Bl {kind:=ah 1,tx:=e.tx,thread:=e.thread,obj:=e.obj,op:=e.op,key:=e.key,val:=e.val,ret:=e.ret}) (aH (A.eq e.tx e.tx) (aB (dH (aW 9 329),0,[aj many many',aJ m m,aQ m gR gR,bI M1 M1,aj e.tx e.tx,bI M2 M2,aJ n n,aQ n (zH o) (zH o),aj a a',aj b b',aj c c',aj d d',aj x x',aj y y',aj z z',aJ k k',aQ k (zH dd) gd'])))):=by kernel_rfl
theorem avz(A:Prim)(W:Wd)(n m:Nat)(o:Nat->Oj)(many:Int)(gR:Nat->List Sh)(M1 M2:Int->Option Value)(e:Ev)(q:Nat)(many':Int):(run (C5 A W BI zV) 700 aC 79 [.code []] (LA 1 e (hpA n m o many gR M1 M2 [(e.tx,ay,.any)] [(e.thread,aC,.val (.pointer (ak ⟨q,0,aK⟩)))]))).bind (toEnd [toN n m o many' gR M1 M2 [(e.tx,ay,.any)] [(e.thread,aC,.val (.pointer (ak ⟨q,0,aK⟩)))]])=aF (A.eq many (ah 400)) (aB (dH (aW 6 329),0,[aj many many',aJ m m,aQ m gR gR,bI M1 M1,aj e.tx e.tx,bI M2 M2,aj e.thread e.thread,jH (fG (ak {block:=q,off:=0})) (fG (ak {block:=q,off:=0})),aJ n n,aQ n (zH o) (zH o)])) (aH (Bl {kind:=ah 1,tx:=e.tx,thread:=e.thread,obj:=e.obj,op:=e.op,key:=e.key,val:=e.val,ret:=e.ret}) (aH (A.eq e.tx e.tx) (aH (A.eq e.thread e.thread) (aB (dH (aW 10 329),0,[aj many many',aJ m m,aQ m gR gR,bI M1 M1,aj e.tx e.tx,bI M2 M2,aj e.thread e.thread,jH (fG (ak {block:=q,off:=0})) (fG (ak {block:=q,off:=0})),aJ n n,aQ n (zH o) (zH o)]))))):=by kernel_rfl
theorem avA(A:Prim)(W:Wd)(n m:Nat)(o:Nat->Oj)(many:Int)(gR:Nat->List Sh)(M1 M2:Int->Option Value)(e:Ev)(many' a' b' c' d' x' y' z':Int):(run (C5 A W BI zV) 700 aC 79 [.code []] (LA 1 e (hpA n m o many gR M1 M2 [(e.tx,ay,.any)] [(e.thread,ay,.any)]))).bind (toEnd [toB n m o gR M1 M2 e many' a' b' c' d' x' y' z'])=aF (A.eq many (ah 400)) cO (aH (Bl {kind:=ah 1,tx:=e.tx,thread:=e.thread,obj:=e.obj,op:=e.op,key:=e.key,val:=e.val,ret:=e.ret}) (aH (A.eq e.tx e.tx) (aH (A.eq e.thread e.thread) (aH (A.room (A.addN m 1) 8) (aH (A.eq e.tx e.tx) (aH (A.eq e.thread e.thread) (aB (fH,0,[aj (A.add .i64 many (ah 1)) many',aJ n n,aQ n (zH o) (zH o),aJ m m,aQ m gR gR,bI M1 M1,aj e.tx e.tx,aj e.tx e.tx,aj e.tx e.tx,bI M2 M2,aj e.thread e.thread,aj e.thread e.thread,aj e.thread e.thread,aj e.tx a',aj e.thread b',aj (ah 1) c',aj many d',aj (dZ 0) x',aj (dZ 0) y',aj (ah 1) z'])))))))):=by kernel_rfl
end Go.zM
namespace Go.AL
open Go Go.Sx
structure Rc where
 id:Int
 th:Int
 st:Int
 bg:Int
 en:Int
 tr:Int
 zK:List De
 stand:Int
structure Au where
 many:Nat
 rs:List Rc
def Au.Jz(σ:Au)(k:Int):Option Nat:=σ.rs.findIdx? fun r=>r.id==k
def Rc.live(r:Rc):Bool:=!(r.stand==5)
def Au.Lc(σ:Au)(k:Int):Option Nat:=σ.rs.findIdx? fun r=>r.th==k&&r.live
def GZ{α:Type}(f:α->α):List α->List α
 |[]=>[] |[x]=>[f x] |x::y::l=>x::GZ f (y::l)
def Rc.step(many:Nat)(e:Ev)(r:Rc):Nat ⊕ Rc:=
 bif e.kind==2 then bif r.stand==1 then .inr {r with stand:=2,zK:=r.zK++[⟨e.obj,e.op,e.key,e.val,0,0,many,-1⟩]} else .inl 12
 else bif e.kind==3 then bif r.stand==2 then bif Qw (r.zK.getLast?.getD Row.Jl).op e.ret then .inr {r with stand:=1,zK:=GZ (fun d=>{d with ret:=e.ret,got:=e.val,back:=many}) r.zK} else .inl 13 else .inl 12
 else bif e.kind==4 then bif r.stand==1 then .inr {r with stand:=3,tr:=many,st:=2} else .inl 12
 else bif e.kind==7 then bif r.stand==1 then .inr {r with stand:=4} else .inl 12
 else bif e.kind==5 then bif r.stand==3 then .inr {r with stand:=5,en:=many,st:=3} else .inl 12
 else bif r.stand==1||r.stand==2||r.stand==3||r.stand==4 then .inr {r with stand:=5,en:=many,st:=4} else .inl 12
def Au.feed(σ:Au)(e:Ev):Option Nat×Au:=
 match σ.Jz e.tx with
 |some i=>bif e.kind==1 then (ak 9,σ) else match Rc.step σ.many e (σ.rs.getD i ⟨0,0,0,0,0,0,[],0⟩) with
  | .inl k=>(ak k,σ) | .inr r=>(aK,⟨σ.many+1,σ.rs.set i r⟩)
 |none=>bif e.kind==1 then (match σ.Lc e.thread with
  |some _=>(ak 10,σ) |none=>(aK,⟨σ.many+1,σ.rs++[⟨e.tx,e.thread,1,σ.many,-1,-1,[],1⟩]⟩)) else (ak 11,σ)
structure Au.OK(σ:Au):Prop where
 one:∀(i j:Nat) (r s:Rc),σ.rs[i]?=ak r->σ.rs[j]?=ak s->r.th=s.th->r.live=aC->s.live=aC->i=j
 deed:∀(i:Nat) (r:Rc),σ.rs[i]?=ak r->r.stand=2->r.zK≠[]
 stands:∀(i:Nat) (r:Rc),σ.rs[i]?=ak r->1<=r.stand/\r.stand<=5
 len:σ.rs.length<=σ.many
 dl:∀(i:Nat) (r:Rc),σ.rs[i]?=ak r->r.zK.length<=σ.many
end Go.AL
namespace Go.Sx
open Go.AL
def CX(b:Nat):Value:=.pointer (ak ⟨b,0,aK⟩)
structure Lay where
 p:Nat
 v0:Value
 v2:Value
 b1:Nat
 b2:Nat
 R:Nat->Nat
 D:Nat->Value
inductive Tg where
 |au|tx|KC|bu|ob
 |rc (i:Nat)
 |de (i:Nat)
 deriving DecidableEq
def Lay.blk(L:Lay)(n:Nat):Tg->Option Nat
 | .au=>ak L.p | .tx=>zT L.v2 | .KC=>ak L.b1 | .bu=>ak L.b2 | .ob=>zT L.v0 | .rc i=>if i<n then ak (L.R i) else aK
 | .de i=>if i<n then zT (L.D i) else aK
def Xf(r:Rc)(d:Value):Array Value:=#[.int .i64 r.id,.int .i64 r.th,.int .i64 r.st,.int .i64 r.bg,.int .i64 r.en,.int .i64 r.tr,d,.int .i64 r.stand]
def deV(d:De):List Value:=[.int .i64 d.obj,.int .i64 d.op,.int .i64 d.key,.int .i64 d.val,.int .i64 d.ret,.int .i64 d.got,.int .i64 d.here,.int .i64 d.back]
structure Cm(H:Mem)(w:World)(n0:Nat)(g0:Nat->List Sh)(σ:Au)(L:Lay):Prop where
 au:w.heap[L.p]?=ak (.cells #[L.v0,.int .i64 σ.many,L.v2,.map (ak L.b1),.map (ak L.b2)] 181 (0,0))
 ob:∃xs,w.ownsRow 0 140 2 L.v0 n0 xs/\Bq H 2 n0 g0 xs
 tx:w.ownsRow 0 182 1 L.v2 σ.rs.length ((aY σ.rs.length).map fun i=>CX (L.R i))
 KC:∃ms clk,w.heap[L.b1]?=ak (.map ms clk)/\Ew .i64 ms.toList clk fun k=>(σ.Jz k).map fun i=>CX (L.R i)
 bu:∃ms clk,w.heap[L.b2]?=ak (.map ms clk)/\Ew .i64 ms.toList clk fun k=>(σ.Lc k).map fun i=>CX (L.R i)
 rc:∀i r,σ.rs[i]?=ak r->w.heap[L.R i]?=ak (.cells (Xf r (L.D i)) 184 (0,0))
 de:∀i r,σ.rs[i]?=ak r->w.ownsRow 0 197 8 (L.D i) r.zK.length (r.zK.flatMap deV)
 Fg:∀s t b,L.blk σ.rs.length s=ak b->L.blk σ.rs.length t=ak b->s=t
 un:∀t b,L.blk σ.rs.length t=ak b->H b=aK
section
variable{H H':Mem}{w w':World}{n0:Nat}{g0:Nat->List Sh}{σ:Au}{L:Lay}
theorem abQ{e st n:Nat}{v:Value}{xs:List Value}{b:Nat}(h:w.ownsRow 0 e st v n xs)(hb:zT v=ak b):b<w.heap.size:=by
 rcases h.2 with ⟨rfl,_⟩ |⟨g,cap,cur,rfl,_,hg,_⟩
 ·cases hb
 ·cases hb
  grind
theorem Cm.lt(h:Cm H w n0 g0 σ L){t:Tg}{b:Nat}(hb:L.blk σ.rs.length t=ak b):b<w.heap.size:=by
 cases t with
 |au=>cases hb;exact (bK.1 h.au).1 |tx=>exact abQ h.tx hb |KC=>cases hb;obtain ⟨ms,clk,h1,_⟩:=h.KC;grind |bu=>cases hb;obtain ⟨ms,clk,h1,_⟩:=h.bu;grind |ob=>obtain ⟨xs,h1,_⟩:=h.ob;exact abQ h1 hb |rc i=>
  simp only[Lay.blk] at hb;split at hb
  ·rename_i hi
   cases hb;exact (bK.1 (h.rc i _ (aV hi))).1
  ·cases hb
 |de i=>
  simp only[Lay.blk] at hb;split at hb
  ·rename_i hi
   exact abQ (h.de i _ (aV hi)) hb
  ·cases hb
theorem Cm.keep(h:Cm H w n0 g0 σ L)(hH:H.le H')(hw:∀t b,L.blk σ.rs.length t=ak b->w'.heap[b]?=w.heap[b]?)(hu:∀t b,L.blk σ.rs.length t=ak b->H' b=aK):Cm H' w' n0 g0 σ L:=by
 refine ⟨by rw[hw .au _ rfl];exact h.au,(let ⟨xs,h1,h2⟩:=h.ob;⟨xs,Fh h1 fun b hb=>hw .ob b hb,h2.le hH⟩),Fh h.tx fun b hb=>hw .tx b hb,?_,?_,fun i r hi=>?_,fun i r hi=>Fh (h.de i r hi) fun b hb=>hw (.de i) b ?_,h.Fg,hu⟩
 ·obtain ⟨ms,clk,h1,h2⟩:=h.KC
  exact ⟨ms,clk,by rw[hw .KC _ rfl];exact h1,h2⟩
 ·obtain ⟨ms,clk,h1,h2⟩:=h.bu
  exact ⟨ms,clk,by rw[hw .bu _ rfl];exact h1,h2⟩
 ·have hlt:=(bW.1 hi).1
  rw[hw (.rc i) _ (by simp[Lay.blk,hlt])];exact h.rc i r hi
 grind [bW,Lay.blk]
end
end Go.Sx
