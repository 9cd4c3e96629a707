/- Own work. -/
import Derived.Test.YthehnhaoiijkhaaGreatDoorO10
open Int (ofNat)
open Array renaming getElem?_eq_some_iff->aM
open Bool renaming true->aj,false->ag
open Classical renaming byContradiction->lM
open Go.IntKind renaming i64->aA,wrap_i64->cx
open Go.Proofs renaming W7->hZ
open Go.Proofs.Tryz renaming prog->ah,f102->fb,f122->bc,f99->dw,f101->aJ,f100->fV,f77->cE,f128->fW
open Go.mP renaming W5->c9
open Go.mP.C5 renaming ok->fH
open Go.Sx.oC renaming int->ac,all->aX,ok->cw,sh->av,nat->ap,get->ax,mp->aL,Ez->aF,val->dG
open Go.Sx.rQ renaming ret->ay,at_->aK
open Go.Sx.Fin renaming ret->ar
open Go.Sx.It renaming code->aH,inBlock->aW
open Go.Sx.SV renaming sh->bl,qP->bV
open Go.Sx.Sh renaming er->aC,v->cT,pV->fP,pt->ij,i->az,sl->ao,b->bX
open Go.Sx.Tree renaming node->ak,need->am,leaf->ai,All->bP,must->aw,fail->aY
open Go.Value renaming nilIface->aI,pointer->bU
open Int renaming ofNat->ab,negSucc->bI,toNat_natCast->bR
open List renaming range->aE,getElem?_eq_getElem->aD,getElem?_eq_some_iff->aT
open Option renaming some->ae,none->aq
namespace Go.oD
open Go Go.Sx
def nR:Sh->Option Int
 | .i .i64 c=>ae c | .v (.int .i64 c)=>ae c |_=>aq
def Ri(t:Int):Nat×Nat:=
 bif t==1 then (16,4) else bif t==2 then (17,7) else bif t==3 then (18,9) else bif t==4 then (19,3) else bif t==5 then (20,4) else (21,4)
def idx(c:Int):Int:=aA.wrap ((if (0:Int)>c then 0 else c) - 1)
def TN(m:Nat)(c:Int):Bool:=decide (0<=idx c/\idx c<(m:Int))
def qj(g m:Nat)(c:Int):List UInt8:=bif TN m c then c9 g (idx c).toNat else []
def rD(c:Int):Int:=
 bif c==1 then 1 else bif c==2 then 1 else bif c==3 then 2 else bif c==4 then 2 else bif c==5 then 3 else bif c==6 then 3 else bif c==7 then 4 else bif c==8 then 4 else bif c==9 then 4 else 0
theorem qW{H:Mem}{s:Sh}{c:Int}{v:Value}(h:nR s=ae c)(r:Rep H s v):Rep H (.i .i64 c) v:=by
 unfold nR at h;split at h
 ·simp_all
 ·cases h;cases r;exact .i _ _
 ·cases h
theorem MZ{H:Mem}{s:Sh}{c:Int}{v:Value}(h:nR s=ae c)(r:Rep H s v):Rep H (.v (.int .i64 c)) v:=by
 have:=qW h r;cases this;exact .v _ rfl
end Go.oD
namespace Go.mP
open Go Go.Sx Go.oD
theorem asE:∀g F,pX g=ae F->nG ah (uY W5) g F:=fun g F h=>by
 unfold pX at h;grind [O10,O11,O13,O14,O37]
theorem akF(stop:Nat->List Nat->Bool):oH ah (C5 mD W5 pX stop):=C5.Gh asE fun g h=>by
 unfold pX at h;split at h;all_goals first|(cases h;done) |kernel_rfl
theorem Ac{ψ:Int->Prop}{b:Bool}{x y:Int}(h:ψ (bif b then x else y)):(b=aj->ψ x)/\(b=ag->ψ y):=by
 grind
def F57:List Sh->Tree Sh
 |[s]=>match nR s with
  |some c=>.leaf (.i .i64 (rD c)) |none=>.fail
 |_=>.fail
theorem O57:nG ah (uY W5) 102 F57:=by
 refine xH (C:=C5 mD W5 pX ny) (fH _ _) (akF _) (n:=300) (L:=L0) (fn:=fb) (by kernel_rfl) (by kernel_rfl) fun H w nV args φ hrep h=>?_
 have hn:fb.ntmps=17:=by kernel_rfl
 unfold F57 at h;split at h
 ·rename_i s
  split at h
  ·rename_i c hc
   match args,hrep with
   |[v],⟨hv,_⟩=>
    refine ⟨[.i .i64 c],⟨qW hc hv,trivial⟩,?_⟩;rw[hn,a57 mD W5 c];have h:φ (.i .i64 (rD c)):=h;exact let h1:=Ac (ψ:=fun d=>φ (.i .i64 d)) h;⟨h1.1,fun q=>let h1:=Ac (ψ:=fun d=>φ (.i .i64 d)) (h1.2 q);⟨h1.1,fun q=>let h1:=Ac (ψ:=fun d=>φ (.i .i64 d)) (h1.2 q);⟨h1.1,fun q=>let h1:=Ac (ψ:=fun d=>φ (.i .i64 d)) (h1.2 q);⟨h1.1,fun q=>let h1:=Ac (ψ:=fun d=>φ (.i .i64 d)) (h1.2 q);⟨h1.1,fun q=>let h1:=Ac (ψ:=fun d=>φ (.i .i64 d)) (h1.2 q);⟨h1.1,fun q=>let h1:=Ac (ψ:=fun d=>φ (.i .i64 d)) (h1.2 q);⟨h1.1,fun q=>let h1:=Ac (ψ:=fun d=>φ (.i .i64 d)) (h1.2 q);⟨h1.1,fun q=>let h1:=Ac (ψ:=fun d=>φ (.i .i64 d)) (h1.2 q);⟨h1.1,fun q=>h1.2 q⟩⟩⟩⟩⟩⟩⟩⟩⟩
  ·exact h.elim
 ·exact h.elim
def F61:List Sh->Tree Sh
 |[s0,s]=>match nR s0 with
  |some t=>match nR s with
   |some c=>.need (decide (1<=t/\t<=6)) (.leaf (.str (qj (Ri t).1 (Ri t).2 c))) |none=>.fail
  |none=>.fail
 |_=>.fail
theorem DF{φ:Sh->Prop}{g m:Nat}{c:Int}{T:Prop}(h:φ (.str (qj g m c)))(hT:∀k:Nat,k<m->idx c=(k:Int)->φ (.str (W5 g k))->T):
  (mD.lt (mD.sub .i64 (mD.max c (ab 0)) (ab 1)) (ab 0)=aj->φ (.str []))/\
  (mD.lt (mD.sub .i64 (mD.max c (ab 0)) (ab 1)) (ab 0)=ag->(mD.le (ab m) (mD.sub .i64 (mD.max c (ab 0)) (ab 1))=aj->φ (.str []))/\
   (mD.le (ab m) (mD.sub .i64 (mD.max c (ab 0)) (ab 1))=ag->mD.inB (mD.sub .i64 (mD.max c (ab 0)) (ab 1)) m=aj/\T)):=by
 have he:mD.sub .i64 (mD.max c (ab 0)) (ab 1)=idx c:=rfl;rw[he,mQ,su,oJ];unfold qj at h;simp only[Int.ofNat_eq_natCast,decide_eq_true_eq,decide_eq_false_iff_not];grind [TN]
def ET(g:Nat)(i:Int):List Nat->Tree Fin
 |[]=>.fail |k::l=>.node (mD.eq i (ab k)) (.leaf (.ret (.str (W5 g k)))) (ET g i l)
theorem zq{ψ:Fin->Prop}{g k:Nat}{i:Int}(e:i=(k:Int))(hψ:ψ (.ret (.str (W5 g k)))):∀l,k∈l->(ET g i l).All ψ
 |[],h=>by cases h |a::l,h=>by
  refine ⟨fun q=>?_,fun q=>?_⟩
  ·rw[nC,e] at q
   have:k=a:=by grind
   rw[<-this];exact hψ
  ·rw[nC,e] at q
   have:k≠a:=fun e=>by simp_all
   exact zq e hψ l ((List.mem_cons.1 h).resolve_left this)
@[irreducible] def qX (ψ:Fin->Prop) (t:Tree Fin):Prop:=t.All ψ
theorem oU(ψ:Fin->Prop)(t:Tree Fin):t.All ψ=qX ψ t:=by unfold qX;rfl
theorem ap8{H:Mem}{w:World}{φ:Sh->Prop}{c:Int}(h2:φ (.str (qj 16 4 c))):
  qX (oN ah (C5 mD W5 pX ny) (K0 H w) bc φ) (o7 (C5 mD W5 pX ny) 300 122 [.code []] (mM 16 [.v (.int .i64 1),.i .i64 c] L0)):=by
 rw[ap0 mD W5 c,<-oU];exact DF (T:=(ET 16 (idx c) [0,1,2,3]).All (oN ah (C5 mD W5 pX ny) (K0 H w) bc φ)) h2 fun k hk e hφ=>zq e hφ _ (by simp;omega)
theorem ap9{H:Mem}{w:World}{φ:Sh->Prop}{c:Int}(h2:φ (.str (qj 17 7 c))):
  qX (oN ah (C5 mD W5 pX ny) (K0 H w) bc φ) (o7 (C5 mD W5 pX ny) 300 122 [.code []] (mM 16 [.v (.int .i64 2),.i .i64 c] L0)):=by
 rw[ap1 mD W5 c,<-oU];exact DF (T:=(ET 17 (idx c) [0,1,2,3,4,5,6]).All (oN ah (C5 mD W5 pX ny) (K0 H w) bc φ)) h2 fun k hk e hφ=>zq e hφ _ (by simp;omega)
theorem aqa{H:Mem}{w:World}{φ:Sh->Prop}{c:Int}(h2:φ (.str (qj 18 9 c))):
  qX (oN ah (C5 mD W5 pX ny) (K0 H w) bc φ) (o7 (C5 mD W5 pX ny) 300 122 [.code []] (mM 16 [.v (.int .i64 3),.i .i64 c] L0)):=by
 rw[ap2 mD W5 c,<-oU];exact DF (T:=(ET 18 (idx c) [0,1,2,3,4,5,6,7,8]).All (oN ah (C5 mD W5 pX ny) (K0 H w) bc φ)) h2 fun k hk e hφ=>zq e hφ _ (by simp;omega)
theorem aqb{H:Mem}{w:World}{φ:Sh->Prop}{c:Int}(h2:φ (.str (qj 19 3 c))):
  qX (oN ah (C5 mD W5 pX ny) (K0 H w) bc φ) (o7 (C5 mD W5 pX ny) 300 122 [.code []] (mM 16 [.v (.int .i64 4),.i .i64 c] L0)):=by
 rw[ap3 mD W5 c,<-oU];exact DF (T:=(ET 19 (idx c) [0,1,2]).All (oN ah (C5 mD W5 pX ny) (K0 H w) bc φ)) h2 fun k hk e hφ=>zq e hφ _ (by simp;omega)
theorem aqc{H:Mem}{w:World}{φ:Sh->Prop}{c:Int}(h2:φ (.str (qj 20 4 c))):
  qX (oN ah (C5 mD W5 pX ny) (K0 H w) bc φ) (o7 (C5 mD W5 pX ny) 300 122 [.code []] (mM 16 [.v (.int .i64 5),.i .i64 c] L0)):=by
 rw[ap4 mD W5 c,<-oU];exact DF (T:=(ET 20 (idx c) [0,1,2,3]).All (oN ah (C5 mD W5 pX ny) (K0 H w) bc φ)) h2 fun k hk e hφ=>zq e hφ _ (by simp;omega)
theorem aqd{H:Mem}{w:World}{φ:Sh->Prop}{c:Int}(h2:φ (.str (qj 21 4 c))):
  qX (oN ah (C5 mD W5 pX ny) (K0 H w) bc φ) (o7 (C5 mD W5 pX ny) 300 122 [.code []] (mM 16 [.v (.int .i64 6),.i .i64 c] L0)):=by
 rw[ap5 mD W5 c,<-oU];exact DF (T:=(ET 21 (idx c) [0,1,2,3]).All (oN ah (C5 mD W5 pX ny) (K0 H w) bc φ)) h2 fun k hk e hφ=>zq e hφ _ (by simp;omega)
theorem six{P:Int->Nat->Nat->Prop}(h1:P 1 16 4)(h2:P 2 17 7)(h3:P 3 18 9)(h4:P 4 19 3)(h5:P 5 20 4)(h6:P 6 21 4){t:Int}(ht:decide (1<=t/\t<=6)=aj):P t (Ri t).1 (Ri t).2:=by
 have ht:=of_decide_eq_true ht;have e:t=1\/t=2\/t=3\/t=4\/t=5\/t=6:=by omega
 rcases e with rfl|rfl|rfl|rfl|rfl|rfl
 ·exact h1
 ·exact h2
 ·exact h3
 ·exact h4
 ·exact h5
 ·exact h6
theorem w61{H:Mem}{w:World}{φ:Sh->Prop}{c t:Int}(ht:decide (1<=t/\t<=6)=aj)(h2:φ (.str (qj (Ri t).1 (Ri t).2 c))):
  qX (oN ah (C5 mD W5 pX ny) (K0 H w) bc φ) (o7 (C5 mD W5 pX ny) 300 122 [.code []] (mM 16 [.v (.int .i64 t),.i .i64 c] L0)):=
 six (P:=fun t g m=>φ (.str (qj g m c))->qX (oN ah (C5 mD W5 pX ny) (K0 H w) bc φ) (o7 (C5 mD W5 pX ny) 300 122 [.code []] (mM 16 [.v (.int .i64 t),.i .i64 c] L0))) ap8 ap9 aqa aqb aqc aqd ht h2
theorem O61:nG ah (uY W5) 122 F61:=by
 refine xH (C:=C5 mD W5 pX ny) (fH _ _) (akF _) (n:=300) (L:=L0) (fn:=bc) (by kernel_rfl) (by kernel_rfl) fun H w nV args φ hrep h=>?_
 have hn:bc.ntmps=16:=by kernel_rfl
 unfold F61 at h;split at h
 ·rename_i s0 s
  split at h
  ·rename_i t ht
   split at h
   ·rename_i c hc
    obtain ⟨h1,h2⟩:=h;match args,hrep with
    |[u,v],⟨hu,hv,_⟩=>
     refine ⟨[.v (.int .i64 t),.i .i64 c],⟨MZ ht hu,qW hc hv,trivial⟩,?_⟩;rw[hn,oU];exact w61 h1 h2
   ·exact h.elim
  ·exact h.elim
 ·exact h.elim
def nK:Nat->Option (List Sh->Tree Sh)
 |102=>ae F57 |122=>ae F61 |_=>aq
theorem a54(A:Prim)(W:Wd)(x y:Int):o7 (C5 A W nK ny) 300 99 [.code []] (mM 36 [.agg [.i .i64 x,.i .i64 y]] L0)=ak (A.eq x (ab 1)) (am aj (ak (A.seq (qj 16 4 x) []) (ai (ar (aC 7 329))) (ak (A.lt y (bI 999999999)) (ai (ar (aC 7 329))) (ak (A.lt (ab 1000000000) y) (ai (ar (aC 7 329))) (ai (ar (cT aI))))))) (am aj (ak (A.seq (qj 16 4 x) []) (ai (ar (aC 7 329))) (ak (A.lt y (bI 999999999)) (ai (ar (aC 7 329))) (ak (A.lt (ab 1000000000) y) (ai (ar (aC 7 329))) (ak (A.nt (A.eq x (ab 2))) (ak (A.nt (A.eq y (ab 0))) (ai (ar (aC 7 329))) (ai (ar (cT aI)))) (ai (ar (cT aI)))))))):=by kernel_rfl
theorem a55(A:Prim)(W:Wd)(x:Int)(e:Nat):o7 (C5 A W nK ny) 300 100 [.code []] (mM 10 [.i .i64 x,.er e 329] L0)=ai (ar (fP 109 (ij [az .i64 x,aC e 329]))):=by kernel_rfl
end Go.mP
namespace Go.oD
open Go Go.Sx
def WH(k i:Int):Bool:=TN 4 k && !decide (i < -1000000000) && !decide (1000000000<i)&&(k==1||k==2||i==0)
theorem Gu{g m:Nat}{c:Int}(h:∀k,k<m->c9 g k≠[]):mD.seq (qj g m c) []=!TN m c:=by
 rw[QG];unfold qj;cases hi:TN m c with
 |true=>
  have hi:=of_decide_eq_true hi;have:=h (idx c).toNat (by omega);simpa using this
 |false=>rfl
theorem asF:∀k,k<4->c9 16 k≠[]:=fun k hk=>by
 obtain rfl|rfl|rfl|rfl:k=0\/k=1\/k=2\/k=3:=by omega
 all_goals simp[c9,hZ]
theorem agn:∀k,k<3->c9 19 k≠[]:=fun k hk=>by
 obtain rfl|rfl|rfl:k=0\/k=1\/k=2:=by omega
 all_goals simp[c9,hZ]
end Go.oD
namespace Go.mP
open Go Go.Sx Go.oD
theorem asG:∀g F,nK g=ae F->nG ah (uY W5) g F:=fun g F h=>by
 unfold nK at h;split at h
 ·cases h;exact O57
 ·cases h;exact O61
 ·cases h
theorem aae(stop:Nat->List Nat->Bool):oH ah (C5 mD W5 nK stop):=C5.Gh asG fun g h=>by
 unfold nK at h;split at h;all_goals first|(cases h;done) |kernel_rfl
def F54:List Sh->Tree Sh
 |[.agg [s,s']]=>match nR s with
  |some k=>match nR s' with
   |some i=>.node (WH k i) (.leaf (.v .nilIface)) (.leaf (.er 7 329)) |none=>.fail
  |none=>.fail
 |_=>.fail
theorem QH{H:Mem}{s s' t t':Sh}{v:Value}(hv:Rep H (.agg [s,s']) v)(h1:∀u,Rep H s u->Rep H t u)(h2:∀u,Rep H s' u->Rep H t' u):Rep H (.agg [t,t']) v:=by
 cases hv with
 |agg _ vs h3 h4=>
  refine .agg _ vs h3 fun j s0 v' e1 e2=>?_
  match j,e1 with
  |0,e1=>simp at e1;subst e1;exact h1 _ (h4 0 _ v' rfl e2) |1,e1=>simp at e1;subst e1;exact h2 _ (h4 1 _ v' rfl e2) |j+2,e1=>simp at e1
theorem akH{φ:Sh->Prop}{x y:Int}(hT:WH x y=aj->φ (.v .nilIface))(hF:WH x y=ag->φ (.er 7 329)){H:Mem}{w:World}:
  qX (oN ah (C5 mD W5 nK ny) (K0 H w) dw φ) (o7 (C5 mD W5 nK ny) 300 99 [.code []] (mM 36 [.agg [.i .i64 x,.i .i64 y]] L0)):=by
 rw[a54 mD W5 x y,<-oU,Gu asF];unfold WH at hT hF;simp only[bP,oN,nC,mQ,oP];cases h1:TN 4 x<;>simp[h1] at hT hF ⊢
 ·exact hF
 ·refine ⟨fun e1=>⟨fun e=>hF fun q=>absurd q (by omega),fun e=>⟨fun e'=>hF fun _ q=>absurd q (by omega),fun e'=>hT e e' (.inl (.inl e1))⟩⟩,fun e1=>⟨fun e=>hF fun q=>absurd q (by omega),fun e=>⟨fun e'=>hF fun _ q=>absurd q (by omega),fun e'=>⟨fun e2=>⟨fun e3=>hF fun _ _=>⟨⟨e1,e2⟩,e3⟩,fun e3=>hT e e' (.inr e3)⟩,fun e2=>hT e e' (.inl (.inr e2))⟩⟩⟩⟩
theorem O54:nG ah (uY W5) 99 F54:=by
 refine xH (C:=C5 mD W5 nK ny) (fH _ _) (aae _) (n:=300) (L:=L0) (fn:=dw) (by kernel_rfl) (by kernel_rfl) fun H w nV args φ hrep h=>?_
 have hn:dw.ntmps=36:=by kernel_rfl
 unfold F54 at h;split at h
 ·rename_i s s'
  split at h
  ·rename_i k hk
   split at h
   ·rename_i i hi
    obtain ⟨h1,h2⟩:=h;match args,hrep with
    |[u],⟨hu,_⟩=>
     refine ⟨[.agg [.i .i64 k,.i .i64 i]],⟨QH hu (fun _=>qW hk) (fun _=>qW hi),trivial⟩,?_⟩;rw[hn,oU];exact akH h1 h2
   ·exact h.elim
  ·exact h.elim
 ·exact h.elim
def il(n:Int):Sh:=.v (.int .i64 n)
def sy(n:Int):Sh:=.i .i64 n
def yV:Nat->List Nat->Bool:=fun g _=>Nat.beq g 101
def dead:Tree Fin->Tree Fin
 | .leaf (.ret s)=>.leaf (.ret s) | .leaf (.stop _ _)=>.fail | .node b t f=>.node b (dead t) (dead f) | .need b t=>.need b (dead t) | .must l t=>.must l (dead t) | .both t f=>.both (dead t) (dead f) | .fail=>.fail
theorem En{ψ:Fin->Prop}:∀{t:Tree Fin},(dead t).All ψ->t.All ψ
 | .leaf (.ret _),h=>h | .leaf (.stop _ _),h=>h.elim | .node _ _ _,h=>⟨fun q=>En (h.1 q),fun q=>En (h.2 q)⟩ | .need _ _,h=>⟨h.1,En h.2⟩ | .must _ _,h=>⟨h.1,En h.2⟩ | .both _ _,h=>⟨En h.1,En h.2⟩ | .fail,h=>h
theorem aqe(A:Prim)(W:Wd)(_k x t o p y v r:Int):o7 (C5 A W nK ni) 3000 101 [.code []] (mM 75 [.agg [il 1,sy x,sy t,sy o,sy p,sy y,sy v,sy r]] L0)=aw [ac x x,ac t t,ac o o,ac p p,ac y y,ac v v,ac r r] (aw [ac x x,ac t t,ac o o,ac p p,ac y y,ac v v,ac r r] (aw [ac x x,ac t t,ac o o,ac p p,ac y y,ac v v,ac r r] (aw [ac x x,ac t t,ac o o,ac p p,ac y y,ac v v,ac r r] (ak (A.lt x (ab 1)) (ai (ar (aC 15 329))) (ak (A.lt (ab 1000) x) (ai (ar (aC 15 329))) (ak (A.lt t (ab 0)) (ai (ar (aC 15 329))) (ak (A.lt (ab 7) t) (ai (ar (aC 15 329))) (ak (A.nt (A.ite (A.eq (ab 0) (ab 0)) (A.ite (A.eq (ab 0) (ab 0)) (A.ite (A.eq (ab 0) (ab 0)) (A.ite (A.eq o (ab 0)) (A.ite (A.eq p (ab 0)) (A.ite (A.eq y (ab 0)) (A.ite (A.eq v (ab 0)) (A.ite (A.eq r (ab 0)) aj ag) ag) ag) ag) ag) ag) ag) ag)) (ai (ar (aC 15 329))) (ai (ar (cT aI))))))))))):=by kernel_rfl
theorem aqf(A:Prim)(W:Wd)(_k x t o p y v r:Int):o7 (C5 A W nK ni) 3000 101 [.code []] (mM 75 [.agg [il 4,sy x,sy t,sy o,sy p,sy y,sy v,sy r]] L0)=aw [ac x x,ac t t,ac o o,ac p p,ac y y,ac v v,ac r r] (aw [ac x x,ac t t,ac o o,ac p p,ac y y,ac v v,ac r r] (aw [ac x x,ac t t,ac o o,ac p p,ac y y,ac v v,ac r r] (aw [ac x x,ac t t,ac o o,ac p p,ac y y,ac v v,ac r r] (ak (A.lt x (ab 1)) (ai (ar (aC 15 329))) (ak (A.lt (ab 1000) x) (ai (ar (aC 15 329))) (ak (A.nt (A.ite (A.eq (ab 0) (ab 0)) (A.ite (A.eq (ab 0) (ab 0)) (A.ite (A.eq t (ab 0)) (A.ite (A.eq o (ab 0)) (A.ite (A.eq p (ab 0)) (A.ite (A.eq y (ab 0)) (A.ite (A.eq v (ab 0)) (A.ite (A.eq r (ab 0)) aj ag) ag) ag) ag) ag) ag) ag) ag)) (ai (ar (aC 15 329))) (ai (ar (cT aI))))))))):=by kernel_rfl
theorem aqg(A:Prim)(W:Wd)(_k x t o p y v r:Int):o7 (C5 A W nK ni) 3000 101 [.code []] (mM 75 [.agg [il 5,sy x,sy t,sy o,sy p,sy y,sy v,sy r]] L0)=aw [ac x x,ac t t,ac o o,ac p p,ac y y,ac v v,ac r r] (aw [ac x x,ac t t,ac o o,ac p p,ac y y,ac v v,ac r r] (aw [ac x x,ac t t,ac o o,ac p p,ac y y,ac v v,ac r r] (aw [ac x x,ac t t,ac o o,ac p p,ac y y,ac v v,ac r r] (ak (A.lt x (ab 1)) (ai (ar (aC 15 329))) (ak (A.lt (ab 1000) x) (ai (ar (aC 15 329))) (ak (A.nt (A.ite (A.eq (ab 0) (ab 0)) (A.ite (A.eq (ab 0) (ab 0)) (A.ite (A.eq t (ab 0)) (A.ite (A.eq o (ab 0)) (A.ite (A.eq p (ab 0)) (A.ite (A.eq y (ab 0)) (A.ite (A.eq v (ab 0)) (A.ite (A.eq r (ab 0)) aj ag) ag) ag) ag) ag) ag) ag) ag)) (ai (ar (aC 15 329))) (ai (ar (cT aI))))))))):=by kernel_rfl
theorem aqh(A:Prim)(W:Wd)(_k x t o p y v r:Int):o7 (C5 A W nK ni) 3000 101 [.code []] (mM 75 [.agg [il 6,sy x,sy t,sy o,sy p,sy y,sy v,sy r]] L0)=aw [ac x x,ac t t,ac o o,ac p p,ac y y,ac v v,ac r r] (aw [ac x x,ac t t,ac o o,ac p p,ac y y,ac v v,ac r r] (aw [ac x x,ac t t,ac o o,ac p p,ac y y,ac v v,ac r r] (aw [ac x x,ac t t,ac o o,ac p p,ac y y,ac v v,ac r r] (ak (A.lt x (ab 1)) (ai (ar (aC 15 329))) (ak (A.lt (ab 1000) x) (ai (ar (aC 15 329))) (ak (A.nt (A.ite (A.eq (ab 0) (ab 0)) (A.ite (A.eq (ab 0) (ab 0)) (A.ite (A.eq t (ab 0)) (A.ite (A.eq o (ab 0)) (A.ite (A.eq p (ab 0)) (A.ite (A.eq y (ab 0)) (A.ite (A.eq v (ab 0)) (A.ite (A.eq r (ab 0)) aj ag) ag) ag) ag) ag) ag) ag) ag)) (ai (ar (aC 15 329))) (ai (ar (cT aI))))))))):=by kernel_rfl
theorem aqi(A:Prim)(W:Wd)(_k x t o p y v r:Int):o7 (C5 A W nK ni) 3000 101 [.code []] (mM 75 [.agg [il 7,sy x,sy t,sy o,sy p,sy y,sy v,sy r]] L0)=aw [ac x x,ac t t,ac o o,ac p p,ac y y,ac v v,ac r r] (aw [ac x x,ac t t,ac o o,ac p p,ac y y,ac v v,ac r r] (aw [ac x x,ac t t,ac o o,ac p p,ac y y,ac v v,ac r r] (aw [ac x x,ac t t,ac o o,ac p p,ac y y,ac v v,ac r r] (ak (A.lt x (ab 1)) (ai (ar (aC 15 329))) (ak (A.lt (ab 1000) x) (ai (ar (aC 15 329))) (ak (A.nt (A.ite (A.eq (ab 0) (ab 0)) (A.ite (A.eq (ab 0) (ab 0)) (A.ite (A.eq t (ab 0)) (A.ite (A.eq o (ab 0)) (A.ite (A.eq p (ab 0)) (A.ite (A.eq y (ab 0)) (A.ite (A.eq v (ab 0)) (A.ite (A.eq r (ab 0)) aj ag) ag) ag) ag) ag) ag) ag) ag)) (ai (ar (aC 15 329))) (ai (ar (cT aI))))))))):=by kernel_rfl
theorem akI(A:Prim)(W:Wd)(_k x t o _p y v r:Int):o7 (C5 A W nK ni) 3000 101 [.code []] (mM 75 [.agg [il 2,sy x,sy t,sy o,il 1,sy y,sy v,sy r]] L0)=aw [ac x x,ac t t,ac o o,ac y y,ac v v,ac r r] (aw [ac x x,ac t t,ac o o,ac y y,ac v v,ac r r] (aw [ac x x,ac t t,ac o o,ac y y,ac v v,ac r r] (aw [ac x x,ac t t,ac o o,ac y y,ac v v,ac r r] (ak (A.eq (rD (ab 1)) (ab 0)) (ai (ar (aC 14 329))) (ak (A.lt x (ab 1)) (ai (ar (aC 15 329))) (ak (A.lt (ab 1000) x) (ai (ar (aC 15 329))) (ak (A.lt o (ab 0)) (ai (ar (aC 15 329))) (ak (A.lt (ab 7) o) (ai (ar (aC 15 329))) (ak (A.nt (A.ite (A.eq (ab 0) (ab 0)) (A.ite (A.eq (ab 0) (ab 0)) (A.ite (A.eq t (ab 0)) (A.ite (A.eq (ab 0) (ab 0)) (A.ite (A.eq (ab 0) (ab 0)) (A.ite (A.eq y (ab 0)) (A.ite (A.eq v (ab 0)) (A.ite (A.eq r (ab 0)) aj ag) ag) ag) ag) ag) ag) ag) ag)) (ai (ar (aC 15 329))) (ai (ar (cT aI)))))))))))):=by kernel_rfl
theorem akJ(A:Prim)(W:Wd)(_k x t o _p y v r:Int):o7 (C5 A W nK ni) 3000 101 [.code []] (mM 75 [.agg [il 2,sy x,sy t,sy o,il 2,sy y,sy v,sy r]] L0)=aw [ac x x,ac t t,ac o o,ac y y,ac v v,ac r r] (aw [ac x x,ac t t,ac o o,ac y y,ac v v,ac r r] (aw [ac x x,ac t t,ac o o,ac y y,ac v v,ac r r] (aw [ac x x,ac t t,ac o o,ac y y,ac v v,ac r r] (ak (A.eq (rD (ab 2)) (ab 0)) (ai (ar (aC 14 329))) (ak (A.lt x (ab 1)) (ai (ar (aC 15 329))) (ak (A.lt (ab 1000) x) (ai (ar (aC 15 329))) (ak (A.lt o (ab 0)) (ai (ar (aC 15 329))) (ak (A.lt (ab 7) o) (ai (ar (aC 15 329))) (ak (A.lt v (bI 999999999)) (ai (ar (aC 15 329))) (ak (A.lt (ab 1000000000) v) (ai (ar (aC 15 329))) (ak (A.nt (A.ite (A.eq (ab 0) (ab 0)) (A.ite (A.eq (ab 0) (ab 0)) (A.ite (A.eq t (ab 0)) (A.ite (A.eq (ab 0) (ab 0)) (A.ite (A.eq (ab 0) (ab 0)) (A.ite (A.eq y (ab 0)) (A.ite (A.eq (ab 0) (ab 0)) (A.ite (A.eq r (ab 0)) aj ag) ag) ag) ag) ag) ag) ag) ag)) (ai (ar (aC 15 329))) (ai (ar (cT aI)))))))))))))):=by kernel_rfl
theorem akK(A:Prim)(W:Wd)(_k x t o _p y v r:Int):o7 (C5 A W nK ni) 3000 101 [.code []] (mM 75 [.agg [il 2,sy x,sy t,sy o,il 3,sy y,sy v,sy r]] L0)=aw [ac x x,ac t t,ac o o,ac y y,ac v v,ac r r] (aw [ac x x,ac t t,ac o o,ac y y,ac v v,ac r r] (aw [ac x x,ac t t,ac o o,ac y y,ac v v,ac r r] (aw [ac x x,ac t t,ac o o,ac y y,ac v v,ac r r] (ak (A.eq (rD (ab 3)) (ab 0)) (ai (ar (aC 14 329))) (ak (A.lt x (ab 1)) (ai (ar (aC 15 329))) (ak (A.lt (ab 1000) x) (ai (ar (aC 15 329))) (ak (A.lt o (ab 0)) (ai (ar (aC 15 329))) (ak (A.lt (ab 7) o) (ai (ar (aC 15 329))) (ak (A.lt v (bI 999999999)) (ai (ar (aC 15 329))) (ak (A.lt (ab 1000000000) v) (ai (ar (aC 15 329))) (ak (A.nt (A.ite (A.eq (ab 0) (ab 0)) (A.ite (A.eq (ab 0) (ab 0)) (A.ite (A.eq t (ab 0)) (A.ite (A.eq (ab 0) (ab 0)) (A.ite (A.eq (ab 0) (ab 0)) (A.ite (A.eq y (ab 0)) (A.ite (A.eq (ab 0) (ab 0)) (A.ite (A.eq r (ab 0)) aj ag) ag) ag) ag) ag) ag) ag) ag)) (ai (ar (aC 15 329))) (ai (ar (cT aI)))))))))))))):=by kernel_rfl
theorem akL(A:Prim)(W:Wd)(_k x t o _p y v r:Int):o7 (C5 A W nK ni) 3000 101 [.code []] (mM 75 [.agg [il 2,sy x,sy t,sy o,il 4,sy y,sy v,sy r]] L0)=aw [ac x x,ac t t,ac o o,ac y y,ac v v,ac r r] (aw [ac x x,ac t t,ac o o,ac y y,ac v v,ac r r] (aw [ac x x,ac t t,ac o o,ac y y,ac v v,ac r r] (aw [ac x x,ac t t,ac o o,ac y y,ac v v,ac r r] (ak (A.eq (rD (ab 4)) (ab 0)) (ai (ar (aC 14 329))) (ak (A.lt x (ab 1)) (ai (ar (aC 15 329))) (ak (A.lt (ab 1000) x) (ai (ar (aC 15 329))) (ak (A.lt o (ab 0)) (ai (ar (aC 15 329))) (ak (A.lt (ab 7) o) (ai (ar (aC 15 329))) (ak (A.nt (A.ite (A.eq (ab 0) (ab 0)) (A.ite (A.eq (ab 0) (ab 0)) (A.ite (A.eq t (ab 0)) (A.ite (A.eq (ab 0) (ab 0)) (A.ite (A.eq (ab 0) (ab 0)) (A.ite (A.eq y (ab 0)) (A.ite (A.eq v (ab 0)) (A.ite (A.eq r (ab 0)) aj ag) ag) ag) ag) ag) ag) ag) ag)) (ai (ar (aC 15 329))) (ai (ar (cT aI)))))))))))):=by kernel_rfl
theorem akM(A:Prim)(W:Wd)(_k x t o _p y v r:Int):o7 (C5 A W nK ni) 3000 101 [.code []] (mM 75 [.agg [il 2,sy x,sy t,sy o,il 5,sy y,sy v,sy r]] L0)=aw [ac x x,ac t t,ac o o,ac y y,ac v v,ac r r] (aw [ac x x,ac t t,ac o o,ac y y,ac v v,ac r r] (aw [ac x x,ac t t,ac o o,ac y y,ac v v,ac r r] (aw [ac x x,ac t t,ac o o,ac y y,ac v v,ac r r] (ak (A.eq (rD (ab 5)) (ab 0)) (ai (ar (aC 14 329))) (ak (A.lt x (ab 1)) (ai (ar (aC 15 329))) (ak (A.lt (ab 1000) x) (ai (ar (aC 15 329))) (ak (A.lt o (ab 0)) (ai (ar (aC 15 329))) (ak (A.lt (ab 7) o) (ai (ar (aC 15 329))) (ak (A.lt v (bI 999999999)) (ai (ar (aC 15 329))) (ak (A.lt (ab 1000000000) v) (ai (ar (aC 15 329))) (ak (A.nt (A.ite (A.eq (ab 0) (ab 0)) (A.ite (A.eq (ab 0) (ab 0)) (A.ite (A.eq t (ab 0)) (A.ite (A.eq (ab 0) (ab 0)) (A.ite (A.eq (ab 0) (ab 0)) (A.ite (A.eq y (ab 0)) (A.ite (A.eq (ab 0) (ab 0)) (A.ite (A.eq r (ab 0)) aj ag) ag) ag) ag) ag) ag) ag) ag)) (ai (ar (aC 15 329))) (ai (ar (cT aI)))))))))))))):=by kernel_rfl
theorem akN(A:Prim)(W:Wd)(_k x t o _p y v r:Int):o7 (C5 A W nK ni) 3000 101 [.code []] (mM 75 [.agg [il 2,sy x,sy t,sy o,il 6,sy y,sy v,sy r]] L0)=aw [ac x x,ac t t,ac o o,ac y y,ac v v,ac r r] (aw [ac x x,ac t t,ac o o,ac y y,ac v v,ac r r] (aw [ac x x,ac t t,ac o o,ac y y,ac v v,ac r r] (aw [ac x x,ac t t,ac o o,ac y y,ac v v,ac r r] (ak (A.eq (rD (ab 6)) (ab 0)) (ai (ar (aC 14 329))) (ak (A.lt x (ab 1)) (ai (ar (aC 15 329))) (ak (A.lt (ab 1000) x) (ai (ar (aC 15 329))) (ak (A.lt o (ab 0)) (ai (ar (aC 15 329))) (ak (A.lt (ab 7) o) (ai (ar (aC 15 329))) (ak (A.nt (A.ite (A.eq (ab 0) (ab 0)) (A.ite (A.eq (ab 0) (ab 0)) (A.ite (A.eq t (ab 0)) (A.ite (A.eq (ab 0) (ab 0)) (A.ite (A.eq (ab 0) (ab 0)) (A.ite (A.eq y (ab 0)) (A.ite (A.eq v (ab 0)) (A.ite (A.eq r (ab 0)) aj ag) ag) ag) ag) ag) ag) ag) ag)) (ai (ar (aC 15 329))) (ai (ar (cT aI)))))))))))):=by kernel_rfl
theorem akO(A:Prim)(W:Wd)(_k x t o _p y v r:Int):o7 (C5 A W nK ni) 3000 101 [.code []] (mM 75 [.agg [il 2,sy x,sy t,sy o,il 7,sy y,sy v,sy r]] L0)=aw [ac x x,ac t t,ac o o,ac y y,ac v v,ac r r] (aw [ac x x,ac t t,ac o o,ac y y,ac v v,ac r r] (aw [ac x x,ac t t,ac o o,ac y y,ac v v,ac r r] (aw [ac x x,ac t t,ac o o,ac y y,ac v v,ac r r] (ak (A.eq (rD (ab 7)) (ab 0)) (ai (ar (aC 14 329))) (ak (A.lt x (ab 1)) (ai (ar (aC 15 329))) (ak (A.lt (ab 1000) x) (ai (ar (aC 15 329))) (ak (A.lt o (ab 0)) (ai (ar (aC 15 329))) (ak (A.lt (ab 7) o) (ai (ar (aC 15 329))) (ak (A.lt y (ab 0)) (ai (ar (aC 15 329))) (ak (A.lt (ab 1000) y) (ai (ar (aC 15 329))) (ak (A.lt v (bI 999999999)) (ai (ar (aC 15 329))) (ak (A.lt (ab 1000000000) v) (ai (ar (aC 15 329))) (ak (A.nt (A.ite (A.eq (ab 0) (ab 0)) (A.ite (A.eq (ab 0) (ab 0)) (A.ite (A.eq t (ab 0)) (A.ite (A.eq (ab 0) (ab 0)) (A.ite (A.eq (ab 0) (ab 0)) (A.ite (A.eq (ab 0) (ab 0)) (A.ite (A.eq (ab 0) (ab 0)) (A.ite (A.eq r (ab 0)) aj ag) ag) ag) ag) ag) ag) ag) ag)) (ai (ar (aC 15 329))) (ai (ar (cT aI)))))))))))))))):=by kernel_rfl
theorem akP(A:Prim)(W:Wd)(_k x t o _p y v r:Int):o7 (C5 A W nK ni) 3000 101 [.code []] (mM 75 [.agg [il 2,sy x,sy t,sy o,il 8,sy y,sy v,sy r]] L0)=aw [ac x x,ac t t,ac o o,ac y y,ac v v,ac r r] (aw [ac x x,ac t t,ac o o,ac y y,ac v v,ac r r] (aw [ac x x,ac t t,ac o o,ac y y,ac v v,ac r r] (aw [ac x x,ac t t,ac o o,ac y y,ac v v,ac r r] (ak (A.eq (rD (ab 8)) (ab 0)) (ai (ar (aC 14 329))) (ak (A.lt x (ab 1)) (ai (ar (aC 15 329))) (ak (A.lt (ab 1000) x) (ai (ar (aC 15 329))) (ak (A.lt o (ab 0)) (ai (ar (aC 15 329))) (ak (A.lt (ab 7) o) (ai (ar (aC 15 329))) (ak (A.lt y (ab 0)) (ai (ar (aC 15 329))) (ak (A.lt (ab 1000) y) (ai (ar (aC 15 329))) (ak (A.nt (A.ite (A.eq (ab 0) (ab 0)) (A.ite (A.eq (ab 0) (ab 0)) (A.ite (A.eq t (ab 0)) (A.ite (A.eq (ab 0) (ab 0)) (A.ite (A.eq (ab 0) (ab 0)) (A.ite (A.eq (ab 0) (ab 0)) (A.ite (A.eq v (ab 0)) (A.ite (A.eq r (ab 0)) aj ag) ag) ag) ag) ag) ag) ag) ag)) (ai (ar (aC 15 329))) (ai (ar (cT aI)))))))))))))):=by kernel_rfl
theorem akQ(A:Prim)(W:Wd)(_k x t o _p y v r:Int):o7 (C5 A W nK ni) 3000 101 [.code []] (mM 75 [.agg [il 2,sy x,sy t,sy o,il 9,sy y,sy v,sy r]] L0)=aw [ac x x,ac t t,ac o o,ac y y,ac v v,ac r r] (aw [ac x x,ac t t,ac o o,ac y y,ac v v,ac r r] (aw [ac x x,ac t t,ac o o,ac y y,ac v v,ac r r] (aw [ac x x,ac t t,ac o o,ac y y,ac v v,ac r r] (ak (A.eq (rD (ab 9)) (ab 0)) (ai (ar (aC 14 329))) (ak (A.lt x (ab 1)) (ai (ar (aC 15 329))) (ak (A.lt (ab 1000) x) (ai (ar (aC 15 329))) (ak (A.lt o (ab 0)) (ai (ar (aC 15 329))) (ak (A.lt (ab 7) o) (ai (ar (aC 15 329))) (ak (A.lt y (ab 0)) (ai (ar (aC 15 329))) (ak (A.lt (ab 1000) y) (ai (ar (aC 15 329))) (ak (A.nt (A.ite (A.eq (ab 0) (ab 0)) (A.ite (A.eq (ab 0) (ab 0)) (A.ite (A.eq t (ab 0)) (A.ite (A.eq (ab 0) (ab 0)) (A.ite (A.eq (ab 0) (ab 0)) (A.ite (A.eq (ab 0) (ab 0)) (A.ite (A.eq v (ab 0)) (A.ite (A.eq r (ab 0)) aj ag) ag) ag) ag) ag) ag) ag) ag)) (ai (ar (aC 15 329))) (ai (ar (cT aI)))))))))))))):=by kernel_rfl
theorem akR(A:Prim)(W:Wd)(_k x t o p y v _r:Int):o7 (C5 A W nK ni) 3000 101 [.code []] (mM 75 [.agg [il 3,sy x,sy t,sy o,sy p,sy y,sy v,il 1]] L0)=aw [ac x x,ac t t,ac o o,ac p p,ac y y,ac v v] (aw [ac x x,ac t t,ac o o,ac p p,ac y y,ac v v] (aw [ac x x,ac t t,ac o o,ac p p,ac y y,ac v v] (aw [ac x x,ac t t,ac o o,ac p p,ac y y,ac v v] (am aj (ak (A.seq (qj 19 3 (ab 1)) []) (ai (ar (aC 14 329))) (ak (A.lt x (ab 1)) (ai (ar (aC 15 329))) (ak (A.lt (ab 1000) x) (ai (ar (aC 15 329))) (ak (A.nt (A.ite (A.eq (ab 0) (ab 0)) (A.ite (A.eq (ab 0) (ab 0)) (A.ite (A.eq t (ab 0)) (A.ite (A.eq o (ab 0)) (A.ite (A.eq p (ab 0)) (A.ite (A.eq y (ab 0)) (A.ite (A.eq v (ab 0)) (A.ite (A.eq (ab 0) (ab 0)) aj ag) ag) ag) ag) ag) ag) ag) ag)) (ai (ar (aC 15 329))) (ai (ar (cT aI))))))))))):=by kernel_rfl
theorem akS(A:Prim)(W:Wd)(_k x t o p y v _r:Int):o7 (C5 A W nK ni) 3000 101 [.code []] (mM 75 [.agg [il 3,sy x,sy t,sy o,sy p,sy y,sy v,il 2]] L0)=aw [ac x x,ac t t,ac o o,ac p p,ac y y,ac v v] (aw [ac x x,ac t t,ac o o,ac p p,ac y y,ac v v] (aw [ac x x,ac t t,ac o o,ac p p,ac y y,ac v v] (aw [ac x x,ac t t,ac o o,ac p p,ac y y,ac v v] (am aj (ak (A.seq (qj 19 3 (ab 2)) []) (ai (ar (aC 14 329))) (ak (A.lt x (ab 1)) (ai (ar (aC 15 329))) (ak (A.lt (ab 1000) x) (ai (ar (aC 15 329))) (ak (A.nt (A.ite (A.eq (ab 0) (ab 0)) (A.ite (A.eq (ab 0) (ab 0)) (A.ite (A.eq t (ab 0)) (A.ite (A.eq o (ab 0)) (A.ite (A.eq p (ab 0)) (A.ite (A.eq y (ab 0)) (A.ite (A.eq v (ab 0)) (A.ite (A.eq (ab 0) (ab 0)) aj ag) ag) ag) ag) ag) ag) ag) ag)) (ai (ar (aC 15 329))) (ai (ar (cT aI))))))))))):=by kernel_rfl
theorem akT(A:Prim)(W:Wd)(_k x t o p y v _r:Int):o7 (C5 A W nK ni) 3000 101 [.code []] (mM 75 [.agg [il 3,sy x,sy t,sy o,sy p,sy y,sy v,il 3]] L0)=aw [ac x x,ac t t,ac o o,ac p p,ac y y,ac v v] (aw [ac x x,ac t t,ac o o,ac p p,ac y y,ac v v] (aw [ac x x,ac t t,ac o o,ac p p,ac y y,ac v v] (aw [ac x x,ac t t,ac o o,ac p p,ac y y,ac v v] (am aj (ak (A.seq (qj 19 3 (ab 3)) []) (ai (ar (aC 14 329))) (ak (A.lt x (ab 1)) (ai (ar (aC 15 329))) (ak (A.lt (ab 1000) x) (ai (ar (aC 15 329))) (ak (A.lt v (bI 999999999)) (ai (ar (aC 15 329))) (ak (A.lt (ab 1000000000) v) (ai (ar (aC 15 329))) (ak (A.nt (A.ite (A.eq (ab 0) (ab 0)) (A.ite (A.eq (ab 0) (ab 0)) (A.ite (A.eq t (ab 0)) (A.ite (A.eq o (ab 0)) (A.ite (A.eq p (ab 0)) (A.ite (A.eq y (ab 0)) (A.ite (A.eq (ab 0) (ab 0)) (A.ite (A.eq (ab 0) (ab 0)) aj ag) ag) ag) ag) ag) ag) ag) ag)) (ai (ar (aC 15 329))) (ai (ar (cT aI))))))))))))):=by kernel_rfl
theorem aqj(A:Prim)(W:Wd)(k x t o p y v r:Int):dead (o7 (C5 A W nK yV) 3000 101 [.code []] (mM 75 [.agg [sy k,sy x,sy t,sy o,sy p,sy y,sy v,sy r]] L0))=aw [ac k k,ac x x,ac t t,ac o o,ac p p,ac y y,ac v v,ac r r] (aw [ac k k,ac x x,ac t t,ac o o,ac p p,ac y y,ac v v,ac r r] (aw [ac k k,ac x x,ac t t,ac o o,ac p p,ac y y,ac v v,ac r r] (aw [ac k k,ac x x,ac t t,ac o o,ac p p,ac y y,ac v v,ac r r] (ak (A.eq k (ab 1)) (ak (A.eq k (ab 2)) (ak (A.eq (rD p) (ab 0)) (ai (ar (aC 14 329))) (ak (A.eq k (ab 3)) (am aj (ak (A.seq (qj 19 3 r) []) (ai (ar (aC 14 329))) aY)) aY)) (ak (A.eq k (ab 3)) (am aj (ak (A.seq (qj 19 3 r) []) (ai (ar (aC 14 329))) aY)) aY)) (ak (A.eq k (ab 4)) (ak (A.eq k (ab 2)) (ak (A.eq (rD p) (ab 0)) (ai (ar (aC 14 329))) (ak (A.eq k (ab 3)) (am aj (ak (A.seq (qj 19 3 r) []) (ai (ar (aC 14 329))) aY)) aY)) (ak (A.eq k (ab 3)) (am aj (ak (A.seq (qj 19 3 r) []) (ai (ar (aC 14 329))) aY)) aY)) (ak (A.eq k (ab 5)) (ak (A.eq k (ab 2)) (ak (A.eq (rD p) (ab 0)) (ai (ar (aC 14 329))) (ak (A.eq k (ab 3)) (am aj (ak (A.seq (qj 19 3 r) []) (ai (ar (aC 14 329))) aY)) aY)) (ak (A.eq k (ab 3)) (am aj (ak (A.seq (qj 19 3 r) []) (ai (ar (aC 14 329))) aY)) aY)) (ak (A.eq k (ab 6)) (ak (A.eq k (ab 2)) (ak (A.eq (rD p) (ab 0)) (ai (ar (aC 14 329))) (ak (A.eq k (ab 3)) (am aj (ak (A.seq (qj 19 3 r) []) (ai (ar (aC 14 329))) aY)) aY)) (ak (A.eq k (ab 3)) (am aj (ak (A.seq (qj 19 3 r) []) (ai (ar (aC 14 329))) aY)) aY)) (ak (A.eq k (ab 7)) (ak (A.eq k (ab 2)) (ak (A.eq (rD p) (ab 0)) (ai (ar (aC 14 329))) (ak (A.eq k (ab 3)) (am aj (ak (A.seq (qj 19 3 r) []) (ai (ar (aC 14 329))) aY)) aY)) (ak (A.eq k (ab 3)) (am aj (ak (A.seq (qj 19 3 r) []) (ai (ar (aC 14 329))) aY)) aY)) (ak (A.eq k (ab 2)) (ak (A.eq k (ab 2)) (ak (A.eq (rD p) (ab 0)) (ai (ar (aC 14 329))) (ak (A.eq k (ab 3)) (am aj (ak (A.seq (qj 19 3 r) []) (ai (ar (aC 14 329))) aY)) aY)) (ak (A.eq k (ab 3)) (am aj (ak (A.seq (qj 19 3 r) []) (ai (ar (aC 14 329))) aY)) aY)) (ak (A.eq k (ab 3)) (ak (A.eq k (ab 2)) (ak (A.eq (rD p) (ab 0)) (ai (ar (aC 14 329))) (ak (A.eq k (ab 3)) (am aj (ak (A.seq (qj 19 3 r) []) (ai (ar (aC 14 329))) aY)) aY)) (ak (A.eq k (ab 3)) (am aj (ak (A.seq (qj 19 3 r) []) (ai (ar (aC 14 329))) aY)) aY)) (ai (ar (aC 14 329))))))))))))):=by kernel_rfl
theorem anD(A:Prim)(W:Wd)(_k x t o p y v r:Int):dead (o7 (C5 A W nK yV) 3000 101 [.code []] (mM 75 [.agg [il 2,sy x,sy t,sy o,sy p,sy y,sy v,sy r]] L0))=aw [ac x x,ac t t,ac o o,ac p p,ac y y,ac v v,ac r r] (aw [ac x x,ac t t,ac o o,ac p p,ac y y,ac v v,ac r r] (aw [ac x x,ac t t,ac o o,ac p p,ac y y,ac v v,ac r r] (aw [ac x x,ac t t,ac o o,ac p p,ac y y,ac v v,ac r r] (ak (A.eq (rD p) (ab 0)) (ai (ar (aC 14 329))) aY)))):=by kernel_rfl
theorem anE(A:Prim)(W:Wd)(_k x t o p y v r:Int):dead (o7 (C5 A W nK yV) 3000 101 [.code []] (mM 75 [.agg [il 3,sy x,sy t,sy o,sy p,sy y,sy v,sy r]] L0))=aw [ac x x,ac t t,ac o o,ac p p,ac y y,ac v v,ac r r] (aw [ac x x,ac t t,ac o o,ac p p,ac y y,ac v v,ac r r] (aw [ac x x,ac t t,ac o o,ac p p,ac y y,ac v v,ac r r] (aw [ac x x,ac t t,ac o o,ac p p,ac y y,ac v v,ac r r] (am aj (ak (A.seq (qj 19 3 r) []) (ai (ar (aC 14 329))) aY))))):=by kernel_rfl
end Go.mP
namespace Go.oD
open Go Go.Sx
def Nq(e:Ev):Prop:=(1<=e.kind/\e.kind<=7)/\(e.kind=2->1<=e.op/\e.op<=9)/\(e.kind=3->1<=e.ret/\e.ret<=3)
def nS(e:Ev):Prop:=
 (1<=e.tx/\e.tx<=1000)/\
 ((e.kind=1/\0<=e.thread/\e.thread<=7)\/(e.kind≠1/\e.thread=0))/\
 ((e.kind=2/\0<=e.obj/\e.obj<=7)\/(e.kind≠2/\e.obj=0))/\
 ((e.kind=2/\1<=e.op/\e.op<=9)\/(e.kind≠2/\e.op=0))/\
 ((e.kind=2/\7<=e.op/\0<=e.key/\e.key<=1000)\/(¬(e.kind=2/\7<=e.op)/\e.key=0))/\
 ((((e.kind=2/\(e.op=2\/e.op=3\/e.op=5\/e.op=7))\/(e.kind=3/\e.ret=3))/\-1000000000<=e.val/\e.val<=1000000000)\/(¬((e.kind=2/\(e.op=2\/e.op=3\/e.op=5\/e.op=7))\/(e.kind=3/\e.ret=3))/\e.val=0))/\
 ((e.kind=3/\1<=e.ret/\e.ret<=3)\/(e.kind≠3/\e.ret=0))
instance (e:Ev):Decidable (Nq e):=by unfold Nq;infer_instance
instance (e:Ev):Decidable (nS e):=by unfold nS;infer_instance
end Go.oD
namespace Go.mP
open Go Go.Sx Go.oD
theorem aqk{H:Mem}{w:World}{φ:Sh->Prop}{x t o p y v r:Int}(hN:nS ⟨1,x,t,o,p,y,v,r⟩->φ (.v .nilIface))(h9:¬nS ⟨1,x,t,o,p,y,v,r⟩->φ (.er 15 329)):
  qX (oN ah (C5 mD W5 nK ni) (K0 H w) aJ φ) (o7 (C5 mD W5 nK ni) 3000 101 [.code []] (mM 75 [.agg [il 1,sy x,sy t,sy o,sy p,sy y,sy v,sy r]] L0)):=by
 rw[aqe mD W5 0 x t o p y v r,<-oU];simp[bP,oN,aX,cw,mQ,nC,oP,rV];grind [nS]
theorem aql{H:Mem}{w:World}{φ:Sh->Prop}{x t o p y v r:Int}(hN:nS ⟨4,x,t,o,p,y,v,r⟩->φ (.v .nilIface))(h9:¬nS ⟨4,x,t,o,p,y,v,r⟩->φ (.er 15 329)):
  qX (oN ah (C5 mD W5 nK ni) (K0 H w) aJ φ) (o7 (C5 mD W5 nK ni) 3000 101 [.code []] (mM 75 [.agg [il 4,sy x,sy t,sy o,sy p,sy y,sy v,sy r]] L0)):=by
 rw[aqf mD W5 0 x t o p y v r,<-oU];simp[bP,oN,aX,cw,mQ,nC,oP,rV];grind [nS]
theorem aqm{H:Mem}{w:World}{φ:Sh->Prop}{x t o p y v r:Int}(hN:nS ⟨5,x,t,o,p,y,v,r⟩->φ (.v .nilIface))(h9:¬nS ⟨5,x,t,o,p,y,v,r⟩->φ (.er 15 329)):
  qX (oN ah (C5 mD W5 nK ni) (K0 H w) aJ φ) (o7 (C5 mD W5 nK ni) 3000 101 [.code []] (mM 75 [.agg [il 5,sy x,sy t,sy o,sy p,sy y,sy v,sy r]] L0)):=by
 rw[aqg mD W5 0 x t o p y v r,<-oU];simp[bP,oN,aX,cw,mQ,nC,oP,rV];grind [nS]
theorem aqn{H:Mem}{w:World}{φ:Sh->Prop}{x t o p y v r:Int}(hN:nS ⟨6,x,t,o,p,y,v,r⟩->φ (.v .nilIface))(h9:¬nS ⟨6,x,t,o,p,y,v,r⟩->φ (.er 15 329)):
  qX (oN ah (C5 mD W5 nK ni) (K0 H w) aJ φ) (o7 (C5 mD W5 nK ni) 3000 101 [.code []] (mM 75 [.agg [il 6,sy x,sy t,sy o,sy p,sy y,sy v,sy r]] L0)):=by
 rw[aqh mD W5 0 x t o p y v r,<-oU];simp[bP,oN,aX,cw,mQ,nC,oP,rV];grind [nS]
theorem aqo{H:Mem}{w:World}{φ:Sh->Prop}{x t o p y v r:Int}(hN:nS ⟨7,x,t,o,p,y,v,r⟩->φ (.v .nilIface))(h9:¬nS ⟨7,x,t,o,p,y,v,r⟩->φ (.er 15 329)):
  qX (oN ah (C5 mD W5 nK ni) (K0 H w) aJ φ) (o7 (C5 mD W5 nK ni) 3000 101 [.code []] (mM 75 [.agg [il 7,sy x,sy t,sy o,sy p,sy y,sy v,sy r]] L0)):=by
 rw[aqi mD W5 0 x t o p y v r,<-oU];simp[bP,oN,aX,cw,mQ,nC,oP,rV];grind [nS]
theorem akU{H:Mem}{w:World}{φ:Sh->Prop}{x t o p y v r:Int}(hN:nS ⟨2,x,t,o,1,y,v,r⟩->φ (.v .nilIface))(h9:¬nS ⟨2,x,t,o,1,y,v,r⟩->φ (.er 15 329)):
  qX (oN ah (C5 mD W5 nK ni) (K0 H w) aJ φ) (o7 (C5 mD W5 nK ni) 3000 101 [.code []] (mM 75 [.agg [il 2,sy x,sy t,sy o,il 1,sy y,sy v,sy r]] L0)):=by
 rw[akI mD W5 0 x t o p y v r,<-oU];simp[bP,oN,aX,cw,mQ,nC,oP,rV,rD];grind [nS]
theorem akV{H:Mem}{w:World}{φ:Sh->Prop}{x t o p y v r:Int}(hN:nS ⟨2,x,t,o,2,y,v,r⟩->φ (.v .nilIface))(h9:¬nS ⟨2,x,t,o,2,y,v,r⟩->φ (.er 15 329)):
  qX (oN ah (C5 mD W5 nK ni) (K0 H w) aJ φ) (o7 (C5 mD W5 nK ni) 3000 101 [.code []] (mM 75 [.agg [il 2,sy x,sy t,sy o,il 2,sy y,sy v,sy r]] L0)):=by
 rw[akJ mD W5 0 x t o p y v r,<-oU];simp[bP,oN,aX,cw,mQ,nC,oP,rV,rD];grind [nS]
theorem akW{H:Mem}{w:World}{φ:Sh->Prop}{x t o p y v r:Int}(hN:nS ⟨2,x,t,o,3,y,v,r⟩->φ (.v .nilIface))(h9:¬nS ⟨2,x,t,o,3,y,v,r⟩->φ (.er 15 329)):
  qX (oN ah (C5 mD W5 nK ni) (K0 H w) aJ φ) (o7 (C5 mD W5 nK ni) 3000 101 [.code []] (mM 75 [.agg [il 2,sy x,sy t,sy o,il 3,sy y,sy v,sy r]] L0)):=by
 rw[akK mD W5 0 x t o p y v r,<-oU];simp[bP,oN,aX,cw,mQ,nC,oP,rV,rD];grind [nS]
theorem akX{H:Mem}{w:World}{φ:Sh->Prop}{x t o p y v r:Int}(hN:nS ⟨2,x,t,o,4,y,v,r⟩->φ (.v .nilIface))(h9:¬nS ⟨2,x,t,o,4,y,v,r⟩->φ (.er 15 329)):
  qX (oN ah (C5 mD W5 nK ni) (K0 H w) aJ φ) (o7 (C5 mD W5 nK ni) 3000 101 [.code []] (mM 75 [.agg [il 2,sy x,sy t,sy o,il 4,sy y,sy v,sy r]] L0)):=by
 rw[akL mD W5 0 x t o p y v r,<-oU];simp[bP,oN,aX,cw,mQ,nC,oP,rV,rD];grind [nS]
theorem akY{H:Mem}{w:World}{φ:Sh->Prop}{x t o p y v r:Int}(hN:nS ⟨2,x,t,o,5,y,v,r⟩->φ (.v .nilIface))(h9:¬nS ⟨2,x,t,o,5,y,v,r⟩->φ (.er 15 329)):
  qX (oN ah (C5 mD W5 nK ni) (K0 H w) aJ φ) (o7 (C5 mD W5 nK ni) 3000 101 [.code []] (mM 75 [.agg [il 2,sy x,sy t,sy o,il 5,sy y,sy v,sy r]] L0)):=by
 rw[akM mD W5 0 x t o p y v r,<-oU];simp[bP,oN,aX,cw,mQ,nC,oP,rV,rD];grind [nS]
theorem akZ{H:Mem}{w:World}{φ:Sh->Prop}{x t o p y v r:Int}(hN:nS ⟨2,x,t,o,6,y,v,r⟩->φ (.v .nilIface))(h9:¬nS ⟨2,x,t,o,6,y,v,r⟩->φ (.er 15 329)):
  qX (oN ah (C5 mD W5 nK ni) (K0 H w) aJ φ) (o7 (C5 mD W5 nK ni) 3000 101 [.code []] (mM 75 [.agg [il 2,sy x,sy t,sy o,il 6,sy y,sy v,sy r]] L0)):=by
 rw[akN mD W5 0 x t o p y v r,<-oU];simp[bP,oN,aX,cw,mQ,nC,oP,rV,rD];grind [nS]
theorem ak0{H:Mem}{w:World}{φ:Sh->Prop}{x t o p y v r:Int}(hN:nS ⟨2,x,t,o,7,y,v,r⟩->φ (.v .nilIface))(h9:¬nS ⟨2,x,t,o,7,y,v,r⟩->φ (.er 15 329)):
  qX (oN ah (C5 mD W5 nK ni) (K0 H w) aJ φ) (o7 (C5 mD W5 nK ni) 3000 101 [.code []] (mM 75 [.agg [il 2,sy x,sy t,sy o,il 7,sy y,sy v,sy r]] L0)):=by
 rw[akO mD W5 0 x t o p y v r,<-oU];simp[bP,oN,aX,cw,mQ,nC,oP,rV,rD];grind [nS]
theorem ak1{H:Mem}{w:World}{φ:Sh->Prop}{x t o p y v r:Int}(hN:nS ⟨2,x,t,o,8,y,v,r⟩->φ (.v .nilIface))(h9:¬nS ⟨2,x,t,o,8,y,v,r⟩->φ (.er 15 329)):
  qX (oN ah (C5 mD W5 nK ni) (K0 H w) aJ φ) (o7 (C5 mD W5 nK ni) 3000 101 [.code []] (mM 75 [.agg [il 2,sy x,sy t,sy o,il 8,sy y,sy v,sy r]] L0)):=by
 rw[akP mD W5 0 x t o p y v r,<-oU];simp[bP,oN,aX,cw,mQ,nC,oP,rV,rD];grind [nS]
theorem ak2{H:Mem}{w:World}{φ:Sh->Prop}{x t o p y v r:Int}(hN:nS ⟨2,x,t,o,9,y,v,r⟩->φ (.v .nilIface))(h9:¬nS ⟨2,x,t,o,9,y,v,r⟩->φ (.er 15 329)):
  qX (oN ah (C5 mD W5 nK ni) (K0 H w) aJ φ) (o7 (C5 mD W5 nK ni) 3000 101 [.code []] (mM 75 [.agg [il 2,sy x,sy t,sy o,il 9,sy y,sy v,sy r]] L0)):=by
 rw[akQ mD W5 0 x t o p y v r,<-oU];simp[bP,oN,aX,cw,mQ,nC,oP,rV,rD];grind [nS]
theorem ak3{H:Mem}{w:World}{φ:Sh->Prop}{x t o p y v r:Int}(hN:nS ⟨3,x,t,o,p,y,v,1⟩->φ (.v .nilIface))(h9:¬nS ⟨3,x,t,o,p,y,v,1⟩->φ (.er 15 329)):
  qX (oN ah (C5 mD W5 nK ni) (K0 H w) aJ φ) (o7 (C5 mD W5 nK ni) 3000 101 [.code []] (mM 75 [.agg [il 3,sy x,sy t,sy o,sy p,sy y,sy v,il 1]] L0)):=by
 rw[akR mD W5 0 x t o p y v r,<-oU];simp[bP,oN,aX,cw,mQ,nC,oP,rV,Gu agn,TN,idx,cx];grind [nS]
theorem ak4{H:Mem}{w:World}{φ:Sh->Prop}{x t o p y v r:Int}(hN:nS ⟨3,x,t,o,p,y,v,2⟩->φ (.v .nilIface))(h9:¬nS ⟨3,x,t,o,p,y,v,2⟩->φ (.er 15 329)):
  qX (oN ah (C5 mD W5 nK ni) (K0 H w) aJ φ) (o7 (C5 mD W5 nK ni) 3000 101 [.code []] (mM 75 [.agg [il 3,sy x,sy t,sy o,sy p,sy y,sy v,il 2]] L0)):=by
 rw[akS mD W5 0 x t o p y v r,<-oU];simp[bP,oN,aX,cw,mQ,nC,oP,rV,Gu agn,TN,idx,cx];grind [nS]
theorem ak5{H:Mem}{w:World}{φ:Sh->Prop}{x t o p y v r:Int}(hN:nS ⟨3,x,t,o,p,y,v,3⟩->φ (.v .nilIface))(h9:¬nS ⟨3,x,t,o,p,y,v,3⟩->φ (.er 15 329)):
  qX (oN ah (C5 mD W5 nK ni) (K0 H w) aJ φ) (o7 (C5 mD W5 nK ni) 3000 101 [.code []] (mM 75 [.agg [il 3,sy x,sy t,sy o,sy p,sy y,sy v,il 3]] L0)):=by
 rw[akT mD W5 0 x t o p y v r,<-oU];simp[bP,oN,aX,cw,mQ,nC,oP,rV,Gu agn,TN,idx,cx];grind [nS]
end Go.mP
namespace Go.oD
open Go Go.Sx
def Ii(e:Ev):Bool:=decide (Nq e)
def fieldsB(e:Ev):Bool:=decide (nS e)
def qg(n:Int):Bool:=decide (-9223372036854775808<=n/\n<=9223372036854775807)
def WI:List Sh->Option Ev
 |[a,b,c,d,e,f,g,h]=>match nR a with
  |none=>aq |some a=>match nR b with
   |none=>aq |some b=>match nR c with
    |none=>aq |some c=>match nR d with
     |none=>aq |some d=>match nR e with
      |none=>aq |some e=>match nR f with
       |none=>aq |some f=>match nR g with
        |none=>aq |some g=>match nR h with
         |none=>aq |some h=>ae ⟨a,b,c,d,e,f,g,h⟩
 |_=>aq
theorem pK{H:Mem}{l l':List Sh}{v:Value}(hv:Rep H (.agg l) v)(hl:l'.length=l.length)(h:∀(j:Nat) (s s':Sh),l[j]?=ae s->l'[j]?=ae s'->∀u,Rep H s u->Rep H s' u):Rep H (.agg l') v:=by
 cases hv with
 |agg _ vs h3 h4=>
  refine .agg _ vs (by omega) fun j s' v' e1 e2=>?_
  grind
theorem acS{H:Mem}{l:List Sh}{e:Ev}{v:Value}(h:WI l=ae e)(hv:Rep H (.agg l) v):Rep H (.agg (uM e)) v:=by
 unfold WI at h;repeat' split at h
 all_goals simp_all
 rename_i h1 _ _ h2 _ _ h3 _ _ h4 _ _ h5 _ _ h6 _ _ h7 _ _ h8;cases h;refine pK hv rfl fun j s s' e1 e2 u hu=>?_
 match j,e1,e2 with
 |0,e1,e2=>grind [uM,qW] |1,e1,e2=>grind [uM,qW] |2,e1,e2=>grind [uM,qW] |3,e1,e2=>grind [uM,qW] |4,e1,e2=>grind [uM,qW] |5,e1,e2=>grind [uM,qW] |6,e1,e2=>grind [uM,qW] |7,e1,e2=>simp[uM] at e1 e2;grind [qW] |j+8,e1,e2=>simp_all
theorem tq{H:Mem}{c:Int}{u:Value}(h:Rep H (.i .i64 c) u):Rep H (.v (.int .i64 c)) u:=by
 cases h;exact .v _ rfl
end Go.oD
namespace Go.mP
open Go Go.Sx Go.oD
def ak6:List Sh->Tree Sh
 |[.agg l]=>match WI l with
  |some e=>.need (Ii e) (.node (fieldsB e) (.leaf (.v .nilIface)) (.leaf (.er 15 329))) |none=>.fail
 |_=>.fail
def ak7:List Sh->Tree Sh
 |[.agg l]=>match WI l with
  |some e=>.need (qg e.ret) (.need (!Ii e) (.leaf (.er 14 329))) |none=>.fail
 |_=>.fail
def F56:List Sh->Tree Sh
 |[.agg l]=>match WI l with
  |some e=>.need (qg e.ret) (.node (Ii e) (.node (fieldsB e) (.leaf (.v .nilIface)) (.leaf (.er 15 329))) (.leaf (.er 14 329))) |none=>.fail
 |_=>.fail
theorem aqp{H:Mem}{x t o p y v r:Int}{u:Value}(h:Rep H (.agg (uM ⟨1,x,t,o,p,y,v,r⟩)) u):Rep H (.agg [il 1,sy x,sy t,sy o,sy p,sy y,sy v,sy r]) u:=by
 refine pK h rfl fun j s s' e1 e2 u hu=>?_
 match j,e1,e2 with
 |0,e1,e2|1,e1,e2|2,e1,e2|3,e1,e2|4,e1,e2|5,e1,e2|6,e1,e2|7,e1,e2=>simp[uM] at e1 e2;subst e1 e2;first|exact hu|exact tq hu
 |j+8,e1,e2=>simp at e2
theorem aqr{H:Mem}{x t o p y v r:Int}{u:Value}(h:Rep H (.agg (uM ⟨4,x,t,o,p,y,v,r⟩)) u):Rep H (.agg [il 4,sy x,sy t,sy o,sy p,sy y,sy v,sy r]) u:=by
 refine pK h rfl fun j s s' e1 e2 u hu=>?_
 match j,e1,e2 with
 |0,e1,e2|1,e1,e2|2,e1,e2|3,e1,e2|4,e1,e2|5,e1,e2|6,e1,e2|7,e1,e2=>simp[uM] at e1 e2;subst e1 e2;first|exact hu|exact tq hu
 |j+8,e1,e2=>simp at e2
theorem aqs{H:Mem}{x t o p y v r:Int}{u:Value}(h:Rep H (.agg (uM ⟨5,x,t,o,p,y,v,r⟩)) u):Rep H (.agg [il 5,sy x,sy t,sy o,sy p,sy y,sy v,sy r]) u:=by
 refine pK h rfl fun j s s' e1 e2 u hu=>?_
 match j,e1,e2 with
 |0,e1,e2|1,e1,e2|2,e1,e2|3,e1,e2|4,e1,e2|5,e1,e2|6,e1,e2|7,e1,e2=>simp[uM] at e1 e2;subst e1 e2;first|exact hu|exact tq hu
 |j+8,e1,e2=>simp at e2
theorem aqt{H:Mem}{x t o p y v r:Int}{u:Value}(h:Rep H (.agg (uM ⟨6,x,t,o,p,y,v,r⟩)) u):Rep H (.agg [il 6,sy x,sy t,sy o,sy p,sy y,sy v,sy r]) u:=by
 refine pK h rfl fun j s s' e1 e2 u hu=>?_
 match j,e1,e2 with
 |0,e1,e2|1,e1,e2|2,e1,e2|3,e1,e2|4,e1,e2|5,e1,e2|6,e1,e2|7,e1,e2=>simp[uM] at e1 e2;subst e1 e2;first|exact hu|exact tq hu
 |j+8,e1,e2=>simp at e2
theorem aqu{H:Mem}{x t o p y v r:Int}{u:Value}(h:Rep H (.agg (uM ⟨7,x,t,o,p,y,v,r⟩)) u):Rep H (.agg [il 7,sy x,sy t,sy o,sy p,sy y,sy v,sy r]) u:=by
 refine pK h rfl fun j s s' e1 e2 u hu=>?_
 match j,e1,e2 with
 |0,e1,e2|1,e1,e2|2,e1,e2|3,e1,e2|4,e1,e2|5,e1,e2|6,e1,e2|7,e1,e2=>simp[uM] at e1 e2;subst e1 e2;first|exact hu|exact tq hu
 |j+8,e1,e2=>simp at e2
theorem ak8{H:Mem}{x t o p y v r:Int}{u:Value}(h:Rep H (.agg (uM ⟨2,x,t,o,1,y,v,r⟩)) u):Rep H (.agg [il 2,sy x,sy t,sy o,il 1,sy y,sy v,sy r]) u:=by
 refine pK h rfl fun j s s' e1 e2 u hu=>?_
 match j,e1,e2 with
 |0,e1,e2|1,e1,e2|2,e1,e2|3,e1,e2|4,e1,e2|5,e1,e2|6,e1,e2|7,e1,e2=>simp[uM] at e1 e2;subst e1 e2;first|exact hu|exact tq hu
 |j+8,e1,e2=>simp at e2
theorem ak9{H:Mem}{x t o p y v r:Int}{u:Value}(h:Rep H (.agg (uM ⟨2,x,t,o,2,y,v,r⟩)) u):Rep H (.agg [il 2,sy x,sy t,sy o,il 2,sy y,sy v,sy r]) u:=by
 refine pK h rfl fun j s s' e1 e2 u hu=>?_
 match j,e1,e2 with
 |0,e1,e2|1,e1,e2|2,e1,e2|3,e1,e2|4,e1,e2|5,e1,e2|6,e1,e2|7,e1,e2=>simp[uM] at e1 e2;subst e1 e2;first|exact hu|exact tq hu
 |j+8,e1,e2=>simp at e2
theorem ala{H:Mem}{x t o p y v r:Int}{u:Value}(h:Rep H (.agg (uM ⟨2,x,t,o,3,y,v,r⟩)) u):Rep H (.agg [il 2,sy x,sy t,sy o,il 3,sy y,sy v,sy r]) u:=by
 refine pK h rfl fun j s s' e1 e2 u hu=>?_
 match j,e1,e2 with
 |0,e1,e2|1,e1,e2|2,e1,e2|3,e1,e2|4,e1,e2|5,e1,e2|6,e1,e2|7,e1,e2=>simp[uM] at e1 e2;subst e1 e2;first|exact hu|exact tq hu
 |j+8,e1,e2=>simp at e2
theorem alb{H:Mem}{x t o p y v r:Int}{u:Value}(h:Rep H (.agg (uM ⟨2,x,t,o,4,y,v,r⟩)) u):Rep H (.agg [il 2,sy x,sy t,sy o,il 4,sy y,sy v,sy r]) u:=by
 refine pK h rfl fun j s s' e1 e2 u hu=>?_
 match j,e1,e2 with
 |0,e1,e2|1,e1,e2|2,e1,e2|3,e1,e2|4,e1,e2|5,e1,e2|6,e1,e2|7,e1,e2=>simp[uM] at e1 e2;subst e1 e2;first|exact hu|exact tq hu
 |j+8,e1,e2=>simp at e2
theorem alc{H:Mem}{x t o p y v r:Int}{u:Value}(h:Rep H (.agg (uM ⟨2,x,t,o,5,y,v,r⟩)) u):Rep H (.agg [il 2,sy x,sy t,sy o,il 5,sy y,sy v,sy r]) u:=by
 refine pK h rfl fun j s s' e1 e2 u hu=>?_
 match j,e1,e2 with
 |0,e1,e2|1,e1,e2|2,e1,e2|3,e1,e2|4,e1,e2|5,e1,e2|6,e1,e2|7,e1,e2=>simp[uM] at e1 e2;subst e1 e2;first|exact hu|exact tq hu
 |j+8,e1,e2=>simp at e2
theorem ald{H:Mem}{x t o p y v r:Int}{u:Value}(h:Rep H (.agg (uM ⟨2,x,t,o,6,y,v,r⟩)) u):Rep H (.agg [il 2,sy x,sy t,sy o,il 6,sy y,sy v,sy r]) u:=by
 refine pK h rfl fun j s s' e1 e2 u hu=>?_
 match j,e1,e2 with
 |0,e1,e2|1,e1,e2|2,e1,e2|3,e1,e2|4,e1,e2|5,e1,e2|6,e1,e2|7,e1,e2=>simp[uM] at e1 e2;subst e1 e2;first|exact hu|exact tq hu
 |j+8,e1,e2=>simp at e2
theorem ale{H:Mem}{x t o p y v r:Int}{u:Value}(h:Rep H (.agg (uM ⟨2,x,t,o,7,y,v,r⟩)) u):Rep H (.agg [il 2,sy x,sy t,sy o,il 7,sy y,sy v,sy r]) u:=by
 refine pK h rfl fun j s s' e1 e2 u hu=>?_
 match j,e1,e2 with
 |0,e1,e2|1,e1,e2|2,e1,e2|3,e1,e2|4,e1,e2|5,e1,e2|6,e1,e2|7,e1,e2=>simp[uM] at e1 e2;subst e1 e2;first|exact hu|exact tq hu
 |j+8,e1,e2=>simp at e2
theorem alf{H:Mem}{x t o p y v r:Int}{u:Value}(h:Rep H (.agg (uM ⟨2,x,t,o,8,y,v,r⟩)) u):Rep H (.agg [il 2,sy x,sy t,sy o,il 8,sy y,sy v,sy r]) u:=by
 refine pK h rfl fun j s s' e1 e2 u hu=>?_
 match j,e1,e2 with
 |0,e1,e2|1,e1,e2|2,e1,e2|3,e1,e2|4,e1,e2|5,e1,e2|6,e1,e2|7,e1,e2=>simp[uM] at e1 e2;subst e1 e2;first|exact hu|exact tq hu
 |j+8,e1,e2=>simp at e2
theorem alg{H:Mem}{x t o p y v r:Int}{u:Value}(h:Rep H (.agg (uM ⟨2,x,t,o,9,y,v,r⟩)) u):Rep H (.agg [il 2,sy x,sy t,sy o,il 9,sy y,sy v,sy r]) u:=by
 refine pK h rfl fun j s s' e1 e2 u hu=>?_
 match j,e1,e2 with
 |0,e1,e2|1,e1,e2|2,e1,e2|3,e1,e2|4,e1,e2|5,e1,e2|6,e1,e2|7,e1,e2=>simp[uM] at e1 e2;subst e1 e2;first|exact hu|exact tq hu
 |j+8,e1,e2=>simp at e2
theorem alh{H:Mem}{x t o p y v r:Int}{u:Value}(h:Rep H (.agg (uM ⟨3,x,t,o,p,y,v,1⟩)) u):Rep H (.agg [il 3,sy x,sy t,sy o,sy p,sy y,sy v,il 1]) u:=by
 refine pK h rfl fun j s s' e1 e2 u hu=>?_
 match j,e1,e2 with
 |0,e1,e2|1,e1,e2|2,e1,e2|3,e1,e2|4,e1,e2|5,e1,e2|6,e1,e2|7,e1,e2=>simp[uM] at e1 e2;subst e1 e2;first|exact hu|exact tq hu
 |j+8,e1,e2=>simp at e2
theorem ali{H:Mem}{x t o p y v r:Int}{u:Value}(h:Rep H (.agg (uM ⟨3,x,t,o,p,y,v,2⟩)) u):Rep H (.agg [il 3,sy x,sy t,sy o,sy p,sy y,sy v,il 2]) u:=by
 refine pK h rfl fun j s s' e1 e2 u hu=>?_
 match j,e1,e2 with
 |0,e1,e2|1,e1,e2|2,e1,e2|3,e1,e2|4,e1,e2|5,e1,e2|6,e1,e2|7,e1,e2=>simp[uM] at e1 e2;subst e1 e2;first|exact hu|exact tq hu
 |j+8,e1,e2=>simp at e2
theorem alj{H:Mem}{x t o p y v r:Int}{u:Value}(h:Rep H (.agg (uM ⟨3,x,t,o,p,y,v,3⟩)) u):Rep H (.agg [il 3,sy x,sy t,sy o,sy p,sy y,sy v,il 3]) u:=by
 refine pK h rfl fun j s s' e1 e2 u hu=>?_
 match j,e1,e2 with
 |0,e1,e2|1,e1,e2|2,e1,e2|3,e1,e2|4,e1,e2|5,e1,e2|6,e1,e2|7,e1,e2=>simp[uM] at e1 e2;subst e1 e2;first|exact hu|exact tq hu
 |j+8,e1,e2=>simp at e2
theorem codes{P:Ev->Prop}{e:Ev}(hc:Nq e)
  (h_1:∀x t o p y v r:Int,P ⟨1,x,t,o,p,y,v,r⟩)
  (h_4:∀x t o p y v r:Int,P ⟨4,x,t,o,p,y,v,r⟩)
  (h_5:∀x t o p y v r:Int,P ⟨5,x,t,o,p,y,v,r⟩)
  (h_6:∀x t o p y v r:Int,P ⟨6,x,t,o,p,y,v,r⟩)
  (h_7:∀x t o p y v r:Int,P ⟨7,x,t,o,p,y,v,r⟩)
  (auQ:∀x t o p y v r:Int,P ⟨2,x,t,o,1,y,v,r⟩)
  (auR:∀x t o p y v r:Int,P ⟨2,x,t,o,2,y,v,r⟩)
  (auS:∀x t o p y v r:Int,P ⟨2,x,t,o,3,y,v,r⟩)
  (auT:∀x t o p y v r:Int,P ⟨2,x,t,o,4,y,v,r⟩)
  (auU:∀x t o p y v r:Int,P ⟨2,x,t,o,5,y,v,r⟩)
  (auV:∀x t o p y v r:Int,P ⟨2,x,t,o,6,y,v,r⟩)
  (auW:∀x t o p y v r:Int,P ⟨2,x,t,o,7,y,v,r⟩)
  (auY:∀x t o p y v r:Int,P ⟨2,x,t,o,8,y,v,r⟩)
  (auZ:∀x t o p y v r:Int,P ⟨2,x,t,o,9,y,v,r⟩)
  (au0:∀x t o p y v r:Int,P ⟨3,x,t,o,p,y,v,1⟩)
  (au1:∀x t o p y v r:Int,P ⟨3,x,t,o,p,y,v,2⟩)
  (au2:∀x t o p y v r:Int,P ⟨3,x,t,o,p,y,v,3⟩)
  : P e:=by
 obtain ⟨k,x,t,o,p,y,v,r⟩:=e;obtain ⟨h1,h2,h3⟩:=hc;simp only at h1 h2 h3;have hk:k=1\/k=2\/k=3\/k=4\/k=5\/k=6\/k=7:=by omega
 rcases hk with rfl|rfl|rfl|rfl|rfl|rfl|rfl
 ·simp_all
 ·have h2:=h2 rfl
  have hp:p=1\/p=2\/p=3\/p=4\/p=5\/p=6\/p=7\/p=8\/p=9:=by omega
  rcases hp with rfl|rfl|rfl|rfl|rfl|rfl|rfl|rfl|rfl
  ·simp_all
  ·simp_all
  ·simp_all
  ·simp_all
  ·simp_all
  ·simp_all
  ·simp_all
  ·simp_all
  simp_all
 ·have h3:=h3 rfl
  have hr:r=1\/r=2\/r=3:=by omega
  (rcases hr with rfl|rfl|rfl)<;>simp_all
 ·simp_all
 ·simp_all
 ·simp_all
 simp_all
theorem aqv{H:Mem}{w:World}{φ:Sh->Prop}{u:Value}{e:Ev}(hc:Nq e):Rep H (.agg (uM e)) u->(nS e->φ (.v .nilIface))->(¬nS e->φ (.er 15 329))->
  ∃nV:List Sh,qQ H nV [u]/\qX (oN ah (C5 mD W5 nK ni) (K0 H w) aJ φ) (o7 (C5 mD W5 nK ni) 3000 101 [.code []] (mM 75 nV L0)):=by
 refine codes (P:=fun e=>Rep H (.agg (uM e)) u->(nS e->φ (.v .nilIface))->(¬nS e->φ (.er 15 329))->
  ∃nV:List Sh,qQ H nV [u]/\qX (oN ah (C5 mD W5 nK ni) (K0 H w) aJ φ) (o7 (C5 mD W5 nK ni) 3000 101 [.code []] (mM 75 nV L0))) hc ?_ ?_ ?_ ?_ ?_ ?_ ?_ ?_ ?_ ?_ ?_ ?_ ?_ ?_ ?_ ?_ ?_
 ·exact fun x t o p y v r hr hN h9=>⟨[.agg [il 1,sy x,sy t,sy o,sy p,sy y,sy v,sy r]],⟨aqp (p:=p) (r:=r) hr,trivial⟩,aqk (p:=p) (r:=r) hN h9⟩
 ·exact fun x t o p y v r hr hN h9=>⟨[.agg [il 4,sy x,sy t,sy o,sy p,sy y,sy v,sy r]],⟨aqr (p:=p) (r:=r) hr,trivial⟩,aql (p:=p) (r:=r) hN h9⟩
 ·exact fun x t o p y v r hr hN h9=>⟨[.agg [il 5,sy x,sy t,sy o,sy p,sy y,sy v,sy r]],⟨aqs (p:=p) (r:=r) hr,trivial⟩,aqm (p:=p) (r:=r) hN h9⟩
 ·exact fun x t o p y v r hr hN h9=>⟨[.agg [il 6,sy x,sy t,sy o,sy p,sy y,sy v,sy r]],⟨aqt (p:=p) (r:=r) hr,trivial⟩,aqn (p:=p) (r:=r) hN h9⟩
 ·exact fun x t o p y v r hr hN h9=>⟨[.agg [il 7,sy x,sy t,sy o,sy p,sy y,sy v,sy r]],⟨aqu (p:=p) (r:=r) hr,trivial⟩,aqo (p:=p) (r:=r) hN h9⟩
 ·exact fun x t o p y v r hr hN h9=>⟨[.agg [il 2,sy x,sy t,sy o,il 1,sy y,sy v,sy r]],⟨ak8 (p:=p) (r:=r) hr,trivial⟩,akU (p:=p) (r:=r) hN h9⟩
 ·exact fun x t o p y v r hr hN h9=>⟨[.agg [il 2,sy x,sy t,sy o,il 2,sy y,sy v,sy r]],⟨ak9 (p:=p) (r:=r) hr,trivial⟩,akV (p:=p) (r:=r) hN h9⟩
 ·exact fun x t o p y v r hr hN h9=>⟨[.agg [il 2,sy x,sy t,sy o,il 3,sy y,sy v,sy r]],⟨ala (p:=p) (r:=r) hr,trivial⟩,akW (p:=p) (r:=r) hN h9⟩
 ·exact fun x t o p y v r hr hN h9=>⟨[.agg [il 2,sy x,sy t,sy o,il 4,sy y,sy v,sy r]],⟨alb (p:=p) (r:=r) hr,trivial⟩,akX (p:=p) (r:=r) hN h9⟩
 ·exact fun x t o p y v r hr hN h9=>⟨[.agg [il 2,sy x,sy t,sy o,il 5,sy y,sy v,sy r]],⟨alc (p:=p) (r:=r) hr,trivial⟩,akY (p:=p) (r:=r) hN h9⟩
 ·exact fun x t o p y v r hr hN h9=>⟨[.agg [il 2,sy x,sy t,sy o,il 6,sy y,sy v,sy r]],⟨ald (p:=p) (r:=r) hr,trivial⟩,akZ (p:=p) (r:=r) hN h9⟩
 ·exact fun x t o p y v r hr hN h9=>⟨[.agg [il 2,sy x,sy t,sy o,il 7,sy y,sy v,sy r]],⟨ale (p:=p) (r:=r) hr,trivial⟩,ak0 (p:=p) (r:=r) hN h9⟩
 ·exact fun x t o p y v r hr hN h9=>⟨[.agg [il 2,sy x,sy t,sy o,il 8,sy y,sy v,sy r]],⟨alf (p:=p) (r:=r) hr,trivial⟩,ak1 (p:=p) (r:=r) hN h9⟩
 ·exact fun x t o p y v r hr hN h9=>⟨[.agg [il 2,sy x,sy t,sy o,il 9,sy y,sy v,sy r]],⟨alg (p:=p) (r:=r) hr,trivial⟩,ak2 (p:=p) (r:=r) hN h9⟩
 ·exact fun x t o p y v r hr hN h9=>⟨[.agg [il 3,sy x,sy t,sy o,sy p,sy y,sy v,il 1]],⟨alh (p:=p) (r:=r) hr,trivial⟩,ak3 (p:=p) (r:=r) hN h9⟩
 ·exact fun x t o p y v r hr hN h9=>⟨[.agg [il 3,sy x,sy t,sy o,sy p,sy y,sy v,il 2]],⟨ali (p:=p) (r:=r) hr,trivial⟩,ak4 (p:=p) (r:=r) hN h9⟩
 ·exact fun x t o p y v r hr hN h9=>⟨[.agg [il 3,sy x,sy t,sy o,sy p,sy y,sy v,il 3]],⟨alj (p:=p) (r:=r) hr,trivial⟩,ak5 (p:=p) (r:=r) hN h9⟩
theorem asH:nG ah (uY W5) 101 ak6:=by
 refine xH (C:=C5 mD W5 nK ni) (fH _ _) (aae _) (n:=3000) (L:=L0) (fn:=aJ) (by kernel_rfl) (by kernel_rfl) fun H w nV args φ hrep h=>?_
 have hn:aJ.ntmps=75:=by kernel_rfl
 unfold ak6 at h;split at h
 ·rename_i l
  split at h
  ·rename_i e he
   obtain ⟨h1,h2,h3⟩:=h;match args,hrep with
   |[u],⟨hu,_⟩=>
    rw[hn];simp only[oU];exact aqv (of_decide_eq_true h1) (acS he hu) (fun q=>h2 (decide_eq_true q)) (fun q=>h3 (decide_eq_false q))
  ·exact h.elim
 ·exact h.elim
end Go.mP
namespace Go.oD
open Go Go.Sx
theorem anF{p:Int}(h:¬(1<=p/\p<=9)):rD p=0:=by
 have e:∀i:Int,1<=i->i<=9->(p==i)=ag:=fun i h1 h2=>by
  grind
 unfold rD;grind
theorem alk{m:Nat}{c:Int}(h:qg c=aj)(hm:¬(1<=c/\c<=(m:Int))):TN m c=ag:=by
 have h:=of_decide_eq_true h;unfold TN idx;grind [pI]
end Go.oD
namespace Go.mP
open Go Go.Sx Go.oD
theorem JR{ψ:Fin->Prop}{t:Tree Fin}(h:(dead t).All ψ):qX ψ t:=by
 rw[<-oU];exact En h
theorem aqw{H:Mem}{w:World}{φ:Sh->Prop}{k x t o p y v r:Int}(hk:¬(1<=k/\k<=7))(h8:φ (.er 14 329)):
  qX (oN ah (C5 mD W5 nK yV) (K0 H w) aJ φ) (o7 (C5 mD W5 nK yV) 3000 101 [.code []] (mM 75 [.agg [sy k,sy x,sy t,sy o,sy p,sy y,sy v,sy r]] L0)):=by
 apply JR;rw[aqj mD W5 k x t o p y v r];have n1:k≠1:=by omega
 have n2:k≠2:=by omega
 have n3:k≠3:=by omega
 have n4:k≠4:=by omega
 have n5:k≠5:=by omega
 have n6:k≠6:=by omega
 have n7:k≠7:=by omega
 simp_all [bP,oN,aX,cw,nC]
theorem aqx{H:Mem}{w:World}{φ:Sh->Prop}{x t o p y v r:Int}(hp:¬(1<=p/\p<=9))(h8:φ (.er 14 329)):
  qX (oN ah (C5 mD W5 nK yV) (K0 H w) aJ φ) (o7 (C5 mD W5 nK yV) 3000 101 [.code []] (mM 75 [.agg [il 2,sy x,sy t,sy o,sy p,sy y,sy v,sy r]] L0)):=by
 apply JR;rw[anD mD W5 0 x t o p y v r];simp[bP,oN,aX,cw,nC,anF hp,h8]
theorem aqy{H:Mem}{w:World}{φ:Sh->Prop}{x t o p y v r:Int}(hi:qg r=aj)(hr:¬(1<=r/\r<=3))(h8:φ (.er 14 329)):
  qX (oN ah (C5 mD W5 nK yV) (K0 H w) aJ φ) (o7 (C5 mD W5 nK yV) 3000 101 [.code []] (mM 75 [.agg [il 3,sy x,sy t,sy o,sy p,sy y,sy v,sy r]] L0)):=by
 apply JR;rw[anE mD W5 0 x t o p y v r,Gu agn,alk hi (by omega)];simp[bP,oN,aX,cw,h8]
theorem anG{H:Mem}{w:World}{φ:Sh->Prop}{u:Value}{e:Ev}(hi:qg e.ret=aj)(hc:¬Nq e)(hr:Rep H (.agg (uM e)) u)(h8:φ (.er 14 329)):
  ∃nV:List Sh,qQ H nV [u]/\qX (oN ah (C5 mD W5 nK yV) (K0 H w) aJ φ) (o7 (C5 mD W5 nK yV) 3000 101 [.code []] (mM 75 nV L0)):=by
 obtain ⟨k,x,t,o,p,y,v,r⟩:=e;by_cases h1:1<=k/\k<=7
 ·by_cases h2:k=2
  ·subst h2
   have:¬(1<=p/\p<=9):=fun h=>hc ⟨h1,fun _=>h,fun q=>by simp at q⟩;refine ⟨[.agg [il 2,sy x,sy t,sy o,sy p,sy y,sy v,sy r]],⟨pK hr rfl fun j s s' e1 e2 u hu=>?_,trivial⟩,aqx this h8⟩;grind [uM,tq,il,sy]
  ·have h3:k=3:=by
    apply lM;intro h3;exact hc ⟨h1,fun q=>absurd q h2,fun q=>absurd q h3⟩
   subst h3;have:¬(1<=r/\r<=3):=fun h=>hc ⟨h1,fun q=>by simp at q,fun _=>h⟩;refine ⟨[.agg [il 3,sy x,sy t,sy o,sy p,sy y,sy v,sy r]],⟨pK hr rfl fun j s s' e1 e2 u hu=>?_,trivial⟩,aqy hi this h8⟩;grind [uM,tq,il,sy]
 ·exact ⟨[.agg [sy k,sy x,sy t,sy o,sy p,sy y,sy v,sy r]],⟨hr,trivial⟩,aqw h1 h8⟩
theorem asI:nG ah (uY W5) 101 ak7:=by
 refine xH (C:=C5 mD W5 nK yV) (fH _ _) (aae _) (n:=3000) (L:=L0) (fn:=aJ) (by kernel_rfl) (by kernel_rfl) fun H w nV args φ hrep h=>?_
 have hn:aJ.ntmps=75:=by kernel_rfl
 unfold ak7 at h;split at h
 ·rename_i l
  split at h
  ·rename_i e he
   obtain ⟨h1,h2,h3⟩:=h;match args,hrep with
   |[u],⟨hu,_⟩=>
    rw[hn];simp only[oU];have hc:¬Nq e:=fun q=>by
     simp_all [Ii,decide_eq_true]
    exact anG h1 hc (acS he hu) h3
  ·exact h.elim
 ·exact h.elim
theorem O56:nG ah (uY W5) 101 F56:=by
 intro H w nV args φ hon hg hr hφ;unfold F56 at hφ;split at hφ
 ·rename_i l
  split at hφ
  ·rename_i e he
   obtain ⟨h1,h2,h3⟩:=hφ;cases hc:Ii e with
   |true=>
    refine asH H w _ args φ hon hg hr ?_;simp only[ak6,he];exact ⟨hc,h2 hc⟩
   |false=>
    refine asI H w _ args φ hon hg hr ?_;simp only[ak7,he];exact ⟨h1,by rw[hc];rfl,h3 hc⟩
  ·exact hφ.elim
 ·exact hφ.elim
def F55:List Sh->Tree Sh
 |[s,.er e 329]=>match nR s with
  |some x=>.leaf (.pV 109 (.pt [.i .i64 x,.er e 329])) |none=>.fail
 |_=>.fail
theorem O55:nG ah (uY W5) 100 F55:=by
 refine xH (C:=C5 mD W5 nK ny) (fH _ _) (aae _) (n:=300) (L:=L0) (fn:=fV) (by kernel_rfl) (by kernel_rfl) fun H w nV args φ hrep h=>?_
 have hn:fV.ntmps=10:=by kernel_rfl
 unfold F55 at h;split at h
 ·rename_i s e
  split at h
  ·rename_i x hx
   match args,hrep with
   |[u,v],⟨hu,hv,_⟩=>
    refine ⟨[.i .i64 x,.er e 329],⟨qW hx hu,hv,trivial⟩,?_⟩;rw[hn,a55 mD W5 x e];exact h
  ·exact h.elim
 ·exact h.elim
def Ad:Nat->Option (List Sh->Tree Sh)
 |99=>ae F54 |100=>ae F55 |101=>ae F56 |102=>ae F57 |_=>aq
theorem asJ:∀g F,Ad g=ae F->nG ah (uY W5) g F:=fun g F h=>by
 unfold Ad at h;split at h
 ·cases h;exact O54
 ·cases h;exact O55
 ·cases h;exact O56
 ·cases h;exact O57
 ·cases h
theorem aeS(stop:Nat->List Nat->Bool):oH ah (C5 mD W5 Ad stop):=C5.Gh asJ fun g h=>by
 unfold Ad at h;split at h;all_goals first|(cases h;done) |kernel_rfl
def YJ:List It:=[aH [0,1,0,1,1,1],aW 2,aH [1,1,1,1]]
def aoC:List It:=[aH [0,0,1,0,1,1,1],aH [0,1,0,1,1,1],aW 2,aH [1,1,1,1]]
def YK(n m:Nat)(o:Nat->Oj)(p:Nat->Ev)(c i:Int):Core:=
 {tm:=[.any,.ptr 0 0,.qP]++rep [.any] 18++[.sh (.sl 2 n (mF o)),.sym .i64 c,.sym .i64 i]++rep [.any] 54,
  hp:=[(0,.box [.sh (.sl 2 n (mF o)),.sh (.sl 8 m (mF p))] 25)],nx:=1,lim:=L0,tc:=[]}
def Nr(n m:Nat)(o:Nat->Oj)(p:Nat->Ev)(c i:Int):Core:=
 {tm:=[.any,.ptr 0 0,.qP]++rep [.any] 34++[.sh (.sl 8 m (mF p)),.sym .i64 c,.sym .i64 i]++rep [.any] 38,
  hp:=[(0,.box [.sh (.sl 2 n (mF o)),.sh (.sl 8 m (mF p))] 25)],nx:=1,lim:=L0,tc:=[]}
theorem a51(A:Prim)(W:Wd)(n m:Nat)(o:Nat->Oj)(p:Nat->Ev)(c' i':Int):nZ (C5 A W Ad ny) rF 300 200 77 [.code []] (mM 78 [.agg [.sl 2 n (mF o),.sl 8 m (mF p)]] L0) [] [⟨77,yQ,YK n m o p c' i',[]⟩]=ak (A.lt (ab 8) (A.nH n)) (ai (ay (aC 6 329))) (ak (A.lt (ab 400) (A.nH m)) (ai (ay (aC 6 329))) (ai (aK 0 [av (ao 2 n (mF o)) (ao 2 n (mF o)),ac (A.nH n) c',ac (ab 0) i',av (ao 2 n (mF o)) (ao 2 n (mF o)),av (ao 8 m (mF p)) (ao 8 m (mF p))]))):=by kernel_rfl
theorem b51(A:Prim)(W:Wd)(n m:Nat)(o:Nat->Oj)(p:Nat->Ev)(c i i' d' j':Int):nZ (C5 A W Ad ny) rF 300 200 77 Pm (YK n m o p c i) [] [⟨77,yQ,YK n m o p c i',[]⟩,⟨77,YJ,Nr n m o p d' j',[]⟩]=ak (A.lt i c) (am (A.inB i n) (ak (WH (o (A.toN i)).kind (o (A.toN i)).init) (ai (aK 0 [av (ao 2 n (mF o)) (ao 2 n (mF o)),ac c c,ac (A.add .i64 i (ab 1)) i',av (ao 2 n (mF o)) (ao 2 n (mF o)),av (ao 8 m (mF p)) (ao 8 m (mF p))])) (ai (ay (fP 109 (ij [az .i64 i,aC 7 329])))))) (ai (aK 1 [av (ao 8 m (mF p)) (ao 8 m (mF p)),ac (A.nH m) d',ac (ab 0) j',av (ao 2 n (mF o)) (ao 2 n (mF o)),av (ao 8 m (mF p)) (ao 8 m (mF p))])):=by kernel_rfl
theorem c51(A:Prim)(W:Wd)(n m:Nat)(o:Nat->Oj)(p:Nat->Ev)(c i i':Int):nZ (C5 A W Ad ny) rF 300 200 77 aoC (Nr n m o p c i) [] [⟨77,YJ,Nr n m o p c i',[]⟩]=ak (A.lt i c) (am (A.inB i m) (am (qg ({kind:=(p (A.toN i)).kind,tx:=(p (A.toN i)).tx,thread:=(p (A.toN i)).thread,obj:=(p (A.toN i)).obj,op:=(p (A.toN i)).op,key:=(p (A.toN i)).key,val:=(p (A.toN i)).val,ret:=(p (A.toN i)).ret}:Ev).ret) (ak (Ii {kind:=(p (A.toN i)).kind,tx:=(p (A.toN i)).tx,thread:=(p (A.toN i)).thread,obj:=(p (A.toN i)).obj,op:=(p (A.toN i)).op,key:=(p (A.toN i)).key,val:=(p (A.toN i)).val,ret:=(p (A.toN i)).ret}) (ak (oD.fieldsB {kind:=(p (A.toN i)).kind,tx:=(p (A.toN i)).tx,thread:=(p (A.toN i)).thread,obj:=(p (A.toN i)).obj,op:=(p (A.toN i)).op,key:=(p (A.toN i)).key,val:=(p (A.toN i)).val,ret:=(p (A.toN i)).ret}) (ak (A.nt (A.eq (p (A.toN i)).kind (ab 2))) (ai (aK 0 [av (ao 8 m (mF p)) (ao 8 m (mF p)),ac c c,ac (A.add .i64 i (ab 1)) i',av (ao 2 n (mF o)) (ao 2 n (mF o)),av (ao 8 m (mF p)) (ao 8 m (mF p))])) (ak (A.le (A.nH n) (p (A.toN i)).obj) (ai (ay (fP 109 (ij [az .i64 i,aC 7 329])))) (am (A.inB (p (A.toN i)).obj n) (ak (A.nt (A.eq (rD (p (A.toN i)).op) (o (A.toN (p (A.toN i)).obj)).kind)) (ai (ay (fP 109 (ij [az .i64 i,aC 8 329])))) (ai (aK 0 [av (ao 8 m (mF p)) (ao 8 m (mF p)),ac c c,ac (A.add .i64 i (ab 1)) i',av (ao 2 n (mF o)) (ao 2 n (mF o)),av (ao 8 m (mF p)) (ao 8 m (mF p))])))))) (ai (ay (fP 109 (ij [az .i64 i,aC 15 329]))))) (ai (ay (fP 109 (ij [az .i64 i,aC 14 329]))))))) (ai (ay (cT aI))):=by kernel_rfl
end Go.mP
namespace Go.oD
open Go Go.Sx
def Bg(n:Nat)(o:Nat->Oj)(e:Ev):Option Nat:=
 bif Ii e then bif fieldsB e then bif e.kind==2 then bif decide ((n:Int)<=e.obj) then ae 7 else bif rD e.op==(o e.obj.toNat).kind then aq else ae 8 else aq else ae 15 else ae 14
def FM(o:Oj):Option Nat:=bif WH o.kind o.init then aq else ae 7
def xO(f:Nat->Option Nat):Nat->Nat->Option (Nat×Nat)
 |_,0=>aq |k,m+1=>match f k with
  |some e=>ae (k,e) |none=>xO f (k+1) m
def resE:Option (Nat×Nat)->Sh
 |none=>.v .nilIface |some (k,e)=>.pV 109 (.pt [.i .i64 (k:Int),.er e 329])
theorem Tj{e:Ev}(h:fieldsB e=aj)(hk:e.kind=2):0<=e.obj:=by
 have h:=of_decide_eq_true h;unfold nS at h;omega
end Go.oD
namespace Go.mP
open Go Go.Sx Go.oD
theorem acT{H0:Mem}{w0:World}{n m:Nat}{o:Nat->Oj}{p:Nat->Ev}{φ:Sh->Prop}(hm:m<=400)(hi:∀k,k<m->qg (p k).ret=aj):
  ∀rm k,k+rm=m->φ (resE (xO (fun k=>Bg n o (p k)) k rm))->nX ah (C5 mD W5 Ad ny) (K0 H0 w0) 77 YJ (Nr n m o p (m:Int) k) [] emp φ
 |rm,k,hk,hφ=>by
  refine wY (fn:=cE) (tb:=aoC) (by kernel_rfl) (by kernel_rfl) ?_;refine xA (fH _ _) (aeS _) (hold:=rF) (m:=300) (n:=200) (ts:=[⟨77,YJ,Nr n m o p (m:Int) (k+1:Nat),[]⟩]) ?_;rw[c51 mD W5 n m o p (m:Int) k (k+1:Nat)];simp only[mQ,su,nI,oJ,pR,nC,oP,qG,wZ,bP,yG,bR];have hstep:aA.wrap ((k:Int)+1)=((k+1:Nat):Int)\/m<k:=by
   by_cases h:m<k
   ·exact .inr h
   ·left;rw[pI (by omega) (by omega)];rfl
  refine ⟨fun h=>?_,fun h=>?_⟩
  ·have hlt:k<m:=by simp at h;omega
   have hw:=hstep.resolve_right (by omega);match rm,hk,hφ with
   |0,hk,_=>omega |rm+1,hk,hφ=>
    have next:Bg n o (p k)=aq->nX ah (C5 mD W5 Ad ny) (K0 H0 w0) 77 YJ (Nr n m o p (m:Int) (k+1:Nat)) [] emp φ:=fun hn=>acT hm hi rm (k+1) (by omega) (by simpa only[xO,hn] using hφ);have bad:∀e,Bg n o (p k)=ae e->φ (.pV 109 (.pt [.i .i64 (k:Int),.er e 329])):=fun e he=>by
     simpa only[xO,he,resE] using hφ
    refine ⟨by simp;omega,hi k hlt,fun q1=>⟨fun q2=>⟨fun q3=>?_,fun q3=>⟨fun q4=>?_,fun q4=>⟨?_,fun q5=>?_,fun q5=>?_⟩⟩⟩,fun q2=>?_⟩,fun q1=>?_⟩
    ·refine ⟨⟨rfl,rfl,hw,rfl,rfl,trivial⟩,_,rfl,next ?_⟩
     have k2:((p k).kind==2)=ag:=by simpa using q3
     unfold Bg;rw[q1,q2,k2];rfl
    ·have k2:((p k).kind==2)=aj:=by simpa using q3
     apply bad;unfold Bg;rw[q1,q2,k2,q4];rfl
    ·have:=Tj q2 (by simpa using q3)
     simp at q4;simp;omega
    ·have k2:((p k).kind==2)=aj:=by simpa using q3
     have k3:(rD (p k).op==(o (p k).obj.toNat).kind)=ag:=by simpa using q5
     apply bad;unfold Bg;rw[q1,q2,k2,q4,k3];rfl
    ·have k2:((p k).kind==2)=aj:=by simpa using q3
     have k3:(rD (p k).op==(o (p k).obj.toNat).kind)=aj:=by simpa using q5
     refine ⟨⟨rfl,rfl,hw,rfl,rfl,trivial⟩,_,rfl,next ?_⟩;unfold Bg;rw[q1,q2,k2,q4,k3];rfl
    ·apply bad;unfold Bg;rw[q1,q2];rfl
    ·apply bad;unfold Bg;rw[q1];rfl
  ·have:k=m:=by simp at h;omega
   have:rm=0:=by omega
   subst this;exact hφ
end Go.mP
namespace Go.oD
open Go Go.Sx
def Lp(n m:Nat)(o:Nat->Oj)(p:Nat->Ev):Option (Nat×Nat):=
 match xO (fun k=>FM (o k)) 0 n with
 |some x=>ae x |none=>xO (fun k=>Bg n o (p k)) 0 m
def alm(n m:Nat)(o:Nat->Oj)(p:Nat->Ev)(k:Nat):Nat->Option (Nat×Nat):=fun r=>
 match xO (fun k=>FM (o k)) k r with
 |some x=>ae x |none=>xO (fun k=>Bg n o (p k)) 0 m
end Go.oD
namespace Go.mP
open Go Go.Sx Go.oD
theorem agp{H0:Mem}{w0:World}{n m:Nat}{o:Nat->Oj}{p:Nat->Ev}{φ:Sh->Prop}(hn:n<=8)(hm:m<=400)(hi:∀k,k<m->qg (p k).ret=aj):
  ∀rm k,k+rm=n->φ (resE (alm n m o p k rm))->nX ah (C5 mD W5 Ad ny) (K0 H0 w0) 77 yQ (YK n m o p (n:Int) k) [] emp φ
 |rm,k,hk,hφ=>by
  refine wY (fn:=cE) (tb:=Pm) (by kernel_rfl) (by kernel_rfl) ?_;refine xA (fH _ _) (aeS _) (hold:=rF) (m:=300) (n:=200) (ts:=[⟨77,yQ,YK n m o p (n:Int) (k+1:Nat),[]⟩,⟨77,YJ,Nr n m o p (m:Int) (0:Nat),[]⟩]) ?_;rw[b51 mD W5 n m o p (n:Int) k (k+1:Nat) (m:Int) (0:Nat)];simp only[mQ,nI,oJ,pR,qG,wZ,bP,yG,bR];refine ⟨fun h=>?_,fun h=>?_⟩
  ·have hlt:k<n:=by simp at h;omega
   have hw:aA.wrap ((k:Int)+1)=((k+1:Nat):Int):=by rw[pI (by omega) (by omega)];rfl
   match rm,hk,hφ with
   |0,hk,_=>omega |rm+1,hk,hφ=>
    refine ⟨by simp;omega,fun q=>?_,fun q=>?_⟩
    ·have e:FM (o k)=aq:=by unfold FM;rw[q];rfl
     exact ⟨⟨rfl,rfl,hw,rfl,rfl,trivial⟩,_,rfl,agp hn hm hi rm (k+1) (by omega) (by simpa only[alm,xO,e] using hφ)⟩
    ·have e:FM (o k)=ae 7:=by unfold FM;rw[q];rfl
     simpa only[alm,xO,e,resE] using hφ
  ·have:k=n:=by simp at h;omega
   have:rm=0:=by omega
   subst this;exact ⟨⟨rfl,rfl,rfl,rfl,rfl,trivial⟩,_,rfl,acT hm hi m 0 (by omega) hφ⟩
end Go.mP
namespace Go.oD
open Go Go.Sx
def Ij(m:Nat)(h:Nat->List Sh):Bool:=(aE m).all fun k=>qg (mJ (α:=Ev) h k).ret
def BG(n m:Nat)(g h:Nat->List Sh):Int:=match Lp n m (mJ g) (mJ h) with|some (k,_)=>(k:Int) |none=>0
def FN(n m:Nat)(g h:Nat->List Sh):Nat:=match Lp n m (mJ g) (mJ h) with|some (_,e)=>e|none=>0
def vX(n m:Nat)(g h:Nat->List Sh):Bool:=(Lp n m (mJ g) (mJ h)).isNone
def wS(n m:Nat):Bool:=decide (8<n\/400<m)
end Go.oD
namespace Go.mP
open Go Go.Sx Go.oD
def F51:List Sh->Tree Sh
 |[.agg [.sl 2 n g,.sl 8 m h]]=>.need (okB Oj n g) (.need (okB Ev m h) (.need (Ij m h) (.node (wS n m) (.leaf (.er 6 329)) (.node (vX n m g h) (.leaf (.v .nilIface)) (.leaf (.pV 109 (.pt [.i .i64 (BG n m g h),.er (FN n m g h) 329]))))))) |_=>.fail
theorem O51:nG ah (uY W5) 77 F51:=by
 refine BA (C:=C5 mD W5 Ad ny) (fH _ _) (fn:=cE) (by kernel_rfl) (by kernel_rfl) fun H w nV args φ hrep h=>?_
 have hn:cE.ntmps=78:=by kernel_rfl
 unfold F51 at h;split at h
 ·rename_i n g m h'
  obtain ⟨h1,h2,h3,h4,h5⟩:=h;match args,hrep with
  |[v],⟨hv,_⟩=>
   rw[hn];refine ⟨[.agg [.sl 2 n (mF (mJ (α:=Oj) g)),.sl 8 m (mF (mJ (α:=Ev) h'))]],⟨JQ hv h1 h2,trivial⟩,L0,?_⟩;refine xA (fH _ _) (aeS _) (hold:=rF) (m:=300) (n:=200) (ts:=[⟨77,yQ,YK n m (mJ g) (mJ h') (n:Int) (0:Nat),[]⟩]) ?_;rw[a51 mD W5 n m (mJ g) (mJ h') (n:Int) (0:Nat)];refine ⟨fun q=>h4 ?_,fun q=>⟨fun q'=>h4 ?_,fun q'=>⟨⟨rfl,rfl,rfl,rfl,rfl,trivial⟩,_,rfl,?_⟩⟩⟩
   ·simp[mQ,nI] at q;simp[wS];omega
   ·simp[mQ,nI] at q';simp[wS];omega
   ·simp[mQ,nI] at q q'
    have h5:=h5 (by simp[wS];omega);refine agp (by omega) (by omega) (fun k hk=>?_) n 0 (by omega) ?_
    ·exact List.all_eq_true.1 h3 k (List.mem_range.2 hk)
    ·show φ (resE (Lp n m (mJ g) (mJ h')))
     obtain ⟨hT,hF⟩:=h5;unfold vX at hT hF;unfold BG FN at hF;cases hb:Lp n m (mJ (α:=Oj) g) (mJ (α:=Ev) h') with
     |none=>rw[hb] at hT;exact hT rfl |some x=>rw[hb] at hF;exact hF rfl
 ·exact h.elim
theorem aaf{H:Mem}{st st':Nat}{g g':Nat->List Sh}{v:Value}(h:Rep H (.sl st 0 g) v):Rep H (.sl st' 0 g') v:=by
 cases h with
 |sl0 _ _ A cap hc=>exact .sl0 _ _ _ _ hc |sl _ _ _ b off cap c h1 h2=>exact .sl0 _ _ _ _ h2
theorem oO{H:Mem}{st n:Nat}{s:Sh}{g:Nat->List Sh}{v:Value}(hs:sD st s=ae (n,g))(h:Rep H s v):Rep H (.sl st n g) v:=by
 rcases agm hs with rfl|⟨g',rfl,rfl,rfl⟩
 ·exact h
 ·exact aaf h
theorem aeT{H:Mem}{s0 s1 s0' s1':Sh}{v:Value}(hv:Rep H (.agg [s0,s1]) v)(h0:∀u,Rep H s0 u->Rep H s0' u)(h1:∀u,Rep H s1 u->Rep H s1' u):Rep H (.agg [s0',s1']) v:=by
 cases hv with
 |agg _ vs h2 h3=>
  refine .agg _ vs h2 fun j s v' e1 e2=>?_
  match j,e1 with
  |0,e1=>simp at e1;subst e1;exact h0 _ (h3 0 _ v' rfl e2) |1,e1=>simp at e1;subst e1;exact h1 _ (h3 1 _ v' rfl e2) |j+2,e1=>simp at e1
def aln:List Sh->Tree Sh
 |[.agg [s0,s1]]=>match sD 2 s0,sD 8 s1 with
  |some (n,g),ae (m,h)=>F51 [.agg [.sl 2 n g,.sl 8 m h]] |_,_=>.fail
 |_=>.fail
theorem asK:nG ah (uY W5) 77 aln:=fun H w nV args φ h1 h2 h3 h4=>by
 unfold aln at h4;split at h4
 ·rename_i s0 s1
  split at h4
  ·rename_i n g m h e1 e2
   match args,h3 with
   |[v],⟨hv,_⟩=>exact O51 H w [.agg [.sl 2 n g,.sl 8 m h]] [v] φ h1 h2 ⟨aeT hv (fun u=>oO e1) (fun u=>oO e2),trivial⟩ h4
  ·exact h4.elim
 ·exact h4.elim
theorem a67(A:Prim)(W:Wd)(x y:Int):o7 (C5 A W noSpec ni) 300 128 [.code []] (mM 36 [.i .i64 x,.i .i64 y] L0)=ak (A.eq x (ab 2)) (ai (ar (bX (A.eq y (ab 1))))) (ak (A.eq x (ab 3)) (ai (ar (bX (A.eq y (ab 1))))) (ak (A.eq x (ab 5)) (ai (ar (bX (A.eq y (ab 1))))) (ak (A.eq x (ab 7)) (ai (ar (bX (A.eq y (ab 1))))) (ak (A.eq x (ab 1)) (ai (ar (bX (A.eq y (ab 3))))) (ak (A.eq x (ab 4)) (ai (ar (bX (A.eq y (ab 3))))) (ak (A.eq x (ab 6)) (ak (A.eq y (ab 2)) (ai (ar (bX aj))) (ai (ar (bX (A.eq y (ab 3)))))) (ak (A.eq x (ab 8)) (ak (A.eq y (ab 2)) (ai (ar (bX aj))) (ai (ar (bX (A.eq y (ab 3)))))) (ak (A.eq x (ab 9)) (ak (A.eq y (ab 2)) (ai (ar (bX aj))) (ai (ar (bX (A.eq y (ab 3)))))) (ai (ar (bX ag))))))))))):=by kernel_rfl
end Go.mP
namespace Go.oD
open Go Go.Sx
def Ik(x y:Int):Bool:=
 bif x==2 then y==1 else bif x==3 then y==1 else bif x==5 then y==1 else bif x==7 then y==1 else bif x==1 then y==3 else bif x==4 then y==3 else
 bif x==6 then (bif y==2 then aj else y==3) else bif x==8 then (bif y==2 then aj else y==3) else bif x==9 then (bif y==2 then aj else y==3) else ag
end Go.oD
namespace Go.mP
open Go Go.Sx Go.oD
theorem ahB{ψ:Bool->Prop}{b x y:Bool}(h:ψ (bif b then x else y)):(b=aj->ψ x)/\(b=ag->ψ y):=by
 cases b
 ·exact ⟨fun q=>(by cases q),fun _=>h⟩
 ·exact ⟨fun _=>h,fun q=>by cases q⟩
def F67:List Sh->Tree Sh
 |[s,t]=>match nR s with
  |some x=>match nR t with
   |some y=>.leaf (.b (Ik x y)) |none=>.fail
  |none=>.fail
 |_=>.fail
theorem O67:nG ah (uY W5) 128 F67:=by
 refine xH (C:=C5 mD W5 noSpec ni) (fH _ _) (BK _) (n:=300) (L:=L0) (fn:=fW) (by kernel_rfl) (by kernel_rfl) fun H w nV args φ hrep h=>?_
 have hn:fW.ntmps=36:=by kernel_rfl
 unfold F67 at h;split at h
 ·rename_i s t
  split at h
  ·rename_i x hx
   split at h
   ·rename_i y hy
    match args,hrep with
    |[u,v],⟨hu,hv,_⟩=>
     refine ⟨[.i .i64 x,.i .i64 y],⟨qW hx hu,qW hy hv,trivial⟩,?_⟩;rw[hn,a67 mD W5 x y,oU];have h:φ (.b (Ik x y)):=h;have r:∀{b:Bool} {c d:Bool},φ (.b (bif b then c else d))->(b=aj->φ (.b c))/\(b=ag->φ (.b d)):=fun h=>ahB (ψ:=fun b=>φ (.b b)) h;rw[<-oU];have h1:=r h;refine ⟨h1.1,fun q=>?_⟩;have h1:=r (h1.2 q);refine ⟨h1.1,fun q=>?_⟩;have h1:=r (h1.2 q);refine ⟨h1.1,fun q=>?_⟩;have h1:=r (h1.2 q);refine ⟨h1.1,fun q=>?_⟩;have h1:=r (h1.2 q);refine ⟨h1.1,fun q=>?_⟩;have h1:=r (h1.2 q);refine ⟨h1.1,fun q=>?_⟩;have h1:=r (h1.2 q);refine ⟨fun q=>r (h1.1 q),fun q=>?_⟩;have h1:=r (h1.2 q);refine ⟨fun q=>r (h1.1 q),fun q=>?_⟩;have h1:=r (h1.2 q);exact ⟨fun q=>r (h1.1 q),h1.2⟩
   ·exact h.elim
  ·exact h.elim
 ·exact h.elim
end Go.mP
namespace Go.oD
open Go Go.Sx
def tmO(n:Nat)(l:List (Nat×SV)):List SV:=l.foldl (fun t p=>t.set p.1 p.2) (List.replicate n .any)
structure De where
 obj:Int
 op:Int
 key:Int
 val:Int
 ret:Int
 got:Int
 here:Int
 back:Int
 deriving DecidableEq,Inhabited
def deR(e:De):List Sh:=[.i .i64 e.obj,.i .i64 e.op,.i .i64 e.key,.i .i64 e.val,.i .i64 e.ret,.i .i64 e.got,.i .i64 e.here,.i .i64 e.back]
instance:Row De where
 put:=deR
 get l:=match l with
  |[.i .i64 a,.i .i64 b,.i .i64 c,.i .i64 d,.i .i64 e,.i .i64 f,.i .i64 g,.i .i64 h]=>ae ⟨a,b,c,d,e,f,g,h⟩ |_=>aq
 rJ l a h:=by
  split at h
  ·cases h;rfl
  ·cases h
 get_put a:=rfl
 zX:=⟨0,0,0,0,0,0,0,0⟩
def oZ(e:Ev):Bool:=Ii e&&fieldsB e&&qg e.ret
end Go.oD
namespace Go.mP
open Go Go.Sx Go.oD
def alo:List Sh->Tree Sh
 |[.agg l]=>match WI l with
  |some e=>.need (oZ e) (.leaf (.v .nilIface)) |none=>.fail
 |_=>.fail
def pJ:Nat->Option (List Sh->Tree Sh)
 |101=>ae alo |102=>ae F57 |128=>ae F67 |_=>aq
def hpA(n m:Nat)(o:Nat->Oj)(many:Int)(gR:Nat->List Sh)(M1 M2:Int->Option Value)(f1 f2:List (Int×Bool×SV)):List (Nat×SB):=
 [(0,.box [.gs 6,.sym .i64 many,.gs 1,.mp 2,.mp 3] 181),(1,.own 182 1 m gR),(2,.fm .i64 M1 f1 [] aq),(3,.fm .i64 M2 f2 [] aq),(6,.own 140 2 n (mF o))]
def XL(a b c d x y z:Int)(k:Nat)(gd:Nat->List Sh):List (Nat×SB):=
 [(4,.box [.sym .i64 a,.sym .i64 b,.sym .i64 c,.sym .i64 d,.sym .i64 x,.sym .i64 y,.gs 5,.sym .i64 z] 184),(5,.own 197 8 k gd)]
def evS(kind:Int)(e:Ev):SV:=.agg [.int .i64 kind,.sym .i64 e.tx,.sym .i64 e.thread,.sym .i64 e.obj,.sym .i64 e.op,.sym .i64 e.key,.sym .i64 e.val,.sym .i64 e.ret]
def LA(kind:Int)(e:Ev)(hp:List (Nat×SB)):Core:={tm:=tmO 168 [(0,.ptr 0 0),(1,evS kind e)],hp,nx:=7,lim:=L0,tc:=[]}
def toR(n m:Nat)(o:Nat->Oj)(gR:Nat->List Sh)(M1 M2:Int->Option Value)(e:Ev)(many' a' b' c' d' x' y' z':Int)(k':Nat)(gd':Nat->List Sh)(us:List (Int×Bool×SV)):IV:=
 ⟨[(0,.box [.gs 6,.sym .i64 many',.gs 1,.mp 2,.mp 3] 181),(1,.own 182 1 m gR),(2,.fm .i64 M1 [(e.tx,aj,.ptr 4 0)] [] aq),(3,.fm .i64 M2 [] us aq),(6,.own 140 2 n (mF o)),
  (4,.box [.sym .i64 a',.sym .i64 b',.sym .i64 c',.sym .i64 d',.sym .i64 x',.sym .i64 y',.gs 5,.sym .i64 z'] 184),(5,.own 197 8 k' gd')],[0,4]⟩
def toN(n m:Nat)(o:Nat->Oj)(many':Int)(gR:Nat->List Sh)(M1 M2:Int->Option Value)(f1 f2:List (Int×Bool×SV)):IV:=⟨hpA n m o many' gR M1 M2 f1 f2,[0]⟩
def toB(n m:Nat)(o:Nat->Oj)(gR:Nat->List Sh)(M1 M2:Int->Option Value)(e:Ev)(many' a' b' c' d' x' y' z':Int):IV:=
 ⟨[(0,.box [.gs 6,.sym .i64 many',.gs 1,.mp 2,.mp 3] 181),(6,.own 140 2 n (mF o)),(1,.wK 182 1 m gR [.ptr 4 0]),(2,.fm .i64 M1 [(e.tx,ag,.any)] [(e.tx,aj,.ptr 4 0),(e.tx,aj,.any)] aq),(3,.fm .i64 M2 [(e.thread,ag,.any)] [(e.thread,aj,.ptr 4 0),(e.thread,aj,.any)] aq),
  (4,.box [.sym .i64 a',.sym .i64 b',.sym .i64 c',.sym .i64 d',.sym .i64 x',.sym .i64 y',.nD,.sym .i64 z'] 184)],[0]⟩
theorem alp(A:Prim)(W:Wd)(n m:Nat)(o:Nat->Oj)(many:Int)(gR:Nat->List Sh)(M1 M2:Int->Option Value)(e:Ev)(a b c d x y z:Int)(k:Nat)(dd:Nat->De)(many' a' b' c' d' x' y' z':Int)(k':Nat)(gd':Nat->List Sh):(run (C5 A W pJ ni) 700 aj 79 [.code []] (LA 2 e (hpA n m o many gR M1 M2 [(e.tx,aj,.ptr 4 0)] []++XL a b c d x y z k (mF dd)))).bind (toEnd [toR n m o gR M1 M2 e many' a' b' c' d' x' y' z' k' gd' []])=ak (A.eq many (ab 400)) (ai (bl (aC 6 329),0,[ac many many',ap m m,ax m gR gR,aL M1 M1,ac e.tx e.tx,aL M2 M2,ap n n,ax n (mF o) (mF o),ac a a',ac b b',ac c c',ac d d',ac x x',ac y y',ac z z',ap k k',ax k (mF dd) gd'])) (am (oZ {kind:=ab 2,tx:=e.tx,thread:=e.thread,obj:=e.obj,op:=e.op,key:=e.key,val:=e.val,ret:=e.ret}) (ak (A.le (A.nH n) e.obj) (ai (bl (aC 7 329),0,[ac many many',ap m m,ax m gR gR,aL M1 M1,ac e.tx e.tx,aL M2 M2,ap n n,ax n (mF o) (mF o),ac a a',ac b b',ac c c',ac d d',ac x x',ac y y',ac z z',ap k k',ax k (mF dd) gd'])) (am (A.inB e.obj n) (ak (A.nt (A.eq (rD e.op) (o (A.toN e.obj)).kind)) (ai (bl (aC 8 329),0,[ac many many',ap m m,ax m gR gR,aL M1 M1,ac e.tx e.tx,aL M2 M2,ap n n,ax n (mF o) (mF o),ac a a',ac b b',ac c c',ac d d',ac x x',ac y y',ac z z',ap k k',ax k (mF dd) gd'])) (am (A.eq e.tx e.tx) (aw [ac e.tx e.tx,ac e.thread e.thread,ac e.obj e.obj,ac e.op e.op,ac e.key e.key,ac e.val e.val,ac e.ret e.ret,ac many many,ap m m,aF gR gR,aL M1 M1,ac e.tx e.tx,aL M2 M2,ap n n,aF (mF o) (mF o),ac a a,ac b b,ac c c,ac d d,ac x x,ac y y,ac z z,ap k k,aF (mF dd) (mF dd),ac e.tx e.tx,ac e.thread e.thread,ac e.obj e.obj,ac e.op e.op,ac e.key e.key,ac e.val e.val,ac e.ret e.ret] (aw [ac e.tx e.tx,ac e.thread e.thread,ac e.obj e.obj,ac e.op e.op,ac e.key e.key,ac e.val e.val,ac e.ret e.ret,ac many many,ap m m,aF gR gR,aL M1 M1,ac e.tx e.tx,aL M2 M2,ap n n,aF (mF o) (mF o),ac a a,ac b b,ac c c,ac d d,ac x x,ac y y,ac z z,ap k k,aF (mF dd) (mF dd),ac e.tx e.tx,ac e.thread e.thread,ac e.obj e.obj,ac e.op e.op,ac e.key e.key,ac e.val e.val,ac e.ret e.ret] (ak (A.eq z (ab 1)) (am (A.room (A.addN k 1) 64) (am (A.room (A.addN k 1) 64) (aw [ac e.tx e.tx,ac e.thread e.thread,ac e.obj e.obj,ac e.op e.op,ac e.key e.key,ac e.val e.val,ac e.ret e.ret,ac many many,ac many many,ap m m,aF gR gR,aL M1 M1,ac e.tx e.tx,aL M2 M2,ap n n,aF (mF o) (mF o),ac a a,ac b b,ac c c,ac d d,ac x x,ac y y,ac e.tx e.tx,ac e.thread e.thread,ac e.obj e.obj,ac e.op e.op,ac e.key e.key,ac e.val e.val,ac e.ret e.ret,ac e.tx e.tx,ac e.thread e.thread,ac e.obj e.obj,ac e.op e.op,ac e.key e.key,ac e.val e.val,ac e.ret e.ret,ac e.obj e.obj,ac e.op e.op,ac e.key e.key,ac e.val e.val,ac many many,ap (A.addN k 1) (A.addN k 1),aF (A.snoc (mF dd) k (nM [[az .i64 e.obj,az .i64 e.op,az .i64 e.key,az .i64 e.val,az .i64 (ab 0),az .i64 (ab 0),az .i64 many,az .i64 (bI 0)]])) (A.snoc (mF dd) k (nM [[az .i64 e.obj,az .i64 e.op,az .i64 e.key,az .i64 e.val,az .i64 (ab 0),az .i64 (ab 0),az .i64 many,az .i64 (bI 0)]]))] (ai (bV,0,[ac (A.add .i64 many (ab 1)) many',ap m m,ax m gR gR,aL M1 M1,ac e.tx e.tx,aL M2 M2,ap n n,ax n (mF o) (mF o),ac a a',ac b b',ac c c',ac d d',ac x x',ac y y',ac (ab 2) z',ap (A.addN k 1) k',ax (A.addN k 1) (A.snoc (mF dd) k (nM [[az .i64 e.obj,az .i64 e.op,az .i64 e.key,az .i64 e.val,az .i64 (ab 0),az .i64 (ab 0),az .i64 many,az .i64 (bI 0)]])) gd']))))) (ai (bl (aC 12 329),0,[ac many many',ap m m,ax m gR gR,aL M1 M1,ac e.tx e.tx,aL M2 M2,ap n n,ax n (mF o) (mF o),ac a a',ac b b',ac c c',ac d d',ac x x',ac y y',ac z z',ap k k',ax k (mF dd) gd'])))))))))):=by kernel_rfl
theorem aqB(A:Prim)(W:Wd)(n m:Nat)(o:Nat->Oj)(many:Int)(gR:Nat->List Sh)(M1 M2:Int->Option Value)(e:Ev)(many':Int):(run (C5 A W pJ ni) 700 aj 79 [.code []] (LA 2 e (hpA n m o many gR M1 M2 [(e.tx,ag,.any)] []))).bind (toEnd [toN n m o many' gR M1 M2 [(e.tx,ag,.any)] []])=ak (A.eq many (ab 400)) (ai (bl (aC 6 329),0,[ac many many',ap m m,ax m gR gR,aL M1 M1,ac e.tx e.tx,aL M2 M2,ap n n,ax n (mF o) (mF o)])) (am (oZ {kind:=ab 2,tx:=e.tx,thread:=e.thread,obj:=e.obj,op:=e.op,key:=e.key,val:=e.val,ret:=e.ret}) (ak (A.le (A.nH n) e.obj) (ai (bl (aC 7 329),0,[ac many many',ap m m,ax m gR gR,aL M1 M1,ac e.tx e.tx,aL M2 M2,ap n n,ax n (mF o) (mF o)])) (am (A.inB e.obj n) (ak (A.nt (A.eq (rD e.op) (o (A.toN e.obj)).kind)) (ai (bl (aC 8 329),0,[ac many many',ap m m,ax m gR gR,aL M1 M1,ac e.tx e.tx,aL M2 M2,ap n n,ax n (mF o) (mF o)])) (am (A.eq e.tx e.tx) (ai (bl (aC 11 329),0,[ac many many',ap m m,ax m gR gR,aL M1 M1,ac e.tx e.tx,aL M2 M2,ap n n,ax n (mF o) (mF o)]))))))):=by kernel_rfl
theorem aeU(A:Prim)(W:Wd)(n m:Nat)(o:Nat->Oj)(many:Int)(gR:Nat->List Sh)(M1 M2:Int->Option Value)(e:Ev)(a b c d x y z:Int)(k:Nat)(dd:Nat->De)(many' a' b' c' d' x' y' z':Int)(k':Nat)(gd':Nat->List Sh):(run (C5 A W pJ ni) 700 aj 79 [.code []] (LA 3 e (hpA n m o many gR M1 M2 [(e.tx,aj,.ptr 4 0)] []++XL a b c d x y z k (mF dd)))).bind (toEnd [toR n m o gR M1 M2 e many' a' b' c' d' x' y' z' k' gd' []])=ak (A.eq many (ab 400)) (ai (bl (aC 6 329),0,[ac many many',ap m m,ax m gR gR,aL M1 M1,ac e.tx e.tx,aL M2 M2,ap n n,ax n (mF o) (mF o),ac a a',ac b b',ac c c',ac d d',ac x x',ac y y',ac z z',ap k k',ax k (mF dd) gd'])) (am (oZ {kind:=ab 3,tx:=e.tx,thread:=e.thread,obj:=e.obj,op:=e.op,key:=e.key,val:=e.val,ret:=e.ret}) (am (A.eq e.tx e.tx) (aw [ac e.tx e.tx,ac e.thread e.thread,ac e.obj e.obj,ac e.op e.op,ac e.key e.key,ac e.val e.val,ac e.ret e.ret,ac many many,ap m m,aF gR gR,aL M1 M1,ac e.tx e.tx,aL M2 M2,ap n n,aF (mF o) (mF o),ac a a,ac b b,ac c c,ac d d,ac x x,ac y y,ac z z,ap k k,aF (mF dd) (mF dd),ac e.tx e.tx,ac e.thread e.thread,ac e.obj e.obj,ac e.op e.op,ac e.key e.key,ac e.val e.val,ac e.ret e.ret] (aw [ac e.tx e.tx,ac e.thread e.thread,ac e.obj e.obj,ac e.op e.op,ac e.key e.key,ac e.val e.val,ac e.ret e.ret,ac many many,ap m m,aF gR gR,aL M1 M1,ac e.tx e.tx,aL M2 M2,ap n n,aF (mF o) (mF o),ac a a,ac b b,ac c c,ac d d,ac x x,ac y y,ac z z,ap k k,aF (mF dd) (mF dd),ac e.tx e.tx,ac e.thread e.thread,ac e.obj e.obj,ac e.op e.op,ac e.key e.key,ac e.val e.val,ac e.ret e.ret] (ak (A.eq z (ab 2)) (am (A.inB (A.sub .i64 (A.nH k) (ab 1)) k) (ak (A.nt (Ik (dd (A.toN (A.sub .i64 (A.nH k) (ab 1)))).op e.ret)) (ai (bl (aC 13 329),0,[ac many many',ap m m,ax m gR gR,aL M1 M1,ac e.tx e.tx,aL M2 M2,ap n n,ax n (mF o) (mF o),ac a a',ac b b',ac c c',ac d d',ac x x',ac y y',ac z z',ap k k',ax k (mF dd) gd'])) (ai (bV,0,[ac (A.add .i64 many (ab 1)) many',ap m m,ax m gR gR,aL M1 M1,ac e.tx e.tx,aL M2 M2,ap n n,ax n (mF o) (mF o),ac a a',ac b b',ac c c',ac d d',ac x x',ac y y',ac (ab 1) z',ap k k',ax k (A.upd (A.upd (A.upd (mF dd) (A.toN (A.sub .i64 (A.nH k) (ab 1))) 4 [az .i64 e.ret]) (A.toN (A.sub .i64 (A.nH k) (ab 1))) 5 [az .i64 e.val]) (A.toN (A.sub .i64 (A.nH k) (ab 1))) 7 [az .i64 many]) gd'])))) (ai (bl (aC 12 329),0,[ac many many',ap m m,ax m gR gR,aL M1 M1,ac e.tx e.tx,aL M2 M2,ap n n,ax n (mF o) (mF o),ac a a',ac b b',ac c c',ac d d',ac x x',ac y y',ac z z',ap k k',ax k (mF dd) gd']))))))):=by kernel_rfl
theorem aqC(A:Prim)(W:Wd)(n m:Nat)(o:Nat->Oj)(many:Int)(gR:Nat->List Sh)(M1 M2:Int->Option Value)(e:Ev)(many':Int):(run (C5 A W pJ ni) 700 aj 79 [.code []] (LA 3 e (hpA n m o many gR M1 M2 [(e.tx,ag,.any)] []))).bind (toEnd [toN n m o many' gR M1 M2 [(e.tx,ag,.any)] []])=ak (A.eq many (ab 400)) (ai (bl (aC 6 329),0,[ac many many',ap m m,ax m gR gR,aL M1 M1,ac e.tx e.tx,aL M2 M2,ap n n,ax n (mF o) (mF o)])) (am (oZ {kind:=ab 3,tx:=e.tx,thread:=e.thread,obj:=e.obj,op:=e.op,key:=e.key,val:=e.val,ret:=e.ret}) (am (A.eq e.tx e.tx) (ai (bl (aC 11 329),0,[ac many many',ap m m,ax m gR gR,aL M1 M1,ac e.tx e.tx,aL M2 M2,ap n n,ax n (mF o) (mF o)])))):=by kernel_rfl
theorem alq(A:Prim)(W:Wd)(n m:Nat)(o:Nat->Oj)(many:Int)(gR:Nat->List Sh)(M1 M2:Int->Option Value)(e:Ev)(a b c d x y z:Int)(k:Nat)(dd:Nat->De)(many' a' b' c' d' x' y' z':Int)(k':Nat)(gd':Nat->List Sh):(run (C5 A W pJ ni) 700 aj 79 [.code []] (LA 4 e (hpA n m o many gR M1 M2 [(e.tx,aj,.ptr 4 0)] []++XL a b c d x y z k (mF dd)))).bind (toEnd [toR n m o gR M1 M2 e many' a' b' c' d' x' y' z' k' gd' []])=ak (A.eq many (ab 400)) (ai (bl (aC 6 329),0,[ac many many',ap m m,ax m gR gR,aL M1 M1,ac e.tx e.tx,aL M2 M2,ap n n,ax n (mF o) (mF o),ac a a',ac b b',ac c c',ac d d',ac x x',ac y y',ac z z',ap k k',ax k (mF dd) gd'])) (am (oZ {kind:=ab 4,tx:=e.tx,thread:=e.thread,obj:=e.obj,op:=e.op,key:=e.key,val:=e.val,ret:=e.ret}) (am (A.eq e.tx e.tx) (aw [ac e.tx e.tx,ac e.thread e.thread,ac e.obj e.obj,ac e.op e.op,ac e.key e.key,ac e.val e.val,ac e.ret e.ret,ac many many,ap m m,aF gR gR,aL M1 M1,ac e.tx e.tx,aL M2 M2,ap n n,aF (mF o) (mF o),ac a a,ac b b,ac c c,ac d d,ac x x,ac y y,ac z z,ap k k,aF (mF dd) (mF dd),ac e.tx e.tx,ac e.thread e.thread,ac e.obj e.obj,ac e.op e.op,ac e.key e.key,ac e.val e.val,ac e.ret e.ret] (aw [ac e.tx e.tx,ac e.thread e.thread,ac e.obj e.obj,ac e.op e.op,ac e.key e.key,ac e.val e.val,ac e.ret e.ret,ac many many,ap m m,aF gR gR,aL M1 M1,ac e.tx e.tx,aL M2 M2,ap n n,aF (mF o) (mF o),ac a a,ac b b,ac c c,ac d d,ac x x,ac y y,ac z z,ap k k,aF (mF dd) (mF dd),ac e.tx e.tx,ac e.thread e.thread,ac e.obj e.obj,ac e.op e.op,ac e.key e.key,ac e.val e.val,ac e.ret e.ret] (ak (A.eq z (ab 1)) (ai (bV,0,[ac (A.add .i64 many (ab 1)) many',ap m m,ax m gR gR,aL M1 M1,ac e.tx e.tx,aL M2 M2,ap n n,ax n (mF o) (mF o),ac a a',ac b b',ac (ab 2) c',ac d d',ac x x',ac many y',ac (ab 3) z',ap k k',ax k (mF dd) gd'])) (ai (bl (aC 12 329),0,[ac many many',ap m m,ax m gR gR,aL M1 M1,ac e.tx e.tx,aL M2 M2,ap n n,ax n (mF o) (mF o),ac a a',ac b b',ac c c',ac d d',ac x x',ac y y',ac z z',ap k k',ax k (mF dd) gd']))))))):=by kernel_rfl
theorem aqD(A:Prim)(W:Wd)(n m:Nat)(o:Nat->Oj)(many:Int)(gR:Nat->List Sh)(M1 M2:Int->Option Value)(e:Ev)(many':Int):(run (C5 A W pJ ni) 700 aj 79 [.code []] (LA 4 e (hpA n m o many gR M1 M2 [(e.tx,ag,.any)] []))).bind (toEnd [toN n m o many' gR M1 M2 [(e.tx,ag,.any)] []])=ak (A.eq many (ab 400)) (ai (bl (aC 6 329),0,[ac many many',ap m m,ax m gR gR,aL M1 M1,ac e.tx e.tx,aL M2 M2,ap n n,ax n (mF o) (mF o)])) (am (oZ {kind:=ab 4,tx:=e.tx,thread:=e.thread,obj:=e.obj,op:=e.op,key:=e.key,val:=e.val,ret:=e.ret}) (am (A.eq e.tx e.tx) (ai (bl (aC 11 329),0,[ac many many',ap m m,ax m gR gR,aL M1 M1,ac e.tx e.tx,aL M2 M2,ap n n,ax n (mF o) (mF o)])))):=by kernel_rfl
theorem alr(A:Prim)(W:Wd)(n m:Nat)(o:Nat->Oj)(many:Int)(gR:Nat->List Sh)(M1 M2:Int->Option Value)(e:Ev)(a b c d x y z:Int)(k:Nat)(dd:Nat->De)(many' a' b' c' d' x' y' z':Int)(k':Nat)(gd':Nat->List Sh):(run (C5 A W pJ ni) 700 aj 79 [.code []] (LA 5 e (hpA n m o many gR M1 M2 [(e.tx,aj,.ptr 4 0)] []++XL a b c d x y z k (mF dd)))).bind (toEnd [toR n m o gR M1 M2 e many' a' b' c' d' x' y' z' k' gd' [],toR n m o gR M1 M2 e many' a' b' c' d' x' y' z' k' gd' [(b,ag,.any)]])=ak (A.eq many (ab 400)) (ai (bl (aC 6 329),0,[ac many many',ap m m,ax m gR gR,aL M1 M1,ac e.tx e.tx,aL M2 M2,ap n n,ax n (mF o) (mF o),ac a a',ac b b',ac c c',ac d d',ac x x',ac y y',ac z z',ap k k',ax k (mF dd) gd'])) (am (oZ {kind:=ab 5,tx:=e.tx,thread:=e.thread,obj:=e.obj,op:=e.op,key:=e.key,val:=e.val,ret:=e.ret}) (am (A.eq e.tx e.tx) (aw [ac e.tx e.tx,ac e.thread e.thread,ac e.obj e.obj,ac e.op e.op,ac e.key e.key,ac e.val e.val,ac e.ret e.ret,ac many many,ap m m,aF gR gR,aL M1 M1,ac e.tx e.tx,aL M2 M2,ap n n,aF (mF o) (mF o),ac a a,ac b b,ac c c,ac d d,ac x x,ac y y,ac z z,ap k k,aF (mF dd) (mF dd),ac e.tx e.tx,ac e.thread e.thread,ac e.obj e.obj,ac e.op e.op,ac e.key e.key,ac e.val e.val,ac e.ret e.ret] (aw [ac e.tx e.tx,ac e.thread e.thread,ac e.obj e.obj,ac e.op e.op,ac e.key e.key,ac e.val e.val,ac e.ret e.ret,ac many many,ap m m,aF gR gR,aL M1 M1,ac e.tx e.tx,aL M2 M2,ap n n,aF (mF o) (mF o),ac a a,ac b b,ac c c,ac d d,ac x x,ac y y,ac z z,ap k k,aF (mF dd) (mF dd),ac e.tx e.tx,ac e.thread e.thread,ac e.obj e.obj,ac e.op e.op,ac e.key e.key,ac e.val e.val,ac e.ret e.ret] (ak (A.eq z (ab 3)) (ai (bV,1,[ac (A.add .i64 many (ab 1)) many',ap m m,ax m gR gR,aL M1 M1,ac e.tx e.tx,aL M2 M2,ac b b,ap n n,ax n (mF o) (mF o),ac a a',ac b b',ac (ab 3) c',ac d d',ac many x',ac y y',ac (ab 5) z',ap k k',ax k (mF dd) gd'])) (ai (bl (aC 12 329),0,[ac many many',ap m m,ax m gR gR,aL M1 M1,ac e.tx e.tx,aL M2 M2,ap n n,ax n (mF o) (mF o),ac a a',ac b b',ac c c',ac d d',ac x x',ac y y',ac z z',ap k k',ax k (mF dd) gd']))))))):=by kernel_rfl
theorem aqE(A:Prim)(W:Wd)(n m:Nat)(o:Nat->Oj)(many:Int)(gR:Nat->List Sh)(M1 M2:Int->Option Value)(e:Ev)(many':Int):(run (C5 A W pJ ni) 700 aj 79 [.code []] (LA 5 e (hpA n m o many gR M1 M2 [(e.tx,ag,.any)] []))).bind (toEnd [toN n m o many' gR M1 M2 [(e.tx,ag,.any)] []])=ak (A.eq many (ab 400)) (ai (bl (aC 6 329),0,[ac many many',ap m m,ax m gR gR,aL M1 M1,ac e.tx e.tx,aL M2 M2,ap n n,ax n (mF o) (mF o)])) (am (oZ {kind:=ab 5,tx:=e.tx,thread:=e.thread,obj:=e.obj,op:=e.op,key:=e.key,val:=e.val,ret:=e.ret}) (am (A.eq e.tx e.tx) (ai (bl (aC 11 329),0,[ac many many',ap m m,ax m gR gR,aL M1 M1,ac e.tx e.tx,aL M2 M2,ap n n,ax n (mF o) (mF o)])))):=by kernel_rfl
theorem als(A:Prim)(W:Wd)(n m:Nat)(o:Nat->Oj)(many:Int)(gR:Nat->List Sh)(M1 M2:Int->Option Value)(e:Ev)(a b c d x y z:Int)(k:Nat)(dd:Nat->De)(many' a' b' c' d' x' y' z':Int)(k':Nat)(gd':Nat->List Sh):(run (C5 A W pJ ni) 700 aj 79 [.code []] (LA 6 e (hpA n m o many gR M1 M2 [(e.tx,aj,.ptr 4 0)] []++XL a b c d x y z k (mF dd)))).bind (toEnd [toR n m o gR M1 M2 e many' a' b' c' d' x' y' z' k' gd' [],toR n m o gR M1 M2 e many' a' b' c' d' x' y' z' k' gd' [(b,ag,.any)]])=ak (A.eq many (ab 400)) (ai (bl (aC 6 329),0,[ac many many',ap m m,ax m gR gR,aL M1 M1,ac e.tx e.tx,aL M2 M2,ap n n,ax n (mF o) (mF o),ac a a',ac b b',ac c c',ac d d',ac x x',ac y y',ac z z',ap k k',ax k (mF dd) gd'])) (am (oZ {kind:=ab 6,tx:=e.tx,thread:=e.thread,obj:=e.obj,op:=e.op,key:=e.key,val:=e.val,ret:=e.ret}) (am (A.eq e.tx e.tx) (aw [ac e.tx e.tx,ac e.thread e.thread,ac e.obj e.obj,ac e.op e.op,ac e.key e.key,ac e.val e.val,ac e.ret e.ret,ac many many,ap m m,aF gR gR,aL M1 M1,ac e.tx e.tx,aL M2 M2,ap n n,aF (mF o) (mF o),ac a a,ac b b,ac c c,ac d d,ac x x,ac y y,ac z z,ap k k,aF (mF dd) (mF dd),ac e.tx e.tx,ac e.thread e.thread,ac e.obj e.obj,ac e.op e.op,ac e.key e.key,ac e.val e.val,ac e.ret e.ret] (aw [ac e.tx e.tx,ac e.thread e.thread,ac e.obj e.obj,ac e.op e.op,ac e.key e.key,ac e.val e.val,ac e.ret e.ret,ac many many,ap m m,aF gR gR,aL M1 M1,ac e.tx e.tx,aL M2 M2,ap n n,aF (mF o) (mF o),ac a a,ac b b,ac c c,ac d d,ac x x,ac y y,ac z z,ap k k,aF (mF dd) (mF dd),ac e.tx e.tx,ac e.thread e.thread,ac e.obj e.obj,ac e.op e.op,ac e.key e.key,ac e.val e.val,ac e.ret e.ret] (ak (A.eq z (ab 1)) (ai (bV,1,[ac (A.add .i64 many (ab 1)) many',ap m m,ax m gR gR,aL M1 M1,ac e.tx e.tx,aL M2 M2,ac b b,ap n n,ax n (mF o) (mF o),ac a a',ac b b',ac (ab 4) c',ac d d',ac many x',ac y y',ac (ab 5) z',ap k k',ax k (mF dd) gd'])) (ak (A.eq z (ab 2)) (ai (bV,1,[ac (A.add .i64 many (ab 1)) many',ap m m,ax m gR gR,aL M1 M1,ac e.tx e.tx,aL M2 M2,ac b b,ap n n,ax n (mF o) (mF o),ac a a',ac b b',ac (ab 4) c',ac d d',ac many x',ac y y',ac (ab 5) z',ap k k',ax k (mF dd) gd'])) (ak (A.eq z (ab 3)) (ai (bV,1,[ac (A.add .i64 many (ab 1)) many',ap m m,ax m gR gR,aL M1 M1,ac e.tx e.tx,aL M2 M2,ac b b,ap n n,ax n (mF o) (mF o),ac a a',ac b b',ac (ab 4) c',ac d d',ac many x',ac y y',ac (ab 5) z',ap k k',ax k (mF dd) gd'])) (ak (A.eq z (ab 4)) (ai (bV,1,[ac (A.add .i64 many (ab 1)) many',ap m m,ax m gR gR,aL M1 M1,ac e.tx e.tx,aL M2 M2,ac b b,ap n n,ax n (mF o) (mF o),ac a a',ac b b',ac (ab 4) c',ac d d',ac many x',ac y y',ac (ab 5) z',ap k k',ax k (mF dd) gd'])) (ai (bl (aC 12 329),0,[ac many many',ap m m,ax m gR gR,aL M1 M1,ac e.tx e.tx,aL M2 M2,ap n n,ax n (mF o) (mF o),ac a a',ac b b',ac c c',ac d d',ac x x',ac y y',ac z z',ap k k',ax k (mF dd) gd'])))))))))):=by kernel_rfl
theorem aqF(A:Prim)(W:Wd)(n m:Nat)(o:Nat->Oj)(many:Int)(gR:Nat->List Sh)(M1 M2:Int->Option Value)(e:Ev)(many':Int):(run (C5 A W pJ ni) 700 aj 79 [.code []] (LA 6 e (hpA n m o many gR M1 M2 [(e.tx,ag,.any)] []))).bind (toEnd [toN n m o many' gR M1 M2 [(e.tx,ag,.any)] []])=ak (A.eq many (ab 400)) (ai (bl (aC 6 329),0,[ac many many',ap m m,ax m gR gR,aL M1 M1,ac e.tx e.tx,aL M2 M2,ap n n,ax n (mF o) (mF o)])) (am (oZ {kind:=ab 6,tx:=e.tx,thread:=e.thread,obj:=e.obj,op:=e.op,key:=e.key,val:=e.val,ret:=e.ret}) (am (A.eq e.tx e.tx) (ai (bl (aC 11 329),0,[ac many many',ap m m,ax m gR gR,aL M1 M1,ac e.tx e.tx,aL M2 M2,ap n n,ax n (mF o) (mF o)])))):=by kernel_rfl
theorem alu(A:Prim)(W:Wd)(n m:Nat)(o:Nat->Oj)(many:Int)(gR:Nat->List Sh)(M1 M2:Int->Option Value)(e:Ev)(a b c d x y z:Int)(k:Nat)(dd:Nat->De)(many' a' b' c' d' x' y' z':Int)(k':Nat)(gd':Nat->List Sh):(run (C5 A W pJ ni) 700 aj 79 [.code []] (LA 7 e (hpA n m o many gR M1 M2 [(e.tx,aj,.ptr 4 0)] []++XL a b c d x y z k (mF dd)))).bind (toEnd [toR n m o gR M1 M2 e many' a' b' c' d' x' y' z' k' gd' []])=ak (A.eq many (ab 400)) (ai (bl (aC 6 329),0,[ac many many',ap m m,ax m gR gR,aL M1 M1,ac e.tx e.tx,aL M2 M2,ap n n,ax n (mF o) (mF o),ac a a',ac b b',ac c c',ac d d',ac x x',ac y y',ac z z',ap k k',ax k (mF dd) gd'])) (am (oZ {kind:=ab 7,tx:=e.tx,thread:=e.thread,obj:=e.obj,op:=e.op,key:=e.key,val:=e.val,ret:=e.ret}) (am (A.eq e.tx e.tx) (aw [ac e.tx e.tx,ac e.thread e.thread,ac e.obj e.obj,ac e.op e.op,ac e.key e.key,ac e.val e.val,ac e.ret e.ret,ac many many,ap m m,aF gR gR,aL M1 M1,ac e.tx e.tx,aL M2 M2,ap n n,aF (mF o) (mF o),ac a a,ac b b,ac c c,ac d d,ac x x,ac y y,ac z z,ap k k,aF (mF dd) (mF dd),ac e.tx e.tx,ac e.thread e.thread,ac e.obj e.obj,ac e.op e.op,ac e.key e.key,ac e.val e.val,ac e.ret e.ret] (aw [ac e.tx e.tx,ac e.thread e.thread,ac e.obj e.obj,ac e.op e.op,ac e.key e.key,ac e.val e.val,ac e.ret e.ret,ac many many,ap m m,aF gR gR,aL M1 M1,ac e.tx e.tx,aL M2 M2,ap n n,aF (mF o) (mF o),ac a a,ac b b,ac c c,ac d d,ac x x,ac y y,ac z z,ap k k,aF (mF dd) (mF dd),ac e.tx e.tx,ac e.thread e.thread,ac e.obj e.obj,ac e.op e.op,ac e.key e.key,ac e.val e.val,ac e.ret e.ret] (ak (A.eq z (ab 1)) (ai (bV,0,[ac (A.add .i64 many (ab 1)) many',ap m m,ax m gR gR,aL M1 M1,ac e.tx e.tx,aL M2 M2,ap n n,ax n (mF o) (mF o),ac a a',ac b b',ac c c',ac d d',ac x x',ac y y',ac (ab 4) z',ap k k',ax k (mF dd) gd'])) (ai (bl (aC 12 329),0,[ac many many',ap m m,ax m gR gR,aL M1 M1,ac e.tx e.tx,aL M2 M2,ap n n,ax n (mF o) (mF o),ac a a',ac b b',ac c c',ac d d',ac x x',ac y y',ac z z',ap k k',ax k (mF dd) gd']))))))):=by kernel_rfl
theorem aqG(A:Prim)(W:Wd)(n m:Nat)(o:Nat->Oj)(many:Int)(gR:Nat->List Sh)(M1 M2:Int->Option Value)(e:Ev)(many':Int):(run (C5 A W pJ ni) 700 aj 79 [.code []] (LA 7 e (hpA n m o many gR M1 M2 [(e.tx,ag,.any)] []))).bind (toEnd [toN n m o many' gR M1 M2 [(e.tx,ag,.any)] []])=ak (A.eq many (ab 400)) (ai (bl (aC 6 329),0,[ac many many',ap m m,ax m gR gR,aL M1 M1,ac e.tx e.tx,aL M2 M2,ap n n,ax n (mF o) (mF o)])) (am (oZ {kind:=ab 7,tx:=e.tx,thread:=e.thread,obj:=e.obj,op:=e.op,key:=e.key,val:=e.val,ret:=e.ret}) (am (A.eq e.tx e.tx) (ai (bl (aC 11 329),0,[ac many many',ap m m,ax m gR gR,aL M1 M1,ac e.tx e.tx,aL M2 M2,ap n n,ax n (mF o) (mF o)])))):=by kernel_rfl
theorem aqH(A:Prim)(W:Wd)(n m:Nat)(o:Nat->Oj)(many:Int)(gR:Nat->List Sh)(M1 M2:Int->Option Value)(e:Ev)(a b c d x y z:Int)(k:Nat)(dd:Nat->De)(many' a' b' c' d' x' y' z':Int)(k':Nat)(gd':Nat->List Sh):(run (C5 A W pJ ni) 700 aj 79 [.code []] (LA 1 e (hpA n m o many gR M1 M2 [(e.tx,aj,.ptr 4 0)] []++XL a b c d x y z k (mF dd)))).bind (toEnd [toR n m o gR M1 M2 e many' a' b' c' d' x' y' z' k' gd' []])=ak (A.eq many (ab 400)) (ai (bl (aC 6 329),0,[ac many many',ap m m,ax m gR gR,aL M1 M1,ac e.tx e.tx,aL M2 M2,ap n n,ax n (mF o) (mF o),ac a a',ac b b',ac c c',ac d d',ac x x',ac y y',ac z z',ap k k',ax k (mF dd) gd'])) (am (oZ {kind:=ab 1,tx:=e.tx,thread:=e.thread,obj:=e.obj,op:=e.op,key:=e.key,val:=e.val,ret:=e.ret}) (am (A.eq e.tx e.tx) (ai (bl (aC 9 329),0,[ac many many',ap m m,ax m gR gR,aL M1 M1,ac e.tx e.tx,aL M2 M2,ap n n,ax n (mF o) (mF o),ac a a',ac b b',ac c c',ac d d',ac x x',ac y y',ac z z',ap k k',ax k (mF dd) gd'])))):=by kernel_rfl
theorem aqI(A:Prim)(W:Wd)(n m:Nat)(o:Nat->Oj)(many:Int)(gR:Nat->List Sh)(M1 M2:Int->Option Value)(e:Ev)(q:Nat)(many':Int):(run (C5 A W pJ ni) 700 aj 79 [.code []] (LA 1 e (hpA n m o many gR M1 M2 [(e.tx,ag,.any)] [(e.thread,aj,.val (.pointer (ae ⟨q,0,aq⟩)))]))).bind (toEnd [toN n m o many' gR M1 M2 [(e.tx,ag,.any)] [(e.thread,aj,.val (.pointer (ae ⟨q,0,aq⟩)))]])=ak (A.eq many (ab 400)) (ai (bl (aC 6 329),0,[ac many many',ap m m,ax m gR gR,aL M1 M1,ac e.tx e.tx,aL M2 M2,ac e.thread e.thread,dG (bU (ae {block:=q,off:=0})) (bU (ae {block:=q,off:=0})),ap n n,ax n (mF o) (mF o)])) (am (oZ {kind:=ab 1,tx:=e.tx,thread:=e.thread,obj:=e.obj,op:=e.op,key:=e.key,val:=e.val,ret:=e.ret}) (am (A.eq e.tx e.tx) (am (A.eq e.thread e.thread) (ai (bl (aC 10 329),0,[ac many many',ap m m,ax m gR gR,aL M1 M1,ac e.tx e.tx,aL M2 M2,ac e.thread e.thread,dG (bU (ae {block:=q,off:=0})) (bU (ae {block:=q,off:=0})),ap n n,ax n (mF o) (mF o)]))))):=by kernel_rfl
theorem aqJ(A:Prim)(W:Wd)(n m:Nat)(o:Nat->Oj)(many:Int)(gR:Nat->List Sh)(M1 M2:Int->Option Value)(e:Ev)(many' a' b' c' d' x' y' z':Int):(run (C5 A W pJ ni) 700 aj 79 [.code []] (LA 1 e (hpA n m o many gR M1 M2 [(e.tx,ag,.any)] [(e.thread,ag,.any)]))).bind (toEnd [toB n m o gR M1 M2 e many' a' b' c' d' x' y' z'])=ak (A.eq many (ab 400)) aY (am (oZ {kind:=ab 1,tx:=e.tx,thread:=e.thread,obj:=e.obj,op:=e.op,key:=e.key,val:=e.val,ret:=e.ret}) (am (A.eq e.tx e.tx) (am (A.eq e.thread e.thread) (am (A.room (A.addN m 1) 8) (am (A.eq e.tx e.tx) (am (A.eq e.thread e.thread) (ai (bV,0,[ac (A.add .i64 many (ab 1)) many',ap n n,ax n (mF o) (mF o),ap m m,ax m gR gR,aL M1 M1,ac e.tx e.tx,ac e.tx e.tx,ac e.tx e.tx,aL M2 M2,ac e.thread e.thread,ac e.thread e.thread,ac e.thread e.thread,ac e.tx a',ac e.thread b',ac (ab 1) c',ac many d',ac (bI 0) x',ac (bI 0) y',ac (ab 1) z'])))))))):=by kernel_rfl
end Go.mP
namespace Go.oD
open Go Go.Sx
structure Rc where
 id:Int
 th:Int
 st:Int
 bg:Int
 en:Int
 tr:Int
 mO:List De
 stand:Int
structure Au where
 many:Nat
 rs:List Rc
def Au.BQ(σ:Au)(k:Int):Option Nat:=σ.rs.findIdx? fun r=>r.id==k
def Rc.live(r:Rc):Bool:=!(r.stand==5)
def Au.CW(σ:Au)(k:Int):Option Nat:=σ.rs.findIdx? fun r=>r.th==k&&r.live
def xR{α:Type}(f:α->α):List α->List α
 |[]=>[] |[x]=>[f x] |x::y::l=>x::xR f (y::l)
def Rc.step(many:Nat)(e:Ev)(r:Rc):Nat ⊕ Rc:=
 bif e.kind==2 then bif r.stand==1 then .inr {r with stand:=2,mO:=r.mO++[⟨e.obj,e.op,e.key,e.val,0,0,many,-1⟩]} else .inl 12
 else bif e.kind==3 then bif r.stand==2 then bif Ik (r.mO.getLast?.getD Row.zX).op e.ret then .inr {r with stand:=1,mO:=xR (fun d=>{d with ret:=e.ret,got:=e.val,back:=many}) r.mO} else .inl 13 else .inl 12
 else bif e.kind==4 then bif r.stand==1 then .inr {r with stand:=3,tr:=many,st:=2} else .inl 12
 else bif e.kind==7 then bif r.stand==1 then .inr {r with stand:=4} else .inl 12
 else bif e.kind==5 then bif r.stand==3 then .inr {r with stand:=5,en:=many,st:=3} else .inl 12
 else bif r.stand==1||r.stand==2||r.stand==3||r.stand==4 then .inr {r with stand:=5,en:=many,st:=4} else .inl 12
def Au.feed(σ:Au)(e:Ev):Option Nat×Au:=
 match σ.BQ e.tx with
 |some i=>bif e.kind==1 then (ae 9,σ) else match Rc.step σ.many e (σ.rs.getD i ⟨0,0,0,0,0,0,[],0⟩) with
  | .inl k=>(ae k,σ) | .inr r=>(aq,⟨σ.many+1,σ.rs.set i r⟩)
 |none=>bif e.kind==1 then (match σ.CW e.thread with
  |some _=>(ae 10,σ) |none=>(aq,⟨σ.many+1,σ.rs++[⟨e.tx,e.thread,1,σ.many,-1,-1,[],1⟩]⟩)) else (ae 11,σ)
structure Au.OK(σ:Au):Prop where
 one:∀(i j:Nat) (r s:Rc),σ.rs[i]?=ae r->σ.rs[j]?=ae s->r.th=s.th->r.live=aj->s.live=aj->i=j
 deed:∀(i:Nat) (r:Rc),σ.rs[i]?=ae r->r.stand=2->r.mO≠[]
 stands:∀(i:Nat) (r:Rc),σ.rs[i]?=ae r->1<=r.stand/\r.stand<=5
 len:σ.rs.length<=σ.many
 dl:∀(i:Nat) (r:Rc),σ.rs[i]?=ae r->r.mO.length<=σ.many
end Go.oD
namespace Go.Sx
open Go.oD
def qY(b:Nat):Value:=.pointer (ae ⟨b,0,aq⟩)
structure Lay where
 p:Nat
 v0:Value
 v2:Value
 b1:Nat
 b2:Nat
 R:Nat->Nat
 D:Nat->Value
inductive Tg where
 |au|tx|BR|bu|ob
 |rc (i:Nat)
 |de (i:Nat)
 deriving DecidableEq
def Lay.blk(L:Lay)(n:Nat):Tg->Option Nat
 | .au=>ae L.p | .tx=>mY L.v2 | .BR=>ae L.b1 | .bu=>ae L.b2 | .ob=>mY L.v0 | .rc i=>if i<n then ae (L.R i) else aq
 | .de i=>if i<n then mY (L.D i) else aq
def PI(r:Rc)(d:Value):Array Value:=#[.int .i64 r.id,.int .i64 r.th,.int .i64 r.st,.int .i64 r.bg,.int .i64 r.en,.int .i64 r.tr,d,.int .i64 r.stand]
def WJ(d:De):List Value:=[.int .i64 d.obj,.int .i64 d.op,.int .i64 d.key,.int .i64 d.val,.int .i64 d.ret,.int .i64 d.got,.int .i64 d.here,.int .i64 d.back]
structure qE(H:Mem)(w:World)(n0:Nat)(g0:Nat->List Sh)(σ:Au)(L:Lay):Prop where
 au:w.heap[L.p]?=ae (.cells #[L.v0,.int .i64 σ.many,L.v2,.map (ae L.b1),.map (ae L.b2)] 181 (0,0))
 ob:∃xs,w.ownsRow 0 140 2 L.v0 n0 xs/\oW H 2 n0 g0 xs
 tx:w.ownsRow 0 182 1 L.v2 σ.rs.length ((aE σ.rs.length).map fun i=>qY (L.R i))
 BR:∃ms clk,w.heap[L.b1]?=ae (.map ms clk)/\uK .i64 ms.toList clk fun k=>(σ.BQ k).map fun i=>qY (L.R i)
 bu:∃ms clk,w.heap[L.b2]?=ae (.map ms clk)/\uK .i64 ms.toList clk fun k=>(σ.CW k).map fun i=>qY (L.R i)
 rc:∀i r,σ.rs[i]?=ae r->w.heap[L.R i]?=ae (.cells (PI r (L.D i)) 184 (0,0))
 de:∀i r,σ.rs[i]?=ae r->w.ownsRow 0 197 8 (L.D i) r.mO.length (r.mO.flatMap WJ)
 vO:∀s t b,L.blk σ.rs.length s=ae b->L.blk σ.rs.length t=ae b->s=t
 un:∀t b,L.blk σ.rs.length t=ae b->H b=aq
section
variable{H H':Mem}{w w':World}{n0:Nat}{g0:Nat->List Sh}{σ:Au}{L:Lay}
theorem WL{e st n:Nat}{v:Value}{xs:List Value}{b:Nat}(h:w.ownsRow 0 e st v n xs)(hb:mY v=ae b):b<w.heap.size:=by
 rcases h.2 with ⟨rfl,_⟩ |⟨g,cap,cur,rfl,_,hg,_⟩
 ·cases hb
 ·cases hb
  grind
theorem qE.lt(h:qE H w n0 g0 σ L){t:Tg}{b:Nat}(hb:L.blk σ.rs.length t=ae b):b<w.heap.size:=by
 cases t with
 |au=>cases hb;exact (aM.1 h.au).1 |tx=>exact WL h.tx hb |BR=>cases hb;obtain ⟨ms,clk,h1,_⟩:=h.BR;grind |bu=>cases hb;obtain ⟨ms,clk,h1,_⟩:=h.bu;grind |ob=>obtain ⟨xs,h1,_⟩:=h.ob;exact WL h1 hb |rc i=>
  simp only[Lay.blk] at hb;split at hb
  ·rename_i hi
   cases hb;exact (aM.1 (h.rc i _ (aD hi))).1
  ·cases hb
 |de i=>
  simp only[Lay.blk] at hb;split at hb
  ·rename_i hi
   exact WL (h.de i _ (aD hi)) hb
  ·cases hb
theorem qE.keep(h:qE H w n0 g0 σ L)(hH:H.le H')(hw:∀t b,L.blk σ.rs.length t=ae b->w'.heap[b]?=w.heap[b]?)(hu:∀t b,L.blk σ.rs.length t=ae b->H' b=aq):qE H' w' n0 g0 σ L:=by
 refine ⟨by rw[hw .au _ rfl];exact h.au,(let ⟨xs,h1,h2⟩:=h.ob;⟨xs,vP h1 fun b hb=>hw .ob b hb,h2.le hH⟩),vP h.tx fun b hb=>hw .tx b hb,?_,?_,fun i r hi=>?_,fun i r hi=>vP (h.de i r hi) fun b hb=>hw (.de i) b ?_,h.vO,hu⟩
 ·obtain ⟨ms,clk,h1,h2⟩:=h.BR
  exact ⟨ms,clk,by rw[hw .BR _ rfl];exact h1,h2⟩
 ·obtain ⟨ms,clk,h1,h2⟩:=h.bu
  exact ⟨ms,clk,by rw[hw .bu _ rfl];exact h1,h2⟩
 ·have hlt:=(aT.1 hi).1
  rw[hw (.rc i) _ (by simp[Lay.blk,hlt])];exact h.rc i r hi
 grind [aT,Lay.blk]
end
end Go.Sx
