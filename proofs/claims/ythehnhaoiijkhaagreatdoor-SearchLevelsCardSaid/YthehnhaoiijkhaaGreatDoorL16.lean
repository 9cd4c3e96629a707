/- SearchLevels holds of the given program for every history: final-state opaque is strictly serialisable, that is serialisable; more order, no more pairs; without transactions every level; no conditions. -/
import Derived.Test.YthehnhaoiijkhaaGreatDoorL15
import Derived.KernelRfl
import Derived.ProofKit
import Derived.Deep.Slices
import Derived.Stop.LaidErr
import Derived.LaidMore
import Derived.OpenShut
import Derived.MakeChecks
import Derived.Test.YthehnhaoiijkhaaGreatDoorRows
import Derived.Carry
import Derived.Stop.Joined
import Derived.Test.YthehnhaoiijkhaaGreatDoorTie
import Derived.Test.YthehnhaoiijkhaaGreatDoorCards
open Int (ofNat)
open Bool renaming true->aC,and_eq_true->aI,false->ay
open Classical renaming propDecidable->bG
open Go.Addr renaming add->nD
open Go.DataW renaming trod->zA,trod_int->pY,trod_struct->uo,trod_array->uT,TrodAll->qJ
open Go.Gm renaming start->fD
open Go.IntKind renaming i64->aW
open Go.MemPlace renaming row->qp
open Go.BR renaming Row->yU,okB->oM,lst->pq,Oj->iP,Ev->jv,Jh->wL
open Go.BR.Row renaming get->xk
open Go.Proofs.Tryz renaming prog->aA,underlying46->uU,underlying329->uq,underlying343->uw,underlying9->lZ,underlying300->nP,checked->rG,f7->nO,func7->uy,params7->yV
open Go.Sx.BK renaming all->dI
open Go.Value renaming int->iW,okWide->lX
open Go.World renaming var?_cell->vS,doorLaid->wO
open Int renaming toNat->wM
open List renaming getD_eq_getElem?_getD->aX,mem_map->dJ,mem_flatMap->iV,mem_append->bI,mem_append_left->kU,mem_singleton->um,mem_append_right->iD,getElem?_eq_getElem->aS,range->aZ,getElem?_map->gB,getElem?_range->tH,map->oU,length_map->dP,map_map->qm,all_eq_true->dF,mem_range->dh,take->vO,drop->vP,length->zB
open Nat renaming beq->fC,eq_of_beq_eq_true->fK,add_assoc->kC,mul_one->zF
open Option renaming some->ak,none->aK,map_eq_some_iff->bW,getD_some->oD
open Option.some renaming inj->dH
namespace Go.Pl
open Go Go.Sx Go.Proofs Go.Gm Go.Bf
def II(l:List CY)(j:Nat):CY:=l.getD j NP
def TL(n:Nat):List CY->List Dd->Option (List CY)
 |l,[]=>ak l |l,d::r=>if d.ret=0 then TL n l r else if YA n (II l) d.obj d.op d.key d.val=aC then
   (if (ER (II l d.obj.toNat) d.op d.key d.val).2.1=d.ret/\(ER (II l d.obj.toNat) d.op d.key d.val).2.2=d.got then TL n (l.set d.obj.toNat (ER (II l d.obj.toNat) d.op d.key d.val).1) r else aK) else aK
def He(n:Nat)(g0:SG)(l:List CY):SG:=fun j=>if j<n then Dp (II l j) else g0 j
def KR(B:Ie):Game (List CY) where
 n:=B.N
 id i:=(B.T i).id
 com i:=(B.T i).st==3||(B.T i).st==2
 Uw i:=!((B.T i).st==3)
 mask i:=(B.ms i).toNat
 run l i:=TL B.k0 l (lst Dd (B.T i).k (B.T i).g)
 all:=B.lv==3
def Qg(nd:Nd (List CY)):Nat×List CY:=(nd.placed,nd.st)
section
variable{n:Nat}{g0:SG}
theorem acP(l:List CY):∀j,j<n->He n g0 l j=Dp (II l j):=fun _ hj=>if_pos hj
theorem aqN(l:List CY):∀j,j<n->Et n (He n g0 l) j=II l j:=akz (acP l)
theorem amB(l:List CY)(k:Nat)(s:CY)(hk:k<l.length)(j:Nat):II (l.set k s) j=if j=k then s else II l j:=by
 unfold II;rw[aX,aX,List.getElem?_set];by_cases e:k=j
 ·subst e;simp[hk]
 ·rw[if_neg e,if_neg (fun h=>e h.symm)]
theorem afz(n:Nat)(g0:SG):∀(dd:List Dd) (l:List CY) (i:Nat),l.length=n->
  match TL n l dd with
  |some l'=>Io n (He n g0 l) i dd=.inr (He n g0 l')/\l'.length=n |none=>∃q,Io n (He n g0 l) i dd=.inl q
 |[],l,i,hl=>⟨rfl,hl⟩ |d::dd,l,i,hl=>by
  unfold TL Io;by_cases h0:d.ret=0
  ·rw[if_pos h0,if_pos h0]
   exact afz n g0 dd l (i+1) hl
  ·rw[if_neg h0,if_neg h0]
   have hok:Uu n (He n g0 l) d.obj d.op d.key d.val=YA n (II l) d.obj d.op d.key d.val:=acC (aqN l) _ _ _ _;rw[hok];by_cases h1:YA n (II l) d.obj d.op d.key d.val=aC
   ·rw[if_pos h1,if_pos h1]
    obtain ⟨hi,_⟩:=ahR h1;have hi':0<=d.obj/\d.obj<n:=of_decide_eq_true hi;have hs:Et n (He n g0 l) d.obj.toNat=II l d.obj.toNat:=aqN l _ (by omega);have hr:ahg n (He n g0 l) d.obj d.op d.key d.val=(ER (II l d.obj.toNat) d.op d.key d.val).2.1:=by unfold ahg;rw[hs]
    have hgt:ahh n (He n g0 l) d.obj d.op d.key d.val=(ER (II l d.obj.toNat) d.op d.key d.val).2.2:=by unfold ahh;rw[hs]
    have hn:abQ n (He n g0 l) d.obj d.op d.key d.val=He n g0 (l.set d.obj.toNat (ER (II l d.obj.toNat) d.op d.key d.val).1):=by
     funext j;show (if JY n d.obj=aC/\j=d.obj.toNat then Dp (ER (Et n (He n g0 l) d.obj.toNat) d.op d.key d.val).1 else He n g0 l j)=if j<n then Dp (II (l.set d.obj.toNat _) j) else g0 j;rw[hs,amB _ _ _ (by omega)];by_cases e:j=d.obj.toNat
     ·rw[if_pos ⟨hi,e⟩,if_pos (by omega),if_pos e]
     ·rw[if_neg (fun q=>e q.2),if_neg e];rfl
    rw[hr,hgt,hn];by_cases h2:(ER (II l d.obj.toNat) d.op d.key d.val).2.1=d.ret/\(ER (II l d.obj.toNat) d.op d.key d.val).2.2=d.got
    ·rw[if_pos h2,if_pos h2]
     exact afz n g0 dd _ (i+1) (by rw[List.length_set];exact hl)
    ·rw[if_neg h2,if_neg h2]
     exact ⟨_,rfl⟩
   ·rw[if_neg h1,if_neg h1]
    exact ⟨_,rfl⟩
end
section
variable{lv:Int}{n:Nat}{og:Nat->List Sh}{B:TA}
def QlP(lv:Int)(n:Nat)(og:Nat->List Sh)(B:TA)(nd:Nd (List CY)):Prop:=nd.st.length=n/\QnP lv n og B (DR (He n (FD og)) nd)
theorem ajZ(nd:Nd (List CY))(hl:nd.st.length=n)(i:Nat):
  (Gb (BD lv n og B)).run (He n (FD og) nd.st) i=((KR (BD lv n og B)).run nd.st i).map (He n (FD og))/\∀l',(KR (BD lv n og B)).run nd.st i=ak l'->l'.length=n:=by
 have h:=afz n (FD og) (lst Dd ((BD lv n og B).T i).k ((BD lv n og B).T i).g) nd.st 0 hl;show (if plO n (He n (FD og) nd.st) ((BD lv n og B).T i).k ((BD lv n og B).T i).g=aC then ak (Tq n (He n (FD og) nd.st) ((BD lv n og B).T i).k ((BD lv n og B).T i).g) else aK)=(TL n nd.st (lst Dd ((BD lv n og B).T i).k ((BD lv n og B).T i).g)).map (He n (FD og))/\∀l',TL n nd.st (lst Dd ((BD lv n og B).T i).k ((BD lv n og B).T i).g)=ak l'->l'.length=n;unfold plO Tq abT abU;cases hp:TL n nd.st (lst Dd ((BD lv n og B).T i).k ((BD lv n og B).T i).g) with
 |some l'=>
  rw[hp] at h;rw[h.1];exact ⟨rfl,fun l2 e=>by cases e;exact h.2⟩
 |none=>
  rw[hp] at h;obtain ⟨q,hq⟩:=h;rw[hq];exact ⟨rfl,fun l2 e=>by cases e⟩
theorem XE(P:TbP n og B):OB (Gb (BD lv n og B)) (KR (BD lv n og B)) (He n (FD og)) (QlP lv n og B) where
 n:=rfl
 id _ _:=rfl
 com _ _:=rfl
 Uw _ _:=rfl
 mask _ _:=rfl
 all:=rfl
 run nd hq i _ _:=(ajZ nd hq.1 i).1
 step nd hq t ht:=by
  have hG:=JG (lv:=lv) P;have hlen:t.st.length=n:=by
   unfold next turns at ht;obtain ⟨x,hx,rfl⟩:=dJ.1 ht;obtain ⟨i,hi,hx⟩:=iV.1 hx;unfold Fg at hx;split at hx
   ·rcases bI.1 hx with hx|hx
    ·split at hx
     ·rename_i s e1 e2
      obtain rfl:x=_:=by simpa using hx
      exact (ajZ (lv:=lv) (og:=og) (B:=B) nd hq.1 i).2 s e2
     ·cases hx
    ·split at hx
     ·obtain rfl:x=_:=by simpa using hx
      exact hq.1
     ·cases hx
   ·cases hx
  refine ⟨hlen,hG.step _ hq.2 _ ?_⟩;have key:OB (Gb (BD lv n og B)) (KR (BD lv n og B)) (He n (FD og)) (fun x=>x=nd/\x.st.length=n)\/True:=.inr trivial;unfold next turns at ht ⊢;obtain ⟨x,hx,rfl⟩:=dJ.1 ht;obtain ⟨i,hi,hx⟩:=iV.1 hx;refine dJ.2 ⟨(x.1,DR (He n (FD og)) x.2),iV.2 ⟨i,hi,?_⟩,rfl⟩;have hr:=(ajZ (lv:=lv) (og:=og) (B:=B) nd hq.1 i).1;unfold Fg at hx ⊢;have em:may (Gb (BD lv n og B)) (DR (He n (FD og)) nd).placed i=may (KR (BD lv n og B)) nd.placed i:=rfl;rw[em];have hr':(Gb (BD lv n og B)).run (DR (He n (FD og)) nd).st i=((KR (BD lv n og B)).run nd.st i).map (He n (FD og)):=hr;rw[hr'];split at hx
  ·rename_i hm
   rw[if_pos hm];rcases bI.1 hx with hx|hx
   ·refine kU _ ?_
    split at hx
    ·rename_i s e1 e2
     obtain rfl:x=_:=by simpa using hx
     rw[e2];have e1':(Gb (BD lv n og B)).com i=aC:=e1;rw[e1'];exact um.2 rfl
    ·cases hx
   ·refine iD _ ?_
    split at hx
    ·rename_i hc
     obtain rfl:x=_:=by simpa using hx
     have hc':(Gb (BD lv n og B)).Uw i=aC/\((Gb (BD lv n og B)).all=aC->(((KR (BD lv n og B)).run nd.st i).map (He n (FD og))).isSome=aC):=⟨hc.1,fun q=>by
      have:=hc.2 q;revert this;cases (KR (BD lv n og B)).run nd.st i<;>simp⟩
     rw[if_pos hc'];exact um.2 rfl
    ·cases hx
  ·cases hx
theorem amC{l l':List CY}(h1:l.length=n)(h2:l'.length=n)(h:∀j,j<n->II l j=II l' j):l=l':=by
 apply List.ext_getElem (by omega);intro j hj hj';have:=h j (by omega);unfold II at this;rw[aX,aX,aS hj,aS hj'] at this;exact this
theorem aj0:∀x y,QlP lv n og B x->QlP lv n og B y->(CS n (DR (He n (FD og)) x)=CS n (DR (He n (FD og)) y)↔Qg x=Qg y):=fun x y hx hy=>by
 constructor
 ·intro h
  have e:=KQ _ _ hx.2 hy.2 h;obtain ⟨p,l⟩:=x;obtain ⟨p',l'⟩:=y;have e1:p=p':=congrArg Nd.placed e;have e2:He n (FD og) l=He n (FD og) l':=congrArg Nd.st e;have e3:l=l':=amC hx.1 hy.1 fun j hj=>by
   have:=congrFun e2 j;rw[acP l j hj,acP l' j hj] at this;exact Ue this
  rw[e1,e3]
 ·intro h
  obtain ⟨p,l⟩:=x;obtain ⟨p',l'⟩:=y;have h:(p,l)=(p',l'):=h;cases h;rfl
def newL(n:Nat)(og:Nat->List Sh):List CY:=(aZ n).map fun j=>newT (Am og) j
theorem afA:He n (FD og) (newL n og)=FD og:=by
 funext j;unfold He;split
 ·rename_i hj
  unfold II newL;rw[aX,gB,tH hj];rfl
 ·rfl
theorem TM(P:TbP n og B):QlP lv n og B (fD (newL n og)):=⟨by show (newL n og).length=n;unfold newL;simp,by
 have h:=(JG (lv:=lv) P).start;have e:DR (He n (FD og)) (fD (newL n og))=⟨0,(BD lv n og B).g0⟩:=by
  show (⟨0,He n (FD og) (newL n og)⟩:Nd SG)=⟨0,FD og⟩;rw[afA]
 rw[e];exact h⟩
end
open Go Go.Sx Go.Proofs Go.Gm Go.Bf
def ex(k t th o p v r:Int):List Sh:=[.i .i64 k,.i .i64 t,.i .i64 th,.i .i64 o,.i .i64 p,.i .i64 0,.i .i64 v,.i .i64 r]
def Eu:Nat->List Sh:=Bh [[.i .i64 1,.i .i64 0]]
def exL:List (List Sh):=[ex 1 1 0 0 0 0 0,ex 1 2 1 0 0 0 0,ex 2 1 0 0 1 0 0,ex 3 1 0 0 0 0 3,ex 2 2 0 0 1 0 0,ex 3 2 0 0 0 0 3,ex 2 1 0 0 2 1 0,ex 3 1 0 0 0 0 1,ex 2 2 0 0 2 2 0,ex 3 2 0 0 0 0 1,ex 4 1 0 0 0 0 0,ex 5 1 0 0 0 0 0,ex 4 2 0 0 0 0 0]
def IU:Nat->List Sh:=Bh exL
def Z7:Nat->List Sh:=Ai.snoc IU 13 (Bh [ex 5 2 0 0 0 0 0])
section
variable{n m:Nat}{g h:Nat->List Sh}{lv:Int}
theorem aj1(P:Pn n g m h)(hb:(Ed (hsS n g m h) lv).okb=aC)(mo:Int):
  rsP (hsS n g m h) lv mo=(Dv (KR (Ed (hsS n g m h) lv)) Qg (newL n g) mo.toNat).map (oU (DR (He n (FD g))))/\
  ∀r,Dv (KR (Ed (hsS n g m h) lv)) Qg (newL n g) mo.toNat=ak r->N8 (hsS n g m h) lv mo=Kt (KR (Ed (hsS n g m h) lv)) Qg (newL n g) r/\rtL (hsS n g m h) lv mo=(Ir (KR (Ed (hsS n g m h) lv)) Qg (newL n g) r).map Em/\RF (hsS n g m h) lv mo=((r.length:Nat):Int):=by
 have hT:((Bl n g m h).okb&&decide ((Bl n g m h).n<=12))=aC:=hb;rw[aI,decide_eq_true_eq] at hT;have T:=YK P hT.1 hT.2;have hp:=ajX (key:=CS n) (key':=Qg) (aj0 (lv:=lv)) (XE T) (TM T) mo.toNat;rw[afA] at hp;have e1:rsP (hsS n g m h) lv mo=(Dv (KR (Ed (hsS n g m h) lv)) Qg (newL n g) mo.toNat).map (oU (DR (He n (FD g)))):=hp;refine ⟨e1,fun r hr=>?_⟩;have hr':Dv (KR (BD lv n g (Bl n g m h))) Qg (newL n g) mo.toNat=ak r:=hr;have hq:∀x∈r,QlP lv n g (Bl n g m h) x:=NT (XE T).step hr' (fun x hx=>by
  obtain rfl:x=fD (newL n g):=by simpa using hx
  exact TM T)
 have eL:rsL (hsS n g m h) lv mo=r.map (DR (He n (FD g))):=by unfold rsL;rw[e1,hr];rfl
 have hy:=ah4 (key:=CS n) (key':=Qg) (aj0 (lv:=lv)) (XE T) hq (TM T);have hs:=ajY (key:=CS n) (key':=Qg) (aj0 (lv:=lv)) (XE T) hq (TM T);rw[afA] at hy hs;refine ⟨?_,?_,?_⟩
 ·unfold N8;rw[eL];exact hy
 ·unfold rtL;rw[eL];exact congrArg (oU Em) hs
 ·unfold RF;rw[eL,dP]
end
theorem exH:Pn 1 Eu 13 IU:=⟨by kernel_rfl,by kernel_rfl,by kernel_rfl,by kernel_rfl⟩
theorem aqP:Pn 1 Eu 14 Z7:=⟨by kernel_rfl,by kernel_rfl,by kernel_rfl,by kernel_rfl⟩
theorem YQ:(Ed (hsS 1 Eu 13 IU) 1).okb=aC:=by kernel_rfl
theorem ali:(Ed (hsS 1 Eu 14 Z7) 1).okb=aC:=by kernel_rfl
theorem axr:(match Dv (KR (Ed (hsS 1 Eu 13 IU) 1)) Qg (newL 1 Eu) 100 with
  |some r=>r.length==5&&(Kt (KR (Ed (hsS 1 Eu 13 IU) 1)) Qg (newL 1 Eu) r&&decide (Ir (KR (Ed (hsS 1 Eu 13 IU) 1)) Qg (newL 1 Eu) r=[(1,aC),(2,ay)])) |none=>ay)=aC:=by kernel_rfl
theorem axt:(Dv (KR (Ed (hsS 1 Eu 13 IU) 1)) Qg (newL 1 Eu) 4).isNone=aC:=by kernel_rfl
theorem axu:(match Dv (KR (Ed (hsS 1 Eu 14 Z7) 1)) Qg (newL 1 Eu) 100 with
  |some r=>r.length==3 && !Kt (KR (Ed (hsS 1 Eu 14 Z7) 1)) Qg (newL 1 Eu) r |none=>ay)=aC:=by kernel_rfl
theorem axv:((turns (KR (Ed (hsS 1 Eu 13 IU) 1)) (fD (newL 1 Eu))).map (·.1))=[(1,aC),(2,aC),(2,ay)]:=by kernel_rfl
end Go.Pl
namespace Go.Sx
def Tree.way{α:Type}:Tree α->List BK->Option (List BK×α)
 | .leaf a,l=>ak (l,a) | .node b t f,l=>bif b then t.way l else f.way l | .need b t,l=>bif b then t.way l else aK | .must q t,l=>t.way (q++l) | .both _ _,_=>aK | .fail,_=>aK
theorem BK.all_append:∀{l m:List BK},dI (l++m)->dI l/\dI m
 |[],_,h=>⟨trivial,h⟩ |_::_,_,h=>let ⟨h1,h2⟩:=BK.all_append h.2;⟨⟨h.1,h1⟩,h2⟩
theorem Tree.OC{α:Type}{φ:α->Prop}:∀{t:Tree α} {l q:List BK} {a:α},t.way l=ak (q,a)->dI q->φ a->t.All φ/\dI l
 | .leaf _,_,_,_,h,hq,ha=>by cases h;exact ⟨ha,hq⟩ | .node b t f,l,q,a,h,hq,ha=>by
  cases b with
  |true=>exact ⟨⟨fun _=>(Tree.OC (t:=t) h hq ha).1,fun e=>by cases e⟩,(Tree.OC (t:=t) h hq ha).2⟩ |false=>exact ⟨⟨fun e=>(by cases e),fun _=>(Tree.OC (t:=f) h hq ha).1⟩,(Tree.OC (t:=f) h hq ha).2⟩
 | .need b t,l,q,a,h,hq,ha=>by
  cases b with
  |true=>exact ⟨⟨rfl,(Tree.OC (t:=t) h hq ha).1⟩,(Tree.OC (t:=t) h hq ha).2⟩ |false=>cases h
 | .must e t,l,q,a,h,hq,ha=>by
  have h1:=Tree.OC (t:=t) (φ:=φ) h hq ha;have h2:=BK.all_append h1.2;exact ⟨⟨h2.1,h1.1⟩,h2.2⟩
 | .both _ _,_,_,_,h,_,_=>by cases h | .fail,_,_,_,h,_,_=>by cases h
end Go.Sx
namespace Go.Pl
open Go Go.Sx
def Z8(α:Type)[yU α][DecidableEq α](n:Nat)(g:Nat->List Sh)(n0:Nat)(g0:Nat->List Sh):Bool:=oM α n g&&(fC n n0&&decide (pq α n g=pq α n0 g0))
def avA:List (List Sh):=[[.i .i64 1,.b aC],[.i .i64 2,.b ay]]
def avC:List (List Sh):=[[.i .i64 1,.b aC],[.i .i64 2,.b aC],[.i .i64 2,.b ay]]
end Go.Pl
namespace Go.Proofs
open Go Go.Sx Go.Pl
noncomputable def aqQ:List Sh->Tree Sh
 |[.agg [.sl 2 n o,.sl 8 m e],t,u]=>match BF t,BF u with
  |some lv,ak mo=>bif Z8 iP n o 1 Eu&&lv==1 then
    bif Z8 jv m e 13 IU then bif mo==100 then .leaf (.AQ [.agg [.b aC,.sl 2 2 (Bh avA),.i .i64 5],.v .nilIface])
     else bif mo==4 then .leaf (.AQ [.agg [.b ay,.sl 2 0 (fun _=>[]),.i .i64 0],.er 0 329]) else .fail
    else bif Z8 jv m e 14 Z7&&mo==100 then .leaf (.AQ [.agg [.b ay,.sl 2 0 (fun _=>[]),.i .i64 3],.v .nilIface]) else .fail
   else .fail
  |_,_=>.fail
 |_=>.fail
noncomputable def aqR:List Sh->Tree Sh
 |[.agg [.sl 2 n o,.sl 8 m e],t,v]=>match BF t,D9 2 v with
  |some lv,ak (k,_)=>bif Z8 iP n o 1 Eu&&(lv==1&&(Z8 jv m e 13 IU&&fC k 0)) then .leaf (.AQ [.sl 2 3 (Bh avC),.v .nilIface]) else .fail |_,_=>.fail
 |_=>.fail
noncomputable def XF:Nat->Option (List Sh->Tree Sh)
 |15=>ak aqQ |16=>ak aqR |19=>ak D19 |_=>aK
noncomputable def C11:Ctx:={C7 Ai W7 XF AP with lits:=aC}
theorem w11:Tree.way (Bj C11 BL 900 3000 11 [.code []] (Ap 94 [] L0) [] []) []=ak ([],ED.ret (Sh.b aC)):=by kernel_rfl
end Go.Proofs
namespace Go.Pl
open Go Go.Sx
theorem XG{α:Type}[yU α][DecidableEq α]{n n0:Nat}{g g0:Nat->List Sh}(h:Z8 α n g n0 g0=aC)(h0:oM α n0 g0=aC):n=n0/\∀j,j<n->g j=g0 j:=by
 unfold Z8 at h;rw[aI,aI,decide_eq_true_eq] at h;obtain ⟨h1,h2,h3⟩:=h;obtain rfl:=fK h2;refine ⟨rfl,fun j hj=>?_⟩;rw[wL h1 j hj,wL h0 j hj];have e:∀(f:Nat->List Sh),(pq α n f)[j]?=ak (Go.BR.Am f j):=fun f=>by
  unfold pq;rw[gB,tH hj];rfl
 have e1:=e g;rw[h3,e g0] at e1;rw[dH e1]
end Go.Pl
namespace Go.Proofs
open Go Go.Sx Go.Pl Go.Gm
theorem Um{H:Mem}{n m n0 m0:Nat}{o e o0 e0:Nat->List Sh}{v:Value}(h1:n=n0/\∀j,j<n->o j=o0 j)(h2:m=m0/\∀j,j<m->e j=e0 j)(hr:Rep H (.agg [.sl 2 n o,.sl 8 m e]) v):Rep H (hsS n0 o0 m0 e0) v:=by
 obtain ⟨rfl,h1⟩:=h1;obtain ⟨rfl,h2⟩:=h2;exact QS hr ⟨fun _ r=>EK r h1,fun _ r=>EK r h2,trivial⟩
theorem Un{P:Program}{gls:List (Nat×Sh)}{g:Nat}{F:List Sh->Tree Sh}(hF:AV P gls g F){H:Mem}{w:World}{Bv:List Sh}{args:List Value}{φ:Sh->Prop}(hon:H.on w)(hg:Dj gls H)(hr:DX H Bv args){s':Sh}(hφ:φ s')(h:(F Bv).All fun s=>Wk s s'):
  Calls P g args.toArray w fun e w'=>∃v s H',e=.returned v/\φ s/\Ew H w s v H' w':=by
 refine (hF H w Bv args _ hon hg hr h).mono fun e w' ⟨v,s,H',he,hs,r⟩=>?_;obtain ⟨H2,r2⟩:=r.wk hs;exact ⟨v,s',H2,he,hφ,r2⟩
theorem asn:J8 (hsS 1 Eu 13 IU) 1 100=aC/\N8 (hsS 1 Eu 13 IU) 1 100=aC/\rtL (hsS 1 Eu 13 IU) 1 100=[⟨1,aC⟩,⟨2,ay⟩]/\RF (hsS 1 Eu 13 IU) 1 100=5:=by
 have h:=aj1 exH YQ 100;have hr:=axr;split at hr
 ·rename_i r e
  obtain ⟨q1,q2,q3⟩:=h.2 r e;rw[aI,aI,beq_iff_eq,decide_eq_true_eq] at hr;refine ⟨?_,q1.trans hr.2.1,?_,?_⟩
  ·unfold J8
   have e':Dv (KR (Ed (hsS 1 Eu 13 IU) 1)) Qg (newL 1 Eu) (wM 100)=ak r:=e;rw[h.1,e'];rfl
  ·rw[q2,hr.2.2];rfl
  ·rw[q3,hr.1];rfl
 ·cases hr
theorem aqS:J8 (hsS 1 Eu 13 IU) 1 4=ay:=by
 have h:=aj1 exH YQ 4;have h4:=Option.isNone_iff_eq_none.1 axt;unfold J8;have e':Dv (KR (Ed (hsS 1 Eu 13 IU) 1)) Qg (newL 1 Eu) (wM 4)=aK:=h4;rw[h.1,e'];rfl
theorem aqT:J8 (hsS 1 Eu 14 Z7) 1 100=aC/\N8 (hsS 1 Eu 14 Z7) 1 100=ay/\RF (hsS 1 Eu 14 Z7) 1 100=3/\rtL (hsS 1 Eu 14 Z7) 1 100=[]:=by
 have h:=aj1 aqP ali 100;have hr:=axu;split at hr
 ·rename_i r e
  obtain ⟨q1,q2,q3⟩:=h.2 r e;rw[aI,beq_iff_eq,Bool.not_eq_true'] at hr;refine ⟨?_,q1.trans hr.2,?_,?_⟩
  ·unfold J8
   have e':Dv (KR (Ed (hsS 1 Eu 14 Z7) 1)) Qg (newL 1 Eu) (wM 100)=ak r:=e;rw[h.1,e'];rfl
  ·rw[q3,hr.1];rfl
  ·rw[q2]
   unfold Ir;rw[if_neg (by rw[hr.2];simp)];rfl
 ·cases hr
theorem avD(u:Nat->List Sh):nxL (hsS 1 Eu 13 IU) 1 0 u=[⟨1,aC⟩,⟨2,aC⟩,⟨2,ay⟩]/\(wkO (hsS 1 Eu 13 IU) 1 0 u).isSome=aC:=by
 refine ⟨?_,rfl⟩;have hT:((Bl 1 Eu 13 IU).okb&&decide ((Bl 1 Eu 13 IU).n<=12))=aC:=YQ;rw[aI,decide_eq_true_eq] at hT;have T:=YK exH hT.1 hT.2;have ht:=VQ (XE (lv:=1) T) (TM (lv:=1) T);have e:DR (He 1 (FD Eu)) (fD (newL 1 Eu))=⟨0,(Ed (hsS 1 Eu 13 IU) 1).g0⟩:=by
  show (⟨0,He 1 (FD Eu) (newL 1 Eu)⟩:Nd SG)=⟨0,FD Eu⟩;rw[afA]
 rw[e] at ht;show ((turns (Gb (Ed (hsS 1 Eu 13 IU) 1)) ⟨0,(Ed (hsS 1 Eu 13 IU) 1).g0⟩).map fun t=>Em t.1)=_;have ht':turns (Gb (Ed (hsS 1 Eu 13 IU) 1)) ⟨0,(Ed (hsS 1 Eu 13 IU) 1).g0⟩=(turns (KR (Ed (hsS 1 Eu 13 IU) 1)) (fD (newL 1 Eu))).map fun t=>(t.1,DR (He 1 (FD Eu)) t.2):=ht;rw[ht',qm];have en:=axv;have e2:((turns (KR (Ed (hsS 1 Eu 13 IU) 1)) (fD (newL 1 Eu))).map ((fun t:(Int×Bool)×Nd SG=>Em t.1) ∘ fun t=>(t.1,DR (He 1 (FD Eu)) t.2)))=((turns (KR (Ed (hsS 1 Eu 13 IU) 1)) (fD (newL 1 Eu))).map (·.1)).map Em:=by
  rw[qm];rfl
 rw[e2,en];rfl
theorem alj:YL 100=aC:=by kernel_rfl
theorem axw:YL 4=aC:=by kernel_rfl
theorem axx:AV aA (Bq W7) 15 aqQ:=by
 intro H w Bv args φ hon hgl hr hφ;unfold aqQ at hφ;split at hφ
 ·rename_i n o m e t u
  split at hφ
  ·rename_i lv mo e1 e2
   cases c1:(Z8 iP n o 1 Eu&&lv==1)<;>simp only[c1,cond_true,cond_false] at hφ
   ·exact hφ.elim
   rw[aI,beq_iff_eq] at c1;obtain ⟨c1,rfl⟩:=c1;have k1:=XG c1 exH.o;match args,hr with
   |[a0,a1,a2],⟨r0,r1,r2,_⟩=>
   have s2 {k:Nat} {f f':Nat->List Sh} (h:∀j,j<k->f j=f' j):Wk (.sl 2 k f) (.sl 2 k f'):=.inr ⟨rfl,rfl,h⟩;cases c2:Z8 jv m e 13 IU<;>simp only[c2,cond_true,cond_false] at hφ
   ·cases c3:(Z8 jv m e 14 Z7&&mo==100)<;>simp only[c3,cond_true,cond_false] at hφ
    ·exact hφ.elim
    rw[aI,beq_iff_eq] at c3;obtain ⟨c3,rfl⟩:=c3;have k2:=XG c3 aqP.p;refine Un ala hon hgl (Bv:=[hsS 1 Eu 14 Z7,t,u]) ⟨Um k1 k2 r0,r1,r2,trivial⟩ hφ ?_;unfold ahW;simp only[e1,e2];obtain ⟨b1,b2,b3,b4⟩:=aqT;refine ⟨acN aqP (by decide) alj ali,fun _=>?_,fun c=>(by rw[b1] at c;cases c)⟩;refine ⟨⟨.inl (by rw[b2]),?_,by rw[b3];rfl,trivial⟩,rfl,trivial⟩;unfold rtN rtR;rw[b4];exact .inl ⟨rfl,rfl⟩
   ·have k2:=XG c2 exH.p
    cases c3:(mo==100)<;>simp only[c3,cond_true,cond_false] at hφ
    ·cases c4:(mo==4)<;>simp only[c4,cond_true,cond_false] at hφ
     ·exact hφ.elim
     rw[beq_iff_eq] at c4;subst c4;refine Un ala hon hgl (Bv:=[hsS 1 Eu 13 IU,t,u]) ⟨Um k1 k2 r0,r1,r2,trivial⟩ hφ ?_;unfold ahW;simp only[e1,e2];refine ⟨acN exH (by decide) axw YQ,fun c=>(by rw[aqS] at c;cases c),fun _=>?_⟩;exact ⟨⟨.inl rfl,.inl ⟨rfl,rfl⟩,rfl,trivial⟩,rfl,trivial⟩
    ·rw[beq_iff_eq] at c3
     subst c3;refine Un ala hon hgl (Bv:=[hsS 1 Eu 13 IU,t,u]) ⟨Um k1 k2 r0,r1,r2,trivial⟩ hφ ?_;unfold ahW;simp only[e1,e2];obtain ⟨b1,b2,b3,b4⟩:=asn;refine ⟨acN exH (by decide) alj YQ,fun _=>?_,fun c=>(by rw[b1] at c;cases c)⟩;refine ⟨⟨.inl (by rw[b2]),?_,by rw[b4];rfl,trivial⟩,rfl,trivial⟩;unfold rtN rtR;rw[b3];refine .inr ⟨rfl,rfl,fun j hj=>?_⟩;have hj:j<2:=hj;match j,hj with
     |0,_=>rfl |1,_=>rfl
  ·exact hφ.elim
 ·exact hφ.elim
theorem axy:AV aA (Bq W7) 16 aqR:=by
 intro H w Bv args φ hon hgl hr hφ;unfold aqR at hφ;split at hφ
 ·rename_i n o m e t v
  split at hφ
  ·rename_i lv k u e1 e2
   cases c1:(Z8 iP n o 1 Eu&&(lv==1&&(Z8 jv m e 13 IU&&fC k 0)))<;>simp only[c1,cond_true,cond_false] at hφ
   ·exact hφ.elim
   rw[aI,aI,aI,beq_iff_eq] at c1;obtain ⟨c1,rfl,c2,c3⟩:=c1;obtain rfl:=fK c3;have k1:=XG c1 exH.o;have k2:=XG c2 exH.p;match args,hr with
   |[a0,a1,a2],⟨r0,r1,r2,_⟩=>
   refine Un axi hon hgl (Bv:=[hsS 1 Eu 13 IU,t,v]) ⟨Um k1 k2 r0,r1,r2,trivial⟩ hφ ?_;unfold aqC;simp only[e1,e2];obtain ⟨b1,b2⟩:=avD u;refine ⟨?_,?_,rfl,trivial⟩
   ·unfold naB
    rw[ajT exH (by decide),YQ,b2];rfl
   ·unfold nxN nxR
    rw[b1];refine .inr ⟨rfl,rfl,fun j hj=>?_⟩;have hj:j<3:=hj;match j,hj with
    |0,_=>rfl |1,_=>rfl |2,_=>rfl
  ·exact hφ.elim
 ·exact hφ.elim
theorem avE{P:Program}{C:Ctx}{K:Kx}{ts:List N9}{R:Hp->Prop}{φ:Sh->Prop}{t:Tree ED}{q:List BK}{s:Sh}(h:t.way []=ak (q,.ret s))(hq:dI q)(hs:φ s):Df (Jo P C K ts R φ) t:=by
 rw[QO];exact (Tree.OC h hq hs).1
theorem aqU:BG aA C11:=by
 have h:=C7.ok XF AP;exact ⟨h.1,h.2,h.3,h.4,h.5,h.6,h.7⟩
theorem axz:BP aA C11:=by
 have h:=C7.Vo (stop:=AP) (spec:=XF) (fun g F h=>by
  unfold XF at h;split at h
  ·cases h;exact axx
  ·cases h;exact axy
  ·cases h;exact avp
  ·cases h) fun g h=>by
  unfold XF at h;split at h;all_goals first|(cases h;done) |kernel_rfl
 exact ⟨h.1,h.2,h.3,h.4⟩
theorem O11:AV aA (Bq W7) 11 W11:=by
 refine FT (C:=C11) aqU (fn:=Tryz.f11) (by kernel_rfl) (by kernel_rfl) fun H w Bv args φ hrep h=>?_
 have hn:Tryz.f11.ntmps=94:=by kernel_rfl
 unfold W11 at h;split at h
 ·refine ⟨[],hrep,L0,?_⟩
  refine Fh aqU axz (hold:=BL) (m:=900) (n:=3000) (ts:=[]) ?_;rw[hn];have hφ:φ (.v (.bool aC)):=h;exact avE w11 trivial (BX (s':=.v (.bool aC)) (.inr rfl) hφ)
 ·exact h.elim
end Go.Proofs
namespace Go.Sx
open Go.RowKit Go.ChangeShapes Go.WideShapes Go.Deep
def EH(w:World):Mem:=fun b=>w.heap[b]?
theorem amD(w:World):(EH w).on w:=fun _ _ h=>h
theorem XH{w:World}{a:Addr}{v:Value}(h:w.cell? a=ak v):hcell (EH w) a.block a.off=ak v/\a.spot=aK:=by
 unfold World.cell? at h;unfold hcell EH;split at h
 ·rename_i c t f hb
  rw[hb];cases hs:a.spot with
  |none=>simp only[hs,Option.isSome_none,Bool.false_eq_true,if_false] at h;exact ⟨h,rfl⟩ |some x=>simp[hs] at h
 ·cases h
section
variable{H:Type}{enc:TypeId×Value->H}{P:Program}{w:World}{base:Nat}{spare:Nat->Bool}{held:Bool}
def aqV(P:Program)(fs:Array Field)(k:Nat):Bool:=
 fs.size==k&&(aZ k).all fun i=>match fs[i]? with
  |some f=>f.offset==i&&(match P.underlying f.type with|some (.int .i64)=>aC|_=>ay)&&P.cellsOf f.type==1
  |none=>ay
def rowB(P:Program)(e k:Nat):Bool:=
 match P.underlying e with
 |some (.int .i64)=>k==1&&P.cellsOf e==1 |some (.struct fs)=>aqV P fs k&&P.cellsOf e==k |_=>ay
def int64(n:Int):Prop:=(Lit.int .i64 n).wf=aC
theorem ah5{e k fuel:Nat}{cs:List Value}{x:DataW H×List MemPlace}(hr:rowB P e k=aC)(h:zA enc P w base spare held fuel e cs=ak x):
  ∃ns:List Int,ns.length=k/\cs=ns.map (iW .i64)/\∀n∈ns,int64 n:=by
 unfold rowB at hr;split at hr
 ·rename_i hu
  simp only[aI,beq_iff_eq] at hr;obtain ⟨n,rfl,_,hw⟩:=pY hu h;exact ⟨[n],hr.1.symm,rfl,fun m hm=>by simp at hm;subst hm;exact hw⟩
 ·rename_i fs hu
  simp only[aI,beq_iff_eq] at hr;obtain ⟨hf,hc⟩:=hr;unfold aqV at hf;simp only[aI,beq_iff_eq] at hf;obtain ⟨hk,hf⟩:=hf;obtain ⟨xs,m,_,_,hlen,hxs,hel⟩:=uo hu h;rw[hc] at hlen;have cell:∀i,i<k->∃n,cs[i]?=ak (.int .i64 n)/\int64 n:=fun i hi=>by
   have q:=dF.1 hf i (dh.2 hi);split at q
   ·rename_i f hfi
    simp only[aI,beq_iff_eq] at q;obtain ⟨⟨ho,ht⟩,h1⟩:=q;have ht:P.underlying f.type=ak (.int .i64):=by
     split at ht
     ·assumption
     ·cases ht
    have q2:=hel i f hfi;rw[ho,h1] at q2;have hxi:i<xs.length:=by rw[hxs,hk];exact hi
    rw[aS hxi] at q2;obtain ⟨n,e1,_,e3⟩:=pY ht q2;refine ⟨n,?_,e3⟩;have:(vO 1 (vP i cs))[0]?=ak (.int .i64 n):=by rw[e1];rfl
    simpa using this
   ·cases q
  clear hel h hf;have:∀(j:Nat) (l:List Value),l.length=j->(∀i,i<j->∃n,l[i]?=ak (.int .i64 n)/\int64 n)->∃ns:List Int,ns.length=j/\l=ns.map (iW .i64)/\∀n∈ns,int64 n:=by
   intro j;induction j with
   |zero=>intro l hl _;exact ⟨[],rfl,by simpa using hl,fun _ h=>by simp at h⟩ |succ j ih=>
    intro l hl hc;match l,hl with
    |v::l,hl=>
     obtain ⟨ns,h1,h2,h3⟩:=ih l (by simpa using hl) fun i hi=>by simpa using hc (i+1) (by omega)
     obtain ⟨n,q1,q2⟩:=hc 0 (by omega);simp at q1;subst q1;exact ⟨n::ns,by simp[h1],by simp[h2],fun m hm=>by
      rcases List.mem_cons.1 hm with rfl|hm
      ·exact q2
      ·exact h3 m hm⟩
  exact this k cs hlen cell
 ·cases hr
def Hz(ns:List Int):List Sh:=ns.map (Sh.i .i64)
theorem aj2{w:World}{base:Nat}{a:Addr}{n:Nat}{cs:List Value}(h:w.cells? base a n=ak cs):cs.length=n/\∀j,j<n->w.cell? (a.add j)=cs[j]?:=by
 unfold World.cells? at h;split at h
 ·have:∀(l:List Nat) (cs:List Value),l.mapM (fun i=>w.cell? (a.add i))=ak cs->cs.length=l.length/\∀(j:Nat) (i:Nat),l[j]?=ak i->w.cell? (a.add i)=cs[j]?:=by
   intro l;induction l with
   |nil=>intro cs h;simp at h;subst h;exact ⟨rfl,fun j i e=>by simp at e⟩ |cons x l ih=>
    intro cs h;rw[List.mapM_cons] at h;simp only[Option.bind_eq_bind,Option.bind_eq_some_iff,Option.pure_def] at h;obtain ⟨v,h1,vs,h2,h3⟩:=h;cases h3;obtain ⟨e1,e2⟩:=ih vs h2;refine ⟨by simp[e1],fun j i e=>?_⟩;match j,e with
    |0,e=>simp at e;subst e;simpa using h1 |j+1,e=>simpa using e2 j i (by simpa using e)
  obtain ⟨e1,e2⟩:=this _ _ h;rw[List.length_range] at e1;exact ⟨e1,fun j hj=>e2 j j (by simp[hj])⟩
 ·cases h
theorem ah6(a:Addr)(n:Nat):(a.add n).off=a.off+n/\(a.add n).block=a.block:=by
 unfold nD;split
 ·subst_vars;exact ⟨rfl,rfl⟩
 ·exact ⟨rfl,rfl⟩
theorem add_add'(a:Addr)(i j:Nat):(a.add i).add j=a.add (i+j):=by
 unfold nD;by_cases hi:i=0<;>by_cases hj:j=0<;>simp[hi,hj,kC]
theorem acQ{t e k fuel:Nat}{cs:List Value}{x:DataW H×List MemPlace}(ht:P.underlying t=ak (.slice e))(hr:rowB P e k=aC)(hk:P.cellsOf e=k)(h0:0<k)
  (h:zA enc P w base spare held fuel t cs=ak x) :
  ∃v n g,cs=[v]/\Rep (EH w) (.sl k n g) v/\∀i,i<n->∃ns:List Int,ns.length=k/\g i=Hz ns/\∀n∈ns,int64 n:=by
 rcases open_slice ht h with ⟨rfl,_⟩ |⟨a,len,cap,m,n,D,Pl,rfl,hb,hl,hcap,hm,_,hel⟩
 ·exact ⟨_,0,fun _=>[],rfl,.sl0 _ _ _ _ (Nat.zero_le _),fun i hi=>by omega⟩
 have hlm:len<=m:=by rw[hm];split<;>omega
 rw[hk] at hel;have row:∀i,i<len->∃ns:List Int,ns.length=k/\w.cells? base (a.add (i*k)) k=ak (ns.map (iW .i64))/\∀n∈ns,int64 n:=fun i hi=>by
  obtain ⟨cs',h1,h2⟩:=hel i (by omega);obtain ⟨ns,e1,rfl,e3⟩:=ah5 hr h2;exact ⟨ns,e1,h1,e3⟩
 by_cases hz:len=0
 ·subst hz
  exact ⟨_,0,fun _=>[],rfl,.sl0 _ _ _ _ hcap,fun i hi=>by omega⟩
 let N:Nat->List Int:=fun i=>if h:i<len then (row i h).choose else []
 have hN:∀i,i<len->(N i).length=k/\w.cells? base (a.add (i*k)) k=ak ((N i).map (iW .i64))/\∀n∈N i,int64 n:=fun i hi=>by
  simp only[N,dif_pos hi];exact (row i hi).choose_spec
 have cell:∀i j,i<len->j<k->w.cell? (a.add (i*k+j))=((N i).map (iW .i64))[j]?:=fun i j hi hj=>by
  have:=(aj2 (hN i hi).2.1).2 j hj;rwa[add_add'] at this
 have hspot:a.spot=aK:=by
  have h1:=cell 0 0 (by omega) h0;have:∃v,w.cell? a=ak v:=by
   have hl0:=(hN 0 (by omega)).1;match hq:N 0 with
   |[]=>rw[hq] at hl0;simp at hl0;omega |x::r=>
    rw[hq] at h1;simp[nD] at h1;exact ⟨_,h1⟩
  obtain ⟨v,hv⟩:=this;exact (XH hv).2
 obtain ⟨blk,off,spot⟩:=a;simp only at hspot;subst hspot;refine ⟨_,len,fun i=>Hz (N i),rfl,.sl _ _ _ blk off cap (fun i j=>((N i).map (iW .i64)).getD j .nilFunc) hl hcap (fun i hi=>by simp[Hz,(hN i hi).1]) (fun i j hi hj=>?_) (fun i j hi hj=>?_) (fun i j s hi e=>?_),fun i hi=>⟨N i,(hN i hi).1,rfl,(hN i hi).2.2⟩⟩
 ·have h1:=cell i j hi hj
  have hlt:j<((N i).map (iW .i64)).length:=by simpa[(hN i hi).1] using hj
  rw[aS hlt] at h1;have h2:=(XH h1).1;rw[(ah6 _ _).1,(ah6 _ _).2] at h2;simp only[kC] at h2 ⊢;rw[h2,aX,aS hlt];rfl
 ·have hlt:j<(N i).length:=by rw[(hN i hi).1];exact hj
  simp[aX,hlt];rfl
 ·simp only[Hz,gB,bW] at e
  obtain ⟨n,h3,rfl⟩:=e;simp[aX,h3];exact .i _ _
def aqW(P:Program)(t:Nat)(k0 k1:Nat):Bool:=
 match P.underlying t with
 |some (.struct fs)=>fs.size==2&&P.cellsOf t==2&&(match fs[0]?,fs[1]? with
  |some f0,ak f1=>f0.offset==0&&f1.offset==1&&P.cellsOf f0.type==1&&P.cellsOf f1.type==1&&(match P.underlying f0.type,P.underlying f1.type with
   |some (.slice e0),ak (.slice e1)=>rowB P e0 k0&&P.cellsOf e0==k0&&rowB P e1 k1&&P.cellsOf e1==k1 |_,_=>ay)
  |_,_=>ay)
 |_=>ay
theorem amE{t k0 k1:Nat}{v:Value}{d:DataW H}{ps:List MemPlace}(hp:aqW P t k0 k1=aC)(h00:0<k0)(h01:0<k1){b0:Nat}(hval:lX P w .any b0 t v)(hd:DataW.Trod enc P w base spare held t v d ps):
  ∃n0 g0 n1 g1,Rep (EH w) (.agg [.sl k0 n0 g0,.sl k1 n1 g1]) v/\(∀i,i<n0->∃ns:List Int,ns.length=k0/\g0 i=Hz ns/\∀n∈ns,int64 n)/\∀i,i<n1->∃ns:List Int,ns.length=k1/\g1 i=Hz ns/\∀n∈ns,int64 n:=by
 unfold aqW at hp;split at hp
 ·rename_i fs hu
  unfold lX at hval;rw[hu] at hval;obtain ⟨cs,rfl,hsz,_⟩:=hval;simp only[aI,beq_iff_eq] at hp;obtain ⟨⟨h2,hc⟩,hp⟩:=hp;split at hp
  ·rename_i f0 f1 hf0 hf1
   simp only[aI,beq_iff_eq] at hp;obtain ⟨⟨⟨⟨o0,o1⟩,c0⟩,c1⟩,hp⟩:=hp;split at hp
   ·rename_i e0 e1 hs0 hs1
    simp only[aI,beq_iff_eq] at hp;obtain ⟨⟨⟨r0,q0⟩,r1⟩,q1⟩:=hp;obtain ⟨fuel,hd⟩:=hd;obtain ⟨xs,m,_,_,hlen,hxs,hel⟩:=uo hu hd;have a0:=hel 0 f0 hf0;have a1:=hel 1 f1 hf1;rw[o0,c0,aS (by rw[hxs,h2];decide)] at a0;rw[o1,c1,aS (by rw[hxs,h2];decide)] at a1;obtain ⟨v0,n0,g0,x0,y0,z0⟩:=acQ hs0 r0 q0 h00 a0;obtain ⟨v1,n1,g1,x1,y1,z1⟩:=acQ hs1 r1 q1 h01 a1;rw[hc] at hsz;obtain ⟨l⟩:=cs;match l,hsz with
    |[u0,u1],_=>
     simp[Value.cells] at x0 x1;subst x0 x1;refine ⟨n0,g0,n1,g1,.agg _ _ rfl fun j s v e1 e2=>?_,z0,z1⟩;match j,e1,e2 with
     |0,e1,e2=>simp at e1 e2;subst e1 e2;exact y0 |1,e1,e2=>simp at e1 e2;subst e1 e2;exact y1 |j+2,e1,_=>simp at e1
   ·cases hp
  ·cases hp
 ·cases hp
end
open Go.RowKit Go.ChangeShapes Go.WideShapes Go.Deep
theorem Uo{P:Program}{W:World}{n:String}{g:Nat}{cs:Array Value}(hg:P.globalNamed n=ak g)(h:W.var? P n=ak cs):∃e f,W.heap[g]?=ak (.cells cs e f):=by
 unfold World.var? at h;rw[hg] at h;simp only[Option.bind_some] at h;split at h
 ·rename_i c e f hb
  cases h;exact ⟨_,_,hb⟩
 ·cases h
theorem aqX{P:Program}{n nm:String}{text:List UInt8}{r:List (String×DataW Unit)}{W:World}{g:Nat}{ti tp te ts:TypeId}{ms:Array (String×TypeId)}{f:Field}
  (h:laidMet P ((n,.iface nm (.ptr (.agg [.lit (.string text)])))::r) W)
  (hg:P.globalNamed n=ak g) (ht:(P.globals[g]?).map (·.type)=ak ti) (hi:P.underlying ti=ak (.interface ms)) (hrow:∀u,P.typeName? 3 u=ak nm->u=tp)
  (hp:P.underlying tp=ak (.pointer te)) (he:P.underlying te=ak (.struct #[f])) (hft:f.type=ts) (hfo:f.offset=0) (hs:P.underlying ts=ak .string) (hc:P.cellsOf te=1) (hcs:P.cellsOf ts=1) :
  Gh (EH W) g (.er g tp):=by
 obtain ⟨ps,⟨g0,t0,cs0,f0,p0,q0,hg0,ht0,hv0,hd0,_,e0⟩,_,hrows⟩:=h;obtain rfl:=dH (hg.symm.trans hg0);obtain rfl:=dH (ht.symm.trans ht0);subst e0;obtain ⟨l0⟩:=cs0;have ok0:∀u v,l0=[.iface u v]->lX P W .any 0 u v:=fun u v e=>by
  subst e;exact (hrows g 0 (by simp[qp])).2 u v (by simpa using vS hg0 hv0 0)
 obtain ⟨a0,s0,rfl,hc0,hs0,hz0,rfl⟩:=errorString_of_trod hi hrow hp he hft hfo hs hc hcs hd0 ok0;obtain ⟨c0,t0,hb0⟩:=(hrows a0.block a0.off (by simp[qp])).1;obtain ⟨e,f,hh⟩:=Uo hg hv0;have h1:hcell (EH W) g 0=ak (.iface tp (.pointer (ak a0))):=by
  unfold hcell EH;rw[hh];rfl
 exact ⟨_,h1,.er g tp a0 c0 t0 h1 hb0,rfl⟩
theorem aj3{P:Program}{n:String}{texts:List (List UInt8)}{r:List (String×DataW Unit)}{W:World}{g:Nat}{t e:TypeId}{k:Nat}
  (h:laidMet P ((n,.agg (texts.map fun s=>.lit (.string s)))::r) W)
  (hg:P.globalNamed n=ak g) (ht:(P.globals[g]?).map (·.type)=ak t) (hu:P.underlying t=ak (.array k e)) (he:P.underlying e=ak .string) (hce:P.cellsOf e=1) (hct:P.cellsOf t=texts.length) :
  Gh (EH W) g (.AQ (texts.map Sh.str)):=by
 obtain ⟨ps,⟨g0,t0,cs0,f0,p0,q0,hg0,ht0,hv0,hd0,_,e0⟩,_,hrows⟩:=h;obtain rfl:=dH (hg.symm.trans hg0);obtain rfl:=dH (ht.symm.trans ht0);obtain ⟨e1,f1,hh⟩:=Uo hg hv0;obtain ⟨xs,m,_,hx,hlen,hxs,hel⟩:=uT hu hd0;have hxs':xs.map (·.1)=texts.map fun s=>.lit (.string s):=by
  have:=congrArg Prod.fst hx;simp at this;exact this.symm
 have hkt:k=texts.length:=by
  have:=congrArg zB hxs';simp at this;omega
 subst hkt;have cell:∀j (hj:j<texts.length),cs0[j]?=ak (.string ⟨texts[j].toArray⟩):=fun j hj=>by
  have q:=hel j hj;rw[hce,zF] at q;have hxj:j<xs.length:=by omega
  rw[aS hxj] at q;obtain ⟨s,q1,q2,_⟩:=DataW.trod_string he q;have q3:(xs.map (·.1))[j]?=ak (.lit (.string texts[j])):=by rw[hxs'];simp[hj]
  have q4:(xs[j]).1=.lit (.string texts[j]):=by
   rw[gB,aS hxj] at q3;simpa using q3
  rw[q2] at q4;simp at q4;have q5:(vO 1 (vP j cs0.toList))[0]?=ak (.string s):=by rw[q1];rfl
  have q6:cs0[j]?=ak (.string s):=by simpa using q5
  rw[q6];obtain ⟨⟨l⟩⟩:=s;have:l=texts[j]:=q4;subst this;rfl
 refine ⟨⟨cs0,e1,f1,hh,by rw[dP,<-hct,<-hlen];simp⟩,fun j=>.string ⟨(texts.getD j []).toArray⟩,fun j hj=>?_,fun j s hs=>?_⟩
 ·have hj':j<texts.length:=by simpa using hj
  refine ⟨?_,rfl⟩;unfold hcell EH;rw[hh];simp only[cell j hj',aX,aS hj',oD]
 ·rw[gB,bW] at hs
  obtain ⟨l,h1,rfl⟩:=hs;show Rep (EH W) (.str l) (.string ⟨(texts.getD j []).toArray⟩);rw[aX,h1];exact .str l
theorem aj6{P:Program}{n:String}{kd:IntKind}{texts:List Int}{r:List (String×DataW Unit)}{W:World}{g:Nat}{t e:TypeId}{k:Nat}
  (h:laidMet P ((n,.agg (texts.map fun s=>.lit (.int kd s)))::r) W)
  (hg:P.globalNamed n=ak g) (ht:(P.globals[g]?).map (·.type)=ak t) (hu:P.underlying t=ak (.array k e)) (he:P.underlying e=ak (.int kd)) (hce:P.cellsOf e=1) (hct:P.cellsOf t=texts.length) :
  Gh (EH W) g (.AQ (texts.map (Sh.i kd))):=by
 obtain ⟨ps,⟨g0,t0,cs0,f0,p0,q0,hg0,ht0,hv0,hd0,_,e0⟩,_,hrows⟩:=h;obtain rfl:=dH (hg.symm.trans hg0);obtain rfl:=dH (ht.symm.trans ht0);obtain ⟨e1,f1,hh⟩:=Uo hg hv0;obtain ⟨xs,m,_,hx,hlen,hxs,hel⟩:=uT hu hd0;have hxs':xs.map (·.1)=texts.map fun s=>.lit (.int kd s):=by
  have:=congrArg Prod.fst hx;simp at this;exact this.symm
 have hkt:k=texts.length:=by
  have:=congrArg zB hxs';simp at this;omega
 subst hkt;have cell:∀j (hj:j<texts.length),cs0[j]?=ak (.int kd texts[j]):=fun j hj=>by
  have q:=hel j hj;rw[hce,zF] at q;have hxj:j<xs.length:=by omega
  rw[aS hxj] at q;obtain ⟨s,q1,q2,_⟩:=pY he q;have q3:(xs.map (·.1))[j]?=ak (.lit (.int kd texts[j])):=by rw[hxs'];simp[hj]
  have q4:(xs[j]).1=.lit (.int kd texts[j]):=by
   rw[gB,aS hxj] at q3;simpa using q3
  rw[q2] at q4;simp at q4;have q5:(vO 1 (vP j cs0.toList))[0]?=ak (.int kd s):=by rw[q1];rfl
  have q6:cs0[j]?=ak (.int kd s):=by simpa using q5
  rw[q6];rw[q4]
 refine ⟨⟨cs0,e1,f1,hh,by rw[dP,<-hct,<-hlen];simp⟩,fun j=>.int kd (texts.getD j 0),fun j hj=>?_,fun j s hs=>?_⟩
 ·have hj':j<texts.length:=by simpa using hj
  refine ⟨?_,rfl⟩;unfold hcell EH;rw[hh];simp only[cell j hj',aX,aS hj',oD]
 ·rw[gB,bW] at hs
  obtain ⟨l,h1,rfl⟩:=hs;show Rep (EH W) (.i kd l) (.int kd (texts.getD j 0));rw[aX,h1];exact .i kd l
def aeu(H:Mem)(W:World)(g:Nat)(text:List UInt8):Prop:=∃a T s,hcell H g 0=ak (.iface T (.pointer (ak a)))/\W.cell? a=ak (.string s)/\s.data.toList=text
theorem aeu.ne{H:Mem}{W:World}{g g':Nat}{t t':List UInt8}(h:aeu H W g t)(h':aeu H W g' t')(hne:t≠t'):hcell H g 0≠hcell H g' 0:=by
 obtain ⟨a,T,s,h1,h2,h3⟩:=h;obtain ⟨a',T',s',q1,q2,q3⟩:=h';intro e;rw[h1,q1] at e;cases e;rw[h2] at q2;cases q2;exact hne (h3.symm.trans q3)
theorem aqY{P:Program}{n nm:String}{text:List UInt8}{r:List (String×DataW Unit)}{W:World}{g:Nat}{ti tp te ts:TypeId}{ms:Array (String×TypeId)}{f:Field}
  (h:laidMet P ((n,.iface nm (.ptr (.agg [.lit (.string text)])))::r) W)
  (hg:P.globalNamed n=ak g) (ht:(P.globals[g]?).map (·.type)=ak ti) (hi:P.underlying ti=ak (.interface ms)) (hrow:∀u,P.typeName? 3 u=ak nm->u=tp)
  (hp:P.underlying tp=ak (.pointer te)) (he:P.underlying te=ak (.struct #[f])) (hft:f.type=ts) (hfo:f.offset=0) (hs:P.underlying ts=ak .string) (hc:P.cellsOf te=1) (hcs:P.cellsOf ts=1) :
  aeu (EH W) W g text:=by
 obtain ⟨ps,⟨g0,t0,cs0,f0,p0,q0,hg0,ht0,hv0,hd0,_,e0⟩,_,hrows⟩:=h;obtain rfl:=dH (hg.symm.trans hg0);obtain rfl:=dH (ht.symm.trans ht0);subst e0;obtain ⟨l0⟩:=cs0;have ok0:∀u v,l0=[.iface u v]->lX P W .any 0 u v:=fun u v e=>by
  subst e;exact (hrows g 0 (by simp[qp])).2 u v (by simpa using vS hg0 hv0 0)
 obtain ⟨a0,s0,rfl,hc0,hs0,hz0,rfl⟩:=errorString_of_trod hi hrow hp he hft hfo hs hc hcs hd0 ok0;obtain ⟨e,f,hh⟩:=Uo hg hv0;have h1:hcell (EH W) g 0=ak (.iface tp (.pointer (ak a0))):=by
  unfold hcell EH;rw[hh];rfl
 exact ⟨a0,tp,s0,h1,hc0,hs0⟩
end Go.Sx
namespace Go.Proofs
open Go Go.Sx Go.RowKit Go.ChangeShapes
theorem aqZ : "*" ++ "errors.errorString" = "*errors.errorString" :=by decide
theorem as2(u:TypeId)(h:aA.typeName? 3 u=ak "*errors.errorString"):u=329:=
 typeName_ptr_named (nm:= "errors.errorString") (by rw[aqZ];kernel_rfl) (by kernel_rfl) (by decide) u (by rw[aqZ];exact h)
theorem Uz{n:String}{text:List UInt8}{r:List (String×DataW Unit)}{W:World}{g:Nat}(h:laidMet aA ((n,.iface "*errors.errorString" (.ptr (.agg [.lit (.string text)])))::r) W)
  (hg:aA.globalNamed n=ak g) (ht:(aA.globals[g]?).map (·.type)=ak 46):Gh (EH W) g (.er g 329)/\aeu (EH W) W g text:=
 ⟨aqX h hg ht uU as2 uq uw rfl rfl lZ (by kernel_rfl) (by kernel_rfl),aqY h hg ht uU as2 uq uw rfl rfl lZ (by kernel_rfl) (by kernel_rfl)⟩
theorem st7{n:String}{texts:List (List UInt8)}{r:List (String×DataW Unit)}{W:World}{g t k:Nat}(h:laidMet aA ((n,.agg (texts.map fun s=>.lit (.string s)))::r) W)
  (hg:aA.globalNamed n=ak g) (ht:(aA.globals[g]?).map (·.type)=ak t) (hu:aA.underlying t=ak (.array k 9)) (hct:aA.cellsOf t=texts.length):Gh (EH W) g (.AQ (texts.map Sh.str)):=
 aj3 h hg ht hu lZ (by kernel_rfl) hct
open YthehnhaoiijkhaaGreatDoor.Rows in
abbrev laid7:List (String×DataW Unit):=searchBudgetRow.laid
def ah7:List (Nat×List UInt8):=[(0,[116,104,101,32,115,101,97,114,99,104,32,104,97,115,32,115,101,101,110,32,116,111,111,32,109,117,99,104]),(1,[116,111,111,32,109,97,110,121,32,116,114,97,110,115,97,99,116,105,111,110,115,32,116,111,32,98,101,32,106,117,100,103,101,100]),(2,[110,111,32,108,101,118,101,108]),(3,[110,111,32,99,101,114,116,105,102,105,99,97,116,101]),(4,[116,104,101,114,101,32,105,115,32,110,111,110,101]),(5,[105,116,32,119,97,115,32,115,116,111,112,112,101,100]),(6,[116,111,111,32,109,97,110,121]),(7,[110,111,32,111,98,106,101,99,116]),(8,[110,111,32,111,112,101,114,97,116,105,111,110,32,111,102,32,116,104,97,116,32,111,98,106,101,99,116]),(9,[105,116,32,104,97,115,32,98,101,103,117,110,32,97,108,114,101,97,100,121]),(10,[116,104,101,32,116,104,114,101,97,100,32,105,115,32,98,117,115,121]),(11,[110,111,32,115,117,99,104,32,116,114,97,110,115,97,99,116,105,111,110]),(12,[105,116,32,100,111,101,115,32,110,111,116,32,99,111,109,101,32,104,101,114,101]),(13,[110,111,32,97,110,115,119,101,114,32,111,102,32,116,104,97,116,32,111,112,101,114,97,116,105,111,110]),(14,[110,111,32,115,117,99,104,32,99,111,100,101]),(15,[110,111,32,101,118,101,110,116])]
theorem UA(n:Nat){g:Nat}{t:List UInt8}(h:ah7[n]?=ak (g,t)):(g,t)∈ah7:=List.mem_of_getElem? h
theorem aj7:(ah7.all fun p=>ah7.all fun q=>p.1==q.1||p.2 != q.2)=aC:=by decide +kernel
theorem amG{W:World}(h:laidMetH aA laid7 W):Dj (Bq W7) (EH W):=by
 rw[MakeChecks.laidMetH_plain _ _ _ (by kernel_rfl)] at h;have z0:=h;have z1:=z0.tail;have z2:=z1.tail;have e23:Gh (EH W) 23 (.AQ (pow10.map (Sh.i .u64))):=aj6 (kd:=.u64) (texts:=pow10) z2 (by kernel_rfl) (by kernel_rfl) Tryz.underlying322 Tryz.underlying315 (by kernel_rfl) (by kernel_rfl);have z3:=z2.tail;have e6:=Uz (g:=6) z3 (by kernel_rfl) (by kernel_rfl);have z4:=z3.tail;have e14:=Uz (g:=14) z4 (by kernel_rfl) (by kernel_rfl);have z5:=z4.tail;have e7:=Uz (g:=7) z5 (by kernel_rfl) (by kernel_rfl);have z6:=z5.tail;have e15:=Uz (g:=15) z6 (by kernel_rfl) (by kernel_rfl);have z7:=z6.tail;have e8:=Uz (g:=8) z7 (by kernel_rfl) (by kernel_rfl);have z8:=z7.tail;have e13:=Uz (g:=13) z8 (by kernel_rfl) (by kernel_rfl);have z9:=z8.tail;have e11:=Uz (g:=11) z9 (by kernel_rfl) (by kernel_rfl);have z10:=z9.tail;have e9:=Uz (g:=9) z10 (by kernel_rfl) (by kernel_rfl);have z11:=z10.tail;have e10:=Uz (g:=10) z11 (by kernel_rfl) (by kernel_rfl);have z12:=z11.tail;have e12:=Uz (g:=12) z12 (by kernel_rfl) (by kernel_rfl);have z13:=z12.tail;have e2:=Uz (g:=2) z13 (by kernel_rfl) (by kernel_rfl);have z14:=z13.tail;have e1:=Uz (g:=1) z14 (by kernel_rfl) (by kernel_rfl);have z15:=z14.tail;have e0:=Uz (g:=0) z15 (by kernel_rfl) (by kernel_rfl);have z16:=z15.tail;have e3:=Uz (g:=3) z16 (by kernel_rfl) (by kernel_rfl);have z17:=z16.tail;have e4:=Uz (g:=4) z17 (by kernel_rfl) (by kernel_rfl);have z18:=z17.tail;have e5:=Uz (g:=5) z18 (by kernel_rfl) (by kernel_rfl);have z19:=z18.tail;have e16:Gh (EH W) 16 (.AQ (Xi W7 16 4)):=st7 (texts:=[W7 16 0,W7 16 1,W7 16 2,W7 16 3]) z19 (by kernel_rfl) (by kernel_rfl) nP (by kernel_rfl);have z20:=z19.tail;have e17:Gh (EH W) 17 (.AQ (Xi W7 17 7)):=st7 (texts:=[W7 17 0,W7 17 1,W7 17 2,W7 17 3,W7 17 4,W7 17 5,W7 17 6]) z20 (by kernel_rfl) (by kernel_rfl) Tryz.underlying301 (by kernel_rfl);have z21:=z20.tail;have e18:Gh (EH W) 18 (.AQ (Xi W7 18 9)):=st7 (texts:=[W7 18 0,W7 18 1,W7 18 2,W7 18 3,W7 18 4,W7 18 5,W7 18 6,W7 18 7,W7 18 8]) z21 (by kernel_rfl) (by kernel_rfl) Tryz.underlying302 (by kernel_rfl);have z22:=z21.tail;have e19:Gh (EH W) 19 (.AQ (Xi W7 19 3)):=st7 (texts:=[W7 19 0,W7 19 1,W7 19 2]) z22 (by kernel_rfl) (by kernel_rfl) Tryz.underlying303 (by kernel_rfl);have z23:=z22.tail;have e20:Gh (EH W) 20 (.AQ (Xi W7 20 4)):=st7 (texts:=[W7 20 0,W7 20 1,W7 20 2,W7 20 3]) z23 (by kernel_rfl) (by kernel_rfl) nP (by kernel_rfl);have z24:=z23.tail;have e21:Gh (EH W) 21 (.AQ (Xi W7 21 4)):=st7 (texts:=[W7 21 0,W7 21 1,W7 21 2,W7 21 3]) z24 (by kernel_rfl) (by kernel_rfl) nP (by kernel_rfl);have tx:∀g T,Ak (Bq W7) g=ak (.er g T)->∃t,(g,t)∈ah7/\aeu (EH W) W g t:=fun g T hg=>by
  match g,hg with
  |0,_=>exact ⟨_,UA 0 rfl,e0.2⟩ |1,_=>exact ⟨_,UA 1 rfl,e1.2⟩ |2,_=>exact ⟨_,UA 2 rfl,e2.2⟩ |3,_=>exact ⟨_,UA 3 rfl,e3.2⟩ |4,_=>exact ⟨_,UA 4 rfl,e4.2⟩ |5,_=>exact ⟨_,UA 5 rfl,e5.2⟩ |6,_=>exact ⟨_,UA 6 rfl,e6.2⟩ |7,_=>exact ⟨_,UA 7 rfl,e7.2⟩ |8,_=>exact ⟨_,UA 8 rfl,e8.2⟩ |9,_=>exact ⟨_,UA 9 rfl,e9.2⟩ |10,_=>exact ⟨_,UA 10 rfl,e10.2⟩ |11,_=>exact ⟨_,UA 11 rfl,e11.2⟩ |12,_=>exact ⟨_,UA 12 rfl,e12.2⟩ |13,_=>exact ⟨_,UA 13 rfl,e13.2⟩ |14,_=>exact ⟨_,UA 14 rfl,e14.2⟩ |15,_=>exact ⟨_,UA 15 rfl,e15.2⟩ |16,hg=>cases hg |17,hg=>cases hg |18,hg=>cases hg |19,hg=>cases hg |20,hg=>cases hg |21,hg=>cases hg |22,hg=>cases hg |23,hg=>cases hg |n+24,hg=>simp[Bq,Ak] at hg
 refine ⟨fun g s hg=>?_,fun g g' T T' h1 h2 hne=>?_⟩
 ·match g,hg with
  |0,hg=>cases hg;exact e0.1 |1,hg=>cases hg;exact e1.1 |2,hg=>cases hg;exact e2.1 |3,hg=>cases hg;exact e3.1 |4,hg=>cases hg;exact e4.1 |5,hg=>cases hg;exact e5.1 |6,hg=>cases hg;exact e6.1 |7,hg=>cases hg;exact e7.1 |8,hg=>cases hg;exact e8.1 |9,hg=>cases hg;exact e9.1 |10,hg=>cases hg;exact e10.1 |11,hg=>cases hg;exact e11.1 |12,hg=>cases hg;exact e12.1 |13,hg=>cases hg;exact e13.1 |14,hg=>cases hg;exact e14.1 |15,hg=>cases hg;exact e15.1 |16,hg=>cases hg;exact e16 |17,hg=>cases hg;exact e17 |18,hg=>cases hg;exact e18 |19,hg=>cases hg;exact e19 |20,hg=>cases hg;exact e20 |21,hg=>cases hg;exact e21 |22,hg=>cases hg |23,hg=>cases hg;exact e23 |n+24,hg=>simp[Bq,Ak] at hg
 ·obtain ⟨t,m1,q1⟩:=tx g T h1
  obtain ⟨t',m2,q2⟩:=tx g' T' h2;refine q1.ne q2 fun e=>?_
  have:=dF.1 (dF.1 aj7 _ m1) _ m2;subst e;simp[hne] at this
end Go.Proofs
namespace Go.Sx
open Go.RowKit Go.ChangeShapes Go.WideShapes Go.Deep Go.Pl
theorem Ew.below{H:Mem}{w w':World}{s:Sh}{v:Value}{H':Mem}(h:Ew H w s v H' w'):Below w.heap.size w w':=⟨h.os,h.tape,h.output,h.size,h.old⟩
def aaw(P:Program)(ts:List TypeId):Bool:=ts.all fun t=>P.readableRec t&&decide (t<P.types.size)
section
variable{H:Type}{enc:TypeId×Value->H}{P:Program}
theorem acR(hl:laidOutB P=aC){W W':World}(hb:Below W.heap.size W W'):
  ∀{ts:List TypeId} {vs:List Value} {ds:List (DataW H)} {p:List MemPlace},aaw P ts=aC->qJ enc P W 0 (fun _=>aC) aC ts vs ds p->(∀x∈p,x.block<W.heap.size)->
   qJ enc P W' 0 (fun b=>decide (b<W.heap.size)) aC ts vs ds p
 |[],_,_,_,_,h,_=>by
  obtain ⟨rfl,rfl,rfl⟩:=trodAll_nil h;exact rfl
 |t::ts,_,_,_,hr,h,hlt=>by
  obtain ⟨v,vs1,d,ds1,a,b,rfl,rfl,rfl,h1,h2⟩:=trodAll_cons h;simp only[aaw,List.all_cons,aI,decide_eq_true_eq] at hr;exact ⟨a,b,Below.trod hl hr.1.1 hr.1.2 h1 hb fun x hx=>hlt x (kU _ hx),acR hl hb (by simp only[aaw];exact hr.2) h2 fun x hx=>hlt x (iD _ hx),rfl⟩
theorem amH(hl:laidOutB P=aC){f:Func}{s:ChangeSpec}{W W':World}{args:Array Value}{t:TypeId}{ds gs:List (DataW H)}{before:List MemPlace}(hs:s.vars=[])(hr:aaw P f.params.toList=aC)(ht:f.resultTypes=#[t])(hu:P.underlying t=ak .bool)
  (hW:DataW.Whole enc P f.params.toList s.vars ay W args.toList ds gs before) (hb:Below W.heap.size W W')
  (h1:(s.fn H (ds++gs)).results=[.lit (.bool aC)]) (h2:(s.fn H (ds++gs)).args=ds) (h3:(s.fn H (ds++gs)).vars=[]) :
  s.post enc P f ay aC ay ay W args (.bool aC) W':=by
 have hlt:=hW.lt;have hW0:=hW;obtain ⟨p,q,hA,hV,e,hfz,hnd⟩:=hW;rw[hs] at hV;obtain ⟨rfl,rfl⟩:=trodVars_none hV;subst e;refine ⟨ds,[],p++[],[],p,[],hW0,?_,?_,?_,Below.frame hb _,fun e=>by cases e⟩
 ·rw[h1,ht]
  exact trodAll_mk1 (shut_bool hu aC)
 ·rw[h2]
  exact acR hl hb hr hA fun x hx=>hlt x (by simpa using hx)
 ·rw[h3,hs]
  exact rfl
end
open Go.RowKit Go.ChangeShapes Go.WideShapes Go.Deep Go.Pl
theorem amI{n:Nat}{g:Nat->List Sh}(h:∀i,i<n->∃ns:List Int,ns.length=2/\g i=Hz ns/\∀n∈ns,int64 n):QH n (Am (α:=Oj) g)=aC:=by
 unfold QH;refine dF.2 fun j hj=>?_
 obtain ⟨ns,h1,h2,h3⟩:=h j (dh.1 hj);match ns,h1 with
 |[a,b],_=>
  have e:Am (α:=Oj) g j=⟨a,b⟩:=by
   unfold Am;rw[h2];rfl
  rw[e];have:=h3 a (by simp);unfold int64 at this;have h1:aW.min=-9223372036854775808:=by decide
  have h2:aW.max=9223372036854775807:=by decide
  simp[Lit.wf] at this;unfold Di;simp;omega
section
variable{H:Type}{enc:TypeId×Value->H}{P:Program}{w:World}{base:Nat}{spare:Nat->Bool}{held:Bool}
end
open Go.RowKit Go.ChangeShapes Go.WideShapes Go.Deep
theorem acS{α:Type}[yU α]{k n:Nat}{g:Nat->List Sh}(hk:∀ns:List Int,ns.length=k->(xk (α:=α) (Hz ns)).isSome=aC)(h:∀i,i<n->∃ns:List Int,ns.length=k/\g i=Hz ns/\∀n∈ns,int64 n):oM α n g=aC:=by
 induction n with
 |zero=>rfl |succ n ih=>
  obtain ⟨ns,h1,h2,_⟩:=h n (by omega);simp only[oM,ih fun i hi=>h i (by omega),Bool.true_and];rw[h2];exact hk ns h1
theorem aq0{n:Nat}{g:Nat->List Sh}(h:∀i,i<n->∃ns:List Int,ns.length=2/\g i=Hz ns/\∀n∈ns,int64 n):oM iP n g=aC:=acS (fun ns hn=>by
 match ns,hn with
 |[a,b],_=>rfl) h
theorem aq1{n:Nat}{g:Nat->List Sh}(h:∀i,i<n->∃ns:List Int,ns.length=8/\g i=Hz ns/\∀n∈ns,int64 n):oM jv n g=aC:=acS (fun ns hn=>by
 match ns,hn with
 |[a,b,c,d,e,f,x,y],_=>rfl) h
theorem amJ{n:Nat}{g:Nat->List Sh}(h:∀i,i<n->∃ns:List Int,ns.length=8/\g i=Hz ns/\∀n∈ns,int64 n):BR.L6 n g=aC:=dF.2 fun i hi=>by
 obtain ⟨ns,h1,h2,h3⟩:=h i (dh.1 hi);match ns,h1 with
 |[a,b,c,d,e,f,x,y],_=>
  have hy:=h3 y (by simp);unfold BR.Am;rw[h2];have e:((xk (Hz [a,b,c,d,e,f,x,y])).getD BR.Row.JI:jv).ret=y:=rfl;rw[e];have hy:(Lit.int .i64 y).wf=aC:=hy;simp only[Lit.wf,aI,decide_eq_true_eq] at hy;exact decide_eq_true hy
theorem Ew.avF{H:Mem}{w w':World}{b:Bool}{v:Value}{H':Mem}(h:Ew H w (.v (.bool b)) v H' w'):v=.bool b:=by
 obtain ⟨E1,_,_,h1,_⟩:=h.res 0;exact h1
end Go.Sx
namespace Go.Proofs.YthehnhaoiijkhaaGreatDoor
open Go.ChangeShapes Go.WideShapes Go.ChangeAt Go.WideMaps Go.WideElems Go.RowKit Go.Sx Go.Pl
theorem aq2{n m:Nat}{g h:Nat->List Sh}(a:∀i,i<n->∃ns:List Int,ns.length=2/\g i=Hz ns/\∀n∈ns,int64 n)(b:∀i,i<m->∃ns:List Int,ns.length=8/\h i=Hz ns/\∀n∈ns,int64 n):hpB (.agg [.sl 2 n g,.sl 8 m h])=aC:=
 @decide_eq_true _ (bG _) ⟨n,g,m,h,rfl,aq0 a,aq1 b,amJ b,amI a⟩
theorem axF:ownKnob aA.godebug=aK:=by kernel_rfl
theorem amK:laidOutB aA=aC:=by kernel_rfl
theorem avG(os:Os)(args:Array Value):laidMetH aA laid7 ((wO aA 400 os).forCall (fun _ _=>0) ⟨#[],args,[]⟩).memory:=
 laidMetH_of_parts3 (fuel:=8) (laidMet_of_run' 8 (by kernel_rfl) (by kernel_rfl)) (by kernel_rfl) (by kernel_rfl)
set_option maxRecDepth 100000 in
theorem aq3(os:Os)(started:os.Started)(H:Type)(enc:TypeId×Value->H):
  ReturnsInHanded {} rG os 7 .any (fun w args=>(Rows.searchLevelsSpec.pre enc aA nO [] ay w args/\laidMetH aA laid7 w)/\sizedMet enc aA nO (OpenSpec.ofChange Rows.searchLevelsSpec) ay w args)
   (Rows.searchLevelsSpec.post enc aA nO ay aC ay ay):=by
 refine returnsInHanded_of_change_and (C:=rG) (X:=fun w _=>laidMetH aA laid7 w) (fun _ _ _ hh h=>h.of_heap hh) axF started (by kernel_rfl) uy
  (ChangeSpec.witness_shaped (enc:=enc) (C:=rG) (os:=os) (X:=fun w _=>laidMetH aA laid7 w) ay (wO aA 400 os) #[.agg #[.slice aK 0 0,.slice aK 0 0]] 8 rfl (World.shaped_of_RefB (by kernel_rfl) (by kernel_rfl)) (by kernel_rfl) (by kernel_rfl) (by kernel_rfl) (avG os _)) ?_
 intro W base args ds gs before hval0 hW _ _ hL _;have hval:∀(j:Nat) t v,nO.params[j]?=ak t->args[j]?=ak v->lX aA W .any base t v:=hval0;have hW':=hW;obtain ⟨p,q,hA0,hV,e,hfz,hnd⟩:=hW;obtain ⟨rfl,rfl⟩:=trodVars_none hV;have hA:qJ enc aA W 0 (fun _=>aC) aC nO.params.toList args.toList ds p:=hA0;rw[yV] at hA hval;obtain ⟨v0,vs0,d0,ds0,p0,q0,ea,rfl,rfl,t0,hA⟩:=trodAll_cons hA;obtain ⟨rfl,rfl,rfl⟩:=trodAll_nil hA;have at_:∀(j:Nat) v,[v0][j]?=ak v->args[j]?=ak v:=fun j v h=>by rw[<-Array.getElem?_toList,ea];exact h
 obtain ⟨n0,g0,m0,h0,r0,a0,b0⟩:=amE (k0:=2) (k1:=8) (by kernel_rfl) (by decide) (by decide) (hval 0 25 v0 rfl (at_ 0 v0 rfl)) t0;have hc:=(O7 O11) (EH W) W [.agg [.sl 2 n0 g0,.sl 8 m0 h0]] [v0] (fun s=>s=.v (.bool aC)) (amD W) (amG hL)
  ⟨r0,trivial⟩ ⟨aq2 a0 b0,rfl⟩
 have eargs:args=[v0].toArray:=by rw[<-ea]
 rw[eargs];refine hc.mono fun e W' ⟨v,s,H',he,hs,hr⟩=>?_;subst he hs;obtain rfl:=hr.avF;refine ⟨_,rfl,amH amK rfl (by kernel_rfl) (by kernel_rfl) Tryz.underlying4 (by rw[eargs] at hW';exact hW') hr.below rfl rfl rfl⟩
theorem searchLevels_holds:Rows.SearchLevelsSaid:=
 OpenClaim.holds_of_wide 7 nO rfl rfl rfl rfl rfl rfl rfl ⟨rfl,rfl,rfl,rfl,rfl⟩ rfl rfl rfl rfl rfl (by kernel_rfl) uy (by kernel_rfl)
  (of_decide_eq_true (by kernel_rfl)) (by unfold Func.isWrapper;first|(rw[if_pos (by decide +kernel)];kernel_rfl) |(rw[if_neg (by decide +kernel)];exact ⟨rfl,rfl⟩))
  (fun os started H enc _=>aq3 os started H enc)
open Go
theorem searchLevels_card:Rows.SearchLevelsCardSaid:=
 Claim7.holds_tied_plain_at .later [] [.data,.data,.data,.sentinel,.sentinel,.sentinel,.sentinel,.sentinel,.sentinel,.sentinel,.sentinel,.sentinel,.sentinel,.sentinel,.sentinel,.sentinel,.sentinel,.sentinel,.sentinel,.data,.data,.data,.data,.data,.data] aC (aC, "81e67fd4d3bd142d930eaa45586bdb8ac6b198972cce1b631dceec920cefaf18") aC
  searchLevels_holds (fun _ h=>by cases h) (by kernel_rfl) (fun _ h=>by cases h) searchLevels_row_tie rfl ⟨rfl,rfl⟩ (by kernel_rfl) rfl
  (fun f fn hf hfn=>by
   obtain rfl:f=7:=dH ((show aA.funcNamed "umpire/umpirelaw12.SearchLevels" = ak 7 by kernel_rfl).symm.trans hf) |>.symm
   obtain rfl:fn=nO:=(dH (uy.symm.trans hfn)).symm;exact ⟨by kernel_rfl,fun j t ht=>by
    rw[yV] at ht;have hm:t∈[25]:=by simpa using Array.mem_of_getElem? ht
    have hall:([25].all fun u=>!Tryz.prog.wantsStandIn u)=aC:=by kernel_rfl
    exact (show aA.wantsStandIn t=ay by simpa using dF.1 hall t hm)⟩)
  (by kernel_rfl)
#print axioms searchLevels_card
end Go.Proofs.YthehnhaoiijkhaaGreatDoor
