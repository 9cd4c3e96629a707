/- Own work. -/
import Derived.Test.YthehnhaoiijkhaaGreatDoorO13
import Derived.KernelRfl
open Int (ofNat)
open Bool renaming and_eq_true->al,true->aj,not_eq_true'->br,false->ag
open Classical renaming propDecidable->aB,byContradiction->lM
open Go.Gm renaming start->eW
open Go.oD renaming mJ->aP,BD->gx,vX->d8,takeB->dt,wS->gZ,Af->gQ,FP->kq,takeN->kr,Row->ly,okB->fR,lst->gi
open Go.oD.Au renaming nil->dC
open Go.Proofs.C7 renaming ok->aS,Gh->dZ
open Go.Proofs.Tryz renaming prog->ah,f21->fG,f45->fF,f106->gW,f48->eJ,f80->gy,f26->iw,f25->eK
open Go.Sx.oC renaming all->aX
open Go.Sx.It renaming inBlock->aW,code->aH
open Int renaming ofNat->ab,ofNat_eq_natCast->dN
open List renaming mem_map->bN,mem_flatMap->cj,mem_range->bh,all_eq_true->be,mem_append->aU,getElem?_eq_getElem->aD,getD_eq_getElem?_getD->aZ,getElem?_map->cL,range->aE,mem_filter->j9,length_map->ct,replicate->bp,map_cons->dI,find?_cons->ka,mem_cons_self->bo,mem_cons_of_mem->bi,flatMap_def->jL,map_map->iE,map->eM,any_eq_true->jM,mem_singleton->iT,getElem?_range->iH
open Nat renaming zero_le->bZ,sub_self->gU
open Option renaming some->ae,none->aq
open Option.some renaming inj->bd
namespace Go.Pl
open Go Go.Sx Go.Proofs Go.Gm Go.Bf
noncomputable def tvB(k:Nat)(s:Sh):Bool:=hpB s&&(!(NH s).okb&&(if k=0 then (NH s).xC else !(NH s).xC&&(NH s).e==k))
noncomputable def tpI(s:Sh):Int:=(NH s).pos
noncomputable def teN(s:Sh):Nat:=(NH s).e
end Go.Pl
namespace Go.Proofs
open Go Go.Sx Go.Pl Go.Gm Go.Bf
noncomputable def aoJ(k:Nat):List Sh->Tree Sh
 |[s]=>match k with
  |0=>.need (tvB 0 s) (.leaf (.mV [.sl 0 0 (fun _=>[]),.pV 109 (.pt [.i .i64 (tpI s),.er (teN s) 329])])) |6=>.need (tvB 6 s) (.leaf (.mV [.sl 0 0 (fun _=>[]),.er 6 329])) |_=>.fail
 |_=>.fail
theorem aoK:nG ah (nY W7) 20 al8:=by
 intro H w nV args φ hon hgl hr hφ;unfold al8 at hφ;split at hφ
 ·rename_i s
  obtain ⟨q1,hφ⟩:=hφ;unfold tkB at q1;rw[al] at q1;obtain ⟨n,g,m,h,rfl,P⟩:=@of_decide_eq_true _ (aB _) q1.1;exact XK P H w _ args φ hon hgl hr ⟨@decide_eq_true _ (aB _) rfl,fun _=>hφ,fun c=>(by rw[show (nJ n g m h).okb=aj from q1.2] at c;cases c)⟩
 ·exact hφ.elim
theorem ama(k:Nat):nG ah (nY W7) 20 (aoJ k):=by
 intro H w nV args φ hon hgl hr hφ;unfold aoJ at hφ;have key:∀s,tvB k s=aj->(∀(x:k=0),φ (.mV [.sl 0 0 (fun _=>[]),.pV 109 (.pt [.i .i64 (tpI s),.er (teN s) 329])]))->(∀(x:k≠0),φ (.mV [.sl 0 0 (fun _=>[]),.er k 329]))->qQ H [s] args->
   Calls ah 20 args.toArray w fun e w'=>∃v s H',e=.returned v/\φ s/\qR H w s v H' w':=by
  intro s q1 h0 h1 hr;unfold tvB at q1;rw[al,al,br] at q1;obtain ⟨a1,a2,a3⟩:=q1;obtain ⟨n,g,m,h,rfl,P⟩:=@of_decide_eq_true _ (aB _) a1;have a2:(nJ n g m h).okb=ag:=a2;refine XK P H w _ args φ hon hgl hr ⟨@decide_eq_true _ (aB _) rfl,fun c=>(by rw[a2] at c;cases c),fun _=>⟨fun c=>?_,fun c=>?_⟩⟩
  ·by_cases hk:k=0
   ·exact h0 hk
   ·rw[if_neg hk,al,br] at a3
    rw[show (nJ n g m h).xC=ag from a3.1] at c;cases c
  ·by_cases hk:k=0
   ·rw[if_pos hk] at a3
    rw[show (nJ n g m h).xC=aj from a3] at c;cases c
   ·rw[if_neg hk,al,br,beq_iff_eq] at a3
    rw[show (nJ n g m h).e=k from a3.2];exact h1 hk
 split at hφ
 ·rename_i s
  split at hφ
  ·exact key s hφ.1 (fun _=>hφ.2) (fun x=>(x rfl).elim) hr
  ·exact key s hφ.1 (fun x=>by cases x) (fun _=>hφ.2) hr
  ·exact hφ.elim
 ·exact hφ.elim
open Go Go.Sx Go.Pl
noncomputable def W11:List Sh->Tree Sh
 |[]=>.leaf (.v (.bool aj)) |_=>.fail
end Go.Proofs
namespace Go.Pl
open Go Go.Sx Go.Proofs Go.Gm Go.Bf
section
variable{n m:Nat}{g h:Nat->List Sh}
theorem ae9(P:Ak n g m h){lv:Int}(hl:1<=lv/\lv<=3):hsB (hsS n g m h) lv=aj:=@decide_eq_true _ (aB _) ⟨n,g,m,h,rfl,P,hl.1,hl.2⟩
theorem ahZ{lv:Int}(hb:(qZ (hsS n g m h) lv).okb=ag):(qZ (hsS n g m h) lv).xC=aj\/((qZ (hsS n g m h) lv).xC=ag/\((qZ (hsS n g m h) lv).e=1\/(qZ (hsS n g m h) lv).e=6)):=by
 have hb:((nJ n g m h).okb&&decide ((nJ n g m h).n<=12))=ag:=hb;show (!(nJ n g m h).okb&&(nJ n g m h).xC)=aj\/((!(nJ n g m h).okb&&(nJ n g m h).xC)=ag/\((if (nJ n g m h).okb=aj then 1 else (nJ n g m h).e)=1\/(if (nJ n g m h).okb=aj then 1 else (nJ n g m h).e)=6));grind [nJ]
theorem afa(P:Ak n g m h){lv mo:Int}(hl:1<=lv/\lv<=3)(hm:wu mo=aj)(hb:(qZ (hsS n g m h) lv).okb=aj):gaB (hsS n g m h) lv mo=aj:=by
 simp_all [gaB,ae9]
theorem aqW(P:Ak n g m h){lv mo:Int}(hl:1<=lv/\lv<=3)(hm:wu mo=aj)(hb:(qZ (hsS n g m h) lv).okb=ag){k:Nat}(hk:(if k=0 then (qZ (hsS n g m h) lv).xC else !(qZ (hsS n g m h) lv).xC&&(qZ (hsS n g m h) lv).e==k)=aj):geB k (hsS n g m h) lv mo=aj:=by
 simp_all [geB,ae9]
end
end Go.Pl
namespace Go.Proofs
open Go Go.Sx Go.Pl Go.Gm Go.Bf
end Go.Proofs
namespace Go.Gm
open Go.Bf
section
variable{S κ:Type}[DecidableEq κ]{g g':Game S}{key:Nd S->κ}
theorem ah0(hf:∀nd:Nd S,full g nd=full g' nd)(hn:∀nd,∀t∈next g nd,t∈next g' nd):∀{nd:Nd S},CV (next g) (full g) nd->CV (next g') (full g') nd:=fun {nd} h=>by
 induction h with
 |here h=>exact .here (by rw[<-hf];exact h) |step ht _ ih=>exact .step (hn _ _ ht) ih
structure Part(b c:Game S)(φ:Nat->Nat):Prop where
 lt:∀i,i<b.n->φ i<c.n
 inj:∀i j,i<b.n->j<b.n->φ i=φ j->i=j
 com:∀i,i<b.n->b.com i=c.com (φ i)
 KW:∀i,i<b.n->b.KW i=c.KW (φ i)
 run:∀i,i<b.n->∀s,b.run s i=c.run s (φ i)
 mask:∀i j,i<b.n->j<b.n->(b.mask i).testBit j=(c.mask (φ i)).testBit (φ j)
 out:∀j,j<c.n->c.com j=aj->∃i,i<b.n/\φ i=j
 free:b.all=ag
structure Sim(b:Game S)(φ:Nat->Nat)(x y:Nd S):Prop where
 st:x.st=y.st
 bit:∀i,i<b.n->x.placed.testBit i=y.placed.testBit (φ i)
theorem ah1{b c:Game S}{φ:Nat->Nat}(hp:Part b c φ){x y t:Nd S}(hs:Sim b φ x y)(ht:t∈next c y):Sim b φ x t\/∃u∈next b x,Sim b φ u t:=by
 obtain ⟨e,he,rfl⟩:=bN.1 ht;unfold turns at he;obtain ⟨j,hj,he⟩:=cj.1 he;have hj:=bh.1 hj;have hpl:=(Q7 he).2.2;by_cases hq:∃i,i<b.n/\φ i=j
 ·obtain ⟨i,hi,rfl⟩:=hq
  refine .inr ?_;have hm:may c y.placed (φ i)=aj:=by
   unfold uH at he;split at he
   ·assumption
   ·cases he
  have hm':may b x.placed i=aj:=by
   unfold may at hm ⊢;rw[al,be] at hm ⊢;refine ⟨by rw[hs.bit i hi];exact hm.1,fun k hk=>?_⟩;have hk:=bh.1 hk;rw[hp.mask i k hi hk,hs.bit k hk];exact hm.2 (φ k) (bh.2 (hp.lt k hk))
  have bits:∀k,k<b.n->(x.placed|||1<<<i).testBit k=(y.placed|||1<<<φ i).testBit (φ k):=fun k hk=>by
   rw[Py,Py,hs.bit k hk];congr 1;by_cases q:i=k
   ·subst q;simp
   ·rw[decide_eq_false q,decide_eq_false fun e=>q (hp.inj i k hi hk e)]
  have mem:∀u∈uH b x i,u.2∈next b x:=fun u hu=>bN.2 ⟨u,cj.2 ⟨i,bh.2 hi,hu⟩,rfl⟩;unfold uH at he;rw[if_pos hm] at he;rcases aU.1 he with he|he
  ·split at he
   ·rename_i s e1 e2
    obtain rfl:e=_:=by simpa using he
    refine ⟨⟨x.placed|||1<<<i,s⟩,mem ((b.id i,aj),⟨x.placed|||1<<<i,s⟩) ?_,rfl,bits⟩;unfold uH;rw[if_pos hm',hp.com i hi,e1,hp.run i hi,hs.st,e2];simp
   ·cases he
  ·split at he
   ·rename_i q
    obtain rfl:e=_:=by simpa using he
    refine ⟨⟨x.placed|||1<<<i,x.st⟩,mem ((b.id i,ag),⟨x.placed|||1<<<i,x.st⟩) ?_,hs.st,bits⟩;unfold uH;rw[if_pos hm',if_pos ⟨by rw[hp.KW i hi];exact q.1,fun e=>by rw[hp.free] at e;cases e⟩];simp
   ·cases he
 ·refine .inl ⟨?_,fun i hi=>?_⟩
  ·unfold uH at he
   split at he
   ·rcases aU.1 he with he|he
    ·split at he
     ·rename_i s e1 e2
      exact (hq (hp.out j hj e1)).elim
     ·cases he
    ·split at he
     ·obtain rfl:e=_:=by simpa using he
      exact hs.st
     ·cases he
   ·cases he
  ·rw[hpl,Py,hs.bit i hi,decide_eq_false fun e=>hq ⟨i,hi,e.symm⟩,Bool.or_false]
theorem afb{b c:Game S}{φ:Nat->Nat}(hp:Part b c φ):∀{y:Nd S},CV (next c) (full c) y->y.placed<2^c.n->∀{x:Nd S},Sim b φ x y->x.placed<2^b.n->CV (next b) (full b) x:=fun {y} h=>by
 induction h with
 |here h=>
  intro hy x hs hx;exact .here ((YD hx).2 fun i hi=>by rw[hs.bit i hi];exact (YD hy).1 h _ (hp.lt i hi))
 |step ht _ ih=>
  intro hy x hs hx;rcases ah1 hp hs ht with q|⟨u,hu,q⟩
  ·exact ih (lt_next hy _ ht) q hx
  ·exact .step hu (ih (lt_next hy _ ht) q (lt_next hx _ hu))
theorem ada{b c:Game S}{φ:Nat->Nat}(hp:Part b c φ)(s:S)(h:CV (next c) (full c) (start s)):CV (next b) (full b) (start s):=
 afb hp h (start_lt s) ⟨rfl,fun i hi=>by simp[start]⟩ (start_lt s)
end
end Go.Gm
namespace Go.Pl
open Go Go.Sx Go.Proofs Go.Gm Go.Bf
theorem ah2{S:Type}{g g':Game S}(hn:g.n=g'.n)(hi:g.id=g'.id)(hc:g.com=g'.com)(ha:g.KW=g'.KW)(hr:g.run=g'.run)(hl:g.all=g'.all)(hm:∀p i,may g p i=aj->may g' p i=aj)(nd:Nd S):∀t∈next g nd,t∈next g' nd:=fun t ht=>by
 obtain ⟨e,he,rfl⟩:=bN.1 ht;obtain ⟨i,h',he⟩:=cj.1 he;rw[hn] at h';refine bN.2 ⟨e,cj.2 ⟨i,h',?_⟩,rfl⟩;simp_all [uH]
theorem YU(bg:Int):∀(l:List rU) i m,BP 1 bg i l m=m
 |[],i,m=>rfl |a::l,i,m=>by
  rw[BP,if_neg (fun q=>q.1 rfl)];exact YU bg l (i+1) m
theorem YV{lv bg:Int}(h:lv≠1):∀(l:List rU) i m j,(BP lv bg i l m).testBit j=(m.testBit j||(decide (i<=j)&&match l[j - i]? with|some a=>PG a.en bg|none=>ag))
 |[],i,m,j=>by rw[BP];simp |a::l,i,m,j=>by
  rw[BP,YV h l];have hb:(if lv≠1/\PG a.en bg=aj then m|||1<<<i else m).testBit j=(m.testBit j||(PG a.en bg&&decide (i=j))):=by
   grind [Py]
  grind
theorem ah3{lv:Int}(h:lv≠1){L:List rU}{i j:Nat}(hj:j<L.length):((Rh lv L i).toNat).testBit j=PG (nth L j).en (nth L i).bg:=by
 show (BP lv (nth L i).bg 0 L 0).testBit j=_;simp_all [YV,Nat.sub_zero,nth,aZ]
theorem agC{α β:Type}[Row β]{f:α->β}{l:List α}{i:Nat}(h:i<l.length):nth (l.map f) i=f l[i]:=by
 simp_all [nth,aZ]
section
variable{n:Nat}{og:Nat->List Sh}{B:JO}
theorem anV(nd:Nd SG):∀t∈next (Gb (oL 2 n og B)) nd,t∈next (Gb (oL 1 n og B)) nd:=
 ah2 (g:=Gb (oL 2 n og B)) (g':=Gb (oL 1 n og B)) rfl rfl rfl rfl rfl rfl (fun p i h=>by
  unfold may at h ⊢;rw[al] at h;rw[h.1];refine be.2 fun j _=>?_
  have e:(Gb (oL 1 n og B)).mask i=0:=by
   show (BP 1 _ 0 _ 0:Nat)=0;exact YU _ _ _ _
  rw[e];simp) nd
theorem anW(nd:Nd SG):full (Gb (oL 2 n og B)) nd=full (Gb (oL 1 n og B)) nd:=by
 rfl
def idx(B:JO):List Nat:=(aE B.n).filter fun j=>PE (B.T j).st 2
theorem ct2:tC 2 B.n B.T=(idx B).map B.T:=by
 unfold tC idx;rw[List.filter_map];rfl
theorem ct3:tC 3 B.n B.T=(aE B.n).map B.T:=List.filter_eq_self.2 fun _ _=>rfl
theorem anX{i:Nat}(h:i<(idx B).length):(idx B)[i]<B.n:=bh.1 (j9.1 (List.getElem_mem h)).1
theorem anY:Part (Gb (oL 2 n og B)) (Gb (oL 3 n og B)) (fun i=>(idx B).getD i 0):=by
 have hb:(Gb (oL 2 n og B)).n=(idx B).length:=by show (tC 2 B.n B.T).length=_;simp_all [ct2]
 have hc:(Gb (oL 3 n og B)).n=B.n:=by show (tC 3 B.n B.T).length=_;simp_all [ct3]
 have fi:∀i,(h:i<(idx B).length)->(idx B).getD i 0=(idx B)[i]:=fun i h=>by simp_all
 have tb:∀i,(h:i<(idx B).length)->nth (tC 2 B.n B.T) i=B.T ((idx B).getD i 0):=fun i h=>by rw[fi i h,ct2,agC h]
 have tc:∀i,(h:i<B.n)->nth (tC 3 B.n B.T) i=B.T i:=fun i h=>by simp_all [ct3,agC,List.getElem_range]
 have fl:∀i,i<(idx B).length->(idx B).getD i 0<B.n:=fun i h=>by simp_all [anX]
 have tt:∀i,i<(idx B).length->nth (tC 2 B.n B.T) i=nth (tC 3 B.n B.T) ((idx B).getD i 0):=fun i h=>by simp_all
 refine ⟨fun i h=>?_,fun i j h1 h2 e=>?_,fun i h=>?_,fun i h=>?_,fun i h s=>?_,fun i j h1 h2=>?_,fun j h hq=>?_,rfl⟩
 ·simp_all
 ·rw[hb] at h1 h2
  rw[fi i h1,fi j h2] at e;exact (List.getElem_inj ((List.nodup_range (n:=B.n)).filter _)).1 e
 ·rw[hb] at h
  show ((nth (tC 2 B.n B.T) i).st==3||(nth (tC 2 B.n B.T) i).st==2)=_;rw[tt i h];rfl
 ·rw[hb] at h
  show (!((nth (tC 2 B.n B.T) i).st==3))=_;rw[tt i h];rfl
 ·rw[hb] at h
  show (if XI n s (nth (tC 2 B.n B.T) i).k (nth (tC 2 B.n B.T) i).g=aj then ae (JI n s (nth (tC 2 B.n B.T) i).k (nth (tC 2 B.n B.T) i).g) else aq)=_;rw[tt i h];rfl
 ·rw[hb] at h1 h2
  show ((Rh 2 (tC 2 B.n B.T) i).toNat).testBit j=((Rh 3 (tC 3 B.n B.T) ((idx B).getD i 0)).toNat).testBit ((idx B).getD j 0);simp_all [ah3,ct2,ct,ct3,List.length_range]
 ·rw[hc] at h
  have hq:((nth (tC 3 B.n B.T) j).st==3||(nth (tC 3 B.n B.T) j).st==2)=aj:=hq;rw[tc j h] at hq;have hm:j∈idx B:=j9.2 ⟨bh.2 h,hq⟩;grind [List.getElem_of_mem,idx]
end
open Go Go.Sx Go.Proofs Go.Gm
noncomputable def uh(x:Int)(m:Nat):Nat:=(max 0 (min x (m:Int))).toNat
noncomputable def Xd(o:Nat)(x:Int)(m:Nat):Bool:=mD.room o 16&&mD.room (uh x m) 64
end Go.Pl
namespace Go.Proofs
open Go Go.Sx Go.Pl
noncomputable def D21:List Sh->Tree Sh
 |[.agg [.sl 2 o og,.sl 8 m mg],t]=>match nR t with
  |some x=>.need (Xd o x m) (.leaf (.agg [.sl 2 o og,.sl 8 (uh x m) mg])) |none=>.fail
 |_=>.fail
theorem O21:nG ah (nY W7) 21 D21:=by
 refine vM (C:=C7 mD W7 noSpec ny) (aS _ _) (fn:=fG) (by kernel_rfl) (by kernel_rfl) fun H w nV args φ hrep h=>?_
 have hn:fG.ntmps=17:=by kernel_rfl
 unfold D21 at h;split at h
 ·rename_i o og m mg t
  split at h
  ·rename_i x e1
   obtain ⟨q1,hφ⟩:=h;match args,hrep with
   |[a0,a1],⟨r0,r1,_⟩=>
    refine ⟨[.agg [.sl 2 o og,.sl 8 m mg],.i .i64 x],⟨r0,qW e1 r1,trivial⟩,L0,?_⟩;refine uz (aS _ _) (BK _) (hold:=oG) (m:=300) (n:=400) (ts:=[]) ?_;rw[hn];unfold Xd at q1;rw[al] at q1;obtain ⟨ro,rp⟩:=q1;have eX:mD.toN (mD.max (ab 0) (mD.min x (mD.nH m)))=uh x m:=by
     unfold uh;rw[zH,Gi,pR,nI];congr 1;simp only[dN];split<;>split<;>omega
    have up1:mD.upTo (mD.max (ab 0) (mD.min x (mD.nH m))) m=aj:=by
     rw[zH,Gi,zk,nI];simp only[dN];split<;>split<;>simp<;>omega
    obtain ⟨X,hX⟩:∃X,mD.toN (mD.max (ab 0) (mD.min x (mD.nH m)))=X:=⟨_,rfl⟩;have leo:mD.le (ab 0) (mD.nH o)=aj:=le0 o;have ro2:mD.room (mD.addN 0 o) 16=aj:=by rw[yc];exact ro
    have lep:mD.le (ab 0) (mD.nH (mD.toN (mD.max (ab 0) (mD.min x (mD.nH m)))))=aj:=le0 _;have rp1:mD.room (mD.toN (mD.nH (mD.toN (mD.max (ab 0) (mD.min x (mD.nH m)))))) 64=aj:=by rw[Ed,eX];exact rp
    have rp2:mD.room (mD.addN 0 (mD.toN (mD.max (ab 0) (mD.min x (mD.nH m))))) 64=aj:=by rw[yc,eX];exact rp
    have ro1:mD.room (mD.toN (mD.nH o)) 16=aj:=by rw[Ed];exact ro
    have fin:up φ (.agg [.os 140 2 (mD.addN 0 o) (mD.snoc (fun _=>[]) 0 og),.os 71 8 (mD.addN 0 (mD.toN (mD.max (ab 0) (mD.min x (mD.nH m))))) (mD.snoc (fun _=>[]) 0 mg)]):=by
     rw[yc,yc,eX,A8,A8];exact oq (s':=.agg [.sl 2 o og,.sl 8 (uh x m) mg]) ⟨.inr ⟨rfl,rfl,fun _ _=>rfl⟩,.inr ⟨rfl,rfl,fun _ _=>rfl⟩,trivial⟩ hφ
    exact acB (by kernel_rfl) (an up1 (an leo (an ro1 (an ro2 (an lep (an rp1 (an rp2 (an lep (an rp1 (an ro2 (an rp2 (an lep (an rp1 (an leo (an ro1 (an ro2 (an rp2 fin))))))))))))))))) (by kernel_rfl)
  ·exact h.elim
 ·exact h.elim
end Go.Proofs
namespace Go.Pl
open Go Go.Sx Go.Proofs Go.Gm Go.Bf
noncomputable def clB(o m:Nat):Bool:=mD.room o 16&&mD.room m 64
end Go.Pl
namespace Go.Proofs
open Go Go.Sx Go.Pl Go.Gm Go.Bf
noncomputable def D45:List Sh->Tree Sh
 |[.agg [.sl 2 o og,.sl 8 m mg]]=>.need (clB o m) (.leaf (.agg [.sl 2 o og,.sl 8 m mg])) |_=>.fail
theorem O45:nG ah (nY W7) 45 D45:=by
 refine vM (C:=C7 mD W7 noSpec ny) (aS _ _) (fn:=fF) (by kernel_rfl) (by kernel_rfl) fun H w nV args φ hrep h=>?_
 have hn:fF.ntmps=18:=by kernel_rfl
 unfold D45 at h;split at h
 ·rename_i o og m mg
  obtain ⟨q1,hφ⟩:=h;refine ⟨[.agg [.sl 2 o og,.sl 8 m mg]],hrep,L0,?_⟩;refine uz (aS _ _) (BK _) (hold:=oG) (m:=300) (n:=400) (ts:=[]) ?_;rw[hn];unfold clB at q1;rw[al] at q1;obtain ⟨ro,rm⟩:=q1;have leo:mD.le (ab 0) (mD.nH o)=aj:=le0 o;have lem:mD.le (ab 0) (mD.nH m)=aj:=le0 m;have ro1:mD.room (mD.toN (mD.nH o)) 16=aj:=by rw[Ed];exact ro
  have Ws:mD.room (mD.toN (mD.nH m)) 64=aj:=by rw[Ed];exact rm
  have ro2:mD.room (mD.addN 0 o) 16=aj:=by rw[yc];exact ro
  have rm2:mD.room (mD.addN 0 m) 64=aj:=by rw[yc];exact rm
  have fin:up φ (.agg [.os 140 2 (mD.addN 0 o) (mD.snoc (fun _=>[]) 0 og),.os 71 8 (mD.addN 0 m) (mD.snoc (fun _=>[]) 0 mg)]):=by
   rw[yc,yc,A8,A8];exact oq (s':=.agg [.sl 2 o og,.sl 8 m mg]) ⟨.inr ⟨rfl,rfl,fun _ _=>rfl⟩,.inr ⟨rfl,rfl,fun _ _=>rfl⟩,trivial⟩ hφ
  exact acB (by kernel_rfl) (an leo (an ro1 (an ro2 (an lem (an Ws (an rm2 (an lem (an Ws (an ro2 (an rm2 (an lem (an Ws (an leo (an ro1 (an ro2 (an rm2 fin)))))))))))))))) (by kernel_rfl)
 ·exact h.elim
open Go Go.Sx Go.Pl
noncomputable def xU:Nat->Option (List Sh->Tree Sh)
 |15=>ae agB |20=>ae al8 |21=>ae D21 |45=>ae D45 |_=>aq
def adb:List Nat:=[0,1,0,1,1,1,1,1,1]
def k48:List It:=[aW 0,aH [1,1,1,1,1,1,1]]
def aoL:List SV:=vZ 69 [(4,.ptr 0 0),(5,.ptr 1 0),(8,.ptr 2 0),(36,.fn 80 [.ptr 3 0,.ptr 4 0])]
def amd(j:Nat)(gg:Nat->List Sh):Bool->SV×List (Nat×SB)
 |true=>(.nD,[]) |false=>(.gs 7,[(7,.own 42 1 j gg)])
def as4(o m:Nat)(og mg:Nat->List Sh)(mo:Int)(j:Nat)(gg:Nat->List Sh)(v:Bool)(p:SV):List (Nat×SB):=
 [(0,.box [.bool ag,.nD,.nD,.int .i64 0,.int .i64 0] 67),(1,.box [.qP] 46),(2,.box [.bool aj,.nD,(amd j gg v).1,.int .i64 0,p] 67),(3,.box [.sh (.sl 2 o og),.sh (.sl 8 m mg)] 25),(4,.box [.sym .i64 mo] 3)]
def L48(o m:Nat)(og mg:Nat->List Sh)(mo:Int):Core:={tm:=aoL,hp:=as4 o m og mg mo 0 (fun _=>[]) aj (.int .i64 0),nx:=5,lim:=L0,tc:=[]}
def s48(l:Nat):List Fw:=[⟨48,aq,k48,aoL,ae (l,adb,.ready)⟩]
def ade:List Nat:=[0,1,1]
def k80:List It:=[aW 0]
def aoM:List SV:=vZ 29 [(2,.ptr 4 0),(3,.ptr 5 0),(9,.fn 106 [.ptr 6 0])]
def aoN(o m:Nat)(og mg:Nat->List Sh)(mo:Int)(l:Nat)(j:Nat)(gg:Nat->List Sh)(v:Bool)(p:SV):List (Nat×SB):=
 [(0,.box [.bool ag,.nD,.nD,.int .i64 0,.int .i64 0] 67),(1,.box [.qP] 46),(2,.box [.bool aj,.nD,(amd j gg v).1,.int .i64 0,p] 67),(4,.box [.sym .i64 mo] 3),(5,.box [.val (yv l)] 185),(6,.box [.sh (.sl 2 o og),.sh (.sl 8 m mg)] 25)]++(amd j gg v).2
def as5:Bool->Nat
 |true=>7 |false=>8
def L80(o m:Nat)(og mg:Nat->List Sh)(mo:Int)(l:Nat):Core:={tm:=aoM,hp:=aoN o m og mg mo l 0 (fun _=>[]) aj (.int .i64 0),nx:=7,lim:=L0,tc:=[]}
def XM(l l2:Nat):List Fw:=⟨80,aq,k80,aoM,ae (l2,ade,.ready)⟩::s48 l
def FT:List It:=[aH [0,1],aW 0]
def ame:List It:=aH [0,0,1]::FT
def L106(o m:Nat)(og mg:Nat->List Sh)(mo:Int)(l l2:Nat)(j:Nat)(gg:Nat->List Sh)(v:Bool)(p:SV)(i:Int):Core:=
 {tm:=vZ 18 [(0,.val (yv l2)),(1,.ptr 6 0),(3,.sym .i64 i)],hp:=aoN o m og mg mo l j gg v p,nx:=as5 v,lim:=L0,tc:=[]}
end Go.Proofs
namespace Go.Sx
def rQ.dg:rQ->rQ
 | .ret s=>.ret s | .at_ k l=>.at_ k (l.map oC.dg)
def Tree.dgE:Tree rQ->Tree rQ
 | .leaf a=>.leaf a.dg | .node b t f=>.node b t.dgE f.dgE | .need b t=>.need b t.dgE | .must l t=>.must (l.map oC.dg) t.dgE | .both t f=>.both t.dgE f.dgE | .fail=>.fail
def Tree.J4(χ:Sh->Prop)(ξ:Nat->Prop):Tree rQ->Prop
 | .leaf (.ret s)=>χ s | .leaf (.at_ k _)=>ξ k | .node b t f=>(b=aj->t.J4 χ ξ)/\(b=ag->f.J4 χ ξ) | .need b t=>b=aj/\t.J4 χ ξ | .must _ t=>t.J4 χ ξ | .both t f=>t.J4 χ ξ/\f.J4 χ ξ | .fail=>False
theorem Tree.TB{χ:Sh->Prop}{ξ:Nat->Prop}{ψ:rQ->Prop}(h1:∀s,χ s->ψ (.ret s))(h2:∀k l,aX l->ξ k->ψ (.at_ k l)):∀{t:Tree rQ},t.J4 χ ξ->t.dgE.All ψ
 | .leaf (.ret s),h=>h1 s h | .leaf (.at_ k l),h=>h2 k _ (Uh l) h | .node _ _ _,h=>⟨fun e=>Tree.TB h1 h2 (h.1 e),fun e=>Tree.TB h1 h2 (h.2 e)⟩ | .need _ _,h=>⟨h.1,Tree.TB h1 h2 h.2⟩ | .must l _,h=>⟨Uh l,Tree.TB h1 h2 h⟩ | .both _ _,h=>⟨Tree.TB h1 h2 h.1,Tree.TB h1 h2 h.2⟩ | .fail,h=>h
section
variable{P:Program}{C:Ctx}{K:Kx}{φ:Sh->Prop}
def atW(P:Program)(C:Ctx)(K:Kx)(φ:Sh->Prop)(ts:List D9)(k:Nat):Prop:=match ts[k]? with
 |some t=>rE P C K t.g t.r t.td t.c t.stk φ |none=>False
theorem adf{Q:Prop}{ts:List D9}{t:Tree rQ}(h:t.dgE=t)(k:Q)(e:Q=t.J4 φ (atW P C K φ ts)):Hw (aej P C K ts φ) t:=by
 rw[AZ,<-h];refine Tree.TB (fun s x=>x) (fun k l hl x=>?_) (e ▸ k:t.J4 φ (atW P C K φ ts));unfold atW at x;split at x
 ·rename_i t' ht
  exact ⟨hl,t',ht,x⟩
 ·exact x.elim
def atS(P:Program)(C:Ctx)(K:Kx)(R:Hp->Prop)(φ:Sh->Prop)(ts:List Dh)(k:Nat):Prop:=match ts[k]? with
 |some t=>nX P C K t.g t.td t.c t.stk R φ |none=>False
theorem J5{Q:Prop}{R:Hp->Prop}{ts:List Dh}{t:Tree rQ}(h:t.dgE=t)(k:Q)(e:Q=t.J4 φ (atS P C K R φ ts)):qA (yG P C K ts R φ) t:=by
 rw[Ej,<-h];refine Tree.TB (fun s x=>x) (fun k l hl x=>?_) (e ▸ k:t.J4 φ (atS P C K R φ ts));unfold atS at x;split at x
 ·rename_i t' ht
  exact ⟨hl,t',ht,x⟩
 ·exact x.elim
theorem amf{H:Mem}{w:World}{g:Nat}{td:List It}{c:Core}(hgo:rE P C (K0 H w) g aq td c [] φ):nX P C (K0 H w) g td c [] emp φ:=fun H1 E w1 a items ms cs fn1 ajz st hi hs hx=>by
 cases ms with
 |cons _ _=>exact hs.elim |nil=>
  have:=hgo H1 E w1 a items [] [] [] cs fn1 (fun _=>aq) ajz st hi (fun _ hy=>by cases hy) rfl (by simp) (fun b o e=>by cases e);obtain ⟨a',w',v,s,H',todo,fn0,q1,q2,q3⟩:=this;refine ⟨a',w',v,s,H',todo,fn0,q1,?_,q3⟩;have e:(base g).at a items=o9 (bq g (Ju aq) (marks [])) a items:=(KC g a items).symm;rw[e];exact q2
end
end Go.Sx
namespace Go.Pl
open Go Go.Sx Go.Proofs Go.Gm Go.Bf
def Ew(s:Sh)(i:Nat):Sh:=match s with
 | .agg [a,.sl 8 _ h]=>.agg [a,.sl 8 i h] |s=>s
def evN(s:Sh):Nat:=match s with
 | .agg [_,.sl 8 m _]=>m |_=>0
def IX(ok yes:Nat->Bool)(cnt:Nat->Int):Nat->Nat->Int->Nat×Nat×Int
 |0,i,p=>(0,i,p) |r+1,i,p=>bif ok i then (bif yes i then IX ok yes cnt r (i+1) (mD.max p (cnt i)) else (1,i,mD.max p (cnt i))) else (2,i,p)
noncomputable def oqR(s:Sh)(mo:Int):Nat->Nat->Int->Nat×Nat×Int:=IX (fun i=>Ag (Ew s i) 3 mo) (fun i=>zK (Ew s i) 3 mo) (fun i=>Es (Ew s i) 3 mo)
noncomputable def Bl(s:Sh)(mo:Int):Nat×Nat×Int:=oqR s mo (evN s+1) 0 0
noncomputable def alF(s:Sh)(mo:Int):Nat->List Sh:=fun i=>[.sl 2 (ND (Ew s i) 3 mo) (mF (NG (Ew s i) 3 mo))]
noncomputable def oqS(s:Sh)(mo:Int)(x:Nat×Nat×Int):Sh:=match x.1 with
 |0=>.mV [.agg [.b aj,.sl 2 0 (fun _=>[]),.sl 1 x.2.1 (alF s mo),.i .i64 0,.i .i64 x.2.2],.v .nilIface] |1=>.mV [.agg [.b ag,.sl 2 0 (fun _=>[]),.sl 1 0 (fun _=>[]),.i .i64 (x.2.1:Nat),.i .i64 x.2.2],.v .nilIface] |_=>.mV [.agg [.b ag,.sl 2 0 (fun _=>[]),.sl 1 0 (fun _=>[]),.i .i64 0,.i .i64 0],.er 0 329]
end Go.Pl
namespace Go.Proofs
open Go Go.Sx Go.Pl Go.Gm Go.Bf
theorem NI(stop:Nat->List Nat->Bool):oH ah (C7 mD W7 xU stop):=dZ (fun g F h=>by
 unfold xU at h;grind [aoI,aoK,O21,O45]) fun g h=>by
 unfold xU at h;split at h;all_goals first|(cases h;done) |kernel_rfl
theorem adg:EL Tryz.fns=aj:=by kernel_rfl
section
variable{H0:Mem}{w0:World}{φ:Sh->Prop}{o m:Nat}{og mg:Nat->List Sh}{mo:Int}{l l2:Nat}
def XO(y:Bool)(a:Sh)(i p:Int)(e:Sh):Sh:=.mV [.agg [.b y,.sl 0 0 (fun _=>[]),a,.i .i64 i,.i .i64 p],e]
theorem adh{j:Nat}{gg:Nat->List Sh}{p i:Int}
  (h1:mD.le i (mD.nH m)=aj->Xd o i m=aj)
  (h2:mD.le i (mD.nH m)=aj->gaB (.agg [.sl 2 o og,.sl 8 (uh i m) mg]) 3 mo=aj)
  (h3:mD.le i (mD.nH m)=aj->Ag (.agg [.sl 2 o og,.sl 8 (uh i m) mg]) 3 mo=aj->zK (.agg [.sl 2 o og,.sl 8 (uh i m) mg]) 3 mo=ag->φ (XO ag (.sl 0 0 (fun _=>[])) i (mD.max p (Es (.agg [.sl 2 o og,.sl 8 (uh i m) mg]) 3 mo)) (.v .nilIface)))
  (h4:mD.le i (mD.nH m)=aj->Ag (.agg [.sl 2 o og,.sl 8 (uh i m) mg]) 3 mo=aj->zK (.agg [.sl 2 o og,.sl 8 (uh i m) mg]) 3 mo=aj->mD.room (mD.addN j 1) 24=aj)
  (h5:mD.le i (mD.nH m)=aj->Ag (.agg [.sl 2 o og,.sl 8 (uh i m) mg]) 3 mo=aj->zK (.agg [.sl 2 o og,.sl 8 (uh i m) mg]) 3 mo=aj->
   rE ah (C7 mD W7 xU ny) (K0 H0 w0) 106 aq FT (L106 o m og mg mo l l2 (mD.addN j 1) (mD.snoc gg j (nM [[.sl 2 (ND (.agg [.sl 2 o og,.sl 8 (uh i m) mg]) 3 mo) (mF (NG (.agg [.sl 2 o og,.sl 8 (uh i m) mg]) 3 mo))]])) ag (.sym .i64 (mD.max p (Es (.agg [.sl 2 o og,.sl 8 (uh i m) mg]) 3 mo))) (mD.add .i64 i 1)) (XM l l2) φ)
  (h6:mD.le i (mD.nH m)=aj->Ag (.agg [.sl 2 o og,.sl 8 (uh i m) mg]) 3 mo=ag->φ (XO ag (.sl 0 0 (fun _=>[])) 0 0 (.er 0 329)))
  (h7:mD.le i (mD.nH m)=ag->φ (XO aj (.os 42 1 j gg) 0 p (.v .nilIface))) :
  rE ah (C7 mD W7 xU ny) (K0 H0 w0) 106 aq FT (L106 o m og mg mo l l2 j gg ag (.sym .i64 p) i) (XM l l2) φ:=by
 refine EM (fn:=gW) (tb:=ame) (by kernel_rfl) (by kernel_rfl) ?_;refine vJ (aS _ _) (NI _) adg (pause:=wF) (m:=300) (n:=800) (ts:=[⟨106,aq,FT,L106 o m og mg mo l l2 (mD.addN j 1) (mD.snoc gg j (nM [[.sl 2 (ND (.agg [.sl 2 o og,.sl 8 (uh i m) mg]) 3 mo) (mF (NG (.agg [.sl 2 o og,.sl 8 (uh i m) mg]) 3 mo))]])) ag (.sym .i64 (mD.max p (Es (.agg [.sl 2 o og,.sl 8 (uh i m) mg]) 3 mo))) (mD.add .i64 i 1),XM l l2⟩]) ?_;exact adf (by kernel_rfl) (nd (mD.le i (mD.nH m)) (fun c=>an (h1 c) (an (h2 c) (nd (Ag (.agg [.sl 2 o og,.sl 8 (uh i m) mg]) 3 mo) (fun c2=>nd (mD.nt (zK (.agg [.sl 2 o og,.sl 8 (uh i m) mg]) 3 mo)) (fun c3=>h3 c c2 (by grind [oP])) (fun c3=>an (h4 c c2 (by grind [oP])) (h5 c c2 (by grind [oP])))) (fun c2=>h6 c c2)))) (fun c=>h7 c)) (by kernel_rfl)
theorem ah4(h1:Xd o 0 m=aj)(h2:gaB (.agg [.sl 2 o og,.sl 8 (uh 0 m) mg]) 3 mo=aj)
  (h3:Ag (.agg [.sl 2 o og,.sl 8 (uh 0 m) mg]) 3 mo=aj->zK (.agg [.sl 2 o og,.sl 8 (uh 0 m) mg]) 3 mo=ag->φ (XO ag (.sl 0 0 (fun _=>[])) 0 (mD.max 0 (Es (.agg [.sl 2 o og,.sl 8 (uh 0 m) mg]) 3 mo)) (.v .nilIface)))
  (h5:Ag (.agg [.sl 2 o og,.sl 8 (uh 0 m) mg]) 3 mo=aj->zK (.agg [.sl 2 o og,.sl 8 (uh 0 m) mg]) 3 mo=aj->
   rE ah (C7 mD W7 xU ny) (K0 H0 w0) 106 aq FT (L106 o m og mg mo l l2 1 (nM [[.sl 2 (ND (.agg [.sl 2 o og,.sl 8 (uh 0 m) mg]) 3 mo) (mF (NG (.agg [.sl 2 o og,.sl 8 (uh 0 m) mg]) 3 mo))]]) ag (.sym .i64 (mD.max 0 (Es (.agg [.sl 2 o og,.sl 8 (uh 0 m) mg]) 3 mo))) (mD.add .i64 0 1)) (XM l l2) φ)
  (h6:Ag (.agg [.sl 2 o og,.sl 8 (uh 0 m) mg]) 3 mo=ag->φ (XO ag (.sl 0 0 (fun _=>[])) 0 0 (.er 0 329)))
  (h7:mD.le 0 (mD.nH m)=ag->φ (XO aj (.sl 0 0 (fun _=>[])) 0 0 (.v .nilIface))) :
  rE ah (C7 mD W7 xU ny) (K0 H0 w0) 106 aq FT (L106 o m og mg mo l l2 0 (fun _=>[]) aj (.int .i64 0) 0) (XM l l2) φ:=by
 refine EM (fn:=gW) (tb:=ame) (by kernel_rfl) (by kernel_rfl) ?_;refine vJ (aS _ _) (NI _) adg (pause:=wF) (m:=300) (n:=800) (ts:=[⟨106,aq,FT,L106 o m og mg mo l l2 1 (nM [[.sl 2 (ND (.agg [.sl 2 o og,.sl 8 (uh 0 m) mg]) 3 mo) (mF (NG (.agg [.sl 2 o og,.sl 8 (uh 0 m) mg]) 3 mo))]]) ag (.sym .i64 (mD.max 0 (Es (.agg [.sl 2 o og,.sl 8 (uh 0 m) mg]) 3 mo))) (mD.add .i64 0 1),XM l l2⟩]) ?_;exact adf (by kernel_rfl) (nd (mD.le 0 (mD.nH m)) (fun c=>an h1 (an h2 (nd (Ag (.agg [.sl 2 o og,.sl 8 (uh 0 m) mg]) 3 mo) (fun c2=>nd (mD.nt (zK (.agg [.sl 2 o og,.sl 8 (uh 0 m) mg]) 3 mo)) (fun c3=>h3 c2 (by grind [oP])) (fun c3=>h5 c2 (by grind [oP]))) (fun c2=>h6 c2)))) (fun c=>h7 c)) (by kernel_rfl)
end
end Go.Proofs
namespace Go.oD
open Go Go.Sx
theorem take_split{p:Nat->Ev}:∀(a b k:Nat) (σ:Au),takeN p σ k (a+b)=match takeN p σ k a with| .inl σ'=>takeN p σ' (k+a) b| .inr x=>.inr x
 |0,b,k,σ=>by rw[Nat.zero_add];rfl |a+1,b,k,σ=>by
  rw[show a+1+b=(a+b)+1 by omega,takeN,takeN];cases hf:(σ.feed (p k)).1 with
  |some e=>rfl |none=>
   show takeN p (σ.feed (p k)).2 (k+1) (a+b)=_;rw[take_split a b (k+1),show k+1+a=k+(a+1) by omega]
theorem ah5{σ:Au}{e:Ev}:σ.rs.length<=(σ.feed e).2.rs.length:=by
 grind [Au.feed]
theorem take_len{p:Nat->Ev}:∀(r k:Nat) (σ σ':Au),takeN p σ k r=.inl σ'->σ.rs.length<=σ'.rs.length
 |0,k,σ,σ',h=>by
  have h:(Sum.inl σ:Au ⊕ (Nat×Nat))=.inl σ':=h;simp_all
 |r+1,k,σ,σ',h=>by
  unfold takeN at h;cases hf:(σ.feed (p k)).1 with
  |some e=>simp_all |none=>
   rw[hf] at h;exact Nat.le_trans ah5 (take_len r (k+1) _ σ' h)
theorem adi{f:Nat->Option Nat}:∀{r k:Nat},(∀j,k<=j->j<k+r->f j=aq)->xO f k r=aq
 |0,k,_=>rfl |r+1,k,h=>by
  rw[xO,h k (Nat.le_refl _) (by omega)];exact adi fun j h1 h2=>h j (by omega) (by omega)
end Go.oD
namespace Go.Pl
open Go Go.Sx Go.Proofs Go.Gm Go.Bf
section
variable{n m:Nat}{g h:Nat->List Sh}
theorem Ak.pre(P:Ak n g m h){i:Nat}(hi:i<=m):Ak n g i h:=
 ⟨P.o,Go.oD.Ph (o:=aP h) fun j hj=>gx P.p j (by omega),be.2 fun k hk=>be.1 P.r k (bh.2 (by grind)),P.k⟩
theorem Um(hok:(nJ n g m h).okb=aj){i:Nat}(hi:i<=m):(nJ n g i h).okb=aj/\(nJ n g i h).n<=(nJ n g m h).n:=by
 have hok:(!Go.oD.wS n m&&(d8 n m g h&&dt m (aP h)))=aj:=hok;rw[al,al,br] at hok;obtain ⟨h1,h2,h3⟩:=hok;have e1:gZ n i=ag:=by
  grind [gZ]
 have e2:d8 n i g h=aj:=by
  unfold d8 Go.oD.Lp at h2 ⊢;cases hs:Go.oD.xO (fun k=>Go.oD.FM (aP (α:=Go.oD.Oj) g k)) 0 n with
  |some x=>simp_all |none=>
   rw[hs] at h2;simp only[Option.isNone_iff_eq_none] at h2 ⊢;exact Go.oD.adi fun j a b=>Go.oD.Ip h2 j a (by omega)
 have sp:=Go.oD.take_split (p:=aP h) i (m - i) 0 dC;rw[show i+(m - i)=m by omega] at sp;have e3:dt i (aP h)=aj/\(gQ i (aP h)).rs.length<=(gQ m (aP h)).rs.length:=by
  unfold dt gQ kq;unfold dt kq at h3;cases hi':kr (aP h) dC 0 i with
  |inr x=>
   simp_all
  |inl σ=>
   rw[hi'] at sp;refine ⟨rfl,?_⟩;cases hm:kr (aP h) dC 0 m with
   |inr x=>grind |inl σ'=>
    rw[hm] at sp;exact Go.oD.take_len _ _ _ _ sp.symm
 refine ⟨?_,e3.2⟩;show (!Go.oD.wS n i&&(d8 n i g h&&dt i (aP h)))=aj;simp_all
theorem amh{i:Nat}(hi:i<=m):uh (i:Int) m=i:=by unfold uh;omega
theorem aas(hok:(nJ n g m h).okb=aj):n<=8/\m<=400:=by
 have hok:(!Go.oD.wS n m&&(d8 n m g h&&dt m (aP h)))=aj:=hok;simp_all [al,gZ]
end
noncomputable def TQ(s:Sh)(mo:Int):Bool:=hpB s&&((NH s).okb&&(decide ((NH s).n<=12)&&wu mo))
noncomputable def TR(s:Sh)(mo:Int):Bool:=!((Bl s mo).1==2)
noncomputable def XP(s:Sh)(mo:Int):Bool:=(Bl s mo).1==0
noncomputable def oaN(s:Sh)(mo:Int):Nat:=if (Bl s mo).1=0 then (Bl s mo).2.1 else 0
noncomputable def oaF(s:Sh)(mo:Int):Nat->List Sh:=if (Bl s mo).1=0 then alF s mo else fun _=>[]
noncomputable def oiI(s:Sh)(mo:Int):Int:=if (Bl s mo).1=0 then 0 else ((Bl s mo).2.1:Nat)
noncomputable def ocI(s:Sh)(mo:Int):Int:=(Bl s mo).2.2
theorem YW(ok yes:Nat->Bool)(cnt:Nat->Int):∀r i p,(IX ok yes cnt r i p).1<=2
 |0,i,p=>bZ _ |r+1,i,p=>by
  rw[IX];cases ok i with
  |false=>simp |true=>cases yes i with
   |false=>simp |true=>exact YW ok yes cnt r (i+1) _
end Go.Pl
namespace Go.Proofs
open Go Go.Sx Go.Pl Go.Gm Go.Bf
noncomputable def ami:List Sh->Tree Sh
 |[s,t]=>match nR t with
  |some mo=>.need (TQ s mo) (.node (TR s mo) (.leaf (.mV [.agg [.b (XP s mo),.sl 2 0 (fun _=>[]),.sl 1 (oaN s mo) (oaF s mo),.i .i64 (oiI s mo),.i .i64 (ocI s mo)],.v .nilIface]))
    (.leaf (.mV [.agg [.b ag,.sl 2 0 (fun _=>[]),.sl 1 0 (fun _=>[]),.i .i64 0,.i .i64 0],.er 0 329])))
  |none=>.fail
 |_=>.fail
section
variable{H0:Mem}{w0:World}{φ:Sh->Prop}{o m:Nat}{og mg:Nat->List Sh}{mo:Int}{l l2:Nat}
theorem Xe{y:Bool}{a a':Sh}{i p:Int}{e:Sh}(ha:Wk a a')(he:Wk e e):Wk (XO y a i p e) (.mV [.agg [.b y,.sl 2 0 (fun _=>[]),a',.i .i64 i,.i .i64 p],e]):=
 ⟨⟨.inl rfl,.inl ⟨rfl,rfl⟩,ha,rfl,rfl,trivial⟩,he,trivial⟩
theorem adk(P:Ak o og m mg)(hok:(nJ o og m mg).okb=aj)(hn:(nJ o og m mg).n<=12)(hmo:wu mo=aj):∀r i p gg,i+r=m+1->1<=i->(∀k,k<i->gg k=alF (hsS o og m mg) mo k)->φ (oqS (hsS o og m mg) mo (oqR (hsS o og m mg) mo r i p))->
  rE ah (C7 mD W7 xU ny) (K0 H0 w0) 106 aq FT (L106 o m og mg mo l l2 i gg ag (.sym .i64 p) (i:Nat)) (XM l l2) (up φ)
 |0,i,p,gg,hi,h1,hg,hφ=>by
  have no {X:Prop} (c:mD.le (i:Int) (mD.nH m)=aj):X:=by grind [su,nI]
  exact adh (fun c=>no c) (fun c=>no c) (fun c=>no c) (fun c=>no c) (fun c=>no c) (fun c=>no c) (fun _=>oq (Xe (a':=.sl 1 i (alF (hsS o og m mg) mo)) (.inr ⟨rfl,rfl,hg⟩) rfl) hφ)
 |r+1,i,p,gg,hi,h1,hg,hφ=>by
  have fw:=aas hok;have hle:i<=m:=by omega
  have no {X:Prop} (c:mD.le (i:Int) (mD.nH m)=ag):X:=by simp_all [su,nI]
  have ep:uh (i:Int) m=i:=amh hle;obtain ⟨k1,k2⟩:=Um hok hle;have ga:gaB (.agg [.sl 2 o og,.sl 8 (uh (i:Int) m) mg]) 3 mo=aj:=by
   rw[ep];exact afa (P.pre hle) (by decide) hmo (by show ((nJ o og i mg).okb&&decide ((nJ o og i mg).n<=12))=aj;grind)
  have pf:Xd o (i:Int) m=aj:=by
   unfold Xd;rw[ep,al];exact ⟨room_le (by omega) (by omega),room_le (by omega) (by omega)⟩
  rw[oqR,IX] at hφ;have nx:=adk P hok hn hmo r (i+1) (mD.max p (Es (Ew (hsS o og m mg) i) 3 mo)) (mD.snoc gg i (nM [[.sl 2 (ND (.agg [.sl 2 o og,.sl 8 i mg]) 3 mo) (mF (NG (.agg [.sl 2 o og,.sl 8 i mg]) 3 mo))]])) (by omega) (by omega) (fun k hk=>by
   rw[tY];split
   ·simp_all
   ·have:k=i:=by omega
    subst this;rw[gU];rfl)
  refine adh (fun _=>pf) (fun _=>ga) (fun _ c2 c3=>?_) (fun _ _ _=>room_le (by rw[qy];omega) (by omega)) (fun _ c2 c3=>?_) (fun _ c2=>?_) (fun c=>no c);all_goals rw[ep] at *
  ·have e2:Ag (Ew (hsS o og m mg) i) 3 mo=aj:=c2
   have e3:zK (Ew (hsS o og m mg) i) 3 mo=ag:=c3;rw[e2,e3] at hφ;exact oq (Xe (a':=.sl 1 0 (fun _=>[])) (.inl ⟨rfl,rfl⟩) rfl) hφ
  ·have e2:Ag (Ew (hsS o og m mg) i) 3 mo=aj:=c2
   have e3:zK (Ew (hsS o og m mg) i) 3 mo=aj:=c3;rw[e2,e3] at hφ;have e4:mD.add .i64 (i:Int) 1=((i+1:Nat):Int):=add1 (by omega);rw[e4];exact nx hφ
  ·have e2:Ag (Ew (hsS o og m mg) i) 3 mo=ag:=c2
   rw[e2] at hφ;exact oq (Xe (a':=.sl 1 0 (fun _=>[])) (.inl ⟨rfl,rfl⟩) rfl) hφ
end
open Go Go.Sx Go.Pl Go.Gm Go.Bf
theorem O48:nG ah (nY W7) 48 ami:=by
 intro H w nV args φ hon hgl hr hφ;unfold ami at hφ;split at hφ
 ·rename_i s t
  split at hφ
  ·rename_i mo e1
   obtain ⟨q1,q2,q3⟩:=hφ;unfold TQ at q1;simp only[al,decide_eq_true_eq] at q1;obtain ⟨b1,b2,b3,b4⟩:=q1;have b1':=b1;obtain ⟨o,og,m,mg,rfl,P⟩:=@of_decide_eq_true _ (aB _) b1;have hok:(nJ o og m mg).okb=aj:=b2;have hn:(nJ o og m mg).n<=12:=b3;have fw:=aas hok;have hφ:φ (oqS (hsS o og m mg) mo (Bl (hsS o og m mg) mo)):=by
    have hk:=YW (fun i=>Ag (Ew (hsS o og m mg) i) 3 mo) (fun i=>zK (Ew (hsS o og m mg) i) 3 mo) (fun i=>Es (Ew (hsS o og m mg) i) 3 mo) (evN (hsS o og m mg)+1) 0 0;have hk:(Bl (hsS o og m mg) mo).1<=2:=hk;unfold TR XP oaN oaF oiI ocI at q2;unfold TR at q3;unfold oqS;generalize Bl (hsS o og m mg) mo=x at *;obtain ⟨a,b,c⟩:=x;match a,hk with
    |0,_=>exact q2 rfl |1,_=>exact q2 rfl |2,_=>exact q3 rfl
   match args,hr with
   |[a0,a1],⟨r0,r1,_⟩=>
   have h69:eJ.ntmps=69:=by kernel_rfl
   refine yC (C:=C7 mD W7 xU ny) (aS _ _) (fn:=eJ) (qV:=[hsS o og m mg,.i .i64 mo]) (L:=L0) (by kernel_rfl) (by kernel_rfl) hon hgl ⟨r0,qW e1 r1,trivial⟩ (amf ?_);rw[h69];have mo2:1<=mo/\mo<=65536:=by
    simp_all [wu]
   have tk:tkB (hsS o og m mg)=aj:=by simp_all [tkB]
   have e0:uh 0 m=0:=amh (i:=0) (bZ _);obtain ⟨k1,k2⟩:=Um hok (i:=0) (bZ _);have ga:gaB (.agg [.sl 2 o og,.sl 8 (uh 0 m) mg]) 3 mo=aj:=by
    rw[e0];exact afa (P.pre (bZ _)) (by decide) b4 (by show ((nJ o og 0 mg).okb&&decide ((nJ o og 0 mg).n<=12))=aj;grind)
   have pf:Xd o 0 m=aj:=by
    unfold Xd;rw[e0,al];exact ⟨room_le (by omega) (by omega),room_le (by omega) (by omega)⟩
   have cl:clB o m=aj:=by
    unfold clB;rw[al];exact ⟨room_le (by omega) (by omega),room_le (by omega) (by omega)⟩
   have start (l l2:Nat):rE ah (C7 mD W7 xU ny) (K0 H w) 106 aq FT (L106 o m og mg mo l l2 0 (fun _=>[]) aj (.int .i64 0) 0) (XM l l2) (up φ):=by
    have hx:Bl (hsS o og m mg) mo=oqR (hsS o og m mg) mo (m+1) 0 0:=rfl;rw[hx,oqR,IX] at hφ;have as8 {X:Prop} (c:mD.le 0 (mD.nH m)=ag):X:=by simp[su,nI] at c
    refine ah4 pf ga (fun c2 c3=>?_) (fun c2 c3=>?_) (fun c2=>?_) (fun c=>as8 c);all_goals rw[e0] at *
    ·have e2:Ag (Ew (hsS o og m mg) 0) 3 mo=aj:=c2
     have e3:zK (Ew (hsS o og m mg) 0) 3 mo=ag:=c3;rw[e2,e3] at hφ;exact oq (Xe (a':=.sl 1 0 (fun _=>[])) (.inl ⟨rfl,rfl⟩) rfl) hφ
    ·have e2:Ag (Ew (hsS o og m mg) 0) 3 mo=aj:=c2
     have e3:zK (Ew (hsS o og m mg) 0) 3 mo=aj:=c3;rw[e2,e3] at hφ;exact adk P hok hn b4 m 1 _ _ (by omega) (by omega) (fun k hk=>by
      obtain rfl:k=0:=by omega
      rfl) hφ
    ·have e2:Ag (Ew (hsS o og m mg) 0) 3 mo=ag:=c2
     rw[e2] at hφ;exact oq (Xe (a':=.sl 1 0 (fun _=>[])) (.inl ⟨rfl,rfl⟩) rfl) hφ
   have ph3 (l l2:Nat):rE ah (C7 mD W7 xU ny) (K0 H w) 106 aq [.code []] {L80 o m og mg mo l with tm:=(.val (yv l2)::[.ptr 6 0])++bp (18 - (1+1)) .any} (XM l l2) (up φ):=by
    refine vJ (aS _ _) (NI _) adg (pause:=wF) (m:=300) (n:=800) (ts:=[⟨106,aq,FT,L106 o m og mg mo l l2 0 (fun _=>[]) aj (.int .i64 0) 0,XM l l2⟩]) ?_;exact adf (by kernel_rfl) (start l l2) (by kernel_rfl)
   have as9 (l:Nat):rE ah (C7 mD W7 xU ny) (K0 H w) 80 aq (.code ade::k80) (L80 o m og mg mo l) (s48 l) (up φ):=by
    refine Hu (aS _ _) (NI _) (fn:=gy) (uO:=gW) (g2:=106) (caps:=[.ptr 6 0]) (by kernel_rfl) (x:=.tmp 9) (ps:=#[10,11]) (ca:=nP (mX gy) (0::ade)) (cb:=nP (mX gy) (1::ade)) (by kernel_rfl) (by kernel_rfl) (by kernel_rfl) (by kernel_rfl) fun l2=>?_
    have h18:gW.ntmps=18:=by kernel_rfl
    rw[h18];exact ph3 l l2
   have ph2 (l:Nat):rE ah (C7 mD W7 xU ny) (K0 H w) 80 aq [.code []] {L48 o m og mg mo with tm:=(.val (yv l)::[.ptr 3 0,.ptr 4 0])++bp (29 - (1+2)) .any} (s48 l) (up φ):=by
    refine vJ (aS _ _) (NI _) adg (pause:=wF) (m:=300) (n:=800) (ts:=[⟨80,aq,.code ade::k80,L80 o m og mg mo l,s48 l⟩]) ?_;exact adf (by kernel_rfl) (an cl (as9 l)) (by kernel_rfl)
   refine vJ (aS _ _) (NI _) adg (pause:=wF) (m:=300) (n:=800) (ts:=[⟨48,aq,.code adb::k48,L48 o m og mg mo,[]⟩]) ?_;have ph1:rE ah (C7 mD W7 xU ny) (K0 H w) 48 aq (.code adb::k48) (L48 o m og mg mo) [] (up φ):=by
    refine Hu (aS _ _) (NI _) (fn:=eJ) (uO:=gy) (g2:=80) (caps:=[.ptr 3 0,.ptr 4 0]) (by kernel_rfl) (x:=.tmp 36) (ps:=#[37,38]) (ca:=nP (mX eJ) (0::adb)) (cb:=nP (mX eJ) (1::adb)) (by kernel_rfl) (by kernel_rfl) (by kernel_rfl) (by kernel_rfl) fun l=>?_
    have h29:gy.ntmps=29:=by kernel_rfl
    rw[h29];exact ph2 l
   have n1 {X:Prop} (c:mD.lt mo 1=aj):X:=by grind [mQ]
   have n2 {X:Prop} (c:mD.lt 65536 mo=aj):X:=by grind [mQ]
   have n3 {X:Prop} (c:mD.lt 12 (mD.nH (tnN (hsS o og m mg)))=aj):X:=by
    grind [tnN,hsS,mQ,nI]
   exact adf (by kernel_rfl) (nd (mD.lt mo 1) (fun c=>(n1 c:up φ (XO ag (.sl 0 0 (fun _=>[])) 0 0 (.er 4 329)))) (fun _=>nd (mD.lt 65536 mo) (fun c=>(n2 c:up φ (XO ag (.sl 0 0 (fun _=>[])) 0 0 (.er 4 329)))) (fun _=>an tk (nd (mD.lt 12 (mD.nH (tnN (hsS o og m mg)))) (fun c=>(n3 c:up φ (XO ag (.sl 0 0 (fun _=>[])) 0 0 (.er 1 329)))) (fun _=>ph1))))) (by kernel_rfl)
  ·exact hφ.elim
 ·exact hφ.elim
end Go.Proofs
namespace Go.Pl
open Go Go.Sx Go.Proofs Go.Gm Go.Bf
noncomputable def juB(s:Sh)(lv mo:Int):Bool:=TQ s mo&&decide (1<=lv/\lv<=4)
noncomputable def Ir(s:Sh)(lv mo:Int):Bool:=if lv=4 then TR s mo else Ag s lv mo
noncomputable def IY(s:Sh)(lv mo:Int):Bool:=if lv=4 then XP s mo else zK s lv mo
noncomputable def jsN(s:Sh)(lv mo:Int):Nat:=if lv=4 then 0 else ND s lv mo
noncomputable def jsF(s:Sh)(lv mo:Int):Nat->Ie:=if lv=4 then fun _=>default else NG s lv mo
noncomputable def jaN(s:Sh)(lv mo:Int):Nat:=if lv=4 then oaN s mo else 0
noncomputable def jaF(s:Sh)(lv mo:Int):Nat->List Sh:=if lv=4 then oaF s mo else fun _=>[]
noncomputable def jpI(s:Sh)(lv mo:Int):Int:=if lv=4 then oiI s mo else 0
noncomputable def jcI(s:Sh)(lv mo:Int):Int:=if lv=4 then ocI s mo else Es s lv mo
noncomputable def jeB(k:Nat)(s:Sh)(lv mo:Int):Bool:=hpB s&&(decide (1<=lv/\lv<=4)&&(if k=4 then !wu mo else wu mo&&(!(qZ s 1).okb&&(if k=0 then (qZ s 1).xC else !(qZ s 1).xC&&(qZ s 1).e==k))))
noncomputable def jxI(s:Sh):Int:=(qZ s 1).pos
noncomputable def jxN(s:Sh):Nat:=(qZ s 1).e
end Go.Pl
namespace Go.Proofs
open Go Go.Sx Go.Pl Go.Gm Go.Bf
noncomputable def Un:Nat->Option (List Sh->Tree Sh)
 |15=>ae agB |48=>ae ami |_=>aq
def La(e:Sh):Sh:=.mV [.agg [.b ag,.sl 2 0 (fun _=>[]),.sl 1 0 (fun _=>[]),.i .i64 0,.i .i64 0],e]
theorem Dp{e:Sh}(he:Wk e e):Wk (.mV [.agg [.b ag,.sl 0 0 (fun _=>[]),.sl 0 0 (fun _=>[]),.i .i64 0,.i .i64 0],e]) (La e):=
 ⟨⟨.inl rfl,.inl ⟨rfl,rfl⟩,.inl ⟨rfl,rfl⟩,rfl,rfl,trivial⟩,he,trivial⟩
noncomputable def YX:List Sh->Tree Sh
 |[s,t,u]=>match nR t,nR u with
  |some lv,ae mo=>.need (juB s lv mo) (.node (Ir s lv mo) (.leaf (.mV [.agg [.b (IY s lv mo),.sl 2 (jsN s lv mo) (mF (jsF s lv mo)),.sl 1 (jaN s lv mo) (jaF s lv mo),.i .i64 (jpI s lv mo),.i .i64 (jcI s lv mo)],.v .nilIface]))
    (.leaf (.mV [.agg [.b ag,.sl 2 0 (fun _=>[]),.sl 1 0 (fun _=>[]),.i .i64 0,.i .i64 0],.er 0 329])))
  |_,_=>.fail
 |_=>.fail
theorem ara(stop:Nat->List Nat->Bool):oH ah (C7 mD W7 Un stop):=dZ (fun g F h=>by
 unfold Un at h;grind [aoI,O48]) fun g h=>by
 unfold Un at h;split at h;all_goals first|(cases h;done) |kernel_rfl
theorem O26:nG ah (nY W7) 26 YX:=by
 intro H w nV args φ hon hgl hr hφ;unfold YX at hφ;split at hφ
 ·rename_i s t u
  split at hφ
  ·rename_i lv mo e1 e2
   obtain ⟨q1,q2,q3⟩:=hφ;unfold juB at q1;rw[al,decide_eq_true_eq] at q1;obtain ⟨q1,hlv⟩:=q1;have hop:=q1;unfold TQ at q1;simp only[al,decide_eq_true_eq] at q1;obtain ⟨b1,b2,b3,b4⟩:=q1;obtain ⟨o,og,m,mg,rfl,P⟩:=@of_decide_eq_true _ (aB _) b1;have hb (l:Int):(qZ (hsS o og m mg) l).okb=aj:=by
    show ((nJ o og m mg).okb&&decide ((nJ o og m mg).n<=12))=aj;rw[show (nJ o og m mg).okb=aj from b2,decide_eq_true (show (nJ o og m mg).n<=12 from b3)];rfl
   match args,hr with
   |[a0,a1,a2],⟨r0,r1,r2,_⟩=>
   refine yC (C:=C7 mD W7 Un ny) (aS _ _) (fn:=iw) (qV:=[hsS o og m mg,.i .i64 lv,.i .i64 mo]) (L:=L0) (by kernel_rfl) (by kernel_rfl) hon hgl ⟨r0,qW e1 r1,qW e2 r2,trivial⟩ ?_;have hn:iw.ntmps=35:=by kernel_rfl
   refine uz (aS _ _) (ara _) (hold:=oG) (m:=300) (n:=400) (ts:=[]) ?_;rw[hn];have bud (c:Ir (hsS o og m mg) lv mo=ag):up φ (.mV [.agg [.b ag,.sl 0 0 (fun _=>[]),.sl 0 0 (fun _=>[]),.i .i64 0,.i .i64 0],.er 0 329]):=oq (Dp rfl) (q3 c);have is4 (c:mD.eq lv 4=aj):lv=4:=by grind [nC]
   have no4 (c:mD.eq lv 4=ag):lv≠4:=by grind [nC]
   have a1 (c:mD.eq lv 4=aj) (c2:TR (hsS o og m mg) mo=aj):up φ (.mV [.agg [.b (XP (hsS o og m mg) mo),.sl 2 0 (fun _=>[]),.sl 1 (oaN (hsS o og m mg) mo) (oaF (hsS o og m mg) mo),.i .i64 (oiI (hsS o og m mg) mo),.i .i64 (ocI (hsS o og m mg) mo)],.v .nilIface]):=by
    have e:=is4 c;have q:=q2 (by simp_all [Ir]);unfold IY jsN jsF jaN jaF jpI jcI at q;rw[if_pos e,if_pos e,if_pos e,if_pos e,if_pos e,if_pos e,if_pos e] at q;exact oq (s':=.mV [.agg [.b (XP (hsS o og m mg) mo),.sl 2 0 (mF fun _=>(default:Ie)),.sl 1 (oaN (hsS o og m mg) mo) (oaF (hsS o og m mg) mo),.i .i64 (oiI (hsS o og m mg) mo),.i .i64 (ocI (hsS o og m mg) mo)],.v .nilIface]) ⟨⟨.inl rfl,.inl ⟨rfl,rfl⟩,.inr ⟨rfl,rfl,fun _ _=>rfl⟩,rfl,rfl,trivial⟩,rfl,trivial⟩ q
   have a2 (c:mD.eq lv 4=aj) (c2:TR (hsS o og m mg) mo=ag):up φ (.mV [.agg [.b ag,.sl 2 0 (fun _=>[]),.sl 1 0 (fun _=>[]),.i .i64 0,.i .i64 0],.er 0 329]):=
    oq (s':=La (.er 0 329)) ⟨⟨.inl rfl,.inl ⟨rfl,rfl⟩,.inl ⟨rfl,rfl⟩,rfl,rfl,trivial⟩,rfl,trivial⟩ (q3 (by simp_all [Ir]))
   have a3 (c:mD.eq lv 4=ag) (c2:Ag (hsS o og m mg) lv mo=aj):up φ (.mV [.agg [.b (zK (hsS o og m mg) lv mo),.sl 2 (ND (hsS o og m mg) lv mo) (mF (NG (hsS o og m mg) lv mo)),.sl 0 0 (fun _=>[]),.i .i64 0,.i .i64 (Es (hsS o og m mg) lv mo)],.v .nilIface]):=by
    have e:=no4 c;have q:=q2 (by simp_all [Ir]);unfold IY jsN jsF jaN jaF jpI jcI at q;rw[if_neg e,if_neg e,if_neg e,if_neg e,if_neg e,if_neg e,if_neg e] at q;exact oq (s':=.mV [.agg [.b (zK (hsS o og m mg) lv mo),.sl 2 (ND (hsS o og m mg) lv mo) (mF (NG (hsS o og m mg) lv mo)),.sl 1 0 (fun _=>[]),.i .i64 0,.i .i64 (Es (hsS o og m mg) lv mo)],.v .nilIface]) ⟨⟨.inl rfl,.inr ⟨rfl,rfl,fun _ _=>rfl⟩,.inl ⟨rfl,rfl⟩,rfl,rfl,trivial⟩,rfl,trivial⟩ q
   have ga (c:mD.eq lv 4=ag):gaB (hsS o og m mg) lv mo=aj:=afa P (by grind) b4 (hb lv);exact um (nd (mD.eq lv 4) (fun c=>an hop (nd (TR (hsS o og m mg) mo) (a1 c) (a2 c))) (fun c=>an (ga c) (nd (Ag (hsS o og m mg) lv mo) (a3 c) (fun c2=>bud (by simp_all [Ir]))))) (by kernel_rfl)
  ·exact hφ.elim
 ·exact hφ.elim
end Go.Proofs
namespace Go.Pl
open Go Go.Sx Go.Proofs Go.Gm Go.Bf
noncomputable def qI(s:Sh)(lv mo:Int):Nat:=if Ir s lv mo=aj then (if IY s lv mo=aj then 1 else 2) else 3
noncomputable def jvB(x:Nat)(s:Sh)(lv mo:Int):Bool:=juB s lv mo&&qI s lv mo==x
noncomputable def lvF(s:Sh)(mo:Int):Nat->List Sh:=fun k=>[.i .i64 (qI s (k+1:Nat) mo:Nat)]
end Go.Pl
namespace Go.Proofs
open Go Go.Sx Go.Pl
def Ah:List It:=[aH [0,1,0,1,1],aW 0,aH [1,1,1]]
def aaA:List It:=aH [0,0,1,0,1,1]::Ah
def agD(j:Nat)(gg:Nat->List Sh):Bool->SV×List (Nat×SB)
 |true=>(.nD,[]) |false=>(.gs 1,[(1,.own 3 1 j gg)])
def an4:Bool->Nat
 |true=>1 |false=>2
def FU(o m:Nat)(og mg:Nat->List Sh)(mo:Int)(j:Nat)(gg:Nat->List Sh)(v:Bool)(i:Int):Core:=
 {tm:=vZ 42 [(1,.sym .i64 mo),(2,.ptr 0 0),(6,(agD j gg v).1),(7,.sym .i64 i)],hp:=[(0,.box [.sh (.sl 2 o og),.sh (.sl 8 m mg)] 25)]++(agD j gg v).2,nx:=an4 v,lim:=L0,tc:=[]}
noncomputable def aml(x:Nat):List Sh->Tree Sh
 |[s,t,u]=>match nR t,nR u with
  |some lv,ae mo=>.need (jvB x s lv mo) (.leaf (match x with
   |1=>.mV [.agg [.v (.bool aj),.sl 2 (jsN s lv mo) (mF (jsF s lv mo)),.sl 1 (jaN s lv mo) (jaF s lv mo),.i .i64 (jpI s lv mo),.i .i64 (jcI s lv mo)],.v .nilIface] |2=>.mV [.agg [.v (.bool ag),.sl 2 (jsN s lv mo) (mF (jsF s lv mo)),.sl 1 (jaN s lv mo) (jaF s lv mo),.i .i64 (jpI s lv mo),.i .i64 (jcI s lv mo)],.v .nilIface] |_=>La (.er 0 329)))
  |_,_=>.fail
 |_=>.fail
noncomputable def Iu(x:Nat):Nat->Option (List Sh->Tree Sh)
 |26=>ae (aml x) |_=>aq
open Go.Gm Go.Bf
theorem ata(x:Nat):nG ah (nY W7) 26 (aml x):=acA O26 fun nV φ hφ=>by
 unfold aml at hφ;split at hφ
 ·rename_i s t u
  split at hφ
  ·rename_i lv mo e1 e2
   obtain ⟨q,hφ⟩:=hφ;unfold jvB qI at q;rw[al,beq_iff_eq] at q;obtain ⟨q1,q2⟩:=q;refine ⟨_,hφ,?_⟩;unfold YX;simp only[e1,e2];refine ⟨q1,fun c=>?_,fun c=>?_⟩
   ·rw[if_pos c] at q2
    cases hy:IY s lv mo with
    |true=>
     rw[hy,if_pos rfl] at q2;subst q2;exact ⟨⟨.inr rfl,Nb,Nb,rfl,rfl,trivial⟩,rfl,trivial⟩
    |false=>
     rw[hy,if_neg (by simp)] at q2;subst q2;exact ⟨⟨.inr rfl,Nb,Nb,rfl,rfl,trivial⟩,rfl,trivial⟩
   ·rw[if_neg (by rw[c];simp)] at q2
    subst q2;exact ⟨⟨.inl rfl,.inl ⟨rfl,rfl⟩,.inl ⟨rfl,rfl⟩,rfl,rfl,trivial⟩,rfl,trivial⟩
  ·exact hφ.elim
 ·exact hφ.elim
theorem amm(x:Nat)(stop:Nat->List Nat->Bool):oH ah (C7 mD W7 (Iu x) stop):=dZ (fun g F h=>by
 grind [Iu,ata]) fun g h=>by
 unfold Iu at h;split at h;all_goals first|(cases h;done) |kernel_rfl
section
variable{H0:Mem}{w0:World}{φ:Sh->Prop}{o m:Nat}{og mg:Nat->List Sh}{mo:Int}
theorem agE{x:Nat}(hx:x=1\/x=2\/x=3){i:Int}{j:Nat}{gg:Nat->List Sh}(hj:mD.room (mD.addN j 1) 8=aj)(hv:mD.le i 4=aj->jvB x (hsS o og m mg) i mo=aj)
  (nx:mD.le i 4=aj->nX ah (C7 mD W7 noSpec ny) (K0 H0 w0) 25 Ah (FU o m og mg mo (mD.addN j 1) (mD.snoc gg j (nM [[.i .i64 (x:Nat)]])) ag (mD.add .i64 i 1)) [] emp φ) (no:mD.le i 4=ag->φ (.mV [.os 3 1 j gg,.v .nilIface])) :
  nX ah (C7 mD W7 noSpec ny) (K0 H0 w0) 25 Ah (FU o m og mg mo j gg ag i) [] emp φ:=by
 refine ER (s:=Iu x) (stop:=ny) ?_;have nx:=fun c=>ER (s':=Iu x) (stop':=ny) (nx c);refine wY (fn:=eK) (tb:=aaA) (by kernel_rfl) (by kernel_rfl) ?_;refine uz (aS _ _) (amm x _) (hold:=oG) (m:=300) (n:=400) (ts:=[⟨25,Ah,FU o m og mg mo (mD.addN j 1) (mD.snoc gg j (nM [[.i .i64 (x:Nat)]])) ag (mD.add .i64 i 1),[]⟩]) ?_;have tm:=nd (mD.le i 4) (fun c=>an (hv c) (an hj (nx c))) no;rcases hx with rfl|rfl|rfl
 ·exact J5 (by kernel_rfl) tm (by kernel_rfl)
 ·exact J5 (by kernel_rfl) tm (by kernel_rfl)
 ·exact J5 (by kernel_rfl) tm (by kernel_rfl)
theorem amn{x:Nat}(hx:x=1\/x=2\/x=3)(hv:jvB x (hsS o og m mg) 1 mo=aj)
  (nx:nX ah (C7 mD W7 noSpec ny) (K0 H0 w0) 25 Ah (FU o m og mg mo 1 (nM [[.i .i64 (x:Nat)]]) ag (mD.add .i64 1 1)) [] emp φ) :
  nX ah (C7 mD W7 noSpec ny) (K0 H0 w0) 25 Ah (FU o m og mg mo 0 (fun _=>[]) aj 1) [] emp φ:=by
 refine ER (s:=Iu x) (stop:=ny) ?_;have nx:=ER (s':=Iu x) (stop':=ny) nx;refine wY (fn:=eK) (tb:=aaA) (by kernel_rfl) (by kernel_rfl) ?_;refine uz (aS _ _) (amm x _) (hold:=oG) (m:=300) (n:=400) (ts:=[⟨25,Ah,FU o m og mg mo 1 (nM [[.i .i64 (x:Nat)]]) ag (mD.add .i64 1 1),[]⟩]) ?_;have tm:=nd (mD.le 1 4) (fun _=>an hv nx) (fun c=>(no2 c rfl:φ (.mV [.sl 0 0 (fun _=>[]),.v .nilIface])));rcases hx with rfl|rfl|rfl
 ·exact J5 (by kernel_rfl) tm (by kernel_rfl)
 ·exact J5 (by kernel_rfl) tm (by kernel_rfl)
 ·exact J5 (by kernel_rfl) tm (by kernel_rfl)
theorem Rq(s:Sh)(lv mo:Int):qI s lv mo=1\/qI s lv mo=2\/qI s lv mo=3:=by
 grind [qI]
theorem amo{s:Sh}{lv:Int}(h:TQ s mo=aj)(hl:1<=lv/\lv<=4):jvB (qI s lv mo) s lv mo=aj:=by
 simp_all [jvB,juB,decide_eq_true]
theorem agF(h:TQ (hsS o og m mg) mo=aj)(hφ:φ (.mV [.sl 1 4 (lvF (hsS o og m mg) mo),.v .nilIface])):∀r i gg,i+r=4->1<=i->(∀k,k<i->gg k=lvF (hsS o og m mg) mo k)->
  nX ah (C7 mD W7 noSpec ny) (K0 H0 w0) 25 Ah (FU o m og mg mo i gg ag ((i+1:Nat):Int)) [] emp (up φ)
 |0,i,gg,hi,h1,hg=>by
  obtain rfl:i=4:=by omega
  have no {X:Prop} (c:mD.le ((4+1:Nat):Int) 4=aj):X:=by simp[su] at c
  exact agE (x:=1) (.inl rfl) (room_le (by rw[qy];omega) (by omega)) (fun c=>no c) (fun c=>no c) (fun _=>oq (s':=.mV [.sl 1 4 (lvF (hsS o og m mg) mo),.v .nilIface]) ⟨.inr ⟨rfl,rfl,hg⟩,rfl,trivial⟩ hφ)
 |r+1,i,gg,hi,h1,hg=>by
  have no {X:Prop} (c:mD.le ((i+1:Nat):Int) 4=ag):X:=by grind [su]
  have nx:=agF h hφ r (i+1) (mD.snoc gg i (nM [[.i .i64 (qI (hsS o og m mg) ((i+1:Nat):Int) mo:Nat)]])) (by omega) (by omega) (fun k hk=>by
   rw[tY];split
   ·simp_all
   ·have:k=i:=by omega
    subst this;rw[gU];rfl)
  have e:mD.add .i64 ((i+1:Nat):Int) 1=((i+1+1:Nat):Int):=add1 (by omega);exact agE (Rq _ _ _) (room_le (by rw[qy];omega) (by omega)) (fun _=>amo h (by omega)) (fun _=>by rw[e];exact nx) (fun c=>no c)
end
noncomputable def adl:List Sh->Tree Sh
 |[s,t]=>match nR t with
  |some mo=>.need (TQ s mo) (.leaf (.mV [.sl 1 4 (lvF s mo),.v .nilIface])) |none=>.fail
 |_=>.fail
theorem OLv:nG ah (nY W7) 25 adl:=by
 intro H w nV args φ hon hgl hr hφ;unfold adl at hφ;split at hφ
 ·rename_i s t
  split at hφ
  ·rename_i mo e1
   obtain ⟨q1,hφ⟩:=hφ;have q2:=q1;unfold TQ at q1;rw[al] at q1;obtain ⟨o,og,m,mg,rfl,P⟩:=@of_decide_eq_true _ (aB _) q1.1;have hφ:φ (.mV [.sl 1 4 (lvF (hsS o og m mg) mo),.v .nilIface]):=hφ;match args,hr with
   |[a0,a1],⟨r0,r1,_⟩=>
   refine yC (C:=C7 mD W7 noSpec ny) (aS _ _) (fn:=eK) (qV:=[hsS o og m mg,.i .i64 mo]) (L:=L0) (by kernel_rfl) (by kernel_rfl) hon hgl ⟨r0,qW e1 r1,trivial⟩ ?_;have hn:eK.ntmps=42:=by kernel_rfl
   refine uz (aS _ _) (BK _) (hold:=oG) (m:=300) (n:=400) (ts:=[⟨25,Ah,FU o m og mg mo 0 (fun _=>[]) aj 1,[]⟩]) ?_;rw[hn];have l1:=agF (H0:=H) (w0:=w) q2 hφ 3 1 (nM [[.i .i64 (qI (hsS o og m mg) 1 mo:Nat)]]) (by omega) (by omega) (fun k hk=>by
    obtain rfl:k=0:=by omega
    rfl)
   exact J5 (by kernel_rfl) (amn (Rq _ 1 mo) (amo q2 (by decide)) l1) (by kernel_rfl)
  ·exact hφ.elim
 ·exact hφ.elim
open Go Go.Sx Go.Pl Go.Gm Go.Bf
noncomputable def XQ(k:Nat)(s:Sh):Sh:=match k with
 |0=>.pV 109 (.pt [.i .i64 (jxI s),.er (jxN s) 329]) |k+1=>.er (k+1) 329
noncomputable def amq(k:Nat):List Sh->Tree Sh
 |[s,t]=>match nR t with
  |some mo=>.need (jeB k s 4 mo) (.leaf (La (XQ k s))) |none=>.fail
 |_=>.fail
noncomputable def amr(k:Nat):List Sh->Tree Sh
 |[s,t,u]=>match nR t,nR u with
  |some lv,ae mo=>.need (jeB k s lv mo) (.leaf (La (XQ k s))) |_,_=>.fail
 |_=>.fail
noncomputable def Gz(F:List Sh->Tree Sh):Nat->Option (List Sh->Tree Sh)
 |20=>ae F |_=>aq
theorem an5{F:List Sh->Tree Sh}(hF:nG ah (nY W7) 20 F)(stop:Nat->List Nat->Bool):oH ah (C7 mD W7 (Gz F) stop):=dZ (fun g F' h=>by
 grind [Gz]) fun g h=>by
 unfold Gz at h;split at h;all_goals first|(cases h;done) |kernel_rfl
def isK(k:Nat):Prop:=k=0\/k=1\/k=6\/k=4
theorem atc{k:Nat}(hk:isK k):nG ah (nY W7) 48 (amq k):=by
 intro H w nV args φ hon hgl hr hφ;unfold amq at hφ;split at hφ
 ·rename_i s t
  split at hφ
  ·rename_i mo e1
   obtain ⟨q1,hφ⟩:=hφ;have hφ:φ (La (XQ k s)):=hφ;unfold jeB at q1;simp only[al,decide_eq_true_eq] at q1;obtain ⟨b1,b2,b3⟩:=q1;have b1':=b1;obtain ⟨o,og,m,mg,rfl,P⟩:=@of_decide_eq_true _ (aB _) b1;match args,hr with
   |[a0,a1],⟨r0,r1,_⟩=>
   have h69:eJ.ntmps=69:=by kernel_rfl
   have go {F:List Sh->Tree Sh} (hF:nG ah (nY W7) 20 F) (hm:qA (yG ah (C7 mD W7 (Gz F) ny) (K0 H w) [] emp (up φ)) (nZ (C7 mD W7 (Gz F) ny) oG 300 400 48 [.code []] (mM 69 [.agg [.sl 2 o og,.sl 8 m mg],.i .i64 mo] L0) [] [])) :
     Calls ah 48 [a0,a1].toArray w fun e w'=>∃v s H',e=.returned v/\φ s/\qR H w s v H' w':=by
    refine yC (C:=C7 mD W7 (Gz F) ny) (aS _ _) (fn:=eJ) (qV:=[hsS o og m mg,.i .i64 mo]) (L:=L0) (by kernel_rfl) (by kernel_rfl) hon hgl ⟨r0,qW e1 r1,trivial⟩ ?_;refine uz (aS _ _) (an5 hF _) (hold:=oG) (m:=300) (n:=400) (ts:=[]) ?_;assumption
   have E4 (c:wu mo=ag):k=4:=lM fun h=>by
    simp_all
   have m1 (c:mD.lt mo 1=aj):wu mo=ag:=by
    simp_all [wu,mQ,decide_eq_true_eq,decide_eq_false]
   have m2 (c:mD.lt 65536 mo=aj):wu mo=ag:=by
    simp_all [wu,mQ,decide_eq_true_eq,decide_eq_false,Bool.and_false]
   have f4 (c:wu mo=ag):up φ (.mV [.agg [.b ag,.sl 0 0 (fun _=>[]),.sl 0 0 (fun _=>[]),.i .i64 0,.i .i64 0],.er 4 329]):=by
    have e:=E4 c;subst e;exact oq (Dp rfl) hφ
   have m3 (c1:mD.lt mo 1=ag) (c2:mD.lt 65536 mo=ag):wu mo=aj:=by
    simp_all [wu,mQ,decide_eq_false_iff_not,decide_eq_true]
   have tb (c1:mD.lt mo 1=ag) (c2:mD.lt 65536 mo=ag) (h4:k≠4):(qZ (hsS o og m mg) 1).okb=ag/\(if k=0 then (qZ (hsS o og m mg) 1).xC else !(qZ (hsS o og m mg) 1).xC&&(qZ (hsS o og m mg) 1).e==k)=aj:=by
    simp_all
   have tv0 (c1:mD.lt mo 1=ag) (c2:mD.lt 65536 mo=ag):k=0\/k=4->tvB 0 (hsS o og m mg)=aj:=fun h=>by
    rcases h with rfl|rfl
    ·obtain ⟨t1,t2⟩:=tb c1 c2 (by decide)
     have t2:(!(nJ o og m mg).okb&&(nJ o og m mg).xC)=aj:=t2;simp_all [al,tvB,NH,hsS]
    simp_all
   have no4 {X:Prop} (c1:mD.lt mo 1=ag) (c2:mD.lt 65536 mo=ag) (h:k=4):X:=by
    simp_all
   rcases hk with rfl|rfl|rfl|rfl
   ·refine go (ama 0) (um (nd (mD.lt mo 1) (fun c=>f4 (m1 c)) (fun c1=>nd (mD.lt 65536 mo) (fun c=>f4 (m2 c)) (fun c2=>an (tv0 c1 c2 (.inl rfl)) (?x:up φ (.mV [.agg [.b ag,.sl 0 0 (fun _=>[]),.sl 0 0 (fun _=>[]),.i .i64 0,.i .i64 0],.pV 109 (.pt [.i .i64 (tpI (hsS o og m mg)),.er (teN (hsS o og m mg)) 329])]))))) (by kernel_rfl))
    obtain ⟨t1,t2⟩:=tb c1 c2 (by decide);have t2:(!(nJ o og m mg).okb&&(nJ o og m mg).xC)=aj:=t2;rw[al,br] at t2;have e:jxN (hsS o og m mg)=teN (hsS o og m mg):=by
     show (if (nJ o og m mg).okb=aj then 1 else (nJ o og m mg).e)=(nJ o og m mg).e;grind
    have hφ:φ (La (.pV 109 (.pt [.i .i64 (tpI (hsS o og m mg)),.er (jxN (hsS o og m mg)) 329]))):=hφ;rw[e] at hφ;exact oq (Dp rfl) hφ
   ·have big (c1:mD.lt mo 1=ag) (c2:mD.lt 65536 mo=ag):(nJ o og m mg).okb=aj/\¬(nJ o og m mg).n<=12:=by
     obtain ⟨t1,t2⟩:=tb c1 c2 (by decide);have t1:((nJ o og m mg).okb&&decide ((nJ o og m mg).n<=12))=ag:=t1;have t2:(!(!(nJ o og m mg).okb&&(nJ o og m mg).xC)&&(if (nJ o og m mg).okb=aj then 1 else (nJ o og m mg).e)==1)=aj:=t2;grind [nJ]
    have tk (c1:mD.lt mo 1=ag) (c2:mD.lt 65536 mo=ag):tkB (hsS o og m mg)=aj:=by
     unfold tkB;rw[b1'];exact (big c1 c2).1
    have hφ:φ (La (.er 1 329)):=hφ;exact go aoK (um (nd (mD.lt mo 1) (fun c=>f4 (m1 c)) (fun c1=>nd (mD.lt 65536 mo) (fun c=>f4 (m2 c)) (fun c2=>an (tk c1 c2) (nd (mD.lt 12 (mD.nH (tnN (hsS o og m mg)))) (fun _=>oq (s:=.mV [.agg [.b ag,.sl 0 0 (fun _=>[]),.sl 0 0 (fun _=>[]),.i .i64 0,.i .i64 0],.er 1 329]) (Dp rfl) hφ) (fun c=>(by
     have:=(big c1 c2).2;have c:mD.lt 12 (mD.nH (nJ o og m mg).n)=ag:=c;grind [mQ,nI]:False)))))) (by kernel_rfl))
   ·have tv (c1:mD.lt mo 1=ag) (c2:mD.lt 65536 mo=ag):tvB 6 (hsS o og m mg)=aj:=by
     obtain ⟨t1,t2⟩:=tb c1 c2 (by decide);have t2:(!(!(nJ o og m mg).okb&&(nJ o og m mg).xC)&&(if (nJ o og m mg).okb=aj then 1 else (nJ o og m mg).e)==6)=aj:=t2;cases hok:(nJ o og m mg).okb with
     |true=>simp_all |false=>
      rw[hok] at t2;simp_all [tvB,NH,hsS,nJ]
    have hφ:φ (La (.er 6 329)):=hφ;exact go (ama 6) (um (nd (mD.lt mo 1) (fun c=>f4 (m1 c)) (fun c1=>nd (mD.lt 65536 mo) (fun c=>f4 (m2 c)) (fun c2=>an (tv c1 c2) (oq (s:=.mV [.agg [.b ag,.sl 0 0 (fun _=>[]),.sl 0 0 (fun _=>[]),.i .i64 0,.i .i64 0],.er 6 329]) (Dp rfl) hφ)))) (by kernel_rfl))
   ·have hφ:φ (La (.er 4 329)):=hφ
    exact go (ama 6) (um (nd (mD.lt mo 1) (fun c=>f4 (m1 c)) (fun c1=>nd (mD.lt 65536 mo) (fun c=>f4 (m2 c)) (fun c2=>(no4 c1 c2 rfl:tvB 6 (hsS o og m mg)=aj/\up φ (.mV [.agg [.b ag,.sl 0 0 (fun _=>[]),.sl 0 0 (fun _=>[]),.i .i64 0,.i .i64 0],.er 6 329]))))) (by kernel_rfl))
  ·exact hφ.elim
 ·exact hφ.elim
theorem Uo{e:Sh}(he:Wk e e):Wk (.mV [.agg [.b ag,.sl 2 0 (fun _=>[]),.sl 1 0 (fun _=>[]),.i .i64 0,.i .i64 0],e]) (La e):=
 ⟨⟨.inl rfl,.inl ⟨rfl,rfl⟩,.inl ⟨rfl,rfl⟩,rfl,rfl,trivial⟩,he,trivial⟩
noncomputable def PY(k:Nat):Nat->Option (List Sh->Tree Sh)
 |15=>ae (al9 k) |48=>ae (amq k) |_=>aq
theorem an6{k:Nat}(hk:isK k)(stop:Nat->List Nat->Bool):oH ah (C7 mD W7 (PY k) stop):=dZ (fun g F h=>by
 unfold PY at h;grind [as2,atc]) fun g h=>by
 unfold PY at h;split at h;all_goals first|(cases h;done) |kernel_rfl
theorem atd{k:Nat}(hk:isK k):nG ah (nY W7) 26 (amr k):=by
 intro H w nV args φ hon hgl hr hφ;unfold amr at hφ;split at hφ
 ·rename_i s t u
  split at hφ
  ·rename_i lv mo e1 e2
   obtain ⟨q1,hφ⟩:=hφ;have hφ:φ (La (XQ k s)):=hφ;have q2:=q1;unfold jeB at q1;simp only[al,decide_eq_true_eq] at q1;obtain ⟨b1,b2,b3⟩:=q1;have b1':=b1;obtain ⟨o,og,m,mg,rfl,P⟩:=@of_decide_eq_true _ (aB _) b1;match args,hr with
   |[a0,a1,a2],⟨r0,r1,r2,_⟩=>
   refine yC (C:=C7 mD W7 (PY k) ny) (aS _ _) (fn:=iw) (qV:=[hsS o og m mg,.i .i64 lv,.i .i64 mo]) (L:=L0) (by kernel_rfl) (by kernel_rfl) hon hgl ⟨r0,qW e1 r1,qW e2 r2,trivial⟩ ?_;have hn:iw.ntmps=35:=by kernel_rfl
   refine uz (aS _ _) (an6 hk _) (hold:=oG) (m:=300) (n:=400) (ts:=[]) ?_;rw[hn];have je (c:mD.eq lv 4=aj):jeB k (hsS o og m mg) 4 mo=aj:=by
    simp_all [nC]
   have l3 (c:mD.eq lv 4=ag):1<=lv/\lv<=3:=by
    grind [nC]
   have mk (h4:k≠4):wu mo=aj/\(qZ (hsS o og m mg) lv).okb=ag/\(if k=0 then (qZ (hsS o og m mg) lv).xC else !(qZ (hsS o og m mg) lv).xC&&(qZ (hsS o og m mg) lv).e==k)=aj:=by
    rw[if_neg h4,al,al,br] at b3;exact b3
   have ge (h4:k≠4) (c:mD.eq lv 4=ag):geB k (hsS o og m mg) lv mo=aj:=by
    simp_all [aqW]
   rcases hk with rfl|rfl|rfl|rfl
   ·have e:Eu (hsS o og m mg) lv mo=jxN (hsS o og m mg):=by
     obtain ⟨x1,x2,_⟩:=mk (by decide);unfold Eu;rw[if_pos x1,if_neg (by rw[x2];simp)];rfl
    have hφ:φ (La (.pV 109 (.pt [.i .i64 (rpI (hsS o og m mg) lv mo),.er (jxN (hsS o og m mg)) 329]))):=hφ;have hφ2:=hφ;rw[<-e] at hφ2;exact um (nd (mD.eq lv 4) (fun c=>an (je c) (oq (s:=.mV [.agg [.b ag,.sl 2 0 (fun _=>[]),.sl 1 0 (fun _=>[]),.i .i64 0,.i .i64 0],XQ 0 (hsS o og m mg)]) (Uo rfl) hφ)) (fun c=>an (ge (by decide) c) (oq (s:=.mV [.agg [.b ag,.sl 0 0 (fun _=>[]),.sl 0 0 (fun _=>[]),.i .i64 0,.i .i64 0],.pV 109 (.pt [.i .i64 (rpI (hsS o og m mg) lv mo),.er (Eu (hsS o og m mg) lv mo) 329])]) (Dp rfl) hφ2))) (by kernel_rfl)
   ·have hφ:φ (La (.er 1 329)):=hφ
    exact um (nd (mD.eq lv 4) (fun c=>an (je c) (oq (s:=.mV [.agg [.b ag,.sl 2 0 (fun _=>[]),.sl 1 0 (fun _=>[]),.i .i64 0,.i .i64 0],.er 1 329]) (Uo rfl) hφ)) (fun c=>an (ge (by decide) c) (oq (s:=.mV [.agg [.b ag,.sl 0 0 (fun _=>[]),.sl 0 0 (fun _=>[]),.i .i64 0,.i .i64 0],.er 1 329]) (Dp rfl) hφ))) (by kernel_rfl)
   ·have hφ:φ (La (.er 6 329)):=hφ
    exact um (nd (mD.eq lv 4) (fun c=>an (je c) (oq (s:=.mV [.agg [.b ag,.sl 2 0 (fun _=>[]),.sl 1 0 (fun _=>[]),.i .i64 0,.i .i64 0],.er 6 329]) (Uo rfl) hφ)) (fun c=>an (ge (by decide) c) (oq (s:=.mV [.agg [.b ag,.sl 0 0 (fun _=>[]),.sl 0 0 (fun _=>[]),.i .i64 0,.i .i64 0],.er 6 329]) (Dp rfl) hφ))) (by kernel_rfl)
   ·have hφ:φ (La (.er 4 329)):=hφ
    have gm (c:mD.eq lv 4=ag):gmB (hsS o og m mg) lv mo=aj:=by
     rw[if_pos rfl] at b3;unfold gmB;rw[ae9 P (l3 c),b3];rfl
    exact um (nd (mD.eq lv 4) (fun c=>an (je c) (oq (s:=.mV [.agg [.b ag,.sl 2 0 (fun _=>[]),.sl 1 0 (fun _=>[]),.i .i64 0,.i .i64 0],.er 4 329]) (Uo rfl) hφ)) (fun c=>an (gm c) (oq (s:=.mV [.agg [.b ag,.sl 0 0 (fun _=>[]),.sl 0 0 (fun _=>[]),.i .i64 0,.i .i64 0],.er 4 329]) (Dp rfl) hφ))) (by kernel_rfl)
  ·exact hφ.elim
 ·exact hφ.elim
noncomputable def ams(k:Nat):List Sh->Tree Sh
 |[s,t]=>match nR t with
  |some mo=>.need (jeB k s 1 mo) (.leaf (.mV [.sl 1 0 (fun _=>[]),XQ k s])) |none=>.fail
 |_=>.fail
noncomputable def J6(k:Nat):Nat->Option (List Sh->Tree Sh)
 |26=>ae (amr k) |_=>aq
theorem agG{k:Nat}(hk:isK k)(stop:Nat->List Nat->Bool):oH ah (C7 mD W7 (J6 k) stop):=dZ (fun g F h=>by
 grind [J6,atd]) fun g h=>by
 unfold J6 at h;split at h;all_goals first|(cases h;done) |kernel_rfl
theorem atf{k:Nat}(hk:isK k):nG ah (nY W7) 25 (ams k):=by
 intro H w nV args φ hon hgl hr hφ;unfold ams at hφ;split at hφ
 ·rename_i s t
  split at hφ
  ·rename_i mo e1
   obtain ⟨q1,hφ⟩:=hφ;have hφ:φ (.mV [.sl 1 0 (fun _=>[]),XQ k s]):=hφ;have q2:=q1;unfold jeB at q1;rw[al] at q1;obtain ⟨o,og,m,mg,rfl,P⟩:=@of_decide_eq_true _ (aB _) q1.1;match args,hr with
   |[a0,a1],⟨r0,r1,_⟩=>
   refine yC (C:=C7 mD W7 (J6 k) ny) (aS _ _) (fn:=eK) (qV:=[hsS o og m mg,.i .i64 mo]) (L:=L0) (by kernel_rfl) (by kernel_rfl) hon hgl ⟨r0,qW e1 r1,trivial⟩ ?_;have hn:eK.ntmps=42:=by kernel_rfl
   refine uz (aS _ _) (agG hk _) (hold:=oG) (m:=300) (n:=400) (ts:=[⟨25,Ah,FU o m og mg mo 0 (fun _=>[]) aj 1,[]⟩]) ?_;rw[hn];have hd:nX ah (C7 mD W7 (J6 k) ny) (K0 H w) 25 Ah (FU o m og mg mo 0 (fun _=>[]) aj 1) [] emp (up φ):=by
    refine wY (fn:=eK) (tb:=aaA) (by kernel_rfl) (by kernel_rfl) ?_;refine uz (aS _ _) (agG hk _) (hold:=oG) (m:=300) (n:=400) (ts:=[]) ?_;have tm:=nd (mD.le 1 4) (fun _=>an q2 (oq (s:=.mV [.sl 0 0 (fun _=>[]),XQ k (hsS o og m mg)]) (s':=.mV [.sl 1 0 (fun _=>[]),XQ k (hsS o og m mg)]) ⟨.inl ⟨rfl,rfl⟩,(by unfold XQ;split<;>rfl),trivial⟩ hφ)) (fun c=>(no2 c rfl:up φ (.mV [.sl 0 0 (fun _=>[]),.v .nilIface])))
    rcases hk with rfl|rfl|rfl|rfl
    ·exact um tm (by kernel_rfl)
    ·exact um tm (by kernel_rfl)
    ·exact um tm (by kernel_rfl)
    ·exact um tm (by kernel_rfl)
   have tm:=hd;rcases hk with rfl|rfl|rfl|rfl
   ·exact J5 (by kernel_rfl) tm (by kernel_rfl)
   ·exact J5 (by kernel_rfl) tm (by kernel_rfl)
   ·exact J5 (by kernel_rfl) tm (by kernel_rfl)
   ·exact J5 (by kernel_rfl) tm (by kernel_rfl)
  ·exact hφ.elim
 ·exact hφ.elim
end Go.Proofs
namespace Go.Gm
open Go.Bf
theorem YZ{α β:Type}{p:β->Bool}{q:α->Bool}{F:α->β}:∀{l:List α},(∀x∈l,p (F x)=q x)->(l.map F).find? p=(l.find? q).map F
 |[],_=>rfl |a::l,h=>by
  rw[dI,ka,ka,h a bo];cases q a with
  |true=>rfl |false=>exact YZ fun x hx=>h x (bi _ hx)
section
variable{S S' κ κ':Type}[DecidableEq κ][DecidableEq κ']{g:Game S}{g':Game S'}{key:Nd S->κ}{key':Nd S'->κ'}{f:S'->S}{Q:Nd S'->Prop}
def rP(f:S'->S)(nd:Nd S'):Nd S:=⟨nd.placed,f nd.st⟩
structure EW(g:Game S)(g':Game S')(f:S'->S)(Q:Nd S'->Prop):Prop where
 n:g.n=g'.n
 id:∀i,i<g'.n->g.id i=g'.id i
 com:∀i,i<g'.n->g.com i=g'.com i
 KW:∀i,i<g'.n->g.KW i=g'.KW i
 mask:∀i,i<g'.n->g.mask i=g'.mask i
 all:g.all=g'.all
 run:∀nd,Q nd->∀i,i<g'.n->may g' nd.placed i=aj->g.run (f nd.st) i=(g'.run nd.st i).map f
 step:∀nd,Q nd->∀t∈next g' nd,Q t
theorem amu(h:EW g g' f Q)(p i:Nat)(hi:i<g'.n):may g p i=may g' p i:=by
 unfold may;rw[h.n,h.mask i hi]
theorem afh(h:EW g g' f Q){nd:Nd S'}(hq:Q nd){i:Nat}(hi:i<g'.n):uH g (rP f nd) i=(uH g' nd i).map fun t=>(t.1,rP f t.2):=by
 unfold uH;have e:may g (rP f nd).placed i=may g' nd.placed i:=amu h _ _ hi;rw[e];cases hm:may g' nd.placed i with
 |false=>rfl |true=>
  have hr:=h.run nd hq i hi hm;have hr:g.run (rP f nd).st i=(g'.run nd.st i).map f:=hr;rw[if_pos rfl,if_pos rfl,hr,h.com i hi,h.KW i hi,h.all,h.id i hi,List.map_append];have hs:((g'.run nd.st i).map f).isSome=(g'.run nd.st i).isSome:=by simp
  rw[hs];congr 1
  ·cases g'.com i<;>cases g'.run nd.st i<;>rfl
  ·split<;>rfl
theorem Xf(h:EW g g' f Q){nd:Nd S'}(hq:Q nd):turns g (rP f nd)=(turns g' nd).map fun t=>(t.1,rP f t.2):=by
 unfold turns;rw[h.n,List.map_flatMap,jL,jL];grind [List.map_congr_left,afh]
theorem Y0(h:EW g g' f Q){nd:Nd S'}(hq:Q nd):next g (rP f nd)=(next g' nd).map (rP f):=by
 unfold next;rw[Xf h hq,iE,iE];rfl
theorem Y1(h:EW g g' f Q)(nd:Nd S'):full g (rP f nd)=full g' nd:=by unfold full;rw[h.n];rfl
variable(hk:∀x y,Q x->Q y->(key (rP f x)=key (rP f y)↔key' x=key' y))
include hk
theorem amv{o:List (Nd S')}(ho:∀x∈o,Q x){n:Nd S'}(hn:Q n):Aa key (o.map (rP f)) (key (rP f n))=Aa key' o (key' n):=by
 grind [Em]
theorem amw{m:Nat}{o:List (Nd S')}(ho:∀x∈o,Q x){n:Nd S'}(hn:Q n):xB key m (o.map (rP f)) (rP f n)=(xB key' m o n).map (eM (rP f)):=by
 unfold xB;rw[amv hk ho hn,ct];grind
theorem Y2{m:Nat}:∀{l o:List (Nd S')},(∀x∈o,Q x)->(∀x∈l,Q x)->uS key m (o.map (rP f)) (l.map (rP f))=(uS key' m o l).map (eM (rP f))
 |[],o,_,_=>rfl |n::l,o,ho,hl=>by
  rw[dI,uS,uS,amw hk ho (hl n bo)];cases hp:xB key' m o n with
  |none=>rfl |some o1=>exact Y2 (YB hp ho (hl n bo)) fun x hx=>hl x (bi _ hx)
theorem adn(h:EW g g' f Q){m:Nat}:∀{fu i:Nat} {o:List (Nd S')},(∀x∈o,Q x)->Di key (next g) m fu (o.map (rP f)) i=(Di key' (next g') m fu o i).map (eM (rP f))
 |0,_,_,_=>rfl |fu+1,i,o,ho=>by
  rw[Di,Di,cL];cases hi:o[i]? with
  |none=>rfl |some n=>
   have hn:=ho n (List.mem_of_getElem? hi);simp only[Option.map_some];rw[Y0 h hn,Y2 hk ho (h.step n hn)];cases hp:uS key' m o (next g' n) with
   |none=>rfl |some o1=>exact adn h (KG hp ho (h.step n hn))
theorem Iw(h:EW g g' f Q):∀{r:List (Nd S')},(∀x∈r,Q x)->∀n,Q n->xQ key (next g) (full g) (r.map (rP f)) (key (rP f n))=xQ key' (next g') (full g') r (key' n)
 |[],_,_,_=>rfl |a::r,hr,n,hn=>by
  have ha:=hr a bo;have hr':=fun x hx=>hr x (bi a hx);rw[dI,xQ,xQ];by_cases e:key' a=key' n
  ·rw[if_pos e,if_pos ((hk a n ha hn).2 e),Y1 h,Y0 h ha,List.any_map]
   congr 1;rw[Bool.eq_iff_iff,jM,jM];constructor
   ·intro ⟨t,ht,q⟩
    exact ⟨t,ht,by rw[<-Iw h hr' t (h.step a ha t ht)];exact q⟩
   ·intro ⟨t,ht,q⟩
    exact ⟨t,ht,(Iw h hr' t (h.step a ha t ht)).trans q⟩
  ·rw[if_neg e,if_neg (fun q=>e ((hk a n ha hn).1 q))]
   exact Iw h hr' n hn
theorem afi(h:EW g g' f Q){s:S'}(hs:Q (start s))(m:Nat):uV g key (f s) m=(uV g' key' s m).map (eM (rP f)):=by
 unfold uV;have:=adn hk h (m:=m) (fu:=m+1) (i:=0) (o:=[start s]) (fun x hx=>by
  simp_all)
 exact this
theorem agH(h:EW g g' f Q){r:List (Nd S')}(hr:∀x∈r,Q x){n:Nd S'}(hn:Q n):Nc g key (r.map (rP f)) (rP f n)=Nc g' key' r n:=Iw hk h hr n hn
theorem ado(h:EW g g' f Q){r:List (Nd S')}(hr:∀x∈r,Q x){s:S'}(hs:Q (start s)):JK g key (f s) (r.map (rP f))=JK g' key' s r:=agH hk h hr hs
theorem Xg(h:EW g g' f Q){r:List (Nd S')}(hr:∀x∈r,Q x):∀fu (n:Nd S'),Q n->least g (Nc g key (r.map (rP f))) fu (rP f n)=least g' (Nc g' key' r) fu n
 |0,_,_=>rfl |fu+1,n,hn=>by
  rw[least,least,Y1 h,Xf h hn];rw[YZ (p:=fun t=>Nc g key (r.map (rP f)) t.2) (q:=fun t=>Nc g' key' r t.2) (F:=fun t=>(t.1,rP f t.2)) fun t ht=>agH hk h hr (h.step n hn _ (bN.2 ⟨t,ht,rfl⟩))];cases hf:(turns g' n).find? fun t=>Nc g' key' r t.2 with
  |none=>rfl |some t=>
   have ht:=h.step n hn t.2 (bN.2 ⟨t,List.mem_of_find?_eq_some hf,rfl⟩);show (if full g' n=aj then [] else t.1::least g (Nc g key (r.map (rP f))) fu (rP f t.2))=_;rw[Xg h hr fu t.2 ht]
theorem afj(h:EW g g' f Q){r:List (Nd S')}(hr:∀x∈r,Q x){s:S'}(hs:Q (start s)):Dj g key (f s) (r.map (rP f))=Dj g' key' s r:=by
 unfold Dj;rw[ado hk h hr hs,h.n];split
 ·exact Xg hk h hr _ _ hs
 ·rfl
omit hk in
end
end Go.Gm
namespace Go.Pl
open Go Go.Sx Go.Proofs Go.Gm Go.Bf
def yu(l:List pO)(j:Nat):pO:=l.getD j Ee
def NJ(n:Nat):List pO->List Dd->Option (List pO)
 |l,[]=>ae l |l,d::r=>if d.ret=0 then NJ n l r else if Q5 n (yu l) d.obj d.op d.key d.val=aj then
   (if (tZ (yu l d.obj.toNat) d.op d.key d.val).2.1=d.ret/\(tZ (yu l d.obj.toNat) d.op d.key d.val).2.2=d.got then NJ n (l.set d.obj.toNat (tZ (yu l d.obj.toNat) d.op d.key d.val).1) r else aq) else aq
def xP(n:Nat)(g0:SG)(l:List pO):SG:=fun j=>if j<n then qo (yu l j) else g0 j
def Lc(B:zl):Game (List pO) where
 n:=B.N
 id i:=(B.T i).id
 com i:=(B.T i).st==3||(B.T i).st==2
 KW i:=!((B.T i).st==3)
 mask i:=(B.ms i).toNat
 run l i:=NJ B.k0 l (lst Dd (B.T i).k (B.T i).g)
 all:=B.lv==3
def PZ(nd:Nd (List pO)):Nat×List pO:=(nd.placed,nd.st)
section
variable{n:Nat}{g0:SG}
theorem adp(l:List pO):∀j,j<n->xP n g0 l j=qo (yu l j):=fun _ hj=>if_pos hj
theorem amx(l:List pO):∀j,j<n->sJ n (xP n g0 l) j=yu l j:=afX (adp l)
theorem ah8(l:List pO)(k:Nat)(s:pO)(hk:k<l.length)(j:Nat):yu (l.set k s) j=if j=k then s else yu l j:=by
 grind [yu]
theorem aaB(n:Nat)(g0:SG):∀(dd:List Dd) (l:List pO) (i:Nat),l.length=n->
  match NJ n l dd with
  |some l'=>xM n (xP n g0 l) i dd=.inr (xP n g0 l')/\l'.length=n |none=>∃q,xM n (xP n g0 l) i dd=.inl q
 |[],l,i,hl=>⟨rfl,hl⟩ |d::dd,l,i,hl=>by
  unfold NJ xM;by_cases h0:d.ret=0
  ·rw[if_pos h0,if_pos h0]
   exact aaB n g0 dd l (i+1) hl
  ·rw[if_neg h0,if_neg h0]
   have hok:KU n (xP n g0 l) d.obj d.op d.key d.val=Q5 n (yu l) d.obj d.op d.key d.val:=Xb (amx l) _ _ _ _;rw[hok];by_cases h1:Q5 n (yu l) d.obj d.op d.key d.val=aj
   ·rw[if_pos h1,if_pos h1]
    obtain ⟨hi,_⟩:=ac5 h1;have hi':0<=d.obj/\d.obj<n:=of_decide_eq_true hi;have hs:sJ n (xP n g0 l) d.obj.toNat=yu l d.obj.toNat:=amx l _ (by omega);have hr:acy n (xP n g0 l) d.obj d.op d.key d.val=(tZ (yu l d.obj.toNat) d.op d.key d.val).2.1:=by grind [acy]
    have hgt:acz n (xP n g0 l) d.obj d.op d.key d.val=(tZ (yu l d.obj.toNat) d.op d.key d.val).2.2:=by grind [acz]
    have hn:V5 n (xP n g0 l) d.obj d.op d.key d.val=xP n g0 (l.set d.obj.toNat (tZ (yu l d.obj.toNat) d.op d.key d.val).1):=by
     funext j;show (if zY n d.obj=aj/\j=d.obj.toNat then qo (tZ (sJ n (xP n g0 l) d.obj.toNat) d.op d.key d.val).1 else xP n g0 l j)=if j<n then qo (yu (l.set d.obj.toNat _) j) else g0 j;rw[hs,ah8 _ _ _ (by omega)];by_cases e:j=d.obj.toNat
     ·simp_all
     ·rw[if_neg (fun q=>e q.2),if_neg e];rfl
    rw[hr,hgt,hn];by_cases h2:(tZ (yu l d.obj.toNat) d.op d.key d.val).2.1=d.ret/\(tZ (yu l d.obj.toNat) d.op d.key d.val).2.2=d.got
    ·rw[if_pos h2,if_pos h2]
     exact aaB n g0 dd _ (i+1) (by simp_all)
    ·rw[if_neg h2,if_neg h2]
     exact ⟨_,rfl⟩
   simp_all
end
section
variable{lv:Int}{n:Nat}{og:Nat->List Sh}{B:JO}
def QlP(lv:Int)(n:Nat)(og:Nat->List Sh)(B:JO)(nd:Nd (List pO)):Prop:=nd.st.length=n/\Xc lv n og B (rP (xP n (yA og)) nd)
theorem afk(nd:Nd (List pO))(hl:nd.st.length=n)(i:Nat):
  (Gb (oL lv n og B)).run (xP n (yA og) nd.st) i=((Lc (oL lv n og B)).run nd.st i).map (xP n (yA og))/\∀l',(Lc (oL lv n og B)).run nd.st i=ae l'->l'.length=n:=by
 have h:=aaB n (yA og) (lst Dd ((oL lv n og B).T i).k ((oL lv n og B).T i).g) nd.st 0 hl;show (if XI n (xP n (yA og) nd.st) ((oL lv n og B).T i).k ((oL lv n og B).T i).g=aj then ae (JI n (xP n (yA og) nd.st) ((oL lv n og B).T i).k ((oL lv n og B).T i).g) else aq)=(NJ n nd.st (lst Dd ((oL lv n og B).T i).k ((oL lv n og B).T i).g)).map (xP n (yA og))/\∀l',NJ n nd.st (lst Dd ((oL lv n og B).T i).k ((oL lv n og B).T i).g)=ae l'->l'.length=n;unfold XI JI V8 V9;grind
theorem Ur(P:TbP n og B):EW (Gb (oL lv n og B)) (Lc (oL lv n og B)) (xP n (yA og)) (QlP lv n og B) where
 n:=rfl
 id _ _:=rfl
 com _ _:=rfl
 KW _ _:=rfl
 mask _ _:=rfl
 all:=rfl
 run nd hq i _ _:=(afk nd hq.1 i).1
 step nd hq t ht:=by
  have hG:=KP (lv:=lv) P;have hlen:t.st.length=n:=by
   unfold next turns at ht;obtain ⟨x,hx,rfl⟩:=bN.1 ht;obtain ⟨i,hi,hx⟩:=cj.1 hx;unfold uH at hx;split at hx
   ·rcases aU.1 hx with hx|hx
    ·split at hx
     ·rename_i s e1 e2
      obtain rfl:x=_:=by simpa using hx
      exact (afk (lv:=lv) (og:=og) (B:=B) nd hq.1 i).2 s e2
     ·cases hx
    ·split at hx
     ·obtain rfl:x=_:=by simpa using hx
      exact hq.1
     ·cases hx
   ·cases hx
  refine ⟨hlen,hG.step _ hq.2 _ ?_⟩;have key:EW (Gb (oL lv n og B)) (Lc (oL lv n og B)) (xP n (yA og)) (fun x=>x=nd/\x.st.length=n)\/True:=.inr trivial;unfold next turns at ht ⊢;obtain ⟨x,hx,rfl⟩:=bN.1 ht;obtain ⟨i,hi,hx⟩:=cj.1 hx;refine bN.2 ⟨(x.1,rP (xP n (yA og)) x.2),cj.2 ⟨i,hi,?_⟩,rfl⟩;have hr:=(afk (lv:=lv) (og:=og) (B:=B) nd hq.1 i).1;unfold uH at hx ⊢;have em:may (Gb (oL lv n og B)) (rP (xP n (yA og)) nd).placed i=may (Lc (oL lv n og B)) nd.placed i:=rfl;rw[em];have hr':(Gb (oL lv n og B)).run (rP (xP n (yA og)) nd).st i=((Lc (oL lv n og B)).run nd.st i).map (xP n (yA og)):=hr;rw[hr'];split at hx
  ·rename_i hm
   rw[if_pos hm];rcases aU.1 hx with hx|hx
   ·refine List.mem_append_left _ ?_
    split at hx
    ·rename_i s e1 e2
     obtain rfl:x=_:=by simpa using hx
     rw[e2];have e1':(Gb (oL lv n og B)).com i=aj:=e1;rw[e1'];exact iT.2 rfl
    ·cases hx
   ·refine List.mem_append_right _ ?_
    split at hx
    ·rename_i hc
     obtain rfl:x=_:=by simpa using hx
     have hc':(Gb (oL lv n og B)).KW i=aj/\((Gb (oL lv n og B)).all=aj->(((Lc (oL lv n og B)).run nd.st i).map (xP n (yA og))).isSome=aj):=⟨hc.1,fun q=>by
      have:=hc.2 q;simp_all⟩
     rw[if_pos hc'];exact iT.2 rfl
    ·cases hx
  ·cases hx
theorem ah9{l l':List pO}(h1:l.length=n)(h2:l'.length=n)(h:∀j,j<n->yu l j=yu l' j):l=l':=by
 grind [List.ext_getElem,yu,aD]
theorem afl:∀x y,QlP lv n og B x->QlP lv n og B y->(qm n (rP (xP n (yA og)) x)=qm n (rP (xP n (yA og)) y)↔PZ x=PZ y):=fun x y hx hy=>by
 constructor
 ·intro h
  have e:=Ro _ _ hx.2 hy.2 h;obtain ⟨p,l⟩:=x;obtain ⟨p',l'⟩:=y;have e1:p=p':=congrArg Nd.placed e;have e2:xP n (yA og) l=xP n (yA og) l':=congrArg Nd.st e;have e3:l=l':=ah9 hx.1 hy.1 fun j hj=>by
   have:=congrFun e2 j;grind [adp,KD]
  rw[e1,e3]
 ·intro h
  obtain ⟨p,l⟩:=x;obtain ⟨p',l'⟩:=y;have h:(p,l)=(p',l'):=h;grind
def newL(n:Nat)(og:Nat->List Sh):List pO:=(aE n).map fun j=>newT (mJ og) j
theorem afm:xP n (yA og) (newL n og)=yA og:=by
 funext j;unfold xP;split
 ·rename_i hj
  unfold yu newL;rw[aZ,cL,iH hj];rfl
 ·rfl
theorem P5(P:TbP n og B):QlP lv n og B (eW (newL n og)):=⟨by show (newL n og).length=n;unfold newL;simp,by
 have h:=(KP (lv:=lv) P).start;have e:rP (xP n (yA og)) (eW (newL n og))=⟨0,(oL lv n og B).g0⟩:=by
  show (⟨0,xP n (yA og) (newL n og)⟩:Nd SG)=⟨0,yA og⟩;rw[afm]
 grind⟩
end
open Go Go.Sx Go.Proofs Go.Gm Go.Bf
def ex(k t th o p v r:Int):List Sh:=[.i .i64 k,.i .i64 t,.i .i64 th,.i .i64 o,.i .i64 p,.i .i64 0,.i .i64 v,.i .i64 r]
def sS:Nat->List Sh:=nM [[.i .i64 1,.i .i64 0]]
def exL:List (List Sh):=[ex 1 1 0 0 0 0 0,ex 1 2 1 0 0 0 0,ex 2 1 0 0 1 0 0,ex 3 1 0 0 0 0 3,ex 2 2 0 0 1 0 0,ex 3 2 0 0 0 0 3,ex 2 1 0 0 2 1 0,ex 3 1 0 0 0 0 1,ex 2 2 0 0 2 2 0,ex 3 2 0 0 0 0 1,ex 4 1 0 0 0 0 0,ex 5 1 0 0 0 0 0,ex 4 2 0 0 0 0 0]
def wJ:Nat->List Sh:=nM exL
def Ey:Nat->List Sh:=mD.snoc wJ 13 (nM [ex 5 2 0 0 0 0 0])
section
variable{n m:Nat}{g h:Nat->List Sh}{lv:Int}
theorem arf(P:Ak n g m h)(hb:(qZ (hsS n g m h) lv).okb=aj)(mo:Int):
  rsP (hsS n g m h) lv mo=(uV (Lc (qZ (hsS n g m h) lv)) PZ (newL n g) mo.toNat).map (eM (rP (xP n (yA g))))/\
  ∀r,uV (Lc (qZ (hsS n g m h) lv)) PZ (newL n g) mo.toNat=ae r->zK (hsS n g m h) lv mo=JK (Lc (qZ (hsS n g m h) lv)) PZ (newL n g) r/\rtL (hsS n g m h) lv mo=(Dj (Lc (qZ (hsS n g m h) lv)) PZ (newL n g) r).map Aq/\Es (hsS n g m h) lv mo=((r.length:Nat):Int):=by
 have hT:((nJ n g m h).okb&&decide ((nJ n g m h).n<=12))=aj:=hb;rw[al,decide_eq_true_eq] at hT;have T:=ae7 P hT.1 hT.2;have hp:=afi (key:=qm n) (key':=PZ) (afl (lv:=lv)) (Ur T) (P5 T) mo.toNat;rw[afm] at hp;have e1:rsP (hsS n g m h) lv mo=(uV (Lc (qZ (hsS n g m h) lv)) PZ (newL n g) mo.toNat).map (eM (rP (xP n (yA g)))):=hp;refine ⟨e1,fun r hr=>?_⟩;have hr':uV (Lc (oL lv n g (nJ n g m h))) PZ (newL n g) mo.toNat=ae r:=hr;have hq:∀x∈r,QlP lv n g (nJ n g m h) x:=Gs (Ur T).step hr' (fun x hx=>by
  obtain rfl:x=eW (newL n g):=by simpa using hx
  exact P5 T)
 have eL:rsL (hsS n g m h) lv mo=r.map (rP (xP n (yA g))):=by unfold rsL;rw[e1,hr];rfl
 have hy:=ado (key:=qm n) (key':=PZ) (afl (lv:=lv)) (Ur T) hq (P5 T);have hs:=afj (key:=qm n) (key':=PZ) (afl (lv:=lv)) (Ur T) hq (P5 T);rw[afm] at hy hs;refine ⟨?_,?_,?_⟩
 ·unfold zK;rw[eL];exact hy
 ·unfold rtL;rw[eL];exact congrArg (eM Aq) hs
 ·unfold Es;rw[eL,ct]
end
theorem exH:Ak 1 sS 13 wJ:=⟨by kernel_rfl,by kernel_rfl,by kernel_rfl,by kernel_rfl⟩
theorem agI:Ak 1 sS 14 Ey:=⟨by kernel_rfl,by kernel_rfl,by kernel_rfl,by kernel_rfl⟩
theorem amA:(qZ (hsS 1 sS 13 wJ) 1).okb=aj:=by kernel_rfl
theorem an7:(qZ (hsS 1 sS 14 Ey) 1).okb=aj:=by kernel_rfl
end Go.Pl
namespace Go.Sx
def Tree.way{α:Type}:Tree α->List oC->Option (List oC×α)
 | .leaf a,l=>ae (l,a) | .node b t f,l=>bif b then t.way l else f.way l | .need b t,l=>bif b then t.way l else aq | .must q t,l=>t.way (q++l) | .both _ _,_=>aq | .fail,_=>aq
theorem oC.all_append:∀{l m:List oC},aX (l++m)->aX l/\aX m
 |[],_,h=>⟨trivial,h⟩ |_::_,_,h=>let ⟨h1,h2⟩:=oC.all_append h.2;⟨⟨h.1,h1⟩,h2⟩
theorem Tree.EX{α:Type}{φ:α->Prop}:∀{t:Tree α} {l q:List oC} {a:α},t.way l=ae (q,a)->aX q->φ a->t.All φ/\aX l
 | .leaf _,_,_,_,h,hq,ha=>by cases h;exact ⟨ha,hq⟩ | .node b t f,l,q,a,h,hq,ha=>by
  cases b with
  |true=>exact ⟨⟨fun _=>(Tree.EX (t:=t) h hq ha).1,fun e=>by cases e⟩,(Tree.EX (t:=t) h hq ha).2⟩ |false=>exact ⟨⟨fun e=>(by cases e),fun _=>(Tree.EX (t:=f) h hq ha).1⟩,(Tree.EX (t:=f) h hq ha).2⟩
 | .need b t,l,q,a,h,hq,ha=>by
  cases b with
  |true=>exact ⟨⟨rfl,(Tree.EX (t:=t) h hq ha).1⟩,(Tree.EX (t:=t) h hq ha).2⟩ |false=>cases h
 | .must e t,l,q,a,h,hq,ha=>by
  have h1:=Tree.EX (t:=t) (φ:=φ) h hq ha;have h2:=oC.all_append h1.2;exact ⟨⟨h2.1,h1.1⟩,h2.2⟩
 | .both _ _,_,_,_,h,_,_=>by cases h | .fail,_,_,_,h,_,_=>by cases h
end Go.Sx
namespace Go.Pl
open Go Go.Sx
def XR(α:Type)[ly α][DecidableEq α](n:Nat)(g:Nat->List Sh)(n0:Nat)(g0:Nat->List Sh):Bool:=fR α n g&&(Nat.beq n n0&&decide (gi α n g=gi α n0 g0))
end Go.Pl
namespace Go.Proofs
open Go Go.Sx Go.Pl
end Go.Proofs
namespace Go.Pl
open Go Go.Sx
theorem Us{α:Type}[ly α][DecidableEq α]{n n0:Nat}{g g0:Nat->List Sh}(h:XR α n g n0 g0=aj)(h0:fR α n0 g0=aj):n=n0/\∀j,j<n->g j=g0 j:=by
 unfold XR at h;rw[al,al,decide_eq_true_eq] at h;obtain ⟨h1,h2,h3⟩:=h;obtain rfl:=Nat.eq_of_beq_eq_true h2;refine ⟨rfl,fun j hj=>?_⟩;rw[gx h1 j hj,gx h0 j hj];have e:∀(f:Nat->List Sh),(gi α n f)[j]?=ae (aP f j):=fun f=>by
  unfold gi;rw[cL,iH hj];rfl
 have e1:=e g;rw[h3,e g0] at e1;rw[bd e1]
end Go.Pl
namespace Go.Proofs
open Go Go.Sx Go.Pl Go.Gm
theorem Rt{H:Mem}{n m n0 m0:Nat}{o e o0 e0:Nat->List Sh}{v:Value}(h1:n=n0/\∀j,j<n->o j=o0 j)(h2:m=m0/\∀j,j<m->e j=e0 j)(hr:Rep H (.agg [.sl 2 n o,.sl 8 m e]) v):Rep H (hsS n0 o0 m0 e0) v:=by
 obtain ⟨rfl,h1⟩:=h1;obtain ⟨rfl,h2⟩:=h2;exact Dk hr ⟨fun _ r=>sW r h1,fun _ r=>sW r h2,trivial⟩
theorem KQ{P:Program}{gls:List (Nat×Sh)}{g:Nat}{F:List Sh->Tree Sh}(hF:nG P gls g F){H:Mem}{w:World}{nV:List Sh}{args:List Value}{φ:Sh->Prop}(hon:H.on w)(hg:qh gls H)(hr:qQ H nV args){s':Sh}(hφ:φ s')(h:(F nV).All fun s=>Wk s s'):
  Calls P g args.toArray w fun e w'=>∃v s H',e=.returned v/\φ s/\qR H w s v H' w':=by
 refine (hF H w nV args _ hon hg hr h).mono fun e w' ⟨v,s,H',he,hs,r⟩=>?_;obtain ⟨H2,r2⟩:=r.wk hs;exact ⟨v,s',H2,he,hφ,r2⟩
theorem agJ:wu 100=aj:=by kernel_rfl
theorem arh{P:Program}{C:Ctx}{K:Kx}{ts:List Dh}{R:Hp->Prop}{φ:Sh->Prop}{t:Tree rQ}{q:List oC}{s:Sh}(h:t.way []=ae (q,.ret s))(hq:aX q)(hs:φ s):qA (yG P C K ts R φ) t:=by
 rw[Ej];exact (Tree.EX h hq hs).1
end Go.Proofs
