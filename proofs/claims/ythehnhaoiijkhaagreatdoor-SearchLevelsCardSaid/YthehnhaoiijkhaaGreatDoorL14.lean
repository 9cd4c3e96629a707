/- Own work. -/
import Derived.Test.YthehnhaoiijkhaaGreatDoorL13
open Int (ofNat)
open And renaming intro->bP
open Array renaming getElem?_eq_getElem->fG,getD_eq_getD_getElem?->iQ
open Bool renaming false->ay,true->aC,or_eq_true->nI,and_eq_true->aI
open Classical renaming propDecidable->bG,byContradiction->nN
open Go.IntKind renaming i64->aW
open Go.Lib renaming joinTail->kM,join_cons->lI
open Go.BR renaming Am->dK,okB->oM
open Go.BR.Rc renaming step->wG
open Go.Proofs renaming akx->Ah,W7->rP,room_le->ni
open Go.Proofs.Tryz renaming prog->aA,f44->yR,f43->jZ,f20->o7,f22->o9,f40->zx
open Go.Sx.BK renaming val->jO,int->aj,sh->aO,nat->aJ,get->aU,Mc->bF
open Go.Sx.ED renaming at_->bK,ret->aT
open Go.Sx.Fe3 renaming ret->nC,raw->qo
open Go.Sx.It renaming code->bD,inBlock->dw,reg->kK
open Go.Sx.Lay renaming blk->ny
open Go.Sx.SB renaming own->nZ,fm->jJ,box->ig
open Go.Sx.SV renaming agg->gY,sh->bU,ptr->gZ,EZ->lK,DT->dQ,any->aP,bool->kQ,sym->sH,int->jY,A8->iY,mp->kH,gs->wH
open Go.Sx.Sh renaming AQ->cZ,sl->aG,er->bf,C9->mQ,pt->pR,i->aY
open Go.Sx.Tree renaming need->aH,node->aF,leaf->aB,must->aQ
open Go.Value renaming pointer->dZ,nilIface->bJ
open Int renaming ofNat->ah,not_lt->mD,natCast_nonneg->uS
open Int.ofNat renaming inj->lq
open List renaming getD_eq_getElem?_getD->aX,getElem?_eq_getElem->aS,mem_map->dJ,all_eq_true->dF,mem_range->dh,range->aZ,length_map->dP,pairwise_cons->uh,takeWhile->jA,any_eq_true->pX,map_set->yS,pairwise_map->uO,mem_of_mem_drop->jy,drop_sublist->uP,mem_cons->iy,mem_append->bI,mem_of_mem_take->mW,map_take->xJ,map_drop->xK,flatMap_map->oN,flatMap_def->mF,map_congr_left->jV,cons_append->vK,range_succ->qG,map_append->iR,map_singleton->uj,not_mem_nil->vM,append_cancel_left->jd,append_nil->fA,reverse_inj->vN,mem_flatMap->iV,length_cons->iU
open List.Sublist renaming append->vW,refl->vX
open Nat renaming le_refl->dn,beq->fC,zero_add->gu,blt->fV,le_succ_of_le->vJ,le_trans->iM,pos_of_ne_zero->uQ
open Option renaming some->ak,none->aK
open Option.some renaming inj->dH
open UInt8 renaming ofNat->kL
namespace Go.BR
open Go Go.Sx
theorem ahH{many:Nat}{e:Ev}{r r':Rc}(h:wG many e r=.inr r')(_hd:r.stand=2->r.Ar≠[]):(r'.stand=2->r'.Ar≠[])/\r'.Ar.length<=r.Ar.length+1:=by
 unfold wG at h;have hup:∀(f:De->De) (l:List De),(Gp f l).length=l.length:=fun f l=>by
  induction l with
  |nil=>rfl |cons x l ih=>cases l with
   |nil=>rfl |cons y l=>simpa[Gp] using ih
 by_cases k2:e.kind=2
 ·simp only[k2,beq_self_eq_true,cond_true] at h
  cases hs:r.stand==1<;>simp only[hs,cond_true,cond_false] at h
  ·cases h
  ·cases h
   exact ⟨fun _=>by simp,by simp⟩
 have b2:(e.kind==2)=ay:=by simpa using k2
 rw[b2] at h;simp only[cond_false] at h;by_cases k3:e.kind=3
 ·simp only[k3,beq_self_eq_true,cond_true] at h
  cases hs:r.stand==2<;>simp only[hs,cond_true,cond_false] at h
  ·cases h
  ·cases hf:O9 (r.Ar.getLast?.getD Row.JI).op e.ret<;>simp only[hf,cond_true,cond_false] at h
   ·cases h
   ·cases h
    exact ⟨fun q=>by simp at q,by simp[hup]⟩
 have b3:(e.kind==3)=ay:=by simpa using k3
 rw[b3] at h;simp only[cond_false] at h;by_cases k4:e.kind=4
 ·simp only[k4,beq_self_eq_true,cond_true] at h
  cases hs:r.stand==1<;>simp only[hs,cond_true,cond_false] at h
  ·cases h
  ·cases h
   exact ⟨fun q=>by simp at q,by simp⟩
 have b4:(e.kind==4)=ay:=by simpa using k4
 rw[b4] at h;simp only[cond_false] at h;by_cases k7:e.kind=7
 ·simp only[k7,beq_self_eq_true,cond_true] at h
  cases hs:r.stand==1<;>simp only[hs,cond_true,cond_false] at h
  ·cases h
  ·cases h
   exact ⟨fun q=>by simp at q,by simp⟩
 have b7:(e.kind==7)=ay:=by simpa using k7
 rw[b7] at h;simp only[cond_false] at h;by_cases k5:e.kind=5
 ·simp only[k5,beq_self_eq_true,cond_true] at h
  cases hs:r.stand==3<;>simp only[hs,cond_true,cond_false] at h
  ·cases h
  ·cases h
   exact ⟨fun q=>by simp at q,by simp⟩
 have b5:(e.kind==5)=ay:=by simpa using k5
 rw[b5] at h;simp only[cond_false] at h;cases hs:(r.stand==1||r.stand==2||r.stand==3||r.stand==4)<;>simp only[hs,cond_true,cond_false] at h
 ·cases h
 ·cases h
  exact ⟨fun q=>by simp at q,by simp⟩
theorem Au.OK.feed{σ:Au}(hI:σ.OK){e:Ev}(hv:Cm e=aC):(σ.feed e).2.OK:=by
 have hkd:=ZG hv;unfold Au.feed;cases hby:σ.Ku e.tx with
 |some i=>
  obtain ⟨r,hi,hp⟩:=TG hby
  have hr:σ.rs.getD i ⟨0,0,0,0,0,0,[],0⟩=r:=by rw[aX,hi];rfl
  have hlt:=(List.getElem?_eq_some_iff.1 hi).1;by_cases k1:e.kind=1
  ·simp only[k1,beq_self_eq_true,cond_true]
   exact hI
  have b1:(e.kind==1)=ay:=by simpa using k1
  simp only[b1,cond_false,hr];cases h:wG σ.many e r with
  |inl k=>exact hI |inr r'=>
   show Au.OK ⟨σ.many+1,σ.rs.set i r'⟩;obtain ⟨l1,l2,l3⟩:=VJ h (by omega) (hI.stands i r hi);obtain ⟨d1,d2⟩:=ahH h (hI.deed i r hi);have hk:=(QY h).2;have at_:∀{j:Nat} {s:Rc},(σ.rs.set i r')[j]?=ak s->(j=i/\s=r')\/(j≠i/\σ.rs[j]?=ak s):=fun {j s} hj=>by
    rw[List.getElem?_set] at hj;by_cases q:i=j
    ·subst q
     rw[if_pos rfl,if_pos hlt] at hj;cases hj;exact .inl ⟨rfl,rfl⟩
    ·rw[if_neg q] at hj
     exact .inr ⟨fun q'=>q q'.symm,hj⟩
   refine ⟨fun a b x y ha hb ht hx hy=>?_,fun a x ha=>?_,fun a x ha=>?_,by simp;have:=hI.len;omega,fun a x ha=>?_⟩
   ·rcases at_ ha with ⟨rfl,rfl⟩ |⟨n1,ha'⟩
    ·rcases at_ hb with ⟨rfl,rfl⟩ |⟨n2,hb'⟩
     ·rfl
     ·exact hI.one _ _ r y hi hb' (by rw[<-hk];exact ht) l1 hy
    ·rcases at_ hb with ⟨rfl,rfl⟩ |⟨n2,hb'⟩
     ·exact hI.one _ _ x r ha' hi (by rw[<-hk];exact ht) hx l1
     ·exact hI.one _ _ x y ha' hb' ht hx hy
   ·rcases at_ ha with ⟨rfl,rfl⟩ |⟨n1,ha'⟩
    ·exact d1
    ·exact hI.deed _ _ ha'
   ·rcases at_ ha with ⟨rfl,rfl⟩ |⟨n1,ha'⟩
    ·exact l2
    ·exact hI.stands _ _ ha'
   ·rcases at_ ha with ⟨rfl,rfl⟩ |⟨n1,ha'⟩
    ·have:=hI.dl _ _ hi
     show _<=σ.many+1;omega
    ·have:=hI.dl _ _ ha'
     show _<=σ.many+1;omega
 |none=>
  by_cases k1:e.kind=1
  ·simp only[k1,beq_self_eq_true,cond_true]
   cases hbu:σ.Lr e.thread with
   |some j=>exact hI |none=>
    show Au.OK ⟨σ.many+1,σ.rs++[⟨e.tx,e.thread,1,σ.many,-1,-1,[],1⟩]⟩;have hno:∀(j:Nat) (s:Rc),σ.rs[j]?=ak s->s.th=e.thread->s.live=aC->False:=fun j s hj ht hl=>by
     have:=List.findIdx?_eq_none_iff.1 hbu s (List.mem_of_getElem? hj);simp[ht,hl] at this
    have at_:∀{j:Nat} {s x:Rc},(σ.rs++[x])[j]?=ak s->(j=σ.rs.length/\s=x)\/(j<σ.rs.length/\σ.rs[j]?=ak s):=fun {j s x} hj=>by
     by_cases q:j<σ.rs.length
     ·rw[List.getElem?_append_left q] at hj
      exact .inr ⟨q,hj⟩
     ·rw[List.getElem?_append_right (by omega)] at hj
      have:j=σ.rs.length:=by
       cases hz:j - σ.rs.length with
       |zero=>omega |succ z=>rw[hz] at hj;simp at hj
      subst this;simp at hj;exact .inl ⟨rfl,hj.symm⟩
    refine ⟨fun a b x y ha hb ht hx hy=>?_,fun a x ha=>?_,fun a x ha=>?_,by simp;have:=hI.len;omega,fun a x ha=>?_⟩
    ·rcases at_ ha with ⟨rfl,rfl⟩ |⟨n1,ha'⟩
     ·rcases at_ hb with ⟨rfl,rfl⟩ |⟨n2,hb'⟩
      ·rfl
      ·exact (hno _ _ hb' ht.symm hy).elim
     ·rcases at_ hb with ⟨rfl,rfl⟩ |⟨n2,hb'⟩
      ·exact (hno _ _ ha' ht hx).elim
      ·exact hI.one _ _ x y ha' hb' ht hx hy
    ·rcases at_ ha with ⟨rfl,rfl⟩ |⟨n1,ha'⟩
     ·intro q;simp at q
     ·exact hI.deed _ _ ha'
    ·rcases at_ ha with ⟨rfl,rfl⟩ |⟨n1,ha'⟩
     ·show 1<=(1:Int)/\(1:Int)<=5
      omega
     ·exact hI.stands _ _ ha'
    ·rcases at_ ha with ⟨rfl,rfl⟩ |⟨n1,ha'⟩
     ·simp
     ·have:=hI.dl _ _ ha'
      show _<=σ.many+1;omega
  ·have b1:(e.kind==1)=ay:=by simpa using k1
   simp only[b1,cond_false];exact hI
def Au.nil:Au:=⟨0,[]⟩
theorem Au.OK.nil:Au.nil.OK:=⟨fun i j r s h=>by simp[Au.nil] at h,fun i r h=>by simp[Au.nil] at h,fun i r h=>by simp[Au.nil] at h,dn _,fun i r h=>by simp[Au.nil] at h⟩
theorem QZ{σ:Au}{e:Ev}(h:(σ.feed e).1=aK):(σ.feed e).2.many=σ.many+1:=by
 unfold Au.feed at h ⊢;cases h1:σ.Ku e.tx with
 |some i=>
  simp only[h1] at h ⊢;cases hb:e.kind==1<;>simp only[hb,cond_true,cond_false] at h ⊢
  ·cases h2:wG σ.many e (σ.rs.getD i ⟨0,0,0,0,0,0,[],0⟩) with
   |inl k=>rw[h2] at h;cases h |inr r=>rfl
  ·cases h
 |none=>
  simp only[h1] at h ⊢;cases hb:e.kind==1<;>simp only[hb,cond_true,cond_false] at h ⊢
  ·cases h
  ·cases h2:σ.Lr e.thread with
   |some j=>simp only[h2] at h;cases h |none=>rfl
end Go.BR
namespace Go.Aw
open Go Go.Sx Go.BR
theorem aqd{H H':Mem}{n:Nat}{o:Nat->Oj}{xs:List Value}(h:Ci H 2 n (Aj o) xs):Ci H' 2 n (Aj o) xs:=
 ⟨h.1,h.2.1,h.2.2.1,fun i j s v hi h1 h2=>by
  have:=h.2.2.2 i j s v hi h1 h2;have hs:∃k,s=.i .i64 k:=by
   match j,h1 with
   |0,h1=>exact ⟨_,(dH h1).symm⟩ |1,h1=>exact ⟨_,(dH h1).symm⟩ |j+2,h1=>simp[Aj,Row.put,obR] at h1
  obtain ⟨k,rfl⟩:=hs;cases this;exact .i _ _⟩
def Ip(n:Nat)(o:Nat->Oj)(σ:Au)(p:Nat):Hp->Prop:=fun h=>
 ∃L:Lay,L.p=p/\(∀b,h b≠aK↔Ro L σ.rs.length b)/\∀(H:Mem) (w:World),h.at H w->Dy H w n (Aj o) σ L
theorem Dy.hide{H:Mem}{w:World}{n:Nat}{o:Nat->Oj}{σ:Au}{L:Lay}(hA:Dy H w n (Aj o) σ L):∃h:Hp,Ip n o σ L.p h/\h.at H w/\∀b,h b≠aK↔Ro L σ.rs.length b:=by
 classical
 have hlt:∀{b},Ro L σ.rs.length b->∃o,w.heap[b]?=ak o:=fun {b} ⟨t,ht⟩=>⟨_,fG (hA.lt ht)⟩;have hne:∀b,(if Ro L σ.rs.length b then w.heap[b]? else aK)≠aK↔Ro L σ.rs.length b:=fun b=>by
  by_cases q:Ro L σ.rs.length b
  ·obtain ⟨o,ho⟩:=hlt q
   simp[q,ho]
  ·simp[q]
 refine ⟨fun b=>if Ro L σ.rs.length b then w.heap[b]? else aK,⟨L,rfl,hne,fun H' w' hat=>?_⟩,fun b o e=>?_,hne⟩
 ·have at_:∀t b,L.blk σ.rs.length t=ak b->w'.heap[b]?=w.heap[b]?/\H' b=aK:=fun t b hb=>by
   obtain ⟨o,ho⟩:=hlt ⟨t,hb⟩;have:=hat b o ((if_pos (⟨t,hb⟩:Ro L σ.rs.length b)).trans ho);exact ⟨this.1.trans ho.symm,this.2⟩
  have h0:Dy (fun _=>aK) w n (Aj o) σ L:=⟨hA.au,let ⟨xs,h1,h2⟩:=hA.ob;⟨xs,h1,aqd h2⟩,hA.tx,hA.Ls,hA.bu,hA.rc,hA.de,hA.Gq,fun _ _ _=>rfl⟩;exact h0.keep (fun _ _ e=>by cases e) (fun t b hb=>(at_ t b hb).1) fun t b hb=>(at_ t b hb).2
 ·by_cases q:Ro L σ.rs.length b
  ·simp only[if_pos q] at e
   exact ⟨e,let ⟨t,ht⟩:=q;hA.un t b ht⟩
  ·simp only[if_neg q] at e;cases e
theorem aqe{n:Nat}{o:Nat->Oj}{σ:Au}{p:Nat}{e:Ev}{es:SV}(hes:∀H E v,Den H E es v->v=YI e)(hI:σ.OK)(hm:σ.many<400)(hv:Cm e=aC)(hob:e.kind=2->0<=e.obj/\e.obj<n/\DV e.op=(o e.obj.toNat).kind):
  akq aA (FV W5) 79 [.val (DK p),es] (Ip n o σ p) (svE (σ.feed e).1) (Ip n o (σ.feed e).2 p):=by
 intro H E w vs h hd hon hg ⟨L,hp,hblk,hA⟩ hat;match vs,hd with
 |[v1,v2],⟨d1,d2,_⟩=>
  obtain ⟨rfl,_⟩:=d1;obtain rfl:=hes _ _ _ d2;subst hp;refine Calls.mono (aqc (hA H w hat) hI hon hg hm hv hob) fun en w' ⟨v,H',L',h1,h2,h3,h4,h5,h6,h7⟩=>?_;obtain ⟨h',r1,r2,r3⟩:=Dy.hide h3;refine ⟨v,H',h',h1,?_,by rw[<-h4];exact r1,r2,h6,Uj h7 fun b hb=>(hblk b).2 hb,fun b hb=>?_⟩
  ·cases hx:(σ.feed e).1 with
   |none=>rw[hx] at h2;exact h2 |some k=>rw[hx] at h2;exact h2
  ·obtain ⟨t,ht⟩:=(r3 b).1 hb
   rcases h5 t b ht with q|q
   ·exact .inl q
   ·exact .inr ((hblk b).2 q)
section
variable{H:Mem}{E:Env}{w:World}{K:Kx}{n:Nat}{o:Nat->Oj}{h:Hp}
theorem aeg{b b1 b2:Nat}{v0:Value}(au:w.heap[b]?=ak (.cells #[v0,.int .i64 0,.slice aK 0 0,.map (ak b1),.map (ak b2)] 181 (0,0)))
  (ob:∃xs,w.ownsRow 0 140 2 v0 n xs/\Ci H 2 n (Aj o) xs) (m1:∃ms clk,w.heap[b1]?=ak (.map ms clk)/\FI .i64 ms.toList clk fun _=>aK) (m2:∃ms clk,w.heap[b2]?=ak (.map ms clk)/\FI .i64 ms.toList clk fun _=>aK)
  (Gq:b≠b1/\b≠b2/\b1≠b2/\∀x,AL v0=ak x->x≠b/\x≠b1/\x≠b2) (un:H b=aK/\H b1=aK/\H b2=aK/\∀x,AL v0=ak x->H x=aK) :
  Dy H w n (Aj o) Au.nil ⟨b,v0,.slice aK 0 0,b1,b2,fun _=>0,fun _=>.slice aK 0 0⟩:=by
 obtain ⟨d1,d2,d3,d4⟩:=Gq;refine ⟨au,ob,⟨rfl,.inl ⟨rfl,rfl⟩⟩,m1,m2,fun i r hi=>by simp[Au.nil] at hi,fun i r hi=>by simp[Au.nil] at hi,fun s t x hs ht=>?_,fun t x ht=>?_⟩
 ·cases s<;>cases t<;>simp[ny,Au.nil,AL] at hs ht<;>first|rfl|(exfalso;subst_vars;first|exact d1 rfl|exact d2 rfl|exact d3 rfl|exact d1 ht.symm|exact (d4 _ hs).1 rfl|exact (d4 _ hs).2.1 rfl|exact (d4 _ hs).2.2 rfl|exact (d4 _ ht).1 rfl|exact (d4 _ ht).2.1 rfl|exact (d4 _ ht).2.2 rfl|skip) |skip
  all_goals (first|exact d1 (hs.trans ht.symm) |exact d1 (hs ▸ ht ▸ rfl) |omega)
 ·cases t<;>simp[ny,Au.nil,AL] at ht<;>first|(subst ht;first|exact un.1|exact un.2.1|exact un.2.2.1) |exact un.2.2.2 _ ht
theorem acs{hp:List (Nat×SB)}{σ:Au}{L:Lay}(hh:Xa E w hp h)(hA:Dy H w n (Aj o) σ L)(hb:∀x,(∃id sb,Ak hp id=ak sb/\Bd E id sb=ak x)↔Ro L σ.rs.length x):Ip n o σ L.p h:=by
 obtain ⟨h0,r1,r2,r3⟩:=Dy.hide hA;have:h0=h:=by
  funext x;have e1:=r3 x;have e2:=(hh.2 x).symm.trans (hb x);cases q:h x with
  |none=>
   cases q':h0 x with
   |none=>rfl |some o'=>exact ((e2.2 (e1.1 (by simp[q']))) q).elim
  |some o'=>
   cases q':h0 x with
   |none=>exact ((e1.2 (e2.1 (by simp[q]))) q').elim |some o''=>
    have a1:=hh.1 x _ q;have a2:=(r2 x _ q').1;rw[a1] at a2;exact a2.symm
 rw[<-this];exact r1
theorem aas{id:Nat}(hh:GI K H E w id (.fm .i64 (fun _=>aK) [] [] aK)):∃b ms clk,E id=ak (.map (ak b))/\w.heap[b]?=ak (.map ms clk)/\FI .i64 ms.toList clk fun _=>aK:=by
 obtain ⟨b,ms,clk,fv,uv,s1,s2,s3,s4,s5,s6,_,s7⟩:=hh;obtain rfl:=P9 s4;exact ⟨b,ms,clk,s1,s2,s6⟩
theorem ahI{o':Nat->List Sh}(ho:∀i,i<n->o' i=Aj o i){n':Nat}(hn:n'=n){hp:List (Nat×SB)}(hpe:hp=[(3,.own 140 2 n' o'),(4,.fm .i64 (fun _=>aK) [] [] aK),(5,.fm .i64 (fun _=>aK) [] [] aK),(6,.box [.gs 3,.int .i64 0,.A8,.mp 4,.mp 5] 181)])
  (hh:AO K H E w hp) (hd:Xa E w hp h):∃b,E 6=ak (.pointer (ak ⟨b,0,aK⟩))/\Ip n o Au.nil b h:=by
 subst hn hpe;obtain ⟨v,xs,x1,x2,x3,x4⟩:=hh.ent 3 _ rfl;obtain ⟨b1,ms1,Xy,y1,y2,y3⟩:=aas (hh.ent 4 _ rfl);obtain ⟨b2,ms2,Xz,z1,z2,z3⟩:=aas (hh.ent 5 _ rfl);obtain ⟨b,⟨cs⟩,p1,p2,p3,p4⟩:=hh.ent 6 _ rfl;match cs,p3 with
 |[u0,u1,u2,u3,u4],⟨d0,d1,d2,d3,d4,_⟩=>
  have d1:u1=.int .i64 0:=d1;have d2:u2=.slice aK 0 0:=d2;obtain ⟨d0,_⟩:E 3=ak u0/\_:=d0;obtain ⟨c1,d3,d3'⟩:=d3;obtain ⟨c2,d4,d4'⟩:=d4;rw[x1] at d0;cases d0;rw[y1] at d3;cases d3;rw[z1] at d4;cases d4;subst d1 d2 d3' d4';have k3:Bd E 3 (.own 140 2 n' o')=AL v:=by simp[Bd,x1]
  have k4:Bd E 4 (.fm .i64 (fun _=>aK) [] [] aK)=ak b1:=by simp[Bd,y1,AL]
  have k5:Bd E 5 (.fm .i64 (fun _=>aK) [] [] aK)=ak b2:=by simp[Bd,z1,AL]
  have k6:Bd E 6 (.box [.gs 3,.int .i64 0,.A8,.mp 4,.mp 5] 181)=ak b:=by simp[Bd,p1,AL]
  have dd:∀{i j:Nat} {s t:SB} {x:Nat},Ak [(3,nZ 140 2 n' o'),(4,.fm .i64 (fun _=>aK) [] [] aK),(5,.fm .i64 (fun _=>aK) [] [] aK),(6,.box [.gs 3,.int .i64 0,.A8,.mp 4,.mp 5] 181)] i=ak s->Ak [(3,nZ 140 2 n' o'),(4,.fm .i64 (fun _=>aK) [] [] aK),(5,.fm .i64 (fun _=>aK) [] [] aK),(6,.box [.gs 3,.int .i64 0,.A8,.mp 4,.mp 5] 181)] j=ak t->Bd E i s=ak x->Bd E j t=ak x->i=j:=fun h1 h2 h3 h4=>hh.Gq _ _ _ _ _ h1 h2 h3 h4
  have mi:∀{i:Nat} {s:SB} {x:Nat},Ak [(3,nZ 140 2 n' o'),(4,.fm .i64 (fun _=>aK) [] [] aK),(5,.fm .i64 (fun _=>aK) [] [] aK),(6,.box [.gs 3,.int .i64 0,.A8,.mp 4,.mp 5] 181)] i=ak s->Bd E i s=ak x->H x=aK:=fun h1 h2=>((hh.ent _ _ h1).lt h2).2.1;have hA:=aeg (H:=H) (n:=n') (o:=o) p2 ⟨xs,x2,Sl x3 ho⟩ ⟨ms1,Xy,y2,y3⟩ ⟨ms2,Xz,z2,z3⟩
   ⟨fun q=>(by subst q;cases dd (i:=6) (j:=4) rfl rfl k6 k4),fun q=>(by subst q;cases dd (i:=6) (j:=5) rfl rfl k6 k5),fun q=>(by subst q;cases dd (i:=4) (j:=5) rfl rfl k4 k5),
    fun x hx=>⟨fun q=>(by subst q;cases dd (i:=3) (j:=6) rfl rfl (k3.trans hx) k6),fun q=>(by subst q;cases dd (i:=3) (j:=4) rfl rfl (k3.trans hx) k4),fun q=>(by subst q;cases dd (i:=3) (j:=5) rfl rfl (k3.trans hx) k5)⟩⟩
   ⟨mi (i:=6) rfl k6,mi (i:=4) rfl k4,mi (i:=5) rfl k5,fun x hx=>mi (i:=3) rfl (k3.trans hx)⟩
  refine ⟨b,p1,acs hd hA fun x=>⟨fun ⟨id,sb,h1,h2⟩=>?_,fun ⟨t,ht⟩=>?_⟩⟩
  ·simp only[Ak] at h1
   cases q3:(3:Nat)==id<;>simp only[q3,cond_true,cond_false] at h1
   ·cases q4:(4:Nat)==id<;>simp only[q4,cond_true,cond_false] at h1
    ·cases q5:(5:Nat)==id<;>simp only[q5,cond_true,cond_false] at h1
     ·cases q6:(6:Nat)==id<;>simp only[q6,cond_true,cond_false] at h1
      ·cases h1
      ·cases h1;obtain rfl:6=id:=by simpa using q6
       rw[k6] at h2;exact ⟨.au,h2⟩
     ·cases h1;obtain rfl:5=id:=by simpa using q5
      rw[k5] at h2;exact ⟨.bu,h2⟩
    ·cases h1;obtain rfl:4=id:=by simpa using q4
     rw[k4] at h2;exact ⟨.Ls,h2⟩
   ·cases h1;obtain rfl:3=id:=by simpa using q3
    rw[k3] at h2;exact ⟨.ob,h2⟩
  ·cases t with
   |au=>exact ⟨6,_,rfl,k6.trans ht⟩ |tx=>cases ht |Ls=>exact ⟨4,_,rfl,k4.trans ht⟩ |bu=>exact ⟨5,_,rfl,k5.trans ht⟩ |ob=>exact ⟨3,_,rfl,k3.trans ht⟩ |rc i=>simp[ny,Au.nil] at ht |de i=>simp[ny,Au.nil] at ht
theorem ahJ(hn:n=0){hp:List (Nat×SB)}(hpe:hp=[(2,.fm .i64 (fun _=>aK) [] [] aK),(3,.fm .i64 (fun _=>aK) [] [] aK),(4,.box [.A8,.int .i64 0,.A8,.mp 2,.mp 3] 181)])
  (hh:AO K H E w hp) (hd:Xa E w hp h):∃b,E 4=ak (.pointer (ak ⟨b,0,aK⟩))/\Ip n o Au.nil b h:=by
 subst hn hpe;obtain ⟨b1,ms1,Xy,y1,y2,y3⟩:=aas (hh.ent 2 _ rfl);obtain ⟨b2,ms2,Xz,z1,z2,z3⟩:=aas (hh.ent 3 _ rfl);obtain ⟨b,⟨cs⟩,p1,p2,p3,p4⟩:=hh.ent 4 _ rfl;match cs,p3 with
 |[u0,u1,u2,u3,u4],⟨d0,d1,d2,d3,d4,_⟩=>
  have d1:u1=.int .i64 0:=d1;have d2:u2=.slice aK 0 0:=d2;have d0:u0=.slice aK 0 0:=d0;obtain ⟨c1,d3,d3'⟩:=d3;obtain ⟨c2,d4,d4'⟩:=d4;rw[y1] at d3;cases d3;rw[z1] at d4;cases d4;subst d0 d1 d2 d3' d4';have k4:Bd E 2 (.fm .i64 (fun _=>aK) [] [] aK)=ak b1:=by simp[Bd,y1,AL]
  have k5:Bd E 3 (.fm .i64 (fun _=>aK) [] [] aK)=ak b2:=by simp[Bd,z1,AL]
  have k6:Bd E 4 (.box [.A8,.int .i64 0,.A8,.mp 2,.mp 3] 181)=ak b:=by simp[Bd,p1,AL]
  have dd:∀{i j:Nat} {s t:SB} {x:Nat},Ak [(2,jJ .i64 (fun _=>aK) [] [] aK),(3,.fm .i64 (fun _=>aK) [] [] aK),(4,.box [.A8,.int .i64 0,.A8,.mp 2,.mp 3] 181)] i=ak s->Ak [(2,jJ .i64 (fun _=>aK) [] [] aK),(3,.fm .i64 (fun _=>aK) [] [] aK),(4,.box [.A8,.int .i64 0,.A8,.mp 2,.mp 3] 181)] j=ak t->Bd E i s=ak x->Bd E j t=ak x->i=j:=fun h1 h2 h3 h4=>hh.Gq _ _ _ _ _ h1 h2 h3 h4
  have mi:∀{i:Nat} {s:SB} {x:Nat},Ak [(2,jJ .i64 (fun _=>aK) [] [] aK),(3,.fm .i64 (fun _=>aK) [] [] aK),(4,.box [.A8,.int .i64 0,.A8,.mp 2,.mp 3] 181)] i=ak s->Bd E i s=ak x->H x=aK:=fun h1 h2=>((hh.ent _ _ h1).lt h2).2.1;have hA:=aeg (H:=H) (n:=0) (o:=o) p2 ⟨[],⟨rfl,.inl ⟨rfl,rfl⟩⟩,KA 2 _⟩ ⟨ms1,Xy,y2,y3⟩ ⟨ms2,Xz,z2,z3⟩
   ⟨fun q=>(by subst q;cases dd (i:=4) (j:=2) rfl rfl k6 k4),fun q=>(by subst q;cases dd (i:=4) (j:=3) rfl rfl k6 k5),fun q=>(by subst q;cases dd (i:=2) (j:=3) rfl rfl k4 k5),fun x hx=>by cases hx⟩
   ⟨mi (i:=4) rfl k6,mi (i:=2) rfl k4,mi (i:=3) rfl k5,fun x hx=>by cases hx⟩
  refine ⟨b,p1,acs hd hA fun x=>⟨fun ⟨id,sb,h1,h2⟩=>?_,fun ⟨t,ht⟩=>?_⟩⟩
  ·simp only[Ak] at h1
   cases q4:(2:Nat)==id<;>simp only[q4,cond_true,cond_false] at h1
   ·cases q5:(3:Nat)==id<;>simp only[q5,cond_true,cond_false] at h1
    ·cases q6:(4:Nat)==id<;>simp only[q6,cond_true,cond_false] at h1
     ·cases h1
     ·cases h1;obtain rfl:4=id:=by simpa using q6
      rw[k6] at h2;exact ⟨.au,h2⟩
    ·cases h1;obtain rfl:3=id:=by simpa using q5
     rw[k5] at h2;exact ⟨.bu,h2⟩
   ·cases h1;obtain rfl:2=id:=by simpa using q4
    rw[k4] at h2;exact ⟨.Ls,h2⟩
  ·cases t with
   |au=>exact ⟨4,_,rfl,k6.trans ht⟩ |tx=>cases ht |Ls=>exact ⟨2,_,rfl,k4.trans ht⟩ |bu=>exact ⟨3,_,rfl,k5.trans ht⟩ |ob=>cases ht |rc i=>simp[ny,Au.nil] at ht |de i=>simp[ny,Au.nil] at ht
end
open Go Go.Sx Go.BR
def acu:Nat->Option (List Sh->Tree Sh)
 |77=>ak apP |_=>aK
noncomputable def CT(A:Prim)(W:Wd):Ctx:={C5 A W acu AU with amL:=fun t=>bif fC t 179 then ak (.i64,[]) else aK}
def aat(g:Nat):Bool:=fC g 79
def NZ:List It:=[bD [0,1,0,1,1,1,1],dw 0,bD [1,1,1,1,1]]
def ak0:List It:=bD [0,0,1,0,1,1,1,1]::NZ
def L8(g:Nat):Bool:=fC g 79||fC g 44
def LT(m:Nat)(p:Nat->Ev)(b:Nat)(c i:Int):Core:=
 {tm:=[.any,.any,.EZ,.DT,.any,.val (.pointer (ak ⟨b,0,aK⟩))]++rep [.any] 19++[.sh (.sl 8 m (Aj p)),.sym .i64 c,.sym .i64 i]++rep [.any] 16,hp:=[],nx:=0,lim:=L0,tc:=[]}
def Rq:List Fr:=[{g:=20,td:=[kK [0,1] [1,2,3,4,5,6],bD [1,1]],tm:=[.any,.any,.A8,.DT]++rep [.any] 12}]
def Rt:List Fr:=[{g:=22,td:=[kK [0,1] [1,2,3,4,5,6],bD [1,1]],tm:=[.any,.any,.DT]++rep [.any] 8}]
def tdP:List It:=[kK [0,1,0,0,1,1,0,0,1,0,1,1,1,1] [2,3],bD [1,1,0,0,1,1,0,0,1,0,1,1,1,1],dw 1,bD [1,1,1,0,0,1,0,1,1,1,1]]++NZ
def tdQ:List It:=[kK [0,1,0,0,1,1,0,0,1,0,1,1,1,1] [3],bD [1,1,0,0,1,1,0,0,1,0,1,1,1,1],dw 1,bD [1,1,1,0,0,1,0,1,1,1,1]]++NZ
def LP(m:Nat)(p:Nat->Ev)(b:Nat)(c i:Int)(e:Ev)(x:SV):Core:=
 {tm:=[.any,.any,.EZ,.DT,.any,.val (.pointer (ak ⟨b,0,aK⟩)),.any,.sym .i64 i]++rep [.any] 17++[.sh (.sl 8 m (Aj p)),.sym .i64 c,.sym .i64 i]++rep [.any] 4 ++
   [.val (.pointer (ak ⟨b,0,aK⟩)),.agg [.sym .i64 e.kind,.sym .i64 e.tx,.sym .i64 e.thread,.sym .i64 e.obj,.sym .i64 e.op,.sym .i64 e.key,.sym .i64 e.val,.sym .i64 e.ret],x]++rep [.any] 9,hp:=[],nx:=0,lim:=L0,tc:=[]}
def aeh:List It:=[kK [0,1,1,1] [1,2,3],bD [1,1,1,1]]
def LX(x:SV):Core:={tm:=[.any,.any,.A8,.DT]++rep [.any] 10++[x,.any],hp:=[],nx:=0,lim:=L0,tc:=[]}
def rcR(N:Rc->Nat)(D:Rc->Nat->List Sh)(r:Rc):List Sh:=[.i .i64 r.id,.i .i64 r.th,.i .i64 r.st,.i .i64 r.bg,.i .i64 r.en,.i .i64 r.tr,.sl 8 (N r) (D r),.i .i64 r.stand]
def Z4(N:Rc->Nat)(D:Rc->Nat->List Sh)(rs:Nat->Rc):Nat->List Sh:=fun j=>[.pt (rcR N D (rs j))]
def auX(N:Rc->Nat)(D:Rc->Nat->List Sh)(v0:Value)(many:Int)(k:Nat)(rs:Nat->Rc)(b1 b2:Nat):SV:=.GX 5 1 (fun _=>[.v v0,.i .i64 many,.sl 1 k (Z4 N D rs),.v (.map (ak b1)),.v (.map (ak b2))]) 0 0
def txR(N:Rc->Nat)(D:Rc->Nat->List Sh)(r:Rc):List Sh:=[.i .i64 r.id,.i .i64 r.th,.i .i64 r.st,.i .i64 r.bg,.i .i64 r.en,.i .i64 r.tr,.sl 8 (N r) (D r)]
def VL(N:Rc->Nat)(D:Rc->Nat->List Sh)(rs:Nat->Rc):Nat->List Sh:=fun j=>txR N D (rs j)
def tdT:List It:=[bD [0,1,0,1,1],dw 0,bD [1,1,1]]
def tbT:List It:=bD [0,0,1,0,1,1]::tdT
def aei(N:Rc->Nat)(D:Rc->Nat->List Sh)(k:Nat)(rs:Nat->Rc)(c i:Int)(j:Nat)(gg:Nat->List Sh):Core:=
 {tm:=[.any,.any,.any,.gs 0]++rep [.any] 12++[.sh (.sl 1 k (Z4 N D rs)),.sym .i64 c,.sym .i64 i]++rep [.any] 21,hp:=[(0,.own 115 7 j gg)],nx:=1,lim:=L0,tc:=[]}
def frX:List Fr:=[{g:=20,td:=aeh,tm:=[.any,.any,.A8,.DT]++rep [.any] 12}]
theorem a32(A:Prim)(W:Wd)(n m:Nat)(o:Nat->Oj)(p:Nat->Ev):anN (CT A W) aat 300 400 20 [.code []] (Ap 16 [.agg [.sl 2 n (Aj o),.sl 8 m (Aj p)]] L0) []=aH (okB Oj n (Aj o)) (aH (okB Ev m (Aj p)) (aH (L6 m (Aj p)) (aF (F5 n m) (aB (nC (cZ [aG 0 0 fun _=>[],bf 6 329]))) (aF (EG n m (Aj o) (Aj p)) (aH (okB Oj n (Aj o)) (aH (okB Ev 0 fun _=>[]) (aH (L6 0 fun _=>[]) (aF (F5 n 0) (aB (nC (cZ [aG 0 0 fun _=>[],bf 6 329]))) (aF (EG n 0 (Aj o) fun _=>[]) (aF (A.ZN n 0) ((aB (qo 43 [bD [0,1,0,1,1,1,1],dw 0,bD [1,1,1,1,1]] {tm:=[gY [bU (aG 2 n (Aj o)),bU (aG 8 m (Aj p))],gZ 1 0,lK,dQ,dQ,gZ 4 0,dQ,aP,aP,aP,aP,aP,aP,kQ ay,aP,aP,aP,aP,aP,aP,aP,aP,kQ ay,aP,aP,bU (aG 8 m (Aj p)),sH aW (A.AZ m),jY aW (ah 0),aP,aP,aP,aP,aP,aP,aP,aP,aP,aP,aP,aP,aP,aP,aP,aP],hp:=[(0,ig [bU (aG 2 n (Aj o)),bU (aG 8 m (Aj p))] 25),(1,ig [bU (aG 2 n (Aj o)),bU (aG 8 m (Aj p))] 25),(2,jJ aW (fun _=>aK) [] [] aK),(3,jJ aW (fun _=>aK) [] [] aK),(4,ig [iY,jY aW (ah 0),iY,kH 2,kH 3] 181)],nx:=5,lim:=1000000000000000000000000000000,tc:=[]} [{g:=20,td:=[kK [0,1] [1,2,3,4,5,6],bD [1,1]],tm:=[gY [bU (aG 2 n (Aj o)),bU (aG 8 m (Aj p))],gZ 0 0,iY,dQ,aP,aP,aP,gY [bU (aG 2 n (Aj o)),bU (aG 8 m (Aj p))],aP,aP,aP,aP,aP,aP,aP,aP]}])).both (aH (A.room (A.addN 0 n) 16) (aB (qo 43 [bD [0,1,0,1,1,1,1],dw 0,bD [1,1,1,1,1]] {tm:=[gY [bU (aG 2 n (Aj o)),bU (aG 8 m (Aj p))],gZ 1 0,lK,dQ,dQ,gZ 6 0,dQ,aP,aP,aP,aP,aP,aP,kQ ay,aP,aP,aP,aP,aP,aP,aP,aP,kQ ay,aP,aP,bU (aG 8 m (Aj p)),sH aW (A.AZ m),jY aW (ah 0),aP,aP,aP,aP,aP,aP,aP,aP,aP,aP,aP,aP,aP,aP,aP,aP],hp:=[(0,ig [bU (aG 2 n (Aj o)),bU (aG 8 m (Aj p))] 25),(1,ig [bU (aG 2 n (Aj o)),bU (aG 8 m (Aj p))] 25),(3,nZ 140 2 (A.addN 0 n) (A.snoc (Bh []) 0 (Aj o))),(4,jJ aW (fun _=>aK) [] [] aK),(5,jJ aW (fun _=>aK) [] [] aK),(6,ig [wH 3,jY aW (ah 0),iY,kH 4,kH 5] 181)],nx:=7,lim:=1000000000000000000000000000000,tc:=[2]} [{g:=20,td:=[kK [0,1] [1,2,3,4,5,6],bD [1,1]],tm:=[gY [bU (aG 2 n (Aj o)),bU (aG 8 m (Aj p))],gZ 0 0,iY,dQ,aP,aP,aP,gY [bU (aG 2 n (Aj o)),bU (aG 8 m (Aj p))],aP,aP,aP,aP,aP,aP,aP,aP]}])))) (aH (A.room (A.addN 0 n) 16) (aB (qo 43 [bD [0,1,0,1,1,1,1],dw 0,bD [1,1,1,1,1]] {tm:=[gY [bU (aG 2 n (Aj o)),bU (aG 8 m (Aj p))],gZ 1 0,lK,dQ,dQ,gZ 6 0,dQ,aP,aP,aP,aP,aP,aP,kQ ay,aP,aP,aP,aP,aP,aP,aP,aP,kQ ay,aP,aP,bU (aG 8 m (Aj p)),sH aW (A.AZ m),jY aW (ah 0),aP,aP,aP,aP,aP,aP,aP,aP,aP,aP,aP,aP,aP,aP,aP,aP],hp:=[(0,ig [bU (aG 2 n (Aj o)),bU (aG 8 m (Aj p))] 25),(1,ig [bU (aG 2 n (Aj o)),bU (aG 8 m (Aj p))] 25),(3,nZ 140 2 (A.addN 0 n) (A.snoc (Bh []) 0 (Aj o))),(4,jJ aW (fun _=>aK) [] [] aK),(5,jJ aW (fun _=>aK) [] [] aK),(6,ig [wH 3,jY aW (ah 0),iY,kH 4,kH 5] 181)],nx:=7,lim:=1000000000000000000000000000000,tc:=[2]} [{g:=20,td:=[kK [0,1] [1,2,3,4,5,6],bD [1,1]],tm:=[gY [bU (aG 2 n (Aj o)),bU (aG 8 m (Aj p))],gZ 0 0,iY,dQ,aP,aP,aP,gY [bU (aG 2 n (Aj o)),bU (aG 8 m (Aj p))],aP,aP,aP,aP,aP,aP,aP,aP]}])))) (aB (nC (cZ [aG 0 0 fun _=>[],mQ 109 (pR [aY .i64 (GV n 0 (Aj o) fun _=>[]),bf (I4 n 0 (Aj o) fun _=>[]) 329])])))))))) (aB (nC (cZ [aG 0 0 fun _=>[],mQ 109 (pR [aY .i64 (GV n m (Aj o) (Aj p)),bf (I4 n m (Aj o) (Aj p)) 329])]))))))):=by kernel_rfl
theorem a34(A:Prim)(W:Wd)(n m:Nat)(o:Nat->Oj)(p:Nat->Ev):anN (CT A W) aat 300 400 22 [.code []] (Ap 11 [.agg [.sl 2 n (Aj o),.sl 8 m (Aj p)]] L0) []=aH (okB Oj n (Aj o)) (aH (okB Ev m (Aj p)) (aH (L6 m (Aj p)) (aF (F5 n m) (aB (nC (bf 6 329))) (aF (EG n m (Aj o) (Aj p)) (aH (okB Oj n (Aj o)) (aH (okB Ev 0 fun _=>[]) (aH (L6 0 fun _=>[]) (aF (F5 n 0) (aB (nC (bf 6 329))) (aF (EG n 0 (Aj o) fun _=>[]) (aF (A.ZN n 0) ((aB (qo 43 [bD [0,1,0,1,1,1,1],dw 0,bD [1,1,1,1,1]] {tm:=[gY [bU (aG 2 n (Aj o)),bU (aG 8 m (Aj p))],gZ 1 0,lK,dQ,dQ,gZ 4 0,dQ,aP,aP,aP,aP,aP,aP,kQ ay,aP,aP,aP,aP,aP,aP,aP,aP,kQ ay,aP,aP,bU (aG 8 m (Aj p)),sH aW (A.AZ m),jY aW (ah 0),aP,aP,aP,aP,aP,aP,aP,aP,aP,aP,aP,aP,aP,aP,aP,aP],hp:=[(0,ig [bU (aG 2 n (Aj o)),bU (aG 8 m (Aj p))] 25),(1,ig [bU (aG 2 n (Aj o)),bU (aG 8 m (Aj p))] 25),(2,jJ aW (fun _=>aK) [] [] aK),(3,jJ aW (fun _=>aK) [] [] aK),(4,ig [iY,jY aW (ah 0),iY,kH 2,kH 3] 181)],nx:=5,lim:=1000000000000000000000000000000,tc:=[]} [{g:=22,td:=[kK [0,1] [1,2,3,4,5,6],bD [1,1]],tm:=[gY [bU (aG 2 n (Aj o)),bU (aG 8 m (Aj p))],gZ 0 0,dQ,aP,aP,aP,gY [bU (aG 2 n (Aj o)),bU (aG 8 m (Aj p))],aP,aP,aP,aP]}])).both (aH (A.room (A.addN 0 n) 16) (aB (qo 43 [bD [0,1,0,1,1,1,1],dw 0,bD [1,1,1,1,1]] {tm:=[gY [bU (aG 2 n (Aj o)),bU (aG 8 m (Aj p))],gZ 1 0,lK,dQ,dQ,gZ 6 0,dQ,aP,aP,aP,aP,aP,aP,kQ ay,aP,aP,aP,aP,aP,aP,aP,aP,kQ ay,aP,aP,bU (aG 8 m (Aj p)),sH aW (A.AZ m),jY aW (ah 0),aP,aP,aP,aP,aP,aP,aP,aP,aP,aP,aP,aP,aP,aP,aP,aP],hp:=[(0,ig [bU (aG 2 n (Aj o)),bU (aG 8 m (Aj p))] 25),(1,ig [bU (aG 2 n (Aj o)),bU (aG 8 m (Aj p))] 25),(3,nZ 140 2 (A.addN 0 n) (A.snoc (Bh []) 0 (Aj o))),(4,jJ aW (fun _=>aK) [] [] aK),(5,jJ aW (fun _=>aK) [] [] aK),(6,ig [wH 3,jY aW (ah 0),iY,kH 4,kH 5] 181)],nx:=7,lim:=1000000000000000000000000000000,tc:=[2]} [{g:=22,td:=[kK [0,1] [1,2,3,4,5,6],bD [1,1]],tm:=[gY [bU (aG 2 n (Aj o)),bU (aG 8 m (Aj p))],gZ 0 0,dQ,aP,aP,aP,gY [bU (aG 2 n (Aj o)),bU (aG 8 m (Aj p))],aP,aP,aP,aP]}])))) (aH (A.room (A.addN 0 n) 16) (aB (qo 43 [bD [0,1,0,1,1,1,1],dw 0,bD [1,1,1,1,1]] {tm:=[gY [bU (aG 2 n (Aj o)),bU (aG 8 m (Aj p))],gZ 1 0,lK,dQ,dQ,gZ 6 0,dQ,aP,aP,aP,aP,aP,aP,kQ ay,aP,aP,aP,aP,aP,aP,aP,aP,kQ ay,aP,aP,bU (aG 8 m (Aj p)),sH aW (A.AZ m),jY aW (ah 0),aP,aP,aP,aP,aP,aP,aP,aP,aP,aP,aP,aP,aP,aP,aP,aP],hp:=[(0,ig [bU (aG 2 n (Aj o)),bU (aG 8 m (Aj p))] 25),(1,ig [bU (aG 2 n (Aj o)),bU (aG 8 m (Aj p))] 25),(3,nZ 140 2 (A.addN 0 n) (A.snoc (Bh []) 0 (Aj o))),(4,jJ aW (fun _=>aK) [] [] aK),(5,jJ aW (fun _=>aK) [] [] aK),(6,ig [wH 3,jY aW (ah 0),iY,kH 4,kH 5] 181)],nx:=7,lim:=1000000000000000000000000000000,tc:=[2]} [{g:=22,td:=[kK [0,1] [1,2,3,4,5,6],bD [1,1]],tm:=[gY [bU (aG 2 n (Aj o)),bU (aG 8 m (Aj p))],gZ 0 0,dQ,aP,aP,aP,gY [bU (aG 2 n (Aj o)),bU (aG 8 m (Aj p))],aP,aP,aP,aP]}])))) (aB (nC (mQ 109 (pR [aY .i64 (GV n 0 (Aj o) fun _=>[]),bf (I4 n 0 (Aj o) fun _=>[]) 329]))))))))) (aB (nC (mQ 109 (pR [aY .i64 (GV n m (Aj o) (Aj p)),bf (I4 n m (Aj o) (Aj p)) 329])))))))):=by kernel_rfl
theorem b32(A:Prim)(W:Wd)(m:Nat)(p:Nat->Ev)(b:Nat)(c i:Int)(k:Nat):Bj (CT A W) L8 300 400 43 ak0 (LT m p b c i) Rq [⟨43,tdP,LP m p b c i (p k) .any,Rq⟩,⟨20,aeh,LX (.val (.pointer (ak ⟨b,0,aK⟩))),[]⟩]=aF (A.lt i c) (aH (A.inB i m) (aB (bK 0 [jO (dZ (ak {block:=b,off:=0})) (dZ (ak {block:=b,off:=0})),aj i i,aO (aG 8 m (Aj p)) (aG 8 m (Aj p)),aj c c,aj i i,jO (dZ (ak {block:=b,off:=0})) (dZ (ak {block:=b,off:=0})),aj (p (A.toN i)).kind (p k).kind,aj (p (A.toN i)).tx (p k).tx,aj (p (A.toN i)).thread (p k).thread,aj (p (A.toN i)).obj (p k).obj,aj (p (A.toN i)).op (p k).op,aj (p (A.toN i)).key (p k).key,aj (p (A.toN i)).val (p k).val,aj (p (A.toN i)).ret (p k).ret]))) (aB (bK 1 [jO (dZ (ak {block:=b,off:=0})) (dZ (ak {block:=b,off:=0}))])):=by kernel_rfl
theorem b34(A:Prim)(W:Wd)(m:Nat)(p:Nat->Ev)(b:Nat)(c i:Int)(k:Nat):Bj (CT A W) L8 300 400 43 ak0 (LT m p b c i) Rt [⟨43,tdP,LP m p b c i (p k) .any,Rt⟩]=aF (A.lt i c) (aH (A.inB i m) (aB (bK 0 [jO (dZ (ak {block:=b,off:=0})) (dZ (ak {block:=b,off:=0})),aj i i,aO (aG 8 m (Aj p)) (aG 8 m (Aj p)),aj c c,aj i i,jO (dZ (ak {block:=b,off:=0})) (dZ (ak {block:=b,off:=0})),aj (p (A.toN i)).kind (p k).kind,aj (p (A.toN i)).tx (p k).tx,aj (p (A.toN i)).thread (p k).thread,aj (p (A.toN i)).obj (p k).obj,aj (p (A.toN i)).op (p k).op,aj (p (A.toN i)).key (p k).key,aj (p (A.toN i)).val (p k).val,aj (p (A.toN i)).ret (p k).ret]))) (aB (aT (Sh.v bJ))):=by kernel_rfl
theorem c32(A:Prim)(W:Wd)(m:Nat)(p:Nat->Ev)(b:Nat)(c i i1:Int)(e:Ev):Bj (CT A W) L8 300 400 43 tdQ (LP m p b c i e .DT) Rq [⟨43,NZ,LT m p b c i1,Rq⟩]=aB (bK 0 [jO (dZ (ak {block:=b,off:=0})) (dZ (ak {block:=b,off:=0})),aO (aG 8 m (Aj p)) (aG 8 m (Aj p)),aj c c,aj (A.add .i64 i (ah 1)) i1]):=by kernel_rfl
theorem c34(A:Prim)(W:Wd)(m:Nat)(p:Nat->Ev)(b:Nat)(c i i1:Int)(e:Ev):Bj (CT A W) L8 300 400 43 tdQ (LP m p b c i e .DT) Rt [⟨43,NZ,LT m p b c i1,Rt⟩]=aB (bK 0 [jO (dZ (ak {block:=b,off:=0})) (dZ (ak {block:=b,off:=0})),aO (aG 8 m (Aj p)) (aG 8 m (Aj p)),aj c c,aj (A.add .i64 i (ah 1)) i1]):=by kernel_rfl
theorem d32(A:Prim)(W:Wd)(m:Nat)(p:Nat->Ev)(b:Nat)(c i:Int)(e:Ev)(k:Nat):Bj (CT A W) L8 300 400 43 tdQ (LP m p b c i e (.sh (.er k 329))) Rq []=aB (aT (cZ [aG 0 0 fun _=>[],mQ 109 (pR [aY .i64 i,bf k 329])])):=by kernel_rfl
theorem d34(A:Prim)(W:Wd)(m:Nat)(p:Nat->Ev)(b:Nat)(c i:Int)(e:Ev)(k:Nat):Bj (CT A W) L8 300 400 43 tdQ (LP m p b c i e (.sh (.er k 329))) Rt []=aB (aT (mQ 109 (pR [aY .i64 i,bf k 329]))):=by kernel_rfl
theorem e32(A:Prim)(W:Wd)(N:Rc->Nat)(D:Rc->Nat->List Sh)(v0:Value)(many:Int)(k:Nat)(rs:Nat->Rc)(b1 b2:Nat)(c i:Int)(j:Nat)(gg:Nat->List Sh):Bj (CT A W) D5 300 400 20 aeh (LX (auX N D v0 many k rs b1 b2)) [] [⟨44,tdT,aei N D k rs c i j gg,frX⟩]=aH (A.le (ah 0) (A.AZ k)) (aH (A.room (A.toN (A.AZ k)) 72) (aB (bK 0 [aO (aG 1 k (Z4 N D rs)) (aG 1 k (Z4 N D rs)),aj (A.AZ k) c,aj (ah 0) i,aJ 0 j,aU 0 (fun _=>[]) gg]))):=by kernel_rfl
theorem f32(A:Prim)(W:Wd)(N:Rc->Nat)(D:Rc->Nat->List Sh)(k:Nat)(rs:Nat->Rc)(c i i1:Int)(j j1:Nat)(gg g1:Nat->List Sh):asw (CT A W) D5 300 400 44 tbT (aei N D k rs c i j gg) frX [⟨44,tdT,aei N D k rs c i1 j1 g1,frX⟩]=aF (A.lt i c) (aH (A.inB i k) (aH (A.le (ah 0) (A.AZ (N (rs (A.toN i))))) (aH (A.room (A.toN (A.AZ (N (rs (A.toN i))))) 64) (aH (A.room (A.addN 0 (N (rs (A.toN i)))) 64) (aH (A.le (ah 0) (A.AZ (N (rs (A.toN i))))) (aH (A.room (A.toN (A.AZ (N (rs (A.toN i))))) 64) (aH (A.room (A.addN 0 (N (rs (A.toN i)))) 64) (aQ [aJ 1 1,bF (fun _=>rcR N D (rs (A.toN i))) fun _=>rcR N D (rs (A.toN i)),aJ 0 0,aO (aG 1 k (Z4 N D rs)) (aG 1 k (Z4 N D rs)),aj c c,aj i i,aJ j j,bF gg gg,aj (rs (A.toN i)).id (rs (A.toN i)).id,aj (rs (A.toN i)).th (rs (A.toN i)).th,aj (rs (A.toN i)).st (rs (A.toN i)).st,aj (rs (A.toN i)).bg (rs (A.toN i)).bg,aj (rs (A.toN i)).en (rs (A.toN i)).en,aj (rs (A.toN i)).tr (rs (A.toN i)).tr,aJ (A.addN 0 (N (rs (A.toN i)))) (A.addN 0 (N (rs (A.toN i)))),bF (A.snoc (fun _=>[]) 0 (D (rs (A.toN i)))) (A.snoc (fun _=>[]) 0 (D (rs (A.toN i))))] (aH (A.le (ah 0) (A.AZ (N (rs (A.toN i))))) (aH (A.room (A.toN (A.AZ (N (rs (A.toN i))))) 64) (aH (A.room (A.addN 0 (N (rs (A.toN i)))) 64) (aQ [aJ 1 1,bF (fun _=>rcR N D (rs (A.toN i))) fun _=>rcR N D (rs (A.toN i)),aJ 0 0,aO (aG 1 k (Z4 N D rs)) (aG 1 k (Z4 N D rs)),aj c c,aj i i,aJ j j,bF gg gg,aj (rs (A.toN i)).id (rs (A.toN i)).id,aj (rs (A.toN i)).th (rs (A.toN i)).th,aj (rs (A.toN i)).st (rs (A.toN i)).st,aj (rs (A.toN i)).bg (rs (A.toN i)).bg,aj (rs (A.toN i)).en (rs (A.toN i)).en,aj (rs (A.toN i)).tr (rs (A.toN i)).tr,aJ (A.addN 0 (N (rs (A.toN i)))) (A.addN 0 (N (rs (A.toN i)))),bF (A.snoc (fun _=>[]) 0 (D (rs (A.toN i)))) (A.snoc (fun _=>[]) 0 (D (rs (A.toN i))))] (aH (A.room (A.addN j 1) 72) (aB (bK 0 [aO (aG 1 k (Z4 N D rs)) (aG 1 k (Z4 N D rs)),aj c c,aj (A.add .i64 i (ah 1)) i1,aJ (A.addN j 1) j1,aU (A.addN j 1) (A.snoc gg j (Bh [[aY .i64 (rs (A.toN i)).id,aY .i64 (rs (A.toN i)).th,aY .i64 (rs (A.toN i)).st,aY .i64 (rs (A.toN i)).bg,aY .i64 (rs (A.toN i)).en,aY .i64 (rs (A.toN i)).tr,aG 8 (A.addN 0 (N (rs (A.toN i)))) (A.snoc (fun _=>[]) 0 (D (rs (A.toN i))))]])) g1]))))))))))))))) (aB (aT (cZ [Sh.os 115 7 j gg,Sh.v bJ]))):=by kernel_rfl
end Go.Aw
namespace Go.BR
open Go Go.Sx
def rc0:Rc:=⟨0,0,0,0,0,0,[],0⟩
def FX(r:Rc):Nat:=r.Ar.length
def dfn(r:Rc):Nat->List Sh:=Aj (nth r.Ar)
def Ht(σ:Au)(j:Nat):Rc:=σ.rs.getD j rc0
theorem VN{σ:Au}{j:Nat}(h:j<σ.rs.length):σ.rs[j]?=ak (Ht σ j):=by
 simp[Ht,aX,aS h]
end Go.BR
namespace Go.Aw
open Go Go.Sx Go.BR
section
variable{H:Mem}{E:Env}{w:World}{n:Nat}{o:Nat->Oj}{h:Hp}{σ:Au}{b:Nat}
theorem amk(hR:Ip n o σ b h)(hat:h.at H w):∃L:Lay,Den (H.with h) E (auX FX dfn L.v0 σ.many σ.rs.length (Ht σ) L.b1 L.b2) (.pointer (ak ⟨b,0,aK⟩)):=by
 obtain ⟨L,rfl,hdom,hA⟩:=hR;have A:=hA H w hat;have at_:∀t x,L.blk σ.rs.length t=ak x->(H.with h) x=w.heap[x]?:=fun t x hx=>by
  cases q:h x with
  |none=>exact ((hdom x).2 ⟨t,hx⟩ q).elim |some ob=>simp only[Mem.with,q];exact (hat x ob q).1.symm
 have asO:L.v0.oneCell'=aC:=by
  obtain ⟨xs,h1,_⟩:=A.ob;rcases h1.2 with ⟨q,_⟩ |⟨g,cap,cur,q,_⟩<;>rw[q]<;>rfl
 have axa:L.v2.oneCell'=aC:=by
  rcases A.tx.2 with ⟨q,_⟩ |⟨g,cap,cur,q,_⟩<;>rw[q]<;>rfl
 have axb:∀i,i<σ.rs.length->Rep (H.with h) (.pt (rcR FX dfn (Ht σ i))) (DK (L.R i)):=fun i hi=>by
  have hs:=VN (σ:=σ) hi;have hc:=A.rc i _ hs;have hd:=A.de i _ hs;have hb:=at_ (.rc i) (L.R i) (by simp[ny,hi]);rw[hc] at hb;have axc:(L.D i).oneCell'=aC:=by
   rcases hd.2 with ⟨q,_⟩ |⟨g,cap,cur,q,_⟩<;>rw[q]<;>rfl
  have axd:Rep (H.with h) (.sl 8 (FX (Ht σ i)) (dfn (Ht σ i))) (L.D i):=MN hd (ZE _) fun x hx=>at_ (.de i) x (by simp[ny,hi,hx]);refine .pt _ (L.R i) 0 (fun j=>(Xx (Ht σ i) (L.D i)).getD j undef) (fun j hj=>?_) (fun j hj=>?_) fun j s hs'=>?_
  ·simp only[hcell,hb,gu]
   have:j<(Xx (Ht σ i) (L.D i)).size:=hj;simp[iQ,fG this]
  ·have:j<8:=hj
   match j,this with
   |0,_=>rfl |1,_=>rfl |2,_=>rfl |3,_=>rfl |4,_=>rfl |5,_=>rfl |6,_=>exact axc |7,_=>rfl |j+8,hj=>omega
  ·match j,hs' with
   |0,hs'=>cases hs';exact .i _ _ |1,hs'=>cases hs';exact .i _ _ |2,hs'=>cases hs';exact .i _ _ |3,hs'=>cases hs';exact .i _ _ |4,hs'=>cases hs';exact .i _ _ |5,hs'=>cases hs';exact .i _ _ |6,hs'=>cases hs';exact axd |7,hs'=>cases hs';exact .i _ _ |j+8,hs'=>simp[rcR] at hs'
 have axe:Rep (H.with h) (.sl 1 σ.rs.length (Z4 FX dfn (Ht σ))) L.v2:=by
  refine MN A.tx ?_ fun x hx=>at_ .tx x hx
  refine ⟨by simp,fun i _=>rfl,fun u hu=>?_,fun i j s v hi h1 h2=>?_⟩
  ·obtain ⟨i,_,rfl⟩:=dJ.1 hu
   rfl
  ·match j,h1 with
   |0,h1=>
    cases h1;simp[hi] at h2;subst h2;exact axb i hi
   |j+1,h1=>simp[Z4] at h1
 have hb:=at_ .au L.p rfl;rw[A.au] at hb;refine ⟨L,L.p,0,fun j=>(#[L.v0,.int .i64 σ.many,L.v2,.map (ak L.b1),.map (ak L.b2)]:Array Value).getD j undef,rfl,by decide,rfl,fun j hj=>⟨?_,?_⟩,fun j s hs'=>?_⟩
 ·simp only[hcell,hb,gu]
  have:j<(#[L.v0,.int .i64 σ.many,L.v2,.map (ak L.b1),.map (ak L.b2)]:Array Value).size:=hj;simp[iQ,fG this]
 ·match j,hj with
  |0,_=>exact asO |1,_=>rfl |2,_=>exact axa |3,_=>rfl |4,_=>rfl |j+5,hj=>omega
 ·match j,hs' with
  |0,hs'=>cases hs';exact .v _ asO |1,hs'=>cases hs';exact .i _ _ |2,hs'=>cases hs';exact axe |3,hs'=>cases hs';exact .v _ rfl |4,hs'=>cases hs';exact .v _ rfl |j+5,hs'=>simp at hs'
end
end Go.Aw
namespace Go.Sx
def pS(x y:SV):Prop:=∀(H:Mem) (E:Env) (v:Value),Den H E x v->Den H E y v
def pL:List SV->List SV->Prop
 |[],[]=>True |x::l,y::m=>pS x y/\pL l m |_,_=>False
def pB:SB->SB->Prop
 | .box l e,.box m f=>e=f/\pL l m |a,b=>a=b
def pH:List (Nat×SB)->List (Nat×SB)->Prop
 |[],[]=>True |(i,a)::l,(j,b)::m=>i=j/\pB a b/\pH l m |_,_=>False
def ak1:List Fr->List Fr->Prop
 |[],[]=>True |f::s,f'::s'=>f.g=f'.g/\f.td=f'.td/\pL f.tm f'.tm/\ak1 s s' |_,_=>False
structure pC(c c':Core):Prop where
 tm:pL c.tm c'.tm
 hp:pH c.hp c'.hp
 nx:c.nx=c'.nx
 lim:c.lim=c'.lim
 tc:c.tc=c'.tc
theorem pS.any{x:SV}:pS x .any:=fun _ _ _ _=>trivial
theorem aau{H:Mem}{E:Env}:∀{l m:List SV} {vs:List Value},pL l m->AA H E l vs->AA H E m vs
 |[],[],[],_,_=>trivial |_::_,_::_,_::_,⟨h1,h2⟩,⟨d1,d2⟩=>⟨h1 _ _ _ d1,aau h2 d2⟩ |[],_::_,_,h,_=>h.elim |_::_,[],_,h,_=>h.elim |_::_,_::_,[],_,hd=>hd.elim |[],[],_::_,_,hd=>hd.elim
theorem pS.sl{st n:Nat}{g g':Nat->List Sh}(h:∀j,j<n->g j=g' j):pS (.sh (.sl st n g)) (.sh (.sl st n g')):=fun H E v hd=>by
 have hd:Rep H (.sl st n g) v:=hd;show Rep H (.sl st n g') v;cases hd with
 |sl0 _ _ A cap hc=>exact .sl0 _ _ _ _ hc |sl _ _ _ b off cap c h1 h2 h3 h4 h5 h6=>exact .sl _ _ _ b off cap c h1 h2 (fun i hi=>by rw[<-h i hi];exact h3 i hi) h4 h5 fun i j s hi e=>h6 i j s hi (by rw[h i hi];exact e)
theorem pL.set{x y:SV}(h:pS x y):∀{l m:List SV} (i:Nat),pL l m->pL (l.set i x) (m.set i y)
 |[],[],_,_=>trivial |_::_,_::_,0,⟨_,h2⟩=>⟨h,h2⟩ |_::_,_::_,i+1,⟨h1,h2⟩=>⟨h1,pL.set h i h2⟩ |[],_::_,_,h=>h.elim |_::_,[],_,h=>h.elim
section
variable{P:Program}{C:Ctx}{K:Kx}{H H':Mem}{E E':Env}{w w':World}
theorem ajG{id:Nat}{a b:SB}(h:pB a b)(he:GI K H E w id a):GI K H E w id b/\Bd E id a=Bd E id b:=by
 cases a with
 |box l e=>
  cases b with
  |box m f=>
   obtain ⟨rfl,h⟩:=h;obtain ⟨b,cs,h1,h2,h3,h4⟩:=he;exact ⟨⟨b,cs,h1,h2,aau h h3,h4⟩,rfl⟩
  |_=>simp[pB] at h
 |_=>
  simp only[pB] at h;subst h;exact ⟨he,rfl⟩
theorem aav:∀{l m:List (Nat×SB)} {i:Nat} {b:SB},pH l m->Ak m i=ak b->∃a,Ak l i=ak a/\pB a b
 |[],[],_,_,_,h=>by simp[Ak] at h |(i,a)::l,(j,b)::m,k,sb,⟨h1,h2,h3⟩,h=>by
  subst h1;simp only[Ak] at h ⊢;cases hk:(i==k)<;>simp only[hk,cond_true,cond_false] at h ⊢
  ·exact aav h3 h
  ·cases h;exact ⟨_,rfl,h2⟩
 |[],_::_,_,_,h,_=>h.elim |_::_,[],_,_,h,_=>h.elim
theorem St.afw{c c':Core}{a:Act}(st:St C K H E w c a)(h:pC c c'):St C K H E w c' a:=by
 refine ⟨aau h.tm st.den,⟨fun id sb hl=>?_,fun id id' sb sb' b l1 l2 o1 o2=>?_⟩,st.BZ,fun i h1 h2=>st.free i (by rw[h.nx];exact h1) (by rw[h.lim];exact h2),st.gl,st.defers⟩
 ·obtain ⟨x,h1,h2⟩:=aav h.hp hl
  exact (ajG h2 (st.hp.ent _ _ h1)).1
 ·obtain ⟨x,h1,h2⟩:=aav h.hp l1
  obtain ⟨y,h3,h4⟩:=aav h.hp l2;exact st.hp.Gq _ _ _ _ _ h1 h3 (by rw[(ajG h2 (st.hp.ent _ _ h1)).2];exact o1) (by rw[(ajG h4 (st.hp.ent _ _ h3)).2];exact o2)
theorem Gt.afw:∀{s s':List Fr} {ms:List Frame},Gt C H E s ms->ak1 s s'->Gt C H E s' ms
 |[],[],[],_,_=>trivial |f::s,f'::s',m::ms,⟨⟨fn,a,items,h1,h2,h3,h4,h5⟩,h6⟩,⟨e1,e2,e3,e4⟩=>
  ⟨⟨fn,a,items,by rw[<-e1];exact h1,aau e3 h2,h3,by rw[<-e2];exact h4,by rw[<-e1];exact h5⟩,Gt.afw h6 e4⟩
 |[],[],_::_,h,_=>h.elim |_::_,_,[],h,_=>h.elim |[],_::_,_,_,h=>h.elim |_::_,[],_::_,_,h=>h.elim
theorem ak2{g:Nat}:∀{s s':List Fr} {g:Nat},ak1 s s'->Ri g s'=Ri g s
 |[],[],_,_=>rfl |f::s,f'::s',_,⟨e1,_,_,e4⟩=>by simp only[Ri];rw[e1];exact ak2 (g:=0) e4 |[],_::_,_,h=>h.elim |_::_,[],_,h=>h.elim
theorem MP{g:Nat}{td:List It}{c c':Core}{stk Jc:List Fr}{R:Hp->Prop}{φ:Sh->Prop}(hle:pC c c')(hs:ak1 stk Jc)(h:Bz P C K g td c' Jc R φ):Bz P C K g td c stk R φ:=by
 intro H E w a items ms cs fn hfn st hi hst hx;have:=h H E w a items ms cs fn hfn (st.afw hle) hi (hst.afw hs) hx;rw[ak2 (g:=0) hs] at this;exact this
end
end Go.Sx
namespace Go.BR
open Go Go.Sx
theorem EX{α:Type}[Row α](o:Nat->α):Am (Aj o)=o:=funext fun i=>NK o i
def takeN(p:Nat->Ev):Au->Nat->Nat->Au ⊕ (Nat×Nat)
 |σ,_,0=>.inl σ |σ,k,r+1=>match (σ.feed (p k)).1 with
  |none=>takeN p (σ.feed (p k)).2 (k+1) r |some e=>.inr (k,e)
def Ph(m:Nat)(p:Nat->Ev):Au ⊕ (Nat×Nat):=takeN p Au.nil 0 m
def takeB(m:Nat)(p:Nat->Ev):Bool:=match Ph m p with| .inl _=>aC| .inr _=>ay
def KP(m:Nat)(p:Nat->Ev):Au:=match Ph m p with| .inl σ=>σ| .inr _=>Au.nil
def Pj(m:Nat)(p:Nat->Ev):Int:=match Ph m p with| .inl _=>0| .inr (k,_)=>k
def Pm(m:Nat)(p:Nat->Ev):Nat:=match Ph m p with| .inl _=>0| .inr (_,e)=>e
def resT:Au ⊕ (Nat×Nat)->Sh
 | .inl σ=>.AQ [.os 115 7 σ.rs.length (Go.Aw.VL FX dfn (Ht σ)),.v .nilIface] | .inr (k,e)=>.AQ [.sl 0 0 fun _=>[],.C9 109 (.pt [.i .i64 (k:Int),.er e 329])]
def aqf:Au ⊕ (Nat×Nat)->Sh
 | .inl _=>.v .nilIface | .inr (k,e)=>.C9 109 (.pt [.i .i64 (k:Int),.er e 329])
structure acv(n m:Nat)(o:Nat->Oj)(p:Nat->Ev):Prop where
 small:n<=8/\m<=400
 valid:∀k,k<m->Cm (p k)=aC
 obj:∀k,k<m->(p k).kind=2->0<=(p k).obj/\(p k).obj<n/\DV (p k).op=(o (p k).obj.toNat).kind
theorem VO{f:Nat->Option Nat}:∀{r k:Nat},IZ f k r=aK->∀j,k<=j->j<k+r->f j=aK
 |0,k,_,j,h1,h2=>by omega |r+1,k,h,j,h1,h2=>by
  simp only[IZ] at h;cases hf:f k with
  |some e=>rw[hf] at h;cases h |none=>
   rw[hf] at h;by_cases q:j=k
   ·subst q;exact hf
   ·exact VO h j (by omega) (by omega)
theorem XA{n m:Nat}{o:Nat->Oj}{p:Nat->Ev}(h1:F5 n m=ay)(h2:(UK n m o p).isNone=aC)(h3:∀k,k<m->Di (p k).ret=aC):acv n m o p:=by
 unfold F5 at h1;have h1:¬(8<n\/400<m):=by simpa using h1
 have key:∀k,k<m->KN n o (p k)=aK:=fun k hk=>by
  unfold UK at h2;cases hs:IZ (fun k=>O8 (o k)) 0 n with
  |some x=>rw[hs] at h2;cases h2 |none=>
   rw[hs] at h2;exact VO (Option.isNone_iff_eq_none.1 h2) k (by omega) (by omega)
 have parts:∀k,k<m->O6 (p k)=aC/\fieldsB (p k)=aC/\((p k).kind=2->(p k).obj<n/\DV (p k).op=(o (p k).obj.toNat).kind):=fun k hk=>by
  have h:=key k hk;unfold KN at h;cases c1:O6 (p k)<;>simp only[c1,cond_true,cond_false] at h
  ·cases h
  cases c2:fieldsB (p k)<;>simp only[c2,cond_true,cond_false] at h
  ·cases h
  refine ⟨rfl,rfl,fun hk2=>?_⟩;simp only[hk2,beq_self_eq_true,cond_true] at h;cases c3:decide ((n:Int)<=(p k).obj)<;>simp only[c3,cond_true,cond_false] at h
  ·have c3:=of_decide_eq_false c3
   cases c4:(DV (p k).op==(o (p k).obj.toNat).kind)<;>simp only[c4,cond_true,cond_false] at h
   ·cases h
   ·exact ⟨by omega,by simpa using c4⟩
  ·cases h
 exact ⟨by omega,fun k hk=>by
  obtain ⟨a,b,_⟩:=parts k hk;simp[Cm,a,b,h3 k hk],fun k hk hk2=>by
  obtain ⟨a,b,c⟩:=parts k hk;exact ⟨ZB b hk2,c hk2⟩⟩
end Go.BR
namespace Go.Aw
open Go Go.Sx Go.BR
theorem ar7:∀g F,acu g=ak F->AV aA (FV W5) g F:=fun g F h=>by
 unfold acu at h;split at h
 ·cases h;exact aw2
 ·cases h
theorem Ru:BG aA (CT Ai W5):=by
 have h:=C5.ok acu AU;exact ⟨h.1,h.2,h.3,h.4,h.5,h.6,Ah⟩
theorem Z5:BP aA (CT Ai W5):=by
 have h:=C5.Vo (stop:=AU) ar7 fun g h=>by
  unfold acu at h;split at h;all_goals first|(cases h;done) |kernel_rfl
 exact ⟨h.1,h.2,h.3,h.4⟩
theorem TK{n b:Nat}(h:n<=100000)(hb:b<=1000):Ai.room n b=aC:=by
 rw[EM,decide_eq_true_eq];have h1:n*b<=100000*1000:=Nat.mul_le_mul h hb;refine ⟨by omega,?_⟩;unfold maxLen;omega
theorem aqg{H0:Mem}{w0:World}{N:Nat}{rs:Nat->Rc}{φ:Sh->Prop}(hN:N<=1000)(hD:∀k,k<N->FX (rs k)<=1000)(hφ:φ (.AQ [.os 115 7 N (VL FX dfn rs),.v .nilIface])):
  ∀rm k,k+rm=N->Bz aA (CT Ai W5) (K0 H0 w0) 44 tdT (aei FX dfn N rs (N:Int) k k (VL FX dfn rs)) frX emp φ
 |rm,k,hk=>by
  refine GK (fn:=yR) (tb:=tbT) (by kernel_rfl) (by kernel_rfl) ?_;refine agB Ru Z5 (hold:=D5) (m:=300) (n:=400) (ts:=[⟨44,tdT,aei FX dfn N rs (N:Int) (k+1:Nat) (k+1) (VL FX dfn rs),frX⟩]) ?_;rw[f32 Ai W5 FX dfn N rs (N:Int) k (k+1:Nat) k (k+1) (VL FX dfn rs) (VL FX dfn rs)];simp only[Aq,DJ,AY,BJ,CX,Dq,Du,GR,Tree.All,Jo,Int.toNat_natCast,gu];refine ⟨fun h=>?_,fun h=>?_⟩
  ·have hlt:k<N:=by simp at h;omega
   have hd:=hD k hlt;have hw:aW.wrap ((k:Int)+1)=((k+1:Nat):Int):=by rw[Cj (by omega) (by omega)];rfl
   have hle:decide (ah 0<=ah (FX (rs k)))=aC:=by simp
   have hr1:Ai.room (FX (rs k)) 64=aC:=TK (by omega) (by omega);have hr2:Ai.room (k+1) 72=aC:=TK (by omega) (by omega);have eqD:Ai.snoc (fun _=>[]) 0 (dfn (rs k))=dfn (rs k):=by
    funext i;rw[Ec];simp
   match rm,hk with
   |0,hk=>omega |rm+1,hk=>
    refine ⟨by simp;omega,hle,hr1,hr1,hle,hr1,hr1,?_,hle,hr1,hr1,?_,hr2,⟨rfl,rfl,hw,rfl,fun i hi=>?_,trivial⟩,_,rfl,aqg hN hD hφ rm (k+1) (by omega)⟩
    ·repeat' (first|exact trivial|refine bP rfl ?_)
    ·repeat' (first|exact trivial|refine bP rfl ?_)
    ·rw[Ec,eqD]
     by_cases q:i<k
     ·rw[if_pos q]
     ·rw[if_neg q]
      have:i=k:=by omega
      subst this;rw[Nat.sub_self];rfl
  ·have:k=N:=by simp at h;omega
   subst this;exact hφ
theorem avf{H0:Mem}{w0:World}{n:Nat}{o:Nat->Oj}{σ:Au}{b:Nat}{φ:Sh->Prop}(hI:σ.OK)(hm:σ.many<=400)(hφ:φ (resT (.inl σ))):
  Bz aA (CT Ai W5) (K0 H0 w0) 20 aeh (LX (.val (.pointer (ak ⟨b,0,aK⟩)))) [] (Ip n o σ b) φ:=by
 have hlen:=hI.len;refine agz (X:=Lay) (u:=.pointer (ak ⟨b,0,aK⟩)) (y:=fun L=>auX FX dfn L.v0 σ.many σ.rs.length (Ht σ) L.b1 L.b2) (fun H E h w hR _ hat=>amk hR hat) (i:=14) rfl fun L=>?_
 show Bz aA (CT Ai W5) (K0 H0 w0) 20 aeh (LX (auX FX dfn L.v0 σ.many σ.rs.length (Ht σ) L.b1 L.b2)) [] emp φ;refine G5 Ru Z5 (hold:=D5) (m:=300) (n:=400) (ts:=[⟨44,tdT,aei FX dfn σ.rs.length (Ht σ) (σ.rs.length:Int) (0:Nat) 0 (VL FX dfn (Ht σ)),frX⟩]) ?_;rw[e32 Ai W5 FX dfn L.v0 σ.many σ.rs.length (Ht σ) L.b1 L.b2 (σ.rs.length:Int) (0:Nat) 0 (VL FX dfn (Ht σ))];refine ⟨by simp[DJ,AY],TK (by simp[CX,AY];omega) (by omega),⟨rfl,rfl,rfl,rfl,fun i hi=>by omega,trivial⟩,_,rfl,aqg (by omega) (fun k hk=>?_) hφ _ 0 (gu _)⟩;have:=hI.dl k _ (VN hk);show (Ht σ k).Ar.length<=1000;omega
theorem ak3{H:Mem}{E:Env}{e:Ev}{v:Value}(h:Den H E (.agg [.sym .i64 e.kind,.sym .i64 e.tx,.sym .i64 e.thread,.sym .i64 e.obj,.sym .i64 e.op,.sym .i64 e.key,.sym .i64 e.val,.sym .i64 e.ret]) v):v=YI e:=by
 obtain ⟨⟨vs⟩,rfl,hd⟩:=h;match vs,hd with
 |[a,b,c,d,e,f,g,h],⟨h1,h2,h3,h4,h5,h6,h7,h8,_⟩=>
  cases h1;cases h2;cases h3;cases h4;cases h5;cases h6;cases h7;cases h8;rfl
theorem ak4{H0:Mem}{w0:World}{n m:Nat}{o:Nat->Oj}{p:Nat->Ev}{b:Nat}{φ:Sh->Prop}(hg:acv n m o p):
  ∀rm k σ,k+rm=m->σ.OK->σ.many=k->φ (resT (takeN p σ k rm))->Bz aA (CT Ai W5) (K0 H0 w0) 43 NZ (LT m p b (m:Int) k) Rq (Ip n o σ b) φ
 |rm,k,σ,hk,hI,ajH,hφ=>by
  have hs:=hg.small;refine GK (fn:=jZ) (tb:=ak0) (by kernel_rfl) (by kernel_rfl) ?_;refine G5 Ru Z5 (hold:=L8) (m:=300) (n:=400) (ts:=[⟨43,tdP,LP m p b (m:Int) k (p k) .any,Rq⟩,⟨20,aeh,LX (.val (.pointer (ak ⟨b,0,aK⟩))),[]⟩]) ?_;rw[b32 Ai W5 m p b (m:Int) k k];refine ⟨fun h=>?_,fun h=>?_⟩
  ·have hlt:k<m:=by simp[Aq] at h;omega
   match rm,hk,hφ with
   |0,hk,_=>omega |rm+1,hk,hφ=>
    refine ⟨by simp[BJ];omega,⟨rfl,rfl,rfl,rfl,rfl,rfl,rfl,rfl,rfl,rfl,rfl,rfl,rfl,rfl,trivial⟩,_,rfl,?_⟩;refine Zj (fn:=jZ) (g2:=79) (args:=[.val (.pointer (ak ⟨b,0,aK⟩)),.agg [.sym .i64 (p k).kind,.sym .i64 (p k).tx,.sym .i64 (p k).thread,.sym .i64 (p k).obj,.sym .i64 (p k).op,.sym .i64 (p k).key,.sym .i64 (p k).val,.sym .i64 (p k).ret]]) (dst:=ak 34) (Gj:=tdQ) (by kernel_rfl) (by kernel_rfl) (Z5.en 79 (.inr (by kernel_rfl))) ⟨rfl,by kernel_rfl,by kernel_rfl⟩
     (aqe (fun H E v=>ak3) hI (by omega) (hg.valid k hlt) (hg.obj k hlt)) ?_
    show Bz aA (CT Ai W5) (K0 H0 w0) 43 tdQ (LP m p b (m:Int) k (p k) (svE (σ.feed (p k)).1)) Rq (Ip n o (σ.feed (p k)).2 b) φ;cases hx:(σ.feed (p k)).1 with
    |none=>
     refine G5 Ru Z5 (hold:=L8) (m:=300) (n:=400) (ts:=[⟨43,NZ,LT m p b (m:Int) (k+1:Nat),Rq⟩]) ?_;have e:=c32 Ai W5 m p b (m:Int) k (k+1:Nat) (p k);rw[show svE aK=dQ from rfl,e];refine ⟨⟨rfl,rfl,rfl,?_,trivial⟩,_,rfl,ak4 hg rm (k+1) _ (by omega) (hI.feed (hg.valid k hlt)) (by rw[QZ hx,ajH]) (by simpa only[takeN,hx] using hφ)⟩;show Ai.add .i64 (k:Int) (ah 1)=((k+1:Nat):Int);rw[Dq,GR,Cj (by omega) (by omega)];rfl
    |some e=>
     refine G5 Ru Z5 (hold:=L8) (m:=300) (n:=400) (ts:=[]) ?_;rw[show svE (ak e)=bU (.er e 329) from rfl,d32 Ai W5 m p b (m:Int) k (p k) e];have hφ':φ (resT (.inr (k,e))):=by simpa only[takeN,hx] using hφ
     exact hφ'
  ·have:k=m:=by simp[Aq] at h;omega
   have:rm=0:=by omega
   subst this;exact ⟨⟨rfl,trivial⟩,_,rfl,avf hI (by omega) hφ⟩
def aj8:Sh:=.sl 0 0 fun _=>[]
def F32:List Sh->Tree Sh
 |[.agg [.sl 2 n g,.sl 8 m h]]=>.need (okB Oj n g) (.need (okB Ev m h) (.need (L6 m h) (.node (F5 n m) (.leaf (.AQ [.sl 0 0 fun _=>[],.er 6 329])) (.node (EG n m g h)
   (.node (takeB m (Am h)) (.leaf (.AQ [.os 115 7 (KP m (Am h)).rs.length (VL FX dfn (Ht (KP m (Am h)))),.v .nilIface])) (.leaf (.AQ [.sl 0 0 fun _=>[],.C9 109 (.pt [.i .i64 (Pj m (Am h)),.er (Pm m (Am h)) 329])])))
   (.leaf (.AQ [.sl 0 0 fun _=>[],.C9 109 (.pt [.i .i64 (GV n m g h),.er (I4 n m g h) 329])]))))))
 |_=>.fail
theorem O32:AV aA (FV W5) 20 F32:=by
 refine JX (C:=CT Ai W5) Ru (fn:=o7) (by kernel_rfl) (by kernel_rfl) fun H w Bv args φ hrep h=>?_
 have hn:o7.ntmps=16:=by kernel_rfl
 unfold F32 at h;split at h
 ·rename_i n g m h'
  obtain ⟨h1,h2,h3,h4,h5⟩:=h;match args,hrep with
  |[v],⟨hv,_⟩=>
   rw[hn];refine ⟨[.agg [.sl 2 n (Aj (Am (α:=Oj) g)),.sl 8 m (Aj (Am (α:=Ev) h'))]],⟨NV hv h1 h2,trivial⟩,L0,?_⟩;refine Zl Ru Z5 (hold:=aat) (m:=300) (n:=400) ?_;rw[a32 Ai W5 n m (Am g) (Am h'),Vj];have hret:∀k,k<m->Di (Am (α:=Ev) h' k).ret=aC:=fun k hk=>dF.1 h3 k (dh.2 hk);have hb0:F5 n m=ay->F5 n 0=ay:=fun q=>by
    unfold F5 at q ⊢;have q:¬(8<n\/400<m):=by simpa using q
    exact decide_eq_false (by omega)
   have hgd:EG n m (Aj (Am (α:=Oj) g)) (Aj (Am (α:=Ev) h'))=EG n m g h':=by
    unfold EG;rw[EX,EX]
   refine ⟨DI _ _,DI _ _,dF.2 fun k hk=>?_,fun q=>h4 q,fun q=>⟨fun q2=>?_,fun q2=>?_⟩⟩
   ·rw[EX];exact hret k (dh.1 hk)
   ·have q3:EG n m g h'=aC:=hgd ▸ q2
    obtain ⟨hT,hF⟩:=(h5 q).1 q3;have G:=XA q q3 hret;have hs:=G.small;have fin:∀b,Bz aA (CT Ai W5) (K0 H w) 43 NZ (LT m (Am h') b (m:Int) (0:Nat)) Rq (Ip n (Am g) Au.nil b) φ:=fun b=>by
     refine ak4 G m 0 Au.nil (by omega) Au.OK.nil rfl ?_;show φ (resT (Ph m (Am h')));unfold takeB at hT hF;unfold KP at hT;unfold Pj Pm at hF;cases hx:Ph m (Am (α:=Ev) h') with
     |inl σ=>rw[hx] at hT;exact hT rfl |inr x=>rw[hx] at hF;exact hF rfl
    have own:∀nx tc,Bz aA (CT Ai W5) (K0 H w) 43 NZ ⟨[gY [bU (aG 2 n (Aj (Am (α:=Oj) g))),bU (aG 8 m (Aj (Am (α:=Ev) h')))],gZ 1 0,lK,dQ,dQ,gZ 6 0,dQ]++rep [.any] 6++[.bool ay]++rep [.any] 8++[.bool ay,.any,.any,bU (aG 8 m (Aj (Am (α:=Ev) h'))),.sym .i64 (Ai.AZ m),.int .i64 (ah 0)]++rep [.any] 16,
      [(0,ig [bU (aG 2 n (Aj (Am (α:=Oj) g))),bU (aG 8 m (Aj (Am (α:=Ev) h')))] 25),(1,ig [bU (aG 2 n (Aj (Am (α:=Oj) g))),bU (aG 8 m (Aj (Am (α:=Ev) h')))] 25),(3,nZ 140 2 (Ai.addN 0 n) (Ai.snoc (Bh []) 0 (Aj (Am (α:=Oj) g)))),(4,jJ .i64 (fun _=>aK) [] [] aK),(5,jJ .i64 (fun _=>aK) [] [] aK),(6,ig [wH 3,jY .i64 (ah 0),iY,kH 4,kH 5] 181)],nx,L0,tc⟩
      [{g:=20,td:=[kK [0,1] [1,2,3,4,5,6],bD [1,1]],tm:=[gY [bU (aG 2 n (Aj (Am (α:=Oj) g))),bU (aG 8 m (Aj (Am (α:=Ev) h')))],gZ 0 0,iY,dQ,.any,.any,.any,gY [bU (aG 2 n (Aj (Am (α:=Oj) g))),bU (aG 8 m (Aj (Am (α:=Ev) h')))]]++rep [.any] 8}] emp φ:=fun nx tc=>by
     refine Oo (R':=Ip n (Am g) Au.nil) (i0:=6) (fun i=>fV i 3) (fun H E w h hon hh hd=>ahI (n:=n) (n':=Ai.addN 0 n) (o:=Am g) (o':=Ai.snoc (Bh []) 0 (Aj (Am (α:=Oj) g))) (fun i hi=>by rw[Ec];simp) (gu n) rfl hh hd) fun b=>?_
     refine MP (c':=LT m (Am h') b (m:Int) (0:Nat)) (Jc:=Rq) ⟨?_,trivial,rfl,rfl,rfl⟩ ⟨rfl,rfl,?_,trivial⟩ (fin b)
     ·repeat' (first|exact trivial|refine bP pS.any ?_|refine bP (fun _ _ _ h=>h) ?_)
     ·repeat' (first|exact trivial|refine bP pS.any ?_|refine bP (fun _ _ _ h=>h) ?_)
    have nil:n=0->∀nx tc,Bz aA (CT Ai W5) (K0 H w) 43 NZ ⟨[gY [bU (aG 2 n (Aj (Am (α:=Oj) g))),bU (aG 8 m (Aj (Am (α:=Ev) h')))],gZ 1 0,lK,dQ,dQ,gZ 4 0,dQ]++rep [.any] 6++[.bool ay]++rep [.any] 8++[.bool ay,.any,.any,bU (aG 8 m (Aj (Am (α:=Ev) h'))),.sym .i64 (Ai.AZ m),.int .i64 (ah 0)]++rep [.any] 16,
      [(0,ig [bU (aG 2 n (Aj (Am (α:=Oj) g))),bU (aG 8 m (Aj (Am (α:=Ev) h')))] 25),(1,ig [bU (aG 2 n (Aj (Am (α:=Oj) g))),bU (aG 8 m (Aj (Am (α:=Ev) h')))] 25),(2,jJ .i64 (fun _=>aK) [] [] aK),(3,jJ .i64 (fun _=>aK) [] [] aK),(4,ig [iY,jY .i64 (ah 0),iY,kH 2,kH 3] 181)],nx,L0,tc⟩
      [{g:=20,td:=[kK [0,1] [1,2,3,4,5,6],bD [1,1]],tm:=[gY [bU (aG 2 n (Aj (Am (α:=Oj) g))),bU (aG 8 m (Aj (Am (α:=Ev) h')))],gZ 0 0,iY,dQ,.any,.any,.any,gY [bU (aG 2 n (Aj (Am (α:=Oj) g))),bU (aG 8 m (Aj (Am (α:=Ev) h')))]]++rep [.any] 8}] emp φ:=fun hz nx tc=>by
     refine Oo (R':=Ip n (Am g) Au.nil) (i0:=4) (fun i=>fV i 2) (fun H E w h hon hh hd=>ahJ (n:=n) (o:=Am g) hz rfl hh hd) fun b=>?_
     refine MP (c':=LT m (Am h') b (m:Int) (0:Nat)) (Jc:=Rq) ⟨?_,trivial,rfl,rfl,rfl⟩ ⟨rfl,rfl,?_,trivial⟩ (fin b)
     ·repeat' (first|exact trivial|refine bP pS.any ?_|refine bP (fun _ _ _ h=>h) ?_)
     ·repeat' (first|exact trivial|refine bP pS.any ?_|refine bP (fun _ _ _ h=>h) ?_)
    have hrm:Ai.room (Ai.addN 0 n) 16=aC:=by rw[Du,gu];exact TK (by omega) (by omega)
    refine ⟨DI _ _,rfl,rfl,fun q4=>?_,fun _=>⟨fun _=>⟨fun q5=>⟨nil (by simpa[Ud] using q5) _ _,hrm,own _ _⟩,fun _=>⟨hrm,own _ _⟩⟩,fun q5=>?_⟩⟩
    ·rw[hb0 q] at q4;cases q4
    ·exfalso
     unfold EG UK at q3 q5;rw[EX] at q5;cases hx:IZ (fun k=>O8 (Am (α:=Oj) g k)) 0 n with
     |some x=>rw[hx] at q3;cases q3 |none=>rw[hx] at q5;cases q5
   ·have q3:EG n m g h'=ay:=hgd ▸ q2
    have:=(h5 q).2 q3;unfold GV I4 at this ⊢;rw[EX,EX];exact this
 ·exact h.elim
theorem ak5{H0:Mem}{w0:World}{n m:Nat}{o:Nat->Oj}{p:Nat->Ev}{b:Nat}{φ:Sh->Prop}(hg:acv n m o p):
  ∀rm k σ,k+rm=m->σ.OK->σ.many=k->φ (aqf (takeN p σ k rm))->Bz aA (CT Ai W5) (K0 H0 w0) 43 NZ (LT m p b (m:Int) k) Rt (Ip n o σ b) φ
 |rm,k,σ,hk,hI,ajH,hφ=>by
  have hs:=hg.small;refine GK (fn:=jZ) (tb:=ak0) (by kernel_rfl) (by kernel_rfl) ?_;refine G5 Ru Z5 (hold:=L8) (m:=300) (n:=400) (ts:=[⟨43,tdP,LP m p b (m:Int) k (p k) .any,Rt⟩]) ?_;rw[b34 Ai W5 m p b (m:Int) k k];refine ⟨fun h=>?_,fun h=>?_⟩
  ·have hlt:k<m:=by simp[Aq] at h;omega
   match rm,hk,hφ with
   |0,hk,_=>omega |rm+1,hk,hφ=>
    refine ⟨by simp[BJ];omega,⟨rfl,rfl,rfl,rfl,rfl,rfl,rfl,rfl,rfl,rfl,rfl,rfl,rfl,rfl,trivial⟩,_,rfl,?_⟩;refine Zj (fn:=jZ) (g2:=79) (args:=[.val (.pointer (ak ⟨b,0,aK⟩)),.agg [.sym .i64 (p k).kind,.sym .i64 (p k).tx,.sym .i64 (p k).thread,.sym .i64 (p k).obj,.sym .i64 (p k).op,.sym .i64 (p k).key,.sym .i64 (p k).val,.sym .i64 (p k).ret]]) (dst:=ak 34) (Gj:=tdQ) (by kernel_rfl) (by kernel_rfl) (Z5.en 79 (.inr (by kernel_rfl))) ⟨rfl,by kernel_rfl,by kernel_rfl⟩
     (aqe (fun H E v=>ak3) hI (by omega) (hg.valid k hlt) (hg.obj k hlt)) ?_
    show Bz aA (CT Ai W5) (K0 H0 w0) 43 tdQ (LP m p b (m:Int) k (p k) (svE (σ.feed (p k)).1)) Rt (Ip n o (σ.feed (p k)).2 b) φ;cases hx:(σ.feed (p k)).1 with
    |none=>
     refine G5 Ru Z5 (hold:=L8) (m:=300) (n:=400) (ts:=[⟨43,NZ,LT m p b (m:Int) (k+1:Nat),Rt⟩]) ?_;have e:=c34 Ai W5 m p b (m:Int) k (k+1:Nat) (p k);rw[show svE aK=dQ from rfl,e];refine ⟨⟨rfl,rfl,rfl,?_,trivial⟩,_,rfl,ak5 hg rm (k+1) _ (by omega) (hI.feed (hg.valid k hlt)) (by rw[QZ hx,ajH]) (by simpa only[takeN,hx] using hφ)⟩;show Ai.add .i64 (k:Int) (ah 1)=((k+1:Nat):Int);rw[Dq,GR,Cj (by omega) (by omega)];rfl
    |some e=>
     refine G5 Ru Z5 (hold:=L8) (m:=300) (n:=400) (ts:=[]) ?_;rw[show svE (ak e)=bU (.er e 329) from rfl,d34 Ai W5 m p b (m:Int) k (p k) e];have hφ':φ (aqf (.inr (k,e))):=by simpa only[takeN,hx] using hφ
     exact hφ'
  ·have:k=m:=by simp[Aq] at h;omega
   have:rm=0:=by omega
   subst this;exact hφ
def F34:List Sh->Tree Sh
 |[.agg [.sl 2 n g,.sl 8 m h]]=>.need (okB Oj n g) (.need (okB Ev m h) (.need (L6 m h) (.node (F5 n m) (.leaf (.er 6 329)) (.node (EG n m g h)
   (.node (takeB m (Am h)) (.leaf (.v .nilIface)) (.leaf (.C9 109 (.pt [.i .i64 (Pj m (Am h)),.er (Pm m (Am h)) 329]))))
   (.leaf (.C9 109 (.pt [.i .i64 (GV n m g h),.er (I4 n m g h) 329])))))))
 |_=>.fail
theorem O34:AV aA (FV W5) 22 F34:=by
 refine JX (C:=CT Ai W5) Ru (fn:=o9) (by kernel_rfl) (by kernel_rfl) fun H w Bv args φ hrep h=>?_
 have hn:o9.ntmps=11:=by kernel_rfl
 unfold F34 at h;split at h
 ·rename_i n g m h'
  obtain ⟨h1,h2,h3,h4,h5⟩:=h;match args,hrep with
  |[v],⟨hv,_⟩=>
   rw[hn];refine ⟨[.agg [.sl 2 n (Aj (Am (α:=Oj) g)),.sl 8 m (Aj (Am (α:=Ev) h'))]],⟨NV hv h1 h2,trivial⟩,L0,?_⟩;refine Zl Ru Z5 (hold:=aat) (m:=300) (n:=400) ?_;rw[a34 Ai W5 n m (Am g) (Am h'),Vj];have hret:∀k,k<m->Di (Am (α:=Ev) h' k).ret=aC:=fun k hk=>dF.1 h3 k (dh.2 hk);have hb0:F5 n m=ay->F5 n 0=ay:=fun q=>by
    unfold F5 at q ⊢;have q:¬(8<n\/400<m):=by simpa using q
    exact decide_eq_false (by omega)
   have hgd:EG n m (Aj (Am (α:=Oj) g)) (Aj (Am (α:=Ev) h'))=EG n m g h':=by
    unfold EG;rw[EX,EX]
   refine ⟨DI _ _,DI _ _,dF.2 fun k hk=>?_,fun q=>h4 q,fun q=>⟨fun q2=>?_,fun q2=>?_⟩⟩
   ·rw[EX];exact hret k (dh.1 hk)
   ·have q3:EG n m g h'=aC:=hgd ▸ q2
    obtain ⟨hT,hF⟩:=(h5 q).1 q3;have G:=XA q q3 hret;have hs:=G.small;have fin:∀b,Bz aA (CT Ai W5) (K0 H w) 43 NZ (LT m (Am h') b (m:Int) (0:Nat)) Rt (Ip n (Am g) Au.nil b) φ:=fun b=>by
     refine ak5 G m 0 Au.nil (by omega) Au.OK.nil rfl ?_;show φ (aqf (Ph m (Am h')));unfold takeB at hT hF;unfold Pj Pm at hF;cases hx:Ph m (Am (α:=Ev) h') with
     |inl σ=>rw[hx] at hT;exact hT rfl |inr x=>rw[hx] at hF;exact hF rfl
    have own:∀nx tc,Bz aA (CT Ai W5) (K0 H w) 43 NZ ⟨[gY [bU (aG 2 n (Aj (Am (α:=Oj) g))),bU (aG 8 m (Aj (Am (α:=Ev) h')))],gZ 1 0,lK,dQ,dQ,gZ 6 0,dQ]++rep [.any] 6++[.bool ay]++rep [.any] 8++[.bool ay,.any,.any,bU (aG 8 m (Aj (Am (α:=Ev) h'))),.sym .i64 (Ai.AZ m),.int .i64 (ah 0)]++rep [.any] 16,
      [(0,ig [bU (aG 2 n (Aj (Am (α:=Oj) g))),bU (aG 8 m (Aj (Am (α:=Ev) h')))] 25),(1,ig [bU (aG 2 n (Aj (Am (α:=Oj) g))),bU (aG 8 m (Aj (Am (α:=Ev) h')))] 25),(3,nZ 140 2 (Ai.addN 0 n) (Ai.snoc (Bh []) 0 (Aj (Am (α:=Oj) g)))),(4,jJ .i64 (fun _=>aK) [] [] aK),(5,jJ .i64 (fun _=>aK) [] [] aK),(6,ig [wH 3,jY .i64 (ah 0),iY,kH 4,kH 5] 181)],nx,L0,tc⟩
      [{g:=22,td:=[kK [0,1] [1,2,3,4,5,6],bD [1,1]],tm:=[gY [bU (aG 2 n (Aj (Am (α:=Oj) g))),bU (aG 8 m (Aj (Am (α:=Ev) h')))],gZ 0 0,dQ,.any,.any,.any,gY [bU (aG 2 n (Aj (Am (α:=Oj) g))),bU (aG 8 m (Aj (Am (α:=Ev) h')))]]++rep [.any] 4}] emp φ:=fun nx tc=>by
     refine Oo (R':=Ip n (Am g) Au.nil) (i0:=6) (fun i=>fV i 3) (fun H E w h hon hh hd=>ahI (n:=n) (n':=Ai.addN 0 n) (o:=Am g) (o':=Ai.snoc (Bh []) 0 (Aj (Am (α:=Oj) g))) (fun i hi=>by rw[Ec];simp) (gu n) rfl hh hd) fun b=>?_
     refine MP (c':=LT m (Am h') b (m:Int) (0:Nat)) (Jc:=Rt) ⟨?_,trivial,rfl,rfl,rfl⟩ ⟨rfl,rfl,?_,trivial⟩ (fin b)
     ·repeat' (first|exact trivial|refine bP pS.any ?_|refine bP (fun _ _ _ h=>h) ?_)
     ·repeat' (first|exact trivial|refine bP pS.any ?_|refine bP (fun _ _ _ h=>h) ?_)
    have nil:n=0->∀nx tc,Bz aA (CT Ai W5) (K0 H w) 43 NZ ⟨[gY [bU (aG 2 n (Aj (Am (α:=Oj) g))),bU (aG 8 m (Aj (Am (α:=Ev) h')))],gZ 1 0,lK,dQ,dQ,gZ 4 0,dQ]++rep [.any] 6++[.bool ay]++rep [.any] 8++[.bool ay,.any,.any,bU (aG 8 m (Aj (Am (α:=Ev) h'))),.sym .i64 (Ai.AZ m),.int .i64 (ah 0)]++rep [.any] 16,
      [(0,ig [bU (aG 2 n (Aj (Am (α:=Oj) g))),bU (aG 8 m (Aj (Am (α:=Ev) h')))] 25),(1,ig [bU (aG 2 n (Aj (Am (α:=Oj) g))),bU (aG 8 m (Aj (Am (α:=Ev) h')))] 25),(2,jJ .i64 (fun _=>aK) [] [] aK),(3,jJ .i64 (fun _=>aK) [] [] aK),(4,ig [iY,jY .i64 (ah 0),iY,kH 2,kH 3] 181)],nx,L0,tc⟩
      [{g:=22,td:=[kK [0,1] [1,2,3,4,5,6],bD [1,1]],tm:=[gY [bU (aG 2 n (Aj (Am (α:=Oj) g))),bU (aG 8 m (Aj (Am (α:=Ev) h')))],gZ 0 0,dQ,.any,.any,.any,gY [bU (aG 2 n (Aj (Am (α:=Oj) g))),bU (aG 8 m (Aj (Am (α:=Ev) h')))]]++rep [.any] 4}] emp φ:=fun hz nx tc=>by
     refine Oo (R':=Ip n (Am g) Au.nil) (i0:=4) (fun i=>fV i 2) (fun H E w h hon hh hd=>ahJ (n:=n) (o:=Am g) hz rfl hh hd) fun b=>?_
     refine MP (c':=LT m (Am h') b (m:Int) (0:Nat)) (Jc:=Rt) ⟨?_,trivial,rfl,rfl,rfl⟩ ⟨rfl,rfl,?_,trivial⟩ (fin b)
     ·repeat' (first|exact trivial|refine bP pS.any ?_|refine bP (fun _ _ _ h=>h) ?_)
     ·repeat' (first|exact trivial|refine bP pS.any ?_|refine bP (fun _ _ _ h=>h) ?_)
    have hrm:Ai.room (Ai.addN 0 n) 16=aC:=by rw[Du,gu];exact TK (by omega) (by omega)
    refine ⟨DI _ _,rfl,rfl,fun q4=>?_,fun _=>⟨fun _=>⟨fun q5=>⟨nil (by simpa[Ud] using q5) _ _,hrm,own _ _⟩,fun _=>⟨hrm,own _ _⟩⟩,fun q5=>?_⟩⟩
    ·rw[hb0 q] at q4;cases q4
    ·exfalso
     unfold EG UK at q3 q5;rw[EX] at q5;cases hx:IZ (fun k=>O8 (Am (α:=Oj) g k)) 0 n with
     |some x=>rw[hx] at q3;cases q3 |none=>rw[hx] at q5;cases q5
   ·have q3:EG n m g h'=ay:=hgd ▸ q2
    have:=(h5 q).2 q3;unfold GV I4 at this ⊢;rw[EX,EX];exact this
 ·exact h.elim
end Go.Aw
namespace Go.Pl
open Go Go.Sx Go.Proofs Go.Gm Go.Bf
open Go.BR (Au FX dfn Ht takeB KP Pj Pm F5 EG GV I4 L6)
open Go.Aw (VL)
noncomputable def Bl(n:Nat)(g:Nat->List Sh)(m:Nat)(h:Nat->List Sh):TA where
 okb:=!F5 n m&&(EG n m g h&&takeB m (dK h))
 Ig:=!F5 n m
 pos:=if EG n m g h=aC then Pj m (dK h) else GV n m g h
 e:=if F5 n m=aC then 6 else if EG n m g h=aC then Pm m (dK h) else I4 n m g h
 n:=(KP m (dK h)).rs.length
 T:=Am (VL FX dfn (Ht (KP m (dK h))))
structure Pn(n:Nat)(g:Nat->List Sh)(m:Nat)(h:Nat->List Sh):Prop where
 o:oM Go.BR.Oj n g=aC
 p:oM Go.BR.Ev m h=aC
 r:L6 m h=aC
 k:QH n (Am g)=aC
def hsS(n:Nat)(g:Nat->List Sh)(m:Nat)(h:Nat->List Sh):Sh:=.agg [.sl 2 n g,.sl 8 m h]
noncomputable def BD(lv:Int)(o:Nat)(og:Nat->List Sh)(B:TA):Ie where
 okb:=B.okb&&decide (B.n<=12)
 Ig:=!B.okb&&B.Ig
 pos:=B.pos
 e:=if B.okb=aC then 1 else B.e
 lv:=lv
 N:=(EO lv B.n B.T).length
 T:=nth (EO lv B.n B.T)
 ms:=YE lv (EO lv B.n B.T)
 k0:=o
 g0:=FD og
theorem ak6(rs:Nat->Go.BR.Rc):∀n,okB Ee n (VL FX dfn rs)=aC
 |0=>rfl |n+1=>by
  show (okB Ee n (VL FX dfn rs)&&_)=aC;rw[ak6 rs n];rfl
end Go.Pl
namespace Go.Proofs
open Go Go.Sx Go.Pl Go.Gm Go.Bf
open Go.BR (Au FX dfn Ht takeB KP Pj Pm F5 EG GV I4 L6)
open Go.Aw (VL)
theorem O20{n:Nat}{g:Nat->List Sh}{m:Nat}{h:Nat->List Sh}(P:Pn n g m h):AV aA (Bq W7) 20 (D20 (hsS n g m h) (Bl n g m h)):=by
 refine ahi Go.Aw.O32 fun Bv φ hφ=>?_
 unfold D20 at hφ;split at hφ
 ·rename_i s
  obtain ⟨h1,h2,h3⟩:=hφ;have hs:s=hsS n g m h:=@of_decide_eq_true _ (bG _) h1;subst hs;have sl:∀{k:Nat} {f f':Nat->List Sh},(∀j,j<k->f j=f' j)->Wk (.sl 7 k f) (.sl 7 k f'):=fun hf=>.inr ⟨rfl,rfl,hf⟩;have n0:Wk (.sl 0 0 fun _=>[]) (.sl 0 0 fun _=>[]):=.inl ⟨rfl,rfl⟩;cases hb:F5 n m with
  |true=>
   have e1:(Bl n g m h).okb=ay:=by unfold Bl;simp[hb]
   have e2:(Bl n g m h).Ig=ay:=by unfold Bl;simp[hb]
   have e3:(Bl n g m h).e=6:=by unfold Bl;simp[hb]
   have q:=(h3 e1).2 e2;rw[e3] at q;exact ⟨_,q,P.o,P.p,P.r,fun _=>⟨n0,rfl,trivial⟩,fun x=>by rw[hb] at x;cases x⟩
  |false=>
   have e2:(Bl n g m h).Ig=aC:=by unfold Bl;simp[hb]
   cases hg:EG n m g h with
   |true=>
    cases ht:takeB m (dK h) with
    |true=>
     have e1:(Bl n g m h).okb=aC:=by unfold Bl;simp[hb,hg,ht]
     exact ⟨_,h2 e1,P.o,P.p,P.r,fun x=>(by rw[hb] at x;cases x),fun _=>⟨fun _=>⟨fun _=>⟨.inr ⟨rfl,rfl,fun j hj=>Jh (ak6 _ _) j hj⟩,rfl,trivial⟩,fun x=>(by rw[ht] at x;cases x)⟩,fun x=>(by rw[hg] at x;cases x)⟩⟩
    |false=>
     have e1:(Bl n g m h).okb=ay:=by unfold Bl;simp[hb,hg,ht]
     have e3:(Bl n g m h).e=Pm m (dK h):=by unfold Bl;simp[hb,hg]
     have e4:(Bl n g m h).pos=Pj m (dK h):=by unfold Bl;simp[hg]
     have q:=(h3 e1).1 e2;rw[e3,e4] at q;exact ⟨_,q,P.o,P.p,P.r,fun x=>(by rw[hb] at x;cases x),fun _=>⟨fun _=>⟨fun x=>(by rw[ht] at x;cases x),fun _=>⟨n0,rfl,trivial⟩⟩,fun x=>(by rw[hg] at x;cases x)⟩⟩
   |false=>
    have e1:(Bl n g m h).okb=ay:=by unfold Bl;simp[hb,hg]
    have e3:(Bl n g m h).e=I4 n m g h:=by unfold Bl;simp[hb,hg]
    have e4:(Bl n g m h).pos=GV n m g h:=by unfold Bl;simp[hg]
    have q:=(h3 e1).1 e2;rw[e3,e4] at q;exact ⟨_,q,P.o,P.p,P.r,fun x=>(by rw[hb] at x;cases x),fun _=>⟨fun x=>(by rw[hg] at x;cases x),fun _=>⟨n0,rfl,trivial⟩⟩⟩
 ·exact hφ.elim
theorem FN{n:Nat}{g:Nat->List Sh}{m:Nat}{h:Nat->List Sh}{B:TA}{lv:Int}(O:AV aA (Bq W7) 20 (D20 (hsS n g m h) B))(h1:1<=lv)(h3:lv<=3)(hw:B.okb=aC->nwB n g=aC):
  AV aA (Bq W7) 40 (Xt (hsS n g m h) lv (BD lv n g B)):=by
 refine FT (C:=C7 Ai W7 (QV (hsS n g m h) B) AU) (C7.ok _ _) (fn:=zx) (by kernel_rfl) (by kernel_rfl) fun H w Bv args φ hrep hφ=>?_
 have hn:zx.ntmps=71:=by kernel_rfl
 unfold Xt at hφ;split at hφ
 ·rename_i s t
  split at hφ
  ·rename_i l e1
   obtain ⟨q1,q2,q3⟩:=hφ;obtain ⟨rfl,rfl⟩:s=hsS n g m h/\l=lv:=@of_decide_eq_true _ (bG _) q1;match args,hrep with
   |[v,u],⟨rv,ru,_⟩=>
    refine ⟨[hsS n g m h,.i .i64 l],⟨rv,EJ e1 ru,trivial⟩,L0,?_⟩;refine Fh (C7.ok _ _) (afp O _) (hold:=BL) (m:=300) (n:=400) (ts:=[⟨40,Zx,Zy n m g h l B.n B.T 0 (nth []) ((0:Nat):Int),[]⟩]) ?_;rw[hn];refine ajr Ai W7 B l n m g h (nth []) ((0:Nat):Int) rfl rfl rfl (@decide_eq_true _ (bG _) rfl) (fun c0 c1=>?_) (fun c0 c1=>?_) (fun c0 c2=>?_) (fun c0 c2=>?_)
    ·have hbig:¬B.n<=12:=by simp[Aq,AY] at c1;omega
     have e:(BD l n g B).okb=ay:=by unfold BD;simp[hbig]
     have e2:(BD l n g B).Ig=ay:=by unfold BD;simp[c0]
     have e3:(BD l n g B).e=1:=by unfold BD;simp[c0]
     have q:=(q3 e).2 e2;rw[e3] at q;exact BX (s':=.AQ [.v (.pointer aK),.er 1 329]) ⟨rfl,rfl,trivial⟩ q
    ·have hsm:B.n<=12:=by simp[Aq,AY] at c1;omega
     have e:(BD l n g B).okb=aC:=by unfold BD;simp[c0,hsm]
     have q:=q2 e;exact ⟨⟨rfl,rfl,rfl,rfl,rfl,rfl,rfl,rfl,rfl,trivial⟩,_,rfl,afq O h1 h3 hsm (hw c0) q B.n 0 [] (by omega) (by simp) (by rw[List.nil_append,ahu])⟩
    ·have e:(BD l n g B).okb=ay:=by unfold BD;simp[c0]
     have e2:(BD l n g B).Ig=aC:=by unfold BD;simp[c0,c2]
     have e3:(BD l n g B).e=B.e:=by unfold BD;simp[c0]
     have q:=(q3 e).1 e2;rw[e3] at q;exact BX (s':=.AQ [.v (.pointer aK),.C9 109 (.pt [.i .i64 B.pos,.er B.e 329])]) ⟨rfl,rfl,trivial⟩ q
    ·have e:(BD l n g B).okb=ay:=by unfold BD;simp[c0]
     have e2:(BD l n g B).Ig=ay:=by unfold BD;simp[c0,c2]
     have e3:(BD l n g B).e=B.e:=by unfold BD;simp[c0]
     have q:=(q3 e).2 e2;rw[e3] at q;exact BX (s':=.AQ [.v (.pointer aK),.er B.e 329]) ⟨rfl,rfl,trivial⟩ q
  ·exact hφ.elim
 ·exact hφ.elim
end Go.Proofs
namespace Go.Pl
open Go Go.Sx
def NY(s t:CY):Bool:=decide (s=t)
open Go Go.Sx Go.Proofs
structure Rf where
 kind:Int
 num:Int
 keys:List Int
 vals:List Int
 deriving DecidableEq,Inhabited
def rfS(s:Rf):List Sh:=[.i .i64 s.kind,.i .i64 s.num,.sl 1 (len s.keys) (Aj (nth s.keys)),.sl 1 (len s.vals) (Aj (nth s.vals))]
def axf(o:Nat->Oj)(j:Nat):Rf:=⟨(o j).kind,(o j).init,[],[]⟩
def N7(l:List Int)(key:Int):Nat:=(l.takeWhile fun p=>decide (p<key)).length
def hasK(l:List Int)(key:Int):Bool:=decide (N7 l key<l.length)&&(nth l (N7 l key)==key)
def ZH(kind num op k v:Int):Int:=
 if kind=0\/MF op≠kind then 111
 else if (keyed op=ay/\k≠0)\/k<0\/1000<k\/(valued op=ay/\v≠0)\/v < -1000000000\/1000000000<v then 110
 else if op=3/\(Kr num v < -1000000000000000\/1000000000000000<Kr num v) then 110
 else 0
def ajI(s:Rf)(op k v:Int):Rf×Int×Int:=
 if op=1\/op=4 then (s,3,s.num)
 else if op=2 then ({s with num:=v},1,0)
 else if op=3 then ({s with num:=Kr s.num v},1,0)
 else if op=5 then ({s with vals:=s.vals++[v]},1,0)
 else if op=6 then ({s with vals:=s.vals.tail},UD s.vals.length,s.vals.headD 0)
 else if op=7 then (if hasK s.keys k=aC then {s with vals:=s.vals.set (N7 s.keys k) v} else {s with keys:=s.keys.take (N7 s.keys k)++k::s.keys.drop (N7 s.keys k),vals:=s.vals.take (N7 s.keys k)++v::s.vals.drop (N7 s.keys k)},1,0)
 else if op=8 then (s,if hasK s.keys k=aC then 3 else 2,if hasK s.keys k=aC then nth s.vals (N7 s.keys k) else 0)
 else if op=9 then (if hasK s.keys k=aC then {s with keys:=s.keys.take (N7 s.keys k)++s.keys.drop (N7 s.keys k+1),vals:=s.vals.take (N7 s.keys k)++s.vals.drop (N7 s.keys k+1)} else s,if hasK s.keys k=aC then 3 else 2,if hasK s.keys k=aC then nth s.vals (N7 s.keys k) else 0)
 else (s,0,0)
def opS(r:Rf)(op k v:Int):Rf:=(ajI r op k v).1
def Q5(k:Int):List UInt8:=rP 16 (k - 1).toNat
def qU(r:List Int)(j:Nat):List UInt8:=(aZ j).flatMap fun i=>32::Bo (nth r i)
def pU(l r:List Int)(j:Nat):List UInt8:=(aZ j).flatMap fun i=>32::(Bo (nth l i)++58::Bo (nth r i))
def Qb(s:Rf):List UInt8:=if s.kind=0 then [] else Q5 s.kind++(if s.kind<=2 then 32::Bo s.num else if s.kind=3 then qU s.vals s.vals.length else pU s.keys s.vals s.vals.length)
noncomputable def rowB(l:List Sh):Bool:=@decide (∃r:Rf,l=rfS r) (bG _)
def Po(d:Nat->Rf):Nat->List UInt8
 |0=>[] |k+1=>Po d k++((if k=0 then [] else [59,32])++Qb (d k))
def UM(n:Nat)(d:Nat->CY):List UInt8:=adY ((aZ n).map d)
def Dl(n:Nat)(d:Nat->CY)(m:Nat)(f:Nat->Rf):Bool:=(UM n d==Po f m)&&((n:Int)==(m:Int))
def toR(s:CY):Rf:=⟨s.kind,s.num,s.ps.map (·.key),s.q++s.ps.map (·.val)⟩
theorem Ul(ps:List Pr)(k:Int):N7 (ps.map (·.key)) k=Ce ps k:=by
 unfold N7 Ce;rw[List.takeWhile_map,dP];rfl
theorem arg_eq(x y op k v:Int):ZH x y op k v=if G7 x op=aC then 111 else if IG x y op k v=aC then 110 else 0:=by
 by_cases h1:x=0\/MF op≠x
 ·have:G7 x op=aC:=by
   unfold G7;rcases h1 with h1|h1<;>simp[h1]
  rw[if_pos this];unfold ZH;rw[if_pos h1]
 ·have hx:x≠0/\MF op=x:=⟨fun e=>h1 (.inl e),nN fun e=>h1 (.inr e)⟩
  have:¬G7 x op=aC:=by
   unfold G7;simp[hx.1,hx.2]
  rw[if_neg this];unfold ZH;rw[if_neg h1];have h3:op=3->x=2:=fun e=>by rw[<-hx.2,e];decide
  have e1:(IG x y op k v=aC)↔((keyed op=ay/\k≠0)\/k<0\/1000<k\/(valued op=ay/\v≠0)\/v < -1000000000\/1000000000<v)\/(op=3/\(Kr y v < -1000000000000000\/1000000000000000<Kr y v)):=by
   unfold IG Je;by_cases h:op=3
   ·have:=h3 h
    subst this;cases keyed op<;>cases valued op<;>simp[h]<;>omega
   ·cases keyed op<;>cases valued op<;>simp[h]<;>omega
  by_cases a:(keyed op=ay/\k≠0)\/k<0\/1000<k\/(valued op=ay/\v≠0)\/v < -1000000000\/1000000000<v
  ·rw[if_pos a,if_pos (e1.2 (.inl a))]
  ·rw[if_neg a]
   by_cases b:op=3/\(Kr y v < -1000000000000000\/1000000000000000<Kr y v)
   ·rw[if_pos b,if_pos (e1.2 (.inr b))]
   ·rw[if_neg b,if_neg fun e=>(e1.1 e).elim a b]
theorem acw(ps:List Pr){i:Nat}(h:i<ps.length):nth (ps.map (·.key)) i=(nth ps i).key:=by simp[nth,h]
theorem aqh(ps:List Pr){i:Nat}(h:i<ps.length):nth (ps.map (·.val)) i=(nth ps i).val:=by simp[nth,h]
theorem ahL:∀{ps:List Pr} {k:Int},(ps.Pairwise fun a b=>a.key<b.key)->(En ps k=aC↔Ce ps k<ps.length/\(nth ps (Ce ps k)).key=k)
 |[],k,_=>by simp[En,Ce] |a::ps,k,h=>by
  rw[uh] at h;have ih:=ahL (ps:=ps) (k:=k) h.2;by_cases hk:a.key<k
  ·have e:Ce (a::ps) k=Ce ps k+1:=by simp[Ce,jA,hk]
   have e2:En (a::ps) k=En ps k:=by
    have:(a.key==k)=ay:=by simp;omega
    simp[En,this]
   rw[e,e2,ih];simp[nth]
  ·have e:Ce (a::ps) k=0:=by simp[Ce,jA,hk]
   rw[e];constructor
   ·intro q
    refine ⟨by simp,?_⟩;show a.key=k;simp only[En,List.any_cons,nI,beq_iff_eq,pX] at q;rcases q with q|⟨b,hb,q⟩
    ·exact q
    ·have:=h.1 b hb
     omega
   ·intro ⟨_,q⟩
    have q:a.key=k:=q;simp[En,q]
theorem aej{ps:List Pr}{k:Int}(h:ps.Pairwise fun a b=>a.key<b.key):hasK (ps.map (·.key)) k=En ps k:=by
 have e:hasK (ps.map (·.key)) k=aC↔En ps k=aC:=by
  rw[ahL h];unfold hasK;rw[Ul,aI,decide_eq_true_eq,dP,beq_iff_eq];constructor
  ·intro ⟨q1,q2⟩
   exact ⟨q1,by rw[<-acw ps q1];exact q2⟩
  ·intro ⟨q1,q2⟩
   exact ⟨q1,by rw[acw ps q1];exact q2⟩
 cases h1:hasK (ps.map (·.key)) k<;>cases h2:En ps k<;>simp_all
theorem acy{ps:List Pr}:QJ ps=aC↔(ps.Pairwise fun a b=>a.key<b.key)/\∀p∈ps,0<=p.key/\p.key<=1000:=by
 unfold QJ;rw[aI,decide_eq_true_eq,dF];simp
theorem ahM{ps:List Pr}{k v:Int}(hs:ps.Pairwise fun a b=>a.key<b.key)(h:En ps k=aC):(Fp ps k v).map (·.key)=ps.map (·.key):=by
 obtain ⟨h1,h2⟩:=PY hs h;rw[afe h,yS];show (ps.map (·.key)).set _ k=_;have:(ps.map (·.key))[Ce ps k]'(by simpa using h1)=k:=by simpa using h2
 have e:(ps.map (·.key)).set (Ce ps k) ((ps.map (·.key))[Ce ps k]'(by simpa using h1))=ps.map (·.key):=List.set_getElem_self _;rw[this] at e;exact e
theorem aqi{ps:List Pr}{k v:Int}(h:QJ ps=aC)(hk:0<=k/\k<=1000):QJ (Fp ps k v)=aC:=by
 rw[acy] at h ⊢;obtain ⟨hs,hb⟩:=h;cases hh:En ps k with
 |true=>
  have e:=ahM (v:=v) hs hh;refine ⟨?_,fun p hp=>?_⟩
  ·have:(ps.map (·.key)).Pairwise (·<·):=uO.2 hs
   rw[<-e] at this;exact uO.1 this
  ·have:p.key∈(Fp ps k v).map (·.key):=dJ.2 ⟨p,hp,rfl⟩
   rw[e] at this;obtain ⟨q,hq,e2⟩:=dJ.1 this;rw[<-e2];exact hb q hq
 |false=>
  rw[afd hh];have hl:=ag3 ps k;have hg:=ag4 (key:=k) hs;have hn:∀p∈ps,p.key≠k:=fun p hp e=>by
   have:En ps k=aC:=pX.2 ⟨p,hp,by simp[e]⟩;rw[hh] at this;cases this
  have ht:∀p∈ps.take (Ce ps k),p.key<k:=fun p hp=>by
   obtain ⟨j,hj,e⟩:=List.mem_take_iff_getElem.1 hp;rw[<-e];exact hl j (by omega) (by omega)
  have hd:∀p∈ps.drop (Ce ps k),k<p.key:=fun p hp=>by
   obtain ⟨j,hj,e⟩:=List.mem_drop_iff_getElem.1 hp;have h1:=hg (Ce ps k+j) (by omega) (by omega);have h2:=hn p (jy hp);rw[e] at h1;omega
  refine ⟨List.pairwise_append.2 ⟨hs.sublist (List.take_sublist _ _),uh.2 ⟨fun p hp=>hd p hp,hs.sublist (uP _ _)⟩,fun a ha b hb=>?_⟩,fun p hp=>?_⟩
  ·rcases iy.1 hb with rfl|hb
   ·exact ht a ha
   ·have:=ht a ha
    have:=hd b hb;omega
  ·rcases bI.1 hp with hp|hp
   ·exact hb p (mW hp)
   ·rcases iy.1 hp with rfl|hp
    ·exact hk
    ·exact hb p (jy hp)
theorem aqj{ps:List Pr}{k:Int}(h:QJ ps=aC):QJ (Gn ps k)=aC:=by
 cases hh:En ps k with
 |false=>rw[aff hh];exact h |true=>
  rw[afg hh];rw[acy] at h ⊢;have sub:(ps.take (Ce ps k)++ps.drop (Ce ps k+1)).Sublist ps:=by
   conv=>rhs;rw[<-List.take_append_drop (Ce ps k) ps]
   refine vW (vX _) ?_;rw[<-List.drop_drop];exact uP _ _
  exact ⟨h.1.sublist sub,fun p hp=>h.2 p (sub.subset hp)⟩
structure JF(m:Nat)(s:CY):Prop where
 kind:1<=s.kind/\s.kind<=4
 q0:s.kind≠3->s.q=[]
 p0:s.kind≠4->s.ps=[]
 wf:QJ s.ps=aC
 num:-1000000000000000<=s.num/\s.num<=1000000000000000
 qv:∀x∈s.q,-1000000000<=x/\x<=1000000000
 pv:∀p∈s.ps,-1000000000<=p.val/\p.val<=1000000000
 ql:s.q.length<=m
 pl:s.ps.length<=m
 n0:2<s.kind->s.num=0
theorem ak7{x y op k v:Int}(h:ZH x y op k v=0):(x≠0/\MF op=x)/\(0<=k/\k<=1000)/\(-1000000000<=v/\v<=1000000000)/\(op=3->-1000000000000000<=Kr y v/\Kr y v<=1000000000000000):=by
 unfold ZH at h;split at h
 ·omega
 ·rename_i h1
  split at h
  ·omega
  ·rename_i h2
   split at h
   ·omega
   ·rename_i h3
    refine ⟨⟨fun e=>h1 (.inl e),nN fun e=>h1 (.inr e)⟩,?_,?_,fun e=>?_⟩
    ·constructor
     ·exact mD.1 fun e=>h2 (.inr (.inl e))
     ·exact mD.1 fun e=>h2 (.inr (.inr (.inl e)))
    ·constructor
     ·exact mD.1 fun e=>h2 (.inr (.inr (.inr (.inr (.inl e)))))
     ·exact mD.1 fun e=>h2 (.inr (.inr (.inr (.inr (.inr e)))))
    ·constructor
     ·exact mD.1 fun e2=>h3 ⟨e,.inl e2⟩
     ·exact mD.1 fun e2=>h3 ⟨e,.inr e2⟩
theorem aml{x y op k v:Int}(h:ZH x y op k v=0):op=1\/op=2\/op=3\/op=4\/op=5\/op=6\/op=7\/op=8\/op=9:=by
 obtain ⟨⟨q1,q2⟩,_⟩:=ak7 h;unfold MF at q2;split at q2
 ·omega
 ·split at q2
  ·omega
  ·split at q2
   ·omega
   ·split at q2
    ·omega
    ·omega
theorem amm{m:Nat}{s:CY}{op k v:Int}(h:JF m s)(ha:ZH s.kind s.num op k v=0):opS (toR s) op k v=toR (ER s op k v).1/\JF (m+1) (ER s op k v).1:=by
 obtain ⟨⟨k0,hk⟩,⟨b1,b2⟩,bv,bs⟩:=ak7 ha;have hop:=aml ha;have h':JF (m+1) s:={h with ql:=vJ h.ql,pl:=vJ h.pl}
 obtain ⟨kind,num,q,ps⟩:=s;rcases hop with rfl|rfl|rfl|rfl|rfl|rfl|rfl|rfl|rfl
 ·exact ⟨rfl,h'⟩
 ·exact ⟨rfl,{h' with num:=⟨by show _<=v;omega,by show v<=_;omega⟩,n0:=fun e=>by have hk:(1:Int)=kind:=hk;have e:2<kind:=e;omega}⟩
 ·exact ⟨rfl,{h' with num:=bs rfl,n0:=fun e=>by have hk:(2:Int)=kind:=hk;have e:2<kind:=e;omega}⟩
 ·exact ⟨rfl,h'⟩
 ·have hk:(3:Int)=kind:=hk
  subst hk;have hp:ps=[]:=h.p0 (show (3:Int)≠4 by decide);subst hp;refine ⟨by simp[opS,ajI,ER,toR],{h' with q0:=fun e=>absurd rfl e,qv:=fun x hx=>?_,ql:=?_}⟩
  ·have hx:x∈q++[v]:=hx
   rcases bI.1 hx with hx|hx
   ·exact h.qv x hx
   ·simp at hx;subst hx;exact bv
  ·show (q++[v]).length<=m+1
   have:=h.ql;simp at this ⊢;exact this
 ·have hk:(3:Int)=kind:=hk
  subst hk;have hp:ps=[]:=h.p0 (show (3:Int)≠4 by decide);subst hp;refine ⟨by simp[opS,ajI,ER,toR],{h' with q0:=fun e=>absurd rfl e,qv:=fun x hx=>h.qv x (List.mem_of_mem_tail hx),ql:=?_}⟩
  show q.tail.length<=m+1;have:=h.ql;simp at this ⊢;omega
 ·have hk:(4:Int)=kind:=hk
  subst hk;have hq:q=[]:=h.q0 (show (4:Int)≠3 by decide);subst hq;have hs:=Hr h.wf;refine ⟨?_,{h' with p0:=fun e=>absurd rfl e,wf:=aqi h.wf ⟨b1,b2⟩,pv:=fun p hp=>?_,pl:=?_}⟩
  ·show (if hasK (ps.map (·.key)) k=aC then (_:Rf) else _)=⟨4,num,(Fp ps k v).map (·.key),[]++(Fp ps k v).map (·.val)⟩
   rw[aej hs];cases hh:En ps k with
   |true=>
    rw[if_pos rfl,ahM hs hh,afe hh];simp[toR,Ul,yS]
   |false=>
    rw[if_neg (by simp),afd hh];simp[toR,Ul,xJ,xK]
  ·have hp:p∈Fp ps k v:=hp
   unfold Fp at hp;split at hp
   ·rcases List.mem_or_eq_of_mem_set hp with hp|rfl
    ·exact h.pv p hp
    ·exact bv
   ·rcases bI.1 hp with hp|hp
    ·exact h.pv p (mW hp)
    ·rcases iy.1 hp with rfl|hp
     ·exact bv
     ·exact h.pv p (jy hp)
  ·show (Fp ps k v).length<=m+1
   have:=h.pl;have:ps.length<=m:=this;rw[abL];split<;>omega
 ·exact ⟨rfl,h'⟩
 ·have hk:(4:Int)=kind:=hk
  subst hk;have hq:q=[]:=h.q0 (show (4:Int)≠3 by decide);subst hq;have hs:=Hr h.wf;refine ⟨?_,{h' with p0:=fun e=>absurd rfl e,wf:=aqj h.wf,pv:=fun p hp=>?_,pl:=?_}⟩
  ·show (if hasK (ps.map (·.key)) k=aC then (_:Rf) else _)=⟨4,num,(Gn ps k).map (·.key),[]++(Gn ps k).map (·.val)⟩
   rw[aej hs];cases hh:En ps k with
   |true=>
    rw[if_pos rfl,afg hh];simp[toR,Ul,xJ,xK]
   |false=>
    rw[if_neg (by simp),aff hh];rfl
  ·have hp:p∈Gn ps k:=hp
   unfold Gn at hp;split at hp
   ·rcases bI.1 hp with hp|hp
    ·exact h.pv p (mW hp)
    ·exact h.pv p (jy hp)
   ·exact h.pv p hp
  ·show (Gn ps k).length<=m+1
   have:ps.length<=m:=h.pl;rw[ag5 (show QJ ps=aC from h.wf)];split<;>omega
theorem ZI{α:Type}[Row α](l:List α)(F:α->List UInt8):(aZ l.length).flatMap (fun i=>F (nth l i))=l.flatMap F:=by
 have:=abA l;conv=>rhs;rw[<-this]
 rw[oN]
theorem ajJ(q:List Int):qU q q.length=q.flatMap fun x=>32::Bo x:=ZI q fun x=>32::Bo x
theorem ajK(ps:List Pr):pU (ps.map (·.key)) (ps.map (·.val)) ps.length=ps.flatMap fun p=>32::(Bo p.key++58::Bo p.val):=by
 rw[<-ZI ps fun p=>32::(Bo p.key++58::Bo p.val)];unfold pU;rw[mF,mF];congr 1;refine jV fun i hi=>?_
 have hi:=dh.1 hi;rw[acw ps hi,aqh ps hi]
theorem acz(l:List (List UInt8)):kM [32] l=l.flatMap fun x=>32::x:=by
 unfold kM;rw[mF];rfl
theorem key_eq{m:Nat}{s:CY}(h:JF m s):keyS s=Qb (toR s):=by
 obtain ⟨kind,num,q,ps⟩:=s;have hk:1<=kind/\kind<=4:=h.kind;unfold keyS JZ DC;rw[lI,acz];have:kind=1\/kind=2\/kind=3\/kind=4:=by omega
 rcases this with rfl|rfl|rfl|rfl
 ·simp[Qb,toR];rfl
 ·simp[Qb,toR];rfl
 ·have hp:ps=[]:=h.p0 (show (3:Int)≠4 by decide)
  subst hp;have:=ajJ q;simp[Qb,toR,this,oN];rfl
 ·have hq:q=[]:=h.q0 (show (4:Int)≠3 by decide)
  subst hq;have:=ajK ps;simp[Qb,toR,this,oN];rfl
theorem ajL(l:List (List UInt8))(x sep:List UInt8):DC (l++[x]) sep=DC l sep++((if l=[] then [] else sep)++x):=by
 unfold DC;cases l with
 |nil=>simp[Go.Lib.join_one,Go.Lib.join_nil] |cons a l=>
  rw[vK,lI,lI];simp[kM]
theorem keys_eq{m:Nat}{d:Nat->CY}:∀n,(∀j,j<n->JF m (d j))->UM n d=Po (fun j=>toR (d j)) n
 |0,_=>rfl |n+1,h=>by
  have ih:=keys_eq n fun j hj=>h j (by omega);unfold UM adY at ih ⊢;rw[qG,iR,iR,uj,uj,ajL,ih,Po,key_eq (h n (by omega))];congr 2;cases n with
  |zero=>rfl |succ n=>simp[qG]
theorem aqk{m:Nat}{s:CY}(hm:m<=100000)(h:JF m s):Xo s=aC:=by
 obtain ⟨⟨k1,k2⟩,_,_,wf,⟨n1,n2⟩,qv,pv,ql,pl,_⟩:=h;have wf:=acy.1 wf;unfold Xo;simp only[aI,dF,decide_eq_true_eq];refine ⟨⟨⟨⟨decide_eq_true ⟨by omega,by omega⟩,decide_eq_true ⟨by omega,by omega⟩⟩,fun x hx=>?_⟩,fun p hp=>⟨?_,?_⟩⟩,by omega,by omega⟩
 ·have:=qv x hx;exact decide_eq_true ⟨by omega,by omega⟩
 ·have:=wf.2 p hp;exact decide_eq_true ⟨by omega,by omega⟩
 ·have:=pv p hp;exact decide_eq_true ⟨by omega,by omega⟩
theorem amn{m n:Nat}{d:Nat->CY}{i op:Int}(hm:m<=50000)(h:∀j,j<n->JF m (d j)):abP n d i op=aC:=by
 unfold abP;cases hi:JY n i with
 |false=>rfl |true=>
  have hi:0<=i/\i<n:=of_decide_eq_true hi;obtain ⟨_,_,_,wf,_,_,_,ql,pl,_⟩:=h i.toNat (by omega);show (_&&_)=aC;rw[aI];refine ⟨ni (show (d i.toNat).q.length+1<=_ by omega) (by omega),?_⟩;unfold KJ;rw[nI,aI];refine .inr ⟨Ib.2 ⟨DI _ _,show (d i.toNat).ps.length<=_ by omega,?_⟩,ni (show (d i.toNat).ps.length+1<=_ by omega) (by omega)⟩;rw[show lst Pr (len (d i.toNat).ps) (Aj (nth (d i.toNat).ps))=(d i.toNat).ps from Lj _];exact wf
theorem aql{o:Nat->Oj}{j:Nat}(h:Fa (o j).kind (o j).init=ay):JF 0 (newT o j)/\toR (newT o j)=axf o j:=by
 unfold Fa at h;simp only[Bool.or_eq_false_iff,Bool.not_eq_false',aI,decide_eq_true_eq,decide_eq_false_iff_not] at h;exact ⟨⟨h.1.1.1,fun _=>rfl,fun _=>rfl,(show QJ []=aC from rfl),⟨(by show _<=(o j).init;omega),(by show (o j).init<=_;omega)⟩,(fun x hx=>(vM hx).elim),(fun p hp=>(vM hp).elim),dn _,dn _,(fun e=>by have e:2<(o j).kind:=e;show (o j).init=0;have:=h.2;simp at this;omega)⟩,rfl⟩
open Go.Lib (decDigits itoa)
def asP(l:List UInt8):Nat:=l.foldl (fun a c=>a*10+(c.toNat - 48)) 0
theorem ahN{d:Nat}(h:d<10):(kL (48+d)).toNat=48+d:=by
 rw[UInt8.toNat_ofNat'];omega
theorem Qc(u:Nat):asP (decDigits u)=u/\(∀c∈decDigits u,48<=c.toNat/\c.toNat<=57)/\decDigits u≠[]:=by
 induction u using Nat.strongRecOn with
 |ind u ih=>
  rw[decDigits];by_cases h:u<10
  ·rw[dif_pos h]
   have:=ahN h;refine ⟨?_,fun c hc=>?_,by simp⟩
   ·show 0*10+((kL (48+u)).toNat - 48)=u
    rw[this];omega
   ·obtain rfl:c=kL (48+u):=by simpa using hc
    rw[this];omega
  ·rw[dif_neg h]
   obtain ⟨q1,q2,q3⟩:=ih (u / 10) (by omega);have:=ahN (d:=u % 10) (by omega);refine ⟨?_,fun c hc=>?_,by simp⟩
   ·unfold asP at q1 ⊢
    rw[List.foldl_append,q1];show u / 10*10+((kL (48+u % 10)).toNat - 48)=u;rw[this];omega
   ·rcases bI.1 hc with hc|hc
    ·exact q2 c hc
    ·obtain rfl:c=kL (48+u % 10):=by simpa using hc
     rw[this];omega
theorem ahO{a b:Nat}(h:decDigits a=decDigits b):a=b:=by
 have h1:=(Qc a).1;rw[h,(Qc b).1] at h1;exact h1.symm
theorem ahP{n:Int}{c:UInt8}(h:c∈Bo n):c.toNat=45\/(48<=c.toNat/\c.toNat<=57):=by
 unfold Bo itoa at h;split at h
 ·rcases iy.1 h with rfl|h
  ·exact .inl rfl
  ·exact .inr ((Qc _).2.1 c h)
 ·exact .inr ((Qc _).2.1 c h)
theorem Qd{a b:Int}(h:Bo a=Bo b):a=b:=by
 have head (u v:Nat) (h:45::decDigits u=decDigits v):False:=by
  have:(45:UInt8)∈decDigits v:=by rw[<-h];simp
  have:=(Qc v).2.1 _ this;simp at this
 unfold Bo itoa at h;split at h
 ·split at h
  ·injection h with _ h
   have:=ahO h;omega
  ·exact (head _ _ h).elim
 ·split at h
  ·exact (head _ _ h.symm).elim
  ·have:=ahO h
   omega
theorem ak8{z:UInt8}{a r:List UInt8}(ha:z ∉ a)(hr:r=[]\/∃t,r=z::t):(a++r).takeWhile (fun c=>!(c==z))=a:=by
 rw[List.takeWhile_append_of_pos fun c hc=>by
  have:c≠z:=fun e=>ha (e ▸ hc);simp[this]]
 rcases hr with rfl|⟨t,rfl⟩
 ·simp
 ·simp
theorem acA{z:UInt8}{a b r r':List UInt8}(ha:z ∉ a)(hb:z ∉ b)(hr:r=[]\/∃t,r=z::t)(hr':r'=[]\/∃t,r'=z::t)(h:a++r=b++r'):a=b/\r=r':=by
 have h1:=ak8 ha hr;rw[h,ak8 hb hr'] at h1;subst h1;exact ⟨rfl,jd h⟩
theorem acB{α:Type}{z:UInt8}{f:α->List UInt8}:∀l:List α,(l.flatMap fun x=>z::f x)=[]\/∃t,(l.flatMap fun x=>z::f x)=z::t
 |[]=>.inl rfl |_::_=>.inr ⟨_,rfl⟩
theorem YJ{α:Type}{z:UInt8}{f:α->List UInt8}(hz:∀x,z ∉ f x)(hf:∀x y,f x=f y->x=y):∀l l':List α,(l.flatMap fun x=>z::f x)=(l'.flatMap fun x=>z::f x)->l=l'
 |[],[],_=>rfl |[],_::_,h=>by cases h |_::_,[],h=>by cases h |a::l,b::l',h=>by
  simp only[List.flatMap_cons,vK] at h;injection h with _ h
  obtain ⟨h1,h2⟩:=acA (hz a) (hz b) (acB l) (acB l') h;rw[hf a b h1,YJ hz hf l l' h2]
theorem Qe{n:Int}{z:UInt8}(h:z.toNat=32\/z.toNat=58\/z.toNat=59):z ∉ Bo n:=fun hc=>by
 have:=ahP hc;omega
theorem amo{a b c d:Int}(h:Bo a++58::Bo b=Bo c++58::Bo d):a=c/\b=d:=by
 obtain ⟨h1,h2⟩:=acA (z:=58) (Qe (by decide)) (Qe (by decide)) (.inr ⟨_,rfl⟩) (.inr ⟨_,rfl⟩) h;injection h2 with _ h2
 exact ⟨Qd h1,Qd h2⟩
theorem amq{m m':Nat}{s t:CY}(hs:JF m s)(ht:JF m' t)(hk:s.kind=t.kind)(hn:s.kind<=2\/s.num=t.num)(h:Qb (toR s)=Qb (toR t)):s=t:=by
 obtain ⟨kind,num,q,ps⟩:=s;obtain ⟨kind',num',q',ps'⟩:=t;have hk:kind=kind':=hk;subst hk;have hkk:1<=kind/\kind<=4:=hs.kind;have hn:kind<=2\/num=num':=hn;have:kind=1\/kind=2\/kind=3\/kind=4:=by omega
 rcases this with rfl|rfl|rfl|rfl
 ·have e1:q=[]:=hs.q0 (show (1:Int)≠3 by decide)
  have e2:q'=[]:=ht.q0 (show (1:Int)≠3 by decide);have e3:ps=[]:=hs.p0 (show (1:Int)≠4 by decide);have e4:ps'=[]:=ht.p0 (show (1:Int)≠4 by decide);subst e1 e2 e3 e4;have h:Q5 1++(32::Bo num)=Q5 1++(32::Bo num'):=h;have h:=jd h;injection h with _ h
  rw[Qd h]
 ·have e1:q=[]:=hs.q0 (show (2:Int)≠3 by decide)
  have e2:q'=[]:=ht.q0 (show (2:Int)≠3 by decide);have e3:ps=[]:=hs.p0 (show (2:Int)≠4 by decide);have e4:ps'=[]:=ht.p0 (show (2:Int)≠4 by decide);subst e1 e2 e3 e4;have h:Q5 2++(32::Bo num)=Q5 2++(32::Bo num'):=h;have h:=jd h;injection h with _ h
  rw[Qd h]
 ·have e3:ps=[]:=hs.p0 (show (3:Int)≠4 by decide)
  have e4:ps'=[]:=ht.p0 (show (3:Int)≠4 by decide);subst e3 e4;have hn:num=num':=hn.resolve_left (show ¬(3:Int)<=2 by decide);subst hn;have h:Q5 3++qU (q++[]) (q++[]).length=Q5 3++qU (q'++[]) (q'++[]).length:=h;have h:=jd h;rw[fA,fA,ajJ,ajJ] at h;rw[YJ (fun x=>Qe (.inl rfl)) (fun x y e=>Qd e) q q' h]
 ·have e1:q=[]:=hs.q0 (show (4:Int)≠3 by decide)
  have e2:q'=[]:=ht.q0 (show (4:Int)≠3 by decide);subst e1 e2;have hn:num=num':=hn.resolve_left (show ¬(4:Int)<=2 by decide);subst hn;have h:Q5 4++pU (ps.map (·.key)) (ps.map (·.val)) (ps.map (·.val)).length=Q5 4++pU (ps'.map (·.key)) (ps'.map (·.val)) (ps'.map (·.val)).length:=h;have h:=jd h;rw[dP,dP,ajK,ajK] at h;have:=YJ (f:=fun p:Pr=>Bo p.key++58::Bo p.val) (fun x hx=>by
   rcases bI.1 hx with hx|hx
   ·exact Qe (.inl rfl) hx
   ·rcases iy.1 hx with hx|hx
    ·cases hx
    ·exact Qe (.inl rfl) hx) (fun x y e=>by
   obtain ⟨a,b⟩:=x;obtain ⟨c,d⟩:=y;obtain ⟨e1,e2⟩:=amo e;have e1:a=c:=e1;have e2:b=d:=e2;rw[e1,e2]) ps ps' h
  rw[this]
theorem amr{a b x y:List UInt8}(hx:59 ∉ x)(hy:59 ∉ y)(h:a++59::32::x=b++59::32::y):a=b/\x=y:=by
 have h:=congrArg List.reverse h;simp only[List.reverse_append,List.reverse_cons,List.append_assoc,List.singleton_append] at h;have h:(x.reverse++[32])++59::a.reverse=(y.reverse++[32])++59::b.reverse:=by simpa using h
 obtain ⟨h1,h2⟩:=acA (z:=59) (by simpa using hx) (by simpa using hy) (.inr ⟨_,rfl⟩) (.inr ⟨_,rfl⟩) h;injection h2 with _ h2
 have h1:=List.append_cancel_right h1;exact ⟨vN.1 h2,vN.1 h1⟩
theorem aqm{m:Nat}{s:CY}(hs:JF m s):59 ∉ Qb (toR s):=by
 rw[<-key_eq hs];obtain ⟨kind,num,q,ps⟩:=s;have hkk:1<=kind/\kind<=4:=hs.kind;have hw:59 ∉ EP kind:=by
  have:kind=1\/kind=2\/kind=3\/kind=4:=by omega
  rcases this with rfl|rfl|rfl|rfl<;>decide
 unfold keyS JZ DC;rw[lI,acz];intro hc;rcases bI.1 hc with hc|hc
 ·exact hw hc
 ·obtain ⟨x,hx,hc⟩:=iV.1 hc
  have hc:(59:UInt8)∈x:=by
   rcases iy.1 hc with hc|hc
   ·cases hc
   ·exact hc
  have no (n:Int):(59:UInt8) ∉ Bo n:=Qe (.inr (.inr rfl));split at hx
  ·obtain rfl:x=Bo num:=by simpa using hx
   exact no _ hc
  ·split at hx
   ·obtain ⟨n,_,rfl⟩:=dJ.1 hx
    exact no _ hc
   ·split at hx
    ·obtain ⟨p,_,rfl⟩:=dJ.1 hx
     rcases bI.1 hc with hc|hc
     ·rcases bI.1 hc with hc|hc
      ·exact no _ hc
      ·simp at hc
     ·exact no _ hc
    ·cases hx
theorem aek{m m':Nat}{d e:Nat->CY}:∀n,(∀j,j<n->JF m (d j))->(∀j,j<n->JF m' (e j))->Po (fun j=>toR (d j)) n=Po (fun j=>toR (e j)) n->∀j,j<n->Qb (toR (d j))=Qb (toR (e j))
 |0,_,_,_,j,hj=>by omega |n+1,hd,he,h,j,hj=>by
  rw[Po,Po] at h;have key:Po (fun j=>toR (d j)) n=Po (fun j=>toR (e j)) n/\Qb (toR (d n))=Qb (toR (e n)):=by
   by_cases hn:n=0
   ·subst hn
    rw[if_pos rfl] at h;exact ⟨rfl,h⟩
   ·rw[if_neg hn] at h
    exact amr (aqm (hd n (by omega))) (aqm (he n (by omega))) h
  by_cases e1:j=n
  ·subst e1;exact key.2
  ·exact aek n (fun j hj=>hd j (by omega)) (fun j hj=>he j (by omega)) key.1 j (by omega)
theorem ahQ{m m' n:Nat}{d e:Nat->CY}(hd:∀j,j<n->JF m (d j))(he:∀j,j<n->JF m' (e j))(hk:∀j,j<n->(d j).kind=(e j).kind)(h:UM n d=UM n e):∀j,j<n->d j=e j:=fun j hj=>by
 rw[keys_eq n hd,keys_eq n he] at h;have:=aek n hd he h j hj;refine amq (hd j hj) (he j hj) (hk j hj) ?_ this;by_cases q:(d j).kind<=2
 ·exact .inl q
 ·exact .inr (by rw[(hd j hj).n0 (by omega),(he j hj).n0 (by rw[<-hk j hj];omega)])
open Go Go.Sx Go.Proofs Go.Gm Go.Bf
structure L9(n:Nat)(g0:SG)(m:Nat)(g:SG)(d:Nat->CY):Prop where
 row:∀j,j<n->g j=Dp (d j)
 inv:∀j,j<n->JF m (d j)
 kind:∀j,j<n->∀s,g0 j=Dp s->(d j).kind=s.kind
 out:∀j,n<=j->g j=g0 j
section
variable{n m:Nat}{g0 g:SG}{d:Nat->CY}
theorem JF.up{m m':Nat}{s:CY}(h:JF m s)(hm:m<=m'):JF m' s:={h with ql:=iM h.ql hm,pl:=iM h.pl hm}
theorem L9.up{m':Nat}(h:L9 n g0 m g d)(hm:m<=m'):L9 n g0 m' g d:={h with inv:=fun j hj=>(h.inv j hj).up hm}
theorem L9.eqF(h:L9 n g0 m g d):∀j,j<n->Et n g j=d j:=akz h.row
theorem L9.isB(h:L9 n g0 m g d):stB n g=aC:=aky h.row
theorem ahR{i op k v:Int}(h:YA n d i op k v=aC):JY n i=aC/\ZH (d i.toNat).kind (d i.toNat).num op k v=0:=by
 unfold YA at h;rw[aI,aI] at h;refine ⟨h.1.1,?_⟩;rw[arg_eq];have h1:=h.1.2;have h2:=h.2;rw[Bool.not_eq_true'] at h1 h2;rw[h1,h2];rfl
theorem acC{d d':Nat->CY}(h:∀j,j<n->d j=d' j)(i op k v:Int):YA n d i op k v=YA n d' i op k v:=by
 unfold YA;cases hi:JY n i with
 |false=>rfl |true=>
  have hi:0<=i/\i<n:=of_decide_eq_true hi;rw[h i.toNat (by omega)]
theorem ahS{d d':Nat->CY}(h:∀j,j<n->d j=d' j)(i op:Int):abP n d i op=abP n d' i op:=by
 unfold abP;cases hi:JY n i with
 |false=>rfl |true=>
  have hi:0<=i/\i<n:=of_decide_eq_true hi;rw[h i.toNat (by omega)]
theorem L9.next(h:L9 n g0 m g d){i op k v:Int}(hok:Uu n g i op k v=aC):
  ∃d',L9 n g0 (m+1) (abQ n g i op k v) d':=by
 unfold Uu at hok;rw[acC h.eqF] at hok;obtain ⟨hi,ha⟩:=ahR hok;have hi':0<=i/\i<n:=of_decide_eq_true hi;have hst:Et n g i.toNat=d i.toNat:=h.eqF _ (by omega);refine ⟨fun j=>if j=i.toNat then (ER (d i.toNat) op k v).1 else d j,fun j hj=>?_,fun j hj=>?_,fun j hj s hs=>?_,fun j hj=>?_⟩
 ·show (if JY n i=aC/\j=i.toNat then Dp (ER (Et n g i.toNat) op k v).1 else g j)=Dp (if j=i.toNat then (ER (d i.toNat) op k v).1 else d j)
  by_cases e:j=i.toNat
  ·rw[if_pos ⟨hi,e⟩,if_pos e,hst]
  ·rw[if_neg (fun q=>e q.2),if_neg e,h.row j hj]
 ·show JF (m+1) (if j=i.toNat then (ER (d i.toNat) op k v).1 else d j)
  split
  ·exact (amm (h.inv i.toNat (by omega)) ha).2
  ·exact (h.inv j hj).up (by omega)
 ·show (if j=i.toNat then (ER (d i.toNat) op k v).1 else d j).kind=s.kind
  have hk:=h.kind j hj s hs;split
  ·rename_i e
   have:(ER (d i.toNat) op k v).1.kind=(d i.toNat).kind:=by
    unfold ER;repeat' split
    all_goals rfl
   rw[this,<-e];exact hk
  ·exact hk
 ·show (if JY n i=aC/\j=i.toNat then _ else g j)=g0 j
  rw[if_neg (fun q=>by omega)];exact h.out j hj
theorem L9.fits(h:L9 n g0 m g d)(hm:m<=50000)(hn:n<=1000)(i op:Int):adZ n g i op=aC:=by
 unfold Go.Pl.adZ;rw[h.isB,ahS h.eqF,amn hm h.inv,ni (by omega) (by omega)];rfl
theorem L9.aqn(hn:n<=1000):∀(l:List Dd) {m:Nat} {g:SG} {d:Nat->CY},L9 n g0 m g d->m+l.length<=50000->UH n g l
 |[],_,_,_,_,_=>trivial |a::l,m,g,d,h,hm=>by
  unfold Go.Pl.UH;rw[iU] at hm;split
  ·exact L9.aqn hn l h (by omega)
  ·refine ⟨h.fits (by omega) hn _ _,fun q=>?_⟩
   obtain ⟨d',h'⟩:=h.next q;exact L9.aqn hn l h' (by omega)
theorem L9.play:∀(l:List Dd) {m i:Nat} {g g':SG} {d:Nat->CY},L9 n g0 m g d->Io n g i l=.inr g'->∃d',L9 n g0 (m+l.length) g' d'
 |[],m,i,g,g',d,h,hp=>by
  have hp:(Sum.inr g:(Nat×Nat) ⊕ SG)=.inr g':=hp;cases hp;exact ⟨d,h⟩
 |a::l,m,i,g,g',d,h,hp=>by
  unfold Io at hp;rw[iU];split at hp
  ·obtain ⟨d',h'⟩:=L9.play l h hp
   exact ⟨d',h'.up (by omega)⟩
  ·split at hp
   ·rename_i hok
    split at hp
    ·obtain ⟨d1,h1⟩:=h.next hok
     obtain ⟨d',h'⟩:=L9.play l h1 hp;exact ⟨d',h'.up (by omega)⟩
    ·cases hp
   ·cases hp
end
section
variable{lv:Int}{n:Nat}{og:Nat->List Sh}{B:TA}
structure TbP(n:Nat)(og:Nat->List Sh)(B:TA):Prop where
 few:B.n<=12
 ok:∀i,i<B.n->okB Dd (B.T i).k (B.T i).g=aC/\(B.T i).k<=400
 o:n<=8
 b:∀j,j<n->Fa (Am (α:=Oj) og j).kind (Am (α:=Oj) og j).init=ay
def QnP(lv:Int)(n:Nat)(og:Nat->List Sh)(B:TA)(nd:Nd SG):Prop:=nd.placed<2^(Gb (BD lv n og B)).n/\∃d,L9 n (FD og) (400*rk (Gb (BD lv n og B)) nd) nd.st d
theorem aqo{t:Ee}{n:Nat}{T:Nat->Ee}(h:t∈EO lv n T):∃i,i<n/\t=T i:=by
 unfold EO at h;obtain ⟨i,hi,rfl⟩:=dJ.1 (List.mem_filter.1 h).1;exact ⟨i,dh.1 hi,rfl⟩
theorem aqp(P:TbP n og B){i:Nat}(h:i<(BD lv n og B).N):okB Dd ((BD lv n og B).T i).k ((BD lv n og B).T i).g=aC/\((BD lv n og B).T i).k<=400:=by
 have h:i<(EO lv B.n B.T).length:=h;have hm:nth (EO lv B.n B.T) i∈EO lv B.n B.T:=by
  unfold nth;rw[aX,aS h];exact List.getElem_mem h
 obtain ⟨j,hj,e⟩:=aqo hm;show okB Dd (nth (EO lv B.n B.T) i).k (nth (EO lv B.n B.T) i).g=aC/\(nth (EO lv B.n B.T) i).k<=400;rw[e];exact P.ok j hj
theorem asQ(P:TbP n og B)(nd:Nd SG):rk (Gb (BD lv n og B)) nd<=12:=by
 have h1:=aoX (B:=BD lv n og B) nd;have h2:(BD lv n og B).N=(EO lv B.n B.T).length:=rfl;have h3:=akT lv B.n B.T;have:=P.few;omega
theorem JG(P:TbP n og B):LY (BD lv n og B) (QnP lv n og B):=by
 have hN:(BD lv n og B).N<=12:=by
  have h2:(BD lv n og B).N=(EO lv B.n B.T).length:=rfl;have h3:=akT lv B.n B.T;have:=P.few;omega
 refine ⟨⟨uQ (by simp),newT (Am og),fun j hj=>rfl,fun j hj=>?_,fun j hj s hs=>?_,fun j _=>rfl⟩,fun nd hq t ht=>?_,fun nd hq=>?_,fun nd hq=>?_⟩
 ·exact (aql (P.b j hj)).1.up (Nat.zero_le _)
 ·have hs:Dp (newT (Am og) j)=Dp s:=hs
  rw[Ue hs]
 ·obtain ⟨hlt,d,hd⟩:=hq
  have hlt':=lt_next hlt t ht;have hr:=abX (g:=Gb (BD lv n og B)) t ht;refine ⟨hlt',?_⟩;rw[hr];unfold next turns at ht;obtain ⟨x,hx,rfl⟩:=dJ.1 ht;obtain ⟨i,hi,hx⟩:=iV.1 hx;have hi:i<(BD lv n og B).N:=dh.1 hi;obtain ⟨t1,t2⟩:=aqp P hi;unfold Fg at hx;split at hx
  ·rcases bI.1 hx with hx|hx
   ·split at hx
    ·rename_i s e1 e2
     obtain rfl:x=_:=by simpa using hx
     have e2:(if plO n nd.st ((BD lv n og B).T i).k ((BD lv n og B).T i).g=aC then ak (Tq n nd.st ((BD lv n og B).T i).k ((BD lv n og B).T i).g) else aK)=ak s:=e2;split at e2
     ·rename_i hok
      cases e2;unfold plO abT at hok;cases hp:Io n nd.st 0 (lst Dd ((BD lv n og B).T i).k ((BD lv n og B).T i).g) with
      |inl q=>rw[hp] at hok;cases hok |inr g'=>
       obtain ⟨d',h'⟩:=L9.play _ hd hp;have e:Tq n nd.st ((BD lv n og B).T i).k ((BD lv n og B).T i).g=g':=by unfold Tq abU;rw[hp]
       refine ⟨d',?_⟩;show L9 n (FD og) _ (Tq n nd.st ((BD lv n og B).T i).k ((BD lv n og B).T i).g) d';rw[e];exact h'.up (by rw[FK];omega)
     ·cases e2
    ·cases hx
   ·split at hx
    ·obtain rfl:x=_:=by simpa using hx
     exact ⟨d,hd.up (by omega)⟩
    ·cases hx
  ·cases hx
 ·obtain ⟨hlt,d,hd⟩:=hq
  have h12:=asQ (lv:=lv) P nd;refine ⟨by omega,rfl,uS _,?_,fun i _=>uS _,fun i hi=>?_,fun i hi _=>?_⟩
  ·have h1:nd.placed<2^62:=Nat.lt_of_lt_of_le hlt (Nat.pow_le_pow_right (by decide) (by show (BD lv n og B).N<=62;omega))
   omega
  ·show (JE lv (nth (EO lv B.n B.T) i).bg 0 (EO lv B.n B.T) 0:Nat)<2^(EO lv B.n B.T).length
   exact ahv _ _ _ _ (uQ (by simp)) (by omega)
  ·obtain ⟨t1,t2⟩:=aqp P hi
   unfold plN;rw[t1,decide_eq_true (by omega:((BD lv n og B).T i).k<=100000)];have o8:=P.o;exact @decide_eq_true _ (bG _) (L9.aqn (n:=n) (by omega) _ hd (by rw[FK];omega))
 ·obtain ⟨hlt,d,hd⟩:=hq
  have h12:=asQ (lv:=lv) P nd;have o8:=P.o;have e1:stB n nd.st=aC:=hd.isB;have e2:keysB n (Et n nd.st)=aC:=by
   unfold keysB;rw[aI,dF];refine ⟨decide_eq_true (by omega),fun j hj=>?_⟩;rw[hd.eqF j (dh.1 hj)];exact aqk (by omega) (hd.inv j (dh.1 hj))
  show ((fC 4 4||fC n 0)&&(stB n nd.st&&keysB n (Et n nd.st)))=aC;rw[e1,e2];rfl
theorem ZJ{n:Nat}{d e:Nat->CY}(h:∀j,j<n->d j=e j):UM n d=UM n e:=by
 unfold UM;congr 1;exact jV fun j hj=>h j (dh.1 hj)
theorem KQ:∀x y,QnP lv n og B x->QnP lv n og B y->CS n x=CS n y->x=y:=fun x y ⟨_,d,hd⟩ ⟨_,e,he⟩ h=>by
 unfold CS at h;rw[Prod.mk.injEq] at h;obtain ⟨h1,h2⟩:=h;have h1:=lq h1;have h2:UM n (Et n x.st)=UM n (Et n y.st):=h2;rw[ZJ hd.eqF,ZJ he.eqF] at h2;have hk:∀j,j<n->(d j).kind=(e j).kind:=fun j hj=>by
  rw[hd.kind j hj (newT (Am og) j) rfl,he.kind j hj (newT (Am og) j) rfl]
 have h3:=ahQ hd.inv he.inv hk h2;obtain ⟨p,s⟩:=x;obtain ⟨p',s'⟩:=y;obtain rfl:p=p':=h1;have:s=s':=by
  funext j;by_cases hj:j<n
  ·have a:=hd.row j hj
   have b:=he.row j hj;rw[h3 j hj] at a;exact a.trans b.symm
  ·have a:=hd.out j (by omega)
   have b:=he.out j (by omega);exact a.trans b.symm
 rw[this]
end
end Go.Pl
