/- Own work. -/
import Derived.Test.YthehnhaoiijkhaaGreatDoorZ13
open Int (ofNat)
open And renaming intro->bW
open Array renaming getElem?_eq_getElem->fF,getD_eq_getD_getElem?->iL
open Bool renaming false->ak,true->aC,or_eq_true->nC,and_eq_true->aI
open Classical renaming propDecidable->bM,byContradiction->jV
open Go.IntKind renaming i64->aN
open Go.Lib renaming joinTail->kC,join_cons->lq
open Go.BF renaming zZ->dM,okB->oC
open Go.BF.Rc renaming step->vW
open Go.Proofs renaming akg->zT,W7->qZ,room_le->mV
open Go.Proofs.Tryz renaming prog->aB,f44->yE,f43->oO,f20->oP,f40->yU
open Go.Sx.Bj renaming val->kR,int->aj,sh->aQ,nat->aJ,get->aT,Lp->bC
open Go.Sx.D8 renaming at_->bJ,ret->aP
open Go.Sx.Fe3 renaming ret->uX,raw->yX
open Go.Sx.It renaming code->bD,inBlock->dD,reg->nR
open Go.Sx.Lay renaming blk->mW
open Go.Sx.SB renaming own->rU,fm->mX,box->jZ
open Go.Sx.SV renaming agg->jX,sh->dL,ptr->jY,EL->rV,DN->fV,any->bG,bool->qj,int->oN,Aw->kE,mp->pF
open Go.Sx.Sh renaming Ak->cZ,sl->aG,er->aZ,CS->pK,pt->sU,i->aW
open Go.Sx.Tree renaming need->aH,node->aF,leaf->aA,must->aS
open Go.Value renaming pointer->gG
open Int renaming ofNat->ah,not_lt->lU,natCast_nonneg->uF
open Int.ofNat renaming inj->kU
open List renaming getD_eq_getElem?_getD->aY,getElem?_eq_getElem->aV,mem_map->dK,all_eq_true->dO,mem_range->dP,range->aX,length_map->dW,pairwise_cons->sZ,takeWhile->jr,any_eq_true->pG,map_set->yF,pairwise_map->uy,mem_of_mem_drop->jq,drop_sublist->uz,mem_cons->gZ,mem_append->bK,mem_of_mem_take->mG,map_take->wZ,map_drop->xg,flatMap_map->oD,flatMap_def->lV,map_congr_left->jO,cons_append->uZ,range_succ->qh,map_append->iO,map_singleton->tq,not_mem_nil->vg,append_cancel_left->iV,append_nil->fA,reverse_inj->vk,mem_flatMap->kM,length_cons->iQ
open List.Sublist renaming append->vI,refl->vJ
open Nat renaming le_refl->dn,beq->fC,zero_add->gK,blt->gq,le_succ_of_le->uY,le_trans->iH,pos_of_ne_zero->uD
open Option renaming some->ay,none->aK
open Option.some renaming inj->dh
open UInt8 renaming ofNat->ku
namespace Go.BF
open Go Go.Sx
theorem ahv{many:Nat}{e:Ev}{r r':Rc}(h:vW many e r=.inr r')(_hd:r.stand=2->r.Ac≠[]):(r'.stand=2->r'.Ac≠[])/\r'.Ac.length<=r.Ac.length+1:=by
 unfold vW at h;have hup:∀(f:De->De) (l:List De),(FT f l).length=l.length:=fun f l=>by
  induction l with
  |nil=>rfl |cons x l ih=>cases l with
   |nil=>rfl |cons y l=>simpa[FT] using ih
 by_cases k2:e.kind=2
 ·simp only[k2,beq_self_eq_true,cond_true] at h
  cases hs:r.stand==1<;>simp only[hs,cond_true,cond_false] at h
  ·cases h
  ·cases h
   exact ⟨fun _=>by simp,by simp⟩
 have b2:(e.kind==2)=ak:=by simpa using k2
 rw[b2] at h;simp only[cond_false] at h;by_cases k3:e.kind=3
 ·simp only[k3,beq_self_eq_true,cond_true] at h
  cases hs:r.stand==2<;>simp only[hs,cond_true,cond_false] at h
  ·cases h
  ·cases hf:OE (r.Ac.getLast?.getD Row.Jm).op e.ret<;>simp only[hf,cond_true,cond_false] at h
   ·cases h
   ·cases h
    exact ⟨fun q=>by simp at q,by simp[hup]⟩
 have b3:(e.kind==3)=ak:=by simpa using k3
 rw[b3] at h;simp only[cond_false] at h;by_cases k4:e.kind=4
 ·simp only[k4,beq_self_eq_true,cond_true] at h
  cases hs:r.stand==1<;>simp only[hs,cond_true,cond_false] at h
  ·cases h
  ·cases h
   exact ⟨fun q=>by simp at q,by simp⟩
 have b4:(e.kind==4)=ak:=by simpa using k4
 rw[b4] at h;simp only[cond_false] at h;by_cases k7:e.kind=7
 ·simp only[k7,beq_self_eq_true,cond_true] at h
  cases hs:r.stand==1<;>simp only[hs,cond_true,cond_false] at h
  ·cases h
  ·cases h
   exact ⟨fun q=>by simp at q,by simp⟩
 have b7:(e.kind==7)=ak:=by simpa using k7
 rw[b7] at h;simp only[cond_false] at h;by_cases k5:e.kind=5
 ·simp only[k5,beq_self_eq_true,cond_true] at h
  cases hs:r.stand==3<;>simp only[hs,cond_true,cond_false] at h
  ·cases h
  ·cases h
   exact ⟨fun q=>by simp at q,by simp⟩
 have b5:(e.kind==5)=ak:=by simpa using k5
 rw[b5] at h;simp only[cond_false] at h;cases hs:(r.stand==1||r.stand==2||r.stand==3||r.stand==4)<;>simp only[hs,cond_true,cond_false] at h
 ·cases h
 ·cases h
  exact ⟨fun q=>by simp at q,by simp⟩
theorem Au.OK.feed{σ:Au}(hI:σ.OK){e:Ev}(hv:BP e=aC):(σ.feed e).2.OK:=by
 have hkd:=Zj hv;unfold Au.feed;cases hby:σ.JR e.tx with
 |some i=>
  obtain ⟨r,hi,hp⟩:=SI hby
  have hr:σ.rs.getD i ⟨0,0,0,0,0,0,[],0⟩=r:=by rw[aY,hi];rfl
  have hlt:=(List.getElem?_eq_some_iff.1 hi).1;by_cases k1:e.kind=1
  ·simp only[k1,beq_self_eq_true,cond_true]
   exact hI
  have b1:(e.kind==1)=ak:=by simpa using k1
  simp only[b1,cond_false,hr];cases h:vW σ.many e r with
  |inl k=>exact hI |inr r'=>
   show Au.OK ⟨σ.many+1,σ.rs.set i r'⟩;obtain ⟨l1,l2,l3⟩:=Vd h (by omega) (hI.stands i r hi);obtain ⟨d1,d2⟩:=ahv h (hI.deed i r hi);have hk:=(QD h).2;have at_:∀{j:Nat} {s:Rc},(σ.rs.set i r')[j]?=ay s->(j=i/\s=r')\/(j≠i/\σ.rs[j]?=ay s):=fun {j s} hj=>by
    rw[List.getElem?_set] at hj;by_cases q:i=j
    ·subst q
     rw[if_pos rfl,if_pos hlt] at hj;cases hj;exact .inl ⟨rfl,rfl⟩
    ·rw[if_neg q] at hj
     exact .inr ⟨fun q'=>q q'.symm,hj⟩
   refine ⟨fun a b x y ha hb ht hx hy=>?_,fun a x ha=>?_,fun a x ha=>?_,by simp;have:=hI.len;omega,fun a x ha=>?_⟩
   ·rcases at_ ha with ⟨rfl,rfl⟩ |⟨n1,ha'⟩
    ·rcases at_ hb with ⟨rfl,rfl⟩ |⟨n2,hb'⟩
     ·rfl
     ·exact hI.one _ _ r y hi hb' (by rw[<-hk];exact ht) l1 hy
    ·rcases at_ hb with ⟨rfl,rfl⟩ |⟨n2,hb'⟩
     ·exact hI.one _ _ x r ha' hi (by rw[<-hk];exact ht) hx l1
     ·exact hI.one _ _ x y ha' hb' ht hx hy
   ·rcases at_ ha with ⟨rfl,rfl⟩ |⟨n1,ha'⟩
    ·exact d1
    ·exact hI.deed _ _ ha'
   ·rcases at_ ha with ⟨rfl,rfl⟩ |⟨n1,ha'⟩
    ·exact l2
    ·exact hI.stands _ _ ha'
   ·rcases at_ ha with ⟨rfl,rfl⟩ |⟨n1,ha'⟩
    ·have:=hI.dl _ _ hi
     show _<=σ.many+1;omega
    ·have:=hI.dl _ _ ha'
     show _<=σ.many+1;omega
 |none=>
  by_cases k1:e.kind=1
  ·simp only[k1,beq_self_eq_true,cond_true]
   cases hbu:σ.KR e.thread with
   |some j=>exact hI |none=>
    show Au.OK ⟨σ.many+1,σ.rs++[⟨e.tx,e.thread,1,σ.many,-1,-1,[],1⟩]⟩;have hno:∀(j:Nat) (s:Rc),σ.rs[j]?=ay s->s.th=e.thread->s.live=aC->False:=fun j s hj ht hl=>by
     have:=List.findIdx?_eq_none_iff.1 hbu s (List.mem_of_getElem? hj);simp[ht,hl] at this
    have at_:∀{j:Nat} {s x:Rc},(σ.rs++[x])[j]?=ay s->(j=σ.rs.length/\s=x)\/(j<σ.rs.length/\σ.rs[j]?=ay s):=fun {j s x} hj=>by
     by_cases q:j<σ.rs.length
     ·rw[List.getElem?_append_left q] at hj
      exact .inr ⟨q,hj⟩
     ·rw[List.getElem?_append_right (by omega)] at hj
      have:j=σ.rs.length:=by
       cases hz:j - σ.rs.length with
       |zero=>omega |succ z=>rw[hz] at hj;simp at hj
      subst this;simp at hj;exact .inl ⟨rfl,hj.symm⟩
    refine ⟨fun a b x y ha hb ht hx hy=>?_,fun a x ha=>?_,fun a x ha=>?_,by simp;have:=hI.len;omega,fun a x ha=>?_⟩
    ·rcases at_ ha with ⟨rfl,rfl⟩ |⟨n1,ha'⟩
     ·rcases at_ hb with ⟨rfl,rfl⟩ |⟨n2,hb'⟩
      ·rfl
      ·exact (hno _ _ hb' ht.symm hy).elim
     ·rcases at_ hb with ⟨rfl,rfl⟩ |⟨n2,hb'⟩
      ·exact (hno _ _ ha' ht hx).elim
      ·exact hI.one _ _ x y ha' hb' ht hx hy
    ·rcases at_ ha with ⟨rfl,rfl⟩ |⟨n1,ha'⟩
     ·intro q;simp at q
     ·exact hI.deed _ _ ha'
    ·rcases at_ ha with ⟨rfl,rfl⟩ |⟨n1,ha'⟩
     ·show 1<=(1:Int)/\(1:Int)<=5
      omega
     ·exact hI.stands _ _ ha'
    ·rcases at_ ha with ⟨rfl,rfl⟩ |⟨n1,ha'⟩
     ·simp
     ·have:=hI.dl _ _ ha'
      show _<=σ.many+1;omega
  ·have b1:(e.kind==1)=ak:=by simpa using k1
   simp only[b1,cond_false];exact hI
def Au.nil:Au:=⟨0,[]⟩
theorem Au.OK.nil:Au.nil.OK:=⟨fun i j r s h=>by simp[Au.nil] at h,fun i r h=>by simp[Au.nil] at h,fun i r h=>by simp[Au.nil] at h,dn _,fun i r h=>by simp[Au.nil] at h⟩
theorem Vf{σ:Au}{e:Ev}(h:(σ.feed e).1=aK):(σ.feed e).2.many=σ.many+1:=by
 unfold Au.feed at h ⊢;cases h1:σ.JR e.tx with
 |some i=>
  simp only[h1] at h ⊢;cases hb:e.kind==1<;>simp only[hb,cond_true,cond_false] at h ⊢
  ·cases h2:vW σ.many e (σ.rs.getD i ⟨0,0,0,0,0,0,[],0⟩) with
   |inl k=>rw[h2] at h;cases h |inr r=>rfl
  ·cases h
 |none=>
  simp only[h1] at h ⊢;cases hb:e.kind==1<;>simp only[hb,cond_true,cond_false] at h ⊢
  ·cases h
  ·cases h2:σ.KR e.thread with
   |some j=>simp only[h2] at h;cases h |none=>rfl
end Go.BF
namespace Go.Ae
open Go Go.Sx Go.BF
theorem apS{H H':Mem}{n:Nat}{o:Nat->Oj}{xs:List Value}(h:BO H 2 n (zX o) xs):BO H' 2 n (zX o) xs:=
 ⟨h.1,h.2.1,h.2.2.1,fun i j s v hi h1 h2=>by
  have:=h.2.2.2 i j s v hi h1 h2;have hs:∃k,s=.i .i64 k:=by
   match j,h1 with
   |0,h1=>exact ⟨_,(dh h1).symm⟩ |1,h1=>exact ⟨_,(dh h1).symm⟩ |j+2,h1=>simp[zX,Row.put,obR] at h1
  obtain ⟨k,rfl⟩:=hs;cases this;exact .i _ _⟩
def Ku(n:Nat)(o:Nat->Oj)(σ:Au)(p:Nat):Hp->Prop:=fun h=>
 ∃L:Lay,L.p=p/\(∀b,h b≠aK↔QN L σ.rs.length b)/\∀(H:Mem) (w:World),h.at H w->Di H w n (zX o) σ L
theorem Di.hide{H:Mem}{w:World}{n:Nat}{o:Nat->Oj}{σ:Au}{L:Lay}(hA:Di H w n (zX o) σ L):∃h:Hp,Ku n o σ L.p h/\h.at H w/\∀b,h b≠aK↔QN L σ.rs.length b:=by
 classical
 have hlt:∀{b},QN L σ.rs.length b->∃o,w.heap[b]?=ay o:=fun {b} ⟨t,ht⟩=>⟨_,fF (hA.lt ht)⟩;have hne:∀b,(if QN L σ.rs.length b then w.heap[b]? else aK)≠aK↔QN L σ.rs.length b:=fun b=>by
  by_cases q:QN L σ.rs.length b
  ·obtain ⟨o,ho⟩:=hlt q
   simp[q,ho]
  ·simp[q]
 refine ⟨fun b=>if QN L σ.rs.length b then w.heap[b]? else aK,⟨L,rfl,hne,fun H' w' hat=>?_⟩,fun b o e=>?_,hne⟩
 ·have at_:∀t b,L.blk σ.rs.length t=ay b->w'.heap[b]?=w.heap[b]?/\H' b=aK:=fun t b hb=>by
   obtain ⟨o,ho⟩:=hlt ⟨t,hb⟩;have:=hat b o ((if_pos (⟨t,hb⟩:QN L σ.rs.length b)).trans ho);exact ⟨this.1.trans ho.symm,this.2⟩
  have h0:Di (fun _=>aK) w n (zX o) σ L:=⟨hA.au,let ⟨xs,h1,h2⟩:=hA.ob;⟨xs,h1,apS h2⟩,hA.tx,hA.KT,hA.bu,hA.rc,hA.de,hA.FU,fun _ _ _=>rfl⟩;exact h0.keep (fun _ _ e=>by cases e) (fun t b hb=>(at_ t b hb).1) fun t b hb=>(at_ t b hb).2
 ·by_cases q:QN L σ.rs.length b
  ·simp only[if_pos q] at e
   exact ⟨e,let ⟨t,ht⟩:=q;hA.un t b ht⟩
  ·simp only[if_neg q] at e;cases e
theorem auK{n:Nat}{o:Nat->Oj}{σ:Au}{p:Nat}{e:Ev}{es:SV}(hes:∀H E v,Den H E es v->v=Yp e)(hI:σ.OK)(hm:σ.many<400)(hv:BP e=aC)(hob:e.kind=2->0<=e.obj/\e.obj<n/\Dz e.op=(o e.obj.toNat).kind):
  aj8 aB (Fv W5) 79 [.val (Dq p),es] (Ku n o σ p) (svE (σ.feed e).1) (Ku n o (σ.feed e).2 p):=by
 intro H E w vs h hd hon hg ⟨L,hp,hblk,hA⟩ hat;match vs,hd with
 |[v1,v2],⟨d1,d2,_⟩=>
  obtain ⟨rfl,_⟩:=d1;obtain rfl:=hes _ _ _ d2;subst hp;refine Calls.mono (apR (hA H w hat) hI hon hg hm hv hob) fun en w' ⟨v,H',L',h1,h2,h3,h4,h5,h6,h7⟩=>?_;obtain ⟨h',r1,r2,r3⟩:=Di.hide h3;refine ⟨v,H',h',h1,?_,by rw[<-h4];exact r1,r2,h6,TJ h7 fun b hb=>(hblk b).2 hb,fun b hb=>?_⟩
  ·cases hx:(σ.feed e).1 with
   |none=>rw[hx] at h2;exact h2 |some k=>rw[hx] at h2;exact h2
  ·obtain ⟨t,ht⟩:=(r3 b).1 hb
   rcases h5 t b ht with q|q
   ·exact .inl q
   ·exact .inr ((hblk b).2 q)
section
variable{H:Mem}{E:Env}{w:World}{K:Kx}{n:Nat}{o:Nat->Oj}{h:Hp}
theorem adV{b b1 b2:Nat}{v0:Value}(au:w.heap[b]?=ay (.cells #[v0,.int .i64 0,.slice aK 0 0,.map (ay b1),.map (ay b2)] 181 (0,0)))
  (ob:∃xs,w.ownsRow 0 140 2 v0 n xs/\BO H 2 n (zX o) xs) (m1:∃ms clk,w.heap[b1]?=ay (.map ms clk)/\E5 .i64 ms.toList clk fun _=>aK) (m2:∃ms clk,w.heap[b2]?=ay (.map ms clk)/\E5 .i64 ms.toList clk fun _=>aK)
  (FU:b≠b1/\b≠b2/\b1≠b2/\∀x,Ai v0=ay x->x≠b/\x≠b1/\x≠b2) (un:H b=aK/\H b1=aK/\H b2=aK/\∀x,Ai v0=ay x->H x=aK) :
  Di H w n (zX o) Au.nil ⟨b,v0,.slice aK 0 0,b1,b2,fun _=>0,fun _=>.slice aK 0 0⟩:=by
 obtain ⟨d1,d2,d3,d4⟩:=FU;refine ⟨au,ob,⟨rfl,.inl ⟨rfl,rfl⟩⟩,m1,m2,fun i r hi=>by simp[Au.nil] at hi,fun i r hi=>by simp[Au.nil] at hi,fun s t x hs ht=>?_,fun t x ht=>?_⟩
 ·cases s<;>cases t<;>simp[mW,Au.nil,Ai] at hs ht<;>first|rfl|(exfalso;subst_vars;first|exact d1 rfl|exact d2 rfl|exact d3 rfl|exact d1 ht.symm|exact (d4 _ hs).1 rfl|exact (d4 _ hs).2.1 rfl|exact (d4 _ hs).2.2 rfl|exact (d4 _ ht).1 rfl|exact (d4 _ ht).2.1 rfl|exact (d4 _ ht).2.2 rfl|skip) |skip
  all_goals (first|exact d1 (hs.trans ht.symm) |exact d1 (hs ▸ ht ▸ rfl) |omega)
 ·cases t<;>simp[mW,Au.nil,Ai] at ht<;>first|(subst ht;first|exact un.1|exact un.2.1|exact un.2.2.1) |exact un.2.2.2 _ ht
theorem abZ{hp:List (Nat×SB)}{σ:Au}{L:Lay}(hh:Wv E w hp h)(hA:Di H w n (zX o) σ L)(hb:∀x,(∃id sb,zY hp id=ay sb/\AL E id sb=ay x)↔QN L σ.rs.length x):Ku n o σ L.p h:=by
 obtain ⟨h0,r1,r2,r3⟩:=Di.hide hA;have:h0=h:=by
  funext x;have e1:=r3 x;have e2:=(hh.2 x).symm.trans (hb x);cases q:h x with
  |none=>
   cases q':h0 x with
   |none=>rfl |some o'=>exact ((e2.2 (e1.1 (by simp[q']))) q).elim
  |some o'=>
   cases q':h0 x with
   |none=>exact ((e1.2 (e2.1 (by simp[q]))) q').elim |some o''=>
    have a1:=hh.1 x _ q;have a2:=(r2 x _ q').1;rw[a1] at a2;exact a2.symm
 rw[<-this];exact r1
theorem ZX{id:Nat}(hh:Gi K H E w id (.fm .i64 (fun _=>aK) [] [] aK)):∃b ms clk,E id=ay (.map (ay b))/\w.heap[b]?=ay (.map ms clk)/\E5 .i64 ms.toList clk fun _=>aK:=by
 obtain ⟨b,ms,clk,fv,uv,s1,s2,s3,s4,s5,s6,_,s7⟩:=hh;obtain rfl:=Pn s4;exact ⟨b,ms,clk,s1,s2,s6⟩
theorem apT{o':Nat->List Sh}(ho:∀i,i<n->o' i=zX o i){n':Nat}(hn:n'=n){hp:List (Nat×SB)}(hpe:hp=[(3,.own 140 2 n' o'),(4,.fm .i64 (fun _=>aK) [] [] aK),(5,.fm .i64 (fun _=>aK) [] [] aK),(6,.box [.gs 3,.int .i64 0,.Aw,.mp 4,.mp 5] 181)])
  (hh:Aj K H E w hp) (hd:Wv E w hp h):∃b,E 6=ay (.pointer (ay ⟨b,0,aK⟩))/\Ku n o Au.nil b h:=by
 subst hn hpe;obtain ⟨v,xs,x1,x2,x3,x4⟩:=hh.ent 3 _ rfl;obtain ⟨b1,ms1,Xb,y1,y2,y3⟩:=ZX (hh.ent 4 _ rfl);obtain ⟨b2,ms2,Xc,z1,z2,z3⟩:=ZX (hh.ent 5 _ rfl);obtain ⟨b,⟨cs⟩,p1,p2,p3,p4⟩:=hh.ent 6 _ rfl;match cs,p3 with
 |[u0,u1,u2,u3,u4],⟨d0,d1,d2,d3,d4,_⟩=>
  have d1:u1=.int .i64 0:=d1;have d2:u2=.slice aK 0 0:=d2;obtain ⟨d0,_⟩:E 3=ay u0/\_:=d0;obtain ⟨c1,d3,d3'⟩:=d3;obtain ⟨c2,d4,d4'⟩:=d4;rw[x1] at d0;cases d0;rw[y1] at d3;cases d3;rw[z1] at d4;cases d4;subst d1 d2 d3' d4';have k3:AL E 3 (.own 140 2 n' o')=Ai v:=by simp[AL,x1]
  have k4:AL E 4 (.fm .i64 (fun _=>aK) [] [] aK)=ay b1:=by simp[AL,y1,Ai]
  have k5:AL E 5 (.fm .i64 (fun _=>aK) [] [] aK)=ay b2:=by simp[AL,z1,Ai]
  have k6:AL E 6 (.box [.gs 3,.int .i64 0,.Aw,.mp 4,.mp 5] 181)=ay b:=by simp[AL,p1,Ai]
  have dd:∀{i j:Nat} {s t:SB} {x:Nat},zY [(3,rU 140 2 n' o'),(4,.fm .i64 (fun _=>aK) [] [] aK),(5,.fm .i64 (fun _=>aK) [] [] aK),(6,.box [.gs 3,.int .i64 0,.Aw,.mp 4,.mp 5] 181)] i=ay s->zY [(3,rU 140 2 n' o'),(4,.fm .i64 (fun _=>aK) [] [] aK),(5,.fm .i64 (fun _=>aK) [] [] aK),(6,.box [.gs 3,.int .i64 0,.Aw,.mp 4,.mp 5] 181)] j=ay t->AL E i s=ay x->AL E j t=ay x->i=j:=fun h1 h2 h3 h4=>hh.FU _ _ _ _ _ h1 h2 h3 h4
  have mi:∀{i:Nat} {s:SB} {x:Nat},zY [(3,rU 140 2 n' o'),(4,.fm .i64 (fun _=>aK) [] [] aK),(5,.fm .i64 (fun _=>aK) [] [] aK),(6,.box [.gs 3,.int .i64 0,.Aw,.mp 4,.mp 5] 181)] i=ay s->AL E i s=ay x->H x=aK:=fun h1 h2=>((hh.ent _ _ h1).lt h2).2.1;have hA:=adV (H:=H) (n:=n') (o:=o) p2 ⟨xs,x2,Rt x3 ho⟩ ⟨ms1,Xb,y2,y3⟩ ⟨ms2,Xc,z2,z3⟩
   ⟨fun q=>(by subst q;cases dd (i:=6) (j:=4) rfl rfl k6 k4),fun q=>(by subst q;cases dd (i:=6) (j:=5) rfl rfl k6 k5),fun q=>(by subst q;cases dd (i:=4) (j:=5) rfl rfl k4 k5),
    fun x hx=>⟨fun q=>(by subst q;cases dd (i:=3) (j:=6) rfl rfl (k3.trans hx) k6),fun q=>(by subst q;cases dd (i:=3) (j:=4) rfl rfl (k3.trans hx) k4),fun q=>(by subst q;cases dd (i:=3) (j:=5) rfl rfl (k3.trans hx) k5)⟩⟩
   ⟨mi (i:=6) rfl k6,mi (i:=4) rfl k4,mi (i:=5) rfl k5,fun x hx=>mi (i:=3) rfl (k3.trans hx)⟩
  refine ⟨b,p1,abZ hd hA fun x=>⟨fun ⟨id,sb,h1,h2⟩=>?_,fun ⟨t,ht⟩=>?_⟩⟩
  ·simp only[zY] at h1
   cases q3:(3:Nat)==id<;>simp only[q3,cond_true,cond_false] at h1
   ·cases q4:(4:Nat)==id<;>simp only[q4,cond_true,cond_false] at h1
    ·cases q5:(5:Nat)==id<;>simp only[q5,cond_true,cond_false] at h1
     ·cases q6:(6:Nat)==id<;>simp only[q6,cond_true,cond_false] at h1
      ·cases h1
      ·cases h1;obtain rfl:6=id:=by simpa using q6
       rw[k6] at h2;exact ⟨.au,h2⟩
     ·cases h1;obtain rfl:5=id:=by simpa using q5
      rw[k5] at h2;exact ⟨.bu,h2⟩
    ·cases h1;obtain rfl:4=id:=by simpa using q4
     rw[k4] at h2;exact ⟨.KT,h2⟩
   ·cases h1;obtain rfl:3=id:=by simpa using q3
    rw[k3] at h2;exact ⟨.ob,h2⟩
  ·cases t with
   |au=>exact ⟨6,_,rfl,k6.trans ht⟩ |tx=>cases ht |KT=>exact ⟨4,_,rfl,k4.trans ht⟩ |bu=>exact ⟨5,_,rfl,k5.trans ht⟩ |ob=>exact ⟨3,_,rfl,k3.trans ht⟩ |rc i=>simp[mW,Au.nil] at ht |de i=>simp[mW,Au.nil] at ht
theorem apU(hn:n=0){hp:List (Nat×SB)}(hpe:hp=[(2,.fm .i64 (fun _=>aK) [] [] aK),(3,.fm .i64 (fun _=>aK) [] [] aK),(4,.box [.Aw,.int .i64 0,.Aw,.mp 2,.mp 3] 181)])
  (hh:Aj K H E w hp) (hd:Wv E w hp h):∃b,E 4=ay (.pointer (ay ⟨b,0,aK⟩))/\Ku n o Au.nil b h:=by
 subst hn hpe;obtain ⟨b1,ms1,Xb,y1,y2,y3⟩:=ZX (hh.ent 2 _ rfl);obtain ⟨b2,ms2,Xc,z1,z2,z3⟩:=ZX (hh.ent 3 _ rfl);obtain ⟨b,⟨cs⟩,p1,p2,p3,p4⟩:=hh.ent 4 _ rfl;match cs,p3 with
 |[u0,u1,u2,u3,u4],⟨d0,d1,d2,d3,d4,_⟩=>
  have d1:u1=.int .i64 0:=d1;have d2:u2=.slice aK 0 0:=d2;have d0:u0=.slice aK 0 0:=d0;obtain ⟨c1,d3,d3'⟩:=d3;obtain ⟨c2,d4,d4'⟩:=d4;rw[y1] at d3;cases d3;rw[z1] at d4;cases d4;subst d0 d1 d2 d3' d4';have k4:AL E 2 (.fm .i64 (fun _=>aK) [] [] aK)=ay b1:=by simp[AL,y1,Ai]
  have k5:AL E 3 (.fm .i64 (fun _=>aK) [] [] aK)=ay b2:=by simp[AL,z1,Ai]
  have k6:AL E 4 (.box [.Aw,.int .i64 0,.Aw,.mp 2,.mp 3] 181)=ay b:=by simp[AL,p1,Ai]
  have dd:∀{i j:Nat} {s t:SB} {x:Nat},zY [(2,mX .i64 (fun _=>aK) [] [] aK),(3,.fm .i64 (fun _=>aK) [] [] aK),(4,.box [.Aw,.int .i64 0,.Aw,.mp 2,.mp 3] 181)] i=ay s->zY [(2,mX .i64 (fun _=>aK) [] [] aK),(3,.fm .i64 (fun _=>aK) [] [] aK),(4,.box [.Aw,.int .i64 0,.Aw,.mp 2,.mp 3] 181)] j=ay t->AL E i s=ay x->AL E j t=ay x->i=j:=fun h1 h2 h3 h4=>hh.FU _ _ _ _ _ h1 h2 h3 h4
  have mi:∀{i:Nat} {s:SB} {x:Nat},zY [(2,mX .i64 (fun _=>aK) [] [] aK),(3,.fm .i64 (fun _=>aK) [] [] aK),(4,.box [.Aw,.int .i64 0,.Aw,.mp 2,.mp 3] 181)] i=ay s->AL E i s=ay x->H x=aK:=fun h1 h2=>((hh.ent _ _ h1).lt h2).2.1;have hA:=adV (H:=H) (n:=0) (o:=o) p2 ⟨[],⟨rfl,.inl ⟨rfl,rfl⟩⟩,JY 2 _⟩ ⟨ms1,Xb,y2,y3⟩ ⟨ms2,Xc,z2,z3⟩
   ⟨fun q=>(by subst q;cases dd (i:=4) (j:=2) rfl rfl k6 k4),fun q=>(by subst q;cases dd (i:=4) (j:=3) rfl rfl k6 k5),fun q=>(by subst q;cases dd (i:=2) (j:=3) rfl rfl k4 k5),fun x hx=>by cases hx⟩
   ⟨mi (i:=4) rfl k6,mi (i:=2) rfl k4,mi (i:=3) rfl k5,fun x hx=>by cases hx⟩
  refine ⟨b,p1,abZ hd hA fun x=>⟨fun ⟨id,sb,h1,h2⟩=>?_,fun ⟨t,ht⟩=>?_⟩⟩
  ·simp only[zY] at h1
   cases q4:(2:Nat)==id<;>simp only[q4,cond_true,cond_false] at h1
   ·cases q5:(3:Nat)==id<;>simp only[q5,cond_true,cond_false] at h1
    ·cases q6:(4:Nat)==id<;>simp only[q6,cond_true,cond_false] at h1
     ·cases h1
     ·cases h1;obtain rfl:4=id:=by simpa using q6
      rw[k6] at h2;exact ⟨.au,h2⟩
    ·cases h1;obtain rfl:3=id:=by simpa using q5
     rw[k5] at h2;exact ⟨.bu,h2⟩
   ·cases h1;obtain rfl:2=id:=by simpa using q4
    rw[k4] at h2;exact ⟨.KT,h2⟩
  ·cases t with
   |au=>exact ⟨4,_,rfl,k6.trans ht⟩ |tx=>cases ht |KT=>exact ⟨2,_,rfl,k4.trans ht⟩ |bu=>exact ⟨3,_,rfl,k5.trans ht⟩ |ob=>cases ht |rc i=>simp[mW,Au.nil] at ht |de i=>simp[mW,Au.nil] at ht
end
open Go Go.Sx Go.BF
def ab1:Nat->Option (List Sh->Tree Sh)
 |77=>ay apu |_=>aK
noncomputable def CT(A:Prim)(W:Wd):Ctx:={C5 A W ab1 Ap with amj:=fun t=>bif fC t 179 then ay (.i64,[]) else aK}
def akH(g:Nat):Bool:=fC g 79
def Xd:List It:=[bD [0,1,0,1,1,1,1],dD 0,bD [1,1,1,1,1]]
def asi:List It:=bD [0,0,1,0,1,1,1,1]::Xd
def Yq(g:Nat):Bool:=fC g 79||fC g 44
def LT(m:Nat)(p:Nat->Ev)(b:Nat)(c i:Int):Core:=
 {tm:=[.any,.any,.EL,.DN,.any,.val (.pointer (ay ⟨b,0,aK⟩))]++rep [.any] 19++[.sh (.sl 8 m (zX p)),.sym .i64 c,.sym .i64 i]++rep [.any] 16,hp:=[],nx:=0,lim:=L0,tc:=[]}
def QO:List Fr:=[{g:=20,td:=[nR [0,1] [1,2,3,4,5,6],bD [1,1]],tm:=[.any,.any,.Aw,.DN]++rep [.any] 12}]
def tdP:List It:=[nR [0,1,0,0,1,1,0,0,1,0,1,1,1,1] [2,3],bD [1,1,0,0,1,1,0,0,1,0,1,1,1,1],dD 1,bD [1,1,1,0,0,1,0,1,1,1,1]]++Xd
def tdQ:List It:=[nR [0,1,0,0,1,1,0,0,1,0,1,1,1,1] [3],bD [1,1,0,0,1,1,0,0,1,0,1,1,1,1],dD 1,bD [1,1,1,0,0,1,0,1,1,1,1]]++Xd
def LP(m:Nat)(p:Nat->Ev)(b:Nat)(c i:Int)(e:Ev)(x:SV):Core:=
 {tm:=[.any,.any,.EL,.DN,.any,.val (.pointer (ay ⟨b,0,aK⟩)),.any,.sym .i64 i]++rep [.any] 17++[.sh (.sl 8 m (zX p)),.sym .i64 c,.sym .i64 i]++rep [.any] 4 ++
   [.val (.pointer (ay ⟨b,0,aK⟩)),.agg [.sym .i64 e.kind,.sym .i64 e.tx,.sym .i64 e.thread,.sym .i64 e.obj,.sym .i64 e.op,.sym .i64 e.key,.sym .i64 e.val,.sym .i64 e.ret],x]++rep [.any] 9,hp:=[],nx:=0,lim:=L0,tc:=[]}
def adW:List It:=[nR [0,1,1,1] [1,2,3],bD [1,1,1,1]]
def LX(x:SV):Core:={tm:=[.any,.any,.Aw,.DN]++rep [.any] 10++[x,.any],hp:=[],nx:=0,lim:=L0,tc:=[]}
def rcR(N:Rc->Nat)(D:Rc->Nat->List Sh)(r:Rc):List Sh:=[.i .i64 r.id,.i .i64 r.th,.i .i64 r.st,.i .i64 r.bg,.i .i64 r.en,.i .i64 r.tr,.sl 8 (N r) (D r),.i .i64 r.stand]
def ZB(N:Rc->Nat)(D:Rc->Nat->List Sh)(rs:Nat->Rc):Nat->List Sh:=fun j=>[.pt (rcR N D (rs j))]
def auX(N:Rc->Nat)(D:Rc->Nat->List Sh)(v0:Value)(many:Int)(k:Nat)(rs:Nat->Rc)(b1 b2:Nat):SV:=.Gq 5 1 (fun _=>[.v v0,.i .i64 many,.sl 1 k (ZB N D rs),.v (.map (ay b1)),.v (.map (ay b2))]) 0 0
def txR(N:Rc->Nat)(D:Rc->Nat->List Sh)(r:Rc):List Sh:=[.i .i64 r.id,.i .i64 r.th,.i .i64 r.st,.i .i64 r.bg,.i .i64 r.en,.i .i64 r.tr,.sl 8 (N r) (D r)]
def Vg(N:Rc->Nat)(D:Rc->Nat->List Sh)(rs:Nat->Rc):Nat->List Sh:=fun j=>txR N D (rs j)
def tdT:List It:=[bD [0,1,0,1,1],dD 0,bD [1,1,1]]
def tbT:List It:=bD [0,0,1,0,1,1]::tdT
def adX(N:Rc->Nat)(D:Rc->Nat->List Sh)(k:Nat)(rs:Nat->Rc)(c i:Int)(j:Nat)(gg:Nat->List Sh):Core:=
 {tm:=[.any,.any,.any,.gs 0]++rep [.any] 12++[.sh (.sl 1 k (ZB N D rs)),.sym .i64 c,.sym .i64 i]++rep [.any] 21,hp:=[(0,.own 115 7 j gg)],nx:=1,lim:=L0,tc:=[]}
def frX:List Fr:=[{g:=20,td:=adW,tm:=[.any,.any,.Aw,.DN]++rep [.any] 12}]
theorem a32(A:Prim)(W:Wd)(n m:Nat)(o:Nat->Oj)(p:Nat->Ev):arX (CT A W) akH 300 400 20 [.code []] (Aa 16 [.agg [.sl 2 n (zX o),.sl 8 m (zX p)]] L0) []=aH (okB Oj n (zX o)) (aH (okB Ev m (zX p)) (aH (QB m (zX p)) (aF (Iu n m) (aA (uX (cZ [aG 0 0 fun (x:Nat)=>[],aZ 6 329]))) (aF (F8 n m (zX o) (zX p)) (aH (okB Oj n (zX o)) (aH (okB Ev 0 fun (x:Nat)=>[]) (aH (QB 0 fun (x:Nat)=>[]) (aF (Iu n 0) (aA (uX (cZ [aG 0 0 fun (x:Nat)=>[],aZ 6 329]))) (aF (F8 n 0 (zX o) fun (x:Nat)=>[]) (aF (A.Z7 n 0) ((aA (yX 43 [bD [0,1,0,1,1,1,1],dD 0,bD [1,1,1,1,1]] {tm:=[jX [dL (aG 2 n (zX o)),dL (aG 8 m (zX p))],jY 1 0,rV,fV,fV,jY 4 0,fV,bG,bG,bG,bG,bG,bG,qj ak,bG,bG,bG,bG,bG,bG,bG,bG,qj ak,bG,bG,dL (aG 8 m (zX p)),SV.sym aN (A.AO m),oN aN (ah 0),bG,bG,bG,bG,bG,bG,bG,bG,bG,bG,bG,bG,bG,bG,bG,bG],hp:=[(0,jZ [dL (aG 2 n (zX o)),dL (aG 8 m (zX p))] 25),(1,jZ [dL (aG 2 n (zX o)),dL (aG 8 m (zX p))] 25),(2,mX aN (fun (x:Int)=>aK) [] [] aK),(3,mX aN (fun (x:Int)=>aK) [] [] aK),(4,jZ [kE,oN aN (ah 0),kE,pF 2,pF 3] 181)],nx:=5,lim:=1000000000000000000000000000000,tc:=[]} [{g:=20,td:=[nR [0,1] [1,2,3,4,5,6],bD [1,1]],tm:=[jX [dL (aG 2 n (zX o)),dL (aG 8 m (zX p))],jY 0 0,kE,fV,bG,bG,bG,jX [dL (aG 2 n (zX o)),dL (aG 8 m (zX p))],bG,bG,bG,bG,bG,bG,bG,bG]}])).both (aH (A.room (A.addN 0 n) 16) (aA (yX 43 [bD [0,1,0,1,1,1,1],dD 0,bD [1,1,1,1,1]] {tm:=[jX [dL (aG 2 n (zX o)),dL (aG 8 m (zX p))],jY 1 0,rV,fV,fV,jY 6 0,fV,bG,bG,bG,bG,bG,bG,qj ak,bG,bG,bG,bG,bG,bG,bG,bG,qj ak,bG,bG,dL (aG 8 m (zX p)),SV.sym aN (A.AO m),oN aN (ah 0),bG,bG,bG,bG,bG,bG,bG,bG,bG,bG,bG,bG,bG,bG,bG,bG],hp:=[(0,jZ [dL (aG 2 n (zX o)),dL (aG 8 m (zX p))] 25),(1,jZ [dL (aG 2 n (zX o)),dL (aG 8 m (zX p))] 25),(3,rU 140 2 (A.addN 0 n) (A.snoc (AU []) 0 (zX o))),(4,mX aN (fun (x:Int)=>aK) [] [] aK),(5,mX aN (fun (x:Int)=>aK) [] [] aK),(6,jZ [SV.gs 3,oN aN (ah 0),kE,pF 4,pF 5] 181)],nx:=7,lim:=1000000000000000000000000000000,tc:=[2]} [{g:=20,td:=[nR [0,1] [1,2,3,4,5,6],bD [1,1]],tm:=[jX [dL (aG 2 n (zX o)),dL (aG 8 m (zX p))],jY 0 0,kE,fV,bG,bG,bG,jX [dL (aG 2 n (zX o)),dL (aG 8 m (zX p))],bG,bG,bG,bG,bG,bG,bG,bG]}])))) (aH (A.room (A.addN 0 n) 16) (aA (yX 43 [bD [0,1,0,1,1,1,1],dD 0,bD [1,1,1,1,1]] {tm:=[jX [dL (aG 2 n (zX o)),dL (aG 8 m (zX p))],jY 1 0,rV,fV,fV,jY 6 0,fV,bG,bG,bG,bG,bG,bG,qj ak,bG,bG,bG,bG,bG,bG,bG,bG,qj ak,bG,bG,dL (aG 8 m (zX p)),SV.sym aN (A.AO m),oN aN (ah 0),bG,bG,bG,bG,bG,bG,bG,bG,bG,bG,bG,bG,bG,bG,bG,bG],hp:=[(0,jZ [dL (aG 2 n (zX o)),dL (aG 8 m (zX p))] 25),(1,jZ [dL (aG 2 n (zX o)),dL (aG 8 m (zX p))] 25),(3,rU 140 2 (A.addN 0 n) (A.snoc (AU []) 0 (zX o))),(4,mX aN (fun (x:Int)=>aK) [] [] aK),(5,mX aN (fun (x:Int)=>aK) [] [] aK),(6,jZ [SV.gs 3,oN aN (ah 0),kE,pF 4,pF 5] 181)],nx:=7,lim:=1000000000000000000000000000000,tc:=[2]} [{g:=20,td:=[nR [0,1] [1,2,3,4,5,6],bD [1,1]],tm:=[jX [dL (aG 2 n (zX o)),dL (aG 8 m (zX p))],jY 0 0,kE,fV,bG,bG,bG,jX [dL (aG 2 n (zX o)),dL (aG 8 m (zX p))],bG,bG,bG,bG,bG,bG,bG,bG]}])))) (aA (uX (cZ [aG 0 0 fun (x:Nat)=>[],pK 109 (sU [aW .i64 (JJ n 0 (zX o) fun (x:Nat)=>[]),aZ (Ny n 0 (zX o) fun (x:Nat)=>[]) 329])])))))))) (aA (uX (cZ [aG 0 0 fun (x:Nat)=>[],pK 109 (sU [aW .i64 (JJ n m (zX o) (zX p)),aZ (Ny n m (zX o) (zX p)) 329])]))))))):=by kernel_rfl
theorem b32(A:Prim)(W:Wd)(m:Nat)(p:Nat->Ev)(b:Nat)(c i:Int)(k:Nat):AQ (CT A W) Yq 300 400 43 asi (LT m p b c i) QO [⟨43,tdP,LP m p b c i (p k) .any,QO⟩,⟨20,adW,LX (.val (.pointer (ay ⟨b,0,aK⟩))),[]⟩]=aF (A.lt i c) (aH (A.inB i m) (aA (bJ 0 [kR (gG (ay {block:=b,off:=0})) (gG (ay {block:=b,off:=0})),aj i i,aQ (aG 8 m (zX p)) (aG 8 m (zX p)),aj c c,aj i i,kR (gG (ay {block:=b,off:=0})) (gG (ay {block:=b,off:=0})),aj (p (A.toN i)).kind (p k).kind,aj (p (A.toN i)).tx (p k).tx,aj (p (A.toN i)).thread (p k).thread,aj (p (A.toN i)).obj (p k).obj,aj (p (A.toN i)).op (p k).op,aj (p (A.toN i)).key (p k).key,aj (p (A.toN i)).val (p k).val,aj (p (A.toN i)).ret (p k).ret]))) (aA (bJ 1 [kR (gG (ay {block:=b,off:=0})) (gG (ay {block:=b,off:=0}))])):=by kernel_rfl
theorem c32(A:Prim)(W:Wd)(m:Nat)(p:Nat->Ev)(b:Nat)(c i i1:Int)(e:Ev):AQ (CT A W) Yq 300 400 43 tdQ (LP m p b c i e .DN) QO [⟨43,Xd,LT m p b c i1,QO⟩]=aA (bJ 0 [kR (gG (ay {block:=b,off:=0})) (gG (ay {block:=b,off:=0})),aQ (aG 8 m (zX p)) (aG 8 m (zX p)),aj c c,aj (A.add .i64 i (ah 1)) i1]):=by kernel_rfl
theorem d32(A:Prim)(W:Wd)(m:Nat)(p:Nat->Ev)(b:Nat)(c i:Int)(e:Ev)(k:Nat):AQ (CT A W) Yq 300 400 43 tdQ (LP m p b c i e (.sh (.er k 329))) QO []=aA (aP (cZ [aG 0 0 fun (x:Nat)=>[],pK 109 (sU [aW .i64 i,aZ k 329])])):=by kernel_rfl
theorem e32(A:Prim)(W:Wd)(N:Rc->Nat)(D:Rc->Nat->List Sh)(v0:Value)(many:Int)(k:Nat)(rs:Nat->Rc)(b1 b2:Nat)(c i:Int)(j:Nat)(gg:Nat->List Sh):AQ (CT A W) DJ 300 400 20 adW (LX (auX N D v0 many k rs b1 b2)) [] [⟨44,tdT,adX N D k rs c i j gg,frX⟩]=aH (A.le (ah 0) (A.AO k)) (aH (A.room (A.toN (A.AO k)) 72) (aA (bJ 0 [aQ (aG 1 k (ZB N D rs)) (aG 1 k (ZB N D rs)),aj (A.AO k) c,aj (ah 0) i,aJ 0 j,aT 0 (fun (x:Nat)=>[]) gg]))):=by kernel_rfl
theorem f32(A:Prim)(W:Wd)(N:Rc->Nat)(D:Rc->Nat->List Sh)(k:Nat)(rs:Nat->Rc)(c i i1:Int)(j j1:Nat)(gg g1:Nat->List Sh):arY (CT A W) DJ 300 400 44 tbT (adX N D k rs c i j gg) frX [⟨44,tdT,adX N D k rs c i1 j1 g1,frX⟩]=aF (A.lt i c) (aH (A.inB i k) (aH (A.le (ah 0) (A.AO (N (rs (A.toN i))))) (aH (A.room (A.toN (A.AO (N (rs (A.toN i))))) 64) (aH (A.room (A.addN 0 (N (rs (A.toN i)))) 64) (aH (A.le (ah 0) (A.AO (N (rs (A.toN i))))) (aH (A.room (A.toN (A.AO (N (rs (A.toN i))))) 64) (aH (A.room (A.addN 0 (N (rs (A.toN i)))) 64) (aS [aJ 1 1,bC (fun (x:Nat)=>rcR N D (rs (A.toN i))) fun (x:Nat)=>rcR N D (rs (A.toN i)),aJ 0 0,aQ (aG 1 k (ZB N D rs)) (aG 1 k (ZB N D rs)),aj c c,aj i i,aJ j j,bC gg gg,aj (rs (A.toN i)).id (rs (A.toN i)).id,aj (rs (A.toN i)).th (rs (A.toN i)).th,aj (rs (A.toN i)).st (rs (A.toN i)).st,aj (rs (A.toN i)).bg (rs (A.toN i)).bg,aj (rs (A.toN i)).en (rs (A.toN i)).en,aj (rs (A.toN i)).tr (rs (A.toN i)).tr,aJ (A.addN 0 (N (rs (A.toN i)))) (A.addN 0 (N (rs (A.toN i)))),bC (A.snoc (fun (x:Nat)=>[]) 0 (D (rs (A.toN i)))) (A.snoc (fun (x:Nat)=>[]) 0 (D (rs (A.toN i))))] (aH (A.le (ah 0) (A.AO (N (rs (A.toN i))))) (aH (A.room (A.toN (A.AO (N (rs (A.toN i))))) 64) (aH (A.room (A.addN 0 (N (rs (A.toN i)))) 64) (aS [aJ 1 1,bC (fun (x:Nat)=>rcR N D (rs (A.toN i))) fun (x:Nat)=>rcR N D (rs (A.toN i)),aJ 0 0,aQ (aG 1 k (ZB N D rs)) (aG 1 k (ZB N D rs)),aj c c,aj i i,aJ j j,bC gg gg,aj (rs (A.toN i)).id (rs (A.toN i)).id,aj (rs (A.toN i)).th (rs (A.toN i)).th,aj (rs (A.toN i)).st (rs (A.toN i)).st,aj (rs (A.toN i)).bg (rs (A.toN i)).bg,aj (rs (A.toN i)).en (rs (A.toN i)).en,aj (rs (A.toN i)).tr (rs (A.toN i)).tr,aJ (A.addN 0 (N (rs (A.toN i)))) (A.addN 0 (N (rs (A.toN i)))),bC (A.snoc (fun (x:Nat)=>[]) 0 (D (rs (A.toN i)))) (A.snoc (fun (x:Nat)=>[]) 0 (D (rs (A.toN i))))] (aH (A.room (A.addN j 1) 72) (aA (bJ 0 [aQ (aG 1 k (ZB N D rs)) (aG 1 k (ZB N D rs)),aj c c,aj (A.add .i64 i (ah 1)) i1,aJ (A.addN j 1) j1,aT (A.addN j 1) (A.snoc gg j (AU [[aW .i64 (rs (A.toN i)).id,aW .i64 (rs (A.toN i)).th,aW .i64 (rs (A.toN i)).st,aW .i64 (rs (A.toN i)).bg,aW .i64 (rs (A.toN i)).en,aW .i64 (rs (A.toN i)).tr,aG 8 (A.addN 0 (N (rs (A.toN i)))) (A.snoc (fun (x:Nat)=>[]) 0 (D (rs (A.toN i))))]])) g1]))))))))))))))) (aA (aP (cZ [Sh.os 115 7 j gg,Sh.v Value.nilIface]))):=by kernel_rfl
end Go.Ae
namespace Go.BF
open Go Go.Sx
def rc0:Rc:=⟨0,0,0,0,0,0,[],0⟩
def Fj(r:Rc):Nat:=r.Ac.length
def dfn(r:Rc):Nat->List Sh:=zX (nth r.Ac)
def GU(σ:Au)(j:Nat):Rc:=σ.rs.getD j rc0
theorem Vh{σ:Au}{j:Nat}(h:j<σ.rs.length):σ.rs[j]?=ay (GU σ j):=by
 simp[GU,aY,aV h]
end Go.BF
namespace Go.Ae
open Go Go.Sx Go.BF
section
variable{H:Mem}{E:Env}{w:World}{n:Nat}{o:Nat->Oj}{h:Hp}{σ:Au}{b:Nat}
theorem alY(hR:Ku n o σ b h)(hat:h.at H w):∃L:Lay,Den (H.with h) E (auX Fj dfn L.v0 σ.many σ.rs.length (GU σ) L.b1 L.b2) (.pointer (ay ⟨b,0,aK⟩)):=by
 obtain ⟨L,rfl,hdom,hA⟩:=hR;have A:=hA H w hat;have at_:∀t x,L.blk σ.rs.length t=ay x->(H.with h) x=w.heap[x]?:=fun t x hx=>by
  cases q:h x with
  |none=>exact ((hdom x).2 ⟨t,hx⟩ q).elim |some ob=>simp only[Mem.with,q];exact (hat x ob q).1.symm
 have asj:L.v0.oneCell'=aC:=by
  obtain ⟨xs,h1,_⟩:=A.ob;rcases h1.2 with ⟨q,_⟩ |⟨g,cap,cur,q,_⟩<;>rw[q]<;>rfl
 have aww:L.v2.oneCell'=aC:=by
  rcases A.tx.2 with ⟨q,_⟩ |⟨g,cap,cur,q,_⟩<;>rw[q]<;>rfl
 have awx:∀i,i<σ.rs.length->Rep (H.with h) (.pt (rcR Fj dfn (GU σ i))) (Dq (L.R i)):=fun i hi=>by
  have hs:=Vh (σ:=σ) hi;have hc:=A.rc i _ hs;have hd:=A.de i _ hs;have hb:=at_ (.rc i) (L.R i) (by simp[mW,hi]);rw[hc] at hb;have awy:(L.D i).oneCell'=aC:=by
   rcases hd.2 with ⟨q,_⟩ |⟨g,cap,cur,q,_⟩<;>rw[q]<;>rfl
  have awz:Rep (H.with h) (.sl 8 (Fj (GU σ i)) (dfn (GU σ i))) (L.D i):=LW hd (Zh _) fun x hx=>at_ (.de i) x (by simp[mW,hi,hx]);refine .pt _ (L.R i) 0 (fun j=>(Xa (GU σ i) (L.D i)).getD j undef) (fun j hj=>?_) (fun j hj=>?_) fun j s hs'=>?_
  ·simp only[hcell,hb,gK]
   have:j<(Xa (GU σ i) (L.D i)).size:=hj;simp[iL,fF this]
  ·have:j<8:=hj
   match j,this with
   |0,_=>rfl |1,_=>rfl |2,_=>rfl |3,_=>rfl |4,_=>rfl |5,_=>rfl |6,_=>exact awy |7,_=>rfl |j+8,hj=>omega
  ·match j,hs' with
   |0,hs'=>cases hs';exact .i _ _ |1,hs'=>cases hs';exact .i _ _ |2,hs'=>cases hs';exact .i _ _ |3,hs'=>cases hs';exact .i _ _ |4,hs'=>cases hs';exact .i _ _ |5,hs'=>cases hs';exact .i _ _ |6,hs'=>cases hs';exact awz |7,hs'=>cases hs';exact .i _ _ |j+8,hs'=>simp[rcR] at hs'
 have awC:Rep (H.with h) (.sl 1 σ.rs.length (ZB Fj dfn (GU σ))) L.v2:=by
  refine LW A.tx ?_ fun x hx=>at_ .tx x hx
  refine ⟨by simp,fun i _=>rfl,fun u hu=>?_,fun i j s v hi h1 h2=>?_⟩
  ·obtain ⟨i,_,rfl⟩:=dK.1 hu
   rfl
  ·match j,h1 with
   |0,h1=>
    cases h1;simp[List.getElem?_map,List.getElem?_range,hi] at h2;subst h2;exact awx i hi
   |j+1,h1=>simp[ZB] at h1
 have hb:=at_ .au L.p rfl;rw[A.au] at hb;refine ⟨L,L.p,0,fun j=>(#[L.v0,.int .i64 σ.many,L.v2,.map (ay L.b1),.map (ay L.b2)]:Array Value).getD j undef,rfl,by decide,rfl,fun j hj=>⟨?_,?_⟩,fun j s hs'=>?_⟩
 ·simp only[hcell,hb,gK]
  have:j<(#[L.v0,.int .i64 σ.many,L.v2,.map (ay L.b1),.map (ay L.b2)]:Array Value).size:=hj;simp[iL,fF this]
 ·match j,hj with
  |0,_=>exact asj |1,_=>rfl |2,_=>exact aww |3,_=>rfl |4,_=>rfl |j+5,hj=>omega
 ·match j,hs' with
  |0,hs'=>cases hs';exact .v _ asj |1,hs'=>cases hs';exact .i _ _ |2,hs'=>cases hs';exact awC |3,hs'=>cases hs';exact .v _ rfl |4,hs'=>cases hs';exact .v _ rfl |j+5,hs'=>simp at hs'
end
end Go.Ae
namespace Go.Sx
def pS(x y:SV):Prop:=∀(H:Mem) (E:Env) (v:Value),Den H E x v->Den H E y v
def pL:List SV->List SV->Prop
 |[],[]=>True |x::l,y::m=>pS x y/\pL l m |_,_=>False
def pB:SB->SB->Prop
 | .box l e,.box m f=>e=f/\pL l m |a,b=>a=b
def pH:List (Nat×SB)->List (Nat×SB)->Prop
 |[],[]=>True |(i,a)::l,(j,b)::m=>i=j/\pB a b/\pH l m |_,_=>False
def akI:List Fr->List Fr->Prop
 |[],[]=>True |f::s,f'::s'=>f.g=f'.g/\f.td=f'.td/\pL f.tm f'.tm/\akI s s' |_,_=>False
structure pC(c c':Core):Prop where
 tm:pL c.tm c'.tm
 hp:pH c.hp c'.hp
 nx:c.nx=c'.nx
 lim:c.lim=c'.lim
 tc:c.tc=c'.tc
theorem pS.any{x:SV}:pS x .any:=fun _ _ _ _=>trivial
theorem ZY{H:Mem}{E:Env}:∀{l m:List SV} {vs:List Value},pL l m->Ag H E l vs->Ag H E m vs
 |[],[],[],_,_=>trivial |_::_,_::_,_::_,⟨h1,h2⟩,⟨d1,d2⟩=>⟨h1 _ _ _ d1,ZY h2 d2⟩ |[],_::_,_,h,_=>h.elim |_::_,[],_,h,_=>h.elim |_::_,_::_,[],_,hd=>hd.elim |[],[],_::_,_,hd=>hd.elim
theorem pS.sl{st n:Nat}{g g':Nat->List Sh}(h:∀j,j<n->g j=g' j):pS (.sh (.sl st n g)) (.sh (.sl st n g')):=fun H E v hd=>by
 have hd:Rep H (.sl st n g) v:=hd;show Rep H (.sl st n g') v;cases hd with
 |sl0 _ _ A cap hc=>exact .sl0 _ _ _ _ hc |sl _ _ _ b off cap c h1 h2 h3 h4 h5 h6=>exact .sl _ _ _ b off cap c h1 h2 (fun i hi=>by rw[<-h i hi];exact h3 i hi) h4 h5 fun i j s hi e=>h6 i j s hi (by rw[h i hi];exact e)
theorem pL.set{x y:SV}(h:pS x y):∀{l m:List SV} (i:Nat),pL l m->pL (l.set i x) (m.set i y)
 |[],[],_,_=>trivial |_::_,_::_,0,⟨_,h2⟩=>⟨h,h2⟩ |_::_,_::_,i+1,⟨h1,h2⟩=>⟨h1,pL.set h i h2⟩ |[],_::_,_,h=>h.elim |_::_,[],_,h=>h.elim
section
variable{P:Program}{C:Ctx}{K:Kx}{H H':Mem}{E E':Env}{w w':World}
theorem ajm{id:Nat}{a b:SB}(h:pB a b)(he:Gi K H E w id a):Gi K H E w id b/\AL E id a=AL E id b:=by
 cases a with
 |box l e=>
  cases b with
  |box m f=>
   obtain ⟨rfl,h⟩:=h;obtain ⟨b,cs,h1,h2,h3,h4⟩:=he;exact ⟨⟨b,cs,h1,h2,ZY h h3,h4⟩,rfl⟩
  |_=>simp[pB] at h
 |_=>
  simp only[pB] at h;subst h;exact ⟨he,rfl⟩
theorem Z4:∀{l m:List (Nat×SB)} {i:Nat} {b:SB},pH l m->zY m i=ay b->∃a,zY l i=ay a/\pB a b
 |[],[],_,_,_,h=>by simp[zY] at h |(i,a)::l,(j,b)::m,k,sb,⟨h1,h2,h3⟩,h=>by
  subst h1;simp only[zY] at h ⊢;cases hk:(i==k)<;>simp only[hk,cond_true,cond_false] at h ⊢
  ·exact Z4 h3 h
  ·cases h;exact ⟨_,rfl,h2⟩
 |[],_::_,_,_,h,_=>h.elim |_::_,[],_,_,h,_=>h.elim
theorem St.afg{c c':Core}{a:Act}(st:St C K H E w c a)(h:pC c c'):St C K H E w c' a:=by
 refine ⟨ZY h.tm st.den,⟨fun id sb hl=>?_,fun id id' sb sb' b l1 l2 o1 o2=>?_⟩,st.BJ,fun i h1 h2=>st.free i (by rw[h.nx];exact h1) (by rw[h.lim];exact h2),st.gl,st.defers⟩
 ·obtain ⟨x,h1,h2⟩:=Z4 h.hp hl
  exact (ajm h2 (st.hp.ent _ _ h1)).1
 ·obtain ⟨x,h1,h2⟩:=Z4 h.hp l1
  obtain ⟨y,h3,h4⟩:=Z4 h.hp l2;exact st.hp.FU _ _ _ _ _ h1 h3 (by rw[(ajm h2 (st.hp.ent _ _ h1)).2];exact o1) (by rw[(ajm h4 (st.hp.ent _ _ h3)).2];exact o2)
theorem FX.afg:∀{s s':List Fr} {ms:List Frame},FX C H E s ms->akI s s'->FX C H E s' ms
 |[],[],[],_,_=>trivial |f::s,f'::s',m::ms,⟨⟨fn,a,items,h1,h2,h3,h4,h5⟩,h6⟩,⟨e1,e2,e3,e4⟩=>
  ⟨⟨fn,a,items,by rw[<-e1];exact h1,ZY e3 h2,h3,by rw[<-e2];exact h4,by rw[<-e1];exact h5⟩,FX.afg h6 e4⟩
 |[],[],_::_,h,_=>h.elim |_::_,_,[],h,_=>h.elim |[],_::_,_,_,h=>h.elim |_::_,[],_::_,_,h=>h.elim
theorem akJ{g:Nat}:∀{s s':List Fr} {g:Nat},akI s s'->QJ g s'=QJ g s
 |[],[],_,_=>rfl |f::s,f'::s',_,⟨e1,_,_,e4⟩=>by simp only[QJ];rw[e1];exact akJ (g:=0) e4 |[],_::_,_,h=>h.elim |_::_,[],_,h=>h.elim
theorem Xe{g:Nat}{td:List It}{c c':Core}{stk JA:List Fr}{R:Hp->Prop}{φ:Sh->Prop}(hle:pC c c')(hs:akI stk JA)(h:Bd P C K g td c' JA R φ):Bd P C K g td c stk R φ:=by
 intro H E w a items ms cs fn hfn st hi hst hx;have:=h H E w a items ms cs fn hfn (st.afg hle) hi (hst.afg hs) hx;rw[akJ (g:=0) hs] at this;exact this
end
end Go.Sx
namespace Go.BF
open Go Go.Sx
theorem G6{α:Type}[Row α](o:Nat->α):zZ (zX o)=o:=funext fun i=>Nq o i
def takeN(p:Nat->Ev):Au->Nat->Nat->Au ⊕ (Nat×Nat)
 |σ,_,0=>.inl σ |σ,k,r+1=>match (σ.feed (p k)).1 with
  |none=>takeN p (σ.feed (p k)).2 (k+1) r |some e=>.inr (k,e)
def SN(m:Nat)(p:Nat->Ev):Au ⊕ (Nat×Nat):=takeN p Au.nil 0 m
def takeB(m:Nat)(p:Nat->Ev):Bool:=match SN m p with| .inl _=>aC| .inr _=>ak
def Kv(m:Nat)(p:Nat->Ev):Au:=match SN m p with| .inl σ=>σ| .inr _=>Au.nil
def Vj(m:Nat)(p:Nat->Ev):Int:=match SN m p with| .inl _=>0| .inr (k,_)=>k
def Vk(m:Nat)(p:Nat->Ev):Nat:=match SN m p with| .inl _=>0| .inr (_,e)=>e
def resT:Au ⊕ (Nat×Nat)->Sh
 | .inl σ=>.Ak [.os 115 7 σ.rs.length (Go.Ae.Vg Fj dfn (GU σ)),.v .nilIface] | .inr (k,e)=>.Ak [.sl 0 0 fun _=>[],.CS 109 (.pt [.i .i64 (k:Int),.er e 329])]
structure afh(n m:Nat)(o:Nat->Oj)(p:Nat->Ev):Prop where
 small:n<=8/\m<=400
 valid:∀k,k<m->BP (p k)=aC
 obj:∀k,k<m->(p k).kind=2->0<=(p k).obj/\(p k).obj<n/\Dz (p k).op=(o (p k).obj.toNat).kind
theorem Vl{f:Nat->Option Nat}:∀{r k:Nat},I9 f k r=aK->∀j,k<=j->j<k+r->f j=aK
 |0,k,_,j,h1,h2=>by omega |r+1,k,h,j,h1,h2=>by
  simp only[I9] at h;cases hf:f k with
  |some e=>rw[hf] at h;cases h |none=>
   rw[hf] at h;by_cases q:j=k
   ·subst q;exact hf
   ·exact Vl h j (by omega) (by omega)
theorem ab2{n m:Nat}{o:Nat->Oj}{p:Nat->Ev}(h1:Iu n m=ak)(h2:(W9 n m o p).isNone=aC)(h3:∀k,k<m->CQ (p k).ret=aC):afh n m o p:=by
 unfold Iu at h1;have h1:¬(8<n\/400<m):=by simpa using h1
 have key:∀k,k<m->Kr n o (p k)=aK:=fun k hk=>by
  unfold W9 at h2;cases hs:I9 (fun k=>QA (o k)) 0 n with
  |some x=>rw[hs] at h2;cases h2 |none=>
   rw[hs] at h2;exact Vl (Option.isNone_iff_eq_none.1 h2) k (by omega) (by omega)
 have parts:∀k,k<m->OC (p k)=aC/\fieldsB (p k)=aC/\((p k).kind=2->(p k).obj<n/\Dz (p k).op=(o (p k).obj.toNat).kind):=fun k hk=>by
  have h:=key k hk;unfold Kr at h;cases c1:OC (p k)<;>simp only[c1,cond_true,cond_false] at h
  ·cases h
  cases c2:fieldsB (p k)<;>simp only[c2,cond_true,cond_false] at h
  ·cases h
  refine ⟨rfl,rfl,fun hk2=>?_⟩;simp only[hk2,beq_self_eq_true,cond_true] at h;cases c3:decide ((n:Int)<=(p k).obj)<;>simp only[c3,cond_true,cond_false] at h
  ·have c3:=of_decide_eq_false c3
   cases c4:(Dz (p k).op==(o (p k).obj.toNat).kind)<;>simp only[c4,cond_true,cond_false] at h
   ·cases h
   ·exact ⟨by omega,by simpa using c4⟩
  ·cases h
 exact ⟨by omega,fun k hk=>by
  obtain ⟨a,b,_⟩:=parts k hk;simp[BP,a,b,h3 k hk],fun k hk hk2=>by
  obtain ⟨a,b,c⟩:=parts k hk;exact ⟨Zf b hk2,c hk2⟩⟩
end Go.BF
namespace Go.Ae
open Go Go.Sx Go.BF
theorem arH:∀g F,ab1 g=ay F->Ar aB (Fv W5) g F:=fun g F h=>by
 unfold ab1 at h;split at h
 ·cases h;exact awm
 ·cases h
theorem ab3:Ba aB (CT zW W5):=by
 have h:=C5.ok ab1 Ap;exact ⟨h.1,h.2,h.3,h.4,h.5,h.6,zT⟩
theorem CTf:BA aB (CT zW W5):=by
 have h:=C5.WI (stop:=Ap) arH fun g h=>by
  unfold ab1 at h;split at h;all_goals first|(cases h;done) |kernel_rfl
 exact ⟨h.1,h.2,h.3,h.4⟩
theorem Xf{n b:Nat}(h:n<=100000)(hb:b<=1000):zW.room n b=aC:=by
 rw[Ew,decide_eq_true_eq];have h1:n*b<=100000*1000:=Nat.mul_le_mul h hb;refine ⟨by omega,?_⟩;unfold maxLen;omega
theorem apV{H0:Mem}{w0:World}{N:Nat}{rs:Nat->Rc}{φ:Sh->Prop}(hN:N<=1000)(hD:∀k,k<N->Fj (rs k)<=1000)(hφ:φ (.Ak [.os 115 7 N (Vg Fj dfn rs),.v .nilIface])):
  ∀rm k,k+rm=N->Bd aB (CT zW W5) (K0 H0 w0) 44 tdT (adX Fj dfn N rs (N:Int) k k (Vg Fj dfn rs)) frX emp φ
 |rm,k,hk=>by
  refine Gu (fn:=yE) (tb:=tbT) (by kernel_rfl) (by kernel_rfl) ?_;refine agp ab3 CTf (hold:=DJ) (m:=300) (n:=400) (ts:=[⟨44,tdT,adX Fj dfn N rs (N:Int) (k+1:Nat) (k+1) (Vg Fj dfn rs),frX⟩]) ?_;rw[f32 zW W5 Fj dfn N rs (N:Int) k (k+1:Nat) k (k+1) (Vg Fj dfn rs) (Vg Fj dfn rs)];simp only[Ad,Df,Az,Bl,CJ,Dj,Dl,GY,Tree.All,Jz,Int.toNat_natCast,gK];refine ⟨fun h=>?_,fun h=>?_⟩
  ·have hlt:k<N:=by simp at h;omega
   have hd:=hD k hlt;have hw:aN.wrap ((k:Int)+1)=((k+1:Nat):Int):=by rw[BL (by omega) (by omega)];rfl
   have hle:decide (ah 0<=ah (Fj (rs k)))=aC:=by simp
   have hr1:zW.room (Fj (rs k)) 64=aC:=Xf (by omega) (by omega);have hr2:zW.room (k+1) 72=aC:=Xf (by omega) (by omega);have eqD:zW.snoc (fun _=>[]) 0 (dfn (rs k))=dfn (rs k):=by
    funext i;rw[Ed];simp
   match rm,hk with
   |0,hk=>omega |rm+1,hk=>
    refine ⟨by simp;omega,hle,hr1,hr1,hle,hr1,hr1,?_,hle,hr1,hr1,?_,hr2,⟨rfl,rfl,hw,rfl,fun i hi=>?_,trivial⟩,_,rfl,apV hN hD hφ rm (k+1) (by omega)⟩
    ·repeat' (first|exact trivial|refine bW rfl ?_)
    ·repeat' (first|exact trivial|refine bW rfl ?_)
    ·rw[Ed,eqD]
     by_cases q:i<k
     ·rw[if_pos q]
     ·rw[if_neg q]
      have:i=k:=by omega
      subst this;rw[Nat.sub_self];rfl
  ·have:k=N:=by simp at h;omega
   subst this;exact hφ
theorem auL{H0:Mem}{w0:World}{n:Nat}{o:Nat->Oj}{σ:Au}{b:Nat}{φ:Sh->Prop}(hI:σ.OK)(hm:σ.many<=400)(hφ:φ (resT (.inl σ))):
  Bd aB (CT zW W5) (K0 H0 w0) 20 adW (LX (.val (.pointer (ay ⟨b,0,aK⟩)))) [] (Ku n o σ b) φ:=by
 have hlen:=hI.len;refine agl (X:=Lay) (u:=.pointer (ay ⟨b,0,aK⟩)) (y:=fun L=>auX Fj dfn L.v0 σ.many σ.rs.length (GU σ) L.b1 L.b2) (fun H E h w hR _ hat=>alY hR hat) (i:=14) rfl fun L=>?_
 show Bd aB (CT zW W5) (K0 H0 w0) 20 adW (LX (auX Fj dfn L.v0 σ.many σ.rs.length (GU σ) L.b1 L.b2)) [] emp φ;refine Hl ab3 CTf (hold:=DJ) (m:=300) (n:=400) (ts:=[⟨44,tdT,adX Fj dfn σ.rs.length (GU σ) (σ.rs.length:Int) (0:Nat) 0 (Vg Fj dfn (GU σ)),frX⟩]) ?_;rw[e32 zW W5 Fj dfn L.v0 σ.many σ.rs.length (GU σ) L.b1 L.b2 (σ.rs.length:Int) (0:Nat) 0 (Vg Fj dfn (GU σ))];refine ⟨by simp[Df,Az],Xf (by simp[CJ,Az];omega) (by omega),⟨rfl,rfl,rfl,rfl,fun i hi=>by omega,trivial⟩,_,rfl,apV (by omega) (fun k hk=>?_) hφ _ 0 (gK _)⟩;have:=hI.dl k _ (Vh hk);show (GU σ k).Ac.length<=1000;omega
theorem arI{H:Mem}{E:Env}{e:Ev}{v:Value}(h:Den H E (.agg [.sym .i64 e.kind,.sym .i64 e.tx,.sym .i64 e.thread,.sym .i64 e.obj,.sym .i64 e.op,.sym .i64 e.key,.sym .i64 e.val,.sym .i64 e.ret]) v):v=Yp e:=by
 obtain ⟨⟨vs⟩,rfl,hd⟩:=h;match vs,hd with
 |[a,b,c,d,e,f,g,h],⟨h1,h2,h3,h4,h5,h6,h7,h8,_⟩=>
  cases h1;cases h2;cases h3;cases h4;cases h5;cases h6;cases h7;cases h8;rfl
theorem akK{H0:Mem}{w0:World}{n m:Nat}{o:Nat->Oj}{p:Nat->Ev}{b:Nat}{φ:Sh->Prop}(hg:afh n m o p):
  ∀rm k σ,k+rm=m->σ.OK->σ.many=k->φ (resT (takeN p σ k rm))->Bd aB (CT zW W5) (K0 H0 w0) 43 Xd (LT m p b (m:Int) k) QO (Ku n o σ b) φ
 |rm,k,σ,hk,hI,auM,hφ=>by
  have hs:=hg.small;refine Gu (fn:=oO) (tb:=asi) (by kernel_rfl) (by kernel_rfl) ?_;refine Hl ab3 CTf (hold:=Yq) (m:=300) (n:=400) (ts:=[⟨43,tdP,LP m p b (m:Int) k (p k) .any,QO⟩,⟨20,adW,LX (.val (.pointer (ay ⟨b,0,aK⟩))),[]⟩]) ?_;rw[b32 zW W5 m p b (m:Int) k k];refine ⟨fun h=>?_,fun h=>?_⟩
  ·have hlt:k<m:=by simp[Ad] at h;omega
   match rm,hk,hφ with
   |0,hk,_=>omega |rm+1,hk,hφ=>
    refine ⟨by simp[Bl];omega,⟨rfl,rfl,rfl,rfl,rfl,rfl,rfl,rfl,rfl,rfl,rfl,rfl,rfl,rfl,trivial⟩,_,rfl,?_⟩;refine agj (fn:=oO) (g2:=79) (args:=[.val (.pointer (ay ⟨b,0,aK⟩)),.agg [.sym .i64 (p k).kind,.sym .i64 (p k).tx,.sym .i64 (p k).thread,.sym .i64 (p k).obj,.sym .i64 (p k).op,.sym .i64 (p k).key,.sym .i64 (p k).val,.sym .i64 (p k).ret]]) (dst:=ay 34) (FW:=tdQ) (by kernel_rfl) (by kernel_rfl) (CTf.en 79 (.inr (by kernel_rfl))) ⟨rfl,by kernel_rfl,by kernel_rfl⟩
     (auK (fun H E v=>arI) hI (by omega) (hg.valid k hlt) (hg.obj k hlt)) ?_
    show Bd aB (CT zW W5) (K0 H0 w0) 43 tdQ (LP m p b (m:Int) k (p k) (svE (σ.feed (p k)).1)) QO (Ku n o (σ.feed (p k)).2 b) φ;cases hx:(σ.feed (p k)).1 with
    |none=>
     refine Hl ab3 CTf (hold:=Yq) (m:=300) (n:=400) (ts:=[⟨43,Xd,LT m p b (m:Int) (k+1:Nat),QO⟩]) ?_;have e:=c32 zW W5 m p b (m:Int) k (k+1:Nat) (p k);rw[show svE aK=fV from rfl,e];refine ⟨⟨rfl,rfl,rfl,?_,trivial⟩,_,rfl,akK hg rm (k+1) _ (by omega) (hI.feed (hg.valid k hlt)) (by rw[Vf hx,auM]) (by simpa only[takeN,hx] using hφ)⟩;show zW.add .i64 (k:Int) (ah 1)=((k+1:Nat):Int);rw[Dj,GY,BL (by omega) (by omega)];rfl
    |some e=>
     refine Hl ab3 CTf (hold:=Yq) (m:=300) (n:=400) (ts:=[]) ?_;rw[show svE (ay e)=dL (.er e 329) from rfl,d32 zW W5 m p b (m:Int) k (p k) e];have hφ':φ (resT (.inr (k,e))):=by simpa only[takeN,hx] using hφ
     exact hφ'
  ·have:k=m:=by simp[Ad] at h;omega
   have:rm=0:=by omega
   subst this;exact ⟨⟨rfl,trivial⟩,_,rfl,auL hI (by omega) hφ⟩
def ajP:Sh:=.sl 0 0 fun _=>[]
def F32:List Sh->Tree Sh
 |[.agg [.sl 2 n g,.sl 8 m h]]=>.need (okB Oj n g) (.need (okB Ev m h) (.need (QB m h) (.node (Iu n m) (.leaf (.Ak [.sl 0 0 fun _=>[],.er 6 329])) (.node (F8 n m g h)
   (.node (takeB m (zZ h)) (.leaf (.Ak [.os 115 7 (Kv m (zZ h)).rs.length (Vg Fj dfn (GU (Kv m (zZ h)))),.v .nilIface])) (.leaf (.Ak [.sl 0 0 fun _=>[],.CS 109 (.pt [.i .i64 (Vj m (zZ h)),.er (Vk m (zZ h)) 329])])))
   (.leaf (.Ak [.sl 0 0 fun _=>[],.CS 109 (.pt [.i .i64 (JJ n m g h),.er (Ny n m g h) 329])]))))))
 |_=>.fail
theorem O32:Ar aB (Fv W5) 20 F32:=by
 refine KE (C:=CT zW W5) ab3 (fn:=oP) (by kernel_rfl) (by kernel_rfl) fun H w A8 args φ hrep h=>?_
 have hn:oP.ntmps=16:=by kernel_rfl
 unfold F32 at h;split at h
 ·rename_i n g m h'
  obtain ⟨h1,h2,h3,h4,h5⟩:=h;match args,hrep with
  |[v],⟨hv,_⟩=>
   rw[hn];refine ⟨[.agg [.sl 2 n (zX (zZ (α:=Oj) g)),.sl 8 m (zX (zZ (α:=Ev) h'))]],⟨SA hv h1 h2,trivial⟩,L0,?_⟩;refine agn ab3 CTf (hold:=akH) (m:=300) (n:=400) ?_;rw[a32 zW W5 n m (zZ g) (zZ h'),aaZ];have hret:∀k,k<m->CQ (zZ (α:=Ev) h' k).ret=aC:=fun k hk=>dO.1 h3 k (dP.2 hk);have hb0:Iu n m=ak->Iu n 0=ak:=fun q=>by
    unfold Iu at q ⊢;have q:¬(8<n\/400<m):=by simpa using q
    exact decide_eq_false (by omega)
   have hgd:F8 n m (zX (zZ (α:=Oj) g)) (zX (zZ (α:=Ev) h'))=F8 n m g h':=by
    unfold F8;rw[G6,G6]
   refine ⟨Dy _ _,Dy _ _,dO.2 fun k hk=>?_,fun q=>h4 q,fun q=>⟨fun q2=>?_,fun q2=>?_⟩⟩
   ·rw[G6];exact hret k (dP.1 hk)
   ·have q3:F8 n m g h'=aC:=hgd ▸ q2
    obtain ⟨hT,hF⟩:=(h5 q).1 q3;have G:=ab2 q q3 hret;have hs:=G.small;have fin:∀b,Bd aB (CT zW W5) (K0 H w) 43 Xd (LT m (zZ h') b (m:Int) (0:Nat)) QO (Ku n (zZ g) Au.nil b) φ:=fun b=>by
     refine akK G m 0 Au.nil (by omega) Au.OK.nil rfl ?_;show φ (resT (SN m (zZ h')));unfold takeB at hT hF;unfold Kv at hT;unfold Vj Vk at hF;cases hx:SN m (zZ (α:=Ev) h') with
     |inl σ=>rw[hx] at hT;exact hT rfl |inr x=>rw[hx] at hF;exact hF rfl
    have own:∀nx tc,Bd aB (CT zW W5) (K0 H w) 43 Xd ⟨[jX [dL (aG 2 n (zX (zZ (α:=Oj) g))),dL (aG 8 m (zX (zZ (α:=Ev) h')))],jY 1 0,rV,fV,fV,jY 6 0,fV]++rep [.any] 6++[.bool ak]++rep [.any] 8++[.bool ak,.any,.any,dL (aG 8 m (zX (zZ (α:=Ev) h'))),.sym .i64 (zW.AO m),.int .i64 (ah 0)]++rep [.any] 16,
      [(0,jZ [dL (aG 2 n (zX (zZ (α:=Oj) g))),dL (aG 8 m (zX (zZ (α:=Ev) h')))] 25),(1,jZ [dL (aG 2 n (zX (zZ (α:=Oj) g))),dL (aG 8 m (zX (zZ (α:=Ev) h')))] 25),(3,rU 140 2 (zW.addN 0 n) (zW.snoc (AU []) 0 (zX (zZ (α:=Oj) g)))),(4,mX .i64 (fun _=>aK) [] [] aK),(5,mX .i64 (fun _=>aK) [] [] aK),(6,jZ [SV.gs 3,oN .i64 (ah 0),kE,pF 4,pF 5] 181)],nx,L0,tc⟩
      [{g:=20,td:=[nR [0,1] [1,2,3,4,5,6],bD [1,1]],tm:=[jX [dL (aG 2 n (zX (zZ (α:=Oj) g))),dL (aG 8 m (zX (zZ (α:=Ev) h')))],jY 0 0,kE,fV,.any,.any,.any,jX [dL (aG 2 n (zX (zZ (α:=Oj) g))),dL (aG 8 m (zX (zZ (α:=Ev) h')))]]++rep [.any] 8}] emp φ:=fun nx tc=>by
     refine YZ (R':=Ku n (zZ g) Au.nil) (i0:=6) (fun i=>gq i 3) (fun H E w h hon hh hd=>apT (n:=n) (n':=zW.addN 0 n) (o:=zZ g) (o':=zW.snoc (AU []) 0 (zX (zZ (α:=Oj) g))) (fun i hi=>by rw[Ed];simp) (gK n) rfl hh hd) fun b=>?_
     refine Xe (c':=LT m (zZ h') b (m:Int) (0:Nat)) (JA:=QO) ⟨?_,trivial,rfl,rfl,rfl⟩ ⟨rfl,rfl,?_,trivial⟩ (fin b)
     ·repeat' (first|exact trivial|refine bW pS.any ?_|refine bW (fun _ _ _ h=>h) ?_)
     ·repeat' (first|exact trivial|refine bW pS.any ?_|refine bW (fun _ _ _ h=>h) ?_)
    have nil:n=0->∀nx tc,Bd aB (CT zW W5) (K0 H w) 43 Xd ⟨[jX [dL (aG 2 n (zX (zZ (α:=Oj) g))),dL (aG 8 m (zX (zZ (α:=Ev) h')))],jY 1 0,rV,fV,fV,jY 4 0,fV]++rep [.any] 6++[.bool ak]++rep [.any] 8++[.bool ak,.any,.any,dL (aG 8 m (zX (zZ (α:=Ev) h'))),.sym .i64 (zW.AO m),.int .i64 (ah 0)]++rep [.any] 16,
      [(0,jZ [dL (aG 2 n (zX (zZ (α:=Oj) g))),dL (aG 8 m (zX (zZ (α:=Ev) h')))] 25),(1,jZ [dL (aG 2 n (zX (zZ (α:=Oj) g))),dL (aG 8 m (zX (zZ (α:=Ev) h')))] 25),(2,mX .i64 (fun _=>aK) [] [] aK),(3,mX .i64 (fun _=>aK) [] [] aK),(4,jZ [kE,oN .i64 (ah 0),kE,pF 2,pF 3] 181)],nx,L0,tc⟩
      [{g:=20,td:=[nR [0,1] [1,2,3,4,5,6],bD [1,1]],tm:=[jX [dL (aG 2 n (zX (zZ (α:=Oj) g))),dL (aG 8 m (zX (zZ (α:=Ev) h')))],jY 0 0,kE,fV,.any,.any,.any,jX [dL (aG 2 n (zX (zZ (α:=Oj) g))),dL (aG 8 m (zX (zZ (α:=Ev) h')))]]++rep [.any] 8}] emp φ:=fun hz nx tc=>by
     refine YZ (R':=Ku n (zZ g) Au.nil) (i0:=4) (fun i=>gq i 2) (fun H E w h hon hh hd=>apU (n:=n) (o:=zZ g) hz rfl hh hd) fun b=>?_
     refine Xe (c':=LT m (zZ h') b (m:Int) (0:Nat)) (JA:=QO) ⟨?_,trivial,rfl,rfl,rfl⟩ ⟨rfl,rfl,?_,trivial⟩ (fin b)
     ·repeat' (first|exact trivial|refine bW pS.any ?_|refine bW (fun _ _ _ h=>h) ?_)
     ·repeat' (first|exact trivial|refine bW pS.any ?_|refine bW (fun _ _ _ h=>h) ?_)
    have hrm:zW.room (zW.addN 0 n) 16=aC:=by rw[Dl,gK];exact Xf (by omega) (by omega)
    refine ⟨Dy _ _,rfl,rfl,fun q4=>?_,fun _=>⟨fun _=>⟨fun q5=>⟨nil (by simpa[XZ] using q5) _ _,hrm,own _ _⟩,fun _=>⟨hrm,own _ _⟩⟩,fun q5=>?_⟩⟩
    ·rw[hb0 q] at q4;cases q4
    ·exfalso
     unfold F8 W9 at q3 q5;rw[G6] at q5;cases hx:I9 (fun k=>QA (zZ (α:=Oj) g k)) 0 n with
     |some x=>rw[hx] at q3;cases q3 |none=>rw[hx] at q5;cases q5
   ·have q3:F8 n m g h'=ak:=hgd ▸ q2
    have:=(h5 q).2 q3;unfold JJ Ny at this ⊢;rw[G6,G6];exact this
 ·exact h.elim
end Go.Ae
namespace Go.Pl
open Go Go.Sx Go.Proofs Go.Gm Go.Bf
open Go.BF (Au Fj dfn GU takeB Kv Vj Vk Iu F8 JJ Ny QB)
open Go.Ae (Vg)
noncomputable def BI(n:Nat)(g:Nat->List Sh)(m:Nat)(h:Nat->List Sh):WY where
 okb:=!Iu n m&&(F8 n m g h&&takeB m (dM h))
 JG:=!Iu n m
 pos:=if F8 n m g h=aC then Vj m (dM h) else JJ n m g h
 e:=if Iu n m=aC then 6 else if F8 n m g h=aC then Vk m (dM h) else Ny n m g h
 n:=(Kv m (dM h)).rs.length
 T:=zZ (Vg Fj dfn (GU (Kv m (dM h))))
structure Yr(n:Nat)(g:Nat->List Sh)(m:Nat)(h:Nat->List Sh):Prop where
 o:oC Go.BF.Oj n g=aC
 p:oC Go.BF.Ev m h=aC
 r:QB m h=aC
 k:Qm n (zZ g)=aC
def hsS(n:Nat)(g:Nat->List Sh)(m:Nat)(h:Nat->List Sh):Sh:=.agg [.sl 2 n g,.sl 8 m h]
noncomputable def Bz(lv:Int)(o:Nat)(og:Nat->List Sh)(B:WY):Ht where
 okb:=B.okb&&decide (B.n<=12)
 JG:=!B.okb&&B.JG
 pos:=B.pos
 e:=if B.okb=aC then 1 else B.e
 lv:=lv
 N:=(G7 lv B.n B.T).length
 T:=nth (G7 lv B.n B.T)
 ms:=mkI lv (G7 lv B.n B.T)
 k0:=o
 g0:=Hu og
theorem akL(rs:Nat->Go.BF.Rc):∀n,okB Ef n (Vg Fj dfn rs)=aC
 |0=>rfl |n+1=>by
  show (okB Ef n (Vg Fj dfn rs)&&_)=aC;rw[akL rs n];rfl
end Go.Pl
namespace Go.Proofs
open Go Go.Sx Go.Pl Go.Gm Go.Bf
open Go.BF (Au Fj dfn GU takeB Kv Vj Vk Iu F8 JJ Ny QB)
open Go.Ae (Vg)
theorem O20{n:Nat}{g:Nat->List Sh}{m:Nat}{h:Nat->List Sh}(P:Yr n g m h):Ar aB (AZ W7) 20 (D20 (hsS n g m h) (BI n g m h)):=by
 refine aoj Go.Ae.O32 fun A8 φ hφ=>?_
 unfold D20 at hφ;split at hφ
 ·rename_i s
  obtain ⟨h1,h2,h3⟩:=hφ;have hs:s=hsS n g m h:=@of_decide_eq_true _ (bM _) h1;subst hs;have sl:∀{k:Nat} {f f':Nat->List Sh},(∀j,j<k->f j=f' j)->Wk (.sl 7 k f) (.sl 7 k f'):=fun hf=>.inr ⟨rfl,rfl,hf⟩;have n0:Wk (.sl 0 0 fun _=>[]) (.sl 0 0 fun _=>[]):=.inl ⟨rfl,rfl⟩;cases hb:Iu n m with
  |true=>
   have e1:(BI n g m h).okb=ak:=by unfold BI;simp[hb]
   have e2:(BI n g m h).JG=ak:=by unfold BI;simp[hb]
   have e3:(BI n g m h).e=6:=by unfold BI;simp[hb]
   have q:=(h3 e1).2 e2;rw[e3] at q;exact ⟨_,q,P.o,P.p,P.r,fun _=>⟨n0,rfl,trivial⟩,fun x=>by rw[hb] at x;cases x⟩
  |false=>
   have e2:(BI n g m h).JG=aC:=by unfold BI;simp[hb]
   cases hg:F8 n m g h with
   |true=>
    cases ht:takeB m (dM h) with
    |true=>
     have e1:(BI n g m h).okb=aC:=by unfold BI;simp[hb,hg,ht]
     exact ⟨_,h2 e1,P.o,P.p,P.r,fun x=>(by rw[hb] at x;cases x),fun _=>⟨fun _=>⟨fun _=>⟨.inr ⟨rfl,rfl,fun j hj=>JB (akL _ _) j hj⟩,rfl,trivial⟩,fun x=>(by rw[ht] at x;cases x)⟩,fun x=>(by rw[hg] at x;cases x)⟩⟩
    |false=>
     have e1:(BI n g m h).okb=ak:=by unfold BI;simp[hb,hg,ht]
     have e3:(BI n g m h).e=Vk m (dM h):=by unfold BI;simp[hb,hg]
     have e4:(BI n g m h).pos=Vj m (dM h):=by unfold BI;simp[hg]
     have q:=(h3 e1).1 e2;rw[e3,e4] at q;exact ⟨_,q,P.o,P.p,P.r,fun x=>(by rw[hb] at x;cases x),fun _=>⟨fun _=>⟨fun x=>(by rw[ht] at x;cases x),fun _=>⟨n0,rfl,trivial⟩⟩,fun x=>(by rw[hg] at x;cases x)⟩⟩
   |false=>
    have e1:(BI n g m h).okb=ak:=by unfold BI;simp[hb,hg]
    have e3:(BI n g m h).e=Ny n m g h:=by unfold BI;simp[hb,hg]
    have e4:(BI n g m h).pos=JJ n m g h:=by unfold BI;simp[hg]
    have q:=(h3 e1).1 e2;rw[e3,e4] at q;exact ⟨_,q,P.o,P.p,P.r,fun x=>(by rw[hb] at x;cases x),fun _=>⟨fun x=>(by rw[hg] at x;cases x),fun _=>⟨n0,rfl,trivial⟩⟩⟩
 ·exact hφ.elim
theorem Fa{n:Nat}{g:Nat->List Sh}{m:Nat}{h:Nat->List Sh}{B:WY}{lv:Int}(O:Ar aB (AZ W7) 20 (D20 (hsS n g m h) B))(h1:1<=lv)(h3:lv<=3)(hw:B.okb=aC->nwB n g=aC):
  Ar aB (AZ W7) 40 (WU (hsS n g m h) lv (Bz lv n g B)):=by
 refine FN (C:=C7 zW W7 (Qy (hsS n g m h) B) Ap) (C7.ok _ _) (fn:=yU) (by kernel_rfl) (by kernel_rfl) fun H w A8 args φ hrep hφ=>?_
 have hn:yU.ntmps=71:=by kernel_rfl
 unfold WU at hφ;split at hφ
 ·rename_i s t
  split at hφ
  ·rename_i l e1
   obtain ⟨q1,q2,q3⟩:=hφ;obtain ⟨rfl,rfl⟩:s=hsS n g m h/\l=lv:=@of_decide_eq_true _ (bM _) q1;match args,hrep with
   |[v,u],⟨rv,ru,_⟩=>
    refine ⟨[hsS n g m h,.i .i64 l],⟨rv,Ej e1 ru,trivial⟩,L0,?_⟩;refine EJ (C7.ok _ _) (ae9 O _) (hold:=Bh) (m:=300) (n:=400) (ts:=[⟨40,Zb,Zc n m g h l B.n B.T 0 (nth []) ((0:Nat):Int),[]⟩]) ?_;rw[hn];refine ai7 zW W7 B l n m g h (nth []) ((0:Nat):Int) rfl rfl rfl (@decide_eq_true _ (bM _) rfl) (fun c0 c1=>?_) (fun c0 c1=>?_) (fun c0 c2=>?_) (fun c0 c2=>?_)
    ·have hbig:¬B.n<=12:=by simp[Ad,Az] at c1;omega
     have e:(Bz l n g B).okb=ak:=by unfold Bz;simp[hbig]
     have e2:(Bz l n g B).JG=ak:=by unfold Bz;simp[c0]
     have e3:(Bz l n g B).e=1:=by unfold Bz;simp[c0]
     have q:=(q3 e).2 e2;rw[e3] at q;exact BH (s':=.Ak [.v (.pointer aK),.er 1 329]) ⟨rfl,rfl,trivial⟩ q
    ·have hsm:B.n<=12:=by simp[Ad,Az] at c1;omega
     have e:(Bz l n g B).okb=aC:=by unfold Bz;simp[c0,hsm]
     have q:=q2 e;exact ⟨⟨rfl,rfl,rfl,rfl,rfl,rfl,rfl,rfl,rfl,trivial⟩,_,rfl,afa O h1 h3 hsm (hw c0) q B.n 0 [] (by omega) (by simp) (by rw[List.nil_append,ahj])⟩
    ·have e:(Bz l n g B).okb=ak:=by unfold Bz;simp[c0]
     have e2:(Bz l n g B).JG=aC:=by unfold Bz;simp[c0,c2]
     have e3:(Bz l n g B).e=B.e:=by unfold Bz;simp[c0]
     have q:=(q3 e).1 e2;rw[e3] at q;exact BH (s':=.Ak [.v (.pointer aK),.CS 109 (.pt [.i .i64 B.pos,.er B.e 329])]) ⟨rfl,rfl,trivial⟩ q
    ·have e:(Bz l n g B).okb=ak:=by unfold Bz;simp[c0]
     have e2:(Bz l n g B).JG=ak:=by unfold Bz;simp[c0,c2]
     have e3:(Bz l n g B).e=B.e:=by unfold Bz;simp[c0]
     have q:=(q3 e).2 e2;rw[e3] at q;exact BH (s':=.Ak [.v (.pointer aK),.er B.e 329]) ⟨rfl,rfl,trivial⟩ q
  ·exact hφ.elim
 ·exact hφ.elim
end Go.Proofs
namespace Go.Pl
open Go Go.Sx
def Nz(s t:Cm):Bool:=decide (s=t)
open Go Go.Sx Go.Proofs
structure Rf where
 kind:Int
 num:Int
 keys:List Int
 vals:List Int
 deriving DecidableEq,Inhabited
def rfS(s:Rf):List Sh:=[.i .i64 s.kind,.i .i64 s.num,.sl 1 (len s.keys) (zX (nth s.keys)),.sl 1 (len s.vals) (zX (nth s.vals))]
def awD(o:Nat->Oj)(j:Nat):Rf:=⟨(o j).kind,(o j).init,[],[]⟩
def NC(l:List Int)(key:Int):Nat:=(l.takeWhile fun p=>decide (p<key)).length
def hasK(l:List Int)(key:Int):Bool:=decide (NC l key<l.length)&&(nth l (NC l key)==key)
def Zk(kind num op k v:Int):Int:=
 if kind=0\/LG op≠kind then 111
 else if (keyed op=ak/\k≠0)\/k<0\/1000<k\/(valued op=ak/\v≠0)\/v < -1000000000\/1000000000<v then 110
 else if op=3/\(JQ num v < -1000000000000000\/1000000000000000<JQ num v) then 110
 else 0
def ajo(s:Rf)(op k v:Int):Rf×Int×Int:=
 if op=1\/op=4 then (s,3,s.num)
 else if op=2 then ({s with num:=v},1,0)
 else if op=3 then ({s with num:=JQ s.num v},1,0)
 else if op=5 then ({s with vals:=s.vals++[v]},1,0)
 else if op=6 then ({s with vals:=s.vals.tail},Ug s.vals.length,s.vals.headD 0)
 else if op=7 then (if hasK s.keys k=aC then {s with vals:=s.vals.set (NC s.keys k) v} else {s with keys:=s.keys.take (NC s.keys k)++k::s.keys.drop (NC s.keys k),vals:=s.vals.take (NC s.keys k)++v::s.vals.drop (NC s.keys k)},1,0)
 else if op=8 then (s,if hasK s.keys k=aC then 3 else 2,if hasK s.keys k=aC then nth s.vals (NC s.keys k) else 0)
 else if op=9 then (if hasK s.keys k=aC then {s with keys:=s.keys.take (NC s.keys k)++s.keys.drop (NC s.keys k+1),vals:=s.vals.take (NC s.keys k)++s.vals.drop (NC s.keys k+1)} else s,if hasK s.keys k=aC then 3 else 2,if hasK s.keys k=aC then nth s.vals (NC s.keys k) else 0)
 else (s,0,0)
def opS(r:Rf)(op k v:Int):Rf:=(ajo r op k v).1
def QE(k:Int):List UInt8:=qZ 16 (k - 1).toNat
def qU(r:List Int)(j:Nat):List UInt8:=(aX j).flatMap fun i=>32::AV (nth r i)
def pU(l r:List Int)(j:Nat):List UInt8:=(aX j).flatMap fun i=>32::(AV (nth l i)++58::AV (nth r i))
def Pq(s:Rf):List UInt8:=if s.kind=0 then [] else QE s.kind++(if s.kind<=2 then 32::AV s.num else if s.kind=3 then qU s.vals s.vals.length else pU s.keys s.vals s.vals.length)
noncomputable def rowB(l:List Sh):Bool:=@decide (∃r:Rf,l=rfS r) (bM _)
def OH(d:Nat->Rf):Nat->List UInt8
 |0=>[] |k+1=>OH d k++((if k=0 then [] else [59,32])++Pq (d k))
def Un(n:Nat)(d:Nat->Cm):List UInt8:=adE ((aX n).map d)
def CW(n:Nat)(d:Nat->Cm)(m:Nat)(f:Nat->Rf):Bool:=(Un n d==OH f m)&&((n:Int)==(m:Int))
def toR(s:Cm):Rf:=⟨s.kind,s.num,s.ps.map (·.key),s.q++s.ps.map (·.val)⟩
theorem TL(ps:List Pr)(k:Int):NC (ps.map (·.key)) k=BN ps k:=by
 unfold NC BN;rw[List.takeWhile_map,dW];rfl
theorem arg_eq(x y op k v:Int):Zk x y op k v=if Gw x op=aC then 111 else if Ij x y op k v=aC then 110 else 0:=by
 by_cases h1:x=0\/LG op≠x
 ·have:Gw x op=aC:=by
   unfold Gw;rcases h1 with h1|h1<;>simp[h1]
  rw[if_pos this];unfold Zk;rw[if_pos h1]
 ·have hx:x≠0/\LG op=x:=⟨fun e=>h1 (.inl e),jV fun e=>h1 (.inr e)⟩
  have:¬Gw x op=aC:=by
   unfold Gw;simp[hx.1,hx.2]
  rw[if_neg this];unfold Zk;rw[if_neg h1];have h3:op=3->x=2:=fun e=>by rw[<-hx.2,e];decide
  have e1:(Ij x y op k v=aC)↔((keyed op=ak/\k≠0)\/k<0\/1000<k\/(valued op=ak/\v≠0)\/v < -1000000000\/1000000000<v)\/(op=3/\(JQ y v < -1000000000000000\/1000000000000000<JQ y v)):=by
   unfold Ij IQ;by_cases h:op=3
   ·have:=h3 h
    subst this;cases keyed op<;>cases valued op<;>simp[h]<;>omega
   ·cases keyed op<;>cases valued op<;>simp[h]<;>omega
  by_cases a:(keyed op=ak/\k≠0)\/k<0\/1000<k\/(valued op=ak/\v≠0)\/v < -1000000000\/1000000000<v
  ·rw[if_pos a,if_pos (e1.2 (.inl a))]
  ·rw[if_neg a]
   by_cases b:op=3/\(JQ y v < -1000000000000000\/1000000000000000<JQ y v)
   ·rw[if_pos b,if_pos (e1.2 (.inr b))]
   ·rw[if_neg b,if_neg fun e=>(e1.1 e).elim a b]
theorem ab4(ps:List Pr){i:Nat}(h:i<ps.length):nth (ps.map (·.key)) i=(nth ps i).key:=by simp[nth,h]
theorem apW(ps:List Pr){i:Nat}(h:i<ps.length):nth (ps.map (·.val)) i=(nth ps i).val:=by simp[nth,h]
theorem ahw:∀{ps:List Pr} {k:Int},(ps.Pairwise fun a b=>a.key<b.key)->(D9 ps k=aC↔BN ps k<ps.length/\(nth ps (BN ps k)).key=k)
 |[],k,_=>by simp[D9,BN] |a::ps,k,h=>by
  rw[sZ] at h;have ih:=ahw (ps:=ps) (k:=k) h.2;by_cases hk:a.key<k
  ·have e:BN (a::ps) k=BN ps k+1:=by simp[BN,jr,hk]
   have e2:D9 (a::ps) k=D9 ps k:=by
    have:(a.key==k)=ak:=by simp;omega
    simp[D9,this]
   rw[e,e2,ih];simp[nth]
  ·have e:BN (a::ps) k=0:=by simp[BN,jr,hk]
   rw[e];constructor
   ·intro q
    refine ⟨by simp,?_⟩;show a.key=k;simp only[D9,List.any_cons,nC,beq_iff_eq,pG] at q;rcases q with q|⟨b,hb,q⟩
    ·exact q
    ·have:=h.1 b hb
     omega
   ·intro ⟨_,q⟩
    have q:a.key=k:=q;simp[D9,q]
theorem adY{ps:List Pr}{k:Int}(h:ps.Pairwise fun a b=>a.key<b.key):hasK (ps.map (·.key)) k=D9 ps k:=by
 have e:hasK (ps.map (·.key)) k=aC↔D9 ps k=aC:=by
  rw[ahw h];unfold hasK;rw[TL,aI,decide_eq_true_eq,dW,beq_iff_eq];constructor
  ·intro ⟨q1,q2⟩
   exact ⟨q1,by rw[<-ab4 ps q1];exact q2⟩
  ·intro ⟨q1,q2⟩
   exact ⟨q1,by rw[ab4 ps q1];exact q2⟩
 cases h1:hasK (ps.map (·.key)) k<;>cases h2:D9 ps k<;>simp_all
theorem ab5{ps:List Pr}:Qo ps=aC↔(ps.Pairwise fun a b=>a.key<b.key)/\∀p∈ps,0<=p.key/\p.key<=1000:=by
 unfold Qo;rw[aI,decide_eq_true_eq,dO];simp
theorem ahx{ps:List Pr}{k v:Int}(hs:ps.Pairwise fun a b=>a.key<b.key)(h:D9 ps k=aC):(ES ps k v).map (·.key)=ps.map (·.key):=by
 obtain ⟨h1,h2⟩:=O7 hs h;rw[aeU h,yF];show (ps.map (·.key)).set _ k=_;have:(ps.map (·.key))[BN ps k]'(by simpa using h1)=k:=by simpa using h2
 have e:(ps.map (·.key)).set (BN ps k) ((ps.map (·.key))[BN ps k]'(by simpa using h1))=ps.map (·.key):=List.set_getElem_self _;rw[this] at e;exact e
theorem apX{ps:List Pr}{k v:Int}(h:Qo ps=aC)(hk:0<=k/\k<=1000):Qo (ES ps k v)=aC:=by
 rw[ab5] at h ⊢;obtain ⟨hs,hb⟩:=h;cases hh:D9 ps k with
 |true=>
  have e:=ahx (v:=v) hs hh;refine ⟨?_,fun p hp=>?_⟩
  ·have:(ps.map (·.key)).Pairwise (·<·):=uy.2 hs
   rw[<-e] at this;exact uy.1 this
  ·have:p.key∈(ES ps k v).map (·.key):=dK.2 ⟨p,hp,rfl⟩
   rw[e] at this;obtain ⟨q,hq,e2⟩:=dK.1 this;rw[<-e2];exact hb q hq
 |false=>
  rw[aeT hh];have hl:=agS ps k;have hg:=agT (key:=k) hs;have hn:∀p∈ps,p.key≠k:=fun p hp e=>by
   have:D9 ps k=aC:=pG.2 ⟨p,hp,by simp[e]⟩;rw[hh] at this;cases this
  have ht:∀p∈ps.take (BN ps k),p.key<k:=fun p hp=>by
   obtain ⟨j,hj,e⟩:=List.mem_take_iff_getElem.1 hp;rw[<-e];exact hl j (by omega) (by omega)
  have hd:∀p∈ps.drop (BN ps k),k<p.key:=fun p hp=>by
   obtain ⟨j,hj,e⟩:=List.mem_drop_iff_getElem.1 hp;have h1:=hg (BN ps k+j) (by omega) (by omega);have h2:=hn p (jq hp);rw[e] at h1;omega
  refine ⟨List.pairwise_append.2 ⟨hs.sublist (List.take_sublist _ _),sZ.2 ⟨fun p hp=>hd p hp,hs.sublist (uz _ _)⟩,fun a ha b hb=>?_⟩,fun p hp=>?_⟩
  ·rcases gZ.1 hb with rfl|hb
   ·exact ht a ha
   ·have:=ht a ha
    have:=hd b hb;omega
  ·rcases bK.1 hp with hp|hp
   ·exact hb p (mG hp)
   ·rcases gZ.1 hp with rfl|hp
    ·exact hk
    ·exact hb p (jq hp)
theorem apY{ps:List Pr}{k:Int}(h:Qo ps=aC):Qo (FP ps k)=aC:=by
 cases hh:D9 ps k with
 |false=>rw[aeV hh];exact h |true=>
  rw[aeW hh];rw[ab5] at h ⊢;have sub:(ps.take (BN ps k)++ps.drop (BN ps k+1)).Sublist ps:=by
   conv=>rhs;rw[<-List.take_append_drop (BN ps k) ps]
   refine vI (vJ _) ?_;rw[<-List.drop_drop];exact uz _ _
  exact ⟨h.1.sublist sub,fun p hp=>h.2 p (sub.subset hp)⟩
structure Jk(m:Nat)(s:Cm):Prop where
 kind:1<=s.kind/\s.kind<=4
 q0:s.kind≠3->s.q=[]
 p0:s.kind≠4->s.ps=[]
 wf:Qo s.ps=aC
 num:-1000000000000000<=s.num/\s.num<=1000000000000000
 qv:∀x∈s.q,-1000000000<=x/\x<=1000000000
 pv:∀p∈s.ps,-1000000000<=p.val/\p.val<=1000000000
 ql:s.q.length<=m
 pl:s.ps.length<=m
 n0:2<s.kind->s.num=0
theorem akM{x y op k v:Int}(h:Zk x y op k v=0):(x≠0/\LG op=x)/\(0<=k/\k<=1000)/\(-1000000000<=v/\v<=1000000000)/\(op=3->-1000000000000000<=JQ y v/\JQ y v<=1000000000000000):=by
 unfold Zk at h;split at h
 ·omega
 ·rename_i h1
  split at h
  ·omega
  ·rename_i h2
   split at h
   ·omega
   ·rename_i h3
    refine ⟨⟨fun e=>h1 (.inl e),jV fun e=>h1 (.inr e)⟩,?_,?_,fun e=>?_⟩
    ·constructor
     ·exact lU.1 fun e=>h2 (.inr (.inl e))
     ·exact lU.1 fun e=>h2 (.inr (.inr (.inl e)))
    ·constructor
     ·exact lU.1 fun e=>h2 (.inr (.inr (.inr (.inr (.inl e)))))
     ·exact lU.1 fun e=>h2 (.inr (.inr (.inr (.inr (.inr e)))))
    ·constructor
     ·exact lU.1 fun e2=>h3 ⟨e,.inl e2⟩
     ·exact lU.1 fun e2=>h3 ⟨e,.inr e2⟩
theorem alZ{x y op k v:Int}(h:Zk x y op k v=0):op=1\/op=2\/op=3\/op=4\/op=5\/op=6\/op=7\/op=8\/op=9:=by
 obtain ⟨⟨q1,q2⟩,_⟩:=akM h;unfold LG at q2;split at q2
 ·omega
 ·split at q2
  ·omega
  ·split at q2
   ·omega
   ·split at q2
    ·omega
    ·omega
theorem al0{m:Nat}{s:Cm}{op k v:Int}(h:Jk m s)(ha:Zk s.kind s.num op k v=0):opS (toR s) op k v=toR (ED s op k v).1/\Jk (m+1) (ED s op k v).1:=by
 obtain ⟨⟨k0,hk⟩,⟨b1,b2⟩,bv,bs⟩:=akM ha;have hop:=alZ ha;have h':Jk (m+1) s:={h with ql:=uY h.ql,pl:=uY h.pl}
 obtain ⟨kind,num,q,ps⟩:=s;rcases hop with rfl|rfl|rfl|rfl|rfl|rfl|rfl|rfl|rfl
 ·exact ⟨rfl,h'⟩
 ·exact ⟨rfl,{h' with num:=⟨by show _<=v;omega,by show v<=_;omega⟩,n0:=fun e=>by have hk:(1:Int)=kind:=hk;have e:2<kind:=e;omega}⟩
 ·exact ⟨rfl,{h' with num:=bs rfl,n0:=fun e=>by have hk:(2:Int)=kind:=hk;have e:2<kind:=e;omega}⟩
 ·exact ⟨rfl,h'⟩
 ·have hk:(3:Int)=kind:=hk
  subst hk;have hp:ps=[]:=h.p0 (show (3:Int)≠4 by decide);subst hp;refine ⟨by simp[opS,ajo,ED,toR],{h' with q0:=fun e=>absurd rfl e,qv:=fun x hx=>?_,ql:=?_}⟩
  ·have hx:x∈q++[v]:=hx
   rcases bK.1 hx with hx|hx
   ·exact h.qv x hx
   ·simp at hx;subst hx;exact bv
  ·show (q++[v]).length<=m+1
   have:=h.ql;simp at this ⊢;exact this
 ·have hk:(3:Int)=kind:=hk
  subst hk;have hp:ps=[]:=h.p0 (show (3:Int)≠4 by decide);subst hp;refine ⟨by simp[opS,ajo,ED,toR],{h' with q0:=fun e=>absurd rfl e,qv:=fun x hx=>h.qv x (List.mem_of_mem_tail hx),ql:=?_}⟩
  show q.tail.length<=m+1;have:=h.ql;simp at this ⊢;omega
 ·have hk:(4:Int)=kind:=hk
  subst hk;have hq:q=[]:=h.q0 (show (4:Int)≠3 by decide);subst hq;have hs:=GR h.wf;refine ⟨?_,{h' with p0:=fun e=>absurd rfl e,wf:=apX h.wf ⟨b1,b2⟩,pv:=fun p hp=>?_,pl:=?_}⟩
  ·show (if hasK (ps.map (·.key)) k=aC then (_:Rf) else _)=⟨4,num,(ES ps k v).map (·.key),[]++(ES ps k v).map (·.val)⟩
   rw[adY hs];cases hh:D9 ps k with
   |true=>
    rw[if_pos rfl,ahx hs hh,aeU hh];simp[toR,TL,yF]
   |false=>
    rw[if_neg (by simp),aeT hh];simp[toR,TL,wZ,xg]
  ·have hp:p∈ES ps k v:=hp
   unfold ES at hp;split at hp
   ·rcases List.mem_or_eq_of_mem_set hp with hp|rfl
    ·exact h.pv p hp
    ·exact bv
   ·rcases bK.1 hp with hp|hp
    ·exact h.pv p (mG hp)
    ·rcases gZ.1 hp with rfl|hp
     ·exact bv
     ·exact h.pv p (jq hp)
  ·show (ES ps k v).length<=m+1
   have:=h.pl;have:ps.length<=m:=this;rw[abn];split<;>omega
 ·exact ⟨rfl,h'⟩
 ·have hk:(4:Int)=kind:=hk
  subst hk;have hq:q=[]:=h.q0 (show (4:Int)≠3 by decide);subst hq;have hs:=GR h.wf;refine ⟨?_,{h' with p0:=fun e=>absurd rfl e,wf:=apY h.wf,pv:=fun p hp=>?_,pl:=?_}⟩
  ·show (if hasK (ps.map (·.key)) k=aC then (_:Rf) else _)=⟨4,num,(FP ps k).map (·.key),[]++(FP ps k).map (·.val)⟩
   rw[adY hs];cases hh:D9 ps k with
   |true=>
    rw[if_pos rfl,aeW hh];simp[toR,TL,wZ,xg]
   |false=>
    rw[if_neg (by simp),aeV hh];rfl
  ·have hp:p∈FP ps k:=hp
   unfold FP at hp;split at hp
   ·rcases bK.1 hp with hp|hp
    ·exact h.pv p (mG hp)
    ·exact h.pv p (jq hp)
   ·exact h.pv p hp
  ·show (FP ps k).length<=m+1
   have:ps.length<=m:=h.pl;rw[agU (show Qo ps=aC from h.wf)];split<;>omega
theorem Zl{α:Type}[Row α](l:List α)(F:α->List UInt8):(aX l.length).flatMap (fun i=>F (nth l i))=l.flatMap F:=by
 have:=aa9 l;conv=>rhs;rw[<-this]
 rw[oD]
theorem ajp(q:List Int):qU q q.length=q.flatMap fun x=>32::AV x:=Zl q fun x=>32::AV x
theorem ajq(ps:List Pr):pU (ps.map (·.key)) (ps.map (·.val)) ps.length=ps.flatMap fun p=>32::(AV p.key++58::AV p.val):=by
 rw[<-Zl ps fun p=>32::(AV p.key++58::AV p.val)];unfold pU;rw[lV,lV];congr 1;refine jO fun i hi=>?_
 have hi:=dP.1 hi;rw[ab4 ps hi,apW ps hi]
theorem ab6(l:List (List UInt8)):kC [32] l=l.flatMap fun x=>32::x:=by
 unfold kC;rw[lV];rfl
theorem key_eq{m:Nat}{s:Cm}(h:Jk m s):keyS s=Pq (toR s):=by
 obtain ⟨kind,num,q,ps⟩:=s;have hk:1<=kind/\kind<=4:=h.kind;unfold keyS JD Dn;rw[lq,ab6];have:kind=1\/kind=2\/kind=3\/kind=4:=by omega
 rcases this with rfl|rfl|rfl|rfl
 ·simp[Pq,toR];rfl
 ·simp[Pq,toR];rfl
 ·have hp:ps=[]:=h.p0 (show (3:Int)≠4 by decide)
  subst hp;have:=ajp q;simp[Pq,toR,this,oD];rfl
 ·have hq:q=[]:=h.q0 (show (4:Int)≠3 by decide)
  subst hq;have:=ajq ps;simp[Pq,toR,this,oD];rfl
theorem ajr(l:List (List UInt8))(x sep:List UInt8):Dn (l++[x]) sep=Dn l sep++((if l=[] then [] else sep)++x):=by
 unfold Dn;cases l with
 |nil=>simp[Go.Lib.join_one,Go.Lib.join_nil] |cons a l=>
  rw[uZ,lq,lq];simp[kC]
theorem keys_eq{m:Nat}{d:Nat->Cm}:∀n,(∀j,j<n->Jk m (d j))->Un n d=OH (fun j=>toR (d j)) n
 |0,_=>rfl |n+1,h=>by
  have ih:=keys_eq n fun j hj=>h j (by omega);unfold Un adE at ih ⊢;rw[qh,iO,iO,tq,tq,ajr,ih,OH,key_eq (h n (by omega))];congr 2;cases n with
  |zero=>rfl |succ n=>simp[qh]
theorem apZ{m:Nat}{s:Cm}(hm:m<=100000)(h:Jk m s):WR s=aC:=by
 obtain ⟨⟨k1,k2⟩,_,_,wf,⟨n1,n2⟩,qv,pv,ql,pl,_⟩:=h;have wf:=ab5.1 wf;unfold WR;simp only[aI,dO,decide_eq_true_eq];refine ⟨⟨⟨⟨decide_eq_true ⟨by omega,by omega⟩,decide_eq_true ⟨by omega,by omega⟩⟩,fun x hx=>?_⟩,fun p hp=>⟨?_,?_⟩⟩,by omega,by omega⟩
 ·have:=qv x hx;exact decide_eq_true ⟨by omega,by omega⟩
 ·have:=wf.2 p hp;exact decide_eq_true ⟨by omega,by omega⟩
 ·have:=pv p hp;exact decide_eq_true ⟨by omega,by omega⟩
theorem al1{m n:Nat}{d:Nat->Cm}{i op:Int}(hm:m<=50000)(h:∀j,j<n->Jk m (d j)):abt n d i op=aC:=by
 unfold abt;cases hi:JC n i with
 |false=>rfl |true=>
  have hi:0<=i/\i<n:=of_decide_eq_true hi;obtain ⟨_,_,_,wf,_,_,_,ql,pl,_⟩:=h i.toNat (by omega);show (_&&_)=aC;rw[aI];refine ⟨mV (show (d i.toNat).q.length+1<=_ by omega) (by omega),?_⟩;unfold J9;rw[nC,aI];refine .inr ⟨Hr.2 ⟨Dy _ _,show (d i.toNat).ps.length<=_ by omega,?_⟩,mV (show (d i.toNat).ps.length+1<=_ by omega) (by omega)⟩;rw[show lst Pr (len (d i.toNat).ps) (zX (nth (d i.toNat).ps))=(d i.toNat).ps from KN _];exact wf
theorem ap0{o:Nat->Oj}{j:Nat}(h:EO (o j).kind (o j).init=ak):Jk 0 (newT o j)/\toR (newT o j)=awD o j:=by
 unfold EO at h;simp only[Bool.or_eq_false_iff,Bool.not_eq_false',aI,decide_eq_true_eq,decide_eq_false_iff_not] at h;exact ⟨⟨h.1.1.1,fun _=>rfl,fun _=>rfl,(show Qo []=aC from rfl),⟨(by show _<=(o j).init;omega),(by show (o j).init<=_;omega)⟩,(fun x hx=>(vg hx).elim),(fun p hp=>(vg hp).elim),dn _,dn _,(fun e=>by have e:2<(o j).kind:=e;show (o j).init=0;have:=h.2;simp at this;omega)⟩,rfl⟩
open Go.Lib (decDigits itoa)
def asl(l:List UInt8):Nat:=l.foldl (fun a c=>a*10+(c.toNat - 48)) 0
theorem ahy{d:Nat}(h:d<10):(ku (48+d)).toNat=48+d:=by
 rw[UInt8.toNat_ofNat'];omega
theorem Pv(u:Nat):asl (decDigits u)=u/\(∀c∈decDigits u,48<=c.toNat/\c.toNat<=57)/\decDigits u≠[]:=by
 induction u using Nat.strongRecOn with
 |ind u ih=>
  rw[decDigits];by_cases h:u<10
  ·rw[dif_pos h]
   have:=ahy h;refine ⟨?_,fun c hc=>?_,by simp⟩
   ·show 0*10+((ku (48+u)).toNat - 48)=u
    rw[this];omega
   ·obtain rfl:c=ku (48+u):=by simpa using hc
    rw[this];omega
  ·rw[dif_neg h]
   obtain ⟨q1,q2,q3⟩:=ih (u / 10) (by omega);have:=ahy (d:=u % 10) (by omega);refine ⟨?_,fun c hc=>?_,by simp⟩
   ·unfold asl at q1 ⊢
    rw[List.foldl_append,q1];show u / 10*10+((ku (48+u % 10)).toNat - 48)=u;rw[this];omega
   ·rcases bK.1 hc with hc|hc
    ·exact q2 c hc
    ·obtain rfl:c=ku (48+u % 10):=by simpa using hc
     rw[this];omega
theorem ahz{a b:Nat}(h:decDigits a=decDigits b):a=b:=by
 have h1:=(Pv a).1;rw[h,(Pv b).1] at h1;exact h1.symm
theorem ahA{n:Int}{c:UInt8}(h:c∈AV n):c.toNat=45\/(48<=c.toNat/\c.toNat<=57):=by
 unfold AV itoa at h;split at h
 ·rcases gZ.1 h with rfl|h
  ·exact .inl rfl
  ·exact .inr ((Pv _).2.1 c h)
 ·exact .inr ((Pv _).2.1 c h)
theorem Px{a b:Int}(h:AV a=AV b):a=b:=by
 have head (u v:Nat) (h:45::decDigits u=decDigits v):False:=by
  have:(45:UInt8)∈decDigits v:=by rw[<-h];simp
  have:=(Pv v).2.1 _ this;simp at this
 unfold AV itoa at h;split at h
 ·split at h
  ·injection h with _ h
   have:=ahz h;omega
  ·exact (head _ _ h).elim
 ·split at h
  ·exact (head _ _ h.symm).elim
  ·have:=ahz h
   omega
theorem akN{z:UInt8}{a r:List UInt8}(ha:z ∉ a)(hr:r=[]\/∃t,r=z::t):(a++r).takeWhile (fun c=>!(c==z))=a:=by
 rw[List.takeWhile_append_of_pos fun c hc=>by
  have:c≠z:=fun e=>ha (e ▸ hc);simp[this]]
 rcases hr with rfl|⟨t,rfl⟩
 ·simp
 ·simp
theorem ab7{z:UInt8}{a b r r':List UInt8}(ha:z ∉ a)(hb:z ∉ b)(hr:r=[]\/∃t,r=z::t)(hr':r'=[]\/∃t,r'=z::t)(h:a++r=b++r'):a=b/\r=r':=by
 have h1:=akN ha hr;rw[h,akN hb hr'] at h1;subst h1;exact ⟨rfl,iV h⟩
theorem ab8{α:Type}{z:UInt8}{f:α->List UInt8}:∀l:List α,(l.flatMap fun x=>z::f x)=[]\/∃t,(l.flatMap fun x=>z::f x)=z::t
 |[]=>.inl rfl |a::l=>.inr ⟨_,rfl⟩
theorem Yt{α:Type}{z:UInt8}{f:α->List UInt8}(hz:∀x,z ∉ f x)(hf:∀x y,f x=f y->x=y):∀l l':List α,(l.flatMap fun x=>z::f x)=(l'.flatMap fun x=>z::f x)->l=l'
 |[],[],_=>rfl |[],_::_,h=>by cases h |_::_,[],h=>by cases h |a::l,b::l',h=>by
  simp only[List.flatMap_cons,uZ] at h;injection h with _ h
  obtain ⟨h1,h2⟩:=ab7 (hz a) (hz b) (ab8 l) (ab8 l') h;rw[hf a b h1,Yt hz hf l l' h2]
theorem Py{n:Int}{z:UInt8}(h:z.toNat=32\/z.toNat=58\/z.toNat=59):z ∉ AV n:=fun hc=>by
 have:=ahA hc;omega
theorem al2{a b c d:Int}(h:AV a++58::AV b=AV c++58::AV d):a=c/\b=d:=by
 obtain ⟨h1,h2⟩:=ab7 (z:=58) (Py (by decide)) (Py (by decide)) (.inr ⟨_,rfl⟩) (.inr ⟨_,rfl⟩) h;injection h2 with _ h2
 exact ⟨Px h1,Px h2⟩
theorem al3{m m':Nat}{s t:Cm}(hs:Jk m s)(ht:Jk m' t)(hk:s.kind=t.kind)(hn:s.kind<=2\/s.num=t.num)(h:Pq (toR s)=Pq (toR t)):s=t:=by
 obtain ⟨kind,num,q,ps⟩:=s;obtain ⟨kind',num',q',ps'⟩:=t;have hk:kind=kind':=hk;subst hk;have hkk:1<=kind/\kind<=4:=hs.kind;have hn:kind<=2\/num=num':=hn;have:kind=1\/kind=2\/kind=3\/kind=4:=by omega
 rcases this with rfl|rfl|rfl|rfl
 ·have e1:q=[]:=hs.q0 (show (1:Int)≠3 by decide)
  have e2:q'=[]:=ht.q0 (show (1:Int)≠3 by decide);have e3:ps=[]:=hs.p0 (show (1:Int)≠4 by decide);have e4:ps'=[]:=ht.p0 (show (1:Int)≠4 by decide);subst e1 e2 e3 e4;have h:QE 1++(32::AV num)=QE 1++(32::AV num'):=h;have h:=iV h;injection h with _ h
  rw[Px h]
 ·have e1:q=[]:=hs.q0 (show (2:Int)≠3 by decide)
  have e2:q'=[]:=ht.q0 (show (2:Int)≠3 by decide);have e3:ps=[]:=hs.p0 (show (2:Int)≠4 by decide);have e4:ps'=[]:=ht.p0 (show (2:Int)≠4 by decide);subst e1 e2 e3 e4;have h:QE 2++(32::AV num)=QE 2++(32::AV num'):=h;have h:=iV h;injection h with _ h
  rw[Px h]
 ·have e3:ps=[]:=hs.p0 (show (3:Int)≠4 by decide)
  have e4:ps'=[]:=ht.p0 (show (3:Int)≠4 by decide);subst e3 e4;have hn:num=num':=hn.resolve_left (show ¬(3:Int)<=2 by decide);subst hn;have h:QE 3++qU (q++[]) (q++[]).length=QE 3++qU (q'++[]) (q'++[]).length:=h;have h:=iV h;rw[fA,fA,ajp,ajp] at h;rw[Yt (fun x=>Py (.inl rfl)) (fun x y e=>Px e) q q' h]
 ·have e1:q=[]:=hs.q0 (show (4:Int)≠3 by decide)
  have e2:q'=[]:=ht.q0 (show (4:Int)≠3 by decide);subst e1 e2;have hn:num=num':=hn.resolve_left (show ¬(4:Int)<=2 by decide);subst hn;have h:QE 4++pU (ps.map (·.key)) (ps.map (·.val)) (ps.map (·.val)).length=QE 4++pU (ps'.map (·.key)) (ps'.map (·.val)) (ps'.map (·.val)).length:=h;have h:=iV h;rw[dW,dW,ajq,ajq] at h;have:=Yt (f:=fun p:Pr=>AV p.key++58::AV p.val) (fun x hx=>by
   rcases bK.1 hx with hx|hx
   ·exact Py (.inl rfl) hx
   ·rcases gZ.1 hx with hx|hx
    ·cases hx
    ·exact Py (.inl rfl) hx) (fun x y e=>by
   obtain ⟨a,b⟩:=x;obtain ⟨c,d⟩:=y;obtain ⟨e1,e2⟩:=al2 e;have e1:a=c:=e1;have e2:b=d:=e2;rw[e1,e2]) ps ps' h
  rw[this]
theorem al4{a b x y:List UInt8}(hx:59 ∉ x)(hy:59 ∉ y)(h:a++59::32::x=b++59::32::y):a=b/\x=y:=by
 have h:=congrArg List.reverse h;simp only[List.reverse_append,List.reverse_cons,List.append_assoc,List.singleton_append] at h;have h:(x.reverse++[32])++59::a.reverse=(y.reverse++[32])++59::b.reverse:=by simpa using h
 obtain ⟨h1,h2⟩:=ab7 (z:=59) (by simpa using hx) (by simpa using hy) (.inr ⟨_,rfl⟩) (.inr ⟨_,rfl⟩) h;injection h2 with _ h2
 have h1:=List.append_cancel_right h1;exact ⟨vk.1 h2,vk.1 h1⟩
theorem ap1{m:Nat}{s:Cm}(hs:Jk m s):59 ∉ Pq (toR s):=by
 rw[<-key_eq hs];obtain ⟨kind,num,q,ps⟩:=s;have hkk:1<=kind/\kind<=4:=hs.kind;have hw:59 ∉ EC kind:=by
  have:kind=1\/kind=2\/kind=3\/kind=4:=by omega
  rcases this with rfl|rfl|rfl|rfl<;>decide
 unfold keyS JD Dn;rw[lq,ab6];intro hc;rcases bK.1 hc with hc|hc
 ·exact hw hc
 ·obtain ⟨x,hx,hc⟩:=kM.1 hc
  have hc:(59:UInt8)∈x:=by
   rcases gZ.1 hc with hc|hc
   ·cases hc
   ·exact hc
  have no (n:Int):(59:UInt8) ∉ AV n:=Py (.inr (.inr rfl));split at hx
  ·obtain rfl:x=AV num:=by simpa using hx
   exact no _ hc
  ·split at hx
   ·obtain ⟨n,_,rfl⟩:=dK.1 hx
    exact no _ hc
   ·split at hx
    ·obtain ⟨p,_,rfl⟩:=dK.1 hx
     rcases bK.1 hc with hc|hc
     ·rcases bK.1 hc with hc|hc
      ·exact no _ hc
      ·simp at hc
     ·exact no _ hc
    ·cases hx
theorem adZ{m m':Nat}{d e:Nat->Cm}:∀n,(∀j,j<n->Jk m (d j))->(∀j,j<n->Jk m' (e j))->OH (fun j=>toR (d j)) n=OH (fun j=>toR (e j)) n->∀j,j<n->Pq (toR (d j))=Pq (toR (e j))
 |0,_,_,_,j,hj=>by omega |n+1,hd,he,h,j,hj=>by
  rw[OH,OH] at h;have key:OH (fun j=>toR (d j)) n=OH (fun j=>toR (e j)) n/\Pq (toR (d n))=Pq (toR (e n)):=by
   by_cases hn:n=0
   ·subst hn
    rw[if_pos rfl] at h;exact ⟨rfl,h⟩
   ·rw[if_neg hn] at h
    exact al4 (ap1 (hd n (by omega))) (ap1 (he n (by omega))) h
  by_cases e1:j=n
  ·subst e1;exact key.2
  ·exact adZ n (fun j hj=>hd j (by omega)) (fun j hj=>he j (by omega)) key.1 j (by omega)
theorem ahB{m m' n:Nat}{d e:Nat->Cm}(hd:∀j,j<n->Jk m (d j))(he:∀j,j<n->Jk m' (e j))(hk:∀j,j<n->(d j).kind=(e j).kind)(h:Un n d=Un n e):∀j,j<n->d j=e j:=fun j hj=>by
 rw[keys_eq n hd,keys_eq n he] at h;have:=adZ n hd he h j hj;refine al3 (hd j hj) (he j hj) (hk j hj) ?_ this;by_cases q:(d j).kind<=2
 ·exact .inl q
 ·exact .inr (by rw[(hd j hj).n0 (by omega),(he j hj).n0 (by rw[<-hk j hj];omega)])
open Go Go.Sx Go.Proofs Go.Gm Go.Bf
structure Lj(n:Nat)(g0:SG)(m:Nat)(g:SG)(d:Nat->Cm):Prop where
 row:∀j,j<n->g j=CY (d j)
 inv:∀j,j<n->Jk m (d j)
 kind:∀j,j<n->∀s,g0 j=CY s->(d j).kind=s.kind
 out:∀j,n<=j->g j=g0 j
section
variable{n m:Nat}{g0 g:SG}{d:Nat->Cm}
theorem Jk.up{m m':Nat}{s:Cm}(h:Jk m s)(hm:m<=m'):Jk m' s:={h with ql:=iH h.ql hm,pl:=iH h.pl hm}
theorem Lj.up{m':Nat}(h:Lj n g0 m g d)(hm:m<=m'):Lj n g0 m' g d:={h with inv:=fun j hj=>(h.inv j hj).up hm}
theorem Lj.eqF(h:Lj n g0 m g d):∀j,j<n->Ee n g j=d j:=aki h.row
theorem Lj.isB(h:Lj n g0 m g d):stB n g=aC:=akh h.row
theorem ahC{i op k v:Int}(h:Yj n d i op k v=aC):JC n i=aC/\Zk (d i.toNat).kind (d i.toNat).num op k v=0:=by
 unfold Yj at h;rw[aI,aI] at h;refine ⟨h.1.1,?_⟩;rw[arg_eq];have h1:=h.1.2;have h2:=h.2;rw[Bool.not_eq_true'] at h1 h2;rw[h1,h2];rfl
theorem ab9{d d':Nat->Cm}(h:∀j,j<n->d j=d' j)(i op k v:Int):Yj n d i op k v=Yj n d' i op k v:=by
 unfold Yj;cases hi:JC n i with
 |false=>rfl |true=>
  have hi:0<=i/\i<n:=of_decide_eq_true hi;rw[h i.toNat (by omega)]
theorem ahD{d d':Nat->Cm}(h:∀j,j<n->d j=d' j)(i op:Int):abt n d i op=abt n d' i op:=by
 unfold abt;cases hi:JC n i with
 |false=>rfl |true=>
  have hi:0<=i/\i<n:=of_decide_eq_true hi;rw[h i.toNat (by omega)]
theorem Lj.next(h:Lj n g0 m g d){i op k v:Int}(hok:TU n g i op k v=aC):
  ∃d',Lj n g0 (m+1) (abu n g i op k v) d':=by
 unfold TU at hok;rw[ab9 h.eqF] at hok;obtain ⟨hi,ha⟩:=ahC hok;have hi':0<=i/\i<n:=of_decide_eq_true hi;have hst:Ee n g i.toNat=d i.toNat:=h.eqF _ (by omega);refine ⟨fun j=>if j=i.toNat then (ED (d i.toNat) op k v).1 else d j,fun j hj=>?_,fun j hj=>?_,fun j hj s hs=>?_,fun j hj=>?_⟩
 ·show (if JC n i=aC/\j=i.toNat then CY (ED (Ee n g i.toNat) op k v).1 else g j)=CY (if j=i.toNat then (ED (d i.toNat) op k v).1 else d j)
  by_cases e:j=i.toNat
  ·rw[if_pos ⟨hi,e⟩,if_pos e,hst]
  ·rw[if_neg (fun q=>e q.2),if_neg e,h.row j hj]
 ·show Jk (m+1) (if j=i.toNat then (ED (d i.toNat) op k v).1 else d j)
  split
  ·exact (al0 (h.inv i.toNat (by omega)) ha).2
  ·exact (h.inv j hj).up (by omega)
 ·show (if j=i.toNat then (ED (d i.toNat) op k v).1 else d j).kind=s.kind
  have hk:=h.kind j hj s hs;split
  ·rename_i e
   have:(ED (d i.toNat) op k v).1.kind=(d i.toNat).kind:=by
    unfold ED;repeat' split
    all_goals rfl
   rw[this,<-e];exact hk
  ·exact hk
 ·show (if JC n i=aC/\j=i.toNat then _ else g j)=g0 j
  rw[if_neg (fun q=>by omega)];exact h.out j hj
theorem Lj.fits(h:Lj n g0 m g d)(hm:m<=50000)(hn:n<=1000)(i op:Int):adF n g i op=aC:=by
 unfold Go.Pl.adF;rw[h.isB,ahD h.eqF,al1 hm h.inv,mV (by omega) (by omega)];rfl
theorem Lj.ap2(hn:n<=1000):∀(l:List Dd) {m:Nat} {g:SG} {d:Nat->Cm},Lj n g0 m g d->m+l.length<=50000->Uk n g l
 |[],_,_,_,_,_=>trivial |a::l,m,g,d,h,hm=>by
  unfold Go.Pl.Uk;rw[iQ] at hm;split
  ·exact Lj.ap2 hn l h (by omega)
  ·refine ⟨h.fits (by omega) hn _ _,fun q=>?_⟩
   obtain ⟨d',h'⟩:=h.next q;exact Lj.ap2 hn l h' (by omega)
theorem Lj.play:∀(l:List Dd) {m i:Nat} {g g':SG} {d:Nat->Cm},Lj n g0 m g d->H7 n g i l=.inr g'->∃d',Lj n g0 (m+l.length) g' d'
 |[],m,i,g,g',d,h,hp=>by
  have hp:(Sum.inr g:(Nat×Nat) ⊕ SG)=.inr g':=hp;cases hp;exact ⟨d,h⟩
 |a::l,m,i,g,g',d,h,hp=>by
  unfold H7 at hp;rw[iQ];split at hp
  ·obtain ⟨d',h'⟩:=Lj.play l h hp
   exact ⟨d',h'.up (by omega)⟩
  ·split at hp
   ·rename_i hok
    split at hp
    ·obtain ⟨d1,h1⟩:=h.next hok
     obtain ⟨d',h'⟩:=Lj.play l h1 hp;exact ⟨d',h'.up (by omega)⟩
    ·cases hp
   ·cases hp
end
section
variable{lv:Int}{n:Nat}{og:Nat->List Sh}{B:WY}
structure TbP(n:Nat)(og:Nat->List Sh)(B:WY):Prop where
 few:B.n<=12
 ok:∀i,i<B.n->okB Dd (B.T i).k (B.T i).g=aC/\(B.T i).k<=400
 o:n<=8
 b:∀j,j<n->EO (zZ (α:=Oj) og j).kind (zZ (α:=Oj) og j).init=ak
def QnP(lv:Int)(n:Nat)(og:Nat->List Sh)(B:WY)(nd:Nd SG):Prop:=nd.placed<2^(Gb (Bz lv n og B)).n/\∃d,Lj n (Hu og) (400*rk (Gb (Bz lv n og B)) nd) nd.st d
theorem ap3{t:Ef}{n:Nat}{T:Nat->Ef}(h:t∈G7 lv n T):∃i,i<n/\t=T i:=by
 unfold G7 at h;obtain ⟨i,hi,rfl⟩:=dK.1 (List.mem_filter.1 h).1;exact ⟨i,dP.1 hi,rfl⟩
theorem ap4(P:TbP n og B){i:Nat}(h:i<(Bz lv n og B).N):okB Dd ((Bz lv n og B).T i).k ((Bz lv n og B).T i).g=aC/\((Bz lv n og B).T i).k<=400:=by
 have h:i<(G7 lv B.n B.T).length:=h;have hm:nth (G7 lv B.n B.T) i∈G7 lv B.n B.T:=by
  unfold nth;rw[aY,aV h];exact List.getElem_mem h
 obtain ⟨j,hj,e⟩:=ap3 hm;show okB Dd (nth (G7 lv B.n B.T) i).k (nth (G7 lv B.n B.T) i).g=aC/\(nth (G7 lv B.n B.T) i).k<=400;rw[e];exact P.ok j hj
theorem asn(P:TbP n og B)(nd:Nd SG):rk (Gb (Bz lv n og B)) nd<=12:=by
 have h1:=aoC (B:=Bz lv n og B) nd;have h2:(Bz lv n og B).N=(G7 lv B.n B.T).length:=rfl;have h3:=ae8 lv B.n B.T;have:=P.few;omega
theorem TM(P:TbP n og B):Le (Bz lv n og B) (QnP lv n og B):=by
 have hN:(Bz lv n og B).N<=12:=by
  have h2:(Bz lv n og B).N=(G7 lv B.n B.T).length:=rfl;have h3:=ae8 lv B.n B.T;have:=P.few;omega
 refine ⟨⟨uD (by simp),newT (zZ og),fun j hj=>rfl,fun j hj=>?_,fun j hj s hs=>?_,fun j _=>rfl⟩,fun nd hq t ht=>?_,fun nd hq=>?_,fun nd hq=>?_⟩
 ·exact (ap0 (P.b j hj)).1.up (Nat.zero_le _)
 ·have hs:CY (newT (zZ og) j)=CY s:=hs
  rw[TB hs]
 ·obtain ⟨hlt,d,hd⟩:=hq
  have hlt':=lt_next hlt t ht;have hr:=abB (g:=Gb (Bz lv n og B)) t ht;refine ⟨hlt',?_⟩;rw[hr];unfold next turns at ht;obtain ⟨x,hx,rfl⟩:=dK.1 ht;obtain ⟨i,hi,hx⟩:=kM.1 hx;have hi:i<(Bz lv n og B).N:=dP.1 hi;obtain ⟨t1,t2⟩:=ap4 P hi;unfold G5 at hx;split at hx
  ·rcases bK.1 hx with hx|hx
   ·split at hx
    ·rename_i s e1 e2
     obtain rfl:x=_:=by simpa using hx
     have e2:(if plO n nd.st ((Bz lv n og B).T i).k ((Bz lv n og B).T i).g=aC then ay (TV n nd.st ((Bz lv n og B).T i).k ((Bz lv n og B).T i).g) else aK)=ay s:=e2;split at e2
     ·rename_i hok
      cases e2;unfold plO abx at hok;cases hp:H7 n nd.st 0 (lst Dd ((Bz lv n og B).T i).k ((Bz lv n og B).T i).g) with
      |inl q=>rw[hp] at hok;cases hok |inr g'=>
       obtain ⟨d',h'⟩:=Lj.play _ hd hp;have e:TV n nd.st ((Bz lv n og B).T i).k ((Bz lv n og B).T i).g=g':=by unfold TV aby;rw[hp]
       refine ⟨d',?_⟩;show Lj n (Hu og) _ (TV n nd.st ((Bz lv n og B).T i).k ((Bz lv n og B).T i).g) d';rw[e];exact h'.up (by rw[E8];omega)
     ·cases e2
    ·cases hx
   ·split at hx
    ·obtain rfl:x=_:=by simpa using hx
     exact ⟨d,hd.up (by omega)⟩
    ·cases hx
  ·cases hx
 ·obtain ⟨hlt,d,hd⟩:=hq
  have h12:=asn (lv:=lv) P nd;refine ⟨by omega,rfl,uF _,?_,fun i _=>uF _,fun i hi=>?_,fun i hi _=>?_⟩
  ·have h1:nd.placed<2^62:=Nat.lt_of_lt_of_le hlt (Nat.pow_le_pow_right (by decide) (by show (Bz lv n og B).N<=62;omega))
   omega
  ·show (Pj lv (nth (G7 lv B.n B.T) i).bg 0 (G7 lv B.n B.T) 0:Nat)<2^(G7 lv B.n B.T).length
   exact ahk _ _ _ _ (uD (by simp)) (by omega)
  ·obtain ⟨t1,t2⟩:=ap4 P hi
   unfold plN;rw[t1,decide_eq_true (by omega:((Bz lv n og B).T i).k<=100000)];have o8:=P.o;exact @decide_eq_true _ (bM _) (Lj.ap2 (n:=n) (by omega) _ hd (by rw[E8];omega))
 ·obtain ⟨hlt,d,hd⟩:=hq
  have h12:=asn (lv:=lv) P nd;have o8:=P.o;have e1:stB n nd.st=aC:=hd.isB;have e2:keysB n (Ee n nd.st)=aC:=by
   unfold keysB;rw[aI,dO];refine ⟨decide_eq_true (by omega),fun j hj=>?_⟩;rw[hd.eqF j (dP.1 hj)];exact apZ (by omega) (hd.inv j (dP.1 hj))
  show ((fC 4 4||fC n 0)&&(stB n nd.st&&keysB n (Ee n nd.st)))=aC;rw[e1,e2];rfl
theorem Zm{n:Nat}{d e:Nat->Cm}(h:∀j,j<n->d j=e j):Un n d=Un n e:=by
 unfold Un;congr 1;exact jO fun j hj=>h j (dP.1 hj)
theorem ad1:∀x y,QnP lv n og B x->QnP lv n og B y->CP n x=CP n y->x=y:=fun x y ⟨_,d,hd⟩ ⟨_,e,he⟩ h=>by
 unfold CP at h;rw[Prod.mk.injEq] at h;obtain ⟨h1,h2⟩:=h;have h1:=kU h1;have h2:Un n (Ee n x.st)=Un n (Ee n y.st):=h2;rw[Zm hd.eqF,Zm he.eqF] at h2;have hk:∀j,j<n->(d j).kind=(e j).kind:=fun j hj=>by
  rw[hd.kind j hj (newT (zZ og) j) rfl,he.kind j hj (newT (zZ og) j) rfl]
 have h3:=ahB hd.inv he.inv hk h2;obtain ⟨p,s⟩:=x;obtain ⟨p',s'⟩:=y;obtain rfl:p=p':=h1;have:s=s':=by
  funext j;by_cases hj:j<n
  ·have a:=hd.row j hj
   have b:=he.row j hj;rw[h3 j hj] at a;exact a.trans b.symm
  ·have a:=hd.out j (by omega)
   have b:=he.out j (by omega);exact a.trans b.symm
 rw[this]
end
end Go.Pl
