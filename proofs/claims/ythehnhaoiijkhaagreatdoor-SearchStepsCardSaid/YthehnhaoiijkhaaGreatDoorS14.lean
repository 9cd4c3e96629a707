/- Own work. -/
import Derived.Test.YthehnhaoiijkhaaGreatDoorS13
open Int (ofNat)
open And renaming intro->bY
open Array renaming getElem?_eq_getElem->fF,getD_eq_getD_getElem?->iM
open Bool renaming false->aA,true->aF,or_eq_true->nJ,and_eq_true->aJ
open Classical renaming propDecidable->bG,byContradiction->nO
open Go.IntKind renaming i64->aW
open Go.Lib renaming joinTail->kH,join_cons->lI
open Go.Cc renaming AB->dF,okB->oN
open Go.Cc.Rc renaming step->wO
open Go.Proofs renaming akT->Ar,W7->rO,room_le->ny
open Go.Proofs.Tryz renaming prog->aB,f44->yY,f43->pz,f20->pF,f40->zD
open Go.Sx.BQ renaming val->kX,int->ak,sh->aP,nat->aK,get->aV,L9->bF
open Go.Sx.Eo renaming at_->bJ,ret->aU
open Go.Sx.Fe3 renaming ret->vO,raw->zG
open Go.Sx.It renaming code->bD,inBlock->dh,reg->oq
open Go.Sx.Lay renaming blk->nC
open Go.Sx.SB renaming own->sH,fm->nD,box->kF
open Go.Sx.SV renaming agg->kD,sh->dO,ptr->kE,Fg->sJ,Ed->fU,any->bI,bool->qI,int->pq,Bj->kL,mp->pX
open Go.Sx.Sh renaming Ba->cZ,sl->aH,er->bC,Dv->qj,pt->tZ,i->aZ
open Go.Sx.Tree renaming need->aI,node->aG,leaf->aC,must->aT
open Go.Value renaming pointer->gJ
open Int renaming ofNat->ah,not_lt->l9,natCast_nonneg->uV
open Int.ofNat renaming inj->kZ
open List renaming getD_eq_getElem?_getD->aX,getElem?_eq_getElem->aS,mem_map->dL,all_eq_true->dN,mem_range->dD,range->aY,length_map->dQ,pairwise_cons->uo,takeWhile->jy,any_eq_true->pY,map_set->yZ,pairwise_map->uS,mem_of_mem_drop->jw,drop_sublist->uT,mem_cons->ig,mem_append->bK,mem_of_mem_take->mW,map_take->xR,map_drop->xU,flatMap_map->oO,flatMap_def->mD,map_congr_left->lF,cons_append->vS,range_succ->qG,map_append->iO,map_singleton->uq,not_mem_nil->vT,append_cancel_left->iZ,append_nil->fA,reverse_inj->vU,mem_flatMap->ji,length_cons->iT
open List.Sublist renaming append->wB,refl->wC
open Nat renaming le_refl->dw,beq->fC,zero_add->gU,blt->fZ,le_succ_of_le->vP,le_trans->iK,pos_of_ne_zero->uU
open Option renaming some->ay,none->aN
open Option.some renaming inj->dH
open UInt8 renaming ofNat->kG
namespace Go.Cc
open Go Go.Sx
theorem ah3{many:Nat}{e:Ev}{r r':Rc}(h:wO many e r=.inr r')(_hd:r.stand=2->r.AP≠[]):(r'.stand=2->r'.AP≠[])/\r'.AP.length<=r.AP.length+1:=by
 unfold wO at h;have hup:∀(f:De->De) (l:List De),(Gt f l).length=l.length:=fun f l=>by
  induction l with
  |nil=>rfl |cons x l ih=>cases l with
   |nil=>rfl |cons y l=>simpa[Gt] using ih
 by_cases k2:e.kind=2
 ·simp only[k2,beq_self_eq_true,cond_true] at h
  cases hs:r.stand==1<;>simp only[hs,cond_true,cond_false] at h
  ·cases h
  ·cases h
   exact ⟨fun _=>by simp,by simp⟩
 have b2:(e.kind==2)=aA:=by simpa using k2
 rw[b2] at h;simp only[cond_false] at h;by_cases k3:e.kind=3
 ·simp only[k3,beq_self_eq_true,cond_true] at h
  cases hs:r.stand==2<;>simp only[hs,cond_true,cond_false] at h
  ·cases h
  ·cases hf:O5 (r.AP.getLast?.getD Row.JJ).op e.ret<;>simp only[hf,cond_true,cond_false] at h
   ·cases h
   ·cases h
    exact ⟨fun q=>by simp at q,by simp[hup]⟩
 have b3:(e.kind==3)=aA:=by simpa using k3
 rw[b3] at h;simp only[cond_false] at h;by_cases k4:e.kind=4
 ·simp only[k4,beq_self_eq_true,cond_true] at h
  cases hs:r.stand==1<;>simp only[hs,cond_true,cond_false] at h
  ·cases h
  ·cases h
   exact ⟨fun q=>by simp at q,by simp⟩
 have b4:(e.kind==4)=aA:=by simpa using k4
 rw[b4] at h;simp only[cond_false] at h;by_cases k7:e.kind=7
 ·simp only[k7,beq_self_eq_true,cond_true] at h
  cases hs:r.stand==1<;>simp only[hs,cond_true,cond_false] at h
  ·cases h
  ·cases h
   exact ⟨fun q=>by simp at q,by simp⟩
 have b7:(e.kind==7)=aA:=by simpa using k7
 rw[b7] at h;simp only[cond_false] at h;by_cases k5:e.kind=5
 ·simp only[k5,beq_self_eq_true,cond_true] at h
  cases hs:r.stand==3<;>simp only[hs,cond_true,cond_false] at h
  ·cases h
  ·cases h
   exact ⟨fun q=>by simp at q,by simp⟩
 have b5:(e.kind==5)=aA:=by simpa using k5
 rw[b5] at h;simp only[cond_false] at h;cases hs:(r.stand==1||r.stand==2||r.stand==3||r.stand==4)<;>simp only[hs,cond_true,cond_false] at h
 ·cases h
 ·cases h
  exact ⟨fun q=>by simp at q,by simp⟩
theorem Au.OK.feed{σ:Au}(hI:σ.OK){e:Ev}(hv:CS e=aF):(σ.feed e).2.OK:=by
 have hkd:=ZH hv;unfold Au.feed;cases hby:σ.Ko e.tx with
 |some i=>
  obtain ⟨r,hi,hp⟩:=Ox hby
  have hr:σ.rs.getD i ⟨0,0,0,0,0,0,[],0⟩=r:=by rw[aX,hi];rfl
  have hlt:=(List.getElem?_eq_some_iff.1 hi).1;by_cases k1:e.kind=1
  ·simp only[k1,beq_self_eq_true,cond_true]
   exact hI
  have b1:(e.kind==1)=aA:=by simpa using k1
  simp only[b1,cond_false,hr];cases h:wO σ.many e r with
  |inl k=>exact hI |inr r'=>
   show Au.OK ⟨σ.many+1,σ.rs.set i r'⟩;obtain ⟨l1,l2,l3⟩:=VA h (by omega) (hI.stands i r hi);obtain ⟨d1,d2⟩:=ah3 h (hI.deed i r hi);have hk:=(NY h).2;have at_:∀{j:Nat} {s:Rc},(σ.rs.set i r')[j]?=ay s->(j=i/\s=r')\/(j≠i/\σ.rs[j]?=ay s):=fun {j s} hj=>by
    rw[List.getElem?_set] at hj;by_cases q:i=j
    ·subst q
     rw[if_pos rfl,if_pos hlt] at hj;cases hj;exact .inl ⟨rfl,rfl⟩
    ·rw[if_neg q] at hj
     exact .inr ⟨fun q'=>q q'.symm,hj⟩
   refine ⟨fun a b x y ha hb ht hx hy=>?_,fun a x ha=>?_,fun a x ha=>?_,by simp;have:=hI.len;omega,fun a x ha=>?_⟩
   ·rcases at_ ha with ⟨rfl,rfl⟩ |⟨n1,ha'⟩
    ·rcases at_ hb with ⟨rfl,rfl⟩ |⟨n2,hb'⟩
     ·rfl
     ·exact hI.one _ _ r y hi hb' (by rw[<-hk];exact ht) l1 hy
    ·rcases at_ hb with ⟨rfl,rfl⟩ |⟨n2,hb'⟩
     ·exact hI.one _ _ x r ha' hi (by rw[<-hk];exact ht) hx l1
     ·exact hI.one _ _ x y ha' hb' ht hx hy
   ·rcases at_ ha with ⟨rfl,rfl⟩ |⟨n1,ha'⟩
    ·exact d1
    ·exact hI.deed _ _ ha'
   ·rcases at_ ha with ⟨rfl,rfl⟩ |⟨n1,ha'⟩
    ·exact l2
    ·exact hI.stands _ _ ha'
   ·rcases at_ ha with ⟨rfl,rfl⟩ |⟨n1,ha'⟩
    ·have:=hI.dl _ _ hi
     show _<=σ.many+1;omega
    ·have:=hI.dl _ _ ha'
     show _<=σ.many+1;omega
 |none=>
  by_cases k1:e.kind=1
  ·simp only[k1,beq_self_eq_true,cond_true]
   cases hbu:σ.Kw e.thread with
   |some j=>exact hI |none=>
    show Au.OK ⟨σ.many+1,σ.rs++[⟨e.tx,e.thread,1,σ.many,-1,-1,[],1⟩]⟩;have hno:∀(j:Nat) (s:Rc),σ.rs[j]?=ay s->s.th=e.thread->s.live=aF->False:=fun j s hj ht hl=>by
     have:=List.findIdx?_eq_none_iff.1 hbu s (List.mem_of_getElem? hj);simp[ht,hl] at this
    have at_:∀{j:Nat} {s x:Rc},(σ.rs++[x])[j]?=ay s->(j=σ.rs.length/\s=x)\/(j<σ.rs.length/\σ.rs[j]?=ay s):=fun {j s x} hj=>by
     by_cases q:j<σ.rs.length
     ·rw[List.getElem?_append_left q] at hj
      exact .inr ⟨q,hj⟩
     ·rw[List.getElem?_append_right (by omega)] at hj
      have:j=σ.rs.length:=by
       cases hz:j - σ.rs.length with
       |zero=>omega |succ z=>rw[hz] at hj;simp at hj
      subst this;simp at hj;exact .inl ⟨rfl,hj.symm⟩
    refine ⟨fun a b x y ha hb ht hx hy=>?_,fun a x ha=>?_,fun a x ha=>?_,by simp;have:=hI.len;omega,fun a x ha=>?_⟩
    ·rcases at_ ha with ⟨rfl,rfl⟩ |⟨n1,ha'⟩
     ·rcases at_ hb with ⟨rfl,rfl⟩ |⟨n2,hb'⟩
      ·rfl
      ·exact (hno _ _ hb' ht.symm hy).elim
     ·rcases at_ hb with ⟨rfl,rfl⟩ |⟨n2,hb'⟩
      ·exact (hno _ _ ha' ht hx).elim
      ·exact hI.one _ _ x y ha' hb' ht hx hy
    ·rcases at_ ha with ⟨rfl,rfl⟩ |⟨n1,ha'⟩
     ·intro q;simp at q
     ·exact hI.deed _ _ ha'
    ·rcases at_ ha with ⟨rfl,rfl⟩ |⟨n1,ha'⟩
     ·show 1<=(1:Int)/\(1:Int)<=5
      omega
     ·exact hI.stands _ _ ha'
    ·rcases at_ ha with ⟨rfl,rfl⟩ |⟨n1,ha'⟩
     ·simp
     ·have:=hI.dl _ _ ha'
      show _<=σ.many+1;omega
  ·have b1:(e.kind==1)=aA:=by simpa using k1
   simp only[b1,cond_false];exact hI
def Au.nil:Au:=⟨0,[]⟩
theorem Au.OK.nil:Au.nil.OK:=⟨fun i j r s h=>by simp[Au.nil] at h,fun i r h=>by simp[Au.nil] at h,fun i r h=>by simp[Au.nil] at h,dw _,fun i r h=>by simp[Au.nil] at h⟩
theorem VD{σ:Au}{e:Ev}(h:(σ.feed e).1=aN):(σ.feed e).2.many=σ.many+1:=by
 unfold Au.feed at h ⊢;cases h1:σ.Ko e.tx with
 |some i=>
  simp only[h1] at h ⊢;cases hb:e.kind==1<;>simp only[hb,cond_true,cond_false] at h ⊢
  ·cases h2:wO σ.many e (σ.rs.getD i ⟨0,0,0,0,0,0,[],0⟩) with
   |inl k=>rw[h2] at h;cases h |inr r=>rfl
  ·cases h
 |none=>
  simp only[h1] at h ⊢;cases hb:e.kind==1<;>simp only[hb,cond_true,cond_false] at h ⊢
  ·cases h
  ·cases h2:σ.Kw e.thread with
   |some j=>simp only[h2] at h;cases h |none=>rfl
end Go.Cc
namespace Go.AQ
open Go Go.Sx Go.Cc
theorem aqw{H H':Mem}{n:Nat}{o:Nat->Oj}{xs:List Value}(h:CQ H 2 n (Az o) xs):CQ H' 2 n (Az o) xs:=
 ⟨h.1,h.2.1,h.2.2.1,fun i j s v hi h1 h2=>by
  have:=h.2.2.2 i j s v hi h1 h2;have hs:∃k,s=.i .i64 k:=by
   match j,h1 with
   |0,h1=>exact ⟨_,(dH h1).symm⟩ |1,h1=>exact ⟨_,(dH h1).symm⟩ |j+2,h1=>simp[Az,Row.put,obR] at h1
  obtain ⟨k,rfl⟩:=hs;cases this;exact .i _ _⟩
def KQ(n:Nat)(o:Nat->Oj)(σ:Au)(p:Nat):Hp->Prop:=fun h=>
 ∃L:Lay,L.p=p/\(∀b,h b≠aN↔Ro L σ.rs.length b)/\∀(H:Mem) (w:World),h.at H w->DN H w n (Az o) σ L
theorem DN.hide{H:Mem}{w:World}{n:Nat}{o:Nat->Oj}{σ:Au}{L:Lay}(hA:DN H w n (Az o) σ L):∃h:Hp,KQ n o σ L.p h/\h.at H w/\∀b,h b≠aN↔Ro L σ.rs.length b:=by
 classical
 have hlt:∀{b},Ro L σ.rs.length b->∃o,w.heap[b]?=ay o:=fun {b} ⟨t,ht⟩=>⟨_,fF (hA.lt ht)⟩;have hne:∀b,(if Ro L σ.rs.length b then w.heap[b]? else aN)≠aN↔Ro L σ.rs.length b:=fun b=>by
  by_cases q:Ro L σ.rs.length b
  ·obtain ⟨o,ho⟩:=hlt q
   simp[q,ho]
  ·simp[q]
 refine ⟨fun b=>if Ro L σ.rs.length b then w.heap[b]? else aN,⟨L,rfl,hne,fun H' w' hat=>?_⟩,fun b o e=>?_,hne⟩
 ·have at_:∀t b,L.blk σ.rs.length t=ay b->w'.heap[b]?=w.heap[b]?/\H' b=aN:=fun t b hb=>by
   obtain ⟨o,ho⟩:=hlt ⟨t,hb⟩;have:=hat b o ((if_pos (⟨t,hb⟩:Ro L σ.rs.length b)).trans ho);exact ⟨this.1.trans ho.symm,this.2⟩
  have h0:DN (fun _=>aN) w n (Az o) σ L:=⟨hA.au,let ⟨xs,h1,h2⟩:=hA.ob;⟨xs,h1,aqw h2⟩,hA.tx,hA.Ls,hA.bu,hA.rc,hA.de,hA.Gu,fun _ _ _=>rfl⟩;exact h0.keep (fun _ _ e=>by cases e) (fun t b hb=>(at_ t b hb).1) fun t b hb=>(at_ t b hb).2
 ·by_cases q:Ro L σ.rs.length b
  ·simp only[if_pos q] at e
   exact ⟨e,let ⟨t,ht⟩:=q;hA.un t b ht⟩
  ·simp only[if_neg q] at e;cases e
theorem avs{n:Nat}{o:Nat->Oj}{σ:Au}{p:Nat}{e:Ev}{es:SV}(hes:∀H E v,Den H E es v->v=YK e)(hI:σ.OK)(hm:σ.many<400)(hv:CS e=aF)(hob:e.kind=2->0<=e.obj/\e.obj<n/\D6 e.op=(o e.obj.toNat).kind):
  akM aB (F9 W5) 79 [.val (DW p),es] (KQ n o σ p) (svE (σ.feed e).1) (KQ n o (σ.feed e).2 p):=by
 intro H E w vs h hd hon hg ⟨L,hp,hblk,hA⟩ hat;match vs,hd with
 |[v1,v2],⟨d1,d2,_⟩=>
  obtain ⟨rfl,_⟩:=d1;obtain rfl:=hes _ _ _ d2;subst hp;refine Calls.mono (aqv (hA H w hat) hI hon hg hm hv hob) fun en w' ⟨v,H',L',h1,h2,h3,h4,h5,h6,h7⟩=>?_;obtain ⟨h',r1,r2,r3⟩:=DN.hide h3;refine ⟨v,H',h',h1,?_,by rw[<-h4];exact r1,r2,h6,Uc h7 fun b hb=>(hblk b).2 hb,fun b hb=>?_⟩
  ·cases hx:(σ.feed e).1 with
   |none=>rw[hx] at h2;exact h2 |some k=>rw[hx] at h2;exact h2
  ·obtain ⟨t,ht⟩:=(r3 b).1 hb
   rcases h5 t b ht with q|q
   ·exact .inl q
   ·exact .inr ((hblk b).2 q)
section
variable{H:Mem}{E:Env}{w:World}{K:Kx}{n:Nat}{o:Nat->Oj}{h:Hp}
theorem aex{b b1 b2:Nat}{v0:Value}(au:w.heap[b]?=ay (.cells #[v0,.int .i64 0,.slice aN 0 0,.map (ay b1),.map (ay b2)] 181 (0,0)))
  (ob:∃xs,w.ownsRow 0 140 2 v0 n xs/\CQ H 2 n (Az o) xs) (m1:∃ms clk,w.heap[b1]?=ay (.map ms clk)/\FP .i64 ms.toList clk fun _=>aN) (m2:∃ms clk,w.heap[b2]?=ay (.map ms clk)/\FP .i64 ms.toList clk fun _=>aN)
  (Gu:b≠b1/\b≠b2/\b1≠b2/\∀x,AY v0=ay x->x≠b/\x≠b1/\x≠b2) (un:H b=aN/\H b1=aN/\H b2=aN/\∀x,AY v0=ay x->H x=aN) :
  DN H w n (Az o) Au.nil ⟨b,v0,.slice aN 0 0,b1,b2,fun _=>0,fun _=>.slice aN 0 0⟩:=by
 obtain ⟨d1,d2,d3,d4⟩:=Gu;refine ⟨au,ob,⟨rfl,.inl ⟨rfl,rfl⟩⟩,m1,m2,fun i r hi=>by simp[Au.nil] at hi,fun i r hi=>by simp[Au.nil] at hi,fun s t x hs ht=>?_,fun t x ht=>?_⟩
 ·cases s<;>cases t<;>simp[nC,Au.nil,AY] at hs ht<;>first|rfl|(exfalso;subst_vars;first|exact d1 rfl|exact d2 rfl|exact d3 rfl|exact d1 ht.symm|exact (d4 _ hs).1 rfl|exact (d4 _ hs).2.1 rfl|exact (d4 _ hs).2.2 rfl|exact (d4 _ ht).1 rfl|exact (d4 _ ht).2.1 rfl|exact (d4 _ ht).2.2 rfl|skip) |skip
  all_goals (first|exact d1 (hs.trans ht.symm) |exact d1 (hs ▸ ht ▸ rfl) |omega)
 ·cases t<;>simp[nC,Au.nil,AY] at ht<;>first|(subst ht;first|exact un.1|exact un.2.1|exact un.2.2.1) |exact un.2.2.2 _ ht
theorem acG{hp:List (Nat×SB)}{σ:Au}{L:Lay}(hh:WZ E w hp h)(hA:DN H w n (Az o) σ L)(hb:∀x,(∃id sb,AA hp id=ay sb/\Bv E id sb=ay x)↔Ro L σ.rs.length x):KQ n o σ L.p h:=by
 obtain ⟨h0,r1,r2,r3⟩:=DN.hide hA;have:h0=h:=by
  funext x;have e1:=r3 x;have e2:=(hh.2 x).symm.trans (hb x);cases q:h x with
  |none=>
   cases q':h0 x with
   |none=>rfl |some o'=>exact ((e2.2 (e1.1 (by simp[q']))) q).elim
  |some o'=>
   cases q':h0 x with
   |none=>exact ((e1.2 (e2.1 (by simp[q]))) q').elim |some o''=>
    have a1:=hh.1 x _ q;have a2:=(r2 x _ q').1;rw[a1] at a2;exact a2.symm
 rw[<-this];exact r1
theorem aaw{id:Nat}(hh:GV K H E w id (.fm .i64 (fun _=>aN) [] [] aN)):∃b ms clk,E id=ay (.map (ay b))/\w.heap[b]?=ay (.map ms clk)/\FP .i64 ms.toList clk fun _=>aN:=by
 obtain ⟨b,ms,clk,fv,uv,s1,s2,s3,s4,s5,s6,_,s7⟩:=hh;obtain rfl:=PY s4;exact ⟨b,ms,clk,s1,s2,s6⟩
theorem aqx{o':Nat->List Sh}(ho:∀i,i<n->o' i=Az o i){n':Nat}(hn:n'=n){hp:List (Nat×SB)}(hpe:hp=[(3,.own 140 2 n' o'),(4,.fm .i64 (fun _=>aN) [] [] aN),(5,.fm .i64 (fun _=>aN) [] [] aN),(6,.box [.gs 3,.int .i64 0,.Bj,.mp 4,.mp 5] 181)])
  (hh:AZ K H E w hp) (hd:WZ E w hp h):∃b,E 6=ay (.pointer (ay ⟨b,0,aN⟩))/\KQ n o Au.nil b h:=by
 subst hn hpe;obtain ⟨v,xs,x1,x2,x3,x4⟩:=hh.ent 3 _ rfl;obtain ⟨b1,ms1,Xx,y1,y2,y3⟩:=aaw (hh.ent 4 _ rfl);obtain ⟨b2,ms2,Xy,z1,z2,z3⟩:=aaw (hh.ent 5 _ rfl);obtain ⟨b,⟨cs⟩,p1,p2,p3,p4⟩:=hh.ent 6 _ rfl;match cs,p3 with
 |[u0,u1,u2,u3,u4],⟨d0,d1,d2,d3,d4,_⟩=>
  have d1:u1=.int .i64 0:=d1;have d2:u2=.slice aN 0 0:=d2;obtain ⟨d0,_⟩:E 3=ay u0/\_:=d0;obtain ⟨c1,d3,d3'⟩:=d3;obtain ⟨c2,d4,d4'⟩:=d4;rw[x1] at d0;cases d0;rw[y1] at d3;cases d3;rw[z1] at d4;cases d4;subst d1 d2 d3' d4';have k3:Bv E 3 (.own 140 2 n' o')=AY v:=by simp[Bv,x1]
  have k4:Bv E 4 (.fm .i64 (fun _=>aN) [] [] aN)=ay b1:=by simp[Bv,y1,AY]
  have k5:Bv E 5 (.fm .i64 (fun _=>aN) [] [] aN)=ay b2:=by simp[Bv,z1,AY]
  have k6:Bv E 6 (.box [.gs 3,.int .i64 0,.Bj,.mp 4,.mp 5] 181)=ay b:=by simp[Bv,p1,AY]
  have dd:∀{i j:Nat} {s t:SB} {x:Nat},AA [(3,sH 140 2 n' o'),(4,.fm .i64 (fun _=>aN) [] [] aN),(5,.fm .i64 (fun _=>aN) [] [] aN),(6,.box [.gs 3,.int .i64 0,.Bj,.mp 4,.mp 5] 181)] i=ay s->AA [(3,sH 140 2 n' o'),(4,.fm .i64 (fun _=>aN) [] [] aN),(5,.fm .i64 (fun _=>aN) [] [] aN),(6,.box [.gs 3,.int .i64 0,.Bj,.mp 4,.mp 5] 181)] j=ay t->Bv E i s=ay x->Bv E j t=ay x->i=j:=fun h1 h2 h3 h4=>hh.Gu _ _ _ _ _ h1 h2 h3 h4
  have mi:∀{i:Nat} {s:SB} {x:Nat},AA [(3,sH 140 2 n' o'),(4,.fm .i64 (fun _=>aN) [] [] aN),(5,.fm .i64 (fun _=>aN) [] [] aN),(6,.box [.gs 3,.int .i64 0,.Bj,.mp 4,.mp 5] 181)] i=ay s->Bv E i s=ay x->H x=aN:=fun h1 h2=>((hh.ent _ _ h1).lt h2).2.1;have hA:=aex (H:=H) (n:=n') (o:=o) p2 ⟨xs,x2,RY x3 ho⟩ ⟨ms1,Xx,y2,y3⟩ ⟨ms2,Xy,z2,z3⟩
   ⟨fun q=>(by subst q;cases dd (i:=6) (j:=4) rfl rfl k6 k4),fun q=>(by subst q;cases dd (i:=6) (j:=5) rfl rfl k6 k5),fun q=>(by subst q;cases dd (i:=4) (j:=5) rfl rfl k4 k5),
    fun x hx=>⟨fun q=>(by subst q;cases dd (i:=3) (j:=6) rfl rfl (k3.trans hx) k6),fun q=>(by subst q;cases dd (i:=3) (j:=4) rfl rfl (k3.trans hx) k4),fun q=>(by subst q;cases dd (i:=3) (j:=5) rfl rfl (k3.trans hx) k5)⟩⟩
   ⟨mi (i:=6) rfl k6,mi (i:=4) rfl k4,mi (i:=5) rfl k5,fun x hx=>mi (i:=3) rfl (k3.trans hx)⟩
  refine ⟨b,p1,acG hd hA fun x=>⟨fun ⟨id,sb,h1,h2⟩=>?_,fun ⟨t,ht⟩=>?_⟩⟩
  ·simp only[AA] at h1
   cases q3:(3:Nat)==id<;>simp only[q3,cond_true,cond_false] at h1
   ·cases q4:(4:Nat)==id<;>simp only[q4,cond_true,cond_false] at h1
    ·cases q5:(5:Nat)==id<;>simp only[q5,cond_true,cond_false] at h1
     ·cases q6:(6:Nat)==id<;>simp only[q6,cond_true,cond_false] at h1
      ·cases h1
      ·cases h1;obtain rfl:6=id:=by simpa using q6
       rw[k6] at h2;exact ⟨.au,h2⟩
     ·cases h1;obtain rfl:5=id:=by simpa using q5
      rw[k5] at h2;exact ⟨.bu,h2⟩
    ·cases h1;obtain rfl:4=id:=by simpa using q4
     rw[k4] at h2;exact ⟨.Ls,h2⟩
   ·cases h1;obtain rfl:3=id:=by simpa using q3
    rw[k3] at h2;exact ⟨.ob,h2⟩
  ·cases t with
   |au=>exact ⟨6,_,rfl,k6.trans ht⟩ |tx=>cases ht |Ls=>exact ⟨4,_,rfl,k4.trans ht⟩ |bu=>exact ⟨5,_,rfl,k5.trans ht⟩ |ob=>exact ⟨3,_,rfl,k3.trans ht⟩ |rc i=>simp[nC,Au.nil] at ht |de i=>simp[nC,Au.nil] at ht
theorem aqy(hn:n=0){hp:List (Nat×SB)}(hpe:hp=[(2,.fm .i64 (fun _=>aN) [] [] aN),(3,.fm .i64 (fun _=>aN) [] [] aN),(4,.box [.Bj,.int .i64 0,.Bj,.mp 2,.mp 3] 181)])
  (hh:AZ K H E w hp) (hd:WZ E w hp h):∃b,E 4=ay (.pointer (ay ⟨b,0,aN⟩))/\KQ n o Au.nil b h:=by
 subst hn hpe;obtain ⟨b1,ms1,Xx,y1,y2,y3⟩:=aaw (hh.ent 2 _ rfl);obtain ⟨b2,ms2,Xy,z1,z2,z3⟩:=aaw (hh.ent 3 _ rfl);obtain ⟨b,⟨cs⟩,p1,p2,p3,p4⟩:=hh.ent 4 _ rfl;match cs,p3 with
 |[u0,u1,u2,u3,u4],⟨d0,d1,d2,d3,d4,_⟩=>
  have d1:u1=.int .i64 0:=d1;have d2:u2=.slice aN 0 0:=d2;have d0:u0=.slice aN 0 0:=d0;obtain ⟨c1,d3,d3'⟩:=d3;obtain ⟨c2,d4,d4'⟩:=d4;rw[y1] at d3;cases d3;rw[z1] at d4;cases d4;subst d0 d1 d2 d3' d4';have k4:Bv E 2 (.fm .i64 (fun _=>aN) [] [] aN)=ay b1:=by simp[Bv,y1,AY]
  have k5:Bv E 3 (.fm .i64 (fun _=>aN) [] [] aN)=ay b2:=by simp[Bv,z1,AY]
  have k6:Bv E 4 (.box [.Bj,.int .i64 0,.Bj,.mp 2,.mp 3] 181)=ay b:=by simp[Bv,p1,AY]
  have dd:∀{i j:Nat} {s t:SB} {x:Nat},AA [(2,nD .i64 (fun _=>aN) [] [] aN),(3,.fm .i64 (fun _=>aN) [] [] aN),(4,.box [.Bj,.int .i64 0,.Bj,.mp 2,.mp 3] 181)] i=ay s->AA [(2,nD .i64 (fun _=>aN) [] [] aN),(3,.fm .i64 (fun _=>aN) [] [] aN),(4,.box [.Bj,.int .i64 0,.Bj,.mp 2,.mp 3] 181)] j=ay t->Bv E i s=ay x->Bv E j t=ay x->i=j:=fun h1 h2 h3 h4=>hh.Gu _ _ _ _ _ h1 h2 h3 h4
  have mi:∀{i:Nat} {s:SB} {x:Nat},AA [(2,nD .i64 (fun _=>aN) [] [] aN),(3,.fm .i64 (fun _=>aN) [] [] aN),(4,.box [.Bj,.int .i64 0,.Bj,.mp 2,.mp 3] 181)] i=ay s->Bv E i s=ay x->H x=aN:=fun h1 h2=>((hh.ent _ _ h1).lt h2).2.1;have hA:=aex (H:=H) (n:=0) (o:=o) p2 ⟨[],⟨rfl,.inl ⟨rfl,rfl⟩⟩,KD 2 _⟩ ⟨ms1,Xx,y2,y3⟩ ⟨ms2,Xy,z2,z3⟩
   ⟨fun q=>(by subst q;cases dd (i:=4) (j:=2) rfl rfl k6 k4),fun q=>(by subst q;cases dd (i:=4) (j:=3) rfl rfl k6 k5),fun q=>(by subst q;cases dd (i:=2) (j:=3) rfl rfl k4 k5),fun x hx=>by cases hx⟩
   ⟨mi (i:=4) rfl k6,mi (i:=2) rfl k4,mi (i:=3) rfl k5,fun x hx=>by cases hx⟩
  refine ⟨b,p1,acG hd hA fun x=>⟨fun ⟨id,sb,h1,h2⟩=>?_,fun ⟨t,ht⟩=>?_⟩⟩
  ·simp only[AA] at h1
   cases q4:(2:Nat)==id<;>simp only[q4,cond_true,cond_false] at h1
   ·cases q5:(3:Nat)==id<;>simp only[q5,cond_true,cond_false] at h1
    ·cases q6:(4:Nat)==id<;>simp only[q6,cond_true,cond_false] at h1
     ·cases h1
     ·cases h1;obtain rfl:4=id:=by simpa using q6
      rw[k6] at h2;exact ⟨.au,h2⟩
    ·cases h1;obtain rfl:3=id:=by simpa using q5
     rw[k5] at h2;exact ⟨.bu,h2⟩
   ·cases h1;obtain rfl:2=id:=by simpa using q4
    rw[k4] at h2;exact ⟨.Ls,h2⟩
  ·cases t with
   |au=>exact ⟨4,_,rfl,k6.trans ht⟩ |tx=>cases ht |Ls=>exact ⟨2,_,rfl,k4.trans ht⟩ |bu=>exact ⟨3,_,rfl,k5.trans ht⟩ |ob=>cases ht |rc i=>simp[nC,Au.nil] at ht |de i=>simp[nC,Au.nil] at ht
end
open Go Go.Sx Go.Cc
def acH:Nat->Option (List Sh->Tree Sh)
 |77=>ay ap7 |_=>aN
noncomputable def CT(A:Prim)(W:Wd):Ctx:={C5 A W acH Bc with am2:=fun t=>bif fC t 179 then ay (.i64,[]) else aN}
def alk(g:Nat):Bool:=fC g 79
def Xz:List It:=[bD [0,1,0,1,1,1,1],dh 0,bD [1,1,1,1,1]]
def as6:List It:=bD [0,0,1,0,1,1,1,1]::Xz
def YL(g:Nat):Bool:=fC g 79||fC g 44
def LT(m:Nat)(p:Nat->Ev)(b:Nat)(c i:Int):Core:=
 {tm:=[.any,.any,.Fg,.Ed,.any,.val (.pointer (ay ⟨b,0,aN⟩))]++rep [.any] 19++[.sh (.sl 8 m (Az p)),.sym .i64 c,.sym .i64 i]++rep [.any] 16,hp:=[],nx:=0,lim:=L0,tc:=[]}
def Rq:List Fr:=[{g:=20,td:=[oq [0,1] [1,2,3,4,5,6],bD [1,1]],tm:=[.any,.any,.Bj,.Ed]++rep [.any] 12}]
def tdP:List It:=[oq [0,1,0,0,1,1,0,0,1,0,1,1,1,1] [2,3],bD [1,1,0,0,1,1,0,0,1,0,1,1,1,1],dh 1,bD [1,1,1,0,0,1,0,1,1,1,1]]++Xz
def tdQ:List It:=[oq [0,1,0,0,1,1,0,0,1,0,1,1,1,1] [3],bD [1,1,0,0,1,1,0,0,1,0,1,1,1,1],dh 1,bD [1,1,1,0,0,1,0,1,1,1,1]]++Xz
def LP(m:Nat)(p:Nat->Ev)(b:Nat)(c i:Int)(e:Ev)(x:SV):Core:=
 {tm:=[.any,.any,.Fg,.Ed,.any,.val (.pointer (ay ⟨b,0,aN⟩)),.any,.sym .i64 i]++rep [.any] 17++[.sh (.sl 8 m (Az p)),.sym .i64 c,.sym .i64 i]++rep [.any] 4 ++
   [.val (.pointer (ay ⟨b,0,aN⟩)),.agg [.sym .i64 e.kind,.sym .i64 e.tx,.sym .i64 e.thread,.sym .i64 e.obj,.sym .i64 e.op,.sym .i64 e.key,.sym .i64 e.val,.sym .i64 e.ret],x]++rep [.any] 9,hp:=[],nx:=0,lim:=L0,tc:=[]}
def aey:List It:=[oq [0,1,1,1] [1,2,3],bD [1,1,1,1]]
def LX(x:SV):Core:={tm:=[.any,.any,.Bj,.Ed]++rep [.any] 10++[x,.any],hp:=[],nx:=0,lim:=L0,tc:=[]}
def rcR(N:Rc->Nat)(D:Rc->Nat->List Sh)(r:Rc):List Sh:=[.i .i64 r.id,.i .i64 r.th,.i .i64 r.st,.i .i64 r.bg,.i .i64 r.en,.i .i64 r.tr,.sl 8 (N r) (D r),.i .i64 r.stand]
def Z9(N:Rc->Nat)(D:Rc->Nat->List Sh)(rs:Nat->Rc):Nat->List Sh:=fun j=>[.pt (rcR N D (rs j))]
def auX(N:Rc->Nat)(D:Rc->Nat->List Sh)(v0:Value)(many:Int)(k:Nat)(rs:Nat->Rc)(b1 b2:Nat):SV:=.G5 5 1 (fun _=>[.v v0,.i .i64 many,.sl 1 k (Z9 N D rs),.v (.map (ay b1)),.v (.map (ay b2))]) 0 0
def txR(N:Rc->Nat)(D:Rc->Nat->List Sh)(r:Rc):List Sh:=[.i .i64 r.id,.i .i64 r.th,.i .i64 r.st,.i .i64 r.bg,.i .i64 r.en,.i .i64 r.tr,.sl 8 (N r) (D r)]
def VE(N:Rc->Nat)(D:Rc->Nat->List Sh)(rs:Nat->Rc):Nat->List Sh:=fun j=>txR N D (rs j)
def tdT:List It:=[bD [0,1,0,1,1],dh 0,bD [1,1,1]]
def tbT:List It:=bD [0,0,1,0,1,1]::tdT
def aez(N:Rc->Nat)(D:Rc->Nat->List Sh)(k:Nat)(rs:Nat->Rc)(c i:Int)(j:Nat)(gg:Nat->List Sh):Core:=
 {tm:=[.any,.any,.any,.gs 0]++rep [.any] 12++[.sh (.sl 1 k (Z9 N D rs)),.sym .i64 c,.sym .i64 i]++rep [.any] 21,hp:=[(0,.own 115 7 j gg)],nx:=1,lim:=L0,tc:=[]}
def frX:List Fr:=[{g:=20,td:=aey,tm:=[.any,.any,.Bj,.Ed]++rep [.any] 12}]
theorem a32(A:Prim)(W:Wd)(n m:Nat)(o:Nat->Oj)(p:Nat->Ev):asM (CT A W) alk 300 400 20 [.code []] (AL 16 [.agg [.sl 2 n (Az o),.sl 8 m (Az p)]] L0) []=aI (okB Oj n (Az o)) (aI (okB Ev m (Az p)) (aI (QW m (Az p)) (aG (IZ n m) (aC (vO (cZ [aH 0 0 fun _=>[],bC 6 329]))) (aG (GL n m (Az o) (Az p)) (aI (okB Oj n (Az o)) (aI (okB Ev 0 fun _=>[]) (aI (QW 0 fun _=>[]) (aG (IZ n 0) (aC (vO (cZ [aH 0 0 fun _=>[],bC 6 329]))) (aG (GL n 0 (Az o) fun _=>[]) (aG (A.leN n 0) ((aC (zG 43 [bD [0,1,0,1,1,1,1],dh 0,bD [1,1,1,1,1]] {tm:=[kD [dO (aH 2 n (Az o)),dO (aH 8 m (Az p))],kE 1 0,sJ,fU,fU,kE 4 0,fU,bI,bI,bI,bI,bI,bI,qI aA,bI,bI,bI,bI,bI,bI,bI,bI,qI aA,bI,bI,dO (aH 8 m (Az p)),SV.sym aW (A.Bl m),pq aW (ah 0),bI,bI,bI,bI,bI,bI,bI,bI,bI,bI,bI,bI,bI,bI,bI,bI],hp:=[(0,kF [dO (aH 2 n (Az o)),dO (aH 8 m (Az p))] 25),(1,kF [dO (aH 2 n (Az o)),dO (aH 8 m (Az p))] 25),(2,nD aW (fun _=>aN) [] [] aN),(3,nD aW (fun _=>aN) [] [] aN),(4,kF [kL,pq aW (ah 0),kL,pX 2,pX 3] 181)],nx:=5,lim:=1000000000000000000000000000000,tc:=[]} [{g:=20,td:=[oq [0,1] [1,2,3,4,5,6],bD [1,1]],tm:=[kD [dO (aH 2 n (Az o)),dO (aH 8 m (Az p))],kE 0 0,kL,fU,bI,bI,bI,kD [dO (aH 2 n (Az o)),dO (aH 8 m (Az p))],bI,bI,bI,bI,bI,bI,bI,bI]}])).both (aI (A.room (A.addN 0 n) 16) (aC (zG 43 [bD [0,1,0,1,1,1,1],dh 0,bD [1,1,1,1,1]] {tm:=[kD [dO (aH 2 n (Az o)),dO (aH 8 m (Az p))],kE 1 0,sJ,fU,fU,kE 6 0,fU,bI,bI,bI,bI,bI,bI,qI aA,bI,bI,bI,bI,bI,bI,bI,bI,qI aA,bI,bI,dO (aH 8 m (Az p)),SV.sym aW (A.Bl m),pq aW (ah 0),bI,bI,bI,bI,bI,bI,bI,bI,bI,bI,bI,bI,bI,bI,bI,bI],hp:=[(0,kF [dO (aH 2 n (Az o)),dO (aH 8 m (Az p))] 25),(1,kF [dO (aH 2 n (Az o)),dO (aH 8 m (Az p))] 25),(3,sH 140 2 (A.addN 0 n) (A.snoc (BD []) 0 (Az o))),(4,nD aW (fun _=>aN) [] [] aN),(5,nD aW (fun _=>aN) [] [] aN),(6,kF [SV.gs 3,pq aW (ah 0),kL,pX 4,pX 5] 181)],nx:=7,lim:=1000000000000000000000000000000,tc:=[2]} [{g:=20,td:=[oq [0,1] [1,2,3,4,5,6],bD [1,1]],tm:=[kD [dO (aH 2 n (Az o)),dO (aH 8 m (Az p))],kE 0 0,kL,fU,bI,bI,bI,kD [dO (aH 2 n (Az o)),dO (aH 8 m (Az p))],bI,bI,bI,bI,bI,bI,bI,bI]}])))) (aI (A.room (A.addN 0 n) 16) (aC (zG 43 [bD [0,1,0,1,1,1,1],dh 0,bD [1,1,1,1,1]] {tm:=[kD [dO (aH 2 n (Az o)),dO (aH 8 m (Az p))],kE 1 0,sJ,fU,fU,kE 6 0,fU,bI,bI,bI,bI,bI,bI,qI aA,bI,bI,bI,bI,bI,bI,bI,bI,qI aA,bI,bI,dO (aH 8 m (Az p)),SV.sym aW (A.Bl m),pq aW (ah 0),bI,bI,bI,bI,bI,bI,bI,bI,bI,bI,bI,bI,bI,bI,bI,bI],hp:=[(0,kF [dO (aH 2 n (Az o)),dO (aH 8 m (Az p))] 25),(1,kF [dO (aH 2 n (Az o)),dO (aH 8 m (Az p))] 25),(3,sH 140 2 (A.addN 0 n) (A.snoc (BD []) 0 (Az o))),(4,nD aW (fun _=>aN) [] [] aN),(5,nD aW (fun _=>aN) [] [] aN),(6,kF [SV.gs 3,pq aW (ah 0),kL,pX 4,pX 5] 181)],nx:=7,lim:=1000000000000000000000000000000,tc:=[2]} [{g:=20,td:=[oq [0,1] [1,2,3,4,5,6],bD [1,1]],tm:=[kD [dO (aH 2 n (Az o)),dO (aH 8 m (Az p))],kE 0 0,kL,fU,bI,bI,bI,kD [dO (aH 2 n (Az o)),dO (aH 8 m (Az p))],bI,bI,bI,bI,bI,bI,bI,bI]}])))) (aC (vO (cZ [aH 0 0 fun _=>[],qj 109 (tZ [aZ .i64 (J9 n 0 (Az o) fun _=>[]),bC (NV n 0 (Az o) fun _=>[]) 329])])))))))) (aC (vO (cZ [aH 0 0 fun _=>[],qj 109 (tZ [aZ .i64 (J9 n m (Az o) (Az p)),bC (NV n m (Az o) (Az p)) 329])]))))))):=by kernel_rfl
theorem b32(A:Prim)(W:Wd)(m:Nat)(p:Nat->Ev)(b:Nat)(c i:Int)(k:Nat):BA (CT A W) YL 300 400 43 as6 (LT m p b c i) Rq [⟨43,tdP,LP m p b c i (p k) .any,Rq⟩,⟨20,aey,LX (.val (.pointer (ay ⟨b,0,aN⟩))),[]⟩]=aG (A.lt i c) (aI (A.inB i m) (aC (bJ 0 [kX (gJ (ay {block:=b,off:=0})) (gJ (ay {block:=b,off:=0})),ak i i,aP (aH 8 m (Az p)) (aH 8 m (Az p)),ak c c,ak i i,kX (gJ (ay {block:=b,off:=0})) (gJ (ay {block:=b,off:=0})),ak (p (A.toN i)).kind (p k).kind,ak (p (A.toN i)).tx (p k).tx,ak (p (A.toN i)).thread (p k).thread,ak (p (A.toN i)).obj (p k).obj,ak (p (A.toN i)).op (p k).op,ak (p (A.toN i)).key (p k).key,ak (p (A.toN i)).val (p k).val,ak (p (A.toN i)).ret (p k).ret]))) (aC (bJ 1 [kX (gJ (ay {block:=b,off:=0})) (gJ (ay {block:=b,off:=0}))])):=by kernel_rfl
theorem c32(A:Prim)(W:Wd)(m:Nat)(p:Nat->Ev)(b:Nat)(c i i1:Int)(e:Ev):BA (CT A W) YL 300 400 43 tdQ (LP m p b c i e .Ed) Rq [⟨43,Xz,LT m p b c i1,Rq⟩]=aC (bJ 0 [kX (gJ (ay {block:=b,off:=0})) (gJ (ay {block:=b,off:=0})),aP (aH 8 m (Az p)) (aH 8 m (Az p)),ak c c,ak (A.add .i64 i (ah 1)) i1]):=by kernel_rfl
theorem d32(A:Prim)(W:Wd)(m:Nat)(p:Nat->Ev)(b:Nat)(c i:Int)(e:Ev)(k:Nat):BA (CT A W) YL 300 400 43 tdQ (LP m p b c i e (.sh (.er k 329))) Rq []=aC (aU (cZ [aH 0 0 fun _=>[],qj 109 (tZ [aZ .i64 i,bC k 329])])):=by kernel_rfl
theorem e32(A:Prim)(W:Wd)(N:Rc->Nat)(D:Rc->Nat->List Sh)(v0:Value)(many:Int)(k:Nat)(rs:Nat->Rc)(b1 b2:Nat)(c i:Int)(j:Nat)(gg:Nat->List Sh):BA (CT A W) Ec 300 400 20 aey (LX (auX N D v0 many k rs b1 b2)) [] [⟨44,tdT,aez N D k rs c i j gg,frX⟩]=aI (A.le (ah 0) (A.Bl k)) (aI (A.room (A.toN (A.Bl k)) 72) (aC (bJ 0 [aP (aH 1 k (Z9 N D rs)) (aH 1 k (Z9 N D rs)),ak (A.Bl k) c,ak (ah 0) i,aK 0 j,aV 0 (fun _=>[]) gg]))):=by kernel_rfl
theorem f32(A:Prim)(W:Wd)(N:Rc->Nat)(D:Rc->Nat->List Sh)(k:Nat)(rs:Nat->Rc)(c i i1:Int)(j j1:Nat)(gg g1:Nat->List Sh):asN (CT A W) Ec 300 400 44 tbT (aez N D k rs c i j gg) frX [⟨44,tdT,aez N D k rs c i1 j1 g1,frX⟩]=aG (A.lt i c) (aI (A.inB i k) (aI (A.le (ah 0) (A.Bl (N (rs (A.toN i))))) (aI (A.room (A.toN (A.Bl (N (rs (A.toN i))))) 64) (aI (A.room (A.addN 0 (N (rs (A.toN i)))) 64) (aI (A.le (ah 0) (A.Bl (N (rs (A.toN i))))) (aI (A.room (A.toN (A.Bl (N (rs (A.toN i))))) 64) (aI (A.room (A.addN 0 (N (rs (A.toN i)))) 64) (aT [aK 1 1,bF (fun _=>rcR N D (rs (A.toN i))) fun _=>rcR N D (rs (A.toN i)),aK 0 0,aP (aH 1 k (Z9 N D rs)) (aH 1 k (Z9 N D rs)),ak c c,ak i i,aK j j,bF gg gg,ak (rs (A.toN i)).id (rs (A.toN i)).id,ak (rs (A.toN i)).th (rs (A.toN i)).th,ak (rs (A.toN i)).st (rs (A.toN i)).st,ak (rs (A.toN i)).bg (rs (A.toN i)).bg,ak (rs (A.toN i)).en (rs (A.toN i)).en,ak (rs (A.toN i)).tr (rs (A.toN i)).tr,aK (A.addN 0 (N (rs (A.toN i)))) (A.addN 0 (N (rs (A.toN i)))),bF (A.snoc (fun _=>[]) 0 (D (rs (A.toN i)))) (A.snoc (fun _=>[]) 0 (D (rs (A.toN i))))] (aI (A.le (ah 0) (A.Bl (N (rs (A.toN i))))) (aI (A.room (A.toN (A.Bl (N (rs (A.toN i))))) 64) (aI (A.room (A.addN 0 (N (rs (A.toN i)))) 64) (aT [aK 1 1,bF (fun _=>rcR N D (rs (A.toN i))) fun _=>rcR N D (rs (A.toN i)),aK 0 0,aP (aH 1 k (Z9 N D rs)) (aH 1 k (Z9 N D rs)),ak c c,ak i i,aK j j,bF gg gg,ak (rs (A.toN i)).id (rs (A.toN i)).id,ak (rs (A.toN i)).th (rs (A.toN i)).th,ak (rs (A.toN i)).st (rs (A.toN i)).st,ak (rs (A.toN i)).bg (rs (A.toN i)).bg,ak (rs (A.toN i)).en (rs (A.toN i)).en,ak (rs (A.toN i)).tr (rs (A.toN i)).tr,aK (A.addN 0 (N (rs (A.toN i)))) (A.addN 0 (N (rs (A.toN i)))),bF (A.snoc (fun _=>[]) 0 (D (rs (A.toN i)))) (A.snoc (fun _=>[]) 0 (D (rs (A.toN i))))] (aI (A.room (A.addN j 1) 72) (aC (bJ 0 [aP (aH 1 k (Z9 N D rs)) (aH 1 k (Z9 N D rs)),ak c c,ak (A.add .i64 i (ah 1)) i1,aK (A.addN j 1) j1,aV (A.addN j 1) (A.snoc gg j (BD [[aZ .i64 (rs (A.toN i)).id,aZ .i64 (rs (A.toN i)).th,aZ .i64 (rs (A.toN i)).st,aZ .i64 (rs (A.toN i)).bg,aZ .i64 (rs (A.toN i)).en,aZ .i64 (rs (A.toN i)).tr,aH 8 (A.addN 0 (N (rs (A.toN i)))) (A.snoc (fun _=>[]) 0 (D (rs (A.toN i))))]])) g1]))))))))))))))) (aC (aU (cZ [Sh.os 115 7 j gg,Sh.v Value.nilIface]))):=by kernel_rfl
end Go.AQ
namespace Go.Cc
open Go Go.Sx
def rc0:Rc:=⟨0,0,0,0,0,0,[],0⟩
def F5(r:Rc):Nat:=r.AP.length
def dfn(r:Rc):Nat->List Sh:=Az (nth r.AP)
def Hf(σ:Au)(j:Nat):Rc:=σ.rs.getD j rc0
theorem VF{σ:Au}{j:Nat}(h:j<σ.rs.length):σ.rs[j]?=ay (Hf σ j):=by
 simp[Hf,aX,aS h]
end Go.Cc
namespace Go.AQ
open Go Go.Sx Go.Cc
section
variable{H:Mem}{E:Env}{w:World}{n:Nat}{o:Nat->Oj}{h:Hp}{σ:Au}{b:Nat}
theorem amH(hR:KQ n o σ b h)(hat:h.at H w):∃L:Lay,Den (H.with h) E (auX F5 dfn L.v0 σ.many σ.rs.length (Hf σ) L.b1 L.b2) (.pointer (ay ⟨b,0,aN⟩)):=by
 obtain ⟨L,rfl,hdom,hA⟩:=hR;have A:=hA H w hat;have at_:∀t x,L.blk σ.rs.length t=ay x->(H.with h) x=w.heap[x]?:=fun t x hx=>by
  cases q:h x with
  |none=>exact ((hdom x).2 ⟨t,hx⟩ q).elim |some ob=>simp only[Mem.with,q];exact (hat x ob q).1.symm
 have as7:L.v0.oneCell'=aF:=by
  obtain ⟨xs,h1,_⟩:=A.ob;rcases h1.2 with ⟨q,_⟩ |⟨g,cap,cur,q,_⟩<;>rw[q]<;>rfl
 have axi:L.v2.oneCell'=aF:=by
  rcases A.tx.2 with ⟨q,_⟩ |⟨g,cap,cur,q,_⟩<;>rw[q]<;>rfl
 have axj:∀i,i<σ.rs.length->Rep (H.with h) (.pt (rcR F5 dfn (Hf σ i))) (DW (L.R i)):=fun i hi=>by
  have hs:=VF (σ:=σ) hi;have hc:=A.rc i _ hs;have hd:=A.de i _ hs;have hb:=at_ (.rc i) (L.R i) (by simp[nC,hi]);rw[hc] at hb;have axk:(L.D i).oneCell'=aF:=by
   rcases hd.2 with ⟨q,_⟩ |⟨g,cap,cur,q,_⟩<;>rw[q]<;>rfl
  have axl:Rep (H.with h) (.sl 8 (F5 (Hf σ i)) (dfn (Hf σ i))) (L.D i):=ML hd (ZF _) fun x hx=>at_ (.de i) x (by simp[nC,hi,hx]);refine .pt _ (L.R i) 0 (fun j=>(Xw (Hf σ i) (L.D i)).getD j undef) (fun j hj=>?_) (fun j hj=>?_) fun j s hs'=>?_
  ·simp only[hcell,hb,gU]
   have:j<(Xw (Hf σ i) (L.D i)).size:=hj;simp[iM,fF this]
  ·have:j<8:=hj
   match j,this with
   |0,_=>rfl |1,_=>rfl |2,_=>rfl |3,_=>rfl |4,_=>rfl |5,_=>rfl |6,_=>exact axk |7,_=>rfl |j+8,hj=>omega
  ·match j,hs' with
   |0,hs'=>cases hs';exact .i _ _ |1,hs'=>cases hs';exact .i _ _ |2,hs'=>cases hs';exact .i _ _ |3,hs'=>cases hs';exact .i _ _ |4,hs'=>cases hs';exact .i _ _ |5,hs'=>cases hs';exact .i _ _ |6,hs'=>cases hs';exact axl |7,hs'=>cases hs';exact .i _ _ |j+8,hs'=>simp[rcR] at hs'
 have axn:Rep (H.with h) (.sl 1 σ.rs.length (Z9 F5 dfn (Hf σ))) L.v2:=by
  refine ML A.tx ?_ fun x hx=>at_ .tx x hx
  refine ⟨by simp,fun i _=>rfl,fun u hu=>?_,fun i j s v hi h1 h2=>?_⟩
  ·obtain ⟨i,_,rfl⟩:=dL.1 hu
   rfl
  ·match j,h1 with
   |0,h1=>
    cases h1;simp[hi] at h2;subst h2;exact axj i hi
   |j+1,h1=>simp[Z9] at h1
 have hb:=at_ .au L.p rfl;rw[A.au] at hb;refine ⟨L,L.p,0,fun j=>(#[L.v0,.int .i64 σ.many,L.v2,.map (ay L.b1),.map (ay L.b2)]:Array Value).getD j undef,rfl,by decide,rfl,fun j hj=>⟨?_,?_⟩,fun j s hs'=>?_⟩
 ·simp only[hcell,hb,gU]
  have:j<(#[L.v0,.int .i64 σ.many,L.v2,.map (ay L.b1),.map (ay L.b2)]:Array Value).size:=hj;simp[iM,fF this]
 ·match j,hj with
  |0,_=>exact as7 |1,_=>rfl |2,_=>exact axi |3,_=>rfl |4,_=>rfl |j+5,hj=>omega
 ·match j,hs' with
  |0,hs'=>cases hs';exact .v _ as7 |1,hs'=>cases hs';exact .i _ _ |2,hs'=>cases hs';exact axn |3,hs'=>cases hs';exact .v _ rfl |4,hs'=>cases hs';exact .v _ rfl |j+5,hs'=>simp at hs'
end
end Go.AQ
namespace Go.Sx
def pS(x y:SV):Prop:=∀(H:Mem) (E:Env) (v:Value),Den H E x v->Den H E y v
def pL:List SV->List SV->Prop
 |[],[]=>True |x::l,y::m=>pS x y/\pL l m |_,_=>False
def pB:SB->SB->Prop
 | .box l e,.box m f=>e=f/\pL l m |a,b=>a=b
def pH:List (Nat×SB)->List (Nat×SB)->Prop
 |[],[]=>True |(i,a)::l,(j,b)::m=>i=j/\pB a b/\pH l m |_,_=>False
def alm:List Fr->List Fr->Prop
 |[],[]=>True |f::s,f'::s'=>f.g=f'.g/\f.td=f'.td/\pL f.tm f'.tm/\alm s s' |_,_=>False
structure pC(c c':Core):Prop where
 tm:pL c.tm c'.tm
 hp:pH c.hp c'.hp
 nx:c.nx=c'.nx
 lim:c.lim=c'.lim
 tc:c.tc=c'.tc
theorem pS.any{x:SV}:pS x .any:=fun _ _ _ _=>trivial
theorem aax{H:Mem}{E:Env}:∀{l m:List SV} {vs:List Value},pL l m->AV H E l vs->AV H E m vs
 |[],[],[],_,_=>trivial |_::_,_::_,_::_,⟨h1,h2⟩,⟨d1,d2⟩=>⟨h1 _ _ _ d1,aax h2 d2⟩ |[],_::_,_,h,_=>h.elim |_::_,[],_,h,_=>h.elim |_::_,_::_,[],_,hd=>hd.elim |[],[],_::_,_,hd=>hd.elim
theorem pS.sl{st n:Nat}{g g':Nat->List Sh}(h:∀j,j<n->g j=g' j):pS (.sh (.sl st n g)) (.sh (.sl st n g')):=fun H E v hd=>by
 have hd:Rep H (.sl st n g) v:=hd;show Rep H (.sl st n g') v;cases hd with
 |sl0 _ _ A cap hc=>exact .sl0 _ _ _ _ hc |sl _ _ _ b off cap c h1 h2 h3 h4 h5 h6=>exact .sl _ _ _ b off cap c h1 h2 (fun i hi=>by rw[<-h i hi];exact h3 i hi) h4 h5 fun i j s hi e=>h6 i j s hi (by rw[h i hi];exact e)
theorem pL.set{x y:SV}(h:pS x y):∀{l m:List SV} (i:Nat),pL l m->pL (l.set i x) (m.set i y)
 |[],[],_,_=>trivial |_::_,_::_,0,⟨_,h2⟩=>⟨h,h2⟩ |_::_,_::_,i+1,⟨h1,h2⟩=>⟨h1,pL.set h i h2⟩ |[],_::_,_,h=>h.elim |_::_,[],_,h=>h.elim
section
variable{P:Program}{C:Ctx}{K:Kx}{H H':Mem}{E E':Env}{w w':World}
theorem aj3{id:Nat}{a b:SB}(h:pB a b)(he:GV K H E w id a):GV K H E w id b/\Bv E id a=Bv E id b:=by
 cases a with
 |box l e=>
  cases b with
  |box m f=>
   obtain ⟨rfl,h⟩:=h;obtain ⟨b,cs,h1,h2,h3,h4⟩:=he;exact ⟨⟨b,cs,h1,h2,aax h h3,h4⟩,rfl⟩
  |_=>simp[pB] at h
 |_=>
  simp only[pB] at h;subst h;exact ⟨he,rfl⟩
theorem aay:∀{l m:List (Nat×SB)} {i:Nat} {b:SB},pH l m->AA m i=ay b->∃a,AA l i=ay a/\pB a b
 |[],[],_,_,_,h=>by simp[AA] at h |(i,a)::l,(j,b)::m,k,sb,⟨h1,h2,h3⟩,h=>by
  subst h1;simp only[AA] at h ⊢;cases hk:(i==k)<;>simp only[hk,cond_true,cond_false] at h ⊢
  ·exact aay h3 h
  ·cases h;exact ⟨_,rfl,h2⟩
 |[],_::_,_,_,h,_=>h.elim |_::_,[],_,_,h,_=>h.elim
theorem St.afL{c c':Core}{a:Act}(st:St C K H E w c a)(h:pC c c'):St C K H E w c' a:=by
 refine ⟨aax h.tm st.den,⟨fun id sb hl=>?_,fun id id' sb sb' b l1 l2 o1 o2=>?_⟩,st.Cm,fun i h1 h2=>st.free i (by rw[h.nx];exact h1) (by rw[h.lim];exact h2),st.gl,st.defers⟩
 ·obtain ⟨x,h1,h2⟩:=aay h.hp hl
  exact (aj3 h2 (st.hp.ent _ _ h1)).1
 ·obtain ⟨x,h1,h2⟩:=aay h.hp l1
  obtain ⟨y,h3,h4⟩:=aay h.hp l2;exact st.hp.Gu _ _ _ _ _ h1 h3 (by rw[(aj3 h2 (st.hp.ent _ _ h1)).2];exact o1) (by rw[(aj3 h4 (st.hp.ent _ _ h3)).2];exact o2)
theorem Gx.afL:∀{s s':List Fr} {ms:List Frame},Gx C H E s ms->alm s s'->Gx C H E s' ms
 |[],[],[],_,_=>trivial |f::s,f'::s',m::ms,⟨⟨fn,a,items,h1,h2,h3,h4,h5⟩,h6⟩,⟨e1,e2,e3,e4⟩=>
  ⟨⟨fn,a,items,by rw[<-e1];exact h1,aax e3 h2,h3,by rw[<-e2];exact h4,by rw[<-e1];exact h5⟩,Gx.afL h6 e4⟩
 |[],[],_::_,h,_=>h.elim |_::_,_,[],h,_=>h.elim |[],_::_,_,_,h=>h.elim |_::_,[],_::_,_,h=>h.elim
theorem aln{g:Nat}:∀{s s':List Fr} {g:Nat},alm s s'->Ri g s'=Ri g s
 |[],[],_,_=>rfl |f::s,f'::s',_,⟨e1,_,_,e4⟩=>by simp only[Ri];rw[e1];exact aln (g:=0) e4 |[],_::_,_,h=>h.elim |_::_,[],_,h=>h.elim
theorem XA{g:Nat}{td:List It}{c c':Core}{stk JZ:List Fr}{R:Hp->Prop}{φ:Sh->Prop}(hle:pC c c')(hs:alm stk JZ)(h:BK P C K g td c' JZ R φ):BK P C K g td c stk R φ:=by
 intro H E w a items ms cs fn hfn st hi hst hx;have:=h H E w a items ms cs fn hfn (st.afL hle) hi (hst.afL hs) hx;rw[aln (g:=0) hs] at this;exact this
end
end Go.Sx
namespace Go.Cc
open Go Go.Sx
theorem H6{α:Type}[Row α](o:Nat->α):AB (Az o)=o:=funext fun i=>NP o i
def takeN(p:Nat->Ev):Au->Nat->Nat->Au ⊕ (Nat×Nat)
 |σ,_,0=>.inl σ |σ,k,r+1=>match (σ.feed (p k)).1 with
  |none=>takeN p (σ.feed (p k)).2 (k+1) r |some e=>.inr (k,e)
def QY(m:Nat)(p:Nat->Ev):Au ⊕ (Nat×Nat):=takeN p Au.nil 0 m
def takeB(m:Nat)(p:Nat->Ev):Bool:=match QY m p with| .inl _=>aF| .inr _=>aA
def Ju(m:Nat)(p:Nat->Ev):Au:=match QY m p with| .inl σ=>σ| .inr _=>Au.nil
def VG(m:Nat)(p:Nat->Ev):Int:=match QY m p with| .inl _=>0| .inr (k,_)=>k
def VH(m:Nat)(p:Nat->Ev):Nat:=match QY m p with| .inl _=>0| .inr (_,e)=>e
def resT:Au ⊕ (Nat×Nat)->Sh
 | .inl σ=>.Ba [.os 115 7 σ.rs.length (Go.AQ.VE F5 dfn (Hf σ)),.v .nilIface] | .inr (k,e)=>.Ba [.sl 0 0 fun _=>[],.Dv 109 (.pt [.i .i64 (k:Int),.er e 329])]
structure afM(n m:Nat)(o:Nat->Oj)(p:Nat->Ev):Prop where
 small:n<=8/\m<=400
 valid:∀k,k<m->CS (p k)=aF
 obj:∀k,k<m->(p k).kind=2->0<=(p k).obj/\(p k).obj<n/\D6 (p k).op=(o (p k).obj.toNat).kind
theorem VI{f:Nat->Option Nat}:∀{r k:Nat},Jt f k r=aN->∀j,k<=j->j<k+r->f j=aN
 |0,k,_,j,h1,h2=>by omega |r+1,k,h,j,h1,h2=>by
  simp only[Jt] at h;cases hf:f k with
  |some e=>rw[hf] at h;cases h |none=>
   rw[hf] at h;by_cases q:j=k
   ·subst q;exact hf
   ·exact VI h j (by omega) (by omega)
theorem acI{n m:Nat}{o:Nat->Oj}{p:Nat->Ev}(h1:IZ n m=aA)(h2:(Xv n m o p).isNone=aF)(h3:∀k,k<m->Dq (p k).ret=aF):afM n m o p:=by
 unfold IZ at h1;have h1:¬(8<n\/400<m):=by simpa using h1
 have key:∀k,k<m->KO n o (p k)=aN:=fun k hk=>by
  unfold Xv at h2;cases hs:Jt (fun k=>QV (o k)) 0 n with
  |some x=>rw[hs] at h2;cases h2 |none=>
   rw[hs] at h2;exact VI (Option.isNone_iff_eq_none.1 h2) k (by omega) (by omega)
 have parts:∀k,k<m->O1 (p k)=aF/\fieldsB (p k)=aF/\((p k).kind=2->(p k).obj<n/\D6 (p k).op=(o (p k).obj.toNat).kind):=fun k hk=>by
  have h:=key k hk;unfold KO at h;cases c1:O1 (p k)<;>simp only[c1,cond_true,cond_false] at h
  ·cases h
  cases c2:fieldsB (p k)<;>simp only[c2,cond_true,cond_false] at h
  ·cases h
  refine ⟨rfl,rfl,fun hk2=>?_⟩;simp only[hk2,beq_self_eq_true,cond_true] at h;cases c3:decide ((n:Int)<=(p k).obj)<;>simp only[c3,cond_true,cond_false] at h
  ·have c3:=of_decide_eq_false c3
   cases c4:(D6 (p k).op==(o (p k).obj.toNat).kind)<;>simp only[c4,cond_true,cond_false] at h
   ·cases h
   ·exact ⟨by omega,by simpa using c4⟩
  ·cases h
 exact ⟨by omega,fun k hk=>by
  obtain ⟨a,b,_⟩:=parts k hk;simp[CS,a,b,h3 k hk],fun k hk hk2=>by
  obtain ⟨a,b,c⟩:=parts k hk;exact ⟨ZC b hk2,c hk2⟩⟩
end Go.Cc
namespace Go.AQ
open Go Go.Sx Go.Cc
theorem asu:∀g F,acH g=ay F->Bh aB (F9 W5) g F:=fun g F h=>by
 unfold acH at h;split at h
 ·cases h;exact aw9
 ·cases h
theorem acJ:BL aB (CT Aw W5):=by
 have h:=C5.ok acH Bc;exact ⟨h.1,h.2,h.3,h.4,h.5,h.6,Ar⟩
theorem CTf:Cb aB (CT Aw W5):=by
 have h:=C5.Um (stop:=Bc) asu fun g h=>by
  unfold acH at h;split at h;all_goals first|(cases h;done) |kernel_rfl
 exact ⟨h.1,h.2,h.3,h.4⟩
theorem XB{n b:Nat}(h:n<=100000)(hb:b<=1000):Aw.room n b=aF:=by
 rw[ET,decide_eq_true_eq];have h1:n*b<=100000*1000:=Nat.mul_le_mul h hb;refine ⟨by omega,?_⟩;unfold maxLen;omega
theorem aqz{H0:Mem}{w0:World}{N:Nat}{rs:Nat->Rc}{φ:Sh->Prop}(hN:N<=1000)(hD:∀k,k<N->F5 (rs k)<=1000)(hφ:φ (.Ba [.os 115 7 N (VE F5 dfn rs),.v .nilIface])):
  ∀rm k,k+rm=N->BK aB (CT Aw W5) (K0 H0 w0) 44 tdT (aez F5 dfn N rs (N:Int) k k (VE F5 dfn rs)) frX emp φ
 |rm,k,hk=>by
  refine FW (fn:=yY) (tb:=tbT) (by kernel_rfl) (by kernel_rfl) ?_;refine ag0 acJ CTf (hold:=Ec) (m:=300) (n:=400) (ts:=[⟨44,tdT,aez F5 dfn N rs (N:Int) (k+1:Nat) (k+1) (VE F5 dfn rs),frX⟩]) ?_;rw[f32 Aw W5 F5 dfn N rs (N:Int) k (k+1:Nat) k (k+1) (VE F5 dfn rs) (VE F5 dfn rs)];simp only[AO,DK,Bg,BO,Dn,DR,DU,Hz,Tree.All,Jq,Int.toNat_natCast,gU];refine ⟨fun h=>?_,fun h=>?_⟩
  ·have hlt:k<N:=by simp at h;omega
   have hd:=hD k hlt;have hw:aW.wrap ((k:Int)+1)=((k+1:Nat):Int):=by rw[CO (by omega) (by omega)];rfl
   have hle:decide (ah 0<=ah (F5 (rs k)))=aF:=by simp
   have hr1:Aw.room (F5 (rs k)) 64=aF:=XB (by omega) (by omega);have hr2:Aw.room (k+1) 72=aF:=XB (by omega) (by omega);have eqD:Aw.snoc (fun _=>[]) 0 (dfn (rs k))=dfn (rs k):=by
    funext i;rw[EF];simp
   match rm,hk with
   |0,hk=>omega |rm+1,hk=>
    refine ⟨by simp;omega,hle,hr1,hr1,hle,hr1,hr1,?_,hle,hr1,hr1,?_,hr2,⟨rfl,rfl,hw,rfl,fun i hi=>?_,trivial⟩,_,rfl,aqz hN hD hφ rm (k+1) (by omega)⟩
    ·repeat' (first|exact trivial|refine bY rfl ?_)
    ·repeat' (first|exact trivial|refine bY rfl ?_)
    ·rw[EF,eqD]
     by_cases q:i<k
     ·rw[if_pos q]
     ·rw[if_neg q]
      have:i=k:=by omega
      subst this;rw[Nat.sub_self];rfl
  ·have:k=N:=by simp at h;omega
   subst this;exact hφ
theorem avt{H0:Mem}{w0:World}{n:Nat}{o:Nat->Oj}{σ:Au}{b:Nat}{φ:Sh->Prop}(hI:σ.OK)(hm:σ.many<=400)(hφ:φ (resT (.inl σ))):
  BK aB (CT Aw W5) (K0 H0 w0) 20 aey (LX (.val (.pointer (ay ⟨b,0,aN⟩)))) [] (KQ n o σ b) φ:=by
 have hlen:=hI.len;refine agX (X:=Lay) (u:=.pointer (ay ⟨b,0,aN⟩)) (y:=fun L=>auX F5 dfn L.v0 σ.many σ.rs.length (Hf σ) L.b1 L.b2) (fun H E h w hR _ hat=>amH hR hat) (i:=14) rfl fun L=>?_
 show BK aB (CT Aw W5) (K0 H0 w0) 20 aey (LX (auX F5 dfn L.v0 σ.many σ.rs.length (Hf σ) L.b1 L.b2)) [] emp φ;refine Ic acJ CTf (hold:=Ec) (m:=300) (n:=400) (ts:=[⟨44,tdT,aez F5 dfn σ.rs.length (Hf σ) (σ.rs.length:Int) (0:Nat) 0 (VE F5 dfn (Hf σ)),frX⟩]) ?_;rw[e32 Aw W5 F5 dfn L.v0 σ.many σ.rs.length (Hf σ) L.b1 L.b2 (σ.rs.length:Int) (0:Nat) 0 (VE F5 dfn (Hf σ))];refine ⟨by simp[DK,Bg],XB (by simp[Dn,Bg];omega) (by omega),⟨rfl,rfl,rfl,rfl,fun i hi=>by omega,trivial⟩,_,rfl,aqz (by omega) (fun k hk=>?_) hφ _ 0 (gU _)⟩;have:=hI.dl k _ (VF hk);show (Hf σ k).AP.length<=1000;omega
theorem asv{H:Mem}{E:Env}{e:Ev}{v:Value}(h:Den H E (.agg [.sym .i64 e.kind,.sym .i64 e.tx,.sym .i64 e.thread,.sym .i64 e.obj,.sym .i64 e.op,.sym .i64 e.key,.sym .i64 e.val,.sym .i64 e.ret]) v):v=YK e:=by
 obtain ⟨⟨vs⟩,rfl,hd⟩:=h;match vs,hd with
 |[a,b,c,d,e,f,g,h],⟨h1,h2,h3,h4,h5,h6,h7,h8,_⟩=>
  cases h1;cases h2;cases h3;cases h4;cases h5;cases h6;cases h7;cases h8;rfl
theorem alo{H0:Mem}{w0:World}{n m:Nat}{o:Nat->Oj}{p:Nat->Ev}{b:Nat}{φ:Sh->Prop}(hg:afM n m o p):
  ∀rm k σ,k+rm=m->σ.OK->σ.many=k->φ (resT (takeN p σ k rm))->BK aB (CT Aw W5) (K0 H0 w0) 43 Xz (LT m p b (m:Int) k) Rq (KQ n o σ b) φ
 |rm,k,σ,hk,hI,avu,hφ=>by
  have hs:=hg.small;refine FW (fn:=pz) (tb:=as6) (by kernel_rfl) (by kernel_rfl) ?_;refine Ic acJ CTf (hold:=YL) (m:=300) (n:=400) (ts:=[⟨43,tdP,LP m p b (m:Int) k (p k) .any,Rq⟩,⟨20,aey,LX (.val (.pointer (ay ⟨b,0,aN⟩))),[]⟩]) ?_;rw[b32 Aw W5 m p b (m:Int) k k];refine ⟨fun h=>?_,fun h=>?_⟩
  ·have hlt:k<m:=by simp[AO] at h;omega
   match rm,hk,hφ with
   |0,hk,_=>omega |rm+1,hk,hφ=>
    refine ⟨by simp[BO];omega,⟨rfl,rfl,rfl,rfl,rfl,rfl,rfl,rfl,rfl,rfl,rfl,rfl,rfl,rfl,trivial⟩,_,rfl,?_⟩;refine agV (fn:=pz) (g2:=79) (args:=[.val (.pointer (ay ⟨b,0,aN⟩)),.agg [.sym .i64 (p k).kind,.sym .i64 (p k).tx,.sym .i64 (p k).thread,.sym .i64 (p k).obj,.sym .i64 (p k).op,.sym .i64 (p k).key,.sym .i64 (p k).val,.sym .i64 (p k).ret]]) (dst:=ay 34) (Gw:=tdQ) (by kernel_rfl) (by kernel_rfl) (CTf.en 79 (.inr (by kernel_rfl))) ⟨rfl,by kernel_rfl,by kernel_rfl⟩
     (avs (fun H E v=>asv) hI (by omega) (hg.valid k hlt) (hg.obj k hlt)) ?_
    show BK aB (CT Aw W5) (K0 H0 w0) 43 tdQ (LP m p b (m:Int) k (p k) (svE (σ.feed (p k)).1)) Rq (KQ n o (σ.feed (p k)).2 b) φ;cases hx:(σ.feed (p k)).1 with
    |none=>
     refine Ic acJ CTf (hold:=YL) (m:=300) (n:=400) (ts:=[⟨43,Xz,LT m p b (m:Int) (k+1:Nat),Rq⟩]) ?_;have e:=c32 Aw W5 m p b (m:Int) k (k+1:Nat) (p k);rw[show svE aN=fU from rfl,e];refine ⟨⟨rfl,rfl,rfl,?_,trivial⟩,_,rfl,alo hg rm (k+1) _ (by omega) (hI.feed (hg.valid k hlt)) (by rw[VD hx,avu]) (by simpa only[takeN,hx] using hφ)⟩;show Aw.add .i64 (k:Int) (ah 1)=((k+1:Nat):Int);rw[DR,Hz,CO (by omega) (by omega)];rfl
    |some e=>
     refine Ic acJ CTf (hold:=YL) (m:=300) (n:=400) (ts:=[]) ?_;rw[show svE (ay e)=dO (.er e 329) from rfl,d32 Aw W5 m p b (m:Int) k (p k) e];have hφ':φ (resT (.inr (k,e))):=by simpa only[takeN,hx] using hφ
     exact hφ'
  ·have:k=m:=by simp[AO] at h;omega
   have:rm=0:=by omega
   subst this;exact ⟨⟨rfl,trivial⟩,_,rfl,avt hI (by omega) hφ⟩
def akv:Sh:=.sl 0 0 fun _=>[]
def F32:List Sh->Tree Sh
 |[.agg [.sl 2 n g,.sl 8 m h]]=>.need (okB Oj n g) (.need (okB Ev m h) (.need (QW m h) (.node (IZ n m) (.leaf (.Ba [.sl 0 0 fun _=>[],.er 6 329])) (.node (GL n m g h)
   (.node (takeB m (AB h)) (.leaf (.Ba [.os 115 7 (Ju m (AB h)).rs.length (VE F5 dfn (Hf (Ju m (AB h)))),.v .nilIface])) (.leaf (.Ba [.sl 0 0 fun _=>[],.Dv 109 (.pt [.i .i64 (VG m (AB h)),.er (VH m (AB h)) 329])])))
   (.leaf (.Ba [.sl 0 0 fun _=>[],.Dv 109 (.pt [.i .i64 (J9 n m g h),.er (NV n m g h) 329])]))))))
 |_=>.fail
theorem O32:Bh aB (F9 W5) 20 F32:=by
 refine KZ (C:=CT Aw W5) acJ (fn:=pF) (by kernel_rfl) (by kernel_rfl) fun H w BI args φ hrep h=>?_
 have hn:pF.ntmps=16:=by kernel_rfl
 unfold F32 at h;split at h
 ·rename_i n g m h'
  obtain ⟨h1,h2,h3,h4,h5⟩:=h;match args,hrep with
  |[v],⟨hv,_⟩=>
   rw[hn];refine ⟨[.agg [.sl 2 n (Az (AB (α:=Oj) g)),.sl 8 m (Az (AB (α:=Ev) h'))]],⟨Tn hv h1 h2,trivial⟩,L0,?_⟩;refine agZ acJ CTf (hold:=alk) (m:=300) (n:=400) ?_;rw[a32 Aw W5 n m (AB g) (AB h'),abv];have hret:∀k,k<m->Dq (AB (α:=Ev) h' k).ret=aF:=fun k hk=>dN.1 h3 k (dD.2 hk);have hb0:IZ n m=aA->IZ n 0=aA:=fun q=>by
    unfold IZ at q ⊢;have q:¬(8<n\/400<m):=by simpa using q
    exact decide_eq_false (by omega)
   have hgd:GL n m (Az (AB (α:=Oj) g)) (Az (AB (α:=Ev) h'))=GL n m g h':=by
    unfold GL;rw[H6,H6]
   refine ⟨Eh _ _,Eh _ _,dN.2 fun k hk=>?_,fun q=>h4 q,fun q=>⟨fun q2=>?_,fun q2=>?_⟩⟩
   ·rw[H6];exact hret k (dD.1 hk)
   ·have q3:GL n m g h'=aF:=hgd ▸ q2
    obtain ⟨hT,hF⟩:=(h5 q).1 q3;have G:=acI q q3 hret;have hs:=G.small;have fin:∀b,BK aB (CT Aw W5) (K0 H w) 43 Xz (LT m (AB h') b (m:Int) (0:Nat)) Rq (KQ n (AB g) Au.nil b) φ:=fun b=>by
     refine alo G m 0 Au.nil (by omega) Au.OK.nil rfl ?_;show φ (resT (QY m (AB h')));unfold takeB at hT hF;unfold Ju at hT;unfold VG VH at hF;cases hx:QY m (AB (α:=Ev) h') with
     |inl σ=>rw[hx] at hT;exact hT rfl |inr x=>rw[hx] at hF;exact hF rfl
    have own:∀nx tc,BK aB (CT Aw W5) (K0 H w) 43 Xz ⟨[kD [dO (aH 2 n (Az (AB (α:=Oj) g))),dO (aH 8 m (Az (AB (α:=Ev) h')))],kE 1 0,sJ,fU,fU,kE 6 0,fU]++rep [.any] 6++[.bool aA]++rep [.any] 8++[.bool aA,.any,.any,dO (aH 8 m (Az (AB (α:=Ev) h'))),.sym .i64 (Aw.Bl m),.int .i64 (ah 0)]++rep [.any] 16,
      [(0,kF [dO (aH 2 n (Az (AB (α:=Oj) g))),dO (aH 8 m (Az (AB (α:=Ev) h')))] 25),(1,kF [dO (aH 2 n (Az (AB (α:=Oj) g))),dO (aH 8 m (Az (AB (α:=Ev) h')))] 25),(3,sH 140 2 (Aw.addN 0 n) (Aw.snoc (BD []) 0 (Az (AB (α:=Oj) g)))),(4,nD .i64 (fun _=>aN) [] [] aN),(5,nD .i64 (fun _=>aN) [] [] aN),(6,kF [SV.gs 3,pq .i64 (ah 0),kL,pX 4,pX 5] 181)],nx,L0,tc⟩
      [{g:=20,td:=[oq [0,1] [1,2,3,4,5,6],bD [1,1]],tm:=[kD [dO (aH 2 n (Az (AB (α:=Oj) g))),dO (aH 8 m (Az (AB (α:=Ev) h')))],kE 0 0,kL,fU,.any,.any,.any,kD [dO (aH 2 n (Az (AB (α:=Oj) g))),dO (aH 8 m (Az (AB (α:=Ev) h')))]]++rep [.any] 8}] emp φ:=fun nx tc=>by
     refine Zm (R':=KQ n (AB g) Au.nil) (i0:=6) (fun i=>fZ i 3) (fun H E w h hon hh hd=>aqx (n:=n) (n':=Aw.addN 0 n) (o:=AB g) (o':=Aw.snoc (BD []) 0 (Az (AB (α:=Oj) g))) (fun i hi=>by rw[EF];simp) (gU n) rfl hh hd) fun b=>?_
     refine XA (c':=LT m (AB h') b (m:Int) (0:Nat)) (JZ:=Rq) ⟨?_,trivial,rfl,rfl,rfl⟩ ⟨rfl,rfl,?_,trivial⟩ (fin b)
     ·repeat' (first|exact trivial|refine bY pS.any ?_|refine bY (fun _ _ _ h=>h) ?_)
     ·repeat' (first|exact trivial|refine bY pS.any ?_|refine bY (fun _ _ _ h=>h) ?_)
    have nil:n=0->∀nx tc,BK aB (CT Aw W5) (K0 H w) 43 Xz ⟨[kD [dO (aH 2 n (Az (AB (α:=Oj) g))),dO (aH 8 m (Az (AB (α:=Ev) h')))],kE 1 0,sJ,fU,fU,kE 4 0,fU]++rep [.any] 6++[.bool aA]++rep [.any] 8++[.bool aA,.any,.any,dO (aH 8 m (Az (AB (α:=Ev) h'))),.sym .i64 (Aw.Bl m),.int .i64 (ah 0)]++rep [.any] 16,
      [(0,kF [dO (aH 2 n (Az (AB (α:=Oj) g))),dO (aH 8 m (Az (AB (α:=Ev) h')))] 25),(1,kF [dO (aH 2 n (Az (AB (α:=Oj) g))),dO (aH 8 m (Az (AB (α:=Ev) h')))] 25),(2,nD .i64 (fun _=>aN) [] [] aN),(3,nD .i64 (fun _=>aN) [] [] aN),(4,kF [kL,pq .i64 (ah 0),kL,pX 2,pX 3] 181)],nx,L0,tc⟩
      [{g:=20,td:=[oq [0,1] [1,2,3,4,5,6],bD [1,1]],tm:=[kD [dO (aH 2 n (Az (AB (α:=Oj) g))),dO (aH 8 m (Az (AB (α:=Ev) h')))],kE 0 0,kL,fU,.any,.any,.any,kD [dO (aH 2 n (Az (AB (α:=Oj) g))),dO (aH 8 m (Az (AB (α:=Ev) h')))]]++rep [.any] 8}] emp φ:=fun hz nx tc=>by
     refine Zm (R':=KQ n (AB g) Au.nil) (i0:=4) (fun i=>fZ i 2) (fun H E w h hon hh hd=>aqy (n:=n) (o:=AB g) hz rfl hh hd) fun b=>?_
     refine XA (c':=LT m (AB h') b (m:Int) (0:Nat)) (JZ:=Rq) ⟨?_,trivial,rfl,rfl,rfl⟩ ⟨rfl,rfl,?_,trivial⟩ (fin b)
     ·repeat' (first|exact trivial|refine bY pS.any ?_|refine bY (fun _ _ _ h=>h) ?_)
     ·repeat' (first|exact trivial|refine bY pS.any ?_|refine bY (fun _ _ _ h=>h) ?_)
    have hrm:Aw.room (Aw.addN 0 n) 16=aF:=by rw[DU,gU];exact XB (by omega) (by omega)
    refine ⟨Eh _ _,rfl,rfl,fun q4=>?_,fun _=>⟨fun _=>⟨fun q5=>⟨nil (by simpa[Yj] using q5) _ _,hrm,own _ _⟩,fun _=>⟨hrm,own _ _⟩⟩,fun q5=>?_⟩⟩
    ·rw[hb0 q] at q4;cases q4
    ·exfalso
     unfold GL Xv at q3 q5;rw[H6] at q5;cases hx:Jt (fun k=>QV (AB (α:=Oj) g k)) 0 n with
     |some x=>rw[hx] at q3;cases q3 |none=>rw[hx] at q5;cases q5
   ·have q3:GL n m g h'=aA:=hgd ▸ q2
    have:=(h5 q).2 q3;unfold J9 NV at this ⊢;rw[H6,H6];exact this
 ·exact h.elim
end Go.AQ
namespace Go.Pl
open Go Go.Sx Go.Proofs Go.Gm Go.Bf
open Go.Cc (Au F5 dfn Hf takeB Ju VG VH IZ GL J9 NV QW)
open Go.AQ (VE)
noncomputable def CB(n:Nat)(g:Nat->List Sh)(m:Nat)(h:Nat->List Sh):Tm where
 okb:=!IZ n m&&(GL n m g h&&takeB m (dF h))
 Vr:=!IZ n m
 pos:=if GL n m g h=aF then VG m (dF h) else J9 n m g h
 e:=if IZ n m=aF then 6 else if GL n m g h=aF then VH m (dF h) else NV n m g h
 n:=(Ju m (dF h)).rs.length
 T:=AB (VE F5 dfn (Hf (Ju m (dF h))))
structure YM(n:Nat)(g:Nat->List Sh)(m:Nat)(h:Nat->List Sh):Prop where
 o:oN Go.Cc.Oj n g=aF
 p:oN Go.Cc.Ev m h=aF
 r:QW m h=aF
 k:QF n (AB g)=aF
def hsS(n:Nat)(g:Nat->List Sh)(m:Nat)(h:Nat->List Sh):Sh:=.agg [.sl 2 n g,.sl 8 m h]
noncomputable def BR(lv:Int)(o:Nat)(og:Nat->List Sh)(B:Tm):Ij where
 okb:=B.okb&&decide (B.n<=12)
 Vr:=!B.okb&&B.Vr
 pos:=B.pos
 e:=if B.okb=aF then 1 else B.e
 lv:=lv
 N:=(FM lv B.n B.T).length
 T:=nth (FM lv B.n B.T)
 ms:=mkI lv (FM lv B.n B.T)
 k0:=o
 g0:=Ik og
theorem alp(rs:Nat->Go.Cc.Rc):∀n,okB En n (VE F5 dfn rs)=aF
 |0=>rfl |n+1=>by
  show (okB En n (VE F5 dfn rs)&&_)=aF;rw[alp rs n];rfl
end Go.Pl
namespace Go.Proofs
open Go Go.Sx Go.Pl Go.Gm Go.Bf
open Go.Cc (Au F5 dfn Hf takeB Ju VG VH IZ GL J9 NV QW)
open Go.AQ (VE)
theorem O20{n:Nat}{g:Nat->List Sh}{m:Nat}{h:Nat->List Sh}(P:YM n g m h):Bh aB (BG W7) 20 (D20 (hsS n g m h) (CB n g m h)):=by
 refine abX Go.AQ.O32 fun BI φ hφ=>?_
 unfold D20 at hφ;split at hφ
 ·rename_i s
  obtain ⟨h1,h2,h3⟩:=hφ;have hs:s=hsS n g m h:=@of_decide_eq_true _ (bG _) h1;subst hs;have sl:∀{k:Nat} {f f':Nat->List Sh},(∀j,j<k->f j=f' j)->Wk (.sl 7 k f) (.sl 7 k f'):=fun hf=>.inr ⟨rfl,rfl,hf⟩;have n0:Wk (.sl 0 0 fun _=>[]) (.sl 0 0 fun _=>[]):=.inl ⟨rfl,rfl⟩;cases hb:IZ n m with
  |true=>
   have e1:(CB n g m h).okb=aA:=by unfold CB;simp[hb]
   have e2:(CB n g m h).Vr=aA:=by unfold CB;simp[hb]
   have e3:(CB n g m h).e=6:=by unfold CB;simp[hb]
   have q:=(h3 e1).2 e2;rw[e3] at q;exact ⟨_,q,P.o,P.p,P.r,fun _=>⟨n0,rfl,trivial⟩,fun x=>by rw[hb] at x;cases x⟩
  |false=>
   have e2:(CB n g m h).Vr=aF:=by unfold CB;simp[hb]
   cases hg:GL n m g h with
   |true=>
    cases ht:takeB m (dF h) with
    |true=>
     have e1:(CB n g m h).okb=aF:=by unfold CB;simp[hb,hg,ht]
     exact ⟨_,h2 e1,P.o,P.p,P.r,fun x=>(by rw[hb] at x;cases x),fun _=>⟨fun _=>⟨fun _=>⟨.inr ⟨rfl,rfl,fun j hj=>Jj (alp _ _) j hj⟩,rfl,trivial⟩,fun x=>(by rw[ht] at x;cases x)⟩,fun x=>(by rw[hg] at x;cases x)⟩⟩
    |false=>
     have e1:(CB n g m h).okb=aA:=by unfold CB;simp[hb,hg,ht]
     have e3:(CB n g m h).e=VH m (dF h):=by unfold CB;simp[hb,hg]
     have e4:(CB n g m h).pos=VG m (dF h):=by unfold CB;simp[hg]
     have q:=(h3 e1).1 e2;rw[e3,e4] at q;exact ⟨_,q,P.o,P.p,P.r,fun x=>(by rw[hb] at x;cases x),fun _=>⟨fun _=>⟨fun x=>(by rw[ht] at x;cases x),fun _=>⟨n0,rfl,trivial⟩⟩,fun x=>(by rw[hg] at x;cases x)⟩⟩
   |false=>
    have e1:(CB n g m h).okb=aA:=by unfold CB;simp[hb,hg]
    have e3:(CB n g m h).e=NV n m g h:=by unfold CB;simp[hb,hg]
    have e4:(CB n g m h).pos=J9 n m g h:=by unfold CB;simp[hg]
    have q:=(h3 e1).1 e2;rw[e3,e4] at q;exact ⟨_,q,P.o,P.p,P.r,fun x=>(by rw[hb] at x;cases x),fun _=>⟨fun x=>(by rw[hg] at x;cases x),fun _=>⟨n0,rfl,trivial⟩⟩⟩
 ·exact hφ.elim
theorem FT{n:Nat}{g:Nat->List Sh}{m:Nat}{h:Nat->List Sh}{B:Tm}{lv:Int}(O:Bh aB (BG W7) 20 (D20 (hsS n g m h) B))(h1:1<=lv)(h3:lv<=3)(hw:B.okb=aF->nwB n g=aF):
  Bh aB (BG W7) 40 (Xq (hsS n g m h) lv (BR lv n g B)):=by
 refine FX (C:=C7 Aw W7 (QT (hsS n g m h) B) Bc) (C7.ok _ _) (fn:=zD) (by kernel_rfl) (by kernel_rfl) fun H w BI args φ hrep hφ=>?_
 have hn:zD.ntmps=71:=by kernel_rfl
 unfold Xq at hφ;split at hφ
 ·rename_i s t
  split at hφ
  ·rename_i l e1
   obtain ⟨q1,q2,q3⟩:=hφ;obtain ⟨rfl,rfl⟩:s=hsS n g m h/\l=lv:=@of_decide_eq_true _ (bG _) q1;match args,hrep with
   |[v,u],⟨rv,ru,_⟩=>
    refine ⟨[hsS n g m h,.i .i64 l],⟨rv,EH e1 ru,trivial⟩,L0,?_⟩;refine EP (C7.ok _ _) (afE O _) (hold:=BN) (m:=300) (n:=400) (ts:=[⟨40,Zy,Zz n m g h l B.n B.T 0 (nth []) ((0:Nat):Int),[]⟩]) ?_;rw[hn];refine ajP Aw W7 B l n m g h (nth []) ((0:Nat):Int) rfl rfl rfl (@decide_eq_true _ (bG _) rfl) (fun c0 c1=>?_) (fun c0 c1=>?_) (fun c0 c2=>?_) (fun c0 c2=>?_)
    ·have hbig:¬B.n<=12:=by simp[AO,Bg] at c1;omega
     have e:(BR l n g B).okb=aA:=by unfold BR;simp[hbig]
     have e2:(BR l n g B).Vr=aA:=by unfold BR;simp[c0]
     have e3:(BR l n g B).e=1:=by unfold BR;simp[c0]
     have q:=(q3 e).2 e2;rw[e3] at q;exact Cj (s':=.Ba [.v (.pointer aN),.er 1 329]) ⟨rfl,rfl,trivial⟩ q
    ·have hsm:B.n<=12:=by simp[AO,Bg] at c1;omega
     have e:(BR l n g B).okb=aF:=by unfold BR;simp[c0,hsm]
     have q:=q2 e;exact ⟨⟨rfl,rfl,rfl,rfl,rfl,rfl,rfl,rfl,rfl,trivial⟩,_,rfl,afF O h1 h3 hsm (hw c0) q B.n 0 [] (by omega) (by simp) (by rw[List.nil_append,acp])⟩
    ·have e:(BR l n g B).okb=aA:=by unfold BR;simp[c0]
     have e2:(BR l n g B).Vr=aF:=by unfold BR;simp[c0,c2]
     have e3:(BR l n g B).e=B.e:=by unfold BR;simp[c0]
     have q:=(q3 e).1 e2;rw[e3] at q;exact Cj (s':=.Ba [.v (.pointer aN),.Dv 109 (.pt [.i .i64 B.pos,.er B.e 329])]) ⟨rfl,rfl,trivial⟩ q
    ·have e:(BR l n g B).okb=aA:=by unfold BR;simp[c0]
     have e2:(BR l n g B).Vr=aA:=by unfold BR;simp[c0,c2]
     have e3:(BR l n g B).e=B.e:=by unfold BR;simp[c0]
     have q:=(q3 e).2 e2;rw[e3] at q;exact Cj (s':=.Ba [.v (.pointer aN),.er B.e 329]) ⟨rfl,rfl,trivial⟩ q
  ·exact hφ.elim
 ·exact hφ.elim
end Go.Proofs
namespace Go.Pl
open Go Go.Sx
def NW(s t:Di):Bool:=decide (s=t)
open Go Go.Sx Go.Proofs
structure Rf where
 kind:Int
 num:Int
 keys:List Int
 vals:List Int
 deriving DecidableEq,Inhabited
def rfS(s:Rf):List Sh:=[.i .i64 s.kind,.i .i64 s.num,.sl 1 (len s.keys) (Az (nth s.keys)),.sl 1 (len s.vals) (Az (nth s.vals))]
def axo(o:Nat->Oj)(j:Nat):Rf:=⟨(o j).kind,(o j).init,[],[]⟩
def NZ(l:List Int)(key:Int):Nat:=(l.takeWhile fun p=>decide (p<key)).length
def hasK(l:List Int)(key:Int):Bool:=decide (NZ l key<l.length)&&(nth l (NZ l key)==key)
def ZI(kind num op k v:Int):Int:=
 if kind=0\/MC op≠kind then 111
 else if (keyed op=aA/\k≠0)\/k<0\/1000<k\/(valued op=aA/\v≠0)\/v < -1000000000\/1000000000<v then 110
 else if op=3/\(Kv num v < -1000000000000000\/1000000000000000<Kv num v) then 110
 else 0
def aj7(s:Rf)(op k v:Int):Rf×Int×Int:=
 if op=1\/op=4 then (s,3,s.num)
 else if op=2 then ({s with num:=v},1,0)
 else if op=3 then ({s with num:=Kv s.num v},1,0)
 else if op=5 then ({s with vals:=s.vals++[v]},1,0)
 else if op=6 then ({s with vals:=s.vals.tail},UA s.vals.length,s.vals.headD 0)
 else if op=7 then (if hasK s.keys k=aF then {s with vals:=s.vals.set (NZ s.keys k) v} else {s with keys:=s.keys.take (NZ s.keys k)++k::s.keys.drop (NZ s.keys k),vals:=s.vals.take (NZ s.keys k)++v::s.vals.drop (NZ s.keys k)},1,0)
 else if op=8 then (s,if hasK s.keys k=aF then 3 else 2,if hasK s.keys k=aF then nth s.vals (NZ s.keys k) else 0)
 else if op=9 then (if hasK s.keys k=aF then {s with keys:=s.keys.take (NZ s.keys k)++s.keys.drop (NZ s.keys k+1),vals:=s.vals.take (NZ s.keys k)++s.vals.drop (NZ s.keys k+1)} else s,if hasK s.keys k=aF then 3 else 2,if hasK s.keys k=aF then nth s.vals (NZ s.keys k) else 0)
 else (s,0,0)
def opS(r:Rf)(op k v:Int):Rf:=(aj7 r op k v).1
def QZ(k:Int):List UInt8:=rO 16 (k - 1).toNat
def qU(r:List Int)(j:Nat):List UInt8:=(aY j).flatMap fun i=>32::BF (nth r i)
def pU(l r:List Int)(j:Nat):List UInt8:=(aY j).flatMap fun i=>32::(BF (nth l i)++58::BF (nth r i))
def P5(s:Rf):List UInt8:=if s.kind=0 then [] else QZ s.kind++(if s.kind<=2 then 32::BF s.num else if s.kind=3 then qU s.vals s.vals.length else pU s.keys s.vals s.vals.length)
noncomputable def rowB(l:List Sh):Bool:=@decide (∃r:Rf,l=rfS r) (bG _)
def O7(d:Nat->Rf):Nat->List UInt8
 |0=>[] |k+1=>O7 d k++((if k=0 then [] else [59,32])++P5 (d k))
def UJ(n:Nat)(d:Nat->Di):List UInt8:=aec ((aY n).map d)
def Dw(n:Nat)(d:Nat->Di)(m:Nat)(f:Nat->Rf):Bool:=(UJ n d==O7 f m)&&((n:Int)==(m:Int))
def toR(s:Di):Rf:=⟨s.kind,s.num,s.ps.map (·.key),s.q++s.ps.map (·.val)⟩
theorem Ue(ps:List Pr)(k:Int):NZ (ps.map (·.key)) k=CP ps k:=by
 unfold NZ CP;rw[List.takeWhile_map,dQ];rfl
theorem arg_eq(x y op k v:Int):ZI x y op k v=if G8 x op=aF then 111 else if IL x y op k v=aF then 110 else 0:=by
 by_cases h1:x=0\/MC op≠x
 ·have:G8 x op=aF:=by
   unfold G8;rcases h1 with h1|h1<;>simp[h1]
  rw[if_pos this];unfold ZI;rw[if_pos h1]
 ·have hx:x≠0/\MC op=x:=⟨fun e=>h1 (.inl e),nO fun e=>h1 (.inr e)⟩
  have:¬G8 x op=aF:=by
   unfold G8;simp[hx.1,hx.2]
  rw[if_neg this];unfold ZI;rw[if_neg h1];have h3:op=3->x=2:=fun e=>by rw[<-hx.2,e];decide
  have e1:(IL x y op k v=aF)↔((keyed op=aA/\k≠0)\/k<0\/1000<k\/(valued op=aA/\v≠0)\/v < -1000000000\/1000000000<v)\/(op=3/\(Kv y v < -1000000000000000\/1000000000000000<Kv y v)):=by
   unfold IL Jg;by_cases h:op=3
   ·have:=h3 h
    subst this;cases keyed op<;>cases valued op<;>simp[h]<;>omega
   ·cases keyed op<;>cases valued op<;>simp[h]<;>omega
  by_cases a:(keyed op=aA/\k≠0)\/k<0\/1000<k\/(valued op=aA/\v≠0)\/v < -1000000000\/1000000000<v
  ·rw[if_pos a,if_pos (e1.2 (.inl a))]
  ·rw[if_neg a]
   by_cases b:op=3/\(Kv y v < -1000000000000000\/1000000000000000<Kv y v)
   ·rw[if_pos b,if_pos (e1.2 (.inr b))]
   ·rw[if_neg b,if_neg fun e=>(e1.1 e).elim a b]
theorem acK(ps:List Pr){i:Nat}(h:i<ps.length):nth (ps.map (·.key)) i=(nth ps i).key:=by simp[nth,h]
theorem aqA(ps:List Pr){i:Nat}(h:i<ps.length):nth (ps.map (·.val)) i=(nth ps i).val:=by simp[nth,h]
theorem ah4:∀{ps:List Pr} {k:Int},(ps.Pairwise fun a b=>a.key<b.key)->(Ey ps k=aF↔CP ps k<ps.length/\(nth ps (CP ps k)).key=k)
 |[],k,_=>by simp[Ey,CP] |a::ps,k,h=>by
  rw[uo] at h;have ih:=ah4 (ps:=ps) (k:=k) h.2;by_cases hk:a.key<k
  ·have e:CP (a::ps) k=CP ps k+1:=by simp[CP,jy,hk]
   have e2:Ey (a::ps) k=Ey ps k:=by
    have:(a.key==k)=aA:=by simp;omega
    simp[Ey,this]
   rw[e,e2,ih];simp[nth]
  ·have e:CP (a::ps) k=0:=by simp[CP,jy,hk]
   rw[e];constructor
   ·intro q
    refine ⟨by simp,?_⟩;show a.key=k;simp only[Ey,List.any_cons,nJ,beq_iff_eq,pY] at q;rcases q with q|⟨b,hb,q⟩
    ·exact q
    ·have:=h.1 b hb
     omega
   ·intro ⟨_,q⟩
    have q:a.key=k:=q;simp[Ey,q]
theorem aeA{ps:List Pr}{k:Int}(h:ps.Pairwise fun a b=>a.key<b.key):hasK (ps.map (·.key)) k=Ey ps k:=by
 have e:hasK (ps.map (·.key)) k=aF↔Ey ps k=aF:=by
  rw[ah4 h];unfold hasK;rw[Ue,aJ,decide_eq_true_eq,dQ,beq_iff_eq];constructor
  ·intro ⟨q1,q2⟩
   exact ⟨q1,by rw[<-acK ps q1];exact q2⟩
  ·intro ⟨q1,q2⟩
   exact ⟨q1,by rw[acK ps q1];exact q2⟩
 cases h1:hasK (ps.map (·.key)) k<;>cases h2:Ey ps k<;>simp_all
theorem acL{ps:List Pr}:QH ps=aF↔(ps.Pairwise fun a b=>a.key<b.key)/\∀p∈ps,0<=p.key/\p.key<=1000:=by
 unfold QH;rw[aJ,decide_eq_true_eq,dN];simp
theorem ah5{ps:List Pr}{k v:Int}(hs:ps.Pairwise fun a b=>a.key<b.key)(h:Ey ps k=aF):(Fz ps k v).map (·.key)=ps.map (·.key):=by
 obtain ⟨h1,h2⟩:=PK hs h;rw[afq h,yZ];show (ps.map (·.key)).set _ k=_;have:(ps.map (·.key))[CP ps k]'(by simpa using h1)=k:=by simpa using h2
 have e:(ps.map (·.key)).set (CP ps k) ((ps.map (·.key))[CP ps k]'(by simpa using h1))=ps.map (·.key):=List.set_getElem_self _;rw[this] at e;exact e
theorem aqB{ps:List Pr}{k v:Int}(h:QH ps=aF)(hk:0<=k/\k<=1000):QH (Fz ps k v)=aF:=by
 rw[acL] at h ⊢;obtain ⟨hs,hb⟩:=h;cases hh:Ey ps k with
 |true=>
  have e:=ah5 (v:=v) hs hh;refine ⟨?_,fun p hp=>?_⟩
  ·have:(ps.map (·.key)).Pairwise (·<·):=uS.2 hs
   rw[<-e] at this;exact uS.1 this
  ·have:p.key∈(Fz ps k v).map (·.key):=dL.2 ⟨p,hp,rfl⟩
   rw[e] at this;obtain ⟨q,hq,e2⟩:=dL.1 this;rw[<-e2];exact hb q hq
 |false=>
  rw[afp hh];have hl:=ahs ps k;have hg:=aht (key:=k) hs;have hn:∀p∈ps,p.key≠k:=fun p hp e=>by
   have:Ey ps k=aF:=pY.2 ⟨p,hp,by simp[e]⟩;rw[hh] at this;cases this
  have ht:∀p∈ps.take (CP ps k),p.key<k:=fun p hp=>by
   obtain ⟨j,hj,e⟩:=List.mem_take_iff_getElem.1 hp;rw[<-e];exact hl j (by omega) (by omega)
  have hd:∀p∈ps.drop (CP ps k),k<p.key:=fun p hp=>by
   obtain ⟨j,hj,e⟩:=List.mem_drop_iff_getElem.1 hp;have h1:=hg (CP ps k+j) (by omega) (by omega);have h2:=hn p (jw hp);rw[e] at h1;omega
  refine ⟨List.pairwise_append.2 ⟨hs.sublist (List.take_sublist _ _),uo.2 ⟨fun p hp=>hd p hp,hs.sublist (uT _ _)⟩,fun a ha b hb=>?_⟩,fun p hp=>?_⟩
  ·rcases ig.1 hb with rfl|hb
   ·exact ht a ha
   ·have:=ht a ha
    have:=hd b hb;omega
  ·rcases bK.1 hp with hp|hp
   ·exact hb p (mW hp)
   ·rcases ig.1 hp with rfl|hp
    ·exact hk
    ·exact hb p (jw hp)
theorem aqC{ps:List Pr}{k:Int}(h:QH ps=aF):QH (Gq ps k)=aF:=by
 cases hh:Ey ps k with
 |false=>rw[afr hh];exact h |true=>
  rw[afs hh];rw[acL] at h ⊢;have sub:(ps.take (CP ps k)++ps.drop (CP ps k+1)).Sublist ps:=by
   conv=>rhs;rw[<-List.take_append_drop (CP ps k) ps]
   refine wB (wC _) ?_;rw[<-List.drop_drop];exact uT _ _
  exact ⟨h.1.sublist sub,fun p hp=>h.2 p (sub.subset hp)⟩
structure JH(m:Nat)(s:Di):Prop where
 kind:1<=s.kind/\s.kind<=4
 q0:s.kind≠3->s.q=[]
 p0:s.kind≠4->s.ps=[]
 wf:QH s.ps=aF
 num:-1000000000000000<=s.num/\s.num<=1000000000000000
 qv:∀x∈s.q,-1000000000<=x/\x<=1000000000
 pv:∀p∈s.ps,-1000000000<=p.val/\p.val<=1000000000
 ql:s.q.length<=m
 pl:s.ps.length<=m
 n0:2<s.kind->s.num=0
theorem alq{x y op k v:Int}(h:ZI x y op k v=0):(x≠0/\MC op=x)/\(0<=k/\k<=1000)/\(-1000000000<=v/\v<=1000000000)/\(op=3->-1000000000000000<=Kv y v/\Kv y v<=1000000000000000):=by
 unfold ZI at h;split at h
 ·omega
 ·rename_i h1
  split at h
  ·omega
  ·rename_i h2
   split at h
   ·omega
   ·rename_i h3
    refine ⟨⟨fun e=>h1 (.inl e),nO fun e=>h1 (.inr e)⟩,?_,?_,fun e=>?_⟩
    ·constructor
     ·exact l9.1 fun e=>h2 (.inr (.inl e))
     ·exact l9.1 fun e=>h2 (.inr (.inr (.inl e)))
    ·constructor
     ·exact l9.1 fun e=>h2 (.inr (.inr (.inr (.inr (.inl e)))))
     ·exact l9.1 fun e=>h2 (.inr (.inr (.inr (.inr (.inr e)))))
    ·constructor
     ·exact l9.1 fun e2=>h3 ⟨e,.inl e2⟩
     ·exact l9.1 fun e2=>h3 ⟨e,.inr e2⟩
theorem amI{x y op k v:Int}(h:ZI x y op k v=0):op=1\/op=2\/op=3\/op=4\/op=5\/op=6\/op=7\/op=8\/op=9:=by
 obtain ⟨⟨q1,q2⟩,_⟩:=alq h;unfold MC at q2;split at q2
 ·omega
 ·split at q2
  ·omega
  ·split at q2
   ·omega
   ·split at q2
    ·omega
    ·omega
theorem amJ{m:Nat}{s:Di}{op k v:Int}(h:JH m s)(ha:ZI s.kind s.num op k v=0):opS (toR s) op k v=toR (EY s op k v).1/\JH (m+1) (EY s op k v).1:=by
 obtain ⟨⟨k0,hk⟩,⟨b1,b2⟩,bv,bs⟩:=alq ha;have hop:=amI ha;have h':JH (m+1) s:={h with ql:=vP h.ql,pl:=vP h.pl}
 obtain ⟨kind,num,q,ps⟩:=s;rcases hop with rfl|rfl|rfl|rfl|rfl|rfl|rfl|rfl|rfl
 ·exact ⟨rfl,h'⟩
 ·exact ⟨rfl,{h' with num:=⟨by show _<=v;omega,by show v<=_;omega⟩,n0:=fun e=>by have hk:(1:Int)=kind:=hk;have e:2<kind:=e;omega}⟩
 ·exact ⟨rfl,{h' with num:=bs rfl,n0:=fun e=>by have hk:(2:Int)=kind:=hk;have e:2<kind:=e;omega}⟩
 ·exact ⟨rfl,h'⟩
 ·have hk:(3:Int)=kind:=hk
  subst hk;have hp:ps=[]:=h.p0 (show (3:Int)≠4 by decide);subst hp;refine ⟨by simp[opS,aj7,EY,toR],{h' with q0:=fun e=>absurd rfl e,qv:=fun x hx=>?_,ql:=?_}⟩
  ·have hx:x∈q++[v]:=hx
   rcases bK.1 hx with hx|hx
   ·exact h.qv x hx
   ·simp at hx;subst hx;exact bv
  ·show (q++[v]).length<=m+1
   have:=h.ql;simp at this ⊢;exact this
 ·have hk:(3:Int)=kind:=hk
  subst hk;have hp:ps=[]:=h.p0 (show (3:Int)≠4 by decide);subst hp;refine ⟨by simp[opS,aj7,EY,toR],{h' with q0:=fun e=>absurd rfl e,qv:=fun x hx=>h.qv x (List.mem_of_mem_tail hx),ql:=?_}⟩
  show q.tail.length<=m+1;have:=h.ql;simp at this ⊢;omega
 ·have hk:(4:Int)=kind:=hk
  subst hk;have hq:q=[]:=h.q0 (show (4:Int)≠3 by decide);subst hq;have hs:=Hu h.wf;refine ⟨?_,{h' with p0:=fun e=>absurd rfl e,wf:=aqB h.wf ⟨b1,b2⟩,pv:=fun p hp=>?_,pl:=?_}⟩
  ·show (if hasK (ps.map (·.key)) k=aF then (_:Rf) else _)=⟨4,num,(Fz ps k v).map (·.key),[]++(Fz ps k v).map (·.val)⟩
   rw[aeA hs];cases hh:Ey ps k with
   |true=>
    rw[if_pos rfl,ah5 hs hh,afq hh];simp[toR,Ue,yZ]
   |false=>
    rw[if_neg (by simp),afp hh];simp[toR,Ue,xR,xU]
  ·have hp:p∈Fz ps k v:=hp
   unfold Fz at hp;split at hp
   ·rcases List.mem_or_eq_of_mem_set hp with hp|rfl
    ·exact h.pv p hp
    ·exact bv
   ·rcases bK.1 hp with hp|hp
    ·exact h.pv p (mW hp)
    ·rcases ig.1 hp with rfl|hp
     ·exact bv
     ·exact h.pv p (jw hp)
  ·show (Fz ps k v).length<=m+1
   have:=h.pl;have:ps.length<=m:=this;rw[abR];split<;>omega
 ·exact ⟨rfl,h'⟩
 ·have hk:(4:Int)=kind:=hk
  subst hk;have hq:q=[]:=h.q0 (show (4:Int)≠3 by decide);subst hq;have hs:=Hu h.wf;refine ⟨?_,{h' with p0:=fun e=>absurd rfl e,wf:=aqC h.wf,pv:=fun p hp=>?_,pl:=?_}⟩
  ·show (if hasK (ps.map (·.key)) k=aF then (_:Rf) else _)=⟨4,num,(Gq ps k).map (·.key),[]++(Gq ps k).map (·.val)⟩
   rw[aeA hs];cases hh:Ey ps k with
   |true=>
    rw[if_pos rfl,afs hh];simp[toR,Ue,xR,xU]
   |false=>
    rw[if_neg (by simp),afr hh];rfl
  ·have hp:p∈Gq ps k:=hp
   unfold Gq at hp;split at hp
   ·rcases bK.1 hp with hp|hp
    ·exact h.pv p (mW hp)
    ·exact h.pv p (jw hp)
   ·exact h.pv p hp
  ·show (Gq ps k).length<=m+1
   have:ps.length<=m:=h.pl;rw[ahu (show QH ps=aF from h.wf)];split<;>omega
theorem ZJ{α:Type}[Row α](l:List α)(F:α->List UInt8):(aY l.length).flatMap (fun i=>F (nth l i))=l.flatMap F:=by
 have:=abG l;conv=>rhs;rw[<-this]
 rw[oO]
theorem aj8(q:List Int):qU q q.length=q.flatMap fun x=>32::BF x:=ZJ q fun x=>32::BF x
theorem aj9(ps:List Pr):pU (ps.map (·.key)) (ps.map (·.val)) ps.length=ps.flatMap fun p=>32::(BF p.key++58::BF p.val):=by
 rw[<-ZJ ps fun p=>32::(BF p.key++58::BF p.val)];unfold pU;rw[mD,mD];congr 1;refine lF fun i hi=>?_
 have hi:=dD.1 hi;rw[acK ps hi,aqA ps hi]
theorem acM(l:List (List UInt8)):kH [32] l=l.flatMap fun x=>32::x:=by
 unfold kH;rw[mD];rfl
theorem key_eq{m:Nat}{s:Di}(h:JH m s):keyS s=P5 (toR s):=by
 obtain ⟨kind,num,q,ps⟩:=s;have hk:1<=kind/\kind<=4:=h.kind;unfold keyS J4 DV;rw[lI,acM];have:kind=1\/kind=2\/kind=3\/kind=4:=by omega
 rcases this with rfl|rfl|rfl|rfl
 ·simp[P5,toR];rfl
 ·simp[P5,toR];rfl
 ·have hp:ps=[]:=h.p0 (show (3:Int)≠4 by decide)
  subst hp;have:=aj8 q;simp[P5,toR,this,oO];rfl
 ·have hq:q=[]:=h.q0 (show (4:Int)≠3 by decide)
  subst hq;have:=aj9 ps;simp[P5,toR,this,oO];rfl
theorem akb(l:List (List UInt8))(x sep:List UInt8):DV (l++[x]) sep=DV l sep++((if l=[] then [] else sep)++x):=by
 unfold DV;cases l with
 |nil=>simp[Go.Lib.join_one,Go.Lib.join_nil] |cons a l=>
  rw[vS,lI,lI];simp[kH]
theorem keys_eq{m:Nat}{d:Nat->Di}:∀n,(∀j,j<n->JH m (d j))->UJ n d=O7 (fun j=>toR (d j)) n
 |0,_=>rfl |n+1,h=>by
  have ih:=keys_eq n fun j hj=>h j (by omega);unfold UJ aec at ih ⊢;rw[qG,iO,iO,uq,uq,akb,ih,O7,key_eq (h n (by omega))];congr 2;cases n with
  |zero=>rfl |succ n=>simp[qG]
theorem aqD{m:Nat}{s:Di}(hm:m<=100000)(h:JH m s):Xm s=aF:=by
 obtain ⟨⟨k1,k2⟩,_,_,wf,⟨n1,n2⟩,qv,pv,ql,pl,_⟩:=h;have wf:=acL.1 wf;unfold Xm;simp only[aJ,dN,decide_eq_true_eq];refine ⟨⟨⟨⟨decide_eq_true ⟨by omega,by omega⟩,decide_eq_true ⟨by omega,by omega⟩⟩,fun x hx=>?_⟩,fun p hp=>⟨?_,?_⟩⟩,by omega,by omega⟩
 ·have:=qv x hx;exact decide_eq_true ⟨by omega,by omega⟩
 ·have:=wf.2 p hp;exact decide_eq_true ⟨by omega,by omega⟩
 ·have:=pv p hp;exact decide_eq_true ⟨by omega,by omega⟩
theorem amK{m n:Nat}{d:Nat->Di}{i op:Int}(hm:m<=50000)(h:∀j,j<n->JH m (d j)):abV n d i op=aF:=by
 unfold abV;cases hi:J3 n i with
 |false=>rfl |true=>
  have hi:0<=i/\i<n:=of_decide_eq_true hi;obtain ⟨_,_,_,wf,_,_,_,ql,pl,_⟩:=h i.toNat (by omega);show (_&&_)=aF;rw[aJ];refine ⟨ny (show (d i.toNat).q.length+1<=_ by omega) (by omega),?_⟩;unfold KL;rw[nJ,aJ];refine .inr ⟨Ih.2 ⟨Eh _ _,show (d i.toNat).ps.length<=_ by omega,?_⟩,ny (show (d i.toNat).ps.length+1<=_ by omega) (by omega)⟩;rw[show lst Pr (len (d i.toNat).ps) (Az (nth (d i.toNat).ps))=(d i.toNat).ps from Ll _];exact wf
theorem aqE{o:Nat->Oj}{j:Nat}(h:Fp (o j).kind (o j).init=aA):JH 0 (newT o j)/\toR (newT o j)=axo o j:=by
 unfold Fp at h;simp only[Bool.or_eq_false_iff,Bool.not_eq_false',aJ,decide_eq_true_eq,decide_eq_false_iff_not] at h;exact ⟨⟨h.1.1.1,fun _=>rfl,fun _=>rfl,(show QH []=aF from rfl),⟨(by show _<=(o j).init;omega),(by show (o j).init<=_;omega)⟩,(fun x hx=>(vT hx).elim),(fun p hp=>(vT hp).elim),dw _,dw _,(fun e=>by have e:2<(o j).kind:=e;show (o j).init=0;have:=h.2;simp at this;omega)⟩,rfl⟩
open Go.Lib (decDigits itoa)
def as8(l:List UInt8):Nat:=l.foldl (fun a c=>a*10+(c.toNat - 48)) 0
theorem ah6{d:Nat}(h:d<10):(kG (48+d)).toNat=48+d:=by
 rw[UInt8.toNat_ofNat'];omega
theorem P6(u:Nat):as8 (decDigits u)=u/\(∀c∈decDigits u,48<=c.toNat/\c.toNat<=57)/\decDigits u≠[]:=by
 induction u using Nat.strongRecOn with
 |ind u ih=>
  rw[decDigits];by_cases h:u<10
  ·rw[dif_pos h]
   have:=ah6 h;refine ⟨?_,fun c hc=>?_,by simp⟩
   ·show 0*10+((kG (48+u)).toNat - 48)=u
    rw[this];omega
   ·obtain rfl:c=kG (48+u):=by simpa using hc
    rw[this];omega
  ·rw[dif_neg h]
   obtain ⟨q1,q2,q3⟩:=ih (u / 10) (by omega);have:=ah6 (d:=u % 10) (by omega);refine ⟨?_,fun c hc=>?_,by simp⟩
   ·unfold as8 at q1 ⊢
    rw[List.foldl_append,q1];show u / 10*10+((kG (48+u % 10)).toNat - 48)=u;rw[this];omega
   ·rcases bK.1 hc with hc|hc
    ·exact q2 c hc
    ·obtain rfl:c=kG (48+u % 10):=by simpa using hc
     rw[this];omega
theorem ah7{a b:Nat}(h:decDigits a=decDigits b):a=b:=by
 have h1:=(P6 a).1;rw[h,(P6 b).1] at h1;exact h1.symm
theorem ah8{n:Int}{c:UInt8}(h:c∈BF n):c.toNat=45\/(48<=c.toNat/\c.toNat<=57):=by
 unfold BF itoa at h;split at h
 ·rcases ig.1 h with rfl|h
  ·exact .inl rfl
  ·exact .inr ((P6 _).2.1 c h)
 ·exact .inr ((P6 _).2.1 c h)
theorem P7{a b:Int}(h:BF a=BF b):a=b:=by
 have head (u v:Nat) (h:45::decDigits u=decDigits v):False:=by
  have:(45:UInt8)∈decDigits v:=by rw[<-h];simp
  have:=(P6 v).2.1 _ this;simp at this
 unfold BF itoa at h;split at h
 ·split at h
  ·injection h with _ h
   have:=ah7 h;omega
  ·exact (head _ _ h).elim
 ·split at h
  ·exact (head _ _ h.symm).elim
  ·have:=ah7 h
   omega
theorem alr{z:UInt8}{a r:List UInt8}(ha:z ∉ a)(hr:r=[]\/∃t,r=z::t):(a++r).takeWhile (fun c=>!(c==z))=a:=by
 rw[List.takeWhile_append_of_pos fun c hc=>by
  have:c≠z:=fun e=>ha (e ▸ hc);simp[this]]
 rcases hr with rfl|⟨t,rfl⟩
 ·simp
 ·simp
theorem acN{z:UInt8}{a b r r':List UInt8}(ha:z ∉ a)(hb:z ∉ b)(hr:r=[]\/∃t,r=z::t)(hr':r'=[]\/∃t,r'=z::t)(h:a++r=b++r'):a=b/\r=r':=by
 have h1:=alr ha hr;rw[h,alr hb hr'] at h1;subst h1;exact ⟨rfl,iZ h⟩
theorem acO{α:Type}{z:UInt8}{f:α->List UInt8}:∀l:List α,(l.flatMap fun x=>z::f x)=[]\/∃t,(l.flatMap fun x=>z::f x)=z::t
 |[]=>.inl rfl |_::_=>.inr ⟨_,rfl⟩
theorem YN{α:Type}{z:UInt8}{f:α->List UInt8}(hz:∀x,z ∉ f x)(hf:∀x y,f x=f y->x=y):∀l l':List α,(l.flatMap fun x=>z::f x)=(l'.flatMap fun x=>z::f x)->l=l'
 |[],[],_=>rfl |[],_::_,h=>by cases h |_::_,[],h=>by cases h |a::l,b::l',h=>by
  simp only[List.flatMap_cons,vS] at h;injection h with _ h
  obtain ⟨h1,h2⟩:=acN (hz a) (hz b) (acO l) (acO l') h;rw[hf a b h1,YN hz hf l l' h2]
theorem P8{n:Int}{z:UInt8}(h:z.toNat=32\/z.toNat=58\/z.toNat=59):z ∉ BF n:=fun hc=>by
 have:=ah8 hc;omega
theorem amL{a b c d:Int}(h:BF a++58::BF b=BF c++58::BF d):a=c/\b=d:=by
 obtain ⟨h1,h2⟩:=acN (z:=58) (P8 (by decide)) (P8 (by decide)) (.inr ⟨_,rfl⟩) (.inr ⟨_,rfl⟩) h;injection h2 with _ h2
 exact ⟨P7 h1,P7 h2⟩
theorem amM{m m':Nat}{s t:Di}(hs:JH m s)(ht:JH m' t)(hk:s.kind=t.kind)(hn:s.kind<=2\/s.num=t.num)(h:P5 (toR s)=P5 (toR t)):s=t:=by
 obtain ⟨kind,num,q,ps⟩:=s;obtain ⟨kind',num',q',ps'⟩:=t;have hk:kind=kind':=hk;subst hk;have hkk:1<=kind/\kind<=4:=hs.kind;have hn:kind<=2\/num=num':=hn;have:kind=1\/kind=2\/kind=3\/kind=4:=by omega
 rcases this with rfl|rfl|rfl|rfl
 ·have e1:q=[]:=hs.q0 (show (1:Int)≠3 by decide)
  have e2:q'=[]:=ht.q0 (show (1:Int)≠3 by decide);have e3:ps=[]:=hs.p0 (show (1:Int)≠4 by decide);have e4:ps'=[]:=ht.p0 (show (1:Int)≠4 by decide);subst e1 e2 e3 e4;have h:QZ 1++(32::BF num)=QZ 1++(32::BF num'):=h;have h:=iZ h;injection h with _ h
  rw[P7 h]
 ·have e1:q=[]:=hs.q0 (show (2:Int)≠3 by decide)
  have e2:q'=[]:=ht.q0 (show (2:Int)≠3 by decide);have e3:ps=[]:=hs.p0 (show (2:Int)≠4 by decide);have e4:ps'=[]:=ht.p0 (show (2:Int)≠4 by decide);subst e1 e2 e3 e4;have h:QZ 2++(32::BF num)=QZ 2++(32::BF num'):=h;have h:=iZ h;injection h with _ h
  rw[P7 h]
 ·have e3:ps=[]:=hs.p0 (show (3:Int)≠4 by decide)
  have e4:ps'=[]:=ht.p0 (show (3:Int)≠4 by decide);subst e3 e4;have hn:num=num':=hn.resolve_left (show ¬(3:Int)<=2 by decide);subst hn;have h:QZ 3++qU (q++[]) (q++[]).length=QZ 3++qU (q'++[]) (q'++[]).length:=h;have h:=iZ h;rw[fA,fA,aj8,aj8] at h;rw[YN (fun x=>P8 (.inl rfl)) (fun x y e=>P7 e) q q' h]
 ·have e1:q=[]:=hs.q0 (show (4:Int)≠3 by decide)
  have e2:q'=[]:=ht.q0 (show (4:Int)≠3 by decide);subst e1 e2;have hn:num=num':=hn.resolve_left (show ¬(4:Int)<=2 by decide);subst hn;have h:QZ 4++pU (ps.map (·.key)) (ps.map (·.val)) (ps.map (·.val)).length=QZ 4++pU (ps'.map (·.key)) (ps'.map (·.val)) (ps'.map (·.val)).length:=h;have h:=iZ h;rw[dQ,dQ,aj9,aj9] at h;have:=YN (f:=fun p:Pr=>BF p.key++58::BF p.val) (fun x hx=>by
   rcases bK.1 hx with hx|hx
   ·exact P8 (.inl rfl) hx
   ·rcases ig.1 hx with hx|hx
    ·cases hx
    ·exact P8 (.inl rfl) hx) (fun x y e=>by
   obtain ⟨a,b⟩:=x;obtain ⟨c,d⟩:=y;obtain ⟨e1,e2⟩:=amL e;have e1:a=c:=e1;have e2:b=d:=e2;rw[e1,e2]) ps ps' h
  rw[this]
theorem amN{a b x y:List UInt8}(hx:59 ∉ x)(hy:59 ∉ y)(h:a++59::32::x=b++59::32::y):a=b/\x=y:=by
 have h:=congrArg List.reverse h;simp only[List.reverse_append,List.reverse_cons,List.append_assoc,List.singleton_append] at h;have h:(x.reverse++[32])++59::a.reverse=(y.reverse++[32])++59::b.reverse:=by simpa using h
 obtain ⟨h1,h2⟩:=acN (z:=59) (by simpa using hx) (by simpa using hy) (.inr ⟨_,rfl⟩) (.inr ⟨_,rfl⟩) h;injection h2 with _ h2
 have h1:=List.append_cancel_right h1;exact ⟨vU.1 h2,vU.1 h1⟩
theorem aqF{m:Nat}{s:Di}(hs:JH m s):59 ∉ P5 (toR s):=by
 rw[<-key_eq hs];obtain ⟨kind,num,q,ps⟩:=s;have hkk:1<=kind/\kind<=4:=hs.kind;have hw:59 ∉ EX kind:=by
  have:kind=1\/kind=2\/kind=3\/kind=4:=by omega
  rcases this with rfl|rfl|rfl|rfl<;>decide
 unfold keyS J4 DV;rw[lI,acM];intro hc;rcases bK.1 hc with hc|hc
 ·exact hw hc
 ·obtain ⟨x,hx,hc⟩:=ji.1 hc
  have hc:(59:UInt8)∈x:=by
   rcases ig.1 hc with hc|hc
   ·cases hc
   ·exact hc
  have no (n:Int):(59:UInt8) ∉ BF n:=P8 (.inr (.inr rfl));split at hx
  ·obtain rfl:x=BF num:=by simpa using hx
   exact no _ hc
  ·split at hx
   ·obtain ⟨n,_,rfl⟩:=dL.1 hx
    exact no _ hc
   ·split at hx
    ·obtain ⟨p,_,rfl⟩:=dL.1 hx
     rcases bK.1 hc with hc|hc
     ·rcases bK.1 hc with hc|hc
      ·exact no _ hc
      ·simp at hc
     ·exact no _ hc
    ·cases hx
theorem aeB{m m':Nat}{d e:Nat->Di}:∀n,(∀j,j<n->JH m (d j))->(∀j,j<n->JH m' (e j))->O7 (fun j=>toR (d j)) n=O7 (fun j=>toR (e j)) n->∀j,j<n->P5 (toR (d j))=P5 (toR (e j))
 |0,_,_,_,j,hj=>by omega |n+1,hd,he,h,j,hj=>by
  rw[O7,O7] at h;have key:O7 (fun j=>toR (d j)) n=O7 (fun j=>toR (e j)) n/\P5 (toR (d n))=P5 (toR (e n)):=by
   by_cases hn:n=0
   ·subst hn
    rw[if_pos rfl] at h;exact ⟨rfl,h⟩
   ·rw[if_neg hn] at h
    exact amN (aqF (hd n (by omega))) (aqF (he n (by omega))) h
  by_cases e1:j=n
  ·subst e1;exact key.2
  ·exact aeB n (fun j hj=>hd j (by omega)) (fun j hj=>he j (by omega)) key.1 j (by omega)
theorem ah9{m m' n:Nat}{d e:Nat->Di}(hd:∀j,j<n->JH m (d j))(he:∀j,j<n->JH m' (e j))(hk:∀j,j<n->(d j).kind=(e j).kind)(h:UJ n d=UJ n e):∀j,j<n->d j=e j:=fun j hj=>by
 rw[keys_eq n hd,keys_eq n he] at h;have:=aeB n hd he h j hj;refine amM (hd j hj) (he j hj) (hk j hj) ?_ this;by_cases q:(d j).kind<=2
 ·exact .inl q
 ·exact .inr (by rw[(hd j hj).n0 (by omega),(he j hj).n0 (by rw[<-hk j hj];omega)])
open Go Go.Sx Go.Proofs Go.Gm Go.Bf
structure L6(n:Nat)(g0:SG)(m:Nat)(g:SG)(d:Nat->Di):Prop where
 row:∀j,j<n->g j=Dy (d j)
 inv:∀j,j<n->JH m (d j)
 kind:∀j,j<n->∀s,g0 j=Dy s->(d j).kind=s.kind
 out:∀j,n<=j->g j=g0 j
section
variable{n m:Nat}{g0 g:SG}{d:Nat->Di}
theorem JH.up{m m':Nat}{s:Di}(h:JH m s)(hm:m<=m'):JH m' s:={h with ql:=iK h.ql hm,pl:=iK h.pl hm}
theorem L6.up{m':Nat}(h:L6 n g0 m g d)(hm:m<=m'):L6 n g0 m' g d:={h with inv:=fun j hj=>(h.inv j hj).up hm}
theorem L6.eqF(h:L6 n g0 m g d):∀j,j<n->EG n g j=d j:=akV h.row
theorem L6.isB(h:L6 n g0 m g d):stB n g=aF:=akU h.row
theorem aia{i op k v:Int}(h:YC n d i op k v=aF):J3 n i=aF/\ZI (d i.toNat).kind (d i.toNat).num op k v=0:=by
 unfold YC at h;rw[aJ,aJ] at h;refine ⟨h.1.1,?_⟩;rw[arg_eq];have h1:=h.1.2;have h2:=h.2;rw[Bool.not_eq_true'] at h1 h2;rw[h1,h2];rfl
theorem acP{d d':Nat->Di}(h:∀j,j<n->d j=d' j)(i op k v:Int):YC n d i op k v=YC n d' i op k v:=by
 unfold YC;cases hi:J3 n i with
 |false=>rfl |true=>
  have hi:0<=i/\i<n:=of_decide_eq_true hi;rw[h i.toNat (by omega)]
theorem aib{d d':Nat->Di}(h:∀j,j<n->d j=d' j)(i op:Int):abV n d i op=abV n d' i op:=by
 unfold abV;cases hi:J3 n i with
 |false=>rfl |true=>
  have hi:0<=i/\i<n:=of_decide_eq_true hi;rw[h i.toNat (by omega)]
theorem L6.next(h:L6 n g0 m g d){i op k v:Int}(hok:Un n g i op k v=aF):
  ∃d',L6 n g0 (m+1) (abW n g i op k v) d':=by
 unfold Un at hok;rw[acP h.eqF] at hok;obtain ⟨hi,ha⟩:=aia hok;have hi':0<=i/\i<n:=of_decide_eq_true hi;have hst:EG n g i.toNat=d i.toNat:=h.eqF _ (by omega);refine ⟨fun j=>if j=i.toNat then (EY (d i.toNat) op k v).1 else d j,fun j hj=>?_,fun j hj=>?_,fun j hj s hs=>?_,fun j hj=>?_⟩
 ·show (if J3 n i=aF/\j=i.toNat then Dy (EY (EG n g i.toNat) op k v).1 else g j)=Dy (if j=i.toNat then (EY (d i.toNat) op k v).1 else d j)
  by_cases e:j=i.toNat
  ·rw[if_pos ⟨hi,e⟩,if_pos e,hst]
  ·rw[if_neg (fun q=>e q.2),if_neg e,h.row j hj]
 ·show JH (m+1) (if j=i.toNat then (EY (d i.toNat) op k v).1 else d j)
  split
  ·exact (amJ (h.inv i.toNat (by omega)) ha).2
  ·exact (h.inv j hj).up (by omega)
 ·show (if j=i.toNat then (EY (d i.toNat) op k v).1 else d j).kind=s.kind
  have hk:=h.kind j hj s hs;split
  ·rename_i e
   have:(EY (d i.toNat) op k v).1.kind=(d i.toNat).kind:=by
    unfold EY;repeat' split
    all_goals rfl
   rw[this,<-e];exact hk
  ·exact hk
 ·show (if J3 n i=aF/\j=i.toNat then _ else g j)=g0 j
  rw[if_neg (fun q=>by omega)];exact h.out j hj
theorem L6.fits(h:L6 n g0 m g d)(hm:m<=50000)(hn:n<=1000)(i op:Int):aed n g i op=aF:=by
 unfold Go.Pl.aed;rw[h.isB,aib h.eqF,amK hm h.inv,ny (by omega) (by omega)];rfl
theorem L6.aqG(hn:n<=1000):∀(l:List Dd) {m:Nat} {g:SG} {d:Nat->Di},L6 n g0 m g d->m+l.length<=50000->UF n g l
 |[],_,_,_,_,_=>trivial |a::l,m,g,d,h,hm=>by
  unfold Go.Pl.UF;rw[iT] at hm;split
  ·exact L6.aqG hn l h (by omega)
  ·refine ⟨h.fits (by omega) hn _ _,fun q=>?_⟩
   obtain ⟨d',h'⟩:=h.next q;exact L6.aqG hn l h' (by omega)
theorem L6.play:∀(l:List Dd) {m i:Nat} {g g':SG} {d:Nat->Di},L6 n g0 m g d->Iu n g i l=.inr g'->∃d',L6 n g0 (m+l.length) g' d'
 |[],m,i,g,g',d,h,hp=>by
  have hp:(Sum.inr g:(Nat×Nat) ⊕ SG)=.inr g':=hp;cases hp;exact ⟨d,h⟩
 |a::l,m,i,g,g',d,h,hp=>by
  unfold Iu at hp;rw[iT];split at hp
  ·obtain ⟨d',h'⟩:=L6.play l h hp
   exact ⟨d',h'.up (by omega)⟩
  ·split at hp
   ·rename_i hok
    split at hp
    ·obtain ⟨d1,h1⟩:=h.next hok
     obtain ⟨d',h'⟩:=L6.play l h1 hp;exact ⟨d',h'.up (by omega)⟩
    ·cases hp
   ·cases hp
end
section
variable{lv:Int}{n:Nat}{og:Nat->List Sh}{B:Tm}
structure TbP(n:Nat)(og:Nat->List Sh)(B:Tm):Prop where
 few:B.n<=12
 ok:∀i,i<B.n->okB Dd (B.T i).k (B.T i).g=aF/\(B.T i).k<=400
 o:n<=8
 b:∀j,j<n->Fp (AB (α:=Oj) og j).kind (AB (α:=Oj) og j).init=aA
def QnP(lv:Int)(n:Nat)(og:Nat->List Sh)(B:Tm)(nd:Nd SG):Prop:=nd.placed<2^(Gb (BR lv n og B)).n/\∃d,L6 n (Ik og) (400*rk (Gb (BR lv n og B)) nd) nd.st d
theorem aqH{t:En}{n:Nat}{T:Nat->En}(h:t∈FM lv n T):∃i,i<n/\t=T i:=by
 unfold FM at h;obtain ⟨i,hi,rfl⟩:=dL.1 (List.mem_filter.1 h).1;exact ⟨i,dD.1 hi,rfl⟩
theorem aqI(P:TbP n og B){i:Nat}(h:i<(BR lv n og B).N):okB Dd ((BR lv n og B).T i).k ((BR lv n og B).T i).g=aF/\((BR lv n og B).T i).k<=400:=by
 have h:i<(FM lv B.n B.T).length:=h;have hm:nth (FM lv B.n B.T) i∈FM lv B.n B.T:=by
  unfold nth;rw[aX,aS h];exact List.getElem_mem h
 obtain ⟨j,hj,e⟩:=aqH hm;show okB Dd (nth (FM lv B.n B.T) i).k (nth (FM lv B.n B.T) i).g=aF/\(nth (FM lv B.n B.T) i).k<=400;rw[e];exact P.ok j hj
theorem as9(P:TbP n og B)(nd:Nd SG):rk (Gb (BR lv n og B)) nd<=12:=by
 have h1:=apf (B:=BR lv n og B) nd;have h2:(BR lv n og B).N=(FM lv B.n B.T).length:=rfl;have h3:=afD lv B.n B.T;have:=P.few;omega
theorem P9(P:TbP n og B):LY (BR lv n og B) (QnP lv n og B):=by
 have hN:(BR lv n og B).N<=12:=by
  have h2:(BR lv n og B).N=(FM lv B.n B.T).length:=rfl;have h3:=afD lv B.n B.T;have:=P.few;omega
 refine ⟨⟨uU (by simp),newT (AB og),fun j hj=>rfl,fun j hj=>?_,fun j hj s hs=>?_,fun j _=>rfl⟩,fun nd hq t ht=>?_,fun nd hq=>?_,fun nd hq=>?_⟩
 ·exact (aqE (P.b j hj)).1.up (Nat.zero_le _)
 ·have hs:Dy (newT (AB og) j)=Dy s:=hs
  rw[TU hs]
 ·obtain ⟨hlt,d,hd⟩:=hq
  have hlt':=lt_next hlt t ht;have hr:=Xp (g:=Gb (BR lv n og B)) t ht;refine ⟨hlt',?_⟩;rw[hr];unfold next turns at ht;obtain ⟨x,hx,rfl⟩:=dL.1 ht;obtain ⟨i,hi,hx⟩:=ji.1 hx;have hi:i<(BR lv n og B).N:=dD.1 hi;obtain ⟨t1,t2⟩:=aqI P hi;unfold GI at hx;split at hx
  ·rcases bK.1 hx with hx|hx
   ·split at hx
    ·rename_i s e1 e2
     obtain rfl:x=_:=by simpa using hx
     have e2:(if plO n nd.st ((BR lv n og B).T i).k ((BR lv n og B).T i).g=aF then ay (Uo n nd.st ((BR lv n og B).T i).k ((BR lv n og B).T i).g) else aN)=ay s:=e2;split at e2
     ·rename_i hok
      cases e2;unfold plO ab1 at hok;cases hp:Iu n nd.st 0 (lst Dd ((BR lv n og B).T i).k ((BR lv n og B).T i).g) with
      |inl q=>rw[hp] at hok;cases hok |inr g'=>
       obtain ⟨d',h'⟩:=L6.play _ hd hp;have e:Uo n nd.st ((BR lv n og B).T i).k ((BR lv n og B).T i).g=g':=by unfold Uo ab2;rw[hp]
       refine ⟨d',?_⟩;show L6 n (Ik og) _ (Uo n nd.st ((BR lv n og B).T i).k ((BR lv n og B).T i).g) d';rw[e];exact h'.up (by rw[FQ];omega)
     ·cases e2
    ·cases hx
   ·split at hx
    ·obtain rfl:x=_:=by simpa using hx
     exact ⟨d,hd.up (by omega)⟩
    ·cases hx
  ·cases hx
 ·obtain ⟨hlt,d,hd⟩:=hq
  have h12:=as9 (lv:=lv) P nd;refine ⟨by omega,rfl,uV _,?_,fun i _=>uV _,fun i hi=>?_,fun i hi _=>?_⟩
  ·have h1:nd.placed<2^62:=Nat.lt_of_lt_of_le hlt (Nat.pow_le_pow_right (by decide) (by show (BR lv n og B).N<=62;omega))
   omega
  ·show (PW lv (nth (FM lv B.n B.T) i).bg 0 (FM lv B.n B.T) 0:Nat)<2^(FM lv B.n B.T).length
   exact ahS _ _ _ _ (uU (by simp)) (by omega)
  ·obtain ⟨t1,t2⟩:=aqI P hi
   unfold plN;rw[t1,decide_eq_true (by omega:((BR lv n og B).T i).k<=100000)];have o8:=P.o;exact @decide_eq_true _ (bG _) (L6.aqG (n:=n) (by omega) _ hd (by rw[FQ];omega))
 ·obtain ⟨hlt,d,hd⟩:=hq
  have h12:=as9 (lv:=lv) P nd;have o8:=P.o;have e1:stB n nd.st=aF:=hd.isB;have e2:keysB n (EG n nd.st)=aF:=by
   unfold keysB;rw[aJ,dN];refine ⟨decide_eq_true (by omega),fun j hj=>?_⟩;rw[hd.eqF j (dD.1 hj)];exact aqD (by omega) (hd.inv j (dD.1 hj))
  show ((fC 4 4||fC n 0)&&(stB n nd.st&&keysB n (EG n nd.st)))=aF;rw[e1,e2];rfl
theorem ZK{n:Nat}{d e:Nat->Di}(h:∀j,j<n->d j=e j):UJ n d=UJ n e:=by
 unfold UJ;congr 1;exact lF fun j hj=>h j (dD.1 hj)
theorem YO:∀x y,QnP lv n og B x->QnP lv n og B y->Dl n x=Dl n y->x=y:=fun x y ⟨_,d,hd⟩ ⟨_,e,he⟩ h=>by
 unfold Dl at h;rw[Prod.mk.injEq] at h;obtain ⟨h1,h2⟩:=h;have h1:=kZ h1;have h2:UJ n (EG n x.st)=UJ n (EG n y.st):=h2;rw[ZK hd.eqF,ZK he.eqF] at h2;have hk:∀j,j<n->(d j).kind=(e j).kind:=fun j hj=>by
  rw[hd.kind j hj (newT (AB og) j) rfl,he.kind j hj (newT (AB og) j) rfl]
 have h3:=ah9 hd.inv he.inv hk h2;obtain ⟨p,s⟩:=x;obtain ⟨p',s'⟩:=y;obtain rfl:p=p':=h1;have:s=s':=by
  funext j;by_cases hj:j<n
  ·have a:=hd.row j hj
   have b:=he.row j hj;rw[h3 j hj] at a;exact a.trans b.symm
  ·have a:=hd.out j (by omega)
   have b:=he.out j (by omega);exact a.trans b.symm
 rw[this]
end
end Go.Pl
