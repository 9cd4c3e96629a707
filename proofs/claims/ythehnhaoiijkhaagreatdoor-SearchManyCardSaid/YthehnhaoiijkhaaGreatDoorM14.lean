/- Own work. -/
import Derived.Test.YthehnhaoiijkhaaGreatDoorM13
open Int (ofNat)
open And renaming intro->bW
open Array renaming getElem?_eq_getElem->fD,getD_eq_getD_getElem?->iJ
open Bool renaming false->ak,true->aC,or_eq_true->mZ,and_eq_true->aH
open Classical renaming propDecidable->bD,byContradiction->nD
open Go.IntKind renaming i64->aT
open Go.Lib renaming joinTail->ku,join_cons->lg
open Go.BF renaming zY->dO,okB->qG
open Go.BF.Rc renaming step->vY
open Go.Proofs renaming akb->zU,W7->qX,room_le->mP
open Go.Proofs.Tryz renaming prog->aB,f44->yG,f43->oL,f20->oM,f40->yV
open Go.Sx.Bh renaming val->kQ,int->aj,sh->aP,nat->aJ,get->aS,Le->bC
open Go.Sx.D7 renaming at_->bJ,ret->aO
open Go.Sx.Fe3 renaming ret->uX,raw->yY
open Go.Sx.It renaming code->bF,inBlock->dA,reg->nP
open Go.Sx.Lay renaming blk->mQ
open Go.Sx.SB renaming own->rP,fm->mV,box->jY
open Go.Sx.SV renaming agg->jW,sh->dL,ptr->jX,EJ->rQ,DK->fQ,any->bH,bool->qc,int->oK,Aw->kD,mp->o7
open Go.Sx.Sh renaming Aj->cO,sl->aG,er->aZ,CG->pG,pt->sU,i->aW
open Go.Sx.Tree renaming need->aI,node->aF,leaf->aA,must->aQ
open Go.Value renaming pointer->gB
open Int renaming ofNat->ah,not_lt->lT,natCast_nonneg->uF
open Int.ofNat renaming inj->kT
open List renaming getD_eq_getElem?_getD->aY,getElem?_eq_getElem->aV,mem_map->dJ,all_eq_true->dK,mem_range->dN,range->aX,length_map->dY,pairwise_cons->sZ,takeWhile->jq,any_eq_true->o9,map_set->yH,pairwise_map->uy,mem_of_mem_drop->jo,drop_sublist->uz,mem_cons->gY,mem_append->bK,mem_of_mem_take->mF,map_take->xk,map_drop->xq,flatMap_map->ou,flatMap_def->lU,map_congr_left->jM,cons_append->uZ,range_succ->pY,map_append->iL,map_singleton->tq,not_mem_nil->vg,append_cancel_left->iU,append_nil->eY,reverse_inj->vk,mem_flatMap->kK,length_cons->iP
open List.Sublist renaming append->vK,refl->vM
open Nat renaming le_refl->dh,beq->fB,zero_add->gJ,blt->fV,le_succ_of_le->uY,le_trans->iH,pos_of_ne_zero->uD
open Option renaming some->ay,none->aK
open Option.some renaming inj->dD
open UInt8 renaming ofNat->jZ
namespace Go.BF
open Go Go.Sx
theorem aho{many:Nat}{e:Ev}{r r':Rc}(h:vY many e r=.inr r')(_hd:r.stand=2->r.Ac≠[]):(r'.stand=2->r'.Ac≠[])/\r'.Ac.length<=r.Ac.length+1:=by
 unfold vY at h;have hup:∀(f:De->De) (l:List De),(FP f l).length=l.length:=fun f l=>by
  induction l with
  |nil=>rfl |cons x l ih=>cases l with
   |nil=>rfl |cons y l=>simpa[FP] using ih
 by_cases k2:e.kind=2
 ·simp only[k2,beq_self_eq_true,cond_true] at h
  cases hs:r.stand==1<;>simp only[hs,cond_true,cond_false] at h
  ·cases h
  ·cases h
   exact ⟨fun _=>by simp,by simp⟩
 have b2:(e.kind==2)=ak:=by simpa using k2
 rw[b2] at h;simp only[cond_false] at h;by_cases k3:e.kind=3
 ·simp only[k3,beq_self_eq_true,cond_true] at h
  cases hs:r.stand==2<;>simp only[hs,cond_true,cond_false] at h
  ·cases h
  ·cases hf:Ov (r.Ac.getLast?.getD Row.Jk).op e.ret<;>simp only[hf,cond_true,cond_false] at h
   ·cases h
   ·cases h
    exact ⟨fun q=>by simp at q,by simp[hup]⟩
 have b3:(e.kind==3)=ak:=by simpa using k3
 rw[b3] at h;simp only[cond_false] at h;by_cases k4:e.kind=4
 ·simp only[k4,beq_self_eq_true,cond_true] at h
  cases hs:r.stand==1<;>simp only[hs,cond_true,cond_false] at h
  ·cases h
  ·cases h
   exact ⟨fun q=>by simp at q,by simp⟩
 have b4:(e.kind==4)=ak:=by simpa using k4
 rw[b4] at h;simp only[cond_false] at h;by_cases k7:e.kind=7
 ·simp only[k7,beq_self_eq_true,cond_true] at h
  cases hs:r.stand==1<;>simp only[hs,cond_true,cond_false] at h
  ·cases h
  ·cases h
   exact ⟨fun q=>by simp at q,by simp⟩
 have b7:(e.kind==7)=ak:=by simpa using k7
 rw[b7] at h;simp only[cond_false] at h;by_cases k5:e.kind=5
 ·simp only[k5,beq_self_eq_true,cond_true] at h
  cases hs:r.stand==3<;>simp only[hs,cond_true,cond_false] at h
  ·cases h
  ·cases h
   exact ⟨fun q=>by simp at q,by simp⟩
 have b5:(e.kind==5)=ak:=by simpa using k5
 rw[b5] at h;simp only[cond_false] at h;cases hs:(r.stand==1||r.stand==2||r.stand==3||r.stand==4)<;>simp only[hs,cond_true,cond_false] at h
 ·cases h
 ·cases h
  exact ⟨fun q=>by simp at q,by simp⟩
theorem Au.OK.feed{σ:Au}(hI:σ.OK){e:Ev}(hv:BO e=aC):(σ.feed e).2.OK:=by
 have hkd:=Zc hv;unfold Au.feed;cases hby:σ.JM e.tx with
 |some i=>
  obtain ⟨r,hi,hp⟩:=Sr hby
  have hr:σ.rs.getD i ⟨0,0,0,0,0,0,[],0⟩=r:=by rw[aY,hi];rfl
  have hlt:=(List.getElem?_eq_some_iff.1 hi).1;by_cases k1:e.kind=1
  ·simp only[k1,beq_self_eq_true,cond_true]
   exact hI
  have b1:(e.kind==1)=ak:=by simpa using k1
  simp only[b1,cond_false,hr];cases h:vY σ.many e r with
  |inl k=>exact hI |inr r'=>
   show Au.OK ⟨σ.many+1,σ.rs.set i r'⟩;obtain ⟨l1,l2,l3⟩:=U5 h (by omega) (hI.stands i r hi);obtain ⟨d1,d2⟩:=aho h (hI.deed i r hi);have hk:=(Qv h).2;have at_:∀{j:Nat} {s:Rc},(σ.rs.set i r')[j]?=ay s->(j=i/\s=r')\/(j≠i/\σ.rs[j]?=ay s):=fun {j s} hj=>by
    rw[List.getElem?_set] at hj;by_cases q:i=j
    ·subst q
     rw[if_pos rfl,if_pos hlt] at hj;cases hj;exact .inl ⟨rfl,rfl⟩
    ·rw[if_neg q] at hj
     exact .inr ⟨fun q'=>q q'.symm,hj⟩
   refine ⟨fun a b x y ha hb ht hx hy=>?_,fun a x ha=>?_,fun a x ha=>?_,by simp;have:=hI.len;omega,fun a x ha=>?_⟩
   ·rcases at_ ha with ⟨rfl,rfl⟩ |⟨n1,ha'⟩
    ·rcases at_ hb with ⟨rfl,rfl⟩ |⟨n2,hb'⟩
     ·rfl
     ·exact hI.one _ _ r y hi hb' (by rw[<-hk];exact ht) l1 hy
    ·rcases at_ hb with ⟨rfl,rfl⟩ |⟨n2,hb'⟩
     ·exact hI.one _ _ x r ha' hi (by rw[<-hk];exact ht) hx l1
     ·exact hI.one _ _ x y ha' hb' ht hx hy
   ·rcases at_ ha with ⟨rfl,rfl⟩ |⟨n1,ha'⟩
    ·exact d1
    ·exact hI.deed _ _ ha'
   ·rcases at_ ha with ⟨rfl,rfl⟩ |⟨n1,ha'⟩
    ·exact l2
    ·exact hI.stands _ _ ha'
   ·rcases at_ ha with ⟨rfl,rfl⟩ |⟨n1,ha'⟩
    ·have:=hI.dl _ _ hi
     show _<=σ.many+1;omega
    ·have:=hI.dl _ _ ha'
     show _<=σ.many+1;omega
 |none=>
  by_cases k1:e.kind=1
  ·simp only[k1,beq_self_eq_true,cond_true]
   cases hbu:σ.KO e.thread with
   |some j=>exact hI |none=>
    show Au.OK ⟨σ.many+1,σ.rs++[⟨e.tx,e.thread,1,σ.many,-1,-1,[],1⟩]⟩;have hno:∀(j:Nat) (s:Rc),σ.rs[j]?=ay s->s.th=e.thread->s.live=aC->False:=fun j s hj ht hl=>by
     have:=List.findIdx?_eq_none_iff.1 hbu s (List.mem_of_getElem? hj);simp[ht,hl] at this
    have at_:∀{j:Nat} {s x:Rc},(σ.rs++[x])[j]?=ay s->(j=σ.rs.length/\s=x)\/(j<σ.rs.length/\σ.rs[j]?=ay s):=fun {j s x} hj=>by
     by_cases q:j<σ.rs.length
     ·rw[List.getElem?_append_left q] at hj
      exact .inr ⟨q,hj⟩
     ·rw[List.getElem?_append_right (by omega)] at hj
      have:j=σ.rs.length:=by
       cases hz:j - σ.rs.length with
       |zero=>omega |succ z=>rw[hz] at hj;simp at hj
      subst this;simp at hj;exact .inl ⟨rfl,hj.symm⟩
    refine ⟨fun a b x y ha hb ht hx hy=>?_,fun a x ha=>?_,fun a x ha=>?_,by simp;have:=hI.len;omega,fun a x ha=>?_⟩
    ·rcases at_ ha with ⟨rfl,rfl⟩ |⟨n1,ha'⟩
     ·rcases at_ hb with ⟨rfl,rfl⟩ |⟨n2,hb'⟩
      ·rfl
      ·exact (hno _ _ hb' ht.symm hy).elim
     ·rcases at_ hb with ⟨rfl,rfl⟩ |⟨n2,hb'⟩
      ·exact (hno _ _ ha' ht hx).elim
      ·exact hI.one _ _ x y ha' hb' ht hx hy
    ·rcases at_ ha with ⟨rfl,rfl⟩ |⟨n1,ha'⟩
     ·intro q;simp at q
     ·exact hI.deed _ _ ha'
    ·rcases at_ ha with ⟨rfl,rfl⟩ |⟨n1,ha'⟩
     ·show 1<=(1:Int)/\(1:Int)<=5
      omega
     ·exact hI.stands _ _ ha'
    ·rcases at_ ha with ⟨rfl,rfl⟩ |⟨n1,ha'⟩
     ·simp
     ·have:=hI.dl _ _ ha'
      show _<=σ.many+1;omega
  ·have b1:(e.kind==1)=ak:=by simpa using k1
   simp only[b1,cond_false];exact hI
def Au.nil:Au:=⟨0,[]⟩
theorem Au.OK.nil:Au.nil.OK:=⟨fun i j r s h=>by simp[Au.nil] at h,fun i r h=>by simp[Au.nil] at h,fun i r h=>by simp[Au.nil] at h,dh _,fun i r h=>by simp[Au.nil] at h⟩
theorem U7{σ:Au}{e:Ev}(h:(σ.feed e).1=aK):(σ.feed e).2.many=σ.many+1:=by
 unfold Au.feed at h ⊢;cases h1:σ.JM e.tx with
 |some i=>
  simp only[h1] at h ⊢;cases hb:e.kind==1<;>simp only[hb,cond_true,cond_false] at h ⊢
  ·cases h2:vY σ.many e (σ.rs.getD i ⟨0,0,0,0,0,0,[],0⟩) with
   |inl k=>rw[h2] at h;cases h |inr r=>rfl
  ·cases h
 |none=>
  simp only[h1] at h ⊢;cases hb:e.kind==1<;>simp only[hb,cond_true,cond_false] at h ⊢
  ·cases h
  ·cases h2:σ.KO e.thread with
   |some j=>simp only[h2] at h;cases h |none=>rfl
end Go.BF
namespace Go.Ad
open Go Go.Sx Go.BF
theorem apO{H H':Mem}{n:Nat}{o:Nat->Oj}{xs:List Value}(h:BN H 2 n (zW o) xs):BN H' 2 n (zW o) xs:=
 ⟨h.1,h.2.1,h.2.2.1,fun i j s v hi h1 h2=>by
  have:=h.2.2.2 i j s v hi h1 h2;have hs:∃k,s=.i .i64 k:=by
   match j,h1 with
   |0,h1=>exact ⟨_,(dD h1).symm⟩ |1,h1=>exact ⟨_,(dD h1).symm⟩ |j+2,h1=>simp[zW,Row.put,obR] at h1
  obtain ⟨k,rfl⟩:=hs;cases this;exact .i _ _⟩
def Ko(n:Nat)(o:Nat->Oj)(σ:Au)(p:Nat):Hp->Prop:=fun h=>
 ∃L:Lay,L.p=p/\(∀b,h b≠aK↔QG L σ.rs.length b)/\∀(H:Mem) (w:World),h.at H w->Dc H w n (zW o) σ L
theorem Dc.hide{H:Mem}{w:World}{n:Nat}{o:Nat->Oj}{σ:Au}{L:Lay}(hA:Dc H w n (zW o) σ L):∃h:Hp,Ko n o σ L.p h/\h.at H w/\∀b,h b≠aK↔QG L σ.rs.length b:=by
 classical
 have hlt:∀{b},QG L σ.rs.length b->∃o,w.heap[b]?=ay o:=fun {b} ⟨t,ht⟩=>⟨_,fD (hA.lt ht)⟩;have hne:∀b,(if QG L σ.rs.length b then w.heap[b]? else aK)≠aK↔QG L σ.rs.length b:=fun b=>by
  by_cases q:QG L σ.rs.length b
  ·obtain ⟨o,ho⟩:=hlt q
   simp[q,ho]
  ·simp[q]
 refine ⟨fun b=>if QG L σ.rs.length b then w.heap[b]? else aK,⟨L,rfl,hne,fun H' w' hat=>?_⟩,fun b o e=>?_,hne⟩
 ·have at_:∀t b,L.blk σ.rs.length t=ay b->w'.heap[b]?=w.heap[b]?/\H' b=aK:=fun t b hb=>by
   obtain ⟨o,ho⟩:=hlt ⟨t,hb⟩;have:=hat b o ((if_pos (⟨t,hb⟩:QG L σ.rs.length b)).trans ho);exact ⟨this.1.trans ho.symm,this.2⟩
  have h0:Dc (fun _=>aK) w n (zW o) σ L:=⟨hA.au,let ⟨xs,h1,h2⟩:=hA.ob;⟨xs,h1,apO h2⟩,hA.tx,hA.KP,hA.bu,hA.rc,hA.de,hA.FQ,fun _ _ _=>rfl⟩;exact h0.keep (fun _ _ e=>by cases e) (fun t b hb=>(at_ t b hb).1) fun t b hb=>(at_ t b hb).2
 ·by_cases q:QG L σ.rs.length b
  ·simp only[if_pos q] at e
   exact ⟨e,let ⟨t,ht⟩:=q;hA.un t b ht⟩
  ·simp only[if_neg q] at e;cases e
theorem auF{n:Nat}{o:Nat->Oj}{σ:Au}{p:Nat}{e:Ev}{es:SV}(hes:∀H E v,Den H E es v->v=Yi e)(hI:σ.OK)(hm:σ.many<400)(hv:BO e=aC)(hob:e.kind=2->0<=e.obj/\e.obj<n/\Dy e.op=(o e.obj.toNat).kind):
  aj1 aB (Fv W5) 79 [.val (Dn p),es] (Ko n o σ p) (svE (σ.feed e).1) (Ko n o (σ.feed e).2 p):=by
 intro H E w vs h hd hon hg ⟨L,hp,hblk,hA⟩ hat;match vs,hd with
 |[v1,v2],⟨d1,d2,_⟩=>
  obtain ⟨rfl,_⟩:=d1;obtain rfl:=hes _ _ _ d2;subst hp;refine Calls.mono (apN (hA H w hat) hI hon hg hm hv hob) fun en w' ⟨v,H',L',h1,h2,h3,h4,h5,h6,h7⟩=>?_;obtain ⟨h',r1,r2,r3⟩:=Dc.hide h3;refine ⟨v,H',h',h1,?_,by rw[<-h4];exact r1,r2,h6,Tv h7 fun b hb=>(hblk b).2 hb,fun b hb=>?_⟩
  ·cases hx:(σ.feed e).1 with
   |none=>rw[hx] at h2;exact h2 |some k=>rw[hx] at h2;exact h2
  ·obtain ⟨t,ht⟩:=(r3 b).1 hb
   rcases h5 t b ht with q|q
   ·exact .inl q
   ·exact .inr ((hblk b).2 q)
section
variable{H:Mem}{E:Env}{w:World}{K:Kx}{n:Nat}{o:Nat->Oj}{h:Hp}
theorem adP{b b1 b2:Nat}{v0:Value}(au:w.heap[b]?=ay (.cells #[v0,.int .i64 0,.slice aK 0 0,.map (ay b1),.map (ay b2)] 181 (0,0)))
  (ob:∃xs,w.ownsRow 0 140 2 v0 n xs/\BN H 2 n (zW o) xs) (m1:∃ms clk,w.heap[b1]?=ay (.map ms clk)/\EY .i64 ms.toList clk fun _=>aK) (m2:∃ms clk,w.heap[b2]?=ay (.map ms clk)/\EY .i64 ms.toList clk fun _=>aK)
  (FQ:b≠b1/\b≠b2/\b1≠b2/\∀x,Ah v0=ay x->x≠b/\x≠b1/\x≠b2) (un:H b=aK/\H b1=aK/\H b2=aK/\∀x,Ah v0=ay x->H x=aK) :
  Dc H w n (zW o) Au.nil ⟨b,v0,.slice aK 0 0,b1,b2,fun _=>0,fun _=>.slice aK 0 0⟩:=by
 obtain ⟨d1,d2,d3,d4⟩:=FQ;refine ⟨au,ob,⟨rfl,.inl ⟨rfl,rfl⟩⟩,m1,m2,fun i r hi=>by simp[Au.nil] at hi,fun i r hi=>by simp[Au.nil] at hi,fun s t x hs ht=>?_,fun t x ht=>?_⟩
 ·cases s<;>cases t<;>simp[mQ,Au.nil,Ah] at hs ht<;>first|rfl|(exfalso;subst_vars;first|exact d1 rfl|exact d2 rfl|exact d3 rfl|exact d1 ht.symm|exact (d4 _ hs).1 rfl|exact (d4 _ hs).2.1 rfl|exact (d4 _ hs).2.2 rfl|exact (d4 _ ht).1 rfl|exact (d4 _ ht).2.1 rfl|exact (d4 _ ht).2.2 rfl|skip) |skip
  all_goals (first|exact d1 (hs.trans ht.symm) |exact d1 (hs ▸ ht ▸ rfl) |omega)
 ·cases t<;>simp[mQ,Au.nil,Ah] at ht<;>first|(subst ht;first|exact un.1|exact un.2.1|exact un.2.2.1) |exact un.2.2.2 _ ht
theorem abT{hp:List (Nat×SB)}{σ:Au}{L:Lay}(hh:Wi E w hp h)(hA:Dc H w n (zW o) σ L)(hb:∀x,(∃id sb,zX hp id=ay sb/\AL E id sb=ay x)↔QG L σ.rs.length x):Ko n o σ L.p h:=by
 obtain ⟨h0,r1,r2,r3⟩:=Dc.hide hA;have:h0=h:=by
  funext x;have e1:=r3 x;have e2:=(hh.2 x).symm.trans (hb x);cases q:h x with
  |none=>
   cases q':h0 x with
   |none=>rfl |some o'=>exact ((e2.2 (e1.1 (by simp[q']))) q).elim
  |some o'=>
   cases q':h0 x with
   |none=>exact ((e1.2 (e2.1 (by simp[q]))) q').elim |some o''=>
    have a1:=hh.1 x _ q;have a2:=(r2 x _ q').1;rw[a1] at a2;exact a2.symm
 rw[<-this];exact r1
theorem ZP{id:Nat}(hh:Gg K H E w id (.fm .i64 (fun _=>aK) [] [] aK)):∃b ms clk,E id=ay (.map (ay b))/\w.heap[b]?=ay (.map ms clk)/\EY .i64 ms.toList clk fun _=>aK:=by
 obtain ⟨b,ms,clk,fv,uv,s1,s2,s3,s4,s5,s6,_,s7⟩:=hh;obtain rfl:=O8 s4;exact ⟨b,ms,clk,s1,s2,s6⟩
theorem apP{o':Nat->List Sh}(ho:∀i,i<n->o' i=zW o i){n':Nat}(hn:n'=n){hp:List (Nat×SB)}(hpe:hp=[(3,.own 140 2 n' o'),(4,.fm .i64 (fun _=>aK) [] [] aK),(5,.fm .i64 (fun _=>aK) [] [] aK),(6,.box [.gs 3,.int .i64 0,.Aw,.mp 4,.mp 5] 181)])
  (hh:Ai K H E w hp) (hd:Wi E w hp h):∃b,E 6=ay (.pointer (ay ⟨b,0,aK⟩))/\Ko n o Au.nil b h:=by
 subst hn hpe;obtain ⟨v,xs,x1,x2,x3,x4⟩:=hh.ent 3 _ rfl;obtain ⟨b1,ms1,WT,y1,y2,y3⟩:=ZP (hh.ent 4 _ rfl);obtain ⟨b2,ms2,WU,z1,z2,z3⟩:=ZP (hh.ent 5 _ rfl);obtain ⟨b,⟨cs⟩,p1,p2,p3,p4⟩:=hh.ent 6 _ rfl;match cs,p3 with
 |[u0,u1,u2,u3,u4],⟨d0,d1,d2,d3,d4,_⟩=>
  have d1:u1=.int .i64 0:=d1;have d2:u2=.slice aK 0 0:=d2;obtain ⟨d0,_⟩:E 3=ay u0/\_:=d0;obtain ⟨c1,d3,d3'⟩:=d3;obtain ⟨c2,d4,d4'⟩:=d4;rw[x1] at d0;cases d0;rw[y1] at d3;cases d3;rw[z1] at d4;cases d4;subst d1 d2 d3' d4';have k3:AL E 3 (.own 140 2 n' o')=Ah v:=by simp[AL,x1]
  have k4:AL E 4 (.fm .i64 (fun _=>aK) [] [] aK)=ay b1:=by simp[AL,y1,Ah]
  have k5:AL E 5 (.fm .i64 (fun _=>aK) [] [] aK)=ay b2:=by simp[AL,z1,Ah]
  have k6:AL E 6 (.box [.gs 3,.int .i64 0,.Aw,.mp 4,.mp 5] 181)=ay b:=by simp[AL,p1,Ah]
  have dd:∀{i j:Nat} {s t:SB} {x:Nat},zX [(3,rP 140 2 n' o'),(4,.fm .i64 (fun _=>aK) [] [] aK),(5,.fm .i64 (fun _=>aK) [] [] aK),(6,.box [.gs 3,.int .i64 0,.Aw,.mp 4,.mp 5] 181)] i=ay s->zX [(3,rP 140 2 n' o'),(4,.fm .i64 (fun _=>aK) [] [] aK),(5,.fm .i64 (fun _=>aK) [] [] aK),(6,.box [.gs 3,.int .i64 0,.Aw,.mp 4,.mp 5] 181)] j=ay t->AL E i s=ay x->AL E j t=ay x->i=j:=fun h1 h2 h3 h4=>hh.FQ _ _ _ _ _ h1 h2 h3 h4
  have mi:∀{i:Nat} {s:SB} {x:Nat},zX [(3,rP 140 2 n' o'),(4,.fm .i64 (fun _=>aK) [] [] aK),(5,.fm .i64 (fun _=>aK) [] [] aK),(6,.box [.gs 3,.int .i64 0,.Aw,.mp 4,.mp 5] 181)] i=ay s->AL E i s=ay x->H x=aK:=fun h1 h2=>((hh.ent _ _ h1).lt h2).2.1;have hA:=adP (H:=H) (n:=n') (o:=o) p2 ⟨xs,x2,Ri x3 ho⟩ ⟨ms1,WT,y2,y3⟩ ⟨ms2,WU,z2,z3⟩
   ⟨fun q=>(by subst q;cases dd (i:=6) (j:=4) rfl rfl k6 k4),fun q=>(by subst q;cases dd (i:=6) (j:=5) rfl rfl k6 k5),fun q=>(by subst q;cases dd (i:=4) (j:=5) rfl rfl k4 k5),
    fun x hx=>⟨fun q=>(by subst q;cases dd (i:=3) (j:=6) rfl rfl (k3.trans hx) k6),fun q=>(by subst q;cases dd (i:=3) (j:=4) rfl rfl (k3.trans hx) k4),fun q=>(by subst q;cases dd (i:=3) (j:=5) rfl rfl (k3.trans hx) k5)⟩⟩
   ⟨mi (i:=6) rfl k6,mi (i:=4) rfl k4,mi (i:=5) rfl k5,fun x hx=>mi (i:=3) rfl (k3.trans hx)⟩
  refine ⟨b,p1,abT hd hA fun x=>⟨fun ⟨id,sb,h1,h2⟩=>?_,fun ⟨t,ht⟩=>?_⟩⟩
  ·simp only[zX] at h1
   cases q3:(3:Nat)==id<;>simp only[q3,cond_true,cond_false] at h1
   ·cases q4:(4:Nat)==id<;>simp only[q4,cond_true,cond_false] at h1
    ·cases q5:(5:Nat)==id<;>simp only[q5,cond_true,cond_false] at h1
     ·cases q6:(6:Nat)==id<;>simp only[q6,cond_true,cond_false] at h1
      ·cases h1
      ·cases h1;obtain rfl:6=id:=by simpa using q6
       rw[k6] at h2;exact ⟨.au,h2⟩
     ·cases h1;obtain rfl:5=id:=by simpa using q5
      rw[k5] at h2;exact ⟨.bu,h2⟩
    ·cases h1;obtain rfl:4=id:=by simpa using q4
     rw[k4] at h2;exact ⟨.KP,h2⟩
   ·cases h1;obtain rfl:3=id:=by simpa using q3
    rw[k3] at h2;exact ⟨.ob,h2⟩
  ·cases t with
   |au=>exact ⟨6,_,rfl,k6.trans ht⟩ |tx=>cases ht |KP=>exact ⟨4,_,rfl,k4.trans ht⟩ |bu=>exact ⟨5,_,rfl,k5.trans ht⟩ |ob=>exact ⟨3,_,rfl,k3.trans ht⟩ |rc i=>simp[mQ,Au.nil] at ht |de i=>simp[mQ,Au.nil] at ht
theorem apQ(hn:n=0){hp:List (Nat×SB)}(hpe:hp=[(2,.fm .i64 (fun _=>aK) [] [] aK),(3,.fm .i64 (fun _=>aK) [] [] aK),(4,.box [.Aw,.int .i64 0,.Aw,.mp 2,.mp 3] 181)])
  (hh:Ai K H E w hp) (hd:Wi E w hp h):∃b,E 4=ay (.pointer (ay ⟨b,0,aK⟩))/\Ko n o Au.nil b h:=by
 subst hn hpe;obtain ⟨b1,ms1,WT,y1,y2,y3⟩:=ZP (hh.ent 2 _ rfl);obtain ⟨b2,ms2,WU,z1,z2,z3⟩:=ZP (hh.ent 3 _ rfl);obtain ⟨b,⟨cs⟩,p1,p2,p3,p4⟩:=hh.ent 4 _ rfl;match cs,p3 with
 |[u0,u1,u2,u3,u4],⟨d0,d1,d2,d3,d4,_⟩=>
  have d1:u1=.int .i64 0:=d1;have d2:u2=.slice aK 0 0:=d2;have d0:u0=.slice aK 0 0:=d0;obtain ⟨c1,d3,d3'⟩:=d3;obtain ⟨c2,d4,d4'⟩:=d4;rw[y1] at d3;cases d3;rw[z1] at d4;cases d4;subst d0 d1 d2 d3' d4';have k4:AL E 2 (.fm .i64 (fun _=>aK) [] [] aK)=ay b1:=by simp[AL,y1,Ah]
  have k5:AL E 3 (.fm .i64 (fun _=>aK) [] [] aK)=ay b2:=by simp[AL,z1,Ah]
  have k6:AL E 4 (.box [.Aw,.int .i64 0,.Aw,.mp 2,.mp 3] 181)=ay b:=by simp[AL,p1,Ah]
  have dd:∀{i j:Nat} {s t:SB} {x:Nat},zX [(2,mV .i64 (fun _=>aK) [] [] aK),(3,.fm .i64 (fun _=>aK) [] [] aK),(4,.box [.Aw,.int .i64 0,.Aw,.mp 2,.mp 3] 181)] i=ay s->zX [(2,mV .i64 (fun _=>aK) [] [] aK),(3,.fm .i64 (fun _=>aK) [] [] aK),(4,.box [.Aw,.int .i64 0,.Aw,.mp 2,.mp 3] 181)] j=ay t->AL E i s=ay x->AL E j t=ay x->i=j:=fun h1 h2 h3 h4=>hh.FQ _ _ _ _ _ h1 h2 h3 h4
  have mi:∀{i:Nat} {s:SB} {x:Nat},zX [(2,mV .i64 (fun _=>aK) [] [] aK),(3,.fm .i64 (fun _=>aK) [] [] aK),(4,.box [.Aw,.int .i64 0,.Aw,.mp 2,.mp 3] 181)] i=ay s->AL E i s=ay x->H x=aK:=fun h1 h2=>((hh.ent _ _ h1).lt h2).2.1;have hA:=adP (H:=H) (n:=0) (o:=o) p2 ⟨[],⟨rfl,.inl ⟨rfl,rfl⟩⟩,JV 2 _⟩ ⟨ms1,WT,y2,y3⟩ ⟨ms2,WU,z2,z3⟩
   ⟨fun q=>(by subst q;cases dd (i:=4) (j:=2) rfl rfl k6 k4),fun q=>(by subst q;cases dd (i:=4) (j:=3) rfl rfl k6 k5),fun q=>(by subst q;cases dd (i:=2) (j:=3) rfl rfl k4 k5),fun x hx=>by cases hx⟩
   ⟨mi (i:=4) rfl k6,mi (i:=2) rfl k4,mi (i:=3) rfl k5,fun x hx=>by cases hx⟩
  refine ⟨b,p1,abT hd hA fun x=>⟨fun ⟨id,sb,h1,h2⟩=>?_,fun ⟨t,ht⟩=>?_⟩⟩
  ·simp only[zX] at h1
   cases q4:(2:Nat)==id<;>simp only[q4,cond_true,cond_false] at h1
   ·cases q5:(3:Nat)==id<;>simp only[q5,cond_true,cond_false] at h1
    ·cases q6:(4:Nat)==id<;>simp only[q6,cond_true,cond_false] at h1
     ·cases h1
     ·cases h1;obtain rfl:4=id:=by simpa using q6
      rw[k6] at h2;exact ⟨.au,h2⟩
    ·cases h1;obtain rfl:3=id:=by simpa using q5
     rw[k5] at h2;exact ⟨.bu,h2⟩
   ·cases h1;obtain rfl:2=id:=by simpa using q4
    rw[k4] at h2;exact ⟨.KP,h2⟩
  ·cases t with
   |au=>exact ⟨4,_,rfl,k6.trans ht⟩ |tx=>cases ht |KP=>exact ⟨2,_,rfl,k4.trans ht⟩ |bu=>exact ⟨3,_,rfl,k5.trans ht⟩ |ob=>cases ht |rc i=>simp[mQ,Au.nil] at ht |de i=>simp[mQ,Au.nil] at ht
end
open Go Go.Sx Go.BF
def abU:Nat->Option (List Sh->Tree Sh)
 |77=>ay apq |_=>aK
noncomputable def CT(A:Prim)(W:Wd):Ctx:={C5 A W abU Am with ami:=fun t=>bif fB t 179 then ay (.i64,[]) else aK}
def akC(g:Nat):Bool:=fB g 79
def WV:List It:=[bF [0,1,0,1,1,1,1],dA 0,bF [1,1,1,1,1]]
def asa:List It:=bF [0,0,1,0,1,1,1,1]::WV
def Yj(g:Nat):Bool:=fB g 79||fB g 44
def LT(m:Nat)(p:Nat->Ev)(b:Nat)(c i:Int):Core:=
 {tm:=[.any,.any,.EJ,.DK,.any,.val (.pointer (ay ⟨b,0,aK⟩))]++rep [.any] 19++[.sh (.sl 8 m (zW p)),.sym .i64 c,.sym .i64 i]++rep [.any] 16,hp:=[],nx:=0,lim:=L0,tc:=[]}
def QH:List Fr:=[{g:=20,td:=[nP [0,1] [1,2,3,4,5,6],bF [1,1]],tm:=[.any,.any,.Aw,.DK]++rep [.any] 12}]
def tdP:List It:=[nP [0,1,0,0,1,1,0,0,1,0,1,1,1,1] [2,3],bF [1,1,0,0,1,1,0,0,1,0,1,1,1,1],dA 1,bF [1,1,1,0,0,1,0,1,1,1,1]]++WV
def tdQ:List It:=[nP [0,1,0,0,1,1,0,0,1,0,1,1,1,1] [3],bF [1,1,0,0,1,1,0,0,1,0,1,1,1,1],dA 1,bF [1,1,1,0,0,1,0,1,1,1,1]]++WV
def LP(m:Nat)(p:Nat->Ev)(b:Nat)(c i:Int)(e:Ev)(x:SV):Core:=
 {tm:=[.any,.any,.EJ,.DK,.any,.val (.pointer (ay ⟨b,0,aK⟩)),.any,.sym .i64 i]++rep [.any] 17++[.sh (.sl 8 m (zW p)),.sym .i64 c,.sym .i64 i]++rep [.any] 4 ++
   [.val (.pointer (ay ⟨b,0,aK⟩)),.agg [.sym .i64 e.kind,.sym .i64 e.tx,.sym .i64 e.thread,.sym .i64 e.obj,.sym .i64 e.op,.sym .i64 e.key,.sym .i64 e.val,.sym .i64 e.ret],x]++rep [.any] 9,hp:=[],nx:=0,lim:=L0,tc:=[]}
def adQ:List It:=[nP [0,1,1,1] [1,2,3],bF [1,1,1,1]]
def LX(x:SV):Core:={tm:=[.any,.any,.Aw,.DK]++rep [.any] 10++[x,.any],hp:=[],nx:=0,lim:=L0,tc:=[]}
def rcR(N:Rc->Nat)(D:Rc->Nat->List Sh)(r:Rc):List Sh:=[.i .i64 r.id,.i .i64 r.th,.i .i64 r.st,.i .i64 r.bg,.i .i64 r.en,.i .i64 r.tr,.sl 8 (N r) (D r),.i .i64 r.stand]
def Zt(N:Rc->Nat)(D:Rc->Nat->List Sh)(rs:Nat->Rc):Nat->List Sh:=fun j=>[.pt (rcR N D (rs j))]
def auX(N:Rc->Nat)(D:Rc->Nat->List Sh)(v0:Value)(many:Int)(k:Nat)(rs:Nat->Rc)(b1 b2:Nat):SV:=.Gl 5 1 (fun _=>[.v v0,.i .i64 many,.sl 1 k (Zt N D rs),.v (.map (ay b1)),.v (.map (ay b2))]) 0 0
def txR(N:Rc->Nat)(D:Rc->Nat->List Sh)(r:Rc):List Sh:=[.i .i64 r.id,.i .i64 r.th,.i .i64 r.st,.i .i64 r.bg,.i .i64 r.en,.i .i64 r.tr,.sl 8 (N r) (D r)]
def U8(N:Rc->Nat)(D:Rc->Nat->List Sh)(rs:Nat->Rc):Nat->List Sh:=fun j=>txR N D (rs j)
def tdT:List It:=[bF [0,1,0,1,1],dA 0,bF [1,1,1]]
def tbT:List It:=bF [0,0,1,0,1,1]::tdT
def adR(N:Rc->Nat)(D:Rc->Nat->List Sh)(k:Nat)(rs:Nat->Rc)(c i:Int)(j:Nat)(gg:Nat->List Sh):Core:=
 {tm:=[.any,.any,.any,.gs 0]++rep [.any] 12++[.sh (.sl 1 k (Zt N D rs)),.sym .i64 c,.sym .i64 i]++rep [.any] 21,hp:=[(0,.own 115 7 j gg)],nx:=1,lim:=L0,tc:=[]}
def frX:List Fr:=[{g:=20,td:=adQ,tm:=[.any,.any,.Aw,.DK]++rep [.any] 12}]
theorem a32(A:Prim)(W:Wd)(n m:Nat)(o:Nat->Oj)(p:Nat->Ev):arQ (CT A W) akC 300 400 20 [.code []] (zZ 16 [.agg [.sl 2 n (zW o),.sl 8 m (zW p)]] L0) []=aI (okB Oj n (zW o)) (aI (okB Ev m (zW p)) (aI (Qs m (zW p)) (aF (Iq n m) (aA (uX (cO [aG 0 0 fun (x:Nat)=>[],aZ 6 329]))) (aF (F5 n m (zW o) (zW p)) (aI (okB Oj n (zW o)) (aI (okB Ev 0 fun (x:Nat)=>[]) (aI (Qs 0 fun (x:Nat)=>[]) (aF (Iq n 0) (aA (uX (cO [aG 0 0 fun (x:Nat)=>[],aZ 6 329]))) (aF (F5 n 0 (zW o) fun (x:Nat)=>[]) (aF (A.ZU n 0) ((aA (yY 43 [bF [0,1,0,1,1,1,1],dA 0,bF [1,1,1,1,1]] {tm:=[jW [dL (aG 2 n (zW o)),dL (aG 8 m (zW p))],jX 1 0,rQ,fQ,fQ,jX 4 0,fQ,bH,bH,bH,bH,bH,bH,qc ak,bH,bH,bH,bH,bH,bH,bH,bH,qc ak,bH,bH,dL (aG 8 m (zW p)),SV.sym aT (A.Az m),oK aT (ah 0),bH,bH,bH,bH,bH,bH,bH,bH,bH,bH,bH,bH,bH,bH,bH,bH],hp:=[(0,jY [dL (aG 2 n (zW o)),dL (aG 8 m (zW p))] 25),(1,jY [dL (aG 2 n (zW o)),dL (aG 8 m (zW p))] 25),(2,mV aT (fun (x:Int)=>aK) [] [] aK),(3,mV aT (fun (x:Int)=>aK) [] [] aK),(4,jY [kD,oK aT (ah 0),kD,o7 2,o7 3] 181)],nx:=5,lim:=1000000000000000000000000000000,tc:=[]} [{g:=20,td:=[nP [0,1] [1,2,3,4,5,6],bF [1,1]],tm:=[jW [dL (aG 2 n (zW o)),dL (aG 8 m (zW p))],jX 0 0,kD,fQ,bH,bH,bH,jW [dL (aG 2 n (zW o)),dL (aG 8 m (zW p))],bH,bH,bH,bH,bH,bH,bH,bH]}])).both (aI (A.room (A.addN 0 n) 16) (aA (yY 43 [bF [0,1,0,1,1,1,1],dA 0,bF [1,1,1,1,1]] {tm:=[jW [dL (aG 2 n (zW o)),dL (aG 8 m (zW p))],jX 1 0,rQ,fQ,fQ,jX 6 0,fQ,bH,bH,bH,bH,bH,bH,qc ak,bH,bH,bH,bH,bH,bH,bH,bH,qc ak,bH,bH,dL (aG 8 m (zW p)),SV.sym aT (A.Az m),oK aT (ah 0),bH,bH,bH,bH,bH,bH,bH,bH,bH,bH,bH,bH,bH,bH,bH,bH],hp:=[(0,jY [dL (aG 2 n (zW o)),dL (aG 8 m (zW p))] 25),(1,jY [dL (aG 2 n (zW o)),dL (aG 8 m (zW p))] 25),(3,rP 140 2 (A.addN 0 n) (A.snoc (AQ []) 0 (zW o))),(4,mV aT (fun (x:Int)=>aK) [] [] aK),(5,mV aT (fun (x:Int)=>aK) [] [] aK),(6,jY [SV.gs 3,oK aT (ah 0),kD,o7 4,o7 5] 181)],nx:=7,lim:=1000000000000000000000000000000,tc:=[2]} [{g:=20,td:=[nP [0,1] [1,2,3,4,5,6],bF [1,1]],tm:=[jW [dL (aG 2 n (zW o)),dL (aG 8 m (zW p))],jX 0 0,kD,fQ,bH,bH,bH,jW [dL (aG 2 n (zW o)),dL (aG 8 m (zW p))],bH,bH,bH,bH,bH,bH,bH,bH]}])))) (aI (A.room (A.addN 0 n) 16) (aA (yY 43 [bF [0,1,0,1,1,1,1],dA 0,bF [1,1,1,1,1]] {tm:=[jW [dL (aG 2 n (zW o)),dL (aG 8 m (zW p))],jX 1 0,rQ,fQ,fQ,jX 6 0,fQ,bH,bH,bH,bH,bH,bH,qc ak,bH,bH,bH,bH,bH,bH,bH,bH,qc ak,bH,bH,dL (aG 8 m (zW p)),SV.sym aT (A.Az m),oK aT (ah 0),bH,bH,bH,bH,bH,bH,bH,bH,bH,bH,bH,bH,bH,bH,bH,bH],hp:=[(0,jY [dL (aG 2 n (zW o)),dL (aG 8 m (zW p))] 25),(1,jY [dL (aG 2 n (zW o)),dL (aG 8 m (zW p))] 25),(3,rP 140 2 (A.addN 0 n) (A.snoc (AQ []) 0 (zW o))),(4,mV aT (fun (x:Int)=>aK) [] [] aK),(5,mV aT (fun (x:Int)=>aK) [] [] aK),(6,jY [SV.gs 3,oK aT (ah 0),kD,o7 4,o7 5] 181)],nx:=7,lim:=1000000000000000000000000000000,tc:=[2]} [{g:=20,td:=[nP [0,1] [1,2,3,4,5,6],bF [1,1]],tm:=[jW [dL (aG 2 n (zW o)),dL (aG 8 m (zW p))],jX 0 0,kD,fQ,bH,bH,bH,jW [dL (aG 2 n (zW o)),dL (aG 8 m (zW p))],bH,bH,bH,bH,bH,bH,bH,bH]}])))) (aA (uX (cO [aG 0 0 fun (x:Nat)=>[],pG 109 (sU [aW .i64 (JG n 0 (zW o) fun (x:Nat)=>[]),aZ (Np n 0 (zW o) fun (x:Nat)=>[]) 329])])))))))) (aA (uX (cO [aG 0 0 fun (x:Nat)=>[],pG 109 (sU [aW .i64 (JG n m (zW o) (zW p)),aZ (Np n m (zW o) (zW p)) 329])]))))))):=by kernel_rfl
theorem b32(A:Prim)(W:Wd)(m:Nat)(p:Nat->Ev)(b:Nat)(c i:Int)(k:Nat):AP (CT A W) Yj 300 400 43 asa (LT m p b c i) QH [⟨43,tdP,LP m p b c i (p k) .any,QH⟩,⟨20,adQ,LX (.val (.pointer (ay ⟨b,0,aK⟩))),[]⟩]=aF (A.lt i c) (aI (A.inB i m) (aA (bJ 0 [kQ (gB (ay {block:=b,off:=0})) (gB (ay {block:=b,off:=0})),aj i i,aP (aG 8 m (zW p)) (aG 8 m (zW p)),aj c c,aj i i,kQ (gB (ay {block:=b,off:=0})) (gB (ay {block:=b,off:=0})),aj (p (A.toN i)).kind (p k).kind,aj (p (A.toN i)).tx (p k).tx,aj (p (A.toN i)).thread (p k).thread,aj (p (A.toN i)).obj (p k).obj,aj (p (A.toN i)).op (p k).op,aj (p (A.toN i)).key (p k).key,aj (p (A.toN i)).val (p k).val,aj (p (A.toN i)).ret (p k).ret]))) (aA (bJ 1 [kQ (gB (ay {block:=b,off:=0})) (gB (ay {block:=b,off:=0}))])):=by kernel_rfl
theorem c32(A:Prim)(W:Wd)(m:Nat)(p:Nat->Ev)(b:Nat)(c i i1:Int)(e:Ev):AP (CT A W) Yj 300 400 43 tdQ (LP m p b c i e .DK) QH [⟨43,WV,LT m p b c i1,QH⟩]=aA (bJ 0 [kQ (gB (ay {block:=b,off:=0})) (gB (ay {block:=b,off:=0})),aP (aG 8 m (zW p)) (aG 8 m (zW p)),aj c c,aj (A.add .i64 i (ah 1)) i1]):=by kernel_rfl
theorem d32(A:Prim)(W:Wd)(m:Nat)(p:Nat->Ev)(b:Nat)(c i:Int)(e:Ev)(k:Nat):AP (CT A W) Yj 300 400 43 tdQ (LP m p b c i e (.sh (.er k 329))) QH []=aA (aO (cO [aG 0 0 fun (x:Nat)=>[],pG 109 (sU [aW .i64 i,aZ k 329])])):=by kernel_rfl
theorem e32(A:Prim)(W:Wd)(N:Rc->Nat)(D:Rc->Nat->List Sh)(v0:Value)(many:Int)(k:Nat)(rs:Nat->Rc)(b1 b2:Nat)(c i:Int)(j:Nat)(gg:Nat->List Sh):AP (CT A W) DI 300 400 20 adQ (LX (auX N D v0 many k rs b1 b2)) [] [⟨44,tdT,adR N D k rs c i j gg,frX⟩]=aI (A.le (ah 0) (A.Az k)) (aI (A.room (A.toN (A.Az k)) 72) (aA (bJ 0 [aP (aG 1 k (Zt N D rs)) (aG 1 k (Zt N D rs)),aj (A.Az k) c,aj (ah 0) i,aJ 0 j,aS 0 (fun (x:Nat)=>[]) gg]))):=by kernel_rfl
theorem f32(A:Prim)(W:Wd)(N:Rc->Nat)(D:Rc->Nat->List Sh)(k:Nat)(rs:Nat->Rc)(c i i1:Int)(j j1:Nat)(gg g1:Nat->List Sh):arR (CT A W) DI 300 400 44 tbT (adR N D k rs c i j gg) frX [⟨44,tdT,adR N D k rs c i1 j1 g1,frX⟩]=aF (A.lt i c) (aI (A.inB i k) (aI (A.le (ah 0) (A.Az (N (rs (A.toN i))))) (aI (A.room (A.toN (A.Az (N (rs (A.toN i))))) 64) (aI (A.room (A.addN 0 (N (rs (A.toN i)))) 64) (aI (A.le (ah 0) (A.Az (N (rs (A.toN i))))) (aI (A.room (A.toN (A.Az (N (rs (A.toN i))))) 64) (aI (A.room (A.addN 0 (N (rs (A.toN i)))) 64) (aQ [aJ 1 1,bC (fun (x:Nat)=>rcR N D (rs (A.toN i))) fun (x:Nat)=>rcR N D (rs (A.toN i)),aJ 0 0,aP (aG 1 k (Zt N D rs)) (aG 1 k (Zt N D rs)),aj c c,aj i i,aJ j j,bC gg gg,aj (rs (A.toN i)).id (rs (A.toN i)).id,aj (rs (A.toN i)).th (rs (A.toN i)).th,aj (rs (A.toN i)).st (rs (A.toN i)).st,aj (rs (A.toN i)).bg (rs (A.toN i)).bg,aj (rs (A.toN i)).en (rs (A.toN i)).en,aj (rs (A.toN i)).tr (rs (A.toN i)).tr,aJ (A.addN 0 (N (rs (A.toN i)))) (A.addN 0 (N (rs (A.toN i)))),bC (A.snoc (fun (x:Nat)=>[]) 0 (D (rs (A.toN i)))) (A.snoc (fun (x:Nat)=>[]) 0 (D (rs (A.toN i))))] (aI (A.le (ah 0) (A.Az (N (rs (A.toN i))))) (aI (A.room (A.toN (A.Az (N (rs (A.toN i))))) 64) (aI (A.room (A.addN 0 (N (rs (A.toN i)))) 64) (aQ [aJ 1 1,bC (fun (x:Nat)=>rcR N D (rs (A.toN i))) fun (x:Nat)=>rcR N D (rs (A.toN i)),aJ 0 0,aP (aG 1 k (Zt N D rs)) (aG 1 k (Zt N D rs)),aj c c,aj i i,aJ j j,bC gg gg,aj (rs (A.toN i)).id (rs (A.toN i)).id,aj (rs (A.toN i)).th (rs (A.toN i)).th,aj (rs (A.toN i)).st (rs (A.toN i)).st,aj (rs (A.toN i)).bg (rs (A.toN i)).bg,aj (rs (A.toN i)).en (rs (A.toN i)).en,aj (rs (A.toN i)).tr (rs (A.toN i)).tr,aJ (A.addN 0 (N (rs (A.toN i)))) (A.addN 0 (N (rs (A.toN i)))),bC (A.snoc (fun (x:Nat)=>[]) 0 (D (rs (A.toN i)))) (A.snoc (fun (x:Nat)=>[]) 0 (D (rs (A.toN i))))] (aI (A.room (A.addN j 1) 72) (aA (bJ 0 [aP (aG 1 k (Zt N D rs)) (aG 1 k (Zt N D rs)),aj c c,aj (A.add .i64 i (ah 1)) i1,aJ (A.addN j 1) j1,aS (A.addN j 1) (A.snoc gg j (AQ [[aW .i64 (rs (A.toN i)).id,aW .i64 (rs (A.toN i)).th,aW .i64 (rs (A.toN i)).st,aW .i64 (rs (A.toN i)).bg,aW .i64 (rs (A.toN i)).en,aW .i64 (rs (A.toN i)).tr,aG 8 (A.addN 0 (N (rs (A.toN i)))) (A.snoc (fun (x:Nat)=>[]) 0 (D (rs (A.toN i))))]])) g1]))))))))))))))) (aA (aO (cO [Sh.os 115 7 j gg,Sh.v Value.nilIface]))):=by kernel_rfl
end Go.Ad
namespace Go.BF
open Go Go.Sx
def rc0:Rc:=⟨0,0,0,0,0,0,[],0⟩
def Fj(r:Rc):Nat:=r.Ac.length
def dfn(r:Rc):Nat->List Sh:=zW (nth r.Ac)
def GL(σ:Au)(j:Nat):Rc:=σ.rs.getD j rc0
theorem U9{σ:Au}{j:Nat}(h:j<σ.rs.length):σ.rs[j]?=ay (GL σ j):=by
 simp[GL,aY,aV h]
end Go.BF
namespace Go.Ad
open Go Go.Sx Go.BF
section
variable{H:Mem}{E:Env}{w:World}{n:Nat}{o:Nat->Oj}{h:Hp}{σ:Au}{b:Nat}
theorem alV(hR:Ko n o σ b h)(hat:h.at H w):∃L:Lay,Den (H.with h) E (auX Fj dfn L.v0 σ.many σ.rs.length (GL σ) L.b1 L.b2) (.pointer (ay ⟨b,0,aK⟩)):=by
 obtain ⟨L,rfl,hdom,hA⟩:=hR;have A:=hA H w hat;have at_:∀t x,L.blk σ.rs.length t=ay x->(H.with h) x=w.heap[x]?:=fun t x hx=>by
  cases q:h x with
  |none=>exact ((hdom x).2 ⟨t,hx⟩ q).elim |some ob=>simp only[Mem.with,q];exact (hat x ob q).1.symm
 have asb:L.v0.oneCell'=aC:=by
  obtain ⟨xs,h1,_⟩:=A.ob;rcases h1.2 with ⟨q,_⟩ |⟨g,cap,cur,q,_⟩<;>rw[q]<;>rfl
 have awu:L.v2.oneCell'=aC:=by
  rcases A.tx.2 with ⟨q,_⟩ |⟨g,cap,cur,q,_⟩<;>rw[q]<;>rfl
 have awv:∀i,i<σ.rs.length->Rep (H.with h) (.pt (rcR Fj dfn (GL σ i))) (Dn (L.R i)):=fun i hi=>by
  have hs:=U9 (σ:=σ) hi;have hc:=A.rc i _ hs;have hd:=A.de i _ hs;have hb:=at_ (.rc i) (L.R i) (by simp[mQ,hi]);rw[hc] at hb;have aww:(L.D i).oneCell'=aC:=by
   rcases hd.2 with ⟨q,_⟩ |⟨g,cap,cur,q,_⟩<;>rw[q]<;>rfl
  have awx:Rep (H.with h) (.sl 8 (Fj (GL σ i)) (dfn (GL σ i))) (L.D i):=LJ hd (Za _) fun x hx=>at_ (.de i) x (by simp[mQ,hi,hx]);refine .pt _ (L.R i) 0 (fun j=>(WS (GL σ i) (L.D i)).getD j undef) (fun j hj=>?_) (fun j hj=>?_) fun j s hs'=>?_
  ·simp only[hcell,hb,gJ]
   have:j<(WS (GL σ i) (L.D i)).size:=hj;simp[iJ,fD this]
  ·have:j<8:=hj
   match j,this with
   |0,_=>rfl |1,_=>rfl |2,_=>rfl |3,_=>rfl |4,_=>rfl |5,_=>rfl |6,_=>exact aww |7,_=>rfl |j+8,hj=>omega
  ·match j,hs' with
   |0,hs'=>cases hs';exact .i _ _ |1,hs'=>cases hs';exact .i _ _ |2,hs'=>cases hs';exact .i _ _ |3,hs'=>cases hs';exact .i _ _ |4,hs'=>cases hs';exact .i _ _ |5,hs'=>cases hs';exact .i _ _ |6,hs'=>cases hs';exact awx |7,hs'=>cases hs';exact .i _ _ |j+8,hs'=>simp[rcR] at hs'
 have awy:Rep (H.with h) (.sl 1 σ.rs.length (Zt Fj dfn (GL σ))) L.v2:=by
  refine LJ A.tx ?_ fun x hx=>at_ .tx x hx
  refine ⟨by simp,fun i _=>rfl,fun u hu=>?_,fun i j s v hi h1 h2=>?_⟩
  ·obtain ⟨i,_,rfl⟩:=dJ.1 hu
   rfl
  ·match j,h1 with
   |0,h1=>
    cases h1;simp[List.getElem?_map,List.getElem?_range,hi] at h2;subst h2;exact awv i hi
   |j+1,h1=>simp[Zt] at h1
 have hb:=at_ .au L.p rfl;rw[A.au] at hb;refine ⟨L,L.p,0,fun j=>(#[L.v0,.int .i64 σ.many,L.v2,.map (ay L.b1),.map (ay L.b2)]:Array Value).getD j undef,rfl,by decide,rfl,fun j hj=>⟨?_,?_⟩,fun j s hs'=>?_⟩
 ·simp only[hcell,hb,gJ]
  have:j<(#[L.v0,.int .i64 σ.many,L.v2,.map (ay L.b1),.map (ay L.b2)]:Array Value).size:=hj;simp[iJ,fD this]
 ·match j,hj with
  |0,_=>exact asb |1,_=>rfl |2,_=>exact awu |3,_=>rfl |4,_=>rfl |j+5,hj=>omega
 ·match j,hs' with
  |0,hs'=>cases hs';exact .v _ asb |1,hs'=>cases hs';exact .i _ _ |2,hs'=>cases hs';exact awy |3,hs'=>cases hs';exact .v _ rfl |4,hs'=>cases hs';exact .v _ rfl |j+5,hs'=>simp at hs'
end
end Go.Ad
namespace Go.Sx
def pS(x y:SV):Prop:=∀(H:Mem) (E:Env) (v:Value),Den H E x v->Den H E y v
def pL:List SV->List SV->Prop
 |[],[]=>True |x::l,y::m=>pS x y/\pL l m |_,_=>False
def pB:SB->SB->Prop
 | .box l e,.box m f=>e=f/\pL l m |a,b=>a=b
def pH:List (Nat×SB)->List (Nat×SB)->Prop
 |[],[]=>True |(i,a)::l,(j,b)::m=>i=j/\pB a b/\pH l m |_,_=>False
def akD:List Fr->List Fr->Prop
 |[],[]=>True |f::s,f'::s'=>f.g=f'.g/\f.td=f'.td/\pL f.tm f'.tm/\akD s s' |_,_=>False
structure pC(c c':Core):Prop where
 tm:pL c.tm c'.tm
 hp:pH c.hp c'.hp
 nx:c.nx=c'.nx
 lim:c.lim=c'.lim
 tc:c.tc=c'.tc
theorem pS.any{x:SV}:pS x .any:=fun _ _ _ _=>trivial
theorem ZQ{H:Mem}{E:Env}:∀{l m:List SV} {vs:List Value},pL l m->Af H E l vs->Af H E m vs
 |[],[],[],_,_=>trivial |_::_,_::_,_::_,⟨h1,h2⟩,⟨d1,d2⟩=>⟨h1 _ _ _ d1,ZQ h2 d2⟩ |[],_::_,_,h,_=>h.elim |_::_,[],_,h,_=>h.elim |_::_,_::_,[],_,hd=>hd.elim |[],[],_::_,_,hd=>hd.elim
theorem pS.sl{st n:Nat}{g g':Nat->List Sh}(h:∀j,j<n->g j=g' j):pS (.sh (.sl st n g)) (.sh (.sl st n g')):=fun H E v hd=>by
 have hd:Rep H (.sl st n g) v:=hd;show Rep H (.sl st n g') v;cases hd with
 |sl0 _ _ A cap hc=>exact .sl0 _ _ _ _ hc |sl _ _ _ b off cap c h1 h2 h3 h4 h5 h6=>exact .sl _ _ _ b off cap c h1 h2 (fun i hi=>by rw[<-h i hi];exact h3 i hi) h4 h5 fun i j s hi e=>h6 i j s hi (by rw[h i hi];exact e)
theorem pL.set{x y:SV}(h:pS x y):∀{l m:List SV} (i:Nat),pL l m->pL (l.set i x) (m.set i y)
 |[],[],_,_=>trivial |_::_,_::_,0,⟨_,h2⟩=>⟨h,h2⟩ |_::_,_::_,i+1,⟨h1,h2⟩=>⟨h1,pL.set h i h2⟩ |[],_::_,_,h=>h.elim |_::_,[],_,h=>h.elim
section
variable{P:Program}{C:Ctx}{K:Kx}{H H':Mem}{E E':Env}{w w':World}
theorem ajj{id:Nat}{a b:SB}(h:pB a b)(he:Gg K H E w id a):Gg K H E w id b/\AL E id a=AL E id b:=by
 cases a with
 |box l e=>
  cases b with
  |box m f=>
   obtain ⟨rfl,h⟩:=h;obtain ⟨b,cs,h1,h2,h3,h4⟩:=he;exact ⟨⟨b,cs,h1,h2,ZQ h h3,h4⟩,rfl⟩
  |_=>simp[pB] at h
 |_=>
  simp only[pB] at h;subst h;exact ⟨he,rfl⟩
theorem ZR:∀{l m:List (Nat×SB)} {i:Nat} {b:SB},pH l m->zX m i=ay b->∃a,zX l i=ay a/\pB a b
 |[],[],_,_,_,h=>by simp[zX] at h |(i,a)::l,(j,b)::m,k,sb,⟨h1,h2,h3⟩,h=>by
  subst h1;simp only[zX] at h ⊢;cases hk:(i==k)<;>simp only[hk,cond_true,cond_false] at h ⊢
  ·exact ZR h3 h
  ·cases h;exact ⟨_,rfl,h2⟩
 |[],_::_,_,_,h,_=>h.elim |_::_,[],_,_,h,_=>h.elim
theorem St.ae6{c c':Core}{a:Act}(st:St C K H E w c a)(h:pC c c'):St C K H E w c' a:=by
 refine ⟨ZQ h.tm st.den,⟨fun id sb hl=>?_,fun id id' sb sb' b l1 l2 o1 o2=>?_⟩,st.BI,fun i h1 h2=>st.free i (by rw[h.nx];exact h1) (by rw[h.lim];exact h2),st.gl,st.defers⟩
 ·obtain ⟨x,h1,h2⟩:=ZR h.hp hl
  exact (ajj h2 (st.hp.ent _ _ h1)).1
 ·obtain ⟨x,h1,h2⟩:=ZR h.hp l1
  obtain ⟨y,h3,h4⟩:=ZR h.hp l2;exact st.hp.FQ _ _ _ _ _ h1 h3 (by rw[(ajj h2 (st.hp.ent _ _ h1)).2];exact o1) (by rw[(ajj h4 (st.hp.ent _ _ h3)).2];exact o2)
theorem FV.ae6:∀{s s':List Fr} {ms:List Frame},FV C H E s ms->akD s s'->FV C H E s' ms
 |[],[],[],_,_=>trivial |f::s,f'::s',m::ms,⟨⟨fn,a,items,h1,h2,h3,h4,h5⟩,h6⟩,⟨e1,e2,e3,e4⟩=>
  ⟨⟨fn,a,items,by rw[<-e1];exact h1,ZQ e3 h2,h3,by rw[<-e2];exact h4,by rw[<-e1];exact h5⟩,FV.ae6 h6 e4⟩
 |[],[],_::_,h,_=>h.elim |_::_,_,[],h,_=>h.elim |[],_::_,_,_,h=>h.elim |_::_,[],_::_,_,h=>h.elim
theorem akE{g:Nat}:∀{s s':List Fr} {g:Nat},akD s s'->QC g s'=QC g s
 |[],[],_,_=>rfl |f::s,f'::s',_,⟨e1,_,_,e4⟩=>by simp only[QC];rw[e1];exact akE (g:=0) e4 |[],_::_,_,h=>h.elim |_::_,[],_,h=>h.elim
theorem WW{g:Nat}{td:List It}{c c':Core}{stk Jy:List Fr}{R:Hp->Prop}{φ:Sh->Prop}(hle:pC c c')(hs:akD stk Jy)(h:Bc P C K g td c' Jy R φ):Bc P C K g td c stk R φ:=by
 intro H E w a items ms cs fn hfn st hi hst hx;have:=h H E w a items ms cs fn hfn (st.ae6 hle) hi (hst.ae6 hs) hx;rw[akE (g:=0) hs] at this;exact this
end
end Go.Sx
namespace Go.BF
open Go Go.Sx
theorem GY{α:Type}[Row α](o:Nat->α):zY (zW o)=o:=funext fun i=>Nb o i
def takeN(p:Nat->Ev):Au->Nat->Nat->Au ⊕ (Nat×Nat)
 |σ,_,0=>.inl σ |σ,k,r+1=>match (σ.feed (p k)).1 with
  |none=>takeN p (σ.feed (p k)).2 (k+1) r |some e=>.inr (k,e)
def SA(m:Nat)(p:Nat->Ev):Au ⊕ (Nat×Nat):=takeN p Au.nil 0 m
def takeB(m:Nat)(p:Nat->Ev):Bool:=match SA m p with| .inl _=>aC| .inr _=>ak
def Kq(m:Nat)(p:Nat->Ev):Au:=match SA m p with| .inl σ=>σ| .inr _=>Au.nil
def Va(m:Nat)(p:Nat->Ev):Int:=match SA m p with| .inl _=>0| .inr (k,_)=>k
def Vb(m:Nat)(p:Nat->Ev):Nat:=match SA m p with| .inl _=>0| .inr (_,e)=>e
def resT:Au ⊕ (Nat×Nat)->Sh
 | .inl σ=>.Aj [.os 115 7 σ.rs.length (Go.Ad.U8 Fj dfn (GL σ)),.v .nilIface] | .inr (k,e)=>.Aj [.sl 0 0 fun _=>[],.CG 109 (.pt [.i .i64 (k:Int),.er e 329])]
structure ae7(n m:Nat)(o:Nat->Oj)(p:Nat->Ev):Prop where
 small:n<=8/\m<=400
 valid:∀k,k<m->BO (p k)=aC
 obj:∀k,k<m->(p k).kind=2->0<=(p k).obj/\(p k).obj<n/\Dy (p k).op=(o (p k).obj.toNat).kind
theorem Vd{f:Nat->Option Nat}:∀{r k:Nat},I7 f k r=aK->∀j,k<=j->j<k+r->f j=aK
 |0,k,_,j,h1,h2=>by omega |r+1,k,h,j,h1,h2=>by
  simp only[I7] at h;cases hf:f k with
  |some e=>rw[hf] at h;cases h |none=>
   rw[hf] at h;by_cases q:j=k
   ·subst q;exact hf
   ·exact Vd h j (by omega) (by omega)
theorem abV{n m:Nat}{o:Nat->Oj}{p:Nat->Ev}(h1:Iq n m=ak)(h2:(WR n m o p).isNone=aC)(h3:∀k,k<m->CQ (p k).ret=aC):ae7 n m o p:=by
 unfold Iq at h1;have h1:¬(8<n\/400<m):=by simpa using h1
 have key:∀k,k<m->J8 n o (p k)=aK:=fun k hk=>by
  unfold WR at h2;cases hs:I7 (fun k=>Qr (o k)) 0 n with
  |some x=>rw[hs] at h2;cases h2 |none=>
   rw[hs] at h2;exact Vd (Option.isNone_iff_eq_none.1 h2) k (by omega) (by omega)
 have parts:∀k,k<m->Ou (p k)=aC/\fieldsB (p k)=aC/\((p k).kind=2->(p k).obj<n/\Dy (p k).op=(o (p k).obj.toNat).kind):=fun k hk=>by
  have h:=key k hk;unfold J8 at h;cases c1:Ou (p k)<;>simp only[c1,cond_true,cond_false] at h
  ·cases h
  cases c2:fieldsB (p k)<;>simp only[c2,cond_true,cond_false] at h
  ·cases h
  refine ⟨rfl,rfl,fun hk2=>?_⟩;simp only[hk2,beq_self_eq_true,cond_true] at h;cases c3:decide ((n:Int)<=(p k).obj)<;>simp only[c3,cond_true,cond_false] at h
  ·have c3:=of_decide_eq_false c3
   cases c4:(Dy (p k).op==(o (p k).obj.toNat).kind)<;>simp only[c4,cond_true,cond_false] at h
   ·cases h
   ·exact ⟨by omega,by simpa using c4⟩
  ·cases h
 exact ⟨by omega,fun k hk=>by
  obtain ⟨a,b,_⟩:=parts k hk;simp[BO,a,b,h3 k hk],fun k hk hk2=>by
  obtain ⟨a,b,c⟩:=parts k hk;exact ⟨Y8 b hk2,c hk2⟩⟩
end Go.BF
namespace Go.Ad
open Go Go.Sx Go.BF
theorem arC:∀g F,abU g=ay F->Aq aB (Fv W5) g F:=fun g F h=>by
 unfold abU at h;split at h
 ·cases h;exact awk
 ·cases h
theorem abW:A8 aB (CT zV W5):=by
 have h:=C5.ok abU Am;exact ⟨h.1,h.2,h.3,h.4,h.5,h.6,zU⟩
theorem CTf:Bz aB (CT zV W5):=by
 have h:=C5.UK (stop:=Am) arC fun g h=>by
  unfold abU at h;split at h;all_goals first|(cases h;done) |kernel_rfl
 exact ⟨h.1,h.2,h.3,h.4⟩
theorem WX{n b:Nat}(h:n<=100000)(hb:b<=1000):zV.room n b=aC:=by
 rw[Et,decide_eq_true_eq];have h1:n*b<=100000*1000:=Nat.mul_le_mul h hb;refine ⟨by omega,?_⟩;unfold maxLen;omega
theorem apR{H0:Mem}{w0:World}{N:Nat}{rs:Nat->Rc}{φ:Sh->Prop}(hN:N<=1000)(hD:∀k,k<N->Fj (rs k)<=1000)(hφ:φ (.Aj [.os 115 7 N (U8 Fj dfn rs),.v .nilIface])):
  ∀rm k,k+rm=N->Bc aB (CT zV W5) (K0 H0 w0) 44 tdT (adR Fj dfn N rs (N:Int) k k (U8 Fj dfn rs)) frX emp φ
 |rm,k,hk=>by
  refine Gq (fn:=yG) (tb:=tbT) (by kernel_rfl) (by kernel_rfl) ?_;refine agi abW CTf (hold:=DI) (m:=300) (n:=400) (ts:=[⟨44,tdT,adR Fj dfn N rs (N:Int) (k+1:Nat) (k+1) (U8 Fj dfn rs),frX⟩]) ?_;rw[f32 zV W5 Fj dfn N rs (N:Int) k (k+1:Nat) k (k+1) (U8 Fj dfn rs) (U8 Fj dfn rs)];simp only[Aa,Dw,Ar,Bj,CJ,Df,Di,GU,Tree.All,Jw,Int.toNat_natCast,gJ];refine ⟨fun h=>?_,fun h=>?_⟩
  ·have hlt:k<N:=by simp at h;omega
   have hd:=hD k hlt;have hw:aT.wrap ((k:Int)+1)=((k+1:Nat):Int):=by rw[BL (by omega) (by omega)];rfl
   have hle:decide (ah 0<=ah (Fj (rs k)))=aC:=by simp
   have hr1:zV.room (Fj (rs k)) 64=aC:=WX (by omega) (by omega);have hr2:zV.room (k+1) 72=aC:=WX (by omega) (by omega);have eqD:zV.snoc (fun _=>[]) 0 (dfn (rs k))=dfn (rs k):=by
    funext i;rw[Ed];simp
   match rm,hk with
   |0,hk=>omega |rm+1,hk=>
    refine ⟨by simp;omega,hle,hr1,hr1,hle,hr1,hr1,?_,hle,hr1,hr1,?_,hr2,⟨rfl,rfl,hw,rfl,fun i hi=>?_,trivial⟩,_,rfl,apR hN hD hφ rm (k+1) (by omega)⟩
    ·repeat' (first|exact trivial|refine bW rfl ?_)
    ·repeat' (first|exact trivial|refine bW rfl ?_)
    ·rw[Ed,eqD]
     by_cases q:i<k
     ·rw[if_pos q]
     ·rw[if_neg q]
      have:i=k:=by omega
      subst this;rw[Nat.sub_self];rfl
  ·have:k=N:=by simp at h;omega
   subst this;exact hφ
theorem auG{H0:Mem}{w0:World}{n:Nat}{o:Nat->Oj}{σ:Au}{b:Nat}{φ:Sh->Prop}(hI:σ.OK)(hm:σ.many<=400)(hφ:φ (resT (.inl σ))):
  Bc aB (CT zV W5) (K0 H0 w0) 20 adQ (LX (.val (.pointer (ay ⟨b,0,aK⟩)))) [] (Ko n o σ b) φ:=by
 have hlen:=hI.len;refine agd (X:=Lay) (u:=.pointer (ay ⟨b,0,aK⟩)) (y:=fun L=>auX Fj dfn L.v0 σ.many σ.rs.length (GL σ) L.b1 L.b2) (fun H E h w hR _ hat=>alV hR hat) (i:=14) rfl fun L=>?_
 show Bc aB (CT zV W5) (K0 H0 w0) 20 adQ (LX (auX Fj dfn L.v0 σ.many σ.rs.length (GL σ) L.b1 L.b2)) [] emp φ;refine G9 abW CTf (hold:=DI) (m:=300) (n:=400) (ts:=[⟨44,tdT,adR Fj dfn σ.rs.length (GL σ) (σ.rs.length:Int) (0:Nat) 0 (U8 Fj dfn (GL σ)),frX⟩]) ?_;rw[e32 zV W5 Fj dfn L.v0 σ.many σ.rs.length (GL σ) L.b1 L.b2 (σ.rs.length:Int) (0:Nat) 0 (U8 Fj dfn (GL σ))];refine ⟨by simp[Dw,Ar],WX (by simp[CJ,Ar];omega) (by omega),⟨rfl,rfl,rfl,rfl,fun i hi=>by omega,trivial⟩,_,rfl,apR (by omega) (fun k hk=>?_) hφ _ 0 (gJ _)⟩;have:=hI.dl k _ (U9 hk);show (GL σ k).Ac.length<=1000;omega
theorem arD{H:Mem}{E:Env}{e:Ev}{v:Value}(h:Den H E (.agg [.sym .i64 e.kind,.sym .i64 e.tx,.sym .i64 e.thread,.sym .i64 e.obj,.sym .i64 e.op,.sym .i64 e.key,.sym .i64 e.val,.sym .i64 e.ret]) v):v=Yi e:=by
 obtain ⟨⟨vs⟩,rfl,hd⟩:=h;match vs,hd with
 |[a,b,c,d,e,f,g,h],⟨h1,h2,h3,h4,h5,h6,h7,h8,_⟩=>
  cases h1;cases h2;cases h3;cases h4;cases h5;cases h6;cases h7;cases h8;rfl
theorem akF{H0:Mem}{w0:World}{n m:Nat}{o:Nat->Oj}{p:Nat->Ev}{b:Nat}{φ:Sh->Prop}(hg:ae7 n m o p):
  ∀rm k σ,k+rm=m->σ.OK->σ.many=k->φ (resT (takeN p σ k rm))->Bc aB (CT zV W5) (K0 H0 w0) 43 WV (LT m p b (m:Int) k) QH (Ko n o σ b) φ
 |rm,k,σ,hk,hI,auH,hφ=>by
  have hs:=hg.small;refine Gq (fn:=oL) (tb:=asa) (by kernel_rfl) (by kernel_rfl) ?_;refine G9 abW CTf (hold:=Yj) (m:=300) (n:=400) (ts:=[⟨43,tdP,LP m p b (m:Int) k (p k) .any,QH⟩,⟨20,adQ,LX (.val (.pointer (ay ⟨b,0,aK⟩))),[]⟩]) ?_;rw[b32 zV W5 m p b (m:Int) k k];refine ⟨fun h=>?_,fun h=>?_⟩
  ·have hlt:k<m:=by simp[Aa] at h;omega
   match rm,hk,hφ with
   |0,hk,_=>omega |rm+1,hk,hφ=>
    refine ⟨by simp[Bj];omega,⟨rfl,rfl,rfl,rfl,rfl,rfl,rfl,rfl,rfl,rfl,rfl,rfl,rfl,rfl,trivial⟩,_,rfl,?_⟩;refine agb (fn:=oL) (g2:=79) (args:=[.val (.pointer (ay ⟨b,0,aK⟩)),.agg [.sym .i64 (p k).kind,.sym .i64 (p k).tx,.sym .i64 (p k).thread,.sym .i64 (p k).obj,.sym .i64 (p k).op,.sym .i64 (p k).key,.sym .i64 (p k).val,.sym .i64 (p k).ret]]) (dst:=ay 34) (FU:=tdQ) (by kernel_rfl) (by kernel_rfl) (CTf.en 79 (.inr (by kernel_rfl))) ⟨rfl,by kernel_rfl,by kernel_rfl⟩
     (auF (fun H E v=>arD) hI (by omega) (hg.valid k hlt) (hg.obj k hlt)) ?_
    show Bc aB (CT zV W5) (K0 H0 w0) 43 tdQ (LP m p b (m:Int) k (p k) (svE (σ.feed (p k)).1)) QH (Ko n o (σ.feed (p k)).2 b) φ;cases hx:(σ.feed (p k)).1 with
    |none=>
     refine G9 abW CTf (hold:=Yj) (m:=300) (n:=400) (ts:=[⟨43,WV,LT m p b (m:Int) (k+1:Nat),QH⟩]) ?_;have e:=c32 zV W5 m p b (m:Int) k (k+1:Nat) (p k);rw[show svE aK=fQ from rfl,e];refine ⟨⟨rfl,rfl,rfl,?_,trivial⟩,_,rfl,akF hg rm (k+1) _ (by omega) (hI.feed (hg.valid k hlt)) (by rw[U7 hx,auH]) (by simpa only[takeN,hx] using hφ)⟩;show zV.add .i64 (k:Int) (ah 1)=((k+1:Nat):Int);rw[Df,GU,BL (by omega) (by omega)];rfl
    |some e=>
     refine G9 abW CTf (hold:=Yj) (m:=300) (n:=400) (ts:=[]) ?_;rw[show svE (ay e)=dL (.er e 329) from rfl,d32 zV W5 m p b (m:Int) k (p k) e];have hφ':φ (resT (.inr (k,e))):=by simpa only[takeN,hx] using hφ
     exact hφ'
  ·have:k=m:=by simp[Aa] at h;omega
   have:rm=0:=by omega
   subst this;exact ⟨⟨rfl,trivial⟩,_,rfl,auG hI (by omega) hφ⟩
def ajK:Sh:=.sl 0 0 fun _=>[]
def F32:List Sh->Tree Sh
 |[.agg [.sl 2 n g,.sl 8 m h]]=>.need (okB Oj n g) (.need (okB Ev m h) (.need (Qs m h) (.node (Iq n m) (.leaf (.Aj [.sl 0 0 fun _=>[],.er 6 329])) (.node (F5 n m g h)
   (.node (takeB m (zY h)) (.leaf (.Aj [.os 115 7 (Kq m (zY h)).rs.length (U8 Fj dfn (GL (Kq m (zY h)))),.v .nilIface])) (.leaf (.Aj [.sl 0 0 fun _=>[],.CG 109 (.pt [.i .i64 (Va m (zY h)),.er (Vb m (zY h)) 329])])))
   (.leaf (.Aj [.sl 0 0 fun _=>[],.CG 109 (.pt [.i .i64 (JG n m g h),.er (Np n m g h) 329])]))))))
 |_=>.fail
theorem O32:Aq aB (Fv W5) 20 F32:=by
 refine KA (C:=CT zV W5) abW (fn:=oM) (by kernel_rfl) (by kernel_rfl) fun H w AX args φ hrep h=>?_
 have hn:oM.ntmps=16:=by kernel_rfl
 unfold F32 at h;split at h
 ·rename_i n g m h'
  obtain ⟨h1,h2,h3,h4,h5⟩:=h;match args,hrep with
  |[v],⟨hv,_⟩=>
   rw[hn];refine ⟨[.agg [.sl 2 n (zW (zY (α:=Oj) g)),.sl 8 m (zW (zY (α:=Ev) h'))]],⟨Si hv h1 h2,trivial⟩,L0,?_⟩;refine agh abW CTf (hold:=akC) (m:=300) (n:=400) ?_;rw[a32 zV W5 n m (zY g) (zY h'),aaS];have hret:∀k,k<m->CQ (zY (α:=Ev) h' k).ret=aC:=fun k hk=>dK.1 h3 k (dN.2 hk);have hb0:Iq n m=ak->Iq n 0=ak:=fun q=>by
    unfold Iq at q ⊢;have q:¬(8<n\/400<m):=by simpa using q
    exact decide_eq_false (by omega)
   have hgd:F5 n m (zW (zY (α:=Oj) g)) (zW (zY (α:=Ev) h'))=F5 n m g h':=by
    unfold F5;rw[GY,GY]
   refine ⟨D5 _ _,D5 _ _,dK.2 fun k hk=>?_,fun q=>h4 q,fun q=>⟨fun q2=>?_,fun q2=>?_⟩⟩
   ·rw[GY];exact hret k (dN.1 hk)
   ·have q3:F5 n m g h'=aC:=hgd ▸ q2
    obtain ⟨hT,hF⟩:=(h5 q).1 q3;have G:=abV q q3 hret;have hs:=G.small;have fin:∀b,Bc aB (CT zV W5) (K0 H w) 43 WV (LT m (zY h') b (m:Int) (0:Nat)) QH (Ko n (zY g) Au.nil b) φ:=fun b=>by
     refine akF G m 0 Au.nil (by omega) Au.OK.nil rfl ?_;show φ (resT (SA m (zY h')));unfold takeB at hT hF;unfold Kq at hT;unfold Va Vb at hF;cases hx:SA m (zY (α:=Ev) h') with
     |inl σ=>rw[hx] at hT;exact hT rfl |inr x=>rw[hx] at hF;exact hF rfl
    have own:∀nx tc,Bc aB (CT zV W5) (K0 H w) 43 WV ⟨[jW [dL (aG 2 n (zW (zY (α:=Oj) g))),dL (aG 8 m (zW (zY (α:=Ev) h')))],jX 1 0,rQ,fQ,fQ,jX 6 0,fQ]++rep [.any] 6++[.bool ak]++rep [.any] 8++[.bool ak,.any,.any,dL (aG 8 m (zW (zY (α:=Ev) h'))),.sym .i64 (zV.Az m),.int .i64 (ah 0)]++rep [.any] 16,
      [(0,jY [dL (aG 2 n (zW (zY (α:=Oj) g))),dL (aG 8 m (zW (zY (α:=Ev) h')))] 25),(1,jY [dL (aG 2 n (zW (zY (α:=Oj) g))),dL (aG 8 m (zW (zY (α:=Ev) h')))] 25),(3,rP 140 2 (zV.addN 0 n) (zV.snoc (AQ []) 0 (zW (zY (α:=Oj) g)))),(4,mV .i64 (fun _=>aK) [] [] aK),(5,mV .i64 (fun _=>aK) [] [] aK),(6,jY [SV.gs 3,oK .i64 (ah 0),kD,o7 4,o7 5] 181)],nx,L0,tc⟩
      [{g:=20,td:=[nP [0,1] [1,2,3,4,5,6],bF [1,1]],tm:=[jW [dL (aG 2 n (zW (zY (α:=Oj) g))),dL (aG 8 m (zW (zY (α:=Ev) h')))],jX 0 0,kD,fQ,.any,.any,.any,jW [dL (aG 2 n (zW (zY (α:=Oj) g))),dL (aG 8 m (zW (zY (α:=Ev) h')))]]++rep [.any] 8}] emp φ:=fun nx tc=>by
     refine YR (R':=Ko n (zY g) Au.nil) (i0:=6) (fun i=>fV i 3) (fun H E w h hon hh hd=>apP (n:=n) (n':=zV.addN 0 n) (o:=zY g) (o':=zV.snoc (AQ []) 0 (zW (zY (α:=Oj) g))) (fun i hi=>by rw[Ed];simp) (gJ n) rfl hh hd) fun b=>?_
     refine WW (c':=LT m (zY h') b (m:Int) (0:Nat)) (Jy:=QH) ⟨?_,trivial,rfl,rfl,rfl⟩ ⟨rfl,rfl,?_,trivial⟩ (fin b)
     ·repeat' (first|exact trivial|refine bW pS.any ?_|refine bW (fun _ _ _ h=>h) ?_)
     ·repeat' (first|exact trivial|refine bW pS.any ?_|refine bW (fun _ _ _ h=>h) ?_)
    have nil:n=0->∀nx tc,Bc aB (CT zV W5) (K0 H w) 43 WV ⟨[jW [dL (aG 2 n (zW (zY (α:=Oj) g))),dL (aG 8 m (zW (zY (α:=Ev) h')))],jX 1 0,rQ,fQ,fQ,jX 4 0,fQ]++rep [.any] 6++[.bool ak]++rep [.any] 8++[.bool ak,.any,.any,dL (aG 8 m (zW (zY (α:=Ev) h'))),.sym .i64 (zV.Az m),.int .i64 (ah 0)]++rep [.any] 16,
      [(0,jY [dL (aG 2 n (zW (zY (α:=Oj) g))),dL (aG 8 m (zW (zY (α:=Ev) h')))] 25),(1,jY [dL (aG 2 n (zW (zY (α:=Oj) g))),dL (aG 8 m (zW (zY (α:=Ev) h')))] 25),(2,mV .i64 (fun _=>aK) [] [] aK),(3,mV .i64 (fun _=>aK) [] [] aK),(4,jY [kD,oK .i64 (ah 0),kD,o7 2,o7 3] 181)],nx,L0,tc⟩
      [{g:=20,td:=[nP [0,1] [1,2,3,4,5,6],bF [1,1]],tm:=[jW [dL (aG 2 n (zW (zY (α:=Oj) g))),dL (aG 8 m (zW (zY (α:=Ev) h')))],jX 0 0,kD,fQ,.any,.any,.any,jW [dL (aG 2 n (zW (zY (α:=Oj) g))),dL (aG 8 m (zW (zY (α:=Ev) h')))]]++rep [.any] 8}] emp φ:=fun hz nx tc=>by
     refine YR (R':=Ko n (zY g) Au.nil) (i0:=4) (fun i=>fV i 2) (fun H E w h hon hh hd=>apQ (n:=n) (o:=zY g) hz rfl hh hd) fun b=>?_
     refine WW (c':=LT m (zY h') b (m:Int) (0:Nat)) (Jy:=QH) ⟨?_,trivial,rfl,rfl,rfl⟩ ⟨rfl,rfl,?_,trivial⟩ (fin b)
     ·repeat' (first|exact trivial|refine bW pS.any ?_|refine bW (fun _ _ _ h=>h) ?_)
     ·repeat' (first|exact trivial|refine bW pS.any ?_|refine bW (fun _ _ _ h=>h) ?_)
    have hrm:zV.room (zV.addN 0 n) 16=aC:=by rw[Di,gJ];exact WX (by omega) (by omega)
    refine ⟨D5 _ _,rfl,rfl,fun q4=>?_,fun _=>⟨fun _=>⟨fun q5=>⟨nil (by simpa[XO] using q5) _ _,hrm,own _ _⟩,fun _=>⟨hrm,own _ _⟩⟩,fun q5=>?_⟩⟩
    ·rw[hb0 q] at q4;cases q4
    ·exfalso
     unfold F5 WR at q3 q5;rw[GY] at q5;cases hx:I7 (fun k=>Qr (zY (α:=Oj) g k)) 0 n with
     |some x=>rw[hx] at q3;cases q3 |none=>rw[hx] at q5;cases q5
   ·have q3:F5 n m g h'=ak:=hgd ▸ q2
    have:=(h5 q).2 q3;unfold JG Np at this ⊢;rw[GY,GY];exact this
 ·exact h.elim
end Go.Ad
namespace Go.Pl
open Go Go.Sx Go.Proofs Go.Gm Go.Bf
open Go.BF (Au Fj dfn GL takeB Kq Va Vb Iq F5 JG Np Qs)
open Go.Ad (U8)
noncomputable def Bv(n:Nat)(g:Nat->List Sh)(m:Nat)(h:Nat->List Sh):UZ where
 okb:=!Iq n m&&(F5 n m g h&&takeB m (dO h))
 Ih:=!Iq n m
 pos:=if F5 n m g h=aC then Va m (dO h) else JG n m g h
 e:=if Iq n m=aC then 6 else if F5 n m g h=aC then Vb m (dO h) else Np n m g h
 n:=(Kq m (dO h)).rs.length
 T:=zY (U8 Fj dfn (GL (Kq m (dO h))))
structure Yk(n:Nat)(g:Nat->List Sh)(m:Nat)(h:Nat->List Sh):Prop where
 o:qG Go.BF.Oj n g=aC
 p:qG Go.BF.Ev m h=aC
 r:Qs m h=aC
 k:Qd n (zY g)=aC
def hsS(n:Nat)(g:Nat->List Sh)(m:Nat)(h:Nat->List Sh):Sh:=.agg [.sl 2 n g,.sl 8 m h]
noncomputable def Bl(lv:Int)(o:Nat)(og:Nat->List Sh)(B:UZ):Ho where
 okb:=B.okb&&decide (B.n<=12)
 Ih:=!B.okb&&B.Ih
 pos:=B.pos
 e:=if B.okb=aC then 1 else B.e
 lv:=lv
 N:=(Hq lv B.n B.T).length
 T:=nth (Hq lv B.n B.T)
 ms:=mkI lv (Hq lv B.n B.T)
 k0:=o
 g0:=Hr og
theorem akG(rs:Nat->Go.BF.Rc):∀n,okB D8 n (U8 Fj dfn rs)=aC
 |0=>rfl |n+1=>by
  show (okB D8 n (U8 Fj dfn rs)&&_)=aC;rw[akG rs n];rfl
end Go.Pl
namespace Go.Proofs
open Go Go.Sx Go.Pl Go.Gm Go.Bf
open Go.BF (Au Fj dfn GL takeB Kq Va Vb Iq F5 JG Np Qs)
open Go.Ad (U8)
theorem Yd{n:Nat}{g:Nat->List Sh}{m:Nat}{h:Nat->List Sh}(P:Yk n g m h):Aq aB (AY W7) 20 (D20 (hsS n g m h) (Bv n g m h)):=by
 refine aoi Go.Ad.O32 fun AX φ hφ=>?_
 unfold D20 at hφ;split at hφ
 ·rename_i s
  obtain ⟨h1,h2,h3⟩:=hφ;have hs:s=hsS n g m h:=@of_decide_eq_true _ (bD _) h1;subst hs;have sl:∀{k:Nat} {f f':Nat->List Sh},(∀j,j<k->f j=f' j)->Wk (.sl 7 k f) (.sl 7 k f'):=fun hf=>.inr ⟨rfl,rfl,hf⟩;have n0:Wk (.sl 0 0 fun _=>[]) (.sl 0 0 fun _=>[]):=.inl ⟨rfl,rfl⟩;cases hb:Iq n m with
  |true=>
   have e1:(Bv n g m h).okb=ak:=by unfold Bv;simp[hb]
   have e2:(Bv n g m h).Ih=ak:=by unfold Bv;simp[hb]
   have e3:(Bv n g m h).e=6:=by unfold Bv;simp[hb]
   have q:=(h3 e1).2 e2;rw[e3] at q;exact ⟨_,q,P.o,P.p,P.r,fun _=>⟨n0,rfl,trivial⟩,fun x=>by rw[hb] at x;cases x⟩
  |false=>
   have e2:(Bv n g m h).Ih=aC:=by unfold Bv;simp[hb]
   cases hg:F5 n m g h with
   |true=>
    cases ht:takeB m (dO h) with
    |true=>
     have e1:(Bv n g m h).okb=aC:=by unfold Bv;simp[hb,hg,ht]
     exact ⟨_,h2 e1,P.o,P.p,P.r,fun x=>(by rw[hb] at x;cases x),fun _=>⟨fun _=>⟨fun _=>⟨.inr ⟨rfl,rfl,fun j hj=>IU (akG _ _) j hj⟩,rfl,trivial⟩,fun x=>(by rw[ht] at x;cases x)⟩,fun x=>(by rw[hg] at x;cases x)⟩⟩
    |false=>
     have e1:(Bv n g m h).okb=ak:=by unfold Bv;simp[hb,hg,ht]
     have e3:(Bv n g m h).e=Vb m (dO h):=by unfold Bv;simp[hb,hg]
     have e4:(Bv n g m h).pos=Va m (dO h):=by unfold Bv;simp[hg]
     have q:=(h3 e1).1 e2;rw[e3,e4] at q;exact ⟨_,q,P.o,P.p,P.r,fun x=>(by rw[hb] at x;cases x),fun _=>⟨fun _=>⟨fun x=>(by rw[ht] at x;cases x),fun _=>⟨n0,rfl,trivial⟩⟩,fun x=>(by rw[hg] at x;cases x)⟩⟩
   |false=>
    have e1:(Bv n g m h).okb=ak:=by unfold Bv;simp[hb,hg]
    have e3:(Bv n g m h).e=Np n m g h:=by unfold Bv;simp[hb,hg]
    have e4:(Bv n g m h).pos=JG n m g h:=by unfold Bv;simp[hg]
    have q:=(h3 e1).1 e2;rw[e3,e4] at q;exact ⟨_,q,P.o,P.p,P.r,fun x=>(by rw[hb] at x;cases x),fun _=>⟨fun x=>(by rw[hg] at x;cases x),fun _=>⟨n0,rfl,trivial⟩⟩⟩
 ·exact hφ.elim
theorem EZ{n:Nat}{g:Nat->List Sh}{m:Nat}{h:Nat->List Sh}{B:UZ}{lv:Int}(O:Aq aB (AY W7) 20 (D20 (hsS n g m h) B))(h1:1<=lv)(h3:lv<=3)(hw:B.okb=aC->nwB n g=aC):
  Aq aB (AY W7) 40 (WJ (hsS n g m h) lv (Bl lv n g B)):=by
 refine FM (C:=C7 zV W7 (Qp (hsS n g m h) B) Am) (C7.ok _ _) (fn:=yV) (by kernel_rfl) (by kernel_rfl) fun H w AX args φ hrep hφ=>?_
 have hn:yV.ntmps=71:=by kernel_rfl
 unfold WJ at hφ;split at hφ
 ·rename_i s t
  split at hφ
  ·rename_i l e1
   obtain ⟨q1,q2,q3⟩:=hφ;obtain ⟨rfl,rfl⟩:s=hsS n g m h/\l=lv:=@of_decide_eq_true _ (bD _) q1;match args,hrep with
   |[v,u],⟨rv,ru,_⟩=>
    refine ⟨[hsS n g m h,.i .i64 l],⟨rv,Ei e1 ru,trivial⟩,L0,?_⟩;refine ED (C7.ok _ _) (aeZ O _) (hold:=Bg) (m:=300) (n:=400) (ts:=[⟨40,Y4,Y5 n m g h l B.n B.T 0 (nth []) ((0:Nat):Int),[]⟩]) ?_;rw[hn];refine ai4 zV W7 B l n m g h (nth []) ((0:Nat):Int) rfl rfl rfl (@decide_eq_true _ (bD _) rfl) (fun c0 c1=>?_) (fun c0 c1=>?_) (fun c0 c2=>?_) (fun c0 c2=>?_)
    ·have hbig:¬B.n<=12:=by simp[Aa,Ar] at c1;omega
     have e:(Bl l n g B).okb=ak:=by unfold Bl;simp[hbig]
     have e2:(Bl l n g B).Ih=ak:=by unfold Bl;simp[c0]
     have e3:(Bl l n g B).e=1:=by unfold Bl;simp[c0]
     have q:=(q3 e).2 e2;rw[e3] at q;exact BH (s':=.Aj [.v (.pointer aK),.er 1 329]) ⟨rfl,rfl,trivial⟩ q
    ·have hsm:B.n<=12:=by simp[Aa,Ar] at c1;omega
     have e:(Bl l n g B).okb=aC:=by unfold Bl;simp[c0,hsm]
     have q:=q2 e;exact ⟨⟨rfl,rfl,rfl,rfl,rfl,rfl,rfl,rfl,rfl,trivial⟩,_,rfl,ae0 O h1 h3 hsm (hw c0) q B.n 0 [] (by omega) (by simp) (by rw[List.nil_append,ahc])⟩
    ·have e:(Bl l n g B).okb=ak:=by unfold Bl;simp[c0]
     have e2:(Bl l n g B).Ih=aC:=by unfold Bl;simp[c0,c2]
     have e3:(Bl l n g B).e=B.e:=by unfold Bl;simp[c0]
     have q:=(q3 e).1 e2;rw[e3] at q;exact BH (s':=.Aj [.v (.pointer aK),.CG 109 (.pt [.i .i64 B.pos,.er B.e 329])]) ⟨rfl,rfl,trivial⟩ q
    ·have e:(Bl l n g B).okb=ak:=by unfold Bl;simp[c0]
     have e2:(Bl l n g B).Ih=ak:=by unfold Bl;simp[c0,c2]
     have e3:(Bl l n g B).e=B.e:=by unfold Bl;simp[c0]
     have q:=(q3 e).2 e2;rw[e3] at q;exact BH (s':=.Aj [.v (.pointer aK),.er B.e 329]) ⟨rfl,rfl,trivial⟩ q
  ·exact hφ.elim
 ·exact hφ.elim
end Go.Proofs
namespace Go.Pl
open Go Go.Sx
def Nq(s t:Cj):Bool:=decide (s=t)
open Go Go.Sx Go.Proofs
structure Rf where
 kind:Int
 num:Int
 keys:List Int
 vals:List Int
 deriving DecidableEq,Inhabited
def rfS(s:Rf):List Sh:=[.i .i64 s.kind,.i .i64 s.num,.sl 1 (len s.keys) (zW (nth s.keys)),.sl 1 (len s.vals) (zW (nth s.vals))]
def awz(o:Nat->Oj)(j:Nat):Rf:=⟨(o j).kind,(o j).init,[],[]⟩
def Nr(l:List Int)(key:Int):Nat:=(l.takeWhile fun p=>decide (p<key)).length
def hasK(l:List Int)(key:Int):Bool:=decide (Nr l key<l.length)&&(nth l (Nr l key)==key)
def Zd(kind num op k v:Int):Int:=
 if kind=0\/Lm op≠kind then 111
 else if (keyed op=ak/\k≠0)\/k<0\/1000<k\/(valued op=ak/\v≠0)\/v < -1000000000\/1000000000<v then 110
 else if op=3/\(JL num v < -1000000000000000\/1000000000000000<JL num v) then 110
 else 0
def ajl(s:Rf)(op k v:Int):Rf×Int×Int:=
 if op=1\/op=4 then (s,3,s.num)
 else if op=2 then ({s with num:=v},1,0)
 else if op=3 then ({s with num:=JL s.num v},1,0)
 else if op=5 then ({s with vals:=s.vals++[v]},1,0)
 else if op=6 then ({s with vals:=s.vals.tail},TT s.vals.length,s.vals.headD 0)
 else if op=7 then (if hasK s.keys k=aC then {s with vals:=s.vals.set (Nr s.keys k) v} else {s with keys:=s.keys.take (Nr s.keys k)++k::s.keys.drop (Nr s.keys k),vals:=s.vals.take (Nr s.keys k)++v::s.vals.drop (Nr s.keys k)},1,0)
 else if op=8 then (s,if hasK s.keys k=aC then 3 else 2,if hasK s.keys k=aC then nth s.vals (Nr s.keys k) else 0)
 else if op=9 then (if hasK s.keys k=aC then {s with keys:=s.keys.take (Nr s.keys k)++s.keys.drop (Nr s.keys k+1),vals:=s.vals.take (Nr s.keys k)++s.vals.drop (Nr s.keys k+1)} else s,if hasK s.keys k=aC then 3 else 2,if hasK s.keys k=aC then nth s.vals (Nr s.keys k) else 0)
 else (s,0,0)
def opS(r:Rf)(op k v:Int):Rf:=(ajl r op k v).1
def Qw(k:Int):List UInt8:=qX 16 (k - 1).toNat
def qU(r:List Int)(j:Nat):List UInt8:=(aX j).flatMap fun i=>32::AU (nth r i)
def pU(l r:List Int)(j:Nat):List UInt8:=(aX j).flatMap fun i=>32::(AU (nth l i)++58::AU (nth r i))
def Pg(s:Rf):List UInt8:=if s.kind=0 then [] else Qw s.kind++(if s.kind<=2 then 32::AU s.num else if s.kind=3 then qU s.vals s.vals.length else pU s.keys s.vals s.vals.length)
noncomputable def rowB(l:List Sh):Bool:=@decide (∃r:Rf,l=rfS r) (bD _)
def Oy(d:Nat->Rf):Nat->List UInt8
 |0=>[] |k+1=>Oy d k++((if k=0 then [] else [59,32])++Pg (d k))
def Uc(n:Nat)(d:Nat->Cj):List UInt8:=ady ((aX n).map d)
def CV(n:Nat)(d:Nat->Cj)(m:Nat)(f:Nat->Rf):Bool:=(Uc n d==Oy f m)&&((n:Int)==(m:Int))
def toR(s:Cj):Rf:=⟨s.kind,s.num,s.ps.map (·.key),s.q++s.ps.map (·.val)⟩
theorem TA(ps:List Pr)(k:Int):Nr (ps.map (·.key)) k=BM ps k:=by
 unfold Nr BM;rw[List.takeWhile_map,dY];rfl
theorem arg_eq(x y op k v:Int):Zd x y op k v=if Gt x op=aC then 111 else if Ig x y op k v=aC then 110 else 0:=by
 by_cases h1:x=0\/Lm op≠x
 ·have:Gt x op=aC:=by
   unfold Gt;rcases h1 with h1|h1<;>simp[h1]
  rw[if_pos this];unfold Zd;rw[if_pos h1]
 ·have hx:x≠0/\Lm op=x:=⟨fun e=>h1 (.inl e),nD fun e=>h1 (.inr e)⟩
  have:¬Gt x op=aC:=by
   unfold Gt;simp[hx.1,hx.2]
  rw[if_neg this];unfold Zd;rw[if_neg h1];have h3:op=3->x=2:=fun e=>by rw[<-hx.2,e];decide
  have e1:(Ig x y op k v=aC)↔((keyed op=ak/\k≠0)\/k<0\/1000<k\/(valued op=ak/\v≠0)\/v < -1000000000\/1000000000<v)\/(op=3/\(JL y v < -1000000000000000\/1000000000000000<JL y v)):=by
   unfold Ig IK;by_cases h:op=3
   ·have:=h3 h
    subst this;cases keyed op<;>cases valued op<;>simp[h]<;>omega
   ·cases keyed op<;>cases valued op<;>simp[h]<;>omega
  by_cases a:(keyed op=ak/\k≠0)\/k<0\/1000<k\/(valued op=ak/\v≠0)\/v < -1000000000\/1000000000<v
  ·rw[if_pos a,if_pos (e1.2 (.inl a))]
  ·rw[if_neg a]
   by_cases b:op=3/\(JL y v < -1000000000000000\/1000000000000000<JL y v)
   ·rw[if_pos b,if_pos (e1.2 (.inr b))]
   ·rw[if_neg b,if_neg fun e=>(e1.1 e).elim a b]
theorem abX(ps:List Pr){i:Nat}(h:i<ps.length):nth (ps.map (·.key)) i=(nth ps i).key:=by simp[nth,h]
theorem apS(ps:List Pr){i:Nat}(h:i<ps.length):nth (ps.map (·.val)) i=(nth ps i).val:=by simp[nth,h]
theorem ahp:∀{ps:List Pr} {k:Int},(ps.Pairwise fun a b=>a.key<b.key)->(D9 ps k=aC↔BM ps k<ps.length/\(nth ps (BM ps k)).key=k)
 |[],k,_=>by simp[D9,BM] |a::ps,k,h=>by
  rw[sZ] at h;have ih:=ahp (ps:=ps) (k:=k) h.2;by_cases hk:a.key<k
  ·have e:BM (a::ps) k=BM ps k+1:=by simp[BM,jq,hk]
   have e2:D9 (a::ps) k=D9 ps k:=by
    have:(a.key==k)=ak:=by simp;omega
    simp[D9,this]
   rw[e,e2,ih];simp[nth]
  ·have e:BM (a::ps) k=0:=by simp[BM,jq,hk]
   rw[e];constructor
   ·intro q
    refine ⟨by simp,?_⟩;show a.key=k;simp only[D9,List.any_cons,mZ,beq_iff_eq,o9] at q;rcases q with q|⟨b,hb,q⟩
    ·exact q
    ·have:=h.1 b hb
     omega
   ·intro ⟨_,q⟩
    have q:a.key=k:=q;simp[D9,q]
theorem adS{ps:List Pr}{k:Int}(h:ps.Pairwise fun a b=>a.key<b.key):hasK (ps.map (·.key)) k=D9 ps k:=by
 have e:hasK (ps.map (·.key)) k=aC↔D9 ps k=aC:=by
  rw[ahp h];unfold hasK;rw[TA,aH,decide_eq_true_eq,dY,beq_iff_eq];constructor
  ·intro ⟨q1,q2⟩
   exact ⟨q1,by rw[<-abX ps q1];exact q2⟩
  ·intro ⟨q1,q2⟩
   exact ⟨q1,by rw[abX ps q1];exact q2⟩
 cases h1:hasK (ps.map (·.key)) k<;>cases h2:D9 ps k<;>simp_all
theorem abY{ps:List Pr}:Qg ps=aC↔(ps.Pairwise fun a b=>a.key<b.key)/\∀p∈ps,0<=p.key/\p.key<=1000:=by
 unfold Qg;rw[aH,decide_eq_true_eq,dK];simp
theorem ahq{ps:List Pr}{k v:Int}(hs:ps.Pairwise fun a b=>a.key<b.key)(h:D9 ps k=aC):(EP ps k v).map (·.key)=ps.map (·.key):=by
 obtain ⟨h1,h2⟩:=OW hs h;rw[aeN h,yH];show (ps.map (·.key)).set _ k=_;have:(ps.map (·.key))[BM ps k]'(by simpa using h1)=k:=by simpa using h2
 have e:(ps.map (·.key)).set (BM ps k) ((ps.map (·.key))[BM ps k]'(by simpa using h1))=ps.map (·.key):=List.set_getElem_self _;rw[this] at e;exact e
theorem apT{ps:List Pr}{k v:Int}(h:Qg ps=aC)(hk:0<=k/\k<=1000):Qg (EP ps k v)=aC:=by
 rw[abY] at h ⊢;obtain ⟨hs,hb⟩:=h;cases hh:D9 ps k with
 |true=>
  have e:=ahq (v:=v) hs hh;refine ⟨?_,fun p hp=>?_⟩
  ·have:(ps.map (·.key)).Pairwise (·<·):=uy.2 hs
   rw[<-e] at this;exact uy.1 this
  ·have:p.key∈(EP ps k v).map (·.key):=dJ.2 ⟨p,hp,rfl⟩
   rw[e] at this;obtain ⟨q,hq,e2⟩:=dJ.1 this;rw[<-e2];exact hb q hq
 |false=>
  rw[aeM hh];have hl:=agM ps k;have hg:=agN (key:=k) hs;have hn:∀p∈ps,p.key≠k:=fun p hp e=>by
   have:D9 ps k=aC:=o9.2 ⟨p,hp,by simp[e]⟩;rw[hh] at this;cases this
  have ht:∀p∈ps.take (BM ps k),p.key<k:=fun p hp=>by
   obtain ⟨j,hj,e⟩:=List.mem_take_iff_getElem.1 hp;rw[<-e];exact hl j (by omega) (by omega)
  have hd:∀p∈ps.drop (BM ps k),k<p.key:=fun p hp=>by
   obtain ⟨j,hj,e⟩:=List.mem_drop_iff_getElem.1 hp;have h1:=hg (BM ps k+j) (by omega) (by omega);have h2:=hn p (jo hp);rw[e] at h1;omega
  refine ⟨List.pairwise_append.2 ⟨hs.sublist (List.take_sublist _ _),sZ.2 ⟨fun p hp=>hd p hp,hs.sublist (uz _ _)⟩,fun a ha b hb=>?_⟩,fun p hp=>?_⟩
  ·rcases gY.1 hb with rfl|hb
   ·exact ht a ha
   ·have:=ht a ha
    have:=hd b hb;omega
  ·rcases bK.1 hp with hp|hp
   ·exact hb p (mF hp)
   ·rcases gY.1 hp with rfl|hp
    ·exact hk
    ·exact hb p (jo hp)
theorem apU{ps:List Pr}{k:Int}(h:Qg ps=aC):Qg (FN ps k)=aC:=by
 cases hh:D9 ps k with
 |false=>rw[aeO hh];exact h |true=>
  rw[aeP hh];rw[abY] at h ⊢;have sub:(ps.take (BM ps k)++ps.drop (BM ps k+1)).Sublist ps:=by
   conv=>rhs;rw[<-List.take_append_drop (BM ps k) ps]
   refine vK (vM _) ?_;rw[<-List.drop_drop];exact uz _ _
  exact ⟨h.1.sublist sub,fun p hp=>h.2 p (sub.subset hp)⟩
structure Ji(m:Nat)(s:Cj):Prop where
 kind:1<=s.kind/\s.kind<=4
 q0:s.kind≠3->s.q=[]
 p0:s.kind≠4->s.ps=[]
 wf:Qg s.ps=aC
 num:-1000000000000000<=s.num/\s.num<=1000000000000000
 qv:∀x∈s.q,-1000000000<=x/\x<=1000000000
 pv:∀p∈s.ps,-1000000000<=p.val/\p.val<=1000000000
 ql:s.q.length<=m
 pl:s.ps.length<=m
 n0:2<s.kind->s.num=0
theorem akH{x y op k v:Int}(h:Zd x y op k v=0):(x≠0/\Lm op=x)/\(0<=k/\k<=1000)/\(-1000000000<=v/\v<=1000000000)/\(op=3->-1000000000000000<=JL y v/\JL y v<=1000000000000000):=by
 unfold Zd at h;split at h
 ·omega
 ·rename_i h1
  split at h
  ·omega
  ·rename_i h2
   split at h
   ·omega
   ·rename_i h3
    refine ⟨⟨fun e=>h1 (.inl e),nD fun e=>h1 (.inr e)⟩,?_,?_,fun e=>?_⟩
    ·constructor
     ·exact lT.1 fun e=>h2 (.inr (.inl e))
     ·exact lT.1 fun e=>h2 (.inr (.inr (.inl e)))
    ·constructor
     ·exact lT.1 fun e=>h2 (.inr (.inr (.inr (.inr (.inl e)))))
     ·exact lT.1 fun e=>h2 (.inr (.inr (.inr (.inr (.inr e)))))
    ·constructor
     ·exact lT.1 fun e2=>h3 ⟨e,.inl e2⟩
     ·exact lT.1 fun e2=>h3 ⟨e,.inr e2⟩
theorem alW{x y op k v:Int}(h:Zd x y op k v=0):op=1\/op=2\/op=3\/op=4\/op=5\/op=6\/op=7\/op=8\/op=9:=by
 obtain ⟨⟨q1,q2⟩,_⟩:=akH h;unfold Lm at q2;split at q2
 ·omega
 ·split at q2
  ·omega
  ·split at q2
   ·omega
   ·split at q2
    ·omega
    ·omega
theorem alX{m:Nat}{s:Cj}{op k v:Int}(h:Ji m s)(ha:Zd s.kind s.num op k v=0):opS (toR s) op k v=toR (Ey s op k v).1/\Ji (m+1) (Ey s op k v).1:=by
 obtain ⟨⟨k0,hk⟩,⟨b1,b2⟩,bv,bs⟩:=akH ha;have hop:=alW ha;have h':Ji (m+1) s:={h with ql:=uY h.ql,pl:=uY h.pl}
 obtain ⟨kind,num,q,ps⟩:=s;rcases hop with rfl|rfl|rfl|rfl|rfl|rfl|rfl|rfl|rfl
 ·exact ⟨rfl,h'⟩
 ·exact ⟨rfl,{h' with num:=⟨by show _<=v;omega,by show v<=_;omega⟩,n0:=fun e=>by have hk:(1:Int)=kind:=hk;have e:2<kind:=e;omega}⟩
 ·exact ⟨rfl,{h' with num:=bs rfl,n0:=fun e=>by have hk:(2:Int)=kind:=hk;have e:2<kind:=e;omega}⟩
 ·exact ⟨rfl,h'⟩
 ·have hk:(3:Int)=kind:=hk
  subst hk;have hp:ps=[]:=h.p0 (show (3:Int)≠4 by decide);subst hp;refine ⟨by simp[opS,ajl,Ey,toR],{h' with q0:=fun e=>absurd rfl e,qv:=fun x hx=>?_,ql:=?_}⟩
  ·have hx:x∈q++[v]:=hx
   rcases bK.1 hx with hx|hx
   ·exact h.qv x hx
   ·simp at hx;subst hx;exact bv
  ·show (q++[v]).length<=m+1
   have:=h.ql;simp at this ⊢;exact this
 ·have hk:(3:Int)=kind:=hk
  subst hk;have hp:ps=[]:=h.p0 (show (3:Int)≠4 by decide);subst hp;refine ⟨by simp[opS,ajl,Ey,toR],{h' with q0:=fun e=>absurd rfl e,qv:=fun x hx=>h.qv x (List.mem_of_mem_tail hx),ql:=?_}⟩
  show q.tail.length<=m+1;have:=h.ql;simp at this ⊢;omega
 ·have hk:(4:Int)=kind:=hk
  subst hk;have hq:q=[]:=h.q0 (show (4:Int)≠3 by decide);subst hq;have hs:=GK h.wf;refine ⟨?_,{h' with p0:=fun e=>absurd rfl e,wf:=apT h.wf ⟨b1,b2⟩,pv:=fun p hp=>?_,pl:=?_}⟩
  ·show (if hasK (ps.map (·.key)) k=aC then (_:Rf) else _)=⟨4,num,(EP ps k v).map (·.key),[]++(EP ps k v).map (·.val)⟩
   rw[adS hs];cases hh:D9 ps k with
   |true=>
    rw[if_pos rfl,ahq hs hh,aeN hh];simp[toR,TA,yH]
   |false=>
    rw[if_neg (by simp),aeM hh];simp[toR,TA,xk,xq]
  ·have hp:p∈EP ps k v:=hp
   unfold EP at hp;split at hp
   ·rcases List.mem_or_eq_of_mem_set hp with hp|rfl
    ·exact h.pv p hp
    ·exact bv
   ·rcases bK.1 hp with hp|hp
    ·exact h.pv p (mF hp)
    ·rcases gY.1 hp with rfl|hp
     ·exact bv
     ·exact h.pv p (jo hp)
  ·show (EP ps k v).length<=m+1
   have:=h.pl;have:ps.length<=m:=this;rw[abf];split<;>omega
 ·exact ⟨rfl,h'⟩
 ·have hk:(4:Int)=kind:=hk
  subst hk;have hq:q=[]:=h.q0 (show (4:Int)≠3 by decide);subst hq;have hs:=GK h.wf;refine ⟨?_,{h' with p0:=fun e=>absurd rfl e,wf:=apU h.wf,pv:=fun p hp=>?_,pl:=?_}⟩
  ·show (if hasK (ps.map (·.key)) k=aC then (_:Rf) else _)=⟨4,num,(FN ps k).map (·.key),[]++(FN ps k).map (·.val)⟩
   rw[adS hs];cases hh:D9 ps k with
   |true=>
    rw[if_pos rfl,aeP hh];simp[toR,TA,xk,xq]
   |false=>
    rw[if_neg (by simp),aeO hh];rfl
  ·have hp:p∈FN ps k:=hp
   unfold FN at hp;split at hp
   ·rcases bK.1 hp with hp|hp
    ·exact h.pv p (mF hp)
    ·exact h.pv p (jo hp)
   ·exact h.pv p hp
  ·show (FN ps k).length<=m+1
   have:ps.length<=m:=h.pl;rw[agO (show Qg ps=aC from h.wf)];split<;>omega
theorem Ze{α:Type}[Row α](l:List α)(F:α->List UInt8):(aX l.length).flatMap (fun i=>F (nth l i))=l.flatMap F:=by
 have:=aa2 l;conv=>rhs;rw[<-this]
 rw[ou]
theorem ajm(q:List Int):qU q q.length=q.flatMap fun x=>32::AU x:=Ze q fun x=>32::AU x
theorem ajn(ps:List Pr):pU (ps.map (·.key)) (ps.map (·.val)) ps.length=ps.flatMap fun p=>32::(AU p.key++58::AU p.val):=by
 rw[<-Ze ps fun p=>32::(AU p.key++58::AU p.val)];unfold pU;rw[lU,lU];congr 1;refine jM fun i hi=>?_
 have hi:=dN.1 hi;rw[abX ps hi,apS ps hi]
theorem abZ(l:List (List UInt8)):ku [32] l=l.flatMap fun x=>32::x:=by
 unfold ku;rw[lU];rfl
theorem key_eq{m:Nat}{s:Cj}(h:Ji m s):keyS s=Pg (toR s):=by
 obtain ⟨kind,num,q,ps⟩:=s;have hk:1<=kind/\kind<=4:=h.kind;unfold keyS JA Dj;rw[lg,abZ];have:kind=1\/kind=2\/kind=3\/kind=4:=by omega
 rcases this with rfl|rfl|rfl|rfl
 ·simp[Pg,toR];rfl
 ·simp[Pg,toR];rfl
 ·have hp:ps=[]:=h.p0 (show (3:Int)≠4 by decide)
  subst hp;have:=ajm q;simp[Pg,toR,this,ou];rfl
 ·have hq:q=[]:=h.q0 (show (4:Int)≠3 by decide)
  subst hq;have:=ajn ps;simp[Pg,toR,this,ou];rfl
theorem ajo(l:List (List UInt8))(x sep:List UInt8):Dj (l++[x]) sep=Dj l sep++((if l=[] then [] else sep)++x):=by
 unfold Dj;cases l with
 |nil=>simp[Go.Lib.join_one,Go.Lib.join_nil] |cons a l=>
  rw[uZ,lg,lg];simp[ku]
theorem keys_eq{m:Nat}{d:Nat->Cj}:∀n,(∀j,j<n->Ji m (d j))->Uc n d=Oy (fun j=>toR (d j)) n
 |0,_=>rfl |n+1,h=>by
  have ih:=keys_eq n fun j hj=>h j (by omega);unfold Uc ady at ih ⊢;rw[pY,iL,iL,tq,tq,ajo,ih,Oy,key_eq (h n (by omega))];congr 2;cases n with
  |zero=>rfl |succ n=>simp[pY]
theorem apV{m:Nat}{s:Cj}(hm:m<=100000)(h:Ji m s):WG s=aC:=by
 obtain ⟨⟨k1,k2⟩,_,_,wf,⟨n1,n2⟩,qv,pv,ql,pl,_⟩:=h;have wf:=abY.1 wf;unfold WG;simp only[aH,dK,decide_eq_true_eq];refine ⟨⟨⟨⟨decide_eq_true ⟨by omega,by omega⟩,decide_eq_true ⟨by omega,by omega⟩⟩,fun x hx=>?_⟩,fun p hp=>⟨?_,?_⟩⟩,by omega,by omega⟩
 ·have:=qv x hx;exact decide_eq_true ⟨by omega,by omega⟩
 ·have:=wf.2 p hp;exact decide_eq_true ⟨by omega,by omega⟩
 ·have:=pv p hp;exact decide_eq_true ⟨by omega,by omega⟩
theorem alY{m n:Nat}{d:Nat->Cj}{i op:Int}(hm:m<=50000)(h:∀j,j<n->Ji m (d j)):abk n d i op=aC:=by
 unfold abk;cases hi:Jz n i with
 |false=>rfl |true=>
  have hi:0<=i/\i<n:=of_decide_eq_true hi;obtain ⟨_,_,_,wf,_,_,_,ql,pl,_⟩:=h i.toNat (by omega);show (_&&_)=aC;rw[aH];refine ⟨mP (show (d i.toNat).q.length+1<=_ by omega) (by omega),?_⟩;unfold J6;rw[mZ,aH];refine .inr ⟨Hg.2 ⟨D5 _ _,show (d i.toNat).ps.length<=_ by omega,?_⟩,mP (show (d i.toNat).ps.length+1<=_ by omega) (by omega)⟩;rw[show lst Pr (len (d i.toNat).ps) (zW (nth (d i.toNat).ps))=(d i.toNat).ps from KI _];exact wf
theorem apW{o:Nat->Oj}{j:Nat}(h:EM (o j).kind (o j).init=ak):Ji 0 (newT o j)/\toR (newT o j)=awz o j:=by
 unfold EM at h;simp only[Bool.or_eq_false_iff,Bool.not_eq_false',aH,decide_eq_true_eq,decide_eq_false_iff_not] at h;exact ⟨⟨h.1.1.1,fun _=>rfl,fun _=>rfl,(show Qg []=aC from rfl),⟨(by show _<=(o j).init;omega),(by show (o j).init<=_;omega)⟩,(fun x hx=>(vg hx).elim),(fun p hp=>(vg hp).elim),dh _,dh _,(fun e=>by have e:2<(o j).kind:=e;show (o j).init=0;have:=h.2;simp at this;omega)⟩,rfl⟩
open Go.Lib (decDigits itoa)
def asc(l:List UInt8):Nat:=l.foldl (fun a c=>a*10+(c.toNat - 48)) 0
theorem ahr{d:Nat}(h:d<10):(jZ (48+d)).toNat=48+d:=by
 rw[UInt8.toNat_ofNat'];omega
theorem Ph(u:Nat):asc (decDigits u)=u/\(∀c∈decDigits u,48<=c.toNat/\c.toNat<=57)/\decDigits u≠[]:=by
 induction u using Nat.strongRecOn with
 |ind u ih=>
  rw[decDigits];by_cases h:u<10
  ·rw[dif_pos h]
   have:=ahr h;refine ⟨?_,fun c hc=>?_,by simp⟩
   ·show 0*10+((jZ (48+u)).toNat - 48)=u
    rw[this];omega
   ·obtain rfl:c=jZ (48+u):=by simpa using hc
    rw[this];omega
  ·rw[dif_neg h]
   obtain ⟨q1,q2,q3⟩:=ih (u / 10) (by omega);have:=ahr (d:=u % 10) (by omega);refine ⟨?_,fun c hc=>?_,by simp⟩
   ·unfold asc at q1 ⊢
    rw[List.foldl_append,q1];show u / 10*10+((jZ (48+u % 10)).toNat - 48)=u;rw[this];omega
   ·rcases bK.1 hc with hc|hc
    ·exact q2 c hc
    ·obtain rfl:c=jZ (48+u % 10):=by simpa using hc
     rw[this];omega
theorem ahs{a b:Nat}(h:decDigits a=decDigits b):a=b:=by
 have h1:=(Ph a).1;rw[h,(Ph b).1] at h1;exact h1.symm
theorem aht{n:Int}{c:UInt8}(h:c∈AU n):c.toNat=45\/(48<=c.toNat/\c.toNat<=57):=by
 unfold AU itoa at h;split at h
 ·rcases gY.1 h with rfl|h
  ·exact .inl rfl
  ·exact .inr ((Ph _).2.1 c h)
 ·exact .inr ((Ph _).2.1 c h)
theorem Pj{a b:Int}(h:AU a=AU b):a=b:=by
 have head (u v:Nat) (h:45::decDigits u=decDigits v):False:=by
  have:(45:UInt8)∈decDigits v:=by rw[<-h];simp
  have:=(Ph v).2.1 _ this;simp at this
 unfold AU itoa at h;split at h
 ·split at h
  ·injection h with _ h
   have:=ahs h;omega
  ·exact (head _ _ h).elim
 ·split at h
  ·exact (head _ _ h.symm).elim
  ·have:=ahs h
   omega
theorem akI{z:UInt8}{a r:List UInt8}(ha:z ∉ a)(hr:r=[]\/∃t,r=z::t):(a++r).takeWhile (fun c=>!(c==z))=a:=by
 rw[List.takeWhile_append_of_pos fun c hc=>by
  have:c≠z:=fun e=>ha (e ▸ hc);simp[this]]
 rcases hr with rfl|⟨t,rfl⟩
 ·simp
 ·simp
theorem ab1{z:UInt8}{a b r r':List UInt8}(ha:z ∉ a)(hb:z ∉ b)(hr:r=[]\/∃t,r=z::t)(hr':r'=[]\/∃t,r'=z::t)(h:a++r=b++r'):a=b/\r=r':=by
 have h1:=akI ha hr;rw[h,akI hb hr'] at h1;subst h1;exact ⟨rfl,iU h⟩
theorem ab2{α:Type}{z:UInt8}{f:α->List UInt8}:∀l:List α,(l.flatMap fun x=>z::f x)=[]\/∃t,(l.flatMap fun x=>z::f x)=z::t
 |[]=>.inl rfl |a::l=>.inr ⟨_,rfl⟩
theorem Yl{α:Type}{z:UInt8}{f:α->List UInt8}(hz:∀x,z ∉ f x)(hf:∀x y,f x=f y->x=y):∀l l':List α,(l.flatMap fun x=>z::f x)=(l'.flatMap fun x=>z::f x)->l=l'
 |[],[],_=>rfl |[],_::_,h=>by cases h |_::_,[],h=>by cases h |a::l,b::l',h=>by
  simp only[List.flatMap_cons,uZ] at h;injection h with _ h
  obtain ⟨h1,h2⟩:=ab1 (hz a) (hz b) (ab2 l) (ab2 l') h;rw[hf a b h1,Yl hz hf l l' h2]
theorem Pm{n:Int}{z:UInt8}(h:z.toNat=32\/z.toNat=58\/z.toNat=59):z ∉ AU n:=fun hc=>by
 have:=aht hc;omega
theorem alZ{a b c d:Int}(h:AU a++58::AU b=AU c++58::AU d):a=c/\b=d:=by
 obtain ⟨h1,h2⟩:=ab1 (z:=58) (Pm (by decide)) (Pm (by decide)) (.inr ⟨_,rfl⟩) (.inr ⟨_,rfl⟩) h;injection h2 with _ h2
 exact ⟨Pj h1,Pj h2⟩
theorem al0{m m':Nat}{s t:Cj}(hs:Ji m s)(ht:Ji m' t)(hk:s.kind=t.kind)(hn:s.kind<=2\/s.num=t.num)(h:Pg (toR s)=Pg (toR t)):s=t:=by
 obtain ⟨kind,num,q,ps⟩:=s;obtain ⟨kind',num',q',ps'⟩:=t;have hk:kind=kind':=hk;subst hk;have hkk:1<=kind/\kind<=4:=hs.kind;have hn:kind<=2\/num=num':=hn;have:kind=1\/kind=2\/kind=3\/kind=4:=by omega
 rcases this with rfl|rfl|rfl|rfl
 ·have e1:q=[]:=hs.q0 (show (1:Int)≠3 by decide)
  have e2:q'=[]:=ht.q0 (show (1:Int)≠3 by decide);have e3:ps=[]:=hs.p0 (show (1:Int)≠4 by decide);have e4:ps'=[]:=ht.p0 (show (1:Int)≠4 by decide);subst e1 e2 e3 e4;have h:Qw 1++(32::AU num)=Qw 1++(32::AU num'):=h;have h:=iU h;injection h with _ h
  rw[Pj h]
 ·have e1:q=[]:=hs.q0 (show (2:Int)≠3 by decide)
  have e2:q'=[]:=ht.q0 (show (2:Int)≠3 by decide);have e3:ps=[]:=hs.p0 (show (2:Int)≠4 by decide);have e4:ps'=[]:=ht.p0 (show (2:Int)≠4 by decide);subst e1 e2 e3 e4;have h:Qw 2++(32::AU num)=Qw 2++(32::AU num'):=h;have h:=iU h;injection h with _ h
  rw[Pj h]
 ·have e3:ps=[]:=hs.p0 (show (3:Int)≠4 by decide)
  have e4:ps'=[]:=ht.p0 (show (3:Int)≠4 by decide);subst e3 e4;have hn:num=num':=hn.resolve_left (show ¬(3:Int)<=2 by decide);subst hn;have h:Qw 3++qU (q++[]) (q++[]).length=Qw 3++qU (q'++[]) (q'++[]).length:=h;have h:=iU h;rw[eY,eY,ajm,ajm] at h;rw[Yl (fun x=>Pm (.inl rfl)) (fun x y e=>Pj e) q q' h]
 ·have e1:q=[]:=hs.q0 (show (4:Int)≠3 by decide)
  have e2:q'=[]:=ht.q0 (show (4:Int)≠3 by decide);subst e1 e2;have hn:num=num':=hn.resolve_left (show ¬(4:Int)<=2 by decide);subst hn;have h:Qw 4++pU (ps.map (·.key)) (ps.map (·.val)) (ps.map (·.val)).length=Qw 4++pU (ps'.map (·.key)) (ps'.map (·.val)) (ps'.map (·.val)).length:=h;have h:=iU h;rw[dY,dY,ajn,ajn] at h;have:=Yl (f:=fun p:Pr=>AU p.key++58::AU p.val) (fun x hx=>by
   rcases bK.1 hx with hx|hx
   ·exact Pm (.inl rfl) hx
   ·rcases gY.1 hx with hx|hx
    ·cases hx
    ·exact Pm (.inl rfl) hx) (fun x y e=>by
   obtain ⟨a,b⟩:=x;obtain ⟨c,d⟩:=y;obtain ⟨e1,e2⟩:=alZ e;have e1:a=c:=e1;have e2:b=d:=e2;rw[e1,e2]) ps ps' h
  rw[this]
theorem al1{a b x y:List UInt8}(hx:59 ∉ x)(hy:59 ∉ y)(h:a++59::32::x=b++59::32::y):a=b/\x=y:=by
 have h:=congrArg List.reverse h;simp only[List.reverse_append,List.reverse_cons,List.append_assoc,List.singleton_append] at h;have h:(x.reverse++[32])++59::a.reverse=(y.reverse++[32])++59::b.reverse:=by simpa using h
 obtain ⟨h1,h2⟩:=ab1 (z:=59) (by simpa using hx) (by simpa using hy) (.inr ⟨_,rfl⟩) (.inr ⟨_,rfl⟩) h;injection h2 with _ h2
 have h1:=List.append_cancel_right h1;exact ⟨vk.1 h2,vk.1 h1⟩
theorem apX{m:Nat}{s:Cj}(hs:Ji m s):59 ∉ Pg (toR s):=by
 rw[<-key_eq hs];obtain ⟨kind,num,q,ps⟩:=s;have hkk:1<=kind/\kind<=4:=hs.kind;have hw:59 ∉ Ew kind:=by
  have:kind=1\/kind=2\/kind=3\/kind=4:=by omega
  rcases this with rfl|rfl|rfl|rfl<;>decide
 unfold keyS JA Dj;rw[lg,abZ];intro hc;rcases bK.1 hc with hc|hc
 ·exact hw hc
 ·obtain ⟨x,hx,hc⟩:=kK.1 hc
  have hc:(59:UInt8)∈x:=by
   rcases gY.1 hc with hc|hc
   ·cases hc
   ·exact hc
  have no (n:Int):(59:UInt8) ∉ AU n:=Pm (.inr (.inr rfl));split at hx
  ·obtain rfl:x=AU num:=by simpa using hx
   exact no _ hc
  ·split at hx
   ·obtain ⟨n,_,rfl⟩:=dJ.1 hx
    exact no _ hc
   ·split at hx
    ·obtain ⟨p,_,rfl⟩:=dJ.1 hx
     rcases bK.1 hc with hc|hc
     ·rcases bK.1 hc with hc|hc
      ·exact no _ hc
      ·simp at hc
     ·exact no _ hc
    ·cases hx
theorem adT{m m':Nat}{d e:Nat->Cj}:∀n,(∀j,j<n->Ji m (d j))->(∀j,j<n->Ji m' (e j))->Oy (fun j=>toR (d j)) n=Oy (fun j=>toR (e j)) n->∀j,j<n->Pg (toR (d j))=Pg (toR (e j))
 |0,_,_,_,j,hj=>by omega |n+1,hd,he,h,j,hj=>by
  rw[Oy,Oy] at h;have key:Oy (fun j=>toR (d j)) n=Oy (fun j=>toR (e j)) n/\Pg (toR (d n))=Pg (toR (e n)):=by
   by_cases hn:n=0
   ·subst hn
    rw[if_pos rfl] at h;exact ⟨rfl,h⟩
   ·rw[if_neg hn] at h
    exact al1 (apX (hd n (by omega))) (apX (he n (by omega))) h
  by_cases e1:j=n
  ·subst e1;exact key.2
  ·exact adT n (fun j hj=>hd j (by omega)) (fun j hj=>he j (by omega)) key.1 j (by omega)
theorem ahu{m m' n:Nat}{d e:Nat->Cj}(hd:∀j,j<n->Ji m (d j))(he:∀j,j<n->Ji m' (e j))(hk:∀j,j<n->(d j).kind=(e j).kind)(h:Uc n d=Uc n e):∀j,j<n->d j=e j:=fun j hj=>by
 rw[keys_eq n hd,keys_eq n he] at h;have:=adT n hd he h j hj;refine al0 (hd j hj) (he j hj) (hk j hj) ?_ this;by_cases q:(d j).kind<=2
 ·exact .inl q
 ·exact .inr (by rw[(hd j hj).n0 (by omega),(he j hj).n0 (by rw[<-hk j hj];omega)])
open Go Go.Sx Go.Proofs Go.Gm Go.Bf
structure Ld(n:Nat)(g0:SG)(m:Nat)(g:SG)(d:Nat->Cj):Prop where
 row:∀j,j<n->g j=CY (d j)
 inv:∀j,j<n->Ji m (d j)
 kind:∀j,j<n->∀s,g0 j=CY s->(d j).kind=s.kind
 out:∀j,n<=j->g j=g0 j
section
variable{n m:Nat}{g0 g:SG}{d:Nat->Cj}
theorem Ji.up{m m':Nat}{s:Cj}(h:Ji m s)(hm:m<=m'):Ji m' s:={h with ql:=iH h.ql hm,pl:=iH h.pl hm}
theorem Ld.up{m':Nat}(h:Ld n g0 m g d)(hm:m<=m'):Ld n g0 m' g d:={h with inv:=fun j hj=>(h.inv j hj).up hm}
theorem Ld.eqF(h:Ld n g0 m g d):∀j,j<n->Ee n g j=d j:=akd h.row
theorem Ld.isB(h:Ld n g0 m g d):stB n g=aC:=akc h.row
theorem ahv{i op k v:Int}(h:Yb n d i op k v=aC):Jz n i=aC/\Zd (d i.toNat).kind (d i.toNat).num op k v=0:=by
 unfold Yb at h;rw[aH,aH] at h;refine ⟨h.1.1,?_⟩;rw[arg_eq];have h1:=h.1.2;have h2:=h.2;rw[Bool.not_eq_true'] at h1 h2;rw[h1,h2];rfl
theorem ab3{d d':Nat->Cj}(h:∀j,j<n->d j=d' j)(i op k v:Int):Yb n d i op k v=Yb n d' i op k v:=by
 unfold Yb;cases hi:Jz n i with
 |false=>rfl |true=>
  have hi:0<=i/\i<n:=of_decide_eq_true hi;rw[h i.toNat (by omega)]
theorem ahw{d d':Nat->Cj}(h:∀j,j<n->d j=d' j)(i op:Int):abk n d i op=abk n d' i op:=by
 unfold abk;cases hi:Jz n i with
 |false=>rfl |true=>
  have hi:0<=i/\i<n:=of_decide_eq_true hi;rw[h i.toNat (by omega)]
theorem Ld.next(h:Ld n g0 m g d){i op k v:Int}(hok:TL n g i op k v=aC):
  ∃d',Ld n g0 (m+1) (abl n g i op k v) d':=by
 unfold TL at hok;rw[ab3 h.eqF] at hok;obtain ⟨hi,ha⟩:=ahv hok;have hi':0<=i/\i<n:=of_decide_eq_true hi;have hst:Ee n g i.toNat=d i.toNat:=h.eqF _ (by omega);refine ⟨fun j=>if j=i.toNat then (Ey (d i.toNat) op k v).1 else d j,fun j hj=>?_,fun j hj=>?_,fun j hj s hs=>?_,fun j hj=>?_⟩
 ·show (if Jz n i=aC/\j=i.toNat then CY (Ey (Ee n g i.toNat) op k v).1 else g j)=CY (if j=i.toNat then (Ey (d i.toNat) op k v).1 else d j)
  by_cases e:j=i.toNat
  ·rw[if_pos ⟨hi,e⟩,if_pos e,hst]
  ·rw[if_neg (fun q=>e q.2),if_neg e,h.row j hj]
 ·show Ji (m+1) (if j=i.toNat then (Ey (d i.toNat) op k v).1 else d j)
  split
  ·exact (alX (h.inv i.toNat (by omega)) ha).2
  ·exact (h.inv j hj).up (by omega)
 ·show (if j=i.toNat then (Ey (d i.toNat) op k v).1 else d j).kind=s.kind
  have hk:=h.kind j hj s hs;split
  ·rename_i e
   have:(Ey (d i.toNat) op k v).1.kind=(d i.toNat).kind:=by
    unfold Ey;repeat' split
    all_goals rfl
   rw[this,<-e];exact hk
  ·exact hk
 ·show (if Jz n i=aC/\j=i.toNat then _ else g j)=g0 j
  rw[if_neg (fun q=>by omega)];exact h.out j hj
theorem Ld.fits(h:Ld n g0 m g d)(hm:m<=50000)(hn:n<=1000)(i op:Int):adz n g i op=aC:=by
 unfold Go.Pl.adz;rw[h.isB,ahw h.eqF,alY hm h.inv,mP (by omega) (by omega)];rfl
theorem Ld.apY(hn:n<=1000):∀(l:List Dd) {m:Nat} {g:SG} {d:Nat->Cj},Ld n g0 m g d->m+l.length<=50000->TY n g l
 |[],_,_,_,_,_=>trivial |a::l,m,g,d,h,hm=>by
  unfold Go.Pl.TY;rw[iP] at hm;split
  ·exact Ld.apY hn l h (by omega)
  ·refine ⟨h.fits (by omega) hn _ _,fun q=>?_⟩
   obtain ⟨d',h'⟩:=h.next q;exact Ld.apY hn l h' (by omega)
theorem Ld.play:∀(l:List Dd) {m i:Nat} {g g':SG} {d:Nat->Cj},Ld n g0 m g d->HY n g i l=.inr g'->∃d',Ld n g0 (m+l.length) g' d'
 |[],m,i,g,g',d,h,hp=>by
  have hp:(Sum.inr g:(Nat×Nat) ⊕ SG)=.inr g':=hp;cases hp;exact ⟨d,h⟩
 |a::l,m,i,g,g',d,h,hp=>by
  unfold HY at hp;rw[iP];split at hp
  ·obtain ⟨d',h'⟩:=Ld.play l h hp
   exact ⟨d',h'.up (by omega)⟩
  ·split at hp
   ·rename_i hok
    split at hp
    ·obtain ⟨d1,h1⟩:=h.next hok
     obtain ⟨d',h'⟩:=Ld.play l h1 hp;exact ⟨d',h'.up (by omega)⟩
    ·cases hp
   ·cases hp
end
section
variable{lv:Int}{n:Nat}{og:Nat->List Sh}{B:UZ}
structure TbP(n:Nat)(og:Nat->List Sh)(B:UZ):Prop where
 few:B.n<=12
 ok:∀i,i<B.n->okB Dd (B.T i).k (B.T i).g=aC/\(B.T i).k<=400
 o:n<=8
 b:∀j,j<n->EM (zY (α:=Oj) og j).kind (zY (α:=Oj) og j).init=ak
def QnP(lv:Int)(n:Nat)(og:Nat->List Sh)(B:UZ)(nd:Nd SG):Prop:=nd.placed<2^(Gb (Bl lv n og B)).n/\∃d,Ld n (Hr og) (400*rk (Gb (Bl lv n og B)) nd) nd.st d
theorem apZ{t:D8}{n:Nat}{T:Nat->D8}(h:t∈Hq lv n T):∃i,i<n/\t=T i:=by
 unfold Hq at h;obtain ⟨i,hi,rfl⟩:=dJ.1 (List.mem_filter.1 h).1;exact ⟨i,dN.1 hi,rfl⟩
theorem ap0(P:TbP n og B){i:Nat}(h:i<(Bl lv n og B).N):okB Dd ((Bl lv n og B).T i).k ((Bl lv n og B).T i).g=aC/\((Bl lv n og B).T i).k<=400:=by
 have h:i<(Hq lv B.n B.T).length:=h;have hm:nth (Hq lv B.n B.T) i∈Hq lv B.n B.T:=by
  unfold nth;rw[aY,aV h];exact List.getElem_mem h
 obtain ⟨j,hj,e⟩:=apZ hm;show okB Dd (nth (Hq lv B.n B.T) i).k (nth (Hq lv B.n B.T) i).g=aC/\(nth (Hq lv B.n B.T) i).k<=400;rw[e];exact P.ok j hj
theorem ase(P:TbP n og B)(nd:Nd SG):rk (Gb (Bl lv n og B)) nd<=12:=by
 have h1:=aoy (B:=Bl lv n og B) nd;have h2:(Bl lv n og B).N=(Hq lv B.n B.T).length:=rfl;have h3:=akv lv B.n B.T;have:=P.few;omega
theorem TB(P:TbP n og B):La (Bl lv n og B) (QnP lv n og B):=by
 have hN:(Bl lv n og B).N<=12:=by
  have h2:(Bl lv n og B).N=(Hq lv B.n B.T).length:=rfl;have h3:=akv lv B.n B.T;have:=P.few;omega
 refine ⟨⟨uD (by simp),newT (zY og),fun j hj=>rfl,fun j hj=>?_,fun j hj s hs=>?_,fun j _=>rfl⟩,fun nd hq t ht=>?_,fun nd hq=>?_,fun nd hq=>?_⟩
 ·exact (apW (P.b j hj)).1.up (Nat.zero_le _)
 ·have hs:CY (newT (zY og) j)=CY s:=hs
  rw[Tj hs]
 ·obtain ⟨hlt,d,hd⟩:=hq
  have hlt':=lt_next hlt t ht;have hr:=abv (g:=Gb (Bl lv n og B)) t ht;refine ⟨hlt',?_⟩;rw[hr];unfold next turns at ht;obtain ⟨x,hx,rfl⟩:=dJ.1 ht;obtain ⟨i,hi,hx⟩:=kK.1 hx;have hi:i<(Bl lv n og B).N:=dN.1 hi;obtain ⟨t1,t2⟩:=ap0 P hi;unfold GX at hx;split at hx
  ·rcases bK.1 hx with hx|hx
   ·split at hx
    ·rename_i s e1 e2
     obtain rfl:x=_:=by simpa using hx
     have e2:(if plO n nd.st ((Bl lv n og B).T i).k ((Bl lv n og B).T i).g=aC then ay (TM n nd.st ((Bl lv n og B).T i).k ((Bl lv n og B).T i).g) else aK)=ay s:=e2;split at e2
     ·rename_i hok
      cases e2;unfold plO abp at hok;cases hp:HY n nd.st 0 (lst Dd ((Bl lv n og B).T i).k ((Bl lv n og B).T i).g) with
      |inl q=>rw[hp] at hok;cases hok |inr g'=>
       obtain ⟨d',h'⟩:=Ld.play _ hd hp;have e:TM n nd.st ((Bl lv n og B).T i).k ((Bl lv n og B).T i).g=g':=by unfold TM abq;rw[hp]
       refine ⟨d',?_⟩;show Ld n (Hr og) _ (TM n nd.st ((Bl lv n og B).T i).k ((Bl lv n og B).T i).g) d';rw[e];exact h'.up (by rw[E5];omega)
     ·cases e2
    ·cases hx
   ·split at hx
    ·obtain rfl:x=_:=by simpa using hx
     exact ⟨d,hd.up (by omega)⟩
    ·cases hx
  ·cases hx
 ·obtain ⟨hlt,d,hd⟩:=hq
  have h12:=ase (lv:=lv) P nd;refine ⟨by omega,rfl,uF _,?_,fun i _=>uF _,fun i hi=>?_,fun i hi _=>?_⟩
  ·have h1:nd.placed<2^62:=Nat.lt_of_lt_of_le hlt (Nat.pow_le_pow_right (by decide) (by show (Bl lv n og B).N<=62;omega))
   omega
  ·show (O5 lv (nth (Hq lv B.n B.T) i).bg 0 (Hq lv B.n B.T) 0:Nat)<2^(Hq lv B.n B.T).length
   exact ahd _ _ _ _ (uD (by simp)) (by omega)
  ·obtain ⟨t1,t2⟩:=ap0 P hi
   unfold plN;rw[t1,decide_eq_true (by omega:((Bl lv n og B).T i).k<=100000)];have o8:=P.o;exact @decide_eq_true _ (bD _) (Ld.apY (n:=n) (by omega) _ hd (by rw[E5];omega))
 ·obtain ⟨hlt,d,hd⟩:=hq
  have h12:=ase (lv:=lv) P nd;have o8:=P.o;have e1:stB n nd.st=aC:=hd.isB;have e2:keysB n (Ee n nd.st)=aC:=by
   unfold keysB;rw[aH,dK];refine ⟨decide_eq_true (by omega),fun j hj=>?_⟩;rw[hd.eqF j (dN.1 hj)];exact apV (by omega) (hd.inv j (dN.1 hj))
  show ((fB 4 4||fB n 0)&&(stB n nd.st&&keysB n (Ee n nd.st)))=aC;rw[e1,e2];rfl
theorem Zf{n:Nat}{d e:Nat->Cj}(h:∀j,j<n->d j=e j):Uc n d=Uc n e:=by
 unfold Uc;congr 1;exact jM fun j hj=>h j (dN.1 hj)
theorem adU:∀x y,QnP lv n og B x->QnP lv n og B y->CP n x=CP n y->x=y:=fun x y ⟨_,d,hd⟩ ⟨_,e,he⟩ h=>by
 unfold CP at h;rw[Prod.mk.injEq] at h;obtain ⟨h1,h2⟩:=h;have h1:=kT h1;have h2:Uc n (Ee n x.st)=Uc n (Ee n y.st):=h2;rw[Zf hd.eqF,Zf he.eqF] at h2;have hk:∀j,j<n->(d j).kind=(e j).kind:=fun j hj=>by
  rw[hd.kind j hj (newT (zY og) j) rfl,he.kind j hj (newT (zY og) j) rfl]
 have h3:=ahu hd.inv he.inv hk h2;obtain ⟨p,s⟩:=x;obtain ⟨p',s'⟩:=y;obtain rfl:p=p':=h1;have:s=s':=by
  funext j;by_cases hj:j<n
  ·have a:=hd.row j hj
   have b:=he.row j hj;rw[h3 j hj] at a;exact a.trans b.symm
  ·have a:=hd.out j (by omega)
   have b:=he.out j (by omega);exact a.trans b.symm
 rw[this]
end
end Go.Pl
