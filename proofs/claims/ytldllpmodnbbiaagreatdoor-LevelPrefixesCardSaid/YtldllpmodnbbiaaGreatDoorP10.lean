/- Own work. -/
import Derived.Test.YtldllpmodnbbiaaGreatDoorP09
open Int (ofNat)
open Array renaming replicate->dX,getElem?_eq_getElem->oC
open Bool renaming true->ay,false->aA,and_eq_true->aB,or_eq_true->lN
open Classical renaming propDecidable->aI
open Go.IntKind renaming i64->bD
open Go.Lib renaming joinTail->kQ,join_cons->l9
open Go.BI renaming okB->gG,Ap->aO,Am->aS,CY->nC,deR->qI
open Go.BI.Au renaming feed->kU
open Go.BI.Rc renaming step->fD,out->jB
open Go.Proofs renaming room_le->kY,W7->Af
open Go.Proofs.Tryz renaming f77->iO,prog->ak,f71->wQ,f87->wR,f114->vH,f90->wU,fns->mO,fnsAre_->gI,entersB_->iR
open Go.Sx.BL renaming val->jQ,int->aC,sh->aW,nat->aZ,get->bY,Um->gQ
open Go.Sx.C9 renaming at_->bU,ret->aN
open Go.Sx.Fe3 renaming ret->vG,raw->zy
open Go.Sx.It renaming code->aK,inBlock->aX,reg->nU
open Go.Sx.Lay renaming blk->fJ
open Go.Sx.SB renaming own->vF,fm->nJ,box->jZ
open Go.Sx.SV renaming agg->jW,sh->eG,ptr->jY,Fj->zF,Eo->gV,any->aY,bool->oO,int->qG,Bg->kE,mp->rO
open Go.Sx.Sh renaming Az->bF,sl->aG,er->dP,DK->mP,pt->pJ,i->aQ
open Go.Sx.Tree renaming need->aH,node->aP,leaf->aJ,must->bT
open Go.Value renaming pointer->gB
open Iff renaming rfl->zx
open Int renaming ofNat->ah
open List renaming flatMap_cons->kJ,getElem?_append_left->gY,getElem?_append_right->iZ,getElem?_eq_some_iff->bf,ext_getElem?->l7,getElem?_eq_getElem->aV,getElem?_eq_none->jw,range->aU,mem_map->eP,range_succ->wG,map_congr_left->iJ,findIdx?_cons->sF,findIdx?_eq_none_iff->oN,replicate->dD,getElem?_set->tY,takeWhile->jU,length_map->dH,pairwise_cons->sG,all_eq_true->dh,map_set->yS,mem_of_mem_drop->jI,drop_sublist->tZ,mem_append->bQ,map_take->xJ,map_drop->xK,mem_of_mem_take->qJ,mem_cons->oZ,flatMap_map->nD,cons_append->vI,map_append->jR,map_singleton->sH,not_mem_nil->vJ,append_cancel_left->jh,append_nil->iM
open List.Sublist renaming append->zG
open Nat renaming zero_add->fU,le_refl->bM,beq->dK,le_succ_of_le->nV
open Option renaming bind_some->dS,some->aj,none->aF
open Option.some renaming inj->bP
open UInt8 renaming ofNat->rH
noncomputable section
namespace Go.Sx
open Go.BI
theorem Qz(d:De):(deV d).length=8:=rfl
theorem flat_length:∀l:List De,(l.flatMap deV).length=l.length*8
 |[]=>rfl |d::l=>by simp[flat_length l,Qz,Nat.add_mul];omega
theorem aev:∀(l:List De) (i j:Nat),j<8->(l.flatMap deV)[i*8+j]?=(l[i]?).bind fun d=>(deV d)[j]?
 |[],i,j,_=>by simp |d::l,0,j,hj=>by
  simp only[kJ,Nat.zero_mul,fU,List.getElem?_cons_zero,dS];grind [gY,Qz]
 |d::l,i+1,j,hj=>by
  simp only[kJ,List.getElem?_cons_succ];rw[iZ (by rw[Qz];omega),Qz,show (i+1)*8+j - 8=i*8+j by omega];exact aev l i j hj
theorem auS(d:De):∀u∈deV d,u.oneCell'=ay:=fun u hu=>by
 simp[deV] at hu;rcases hu with rfl|rfl|rfl|rfl|rfl|rfl|rfl|rfl<;>rfl
theorem auT{H:Mem}(d:De)(j:Nat)(s:Sh)(v:Value)(h1:(deR d)[j]?=aj s)(h2:(deV d)[j]?=aj v):Rep H s v:=by
 match j,h1,h2 with
 |0,h1,h2=>cases h1;cases h2;exact .i _ _ |1,h1,h2=>cases h1;cases h2;exact .i _ _ |2,h1,h2=>cases h1;cases h2;exact .i _ _ |3,h1,h2=>cases h1;cases h2;exact .i _ _ |4,h1,h2=>cases h1;cases h2;exact .i _ _ |5,h1,h2=>cases h1;cases h2;exact .i _ _ |6,h1,h2=>cases h1;cases h2;exact .i _ _ |7,h1,h2=>cases h1;cases h2;exact .i _ _ |j+8,h1,h2=>simp[deR] at h1
theorem ahe{α:Type}[Row α]{l:List α}{i:Nat}(h:i<l.length):l[i]?=aj (nth l i):=by
 simp_all [nth]
theorem abO{H:Mem}(l:List De):CQ H 8 l.length (Am (nth l)) (l.flatMap deV):=by
 refine ⟨flat_length l,fun i _=>rfl,fun u hu=>?_,fun i j s v hi h1 h2=>?_⟩
 ·grind [auS]
 ·have hj:j<8:=by
   have:=(bf.1 h1).1;exact this
  rw[aev l i j hj,ahe hi] at h2;exact auT (nth l i) j s v h1 h2
theorem aew{H:Mem}{l:List De}{xs:List Value}(h:CQ H 8 l.length (Am (nth l)) xs):xs=l.flatMap deV:=by
 apply l7;intro q;by_cases hq:q<l.length*8
 ·have hi:q / 8<l.length:=by omega
  have hj:q % 8<8:=by omega
  have e:q=q / 8*8+q % 8:=by omega
  rw[e,aev l _ _ hj,ahe hi];have hx:q / 8*8+q % 8<xs.length:=by rw[h.1];omega
  rw[aV hx];simp only[dS];have hs:∃s,(deR (nth l (q / 8)))[q % 8]?=aj s:=⟨_,aV (by exact hj)⟩;obtain ⟨s,hs⟩:=hs;have hr:=h.2.2.2 (q / 8) (q % 8) s _ hi hs (aV hx);generalize xs[q / 8*8+q % 8]=v at hr;generalize q % 8=j at hs hj hr;match j,hs,hj with
  |0,hs,_=>cases hs;cases hr;rfl |1,hs,_=>cases hs;cases hr;rfl |2,hs,_=>cases hs;cases hr;rfl |3,hs,_=>cases hs;cases hr;rfl |4,hs,_=>cases hs;cases hr;rfl |5,hs,_=>cases hs;cases hr;rfl |6,hs,_=>cases hs;cases hr;rfl |7,hs,_=>cases hs;cases hr;rfl |j+8,_,hj=>omega
 ·rw[jw (by rw[h.1];omega),jw (by rw[flat_length];omega)]
def KP(R:Nat->Nat):ϝ:=fun j=>[.v (Es (R j))]
theorem arp{H:Mem}(R:Nat->Nat)(n:Nat):CQ H 1 n (KP R) ((aU n).map fun i=>Es (R i)):=by
 refine ⟨by simp,fun i _=>rfl,fun u hu=>?_,fun i j s v hi h1 h2=>?_⟩
 ·obtain ⟨i,_,rfl⟩:=eP.1 hu
  rfl
 ·have hj:j=0:=by
   simp_all [bf,KP]
  subst hj;cases h1;simp[hi] at h2;subst h2;exact .v _ rfl
theorem TP{H:Mem}{R:Nat->Nat}{n:Nat}{xs:List Value}(h:CQ H 1 n (KP R) xs):xs=(aU n).map fun i=>Es (R i):=by
 apply l7;intro q;by_cases hq:q<n
 ·have hx:q<xs.length:=by rw[h.1];omega
  rw[aV hx];have hr:=h.2.2.2 q 0 _ xs[q] hq rfl (by simp);generalize xs[q]=v at hr ⊢;cases hr;simp[hq]
 ·rw[jw (by rw[h.1];omega),jw (by simp;omega)]
section
variable{H H':Mem}{E E':Env}{w w':World}{n0:Nat}{g0:ϝ}{σ σ':Au}{L L':Lay}
theorem VE(hA:D7 H w n0 g0 σ L){own:Nat->Prop}{V:Tg->Prop}(hown:∀b,own b↔∃t,V t/\L.blk σ.rs.length t=aj b)(hW:EF ⟨w,own,H⟩ H' w')(_hH:H.le H')
  (hV:V .au/\V .tx/\V .NI/\V .bu/\V .ob) (hV2:∀i,V (.rc i)↔V (.de i))
  (au:w'.heap[L'.p]?=aj (.cells #[L'.v0,.int .i64 σ'.many,L'.v2,.map (aj L'.b1),.map (aj L'.b2)] 190 (0,0))) (ob:∃xs,w'.ownsRow 0 94 2 L'.v0 n0 xs/\CQ H' 2 n0 g0 xs)
  (tx:w'.ownsRow 0 191 1 L'.v2 σ'.rs.length ((aU σ'.rs.length).map fun i=>Es (L'.R i)))
  (NI:∃ms clk,w'.heap[L'.b1]?=aj (.map ms clk)/\FW .i64 ms.toList clk fun k=>(σ'.H8 k).map fun i=>Es (L'.R i))
  (bu:∃ms clk,w'.heap[L'.b2]?=aj (.map ms clk)/\FW .i64 ms.toList clk fun k=>(σ'.KO k).map fun i=>Es (L'.R i))
  (rcV:∀i r,σ'.rs[i]?=aj r->V (.rc i)->w'.heap[L'.R i]?=aj (.cells (Zb r (L'.D i)) 193 (0,0))/\w'.ownsRow 0 128 8 (L'.D i) r.AA.length (r.AA.flatMap deV))
  (old:∀i r,σ'.rs[i]?=aj r->¬V (.rc i)->σ.rs[i]?=aj r/\L'.R i=L.R i/\L'.D i=L.D i)
  (apB:∀t b,V t->L'.blk σ'.rs.length t=aj b->H' b=aF/\(w.heap.size<=b\/own b))
  (aEC:∀s t b,V s->V t->L'.blk σ'.rs.length s=aj b->L'.blk σ'.rs.length t=aj b->s=t) :
  D7 H' w' n0 g0 σ' L'/\∀t b,L'.blk σ'.rs.length t=aj b->w.heap.size<=b\/∃t',L.blk σ.rs.length t'=aj b:=by
 have Zc:∀t b,¬V t->L'.blk σ'.rs.length t=aj b->L.blk σ.rs.length t=aj b:=fun t b hv hb=>by
  cases t with
  |au=>simp_all |tx=>simp_all |NI=>simp_all |bu=>simp_all |ob=>simp_all |rc i=>
   simp only[fJ] at hb ⊢;split at hb
   ·rename_i hi
    obtain ⟨o1,o2,o3⟩:=old i _ (aV hi) hv;grind
   ·cases hb
  |de i=>
   simp only[fJ] at hb ⊢;split at hb
   ·rename_i hi
    obtain ⟨o1,o2,o3⟩:=old i _ (aV hi) fun q=>hv ((hV2 i).1 q);grind
   ·cases hb
 have axY:∀t b,¬V t->L.blk σ.rs.length t=aj b->¬own b:=fun t b hv hb ho=>by
  obtain ⟨t',h1,h2⟩:=(hown b).1 ho;have:=hA.GH _ _ _ hb h2;simp_all
 have kept:∀t b,¬V t->L.blk σ.rs.length t=aj b->w'.heap[b]?=w.heap[b]?:=fun t b hv hb=>hW.kept b (hA.lt hb) (axY t b hv hb);refine ⟨⟨au,ob,tx,NI,bu,fun i r hi=>?_,fun i r hi=>?_,fun s t b hs ht=>?_,fun t b hb=>?_⟩,fun t b hb=>?_⟩
 ·by_cases hv:V (.rc i)
  ·simp_all
  ·obtain ⟨o1,o2,o3⟩:=old i r hi hv
   rw[o2,o3,kept (.rc i) _ hv (by grind [fJ,bf])];exact hA.rc i r o1
 ·by_cases hv:V (.rc i)
  ·simp_all
  ·obtain ⟨o1,o2,o3⟩:=old i r hi hv
   rw[o3];refine GX (hA.de i r o1) fun b hb=>kept (.de i) b (fun q=>hv ((hV2 i).2 q)) ?_;grind [fJ,bf]
 ·by_cases vs:V s<;>by_cases vt:V t
  ·grind
  ·exfalso
   have h1:=Zc t b vt ht;rcases (apB s b vs hs).2 with q|q
   ·have:=hA.lt h1;omega
   grind
  ·exfalso
   have h1:=Zc s b vs hs;rcases (apB t b vt ht).2 with q|q
   ·have:=hA.lt h1;omega
   grind
  ·exact hA.GH s t b (Zc s b vs hs) (Zc t b vt ht)
 ·by_cases hv:V t
  ·grind
  ·have h1:=Zc t b hv hb
   cases hx:H' b with
   |none=>rfl |some o=>
    rcases hW.fresh b (by rw[hx];simp) with q|q|q
    ·exact (q (hA.un t b h1)).elim
    ·have:=hA.lt h1
     grind
    grind
 grind
end
open Go.BI Go.BX
def Oh(σ:Au)(L:Lay):Int->Option Value:=fun k=>(σ.H8 k).map fun i=>Es (L.R i)
def NJ(σ:Au)(L:Lay):Int->Option Value:=fun k=>(σ.KO k).map fun i=>Es (L.R i)
def JI(L:Lay)(i:Option Nat):Env:=fun id=>match id with
 |0=>aj (Es L.p) |1=>aj L.v2 |2=>aj (.map (aj L.b1)) |3=>aj (.map (aj L.b2)) |4=>i.map fun i=>Es (L.R i) |5=>i.map fun i=>L.D i |6=>aj L.v0 |_=>aF
def Vw(i:Option Nat):Tg->Prop
 | .rc j=>i=aj j | .de j=>i=aj j |_=>True
def Xc(i:Nat):Nat->Tg
 |0=>.au |1=>.tx |2=>.NI |3=>.bu |4=>.rc i |5=>.de i |_=>.ob
def aDh:Tg->Nat
 | .au=>0 | .tx=>1 | .NI=>2 | .bu=>3 | .rc _=>4 | .de _=>5 | .ob=>6
theorem auU{i a:Nat}(h:a<7):aDh (Xc i a)=a:=by
 match a,h with
 |0,_|1,_|2,_|3,_|4,_|5,_|6,_=>rfl |a+7,h=>omega
theorem ahf{i a b:Nat}(ha:a<7)(hb:b<7)(h:Xc i a=Xc i b):a=b:=by
 grind [auU]
section
variable{H H':Mem}{E E':Env}{w w':World}{n:Nat}{o:Nat->Oj}{σ σ':Au}{L L':Lay}
def Ls(n:Nat)(o:Nat->Oj)(σ:Au)(L:Lay)(f1 f2:List (Int×Bool×SV)):List (Nat×SB):=hpA n σ.rs.length o σ.many (KP L.R) (Oh σ L) (NJ σ L) f1 f2
theorem auV(hA:D7 H w n (Am o) σ L)(i:Option Nat){own:Nat->Prop}(hown:∀t b,Vw i t->L.blk σ.rs.length t=aj b->own b){f1 f2:List (Int×Bool×SV)}{v1 v2:List (Int×Option Value)}(h1:Hl H (JI L i) f1 v1)(h2:Hl H (JI L i) f2 v2)
  (m1:∀k u,(k,u)∈v1->Oh σ L k=u) (m2:∀k u,(k,u)∈v2->NJ σ L k=u):∀id sb,Aq (Ls n o σ L f1 f2) id=aj sb->Ho ⟨w,own,H⟩ H (JI L i) w id sb/\(id<4\/id=6)/\∀b,Bv (JI L i) id sb=aj b->L.blk σ.rs.length (Xc 0 id)=aj b:=by
 intro id sb hl;have mine:∀t b,Vw i t->L.blk σ.rs.length t=aj b->Mine ⟨w,own,H⟩ H b:=fun t b hv hb=>⟨hA.un t b hb,.inr (hown t b hv hb)⟩;match id,hl with
 |0,hl=>
  cases hl;exact ⟨⟨L.p,_,rfl,hA.au,⟨⟨rfl,(let ⟨_,h1,_⟩:=hA.ob;KI h1)⟩,rfl,⟨rfl,KI hA.tx⟩,⟨_,rfl,rfl⟩,⟨_,rfl,rfl⟩,ϖ⟩,mine .au _ trivial rfl⟩,by decide,fun b hb=>hb⟩
 |1,hl=>
  cases hl;exact ⟨⟨L.v2,_,rfl,hA.tx,arp _ _,fun b hb=>mine .tx b trivial hb⟩,by decide,fun b hb=>hb⟩
 |2,hl=>
  cases hl;obtain ⟨ms,clk,a1,a2⟩:=hA.NI;exact ⟨⟨L.b1,ms,clk,v1,[],rfl,a1,h1,ϖ,m1,a2,ϖ,mine .NI _ trivial rfl⟩,by decide,fun b hb=>hb⟩
 |3,hl=>
  cases hl;obtain ⟨ms,clk,a1,a2⟩:=hA.bu;exact ⟨⟨L.b2,ms,clk,v2,[],rfl,a1,h2,ϖ,m2,a2,ϖ,mine .bu _ trivial rfl⟩,by decide,fun b hb=>hb⟩
 |6,hl=>
  cases hl;obtain ⟨xs,a1,a2⟩:=hA.ob;exact ⟨⟨L.v0,xs,rfl,a1,a2,fun b hb=>mine .ob b trivial hb⟩,by decide,fun b hb=>hb⟩
 |4,hl=>simp[Ls,hpA,Aq] at hl |5,hl=>simp[Ls,hpA,Aq] at hl |id+7,hl=>simp[Ls,hpA,Aq] at hl
theorem anU{n:Nat}{o:Nat->Oj}{σ:Au}{L:Lay}{f1 f2:List (Int×Bool×SV)}{r:Rc}{id:Nat}{sb:SB}(h:Aq (Ls n o σ L f1 f2++Xb r) id=aj sb):
  Aq (Ls n o σ L f1 f2) id=aj sb\/(id=4/\sb=.box [.sym .i64 r.id,.sym .i64 r.th,.sym .i64 r.st,.sym .i64 r.bg,.sym .i64 r.en,.sym .i64 r.tr,.gs 5,.sym .i64 r.stand] 193)\/(id=5/\sb=.own 128 8 r.AA.length (Am (nth r.AA))):=by
 match id,h with
 |0,h=>exact .inl h |1,h=>exact .inl h |2,h=>exact .inl h |3,h=>exact .inl h |4,h=>cases h;simp |5,h=>cases h;simp |6,h=>exact .inl h |id+7,h=>simp[Ls,hpA,Xb,hpR,Aq] at h
theorem axZ{i j id:Nat}(h:id<4\/id=6):Xc i id=Xc j id:=by
 match id,h with
 |0,_|1,_|2,_|3,_|6,_=>rfl |4,h=>omega |5,h=>omega |id+7,h=>omega
theorem arq(hA:D7 H w n (Am o) σ L){i:Nat}{r:Rc}(hi:σ.rs[i]?=aj r){own:Nat->Prop}(hown:∀t b,Vw (aj i) t->L.blk σ.rs.length t=aj b->own b){f1 f2:List (Int×Bool×SV)}{v1 v2:List (Int×Option Value)}
  (h1:Hl H (JI L (aj i)) f1 v1) (h2:Hl H (JI L (aj i)) f2 v2) (m1:∀k u,(k,u)∈v1->Oh σ L k=u) (m2:∀k u,(k,u)∈v2->NJ σ L k=u) :
  Bc ⟨w,own,H⟩ H (JI L (aj i)) w (Ls n o σ L f1 f2++Xb r):=by
 have hlt:=(bf.1 hi).1;have key:∀id sb,Aq (Ls n o σ L f1 f2++Xb r) id=aj sb->Ho ⟨w,own,H⟩ H (JI L (aj i)) w id sb/\id<7/\∀b,Bv (JI L (aj i)) id sb=aj b->L.blk σ.rs.length (Xc i id)=aj b:=fun id sb hl=>by
  rcases anU hl with hl|⟨rfl,rfl⟩ |⟨rfl,rfl⟩
  ·grind [auV,axZ]
  ·have hb:L.blk σ.rs.length (.rc i)=aj (L.R i):=by simp[fJ,hlt]
   exact ⟨⟨L.R i,_,rfl,hA.rc i r hi,⟨rfl,rfl,rfl,rfl,rfl,rfl,⟨rfl,KI (hA.de i r hi)⟩,rfl,ϖ⟩,⟨hA.un _ _ hb,.inr (hown (.rc i) _ rfl hb)⟩⟩,by decide,fun b hb'=>by
    cases hb';exact hb⟩
  ·have hb:∀b,Ba (L.D i)=aj b->L.blk σ.rs.length (.de i)=aj b:=fun b hb=>by grind [fJ]
   exact ⟨⟨L.D i,_,rfl,hA.de i r hi,abO _,fun b hb'=>⟨hA.un _ _ (hb b hb'),.inr (hown (.de i) _ rfl (hb b hb'))⟩⟩,by decide,fun b hb'=>hb b hb'⟩
 refine ⟨fun id sb hl=>(key id sb hl).1,fun id id' sb sb' b l1 l2 o1 o2=>?_⟩;obtain ⟨_,a1,a2⟩:=key id sb l1;obtain ⟨_,b1,b2⟩:=key id' sb' l2;exact ahf a1 b1 (hA.GH _ _ _ (a2 b o1) (b2 b o2))
theorem aex(hA:D7 H w n (Am o) σ L){own:Nat->Prop}(hown:∀t b,Vw aF t->L.blk σ.rs.length t=aj b->own b){f1 f2:List (Int×Bool×SV)}{v1 v2:List (Int×Option Value)}
  (h1:Hl H (JI L aF) f1 v1) (h2:Hl H (JI L aF) f2 v2) (m1:∀k u,(k,u)∈v1->Oh σ L k=u) (m2:∀k u,(k,u)∈v2->NJ σ L k=u) :
  Bc ⟨w,own,H⟩ H (JI L aF) w (Ls n o σ L f1 f2):=by
 have key:=auV hA aF hown h1 h2 m1 m2;refine ⟨fun id sb hl=>(key id sb hl).1,fun id id' sb sb' b l1 l2 o1 o2=>?_⟩;obtain ⟨_,a1,a2⟩:=key id sb l1;obtain ⟨_,b1,b2⟩:=key id' sb' l2;exact ahf (i:=0) (by omega) (by omega) (hA.GH _ _ _ (a2 b o1) (b2 b o2))
theorem auW(_hA:D7 H w n (Am o) σ L){i:Nat}{r:Rc}(hi:σ.rs[i]?=aj r){f1 f2:List (Int×Bool×SV)}(b:Nat):
  Oa (JI L (aj i)) (Ls n o σ L f1 f2++Xb r) b↔∃t,Vw (aj i) t/\L.blk σ.rs.length t=aj b:=by
 have hlt:=(bf.1 hi).1;constructor
 ·rintro ⟨id,sb,hl,hb⟩
  match id,hl with
  |0,hl=>cases hl;exact ⟨.au,ϖ,hb⟩ |1,hl=>cases hl;exact ⟨.tx,ϖ,hb⟩ |2,hl=>cases hl;exact ⟨.NI,ϖ,hb⟩ |3,hl=>cases hl;exact ⟨.bu,ϖ,hb⟩ |4,hl=>cases hl;exact ⟨.rc i,rfl,by cases hb;simp[fJ,hlt]⟩ |5,hl=>cases hl;exact ⟨.de i,rfl,by simp only[fJ,if_pos hlt];exact hb⟩ |6,hl=>cases hl;exact ⟨.ob,ϖ,hb⟩ |id+7,hl=>simp[Ls,hpA,Xb,hpR,Aq] at hl
 ·rintro ⟨t,hv,hb⟩
  cases t with
  |au=>exact ⟨0,_,rfl,hb⟩ |tx=>exact ⟨1,_,rfl,hb⟩ |NI=>exact ⟨2,_,rfl,hb⟩ |bu=>exact ⟨3,_,rfl,hb⟩ |ob=>exact ⟨6,_,rfl,hb⟩ |rc j=>
   cases hv;simp only[fJ,if_pos hlt] at hb;exact ⟨4,_,rfl,hb⟩
  |de j=>
   cases hv;simp only[fJ,if_pos hlt] at hb;exact ⟨5,_,rfl,hb⟩
theorem ahg{f1 f2:List (Int×Bool×SV)}(b:Nat):
  Oa (JI L aF) (Ls n o σ L f1 f2) b↔∃t,Vw aF t/\L.blk σ.rs.length t=aj b:=by
 constructor
 ·rintro ⟨id,sb,hl,hb⟩
  match id,hl with
  |0,hl=>cases hl;exact ⟨.au,ϖ,hb⟩ |1,hl=>cases hl;exact ⟨.tx,ϖ,hb⟩ |2,hl=>cases hl;exact ⟨.NI,ϖ,hb⟩ |3,hl=>cases hl;exact ⟨.bu,ϖ,hb⟩ |4,hl=>simp[Ls,hpA,Aq] at hl |5,hl=>simp[Ls,hpA,Aq] at hl |6,hl=>cases hl;exact ⟨.ob,ϖ,hb⟩ |id+7,hl=>simp[Ls,hpA,Aq] at hl
 ·rintro ⟨t,hv,hb⟩
  cases t with
  |au=>exact ⟨0,_,rfl,hb⟩ |tx=>exact ⟨1,_,rfl,hb⟩ |NI=>exact ⟨2,_,rfl,hb⟩ |bu=>exact ⟨3,_,rfl,hb⟩ |ob=>exact ⟨6,_,rfl,hb⟩ |rc j=>cases hv |de j=>cases hv
end
open Go.BI Go.BX
section
variable{H H':Mem}{E E':Env}{w w':World}{n:Nat}{o:Nat->Oj}{σ σ':Au}{L L':Lay}
theorem RZ{r:List (Int×Option Value)}(h:Hl H E [] r):r=[]:=by
 cases r with
 |nil=>rfl |cons _ _=>exact h.elim
theorem ars{t:Int}{x:SV}{r:List (Int×Option Value)}(h:Hl H E [(t,aA,x)] r):r=[(t,aF)]:=by
 match r,h with
 |[(k,o)],⟨h1,h2,_⟩=>
  grind
 |[],h=>exact h.elim |(_,_)::_::_,⟨_,_,h⟩=>exact h.elim
def apC(σ σ':Au)(us:List (Int×Bool×SV)):Prop:=
 (us=[]/\∀k,σ'.KO k=σ.KO k)\/∃t x,us=[(t,aA,x)]/\∀k,σ'.KO k=if k=t then aF else σ.KO k
theorem anV{own:Nat->Prop}(hA:D7 H w n (Am o) σ L){i:Nat}{r0:Rc}(hi:σ.rs[i]?=aj r0)(hown:∀b,own b↔∃t,Vw (aj i) t/\L.blk σ.rs.length t=aj b)
  {e:Ev} {many':Nat} {r:Rc} {us:List (Int×Bool×SV)} (hh:Bc ⟨w,own,H⟩ H' E' w' (Qy n σ.rs.length o (KP L.R) (Oh σ L) (NJ σ L) e many' r us).hp) (hW:EF ⟨w,own,H⟩ H' w') (hH:H.le H')
  (h0:E' 0=aj (Es L.p)) (h4:E' 4=aj (Es (L.R i))) (hby:∀k,(⟨many',σ.rs.set i r⟩:Au).H8 k=σ.H8 k) (hbu:apC σ ⟨many',σ.rs.set i r⟩ us) :
  ∃L',D7 H' w' n (Am o) ⟨many',σ.rs.set i r⟩ L'/\L'.p=L.p/\∀t b,L'.blk (σ.rs.set i r).length t=aj b->w.heap.size<=b\/∃t',L.blk σ.rs.length t'=aj b:=by
 have hlt:=(bf.1 hi).1;obtain ⟨p,⟨cs⟩,p1,p2,p3,p4⟩:=hh.ent 0 _ rfl;match cs,p3 with
 |[u0,u1,u2,u3,u4],⟨d0,d1,d2,d3,d4,_⟩=>
  have d1:u1=.int .i64 many':=d1;obtain ⟨d0,_⟩:E' 6=aj u0/\_:=d0;obtain ⟨d2,_⟩:E' 1=aj u2/\_:=d2;obtain ⟨b1,d3,d3'⟩:=d3;obtain ⟨b2,d4,d4'⟩:=d4;subst d1 d3' d4';rw[h0] at p1;have hp:L.p=p:=by
   grind [bP,Es]
  subst hp;have hob:∃xs,w'.ownsRow 0 94 2 u0 n xs/\CQ H' 2 n (Am o) xs:=by
   obtain ⟨v,xs,x1,x2,x3,_⟩:=hh.ent 6 _ rfl;grind
  obtain ⟨v2,xs,q1,q2,q3,q4⟩:=hh.ent 1 _ rfl;rw[d2] at q1;cases q1;obtain rfl:=TP q3;obtain ⟨b1',ms1,Zd,fv1,uv1,s1,s2,s3,s4,s5,s6,_,s7⟩:=hh.ent 2 _ rfl;rw[d3] at s1;cases s1;obtain rfl:=RZ s4;obtain ⟨b2',ms2,Ze,fv2,uv2,t1,t2,t3,t4,t5,t6,_,t7⟩:=hh.ent 3 _ rfl;rw[d4] at t1;cases t1;obtain ⟨pr,⟨cr⟩,r1,r2,r3,r4⟩:=hh.ent 4 _ rfl;rw[h4] at r1;have hpr:L.R i=pr:=by
   grind [bP,Es]
  subst hpr;match cr,r3 with
  |[c0,c1,c2,c3,c4,c5,c6,c7],⟨e0,e1,e2,e3,e4,e5,e6,e7,_⟩=>
   have e0:c0=.int .i64 r.id:=e0;have e1:c1=.int .i64 r.th:=e1;have e2:c2=.int .i64 r.st:=e2;have e3:c3=.int .i64 r.bg:=e3;have e4:c4=.int .i64 r.en:=e4;have e5:c5=.int .i64 r.tr:=e5;have e7:c7=.int .i64 r.stand:=e7;obtain ⟨e6,_⟩:E' 5=aj c6/\_:=e6;subst e0 e1 e2 e3 e4 e5 e7;obtain ⟨vd,xd,g1,g2,g3,g4⟩:=hh.ent 5 _ rfl;rw[e6] at g1;cases g1;obtain rfl:=aew g3;let L':Lay:=⟨L.p,u0,u2,b1,b2,L.R,fun j=>if j=i then c6 else L.D j⟩
   have hlen:(σ.rs.set i r).length=σ.rs.length:=by simp
   have hbl:∀t b,Vw (aj i) t->L'.blk (σ.rs.set i r).length t=aj b->∃id sb,id<7/\Xc i id=t/\Aq (Qy n σ.rs.length o (KP L.R) (Oh σ L) (NJ σ L) e many' r us).hp id=aj sb/\Bv E' id sb=aj b:=fun t b hv hb=>by
    cases t with
    |au=>exact ⟨0,_,by decide,rfl,rfl,by simp only[Bv,h0];exact hb⟩ |tx=>exact ⟨1,_,by decide,rfl,rfl,by simp only[Bv,d2];exact hb⟩ |NI=>exact ⟨2,_,by decide,rfl,rfl,by simp only[Bv,d3];exact hb⟩ |bu=>exact ⟨3,_,by decide,rfl,rfl,by simp only[Bv,d4];exact hb⟩ |ob=>exact ⟨6,_,by decide,rfl,rfl,by simp only[Bv,d0];exact hb⟩ |rc j=>
     cases hv;refine ⟨4,_,by decide,rfl,rfl,?_⟩;simp only[fJ,hlen,if_pos hlt] at hb;simp only[Bv,h4];exact hb
    |de j=>
     cases hv;refine ⟨5,_,by decide,rfl,rfl,?_⟩;simp only[fJ,hlen,if_pos hlt,L'] at hb;simp_all [Bv]
   have mk:=VE (H':=H') (w':=w') (σ':=⟨many',σ.rs.set i r⟩) (L':=L') hA hown hW hH ⟨ϖ,ϖ,ϖ,ϖ,ϖ⟩ (fun _=>zx) p2 hob (by grind)
    ⟨ms1,Zd,s2,by
     have:(fun k=>((⟨many',σ.rs.set i r⟩:Au).H8 k).map fun i=>Es (L'.R i))=WL (Oh σ L) []:=by
      funext k;rw[hby k];rfl
     simp_all⟩
    ⟨ms2,Ze,t2,by
     have:(fun k=>((⟨many',σ.rs.set i r⟩:Au).KO k).map fun i=>Es (L'.R i))=WL (NJ σ L) uv2:=by
      rcases hbu with ⟨rfl,hb⟩ |⟨t,x,rfl,hb⟩
      ·obtain rfl:=RZ t4
       funext k;rw[hb k];rfl
      ·obtain rfl:=ars t4
       funext k;rw[hb k];simp only[WL];grind [NJ]
     simp_all⟩
    (fun j rj hj hv=>by
     cases hv;have:rj=r:=by
      simp_all
     subst this;simp only[L',if_true];exact ⟨r2,g2⟩)
    (fun j rj hj hv=>by
     have hne:¬j=i:=fun q=>hv (by rw[q];exact rfl);grind)
    (fun t b hv hb=>by
     obtain ⟨id,sb,_,_,a3,a4⟩:=hbl t b hv hb;exact ⟨((hh.ent _ _ a3).lt a4).2.1,((hh.ent _ _ a3).lt a4).2.2⟩)
    (fun s t b hs ht bs bt=>by
     obtain ⟨id,sb,a1,a2,a3,a4⟩:=hbl s b hs bs;obtain ⟨id',sb',b1,b2,b3,b4⟩:=hbl t b ht bt;have:=hh.GH _ _ _ _ _ a3 b3 a4 b4;simp_all)
   grind
end
open Go.BI Go.BX
section
variable{H H':Mem}{E E':Env}{w w':World}{n:Nat}{o:Nat->Oj}{σ σ':Au}{L L':Lay}
theorem als{own:Nat->Prop}(hA:D7 H w n (Am o) σ L)(hown:∀b,own b↔∃t,Vw aF t/\L.blk σ.rs.length t=aj b)
  {f1 f2:List (Int×Bool×SV)} (hh:Bc ⟨w,own,H⟩ H' E' w' (toN n σ.rs.length o σ.many (KP L.R) (Oh σ L) (NJ σ L) f1 f2).hp) (hW:EF ⟨w,own,H⟩ H' w') (hH:H.le H')
  (h0:E' 0=aj (Es L.p)) :
  ∃L',D7 H' w' n (Am o) σ L'/\L'.p=L.p/\∀t b,L'.blk σ.rs.length t=aj b->w.heap.size<=b\/∃t',L.blk σ.rs.length t'=aj b:=by
 obtain ⟨p,⟨cs⟩,p1,p2,p3,p4⟩:=hh.ent 0 _ rfl;match cs,p3 with
 |[u0,u1,u2,u3,u4],⟨d0,d1,d2,d3,d4,_⟩=>
  have d1:u1=.int .i64 σ.many:=d1;obtain ⟨d0,_⟩:E' 6=aj u0/\_:=d0;obtain ⟨d2,_⟩:E' 1=aj u2/\_:=d2;obtain ⟨b1,d3,d3'⟩:=d3;obtain ⟨b2,d4,d4'⟩:=d4;subst d1 d3' d4';rw[h0] at p1;have hp:L.p=p:=by
   grind [bP,Es]
  subst hp;have hob:∃xs,w'.ownsRow 0 94 2 u0 n xs/\CQ H' 2 n (Am o) xs:=by
   obtain ⟨v,xs,x1,x2,x3,_⟩:=hh.ent 6 _ rfl;grind
  obtain ⟨v2,xs,q1,q2,q3,q4⟩:=hh.ent 1 _ rfl;rw[d2] at q1;cases q1;obtain rfl:=TP q3;obtain ⟨b1',ms1,Zd,fv1,uv1,s1,s2,s3,s4,s5,s6,_,s7⟩:=hh.ent 2 _ rfl;rw[d3] at s1;cases s1;obtain rfl:=RZ s4;obtain ⟨b2',ms2,Ze,fv2,uv2,t1,t2,t3,t4,t5,t6,_,t7⟩:=hh.ent 3 _ rfl;rw[d4] at t1;cases t1;obtain rfl:=RZ t4;let L':Lay:=⟨L.p,u0,u2,b1,b2,L.R,L.D⟩
  have hbl:∀t b,Vw aF t->L'.blk σ.rs.length t=aj b->∃id sb,id<7/\Xc 0 id=t/\Aq (toN n σ.rs.length o σ.many (KP L.R) (Oh σ L) (NJ σ L) f1 f2).hp id=aj sb/\Bv E' id sb=aj b:=fun t b hv hb=>by
   cases t with
   |au=>exact ⟨0,_,by decide,rfl,rfl,by simp only[Bv,h0];exact hb⟩ |tx=>exact ⟨1,_,by decide,rfl,rfl,by simp only[Bv,d2];exact hb⟩ |NI=>exact ⟨2,_,by decide,rfl,rfl,by simp only[Bv,d3];exact hb⟩ |bu=>exact ⟨3,_,by decide,rfl,rfl,by simp only[Bv,d4];exact hb⟩ |ob=>exact ⟨6,_,by decide,rfl,rfl,by simp only[Bv,d0];exact hb⟩ |rc j=>cases hv |de j=>cases hv
  have mk:=VE (H':=H') (w':=w') (σ':=σ) (L':=L') hA hown hW hH ⟨ϖ,ϖ,ϖ,ϖ,ϖ⟩ (fun _=>zx) p2 hob q2 ⟨ms1,Zd,s2,s6⟩ ⟨ms2,Ze,t2,t6⟩
   (fun j rj hj hv=>by cases hv) (fun j rj hj hv=>⟨hj,rfl,rfl⟩)
   (fun t b hv hb=>by
    obtain ⟨id,sb,_,_,a3,a4⟩:=hbl t b hv hb;exact ⟨((hh.ent _ _ a3).lt a4).2.1,((hh.ent _ _ a3).lt a4).2.2⟩)
   (fun s t b hs ht bs bt=>by
    obtain ⟨id,sb,a1,a2,a3,a4⟩:=hbl s b hs bs;obtain ⟨id',sb',b1,b2,b3,b4⟩:=hbl t b ht bt;have:=hh.GH _ _ _ _ _ a3 b3 a4 b4;simp_all)
  grind
theorem ahh{t:Int}{x y:SV}{r:List (Int×Option Value)}(h:Hl H E [(t,ay,x),(t,ay,y)] r):∃u v,r=[(t,aj u),(t,aj v)]/\Den H E x u:=by
 match r,h with
 |[(k,p),(k',q)],⟨h1,h2,h3,h4,_⟩=>
  grind
 |[],h=>exact h.elim |[(_,_)],⟨_,_,h⟩=>exact h.elim |(_,_)::(_,_)::_::_,⟨_,_,_,_,h⟩=>exact h.elim
theorem abP{α:Type}{p:α->Bool}{l:List α}{i:Nat}(h:l.findIdx? p=aj i):i<l.length:=by
 simp_all [List.findIdx?_eq_some_iff_findIdx_eq]
theorem anW{own:Nat->Prop}(hA:D7 H w n (Am o) σ L)(hown:∀b,own b↔∃t,Vw aF t/\L.blk σ.rs.length t=aj b)
  {e:Ev} {many':Nat} {r:Rc} (hd:r.AA=[]) (hh:Bc ⟨w,own,H⟩ H' E' w' (toB n σ.rs.length o (KP L.R) (Oh σ L) (NJ σ L) e many' r.id r.th r.st r.bg r.en r.tr r.stand).hp) (hW:EF ⟨w,own,H⟩ H' w') (hH:H.le H')
  (h0:E' 0=aj (Es L.p)) (hby:∀k,(⟨many',σ.rs++[r]⟩:Au).H8 k=if k=e.tx then aj σ.rs.length else σ.H8 k) (hbu:∀k,(⟨many',σ.rs++[r]⟩:Au).KO k=if k=e.thread then aj σ.rs.length else σ.KO k) :
  ∃L',D7 H' w' n (Am o) ⟨many',σ.rs++[r]⟩ L'/\L'.p=L.p/\∀t b,L'.blk (σ.rs++[r]).length t=aj b->w.heap.size<=b\/∃t',L.blk σ.rs.length t'=aj b:=by
 obtain ⟨p,⟨cs⟩,p1,p2,p3,p4⟩:=hh.ent 0 _ rfl;match cs,p3 with
 |[u0,u1,u2,u3,u4],⟨d0,d1,d2,d3,d4,_⟩=>
  have d1:u1=.int .i64 many':=d1;obtain ⟨d0,_⟩:E' 6=aj u0/\_:=d0;obtain ⟨d2,_⟩:E' 1=aj u2/\_:=d2;obtain ⟨b1,d3,d3'⟩:=d3;obtain ⟨b2,d4,d4'⟩:=d4;subst d1 d3' d4';rw[h0] at p1;have hp:L.p=p:=by
   grind [bP,Es]
  subst hp;obtain ⟨pr,⟨cr⟩,r1,r2,r3,r4⟩:=hh.ent 4 _ rfl;have auY:∀{u:Value},Den H' E' (.ptr 4 0) u->u=Es pr:=fun {u} h=>by
   obtain ⟨b,h1,h2⟩:=h;rw[r1] at h1;cases h1;exact h2
  have hob:∃xs,w'.ownsRow 0 94 2 u0 n xs/\CQ H' 2 n (Am o) xs:=by
   obtain ⟨v,xs,x1,x2,x3,_⟩:=hh.ent 6 _ rfl;grind
  obtain ⟨v2,xs,ys,q1,q2,q3,q5,_,_,q4⟩:=hh.ent 1 _ rfl;rw[d2] at q1;cases q1;obtain rfl:=TP q3;match ys,q5 with
  |[y],⟨q5,_⟩=>
  obtain rfl:=auY q5;obtain ⟨b1',ms1,Zd,fv1,uv1,s1,s2,s3,s4,s5,s6,_,s7⟩:=hh.ent 2 _ rfl;rw[d3] at s1;cases s1;obtain ⟨x1,x2,rfl,x3⟩:=ahh s4;obtain rfl:=auY x3;obtain ⟨b2',ms2,Ze,fv2,uv2,t1,t2,t3,t4,t5,t6,_,t7⟩:=hh.ent 3 _ rfl;rw[d4] at t1;cases t1;obtain ⟨y1,y2,rfl,y3⟩:=ahh t4;obtain rfl:=auY y3;match cr,r3 with
  |[c0,c1,c2,c3,c4,c5,c6,c7],⟨e0,e1,e2,e3,e4,e5,e6,e7,_⟩=>
   have e0:c0=.int .i64 r.id:=e0;have e1:c1=.int .i64 r.th:=e1;have e2:c2=.int .i64 r.st:=e2;have e3:c3=.int .i64 r.bg:=e3;have e4:c4=.int .i64 r.en:=e4;have e5:c5=.int .i64 r.tr:=e5;have e6:c6=.slice aF 0 0:=e6;have e7:c7=.int .i64 r.stand:=e7;subst e0 e1 e2 e3 e4 e5 e6 e7;let L':Lay:=⟨L.p,u0,u2,b1,b2,fun j=>if j=σ.rs.length then pr else L.R j,fun j=>if j=σ.rs.length then .slice aF 0 0 else L.D j⟩
   have hlen:(σ.rs++[r]).length=σ.rs.length+1:=by simp
   have hown':∀b,own b↔∃t,Vw (aj σ.rs.length) t/\L.blk σ.rs.length t=aj b:=fun b=>by
    rw[hown b];constructor
    ·rintro ⟨t,h1,h2⟩
     refine ⟨t,?_,h2⟩;cases t with
     |rc j=>cases h1 |de j=>cases h1 |_=>trivial
    ·rintro ⟨t,h1,h2⟩
     refine ⟨t,?_,h2⟩;cases t with
     |rc j=>cases h1;simp[fJ] at h2 |de j=>cases h1;simp[fJ] at h2 |_=>trivial
   have hbl:∀t b,Vw (aj σ.rs.length) t->L'.blk (σ.rs++[r]).length t=aj b->∃id sb,id<7/\Xc σ.rs.length id=t/\Aq (toB n σ.rs.length o (KP L.R) (Oh σ L) (NJ σ L) e many' r.id r.th r.st r.bg r.en r.tr r.stand).hp id=aj sb/\Bv E' id sb=aj b:=fun t b hv hb=>by
    cases t with
    |au=>exact ⟨0,_,by decide,rfl,rfl,by simp only[Bv,h0];exact hb⟩ |tx=>exact ⟨1,_,by decide,rfl,rfl,by simp only[Bv,d2];exact hb⟩ |NI=>exact ⟨2,_,by decide,rfl,rfl,by simp only[Bv,d3];exact hb⟩ |bu=>exact ⟨3,_,by decide,rfl,rfl,by simp only[Bv,d4];exact hb⟩ |ob=>exact ⟨6,_,by decide,rfl,rfl,by simp only[Bv,d0];exact hb⟩ |rc j=>
     cases hv;refine ⟨4,_,by decide,rfl,rfl,?_⟩;simp[fJ,L'] at hb;simp only[Bv,r1];rw[<-hb];rfl
    |de j=>
     cases hv;grind [fJ,Ba]
   have hR:∀j,j<σ.rs.length->L'.R j=L.R j:=fun j hj=>if_neg (by omega);have hmap:∀(f:Option Nat),(∀j,f=aj j->j<σ.rs.length)->(f.map fun i=>Es (L'.R i))=f.map fun i=>Es (L.R i):=fun f hf=>by
    cases f with
    |none=>rfl |some j=>simp_all
   have mk:=VE (H':=H') (w':=w') (σ':=⟨many',σ.rs++[r]⟩) (L':=L') hA hown' hW hH ⟨ϖ,ϖ,ϖ,ϖ,ϖ⟩ (fun _=>zx) p2 hob
    (by
     grind [aU,Es,wG,iJ])
    ⟨ms1,Zd,s2,by
     have:(fun k=>((⟨many',σ.rs++[r]⟩:Au).H8 k).map fun i=>Es (L'.R i))=WL (Oh σ L) [(e.tx,aj (Es pr)),(e.tx,aj x2)]:=by
      funext k;rw[hby k];simp only[WL];by_cases hk:k=e.tx
      ·simp[hk,L']
      ·rw[if_neg hk,if_neg hk,if_neg hk]
       exact hmap _ fun j hj=>abP hj
     simp_all⟩
    ⟨ms2,Ze,t2,by
     have:(fun k=>((⟨many',σ.rs++[r]⟩:Au).KO k).map fun i=>Es (L'.R i))=WL (NJ σ L) [(e.thread,aj (Es pr)),(e.thread,aj y2)]:=by
      funext k;rw[hbu k];simp only[WL];by_cases hk:k=e.thread
      ·simp[hk,L']
      ·rw[if_neg hk,if_neg hk,if_neg hk]
       exact hmap _ fun j hj=>abP hj
     simp_all⟩
    (fun j rj hj hv=>by
     cases hv;have:rj=r:=by simp_all
     subst this;simp only[L',if_true];refine ⟨r2,?_⟩;simp_all [RD])
    (fun j rj hj hv=>by
     have hne:¬j=σ.rs.length:=fun q=>hv (by rw[q];exact rfl);grind)
    (fun t b hv hb=>by
     obtain ⟨id,sb,_,_,a3,a4⟩:=hbl t b hv hb;exact ⟨((hh.ent _ _ a3).lt a4).2.1,((hh.ent _ _ a3).lt a4).2.2⟩)
    (fun s t b hs ht bs bt=>by
     obtain ⟨id,sb,a1,a2,a3,a4⟩:=hbl s b hs bs;obtain ⟨id',sb',b1,b2,b3,b4⟩:=hbl t b ht bt;have:=hh.GH _ _ _ _ _ a3 b3 a4 b4;simp_all)
   grind
end
end Go.Sx
namespace Go.BI
open Go Go.Sx
theorem OI{α:Type}{p:α->Bool}{x:α}:∀{l:List α} {i:Nat} {y:α},l[i]?=aj y->p x=p y->(l.set i x).findIdx? p=l.findIdx? p
 |[],_,_,h,_=>by simp at h |a::l,0,y,h,hp=>by
  grind
 |a::l,i+1,y,h,hp=>by
  simp only[List.set_cons_succ,sF];rw[OI (l:=l) (by simpa using h) hp]
theorem VF{α:Type}{p:α->Bool}:∀{l:List α} {i:Nat},l.findIdx? p=aj i->∃y,l[i]?=aj y/\p y=ay
 |[],_,h=>by simp at h |a::l,i,h=>by
  rw[sF] at h;cases ha:p a with
  |true=>grind |false=>
   rw[ha] at h;simp at h;obtain ⟨j,hj,rfl⟩:=h;obtain ⟨y,h1,h2⟩:=VF hj;simp_all
theorem alu{α:Type}{p:α->Bool}{l:List α}(h:∀(i:Nat) (y:α),l[i]?=aj y->p y=aA):l.findIdx? p=aF:=by
 rw[oN];intro x hx;obtain ⟨i,hi,rfl⟩:=List.getElem_of_mem hx;exact h i _ (aV hi)
theorem af8{α:Type}{p:α->Bool}{x:α}:∀{l:List α},(l++[x]).findIdx? p=match l.findIdx? p with|some i=>aj i|none=>if p x then aj l.length else aF
 |[]=>by rfl |a::l=>by
  grind
theorem TQ{many:Nat}{e:Ev}{r r':Rc}(h:fD many e r=.inr r'):r'.id=r.id/\r'.th=r.th:=by
 grind [fD]
theorem XR{many:Nat}{e:Ev}{r r':Rc}(h:fD many e r=.inr r')(hk:2<=e.kind/\e.kind<=7)(_hs:1<=r.stand/\r.stand<=5):r.live=ay/\(1<=r'.stand/\r'.stand<=5)/\(r'.live=ay↔¬(e.kind=5\/e.kind=6)):=by
 unfold fD at h;unfold Rc.live;(by_cases k2:e.kind=2)<;>grind
end Go.BI
namespace Go.BX
open Go Go.Sx Go.BI
def auZ(H:Mem):Option Nat->Value->Prop
 |none,v=>v=.nilIface |some k,v=>Rep H (.er k 322) v
theorem aey{H:Mem}{E:Env}{x:Option Nat}{v:Value}(h:Den H E (svE x) v):auZ H x v:=by
 cases x with
 |none=>exact h |some k=>exact h
def VG(L:Lay)(k:Nat):Nat->Prop:=fun b=>∃t,L.blk k t=aj b
def Wv(H:Mem)(w:World)(n:Nat)(o:Nat->Oj)(σ:Au)(L:Lay)(x:Option Nat)(σ':Au)(en:Ending)(w':World):Prop:=
 ∃v H' L',en=.returned v/\auZ H' x v/\D7 H' w' n (Am o) σ' L'/\L'.p=L.p/\(∀t b,L'.blk σ'.rs.length t=aj b->w.heap.size<=b\/VG L σ.rs.length b)/\H.le H'/\EF ⟨w,VG L σ.rs.length,H⟩ H' w'
theorem Wx{w w':World}{H H':Mem}{own own':Nat->Prop}(h:EF ⟨w,own,H⟩ H' w')(ho:∀b,own b->own' b):EF ⟨w,own',H⟩ H' w':=
 ⟨h.os,h.tape,h.output,h.size,fun b hb hn=>h.kept b hb fun q=>hn (ho b q),h.on,h.le,fun b hb=>by
  (rcases h.fresh b hb with q|q|q)<;>simp_all⟩
def evV(e:Ev):Value:=.agg #[.int .i64 e.kind,.int .i64 e.tx,.int .i64 e.thread,.int .i64 e.obj,.int .i64 e.op,.int .i64 e.key,.int .i64 e.val,.int .i64 e.ret]
@[irreducible] def apD (H:Mem) (E:Env) (l:List SV) (vs:List Value):Prop:=AP H E l vs
theorem alv{H:Mem}{E:Env}{l:List SV}{vs:List Value}:apD H E l vs=AP H E l vs:=by unfold apD;rfl
theorem VH{P:Program}{C:Ctx}{H:Mem}{E:Env}{w:World}(hC:BP P C)(hF:BJ P C){n g:Nat}{fn:Func}{c:Core}{args:Array Value}{ts:List Tt}{φ:SV->Nat->Prop}(hfn:C.fns.get g=aj fn)(hb:fn.body.isSome=ay)
  (hd:apD H E c.tm (args++dX (fn.ntmps - args.size) undef).toList) (hh:Bc ⟨w,Oa E c.hp,H⟩ H E w c.hp) (hon:H.on w) (hfree:Free E c) (hg:DI C.gls H)
  (h:Wq (adL ts φ) ((run C n ay g [.code []] c).bind (toEnd ts))) :
  Calls P g args w fun e w'=>∃v sv k t H' E1 E',e=.returned v/\φ sv k/\ts[k]?=aj t/\Den H' E1 sv v/\Bc ⟨w,Oa E c.hp,H⟩ H' E' w' t.hp/\EF ⟨w,Oa E c.hp,H⟩ H' w'/\H.le H'/\∀i∈t.keep,∀u,E i=aj u->E' i=aj u:=by
 grind [alv,anq]
theorem au0(a b u:Value)(k:Nat):(#[a,b]++dX k u).toList=[a,b]++dD k u:=by simp
theorem aiO{H:Mem}{E:Env}{L:Lay}{e:Ev}{kind:Int}{hp:List (Nat×SB)}(hk:e.kind=kind)(h0:E 0=aj (Es L.p)):apD H E (LA kind e hp).tm (#[Es L.p,evV e]++dX (iO.ntmps - #[Es L.p,evV e].size) undef).toList:=by
 have hn:iO.ntmps=168:=by kernel_rfl
 rw[alv,hn,au0];have e1:(LA kind e hp).tm=[.ptr 0 0,evS kind e]++dD 166 .any:=rfl;have e3:168 - #[Es L.p,evV e].size=166:=rfl;rw[e1,e3];refine AP.append ⟨⟨L.p,by rw[h0];rfl,rfl⟩,⟨_,rfl,⟨by rw[<-hk];rfl,rfl,rfl,rfl,rfl,rfl,rfl,rfl,ϖ⟩⟩,ϖ⟩ (AP.any _ _ ?_);rfl
theorem XT{L:Lay}{i:Option Nat}{c:Core}(h:c.nx=7):Free (JI L i) c:=fun id h1 _=>by
 rw[h] at h1;match id,h1 with
 |id+7,_=>rfl
section
variable{H:Mem}{w:World}{n:Nat}{o:Nat->Oj}{σ:Au}{L:Lay}{e:Ev}
theorem ahi(hA:D7 H w n (Am o) σ L)(hon:H.on w)(hg:DI (NH W5) H){i:Nat}{r:Rc}(hi:σ.rs[i]?=aj r)(hby:σ.H8 e.tx=aj i){kind:Int}(hk:e.kind=kind){ts:List Tt}{φ:SV->Nat->Prop}
  (hrun:FdM kind e (hpF n σ.rs.length o σ.many (KP L.R) (Oh σ L) (NJ σ L) e r) ts φ)
  {x:Option Nat} {many':Nat} {r':Rc} (hid:r'.id=r.id)
  (hts:∀sv k t,φ sv k->ts[k]?=aj t->sv=svE x/\∃us,t=Qy n σ.rs.length o (KP L.R) (Oh σ L) (NJ σ L) e many' r' us/\apC σ ⟨many',σ.rs.set i r'⟩ us) :
  Calls ak 77 #[Es L.p,evV e] w (Wv H w n o σ L x ⟨many',σ.rs.set i r'⟩):=by
 have hown:=auW (f1:=[(e.tx,ay,.ptr 4 0)]) (f2:=[]) hA hi;have aez:=arq (own:=Oa (JI L (aj i)) (Ls n o σ L [(e.tx,ay,.ptr 4 0)] []++Xb r)) hA hi (fun t b h1 h2=>(hown b).2 ⟨t,h1,h2⟩) (f1:=[(e.tx,ay,.ptr 4 0)]) (f2:=[]) (v1:=[(e.tx,aj (Es (L.R i)))]) (v2:=[])
  ⟨rfl,⟨⟨L.R i,rfl,rfl⟩,rfl⟩,ϖ⟩ trivial (fun k u hm=>by
   simp at hm;obtain ⟨rfl,rfl⟩:=hm;simp[Oh,hby]) (fun k u hm=>by simp at hm)
 have hd:=aiO (H:=H) (E:=JI L (aj i)) (L:=L) (hp:=hpA n σ.rs.length o σ.many (KP L.R) (Oh σ L) (NJ σ L) [(e.tx,ay,.ptr 4 0)] []++Xb r) hk rfl;refine (VH (args:=#[Es L.p,evV e]) (fn:=iO) (c:=LA kind e (hpA n σ.rs.length o σ.many (KP L.R) (Oh σ L) (NJ σ L) [(e.tx,ay,.ptr 4 0)] []++Xb r)) (C5.ok _ _) (VD _) (by kernel_rfl) (by kernel_rfl) hd aez hon (XT rfl) hg hrun).mono fun en w' ⟨v,sv,k,t,H',E1,E',h1,h2,h3,h4,h5,h6,h7,h8⟩=>?_;obtain ⟨hsv,us,rfl,hus⟩:=hts sv k t h2 h3;subst hsv;obtain ⟨L',a1,a2,a3⟩:=anV hA hi hown h5 h6 h7 (h8 0 (by simp[Qy,toR]) _ rfl) (h8 4 (by simp[Qy,toR]) _ rfl)
  (fun k=>OI hi (by simp[hid])) hus
 exact ⟨v,H',L',h1,aey h4,a1,a2,a3,h7,Wx h6 fun b hb=>by
  obtain ⟨t,_,q⟩:=(hown b).1 hb;exact ⟨t,q⟩⟩
theorem aeA(hA:D7 H w n (Am o) σ L)(hon:H.on w)(hg:DI (NH W5) H)(hby:σ.H8 e.tx=aF){kind:Int}(hk:e.kind=kind){f2:List (Int×Bool×SV)}{v2:List (Int×Option Value)}(d2:Hl H (JI L aF) f2 v2)(m2:∀k u,(k,u)∈v2->NJ σ L k=u){x:Option Nat}
  (hrun:FdM kind e (hpA n σ.rs.length o σ.many (KP L.R) (Oh σ L) (NJ σ L) [(e.tx,aA,.any)] f2) [toN n σ.rs.length o σ.many (KP L.R) (Oh σ L) (NJ σ L) [(e.tx,aA,.any)] f2] fun sv k=>sv=svE x/\k=0) :
  Calls ak 77 #[Es L.p,evV e] w (Wv H w n o σ L x σ):=by
 have hown:=ahg (n:=n) (o:=o) (σ:=σ) (L:=L) (f1:=[(e.tx,aA,.any)]) (f2:=f2);have aez:=aex (own:=Oa (JI L aF) (Ls n o σ L [(e.tx,aA,.any)] f2)) hA (fun t b h1 h2=>(hown b).2 ⟨t,h1,h2⟩) (f1:=[(e.tx,aA,.any)]) (f2:=f2) (v1:=[(e.tx,aF)]) (v2:=v2)
  ⟨rfl,ϖ,ϖ⟩ d2 (fun k u hm=>by
   simp at hm;obtain ⟨rfl,rfl⟩:=hm;simp[Oh,hby]) m2
 have hd:=aiO (H:=H) (E:=JI L aF) (L:=L) (hp:=hpA n σ.rs.length o σ.many (KP L.R) (Oh σ L) (NJ σ L) [(e.tx,aA,.any)] f2) hk rfl;refine (VH (args:=#[Es L.p,evV e]) (fn:=iO) (c:=LA kind e (hpA n σ.rs.length o σ.many (KP L.R) (Oh σ L) (NJ σ L) [(e.tx,aA,.any)] f2)) (C5.ok _ _) (VD _) (by kernel_rfl) (by kernel_rfl) hd aez hon (XT rfl) hg hrun).mono fun en w' ⟨v,sv,k,t,H',E1,E',h1,h2,h3,h4,h5,h6,h7,h8⟩=>?_;obtain ⟨rfl,rfl⟩:=h2;cases h3;obtain ⟨L',a1,a2,a3⟩:=als hA hown h5 h6 h7 (h8 0 (by simp[toN]) _ rfl);exact ⟨v,H',L',h1,aey h4,a1,a2,a3,h7,Wx h6 fun b hb=>by
  obtain ⟨t,_,q⟩:=(hown b).1 hb;exact ⟨t,q⟩⟩
theorem aaI(hA:D7 H w n (Am o) σ L)(hon:H.on w)(hg:DI (NH W5) H)(hm:σ.many<400)(hl:σ.rs.length<=1000)(hby:σ.H8 e.tx=aF)(hbu:σ.KO e.thread=aF)(hk:e.kind=1)(hv:Du e=ay):
  Calls ak 77 #[Es L.p,evV e] w (Wv H w n o σ L aF ⟨σ.many+1,σ.rs++[⟨e.tx,e.thread,1,σ.many,-1,-1,[],1⟩]⟩):=by
 have hown:=ahg (n:=n) (o:=o) (σ:=σ) (L:=L) (f1:=[(e.tx,aA,.any)]) (f2:=[(e.thread,aA,.any)]);have aez:=aex (own:=Oa (JI L aF) (Ls n o σ L [(e.tx,aA,.any)] [(e.thread,aA,.any)])) hA (fun t b h1 h2=>(hown b).2 ⟨t,h1,h2⟩) (f1:=[(e.tx,aA,.any)]) (f2:=[(e.thread,aA,.any)]) (v1:=[(e.tx,aF)]) (v2:=[(e.thread,aF)])
  ⟨rfl,ϖ,ϖ⟩ ⟨rfl,ϖ,ϖ⟩ (fun k u hm=>by
   simp at hm;obtain ⟨rfl,rfl⟩:=hm;simp[Oh,hby]) (fun k u hm=>by
   simp at hm;obtain ⟨rfl,rfl⟩:=hm;simp[NJ,hbu])
 have hd:=aiO (H:=H) (E:=JI L aF) (L:=L) (hp:=hpA n σ.rs.length o σ.many (KP L.R) (Oh σ L) (NJ σ L) [(e.tx,aA,.any)] [(e.thread,aA,.any)]) hk rfl;refine (VH (args:=#[Es L.p,evV e]) (fn:=iO) (c:=LA 1 e (hpA n σ.rs.length o σ.many (KP L.R) (Oh σ L) (NJ σ L) [(e.tx,aA,.any)] [(e.thread,aA,.any)])) (C5.ok _ _) (VD _) (by kernel_rfl) (by kernel_rfl) hd aez hon (XT rfl) hg (auR hm hl hk hv)).mono fun en w' ⟨v,sv,k,t,H',E1,E',h1,h2,h3,h4,h5,h6,h7,h8⟩=>?_;obtain ⟨rfl,rfl⟩:=h2;cases h3;obtain ⟨L',a1,a2,a3⟩:=anW (r:=⟨e.tx,e.thread,1,σ.many,-1,-1,[],1⟩) hA hown rfl h5 h6 h7 (h8 0 (by simp[toB]) _ rfl)
  (fun k=>by
   grind [Au.H8])
  (fun k=>by
   show (σ.rs++[_]).findIdx? _=_;rw[af8];by_cases q:k=e.thread
   ·subst q
    rw[if_pos rfl,show σ.rs.findIdx? (fun r=>r.th==e.thread&&r.live)=aF from hbu];simp[Rc.live]
   grind [Au.KO])
 exact ⟨v,H',L',h1,aey h4,a1,a2,a3,h7,Wx h6 fun b hb=>by
  obtain ⟨t,_,q⟩:=(hown b).1 hb;exact ⟨t,q⟩⟩
end
end Go.BX
namespace Go.BI
open Go Go.Sx
theorem Wy{α:Type}{l:List α}{i:Nat}{x:α}(h:l[i]?=aj x):l.set i x=l:=by
 apply l7;grind
theorem aru(many:Nat)(e:Ev)(r:Rc):(jB many e r).2.2.id=r.id:=by
 grind [jB,fD,TQ]
theorem Ju{σ:Au}{e:Ev}{i:Nat}{r:Rc}(hi:σ.rs[i]?=aj r)(hby:σ.H8 e.tx=aj i)(hk:¬e.kind=1):σ.feed e=((jB σ.many e r).1,⟨(jB σ.many e r).2.1,σ.rs.set i (jB σ.many e r).2.2⟩):=by
 have h1:(e.kind==1)=aA:=by grind
 have hr:σ.rs.getD i ⟨0,0,0,0,0,0,[],0⟩=r:=by simp_all
 unfold kU;rw[hby];simp only[h1,ϗ,hr];unfold jB;cases h:fD σ.many e r with
 |inl k=>simp only[Wy hi] |inr r'=>rfl
theorem QA{e:Ev}(h:Du e=ay):1<=e.kind/\e.kind<=7:=by
 unfold Du at h;simp only[aB] at h;have:=ϑ h.1.1;exact this.1
end Go.BI
namespace Go.BX
open Go Go.Sx Go.BI
theorem au1{σ:Au}{i:Nat}{r:Rc}{e:Ev}(hi:σ.rs[i]?=aj r)(hs:1<=r.stand/\r.stand<=5)(hk:2<=e.kind/\e.kind<=7)(hn:¬(e.kind=5\/e.kind=6)\/(jB σ.many e r).1.isNone=aA):apC σ ⟨(jB σ.many e r).2.1,σ.rs.set i (jB σ.many e r).2.2⟩ []:=by
 refine .inl ⟨rfl,fun k=>?_⟩;unfold jB at hn ⊢;cases h:fD σ.many e r with
 |inl x=>simp only[Wy hi] |inr r'=>
  rw[h] at hn;have hn:¬(e.kind=5\/e.kind=6):=by grind
  obtain ⟨l1,l2,l3⟩:=XR h hk hs;exact OI hi (by rw[(TQ h).2,l1,l3.2 hn])
theorem ax0{σ:Au}(hI:σ.OK){i:Nat}{r:Rc}{e:Ev}(hi:σ.rs[i]?=aj r)(hk:e.kind=5\/e.kind=6)(hn:(jB σ.many e r).1.isNone=ay):apC σ ⟨(jB σ.many e r).2.1,σ.rs.set i (jB σ.many e r).2.2⟩ [(r.th,aA,.any)]:=by
 refine .inr ⟨r.th,.any,rfl,fun k=>?_⟩;unfold jB at hn ⊢;cases h:fD σ.many e r with
 |inl x=>simp_all |inr r'=>
  obtain ⟨l1,l2,l3⟩:=XR h (by omega) (hI.stands i r hi);have hl:r'.live=aA:=by
   simp_all
  have ht:=(TQ h).2;have hlt:=(bf.1 hi).1;by_cases q:k=r.th
  ·rw[if_pos q]
   subst q;refine alu fun j y hj=>?_
   rw[tY] at hj;by_cases e1:i=j
   ·simp_all
   ·rw[if_neg e1] at hj
    cases h1:(y.th==r.th&&y.live) with
    |false=>rfl |true=>
     simp only[aB,ϡ] at h1;exact (e1 (hI.one i j r y hi hj h1.1.symm l1 h1.2)).elim
  ·rw[if_neg q]
   refine OI hi ?_;grind
section
variable{H:Mem}{w:World}{n:Nat}{o:Nat->Oj}{σ:Au}{L:Lay}{e:Ev}
theorem ts1{t0 t:Tt}{k:Nat}(h:[t0][k]?=aj t)(hk:k=0):t=t0:=by
 simp_all
theorem au2(hA:D7 H w n (Am o) σ L)(hI:σ.OK)(hon:H.on w)(hg:DI (NH W5) H)(hm:σ.many<400)(hv:Du e=ay)(hob:e.kind=2->0<=e.obj/\e.obj<n/\PW e.op=(o e.obj.toNat).kind):
  Calls ak 77 #[Es L.p,evV e] w (Wv H w n o σ L (σ.feed e).1 (σ.feed e).2):=by
 have hkd:=QA hv;have hlen:=hI.len;cases hby:σ.H8 e.tx with
 |some i=>
  obtain ⟨r,hi,hp⟩:=VF hby
  have hdl:=hI.dl i r hi;by_cases k1:e.kind=1
  ·have e1:σ.feed e=(aj 8,σ):=by
    simp_all [kU]
   rw[e1];have:=ahi hA hon hg hi hby k1 (auQ (n:=n) (o:=o) hm k1 hv r) (x:=aj 8) (many':=σ.many) (r':=r) rfl fun sv k t h1 h2=>⟨h1.1,[],ts1 h2 h1.2,.inl ⟨rfl,fun k=>by rw[Wy hi]⟩⟩;simp_all [Wy]
  ·rw[Ju hi hby k1]
   have hst:=hI.stands i r hi;exact ahi hA hon hg hi hby rfl (aAS hm (by omega) hkd.2 hv r (by omega) hob (hI.deed i r hi)) (aru _ _ _) fun sv k t h1 h2=>by
    obtain ⟨a,rfl⟩:=h1;refine ⟨a,?_⟩;cases hn:(e.kind==5||e.kind==6)&&(jB σ.many e r).1.isNone with
    |true=>
     rw[hn] at h2;cases h2;rw[aB,lN,ϡ,ϡ] at hn;exact ⟨_,rfl,ax0 hI hi hn.1 hn.2⟩
    |false=>
     rw[hn] at h2;cases h2;exact ⟨_,rfl,au1 hi hst (by omega) (by grind)⟩
 |none=>
  by_cases k1:e.kind=1
  ·have hb:(e.kind==1)=ay:=by grind
   cases hbu:σ.KO e.thread with
   |some j=>
    have e1:σ.feed e=(aj 9,σ):=by
     simp_all [kU]
    rw[e1];exact aeA hA hon hg hby k1 (f2:=[(e.thread,ay,.val (.pointer (aj ⟨L.R j,0,aF⟩)))]) (v2:=[(e.thread,aj (Es (L.R j)))]) ⟨rfl,⟨⟨rfl,rfl⟩,rfl⟩,ϖ⟩ (fun k u hm=>by
     simp at hm;obtain ⟨rfl,rfl⟩:=hm;simp[NJ,hbu]) (axX hm k1 hv (L.R j))
   |none=>
    have e1:σ.feed e=(aF,⟨σ.many+1,σ.rs++[⟨e.tx,e.thread,1,σ.many,-1,-1,[],1⟩]⟩):=by
     simp_all [kU]
    grind [aaI]
  ·have hb:(e.kind==1)=aA:=by grind
   have e1:σ.feed e=(aj 10,σ):=by
    grind [kU]
   rw[e1];exact aeA hA hon hg hby rfl (f2:=[]) (v2:=[]) trivial (fun k u hm=>by simp at hm) (axW hm (by omega) hkd.2 hv hob)
end
end Go.BX
namespace Go.BI
open Go Go.Sx
theorem alx{many:Nat}{e:Ev}{r r':Rc}(h:fD many e r=.inr r')(_hd:r.stand=2->r.AA≠[]):(r'.stand=2->r'.AA≠[])/\r'.AA.length<=r.AA.length+1:=by
 unfold fD at h;have hup:∀(f:De->De) (l:List De),(FC f l).length=l.length:=fun f l=>by
  induction l with
  |nil=>rfl |cons x l ih=>cases l with
   |nil=>rfl |cons y l=>grind [FC]
 grind
theorem Au.OK.feed{σ:Au}(hI:σ.OK){e:Ev}(hv:Du e=ay):(σ.feed e).2.OK:=by
 have hkd:=QA hv;unfold kU;cases hby:σ.H8 e.tx with
 |some i=>
  obtain ⟨r,hi,hp⟩:=VF hby
  have hr:σ.rs.getD i ⟨0,0,0,0,0,0,[],0⟩=r:=by simp_all
  have hlt:=(bf.1 hi).1;by_cases k1:e.kind=1
  ·simp_all
  have b1:(e.kind==1)=aA:=by grind
  simp only[b1,ϗ,hr];cases h:fD σ.many e r with
  |inl k=>exact hI |inr r'=>
   show Au.OK ⟨σ.many+1,σ.rs.set i r'⟩;obtain ⟨l1,l2,l3⟩:=XR h (by omega) (hI.stands i r hi);obtain ⟨d1,d2⟩:=alx h (hI.deed i r hi);have hk:=(TQ h).2;have at_:∀{j:Nat} {s:Rc},(σ.rs.set i r')[j]?=aj s->(j=i/\s=r')\/(j≠i/\σ.rs[j]?=aj s):=fun {j s} hj=>by
    grind
   refine ⟨fun a b x y ha hb ht hx hy=>?_,fun a x ha=>?_,fun a x ha=>?_,by simp;have:=hI.len;omega,fun a x ha=>?_⟩
   ·rcases at_ ha with ⟨rfl,rfl⟩ |⟨n1,ha'⟩
    ·rcases at_ hb with ⟨rfl,rfl⟩ |⟨n2,hb'⟩
     ·rfl
     ·exact hI.one _ _ r y hi hb' (by omega) l1 hy
    ·rcases at_ hb with ⟨rfl,rfl⟩ |⟨n2,hb'⟩
     ·exact hI.one _ _ x r ha' hi (by omega) hx l1
     ·exact hI.one _ _ x y ha' hb' ht hx hy
   ·rcases at_ ha with ⟨rfl,rfl⟩ |⟨n1,ha'⟩
    ·exact d1
    ·exact hI.deed _ _ ha'
   ·rcases at_ ha with ⟨rfl,rfl⟩ |⟨n1,ha'⟩
    ·exact l2
    ·exact hI.stands _ _ ha'
   ·rcases at_ ha with ⟨rfl,rfl⟩ |⟨n1,ha'⟩
    ·have:=hI.dl _ _ hi
     grind
    ·have:=hI.dl _ _ ha'
     grind
 |none=>
  by_cases k1:e.kind=1
  ·simp only[k1,beq_self_eq_true,ϰ]
   cases hbu:σ.KO e.thread with
   |some j=>exact hI |none=>
    show Au.OK ⟨σ.many+1,σ.rs++[⟨e.tx,e.thread,1,σ.many,-1,-1,[],1⟩]⟩;have hno:∀(j:Nat) (s:Rc),σ.rs[j]?=aj s->s.th=e.thread->s.live=ay->False:=fun j s hj ht hl=>by
     have:=oN.1 hbu s (List.mem_of_getElem? hj);simp_all
    have at_:∀{j:Nat} {s x:Rc},(σ.rs++[x])[j]?=aj s->(j=σ.rs.length/\s=x)\/(j<σ.rs.length/\σ.rs[j]?=aj s):=fun {j s x} hj=>by
     grind
    refine ⟨fun a b x y ha hb ht hx hy=>?_,fun a x ha=>?_,fun a x ha=>?_,by simp;have:=hI.len;omega,fun a x ha=>?_⟩
    ·rcases at_ ha with ⟨rfl,rfl⟩ |⟨n1,ha'⟩
     ·grind
     ·rcases at_ hb with ⟨rfl,rfl⟩ |⟨n2,hb'⟩
      ·grind
      ·exact hI.one _ _ x y ha' hb' ht hx hy
    ·rcases at_ ha with ⟨rfl,rfl⟩ |⟨n1,ha'⟩
     ·simp
     ·exact hI.deed _ _ ha'
    ·rcases at_ ha with ⟨rfl,rfl⟩ |⟨n1,ha'⟩
     ·simp
     ·exact hI.stands _ _ ha'
    ·rcases at_ ha with ⟨rfl,rfl⟩ |⟨n1,ha'⟩
     ·simp
     ·have:=hI.dl _ _ ha'
      grind
  grind
def Au.nil:Au:=⟨0,[]⟩
theorem Au.OK.nil:Au.nil.OK:=⟨fun i j r s h=>by simp[Au.nil] at h,fun i r h=>by simp[Au.nil] at h,fun i r h=>by simp[Au.nil] at h,bM _,fun i r h=>by simp[Au.nil] at h⟩
theorem TR{σ:Au}{e:Ev}(h:(σ.feed e).1=aF):(σ.feed e).2.many=σ.many+1:=by
 grind [kU]
end Go.BI
namespace Go.BX
open Go Go.Sx Go.BI
theorem au3{H H':Mem}{n:Nat}{o:Nat->Oj}{xs:List Value}(h:CQ H 2 n (Am o) xs):CQ H' 2 n (Am o) xs:=
 ⟨h.1,h.2.1,h.2.2.1,fun i j s v hi h1 h2=>by
  have:=h.2.2.2 i j s v hi h1 h2;have hs:∃k,s=.i .i64 k:=by
   match j,h1 with
   |0,h1=>exact ⟨_,(bP h1).symm⟩ |1,h1=>exact ⟨_,(bP h1).symm⟩ |j+2,h1=>simp[Am,Row.put,obR] at h1
  obtain ⟨k,rfl⟩:=hs;cases this;exact .i _ _⟩
def MW(n:Nat)(o:Nat->Oj)(σ:Au)(p:Nat):Hp->Prop:=fun h=>
 ∃L:Lay,L.p=p/\(∀b,h b≠aF↔VG L σ.rs.length b)/\∀(H:Mem) (w:World),h.at H w->D7 H w n (Am o) σ L
theorem D7.hide{H:Mem}{w:World}{n:Nat}{o:Nat->Oj}{σ:Au}{L:Lay}(hA:D7 H w n (Am o) σ L):∃h:Hp,MW n o σ L.p h/\h.at H w/\∀b,h b≠aF↔VG L σ.rs.length b:=by
 classical
 have hlt:∀{b},VG L σ.rs.length b->∃o,w.heap[b]?=aj o:=fun {b} ⟨t,ht⟩=>⟨_,oC (hA.lt ht)⟩;have hne:∀b,(if VG L σ.rs.length b then w.heap[b]? else aF)≠aF↔VG L σ.rs.length b:=fun b=>by
  grind
 refine ⟨fun b=>if VG L σ.rs.length b then w.heap[b]? else aF,⟨L,rfl,hne,fun H' w' hat=>?_⟩,fun b o e=>?_,hne⟩
 ·have at_:∀t b,L.blk σ.rs.length t=aj b->w'.heap[b]?=w.heap[b]?/\H' b=aF:=fun t b hb=>by
   obtain ⟨o,ho⟩:=hlt ⟨t,hb⟩;have:=hat b o ((if_pos (⟨t,hb⟩:VG L σ.rs.length b)).trans ho);simp_all
  have h0:D7 (fun _=>aF) w n (Am o) σ L:=⟨hA.au,let ⟨xs,h1,h2⟩:=hA.ob;⟨xs,h1,au3 h2⟩,hA.tx,hA.NI,hA.bu,hA.rc,hA.de,hA.GH,fun _ _ _=>rfl⟩;exact h0.keep (fun _ _ e=>by cases e) (fun t b hb=>(at_ t b hb).1) fun t b hb=>(at_ t b hb).2
 ·by_cases q:VG L σ.rs.length b
  ·simp only[if_pos q] at e
   exact ⟨e,let ⟨t,ht⟩:=q;hA.un t b ht⟩
  simp_all
theorem aAU{n:Nat}{o:Nat->Oj}{σ:Au}{p:Nat}{e:Ev}{es:SV}(hes:∀H E v,Den H E es v->v=evV e)(hI:σ.OK)(hm:σ.many<400)(hv:Du e=ay)(hob:e.kind=2->0<=e.obj/\e.obj<n/\PW e.op=(o e.obj.toNat).kind):
  apa ak (NH W5) 77 [.val (Es p),es] (MW n o σ p) (svE (σ.feed e).1) (MW n o (σ.feed e).2 p):=by
 intro H E w vs h hd hon hg ⟨L,hp,hblk,hA⟩ hat;match vs,hd with
 |[v1,v2],⟨d1,d2,_⟩=>
  obtain ⟨rfl,_⟩:=d1;obtain rfl:=hes _ _ _ d2;subst hp;refine Calls.mono (au2 (hA H w hat) hI hon hg hm hv hob) fun en w' ⟨v,H',L',h1,h2,h3,h4,h5,h6,h7⟩=>?_;obtain ⟨h',r1,r2,r3⟩:=D7.hide h3;refine ⟨v,H',h',h1,?_,by simp_all,r2,h6,Wx h7 fun b hb=>(hblk b).2 hb,fun b hb=>?_⟩
  ·cases hx:(σ.feed e).1 with
   |none=>rw[hx] at h2;exact h2 |some k=>rw[hx] at h2;exact h2
  ·obtain ⟨t,ht⟩:=(r3 b).1 hb
   grind
section
variable{H:Mem}{E:Env}{w:World}{K:Kx}{n:Nat}{o:Nat->Oj}{h:Hp}
theorem ahj{b b1 b2:Nat}{v0:Value}(au:w.heap[b]?=aj (.cells #[v0,.int .i64 0,.slice aF 0 0,.map (aj b1),.map (aj b2)] 190 (0,0)))
  (ob:∃xs,w.ownsRow 0 94 2 v0 n xs/\CQ H 2 n (Am o) xs) (m1:∃ms clk,w.heap[b1]?=aj (.map ms clk)/\FW .i64 ms.toList clk fun _=>aF) (m2:∃ms clk,w.heap[b2]?=aj (.map ms clk)/\FW .i64 ms.toList clk fun _=>aF)
  (GH:b≠b1/\b≠b2/\b1≠b2/\∀x,Ba v0=aj x->x≠b/\x≠b1/\x≠b2) (un:H b=aF/\H b1=aF/\H b2=aF/\∀x,Ba v0=aj x->H x=aF) :
  D7 H w n (Am o) Au.nil ⟨b,v0,.slice aF 0 0,b1,b2,fun _=>0,fun _=>.slice aF 0 0⟩:=by
 obtain ⟨d1,d2,d3,d4⟩:=GH;refine ⟨au,ob,⟨rfl,.inl ⟨rfl,rfl⟩⟩,m1,m2,fun i r hi=>by simp[Au.nil] at hi,fun i r hi=>by simp[Au.nil] at hi,fun s t x hs ht=>?_,fun t x ht=>?_⟩
 ·cases s<;>cases t<;>simp[fJ,Au.nil,Ba] at hs ht<;>first|rfl|(exfalso;subst_vars;first|exact d1 rfl|exact d2 rfl|exact d3 rfl|exact d1 ht.symm|exact (d4 _ hs).1 rfl|exact (d4 _ hs).2.1 rfl|exact (d4 _ hs).2.2 rfl|exact (d4 _ ht).1 rfl|exact (d4 _ ht).2.1 rfl|exact (d4 _ ht).2.2 rfl|skip) |skip
  all_goals (first|exact d1 (hs.trans ht.symm) |exact d1 (hs ▸ ht ▸ rfl) |omega)
 ·cases t<;>simp[fJ,Au.nil,Ba] at ht<;>first|(subst ht;first|exact un.1|exact un.2.1|exact un.2.2.1) |exact un.2.2.2 _ ht
theorem aeB{hp:List (Nat×SB)}{σ:Au}{L:Lay}(hh:YP E w hp h)(hA:D7 H w n (Am o) σ L)(hb:∀x,(∃id sb,Aq hp id=aj sb/\Bv E id sb=aj x)↔VG L σ.rs.length x):MW n o σ L.p h:=by
 obtain ⟨h0,r1,r2,r3⟩:=D7.hide hA;have:h0=h:=by
  funext x;have e1:=r3 x;have e2:=(hh.2 x).symm.trans (hb x);cases q:h x with
  |none=>
   grind
  |some o'=>
   cases q':h0 x with
   |none=>simp_all |some o''=>
    have a1:=hh.1 x _ q;have a2:=(r2 x _ q').1;simp_all
 simp_all
theorem acG{id:Nat}(hh:Ho K H E w id (.fm .i64 (fun _=>aF) [] [] aF)):∃b ms clk,E id=aj (.map (aj b))/\w.heap[b]?=aj (.map ms clk)/\FW .i64 ms.toList clk fun _=>aF:=by
 obtain ⟨b,ms,clk,fv,uv,s1,s2,s3,s4,s5,s6,_,s7⟩:=hh;obtain rfl:=RZ s4;exact ⟨b,ms,clk,s1,s2,s6⟩
theorem au4{o':ϝ}(ho:∀i,i<n->o' i=Am o i){n':Nat}(hn:n'=n){hp:List (Nat×SB)}(hpe:hp=[(3,.own 94 2 n' o'),(4,.fm .i64 (fun _=>aF) [] [] aF),(5,.fm .i64 (fun _=>aF) [] [] aF),(6,.box [.gs 3,.int .i64 0,.Bg,.mp 4,.mp 5] 190)])
  (hh:Bc K H E w hp) (hd:YP E w hp h):∃b,E 6=aj (.pointer (aj ⟨b,0,aF⟩))/\MW n o Au.nil b h:=by
 subst hn hpe;obtain ⟨v,xs,x1,x2,x3,x4⟩:=hh.ent 3 _ rfl;obtain ⟨b1,ms1,Zd,y1,y2,y3⟩:=acG (hh.ent 4 _ rfl);obtain ⟨b2,ms2,Ze,z1,z2,z3⟩:=acG (hh.ent 5 _ rfl);obtain ⟨b,⟨cs⟩,p1,p2,p3,p4⟩:=hh.ent 6 _ rfl;match cs,p3 with
 |[u0,u1,u2,u3,u4],⟨d0,d1,d2,d3,d4,_⟩=>
  have d1:u1=.int .i64 0:=d1;have d2:u2=.slice aF 0 0:=d2;obtain ⟨d0,_⟩:E 3=aj u0/\_:=d0;obtain ⟨c1,d3,d3'⟩:=d3;obtain ⟨c2,d4,d4'⟩:=d4;rw[x1] at d0;cases d0;rw[y1] at d3;cases d3;rw[z1] at d4;cases d4;subst d1 d2 d3' d4';have k3:Bv E 3 (.own 94 2 n' o')=Ba v:=by simp[Bv,x1]
  have k4:Bv E 4 (.fm .i64 (fun _=>aF) [] [] aF)=aj b1:=by simp[Bv,y1,Ba]
  have k5:Bv E 5 (.fm .i64 (fun _=>aF) [] [] aF)=aj b2:=by simp[Bv,z1,Ba]
  have k6:Bv E 6 (.box [.gs 3,.int .i64 0,.Bg,.mp 4,.mp 5] 190)=aj b:=by simp[Bv,p1,Ba]
  have dd:∀{i j:Nat} {s t:SB} {x:Nat},Aq [(3,vF 94 2 n' o'),(4,.fm .i64 (fun _=>aF) [] [] aF),(5,.fm .i64 (fun _=>aF) [] [] aF),(6,.box [.gs 3,.int .i64 0,.Bg,.mp 4,.mp 5] 190)] i=aj s->Aq [(3,vF 94 2 n' o'),(4,.fm .i64 (fun _=>aF) [] [] aF),(5,.fm .i64 (fun _=>aF) [] [] aF),(6,.box [.gs 3,.int .i64 0,.Bg,.mp 4,.mp 5] 190)] j=aj t->Bv E i s=aj x->Bv E j t=aj x->i=j:=fun h1 h2 h3 h4=>hh.GH _ _ _ _ _ h1 h2 h3 h4
  have mi:∀{i:Nat} {s:SB} {x:Nat},Aq [(3,vF 94 2 n' o'),(4,.fm .i64 (fun _=>aF) [] [] aF),(5,.fm .i64 (fun _=>aF) [] [] aF),(6,.box [.gs 3,.int .i64 0,.Bg,.mp 4,.mp 5] 190)] i=aj s->Bv E i s=aj x->H x=aF:=fun h1 h2=>((hh.ent _ _ h1).lt h2).2.1;have hA:=ahj (H:=H) (n:=n') (o:=o) p2 ⟨xs,x2,U5 x3 ho⟩ ⟨ms1,Zd,y2,y3⟩ ⟨ms2,Ze,z2,z3⟩
   ⟨fun q=>(by simp_all),fun q=>(by simp_all),fun q=>(by subst q;cases dd (i:=4) (j:=5) rfl rfl k4 k5),
    fun x hx=>⟨fun q=>(by subst q;cases dd (i:=3) (j:=6) rfl rfl (k3.trans hx) k6),fun q=>(by subst q;cases dd (i:=3) (j:=4) rfl rfl (k3.trans hx) k4),fun q=>(by subst q;cases dd (i:=3) (j:=5) rfl rfl (k3.trans hx) k5)⟩⟩
   ⟨mi (i:=6) rfl k6,mi (i:=4) rfl k4,mi (i:=5) rfl k5,fun x hx=>mi (i:=3) rfl (k3.trans hx)⟩
  refine ⟨b,p1,aeB hd hA fun x=>⟨fun ⟨id,sb,h1,h2⟩=>?_,fun ⟨t,ht⟩=>?_⟩⟩
  ·simp only[Aq] at h1
   cases q3:(3:Nat)==id<;>simp only[q3,ϰ,ϗ] at h1
   ·cases q4:(4:Nat)==id<;>simp only[q4,ϰ,ϗ] at h1
    ·cases q5:(5:Nat)==id<;>simp only[q5,ϰ,ϗ] at h1
     ·cases q6:(6:Nat)==id<;>simp only[q6,ϰ,ϗ] at h1
      ·cases h1
      ·cases h1;obtain rfl:6=id:=by grind
       rw[k6] at h2;exact ⟨.au,h2⟩
     ·cases h1;obtain rfl:5=id:=by grind
      rw[k5] at h2;exact ⟨.bu,h2⟩
    ·cases h1;obtain rfl:4=id:=by grind
     rw[k4] at h2;exact ⟨.NI,h2⟩
   ·cases h1;obtain rfl:3=id:=by grind
    rw[k3] at h2;exact ⟨.ob,h2⟩
  ·cases t with
   |au=>exact ⟨6,_,rfl,k6.trans ht⟩ |tx=>cases ht |NI=>exact ⟨4,_,rfl,k4.trans ht⟩ |bu=>exact ⟨5,_,rfl,k5.trans ht⟩ |ob=>exact ⟨3,_,rfl,k3.trans ht⟩ |rc i=>simp[fJ,Au.nil] at ht |de i=>simp[fJ,Au.nil] at ht
theorem au5(hn:n=0){hp:List (Nat×SB)}(hpe:hp=[(2,.fm .i64 (fun _=>aF) [] [] aF),(3,.fm .i64 (fun _=>aF) [] [] aF),(4,.box [.Bg,.int .i64 0,.Bg,.mp 2,.mp 3] 190)])
  (hh:Bc K H E w hp) (hd:YP E w hp h):∃b,E 4=aj (.pointer (aj ⟨b,0,aF⟩))/\MW n o Au.nil b h:=by
 subst hn hpe;obtain ⟨b1,ms1,Zd,y1,y2,y3⟩:=acG (hh.ent 2 _ rfl);obtain ⟨b2,ms2,Ze,z1,z2,z3⟩:=acG (hh.ent 3 _ rfl);obtain ⟨b,⟨cs⟩,p1,p2,p3,p4⟩:=hh.ent 4 _ rfl;match cs,p3 with
 |[u0,u1,u2,u3,u4],⟨d0,d1,d2,d3,d4,_⟩=>
  have d1:u1=.int .i64 0:=d1;have d2:u2=.slice aF 0 0:=d2;have d0:u0=.slice aF 0 0:=d0;obtain ⟨c1,d3,d3'⟩:=d3;obtain ⟨c2,d4,d4'⟩:=d4;rw[y1] at d3;cases d3;rw[z1] at d4;cases d4;subst d0 d1 d2 d3' d4';have k4:Bv E 2 (.fm .i64 (fun _=>aF) [] [] aF)=aj b1:=by simp[Bv,y1,Ba]
  have k5:Bv E 3 (.fm .i64 (fun _=>aF) [] [] aF)=aj b2:=by simp[Bv,z1,Ba]
  have k6:Bv E 4 (.box [.Bg,.int .i64 0,.Bg,.mp 2,.mp 3] 190)=aj b:=by simp[Bv,p1,Ba]
  have dd:∀{i j:Nat} {s t:SB} {x:Nat},Aq [(2,nJ .i64 (fun _=>aF) [] [] aF),(3,.fm .i64 (fun _=>aF) [] [] aF),(4,.box [.Bg,.int .i64 0,.Bg,.mp 2,.mp 3] 190)] i=aj s->Aq [(2,nJ .i64 (fun _=>aF) [] [] aF),(3,.fm .i64 (fun _=>aF) [] [] aF),(4,.box [.Bg,.int .i64 0,.Bg,.mp 2,.mp 3] 190)] j=aj t->Bv E i s=aj x->Bv E j t=aj x->i=j:=fun h1 h2 h3 h4=>hh.GH _ _ _ _ _ h1 h2 h3 h4
  have mi:∀{i:Nat} {s:SB} {x:Nat},Aq [(2,nJ .i64 (fun _=>aF) [] [] aF),(3,.fm .i64 (fun _=>aF) [] [] aF),(4,.box [.Bg,.int .i64 0,.Bg,.mp 2,.mp 3] 190)] i=aj s->Bv E i s=aj x->H x=aF:=fun h1 h2=>((hh.ent _ _ h1).lt h2).2.1;have hA:=ahj (H:=H) (n:=0) (o:=o) p2 ⟨[],⟨rfl,.inl ⟨rfl,rfl⟩⟩,MI 2 _⟩ ⟨ms1,Zd,y2,y3⟩ ⟨ms2,Ze,z2,z3⟩
   ⟨fun q=>(by simp_all),fun q=>(by simp_all),fun q=>(by subst q;cases dd (i:=2) (j:=3) rfl rfl k4 k5),fun x hx=>by cases hx⟩
   ⟨mi (i:=4) rfl k6,mi (i:=2) rfl k4,mi (i:=3) rfl k5,fun x hx=>by cases hx⟩
  refine ⟨b,p1,aeB hd hA fun x=>⟨fun ⟨id,sb,h1,h2⟩=>?_,fun ⟨t,ht⟩=>?_⟩⟩
  ·simp only[Aq] at h1
   cases q4:(2:Nat)==id<;>simp only[q4,ϰ,ϗ] at h1
   ·cases q5:(3:Nat)==id<;>simp only[q5,ϰ,ϗ] at h1
    ·cases q6:(4:Nat)==id<;>simp only[q6,ϰ,ϗ] at h1
     ·cases h1
     ·cases h1;obtain rfl:4=id:=by grind
      rw[k6] at h2;exact ⟨.au,h2⟩
    ·cases h1;obtain rfl:3=id:=by grind
     rw[k5] at h2;exact ⟨.bu,h2⟩
   ·cases h1;obtain rfl:2=id:=by grind
    rw[k4] at h2;exact ⟨.NI,h2⟩
  ·cases t with
   |au=>exact ⟨4,_,rfl,k6.trans ht⟩ |tx=>cases ht |NI=>exact ⟨2,_,rfl,k4.trans ht⟩ |bu=>exact ⟨3,_,rfl,k5.trans ht⟩ |ob=>cases ht |rc i=>simp[fJ,Au.nil] at ht |de i=>simp[fJ,Au.nil] at ht
end
open Go Go.Sx Go.BI
def aeC:ϕ
 |75=>aj auN |_=>aF
def CT(A:Prim)(W:Wd):Ctx:={C5 A W aeC Aw with asq:=fun t=>bif dK t 188 then aj (.i64,[]) else aF}
def apE(g:Nat):Bool:=dK g 77
def Zf:List It:=[aK [0,1,0,1,1,1,1],aX 0,aK [1,1,1,1,1]]
def azm:List It:=aK [0,0,1,0,1,1,1,1]::Zf
def aaJ(g:Nat):Bool:=dK g 77||dK g 55
def LT(m:Nat)(p:Nat->Ev)(b:Nat)(c i:Int):Core:=
 {tm:=[.any,.any,.Fj,.Eo,.any,.val (.pointer (aj ⟨b,0,aF⟩))]++rep [.any] 19++[.sh (.sl 8 m (Am p)),.sym .i64 c,.sym .i64 i]++rep [.any] 16,hp:=[],nx:=0,lim:=L0,tc:=[]}
def Uw:List Fr:=[{g:=40,td:=[nU [0,1] [1,2,3,4,5,6],aK [1,1]],tm:=[.any,.any,.Bg,.Eo]++rep [.any] 12}]
def tdP:List It:=[nU [0,1,0,0,1,1,0,0,1,0,1,1,1,1] [2,3],aK [1,1,0,0,1,1,0,0,1,0,1,1,1,1],aX 1,aK [1,1,1,0,0,1,0,1,1,1,1]]++Zf
def tdQ:List It:=[nU [0,1,0,0,1,1,0,0,1,0,1,1,1,1] [3],aK [1,1,0,0,1,1,0,0,1,0,1,1,1,1],aX 1,aK [1,1,1,0,0,1,0,1,1,1,1]]++Zf
def LP(m:Nat)(p:Nat->Ev)(b:Nat)(c i:Int)(e:Ev)(x:SV):Core:=
 {tm:=[.any,.any,.Fj,.Eo,.any,.val (.pointer (aj ⟨b,0,aF⟩)),.any,.sym .i64 i]++rep [.any] 17++[.sh (.sl 8 m (Am p)),.sym .i64 c,.sym .i64 i]++rep [.any] 4 ++
   [.val (.pointer (aj ⟨b,0,aF⟩)),.agg [.sym .i64 e.kind,.sym .i64 e.tx,.sym .i64 e.thread,.sym .i64 e.obj,.sym .i64 e.op,.sym .i64 e.key,.sym .i64 e.val,.sym .i64 e.ret],x]++rep [.any] 9,hp:=[],nx:=0,lim:=L0,tc:=[]}
def ahk:List It:=[nU [0,1,1,1] [1,2,3],aK [1,1,1,1]]
def LX(x:SV):Core:={tm:=[.any,.any,.Bg,.Eo]++rep [.any] 10++[x,.any],hp:=[],nx:=0,lim:=L0,tc:=[]}
def rcR(N:Rc->Nat)(D:Rc->ϝ)(r:Rc):List Sh:=[.i .i64 r.id,.i .i64 r.th,.i .i64 r.st,.i .i64 r.bg,.i .i64 r.en,.i .i64 r.tr,.sl 8 (N r) (D r),.i .i64 r.stand]
def gRc(N:Rc->Nat)(D:Rc->ϝ)(rs:Nat->Rc):ϝ:=fun j=>[.pt (rcR N D (rs j))]
def auX(N:Rc->Nat)(D:Rc->ϝ)(v0:Value)(many:Int)(k:Nat)(rs:Nat->Rc)(b1 b2:Nat):SV:=.Iu 5 1 (fun _=>[.v v0,.i .i64 many,.sl 1 k (gRc N D rs),.v (.map (aj b1)),.v (.map (aj b2))]) 0 0
def txR(N:Rc->Nat)(D:Rc->ϝ)(r:Rc):List Sh:=[.i .i64 r.id,.i .i64 r.th,.i .i64 r.st,.i .i64 r.bg,.i .i64 r.en,.i .i64 r.tr,.sl 8 (N r) (D r)]
def TS(N:Rc->Nat)(D:Rc->ϝ)(rs:Nat->Rc):ϝ:=fun j=>txR N D (rs j)
def tdT:List It:=[aK [0,1,0,1,1],aX 0,aK [1,1,1]]
def tbT:List It:=aK [0,0,1,0,1,1]::tdT
def ahl(N:Rc->Nat)(D:Rc->ϝ)(k:Nat)(rs:Nat->Rc)(c i:Int)(j:Nat)(gg:ϝ):Core:=
 {tm:=[.any,.any,.any,.gs 0]++rep [.any] 12++[.sh (.sl 1 k (gRc N D rs)),.sym .i64 c,.sym .i64 i]++rep [.any] 21,hp:=[(0,.own 87 7 j gg)],nx:=1,lim:=L0,tc:=[]}
def frX:List Fr:=[{g:=40,td:=ahk,tm:=[.any,.any,.Bg,.Eo]++rep [.any] 12}]
theorem a32(A:Prim)(W:Wd)(n m:Nat)(o:Nat->Oj)(p:Nat->Ev):ay5 (CT A W) apE 300 400 40 [.code []] (BH 16 [.agg [.sl 2 n (Am o),.sl 8 m (Am p)]] L0) []=aH (okB Oj n (Am o)) (aH (okB Ev m (Am p)) (aH (PX m (Am p)) (aP (FN n m) (aJ (vG (bF [aG 0 0 fun _=>[],dP 5 322]))) (aP (EY n m (Am o) (Am p)) (aH (okB Oj n (Am o)) (aH (okB Ev 0 fun _=>[]) (aH (PX 0 fun _=>[]) (aP (FN n 0) (aJ (vG (bF [aG 0 0 fun _=>[],dP 5 322]))) (aP (EY n 0 (Am o) fun _=>[]) (aP (A.leN n 0) ((aJ (zy 54 [aK [0,1,0,1,1,1,1],aX 0,aK [1,1,1,1,1]] {tm:=[jW [eG (aG 2 n (Am o)),eG (aG 8 m (Am p))],jY 1 0,zF,gV,gV,jY 4 0,gV,aY,aY,aY,aY,aY,aY,oO aA,aY,aY,aY,aY,aY,aY,aY,aY,oO aA,aY,aY,eG (aG 8 m (Am p)),SV.sym bD (A.AV m),qG bD (ah 0),aY,aY,aY,aY,aY,aY,aY,aY,aY,aY,aY,aY,aY,aY,aY,aY],hp:=[(0,jZ [eG (aG 2 n (Am o)),eG (aG 8 m (Am p))] 25),(1,jZ [eG (aG 2 n (Am o)),eG (aG 8 m (Am p))] 25),(2,nJ bD (fun _=>aF) [] [] aF),(3,nJ bD (fun _=>aF) [] [] aF),(4,jZ [kE,qG bD (ah 0),kE,rO 2,rO 3] 190)],nx:=5,lim:=1000000000000000000000000000000,tc:=[]} [{g:=40,td:=[nU [0,1] [1,2,3,4,5,6],aK [1,1]],tm:=[jW [eG (aG 2 n (Am o)),eG (aG 8 m (Am p))],jY 0 0,kE,gV,aY,aY,aY,jW [eG (aG 2 n (Am o)),eG (aG 8 m (Am p))],aY,aY,aY,aY,aY,aY,aY,aY]}])).both (aH (A.room (A.addN 0 n) 16) (aJ (zy 54 [aK [0,1,0,1,1,1,1],aX 0,aK [1,1,1,1,1]] {tm:=[jW [eG (aG 2 n (Am o)),eG (aG 8 m (Am p))],jY 1 0,zF,gV,gV,jY 6 0,gV,aY,aY,aY,aY,aY,aY,oO aA,aY,aY,aY,aY,aY,aY,aY,aY,oO aA,aY,aY,eG (aG 8 m (Am p)),SV.sym bD (A.AV m),qG bD (ah 0),aY,aY,aY,aY,aY,aY,aY,aY,aY,aY,aY,aY,aY,aY,aY,aY],hp:=[(0,jZ [eG (aG 2 n (Am o)),eG (aG 8 m (Am p))] 25),(1,jZ [eG (aG 2 n (Am o)),eG (aG 8 m (Am p))] 25),(3,vF 94 2 (A.addN 0 n) (A.snoc (Bh []) 0 (Am o))),(4,nJ bD (fun _=>aF) [] [] aF),(5,nJ bD (fun _=>aF) [] [] aF),(6,jZ [SV.gs 3,qG bD (ah 0),kE,rO 4,rO 5] 190)],nx:=7,lim:=1000000000000000000000000000000,tc:=[2]} [{g:=40,td:=[nU [0,1] [1,2,3,4,5,6],aK [1,1]],tm:=[jW [eG (aG 2 n (Am o)),eG (aG 8 m (Am p))],jY 0 0,kE,gV,aY,aY,aY,jW [eG (aG 2 n (Am o)),eG (aG 8 m (Am p))],aY,aY,aY,aY,aY,aY,aY,aY]}])))) (aH (A.room (A.addN 0 n) 16) (aJ (zy 54 [aK [0,1,0,1,1,1,1],aX 0,aK [1,1,1,1,1]] {tm:=[jW [eG (aG 2 n (Am o)),eG (aG 8 m (Am p))],jY 1 0,zF,gV,gV,jY 6 0,gV,aY,aY,aY,aY,aY,aY,oO aA,aY,aY,aY,aY,aY,aY,aY,aY,oO aA,aY,aY,eG (aG 8 m (Am p)),SV.sym bD (A.AV m),qG bD (ah 0),aY,aY,aY,aY,aY,aY,aY,aY,aY,aY,aY,aY,aY,aY,aY,aY],hp:=[(0,jZ [eG (aG 2 n (Am o)),eG (aG 8 m (Am p))] 25),(1,jZ [eG (aG 2 n (Am o)),eG (aG 8 m (Am p))] 25),(3,vF 94 2 (A.addN 0 n) (A.snoc (Bh []) 0 (Am o))),(4,nJ bD (fun _=>aF) [] [] aF),(5,nJ bD (fun _=>aF) [] [] aF),(6,jZ [SV.gs 3,qG bD (ah 0),kE,rO 4,rO 5] 190)],nx:=7,lim:=1000000000000000000000000000000,tc:=[2]} [{g:=40,td:=[nU [0,1] [1,2,3,4,5,6],aK [1,1]],tm:=[jW [eG (aG 2 n (Am o)),eG (aG 8 m (Am p))],jY 0 0,kE,gV,aY,aY,aY,jW [eG (aG 2 n (Am o)),eG (aG 8 m (Am p))],aY,aY,aY,aY,aY,aY,aY,aY]}])))) (aJ (vG (bF [aG 0 0 fun _=>[],mP 184 (pJ [aQ .i64 (Lr n 0 (Am o) fun _=>[]),dP (PY n 0 (Am o) fun _=>[]) 322])])))))))) (aJ (vG (bF [aG 0 0 fun _=>[],mP 184 (pJ [aQ .i64 (Lr n m (Am o) (Am p)),dP (PY n m (Am o) (Am p)) 322])]))))))):=by kernel_rfl
theorem b32(A:Prim)(W:Wd)(m:Nat)(p:Nat->Ev)(b:Nat)(c i:Int)(k:Nat):BD (CT A W) aaJ 300 400 54 azm (LT m p b c i) Uw [⟨54,tdP,LP m p b c i (p k) .any,Uw⟩,⟨40,ahk,LX (.val (.pointer (aj ⟨b,0,aF⟩))),[]⟩]=aP (A.lt i c) (aH (A.inB i m) (aJ (bU 0 [jQ (gB (aj {block:=b,off:=0})) (gB (aj {block:=b,off:=0})),aC i i,aW (aG 8 m (Am p)) (aG 8 m (Am p)),aC c c,aC i i,jQ (gB (aj {block:=b,off:=0})) (gB (aj {block:=b,off:=0})),aC (p (A.toN i)).kind (p k).kind,aC (p (A.toN i)).tx (p k).tx,aC (p (A.toN i)).thread (p k).thread,aC (p (A.toN i)).obj (p k).obj,aC (p (A.toN i)).op (p k).op,aC (p (A.toN i)).key (p k).key,aC (p (A.toN i)).val (p k).val,aC (p (A.toN i)).ret (p k).ret]))) (aJ (bU 1 [jQ (gB (aj {block:=b,off:=0})) (gB (aj {block:=b,off:=0}))])):=by kernel_rfl
theorem c32(A:Prim)(W:Wd)(m:Nat)(p:Nat->Ev)(b:Nat)(c i i1:Int)(e:Ev):BD (CT A W) aaJ 300 400 54 tdQ (LP m p b c i e .Eo) Uw [⟨54,Zf,LT m p b c i1,Uw⟩]=aJ (bU 0 [jQ (gB (aj {block:=b,off:=0})) (gB (aj {block:=b,off:=0})),aW (aG 8 m (Am p)) (aG 8 m (Am p)),aC c c,aC (A.add .i64 i (ah 1)) i1]):=by kernel_rfl
theorem d32(A:Prim)(W:Wd)(m:Nat)(p:Nat->Ev)(b:Nat)(c i:Int)(e:Ev)(k:Nat):BD (CT A W) aaJ 300 400 54 tdQ (LP m p b c i e (.sh (.er k 322))) Uw []=aJ (aN (bF [aG 0 0 fun _=>[],mP 184 (pJ [aQ .i64 i,dP k 322])])):=by kernel_rfl
theorem e32(A:Prim)(W:Wd)(N:Rc->Nat)(D:Rc->ϝ)(v0:Value)(many:Int)(k:Nat)(rs:Nat->Rc)(b1 b2:Nat)(c i:Int)(j:Nat)(gg:ϝ):BD (CT A W) EP 300 400 40 ahk (LX (auX N D v0 many k rs b1 b2)) [] [⟨55,tdT,ahl N D k rs c i j gg,frX⟩]=aH (A.le (ah 0) (A.AV k)) (aH (A.room (A.toN (A.AV k)) 72) (aJ (bU 0 [aW (aG 1 k (gRc N D rs)) (aG 1 k (gRc N D rs)),aC (A.AV k) c,aC (ah 0) i,aZ 0 j,bY 0 (fun _=>[]) gg]))):=by kernel_rfl
theorem f32(A:Prim)(W:Wd)(N:Rc->Nat)(D:Rc->ϝ)(k:Nat)(rs:Nat->Rc)(c i i1:Int)(j j1:Nat)(gg g1:ϝ):ay6 (CT A W) EP 300 400 55 tbT (ahl N D k rs c i j gg) frX [⟨55,tdT,ahl N D k rs c i1 j1 g1,frX⟩]=aP (A.lt i c) (aH (A.inB i k) (aH (A.le (ah 0) (A.AV (N (rs (A.toN i))))) (aH (A.room (A.toN (A.AV (N (rs (A.toN i))))) 64) (aH (A.room (A.addN 0 (N (rs (A.toN i)))) 64) (aH (A.le (ah 0) (A.AV (N (rs (A.toN i))))) (aH (A.room (A.toN (A.AV (N (rs (A.toN i))))) 64) (aH (A.room (A.addN 0 (N (rs (A.toN i)))) 64) (bT [aZ 1 1,gQ (fun _=>rcR N D (rs (A.toN i))) fun _=>rcR N D (rs (A.toN i)),aZ 0 0,aW (aG 1 k (gRc N D rs)) (aG 1 k (gRc N D rs)),aC c c,aC i i,aZ j j,gQ gg gg,aC (rs (A.toN i)).id (rs (A.toN i)).id,aC (rs (A.toN i)).th (rs (A.toN i)).th,aC (rs (A.toN i)).st (rs (A.toN i)).st,aC (rs (A.toN i)).bg (rs (A.toN i)).bg,aC (rs (A.toN i)).en (rs (A.toN i)).en,aC (rs (A.toN i)).tr (rs (A.toN i)).tr,aZ (A.addN 0 (N (rs (A.toN i)))) (A.addN 0 (N (rs (A.toN i)))),gQ (A.snoc (fun _=>[]) 0 (D (rs (A.toN i)))) (A.snoc (fun _=>[]) 0 (D (rs (A.toN i))))] (aH (A.le (ah 0) (A.AV (N (rs (A.toN i))))) (aH (A.room (A.toN (A.AV (N (rs (A.toN i))))) 64) (aH (A.room (A.addN 0 (N (rs (A.toN i)))) 64) (bT [aZ 1 1,gQ (fun _=>rcR N D (rs (A.toN i))) fun _=>rcR N D (rs (A.toN i)),aZ 0 0,aW (aG 1 k (gRc N D rs)) (aG 1 k (gRc N D rs)),aC c c,aC i i,aZ j j,gQ gg gg,aC (rs (A.toN i)).id (rs (A.toN i)).id,aC (rs (A.toN i)).th (rs (A.toN i)).th,aC (rs (A.toN i)).st (rs (A.toN i)).st,aC (rs (A.toN i)).bg (rs (A.toN i)).bg,aC (rs (A.toN i)).en (rs (A.toN i)).en,aC (rs (A.toN i)).tr (rs (A.toN i)).tr,aZ (A.addN 0 (N (rs (A.toN i)))) (A.addN 0 (N (rs (A.toN i)))),gQ (A.snoc (fun _=>[]) 0 (D (rs (A.toN i)))) (A.snoc (fun _=>[]) 0 (D (rs (A.toN i))))] (aH (A.room (A.addN j 1) 72) (aJ (bU 0 [aW (aG 1 k (gRc N D rs)) (aG 1 k (gRc N D rs)),aC c c,aC (A.add .i64 i (ah 1)) i1,aZ (A.addN j 1) j1,bY (A.addN j 1) (A.snoc gg j (Bh [[aQ .i64 (rs (A.toN i)).id,aQ .i64 (rs (A.toN i)).th,aQ .i64 (rs (A.toN i)).st,aQ .i64 (rs (A.toN i)).bg,aQ .i64 (rs (A.toN i)).en,aQ .i64 (rs (A.toN i)).tr,aG 8 (A.addN 0 (N (rs (A.toN i)))) (A.snoc (fun _=>[]) 0 (D (rs (A.toN i))))]])) g1]))))))))))))))) (aJ (aN (bF [Sh.os 87 7 j gg,Sh.v Value.nilIface]))):=by kernel_rfl
end Go.BX
namespace Go.BI
open Go Go.Sx
def rc0:Rc:=⟨0,0,0,0,0,0,[],0⟩
def Fq(r:Rc):Nat:=r.AA.length
def dfn(r:Rc):ϝ:=Am (nth r.AA)
def BO(σ:Au)(j:Nat):Rc:=σ.rs.getD j rc0
theorem TT{σ:Au}{j:Nat}(h:j<σ.rs.length):σ.rs[j]?=aj (BO σ j):=by
 simp_all [BO]
end Go.BI
namespace Go.BX
open Go Go.Sx Go.BI
section
variable{H:Mem}{E:Env}{w:World}{n:Nat}{o:Nat->Oj}{h:Hp}{σ:Au}{b:Nat}
theorem arw(hR:MW n o σ b h)(hat:h.at H w):∃L:Lay,Den (H.with h) E (auX Fq dfn L.v0 σ.many σ.rs.length (BO σ) L.b1 L.b2) (.pointer (aj ⟨b,0,aF⟩)):=by
 obtain ⟨L,rfl,hdom,hA⟩:=hR;have A:=hA H w hat;have at_:∀t x,L.blk σ.rs.length t=aj x->(H.with h) x=w.heap[x]?:=fun t x hx=>by
  cases q:h x with
  |none=>exact ((hdom x).2 ⟨t,hx⟩ q).elim |some ob=>simp only[Mem.with,q];exact (hat x ob q).1.symm
 have azn:L.v0.oneCell'=ay:=by
  obtain ⟨xs,h1,_⟩:=A.ob;rcases h1.2 with ⟨q,_⟩ |⟨g,cap,cur,q,_⟩<;>rw[q]<;>rfl
 have aDl:L.v2.oneCell'=ay:=by
  rcases A.tx.2 with ⟨q,_⟩ |⟨g,cap,cur,q,_⟩<;>rw[q]<;>rfl
 have aGt:∀i,i<σ.rs.length->Rep (H.with h) (.pt (rcR Fq dfn (BO σ i))) (Es (L.R i)):=fun i hi=>by
  have hs:=TT (σ:=σ) hi;have hc:=A.rc i _ hs;have hd:=A.de i _ hs;have hb:=at_ (.rc i) (L.R i) (by simp[fJ,hi]);rw[hc] at hb;have aDm:(L.D i).oneCell'=ay:=by
   rcases hd.2 with ⟨q,_⟩ |⟨g,cap,cur,q,_⟩<;>rw[q]<;>rfl
  have aDn:Rep (H.with h) (.sl 8 (Fq (BO σ i)) (dfn (BO σ i))) (L.D i):=OE hd (abO _) fun x hx=>at_ (.de i) x (by simp[fJ,hi,hx]);refine .pt _ (L.R i) 0 (fun j=>(Zb (BO σ i) (L.D i)).getD j undef) (fun j hj=>?_) (fun j hj=>?_) fun j s hs'=>?_
  ·simp only[hcell,hb,fU]
   have:j<(Zb (BO σ i) (L.D i)).size:=hj;simp_all
  ·have:j<8:=hj
   match j,this with
   |0,_=>rfl |1,_=>rfl |2,_=>rfl |3,_=>rfl |4,_=>rfl |5,_=>rfl |6,_=>exact aDm |7,_=>rfl |j+8,hj=>omega
  ·match j,hs' with
   |0,hs'=>cases hs';exact .i _ _ |1,hs'=>cases hs';exact .i _ _ |2,hs'=>cases hs';exact .i _ _ |3,hs'=>cases hs';exact .i _ _ |4,hs'=>cases hs';exact .i _ _ |5,hs'=>cases hs';exact .i _ _ |6,hs'=>cases hs';exact aDn |7,hs'=>cases hs';exact .i _ _ |j+8,hs'=>simp[rcR] at hs'
 have aGu:Rep (H.with h) (.sl 1 σ.rs.length (gRc Fq dfn (BO σ))) L.v2:=by
  refine OE A.tx ?_ fun x hx=>at_ .tx x hx
  refine ⟨by simp,fun i _=>rfl,fun u hu=>?_,fun i j s v hi h1 h2=>?_⟩
  ·obtain ⟨i,_,rfl⟩:=eP.1 hu
   rfl
  grind [List.getElem?_range,gRc]
 have hb:=at_ .au L.p rfl;rw[A.au] at hb;refine ⟨L,L.p,0,fun j=>(#[L.v0,.int .i64 σ.many,L.v2,.map (aj L.b1),.map (aj L.b2)]:Array Value).getD j undef,rfl,by decide,rfl,fun j hj=>⟨?_,?_⟩,fun j s hs'=>?_⟩
 ·simp_all [hcell,fU,Array.getD_eq_getD_getElem?]
 ·match j,hj with
  |0,_=>exact azn |1,_=>rfl |2,_=>exact aDl |3,_=>rfl |4,_=>rfl |j+5,hj=>omega
 ·match j,hs' with
  |0,hs'=>cases hs';exact .v _ azn |1,hs'=>cases hs';exact .i _ _ |2,hs'=>simp_all |3,hs'=>cases hs';exact .v _ rfl |4,hs'=>cases hs';exact .v _ rfl |j+5,hs'=>simp at hs'
end
end Go.BX
namespace Go.Pl
open Go Go.Sx Go.Proofs
structure VI where
 id:Int
 th:Int
 st:Int
 bg:Int
 en:Int
 tr:Int
 d:Sh
instance:Row VI where
 put t:=[.i .i64 t.id,.i .i64 t.th,.i .i64 t.st,.i .i64 t.bg,.i .i64 t.en,.i .i64 t.tr,t.d]
 get l:=match l with
  |[.i .i64 a,.i .i64 b,.i .i64 c,.i .i64 d,.i .i64 e,.i .i64 f,s]=>aj ⟨a,b,c,d,e,f,s⟩ |_=>aF
 DL l a h:=by
  grind
 get_put a:=rfl
 J4:=⟨0,0,0,0,0,0,.v .nilIface⟩
def UH(q:Nat->Bool):Nat->Nat->Int
 |_,0=>-1 |k,r+1=>if q k=ay then (k:Int) else UH q (k+1) r
def fdX(t:Nat->VI)(k:Nat)(id:Int):Int:=UH (fun j=>(t j).id==id) 0 k
def byX(t:Nat->VI)(k:Nat)(th:Int):Int:=UH (fun j=>(t j).th==th&&decide ((t j).en<0)) 0 k
def cnX(c:Nat->Int)(k:Nat)(id:Int):Bool:=decide (0<=UH (fun j=>c j==id) 0 k)
def F87(f:(Nat->VI)->Nat->Int->Int):ϵ
 |[s,t]=>match Dj 7 s,Bd t with
  |some (k,g),aj x=>.need (okB VI k g) (.need (decide (k<=1000)) (.leaf (.i .i64 (f (Ap g) k x)))) |_,_=>.fail
 |_=>.fail
def au7:ϵ
 |[s,t]=>match Dj 1 s,Bd t with
  |some (k,g),aj x=>.need (okB Int k g) (.need (decide (k<=1000)) (.leaf (.b (cnX (Ap g) k x)))) |_,_=>.fail
 |_=>.fail
end Go.Pl
namespace Go.Proofs
open Go Go.Sx Go.Pl
def NK:List It:=[aK [0,1,0,1],aX 0,aK [1,1]]
def au8:List It:=aK [0,0,1,0,1]::NK
def WQ(N st k:Nat)(g:ϝ)(x i:Int):Core:={tm:=DF N [(0,.sh (.sl st k g)),(1,.sym .i64 x),(5,.sym .i64 i)],hp:=[],nx:=0,lim:=L0,tc:=[]}
section
variable{H0:Mem}{w0:World}{φ:Sh->Prop}{n:Nat}{t:Nat->VI}{c:Nat->Int}{x:Int}
theorem apF(hn:n<=1000):∀r k,k+r=n->φ (.i .i64 (UH (fun j=>(t j).id==x) k r))->AB ak (C7 Ak W7 noSpec Aw) (K0 H0 w0) 71 NK (WQ 20 7 n (Am t) x (k:Nat)) [] emp (up φ)
 |r,k,hk,hφ=>by
  refine D6 wQ au8 ?_;have e1:Ak.add .i64 (k:Int) 1=((k+1:Nat):Int):=add1 (by omega);refine BZ (Ej _) 300 400 [⟨71,NK,WQ 20 7 n (Am t) x (Ak.add .i64 (k:Int) 1),[]⟩] ?_;refine D9 (nd (Ak.lt (k:Int) (Ak.AV n)) (fun q=>an (?_:Ak.inB (k:Int) n=ay) (nd (Ak.eq (t k).id x) (fun a=>(?_:up φ (.i .i64 (k:Int))))
   (fun a=>(?_:AB ak (C7 Ak W7 noSpec Aw) (K0 H0 w0) 71 NK (WQ 20 7 n (Am t) x (Ak.add .i64 (k:Int) 1)) [] emp (up φ))))) (fun q=>(?_:up φ (.i .i64 (-1)))))
  all_goals simp only[Ar,AL,AQ,AX] at *
  ·simp_all
  all_goals
   match r,hk,hφ with
   |0,hk,hφ=>first
    |(simp at q;omega)
    |exact AY (s':=.i .i64 (-1)) rfl hφ
   |r+1,hk,hφ=>first
    |(simp at q;omega)
    |(rw[show Ak.add .i64 (k:Int) 1=((k+1:Nat):Int) from e1]
      refine apF hn r (k+1) (by omega) ?_;simp_all [UH])
    |(unfold UH at hφ
      rw[if_pos (by simpa using a)] at hφ;exact AY (s':=.i .i64 (k:Int)) rfl hφ)
theorem aly(hn:n<=1000):∀r k,k+r=n->φ (.i .i64 (UH (fun j=>(t j).th==x&&decide ((t j).en<0)) k r))->AB ak (C7 Ak W7 noSpec Aw) (K0 H0 w0) 87 NK (WQ 28 7 n (Am t) x (k:Nat)) [] emp (up φ)
 |r,k,hk,hφ=>by
  refine D6 wR au8 ?_;have e1:Ak.add .i64 (k:Int) 1=((k+1:Nat):Int):=add1 (by omega);refine BZ (Ej _) 300 400 [⟨87,NK,WQ 28 7 n (Am t) x (Ak.add .i64 (k:Int) 1),[]⟩] ?_;refine D9 (nd (Ak.lt (k:Int) (Ak.AV n)) (fun q=>an (?_:Ak.inB (k:Int) n=ay) (nd (Ak.eq (t k).th x) (fun a=>an (?_:Ak.inB (k:Int) n=ay) (nd (Ak.lt (t k).en 0) (fun b=>(?_:up φ (.i .i64 (k:Int)))) (fun b=>(?_:AB ak (C7 Ak W7 noSpec Aw) (K0 H0 w0) 87 NK (WQ 28 7 n (Am t) x (Ak.add .i64 (k:Int) 1)) [] emp (up φ)))))
   (fun a=>(?_:AB ak (C7 Ak W7 noSpec Aw) (K0 H0 w0) 87 NK (WQ 28 7 n (Am t) x (Ak.add .i64 (k:Int) 1)) [] emp (up φ))))) (fun q=>(?_:up φ (.i .i64 (-1)))))
  all_goals simp only[Ar,AL,AQ,AX] at *
  ·simp_all
  ·simp_all
  all_goals
   match r,hk,hφ with
   |0,hk,hφ=>first
    |(simp at q;omega)
    |exact AY (s':=.i .i64 (-1)) rfl hφ
   |r+1,hk,hφ=>first
    |(simp at q;omega)
    |(rw[show Ak.add .i64 (k:Int) 1=((k+1:Nat):Int) from e1]
      refine aly hn r (k+1) (by omega) ?_;simp_all [UH,if_neg])
    |(unfold UH at hφ
      rw[if_pos (by simp_all)] at hφ;exact AY (s':=.i .i64 (k:Int)) rfl hφ)
theorem alz(hn:n<=1000):∀r k,k+r=n->φ (.b (decide (0<=UH (fun j=>c j==x) k r)))->AB ak (C7 Ak W7 noSpec Aw) (K0 H0 w0) 114 NK (WQ 18 1 n (Am c) x (k:Nat)) [] emp (up φ)
 |r,k,hk,hφ=>by
  refine D6 vH au8 ?_;have e1:Ak.add .i64 (k:Int) 1=((k+1:Nat):Int):=add1 (by omega);refine BZ (Ej _) 300 400 [⟨114,NK,WQ 18 1 n (Am c) x (Ak.add .i64 (k:Int) 1),[]⟩] ?_;refine D9 (nd (Ak.lt (k:Int) (Ak.AV n)) (fun q=>an (?_:Ak.inB (k:Int) n=ay) (nd (Ak.eq (c k) x) (fun a=>(?_:up φ (.b ay)))
   (fun a=>(?_:AB ak (C7 Ak W7 noSpec Aw) (K0 H0 w0) 114 NK (WQ 18 1 n (Am c) x (Ak.add .i64 (k:Int) 1)) [] emp (up φ))))) (fun q=>(?_:up φ (.b aA))))
  all_goals simp only[Ar,AL,AQ,AX] at *
  ·simp_all
  all_goals
   match r,hk,hφ with
   |0,hk,hφ=>first
    |(simp at q;omega)
    |exact AY (s':=.b aA) (.inl rfl) hφ
   |r+1,hk,hφ=>first
    |(simp at q;omega)
    |(rw[show Ak.add .i64 (k:Int) 1=((k+1:Nat):Int) from e1]
      refine alz hn r (k+1) (by omega) ?_;simp_all [UH])
    |(unfold UH at hφ
      rw[if_pos (by simpa using a)] at hφ;exact AY (s':=.b ay) (.inl (by simp)) hφ)
end
theorem O87:AO ak (AZ W7) 71 (F87 fdX):=by
 refine CG (C7 Ak W7 noSpec Aw) wQ fun H w Bl args φ hrep hφ=>?_
 have hn:wQ.ntmps=20:=by kernel_rfl
 unfold F87 at hφ;split at hφ
 ·split at hφ
  ·rename_i k g x h1 h2
   obtain ⟨q1,q2,hφ⟩:=hφ;match args,hrep with
   |[a,b],⟨ra,rb,_⟩=>
    refine ⟨[.sl 7 k (Am (Ap (α:=VI) g)),.i .i64 x],⟨CY (Bz h1 ra) q1,Dz h2 rb,ϖ⟩,L0,?_⟩;have hk:=ϑ q2;generalize Ap (α:=VI) g=t at *;rw[hn];refine BZ (Ej _) 300 400 [⟨71,NK,WQ 20 7 k (Am t) x 0,[]⟩] ?_;exact D9 (apF hk k 0 (by omega) hφ:AB ak (C7 Ak W7 noSpec Aw) (K0 H w) 71 NK (WQ 20 7 k (Am t) x 0) [] emp (up φ))
  ·exact hφ.elim
 ·exact hφ.elim
theorem aDo:AO ak (AZ W7) 87 (F87 byX):=by
 refine CG (C7 Ak W7 noSpec Aw) wR fun H w Bl args φ hrep hφ=>?_
 have hn:wR.ntmps=28:=by kernel_rfl
 unfold F87 at hφ;split at hφ
 ·split at hφ
  ·rename_i k g x h1 h2
   obtain ⟨q1,q2,hφ⟩:=hφ;match args,hrep with
   |[a,b],⟨ra,rb,_⟩=>
    refine ⟨[.sl 7 k (Am (Ap (α:=VI) g)),.i .i64 x],⟨CY (Bz h1 ra) q1,Dz h2 rb,ϖ⟩,L0,?_⟩;have hk:=ϑ q2;generalize Ap (α:=VI) g=t at *;rw[hn];refine BZ (Ej _) 300 400 [⟨87,NK,WQ 28 7 k (Am t) x 0,[]⟩] ?_;exact D9 (aly hk k 0 (by omega) hφ:AB ak (C7 Ak W7 noSpec Aw) (K0 H w) 87 NK (WQ 28 7 k (Am t) x 0) [] emp (up φ))
  ·exact hφ.elim
 ·exact hφ.elim
theorem aDp:AO ak (AZ W7) 114 au7:=by
 refine CG (C7 Ak W7 noSpec Aw) vH fun H w Bl args φ hrep hφ=>?_
 have hn:vH.ntmps=18:=by kernel_rfl
 unfold au7 at hφ;split at hφ
 ·split at hφ
  ·rename_i k g x h1 h2
   obtain ⟨q1,q2,hφ⟩:=hφ;match args,hrep with
   |[a,b],⟨ra,rb,_⟩=>
    refine ⟨[.sl 1 k (Am (Ap (α:=Int) g)),.i .i64 x],⟨CY (Bz h1 ra) q1,Dz h2 rb,ϖ⟩,L0,?_⟩;have hk:=ϑ q2;generalize Ap (α:=Int) g=t at *;rw[hn];refine BZ (Ej _) 300 400 [⟨114,NK,WQ 18 1 k (Am t) x 0,[]⟩] ?_;exact D9 (alz hk k 0 (by omega) hφ:AB ak (C7 Ak W7 noSpec Aw) (K0 H w) 114 NK (WQ 18 1 k (Am t) x 0) [] emp (up φ))
  ·exact hφ.elim
 ·exact hφ.elim
end Go.Proofs
namespace Go.Pl
open Go Go.Sx Go.Proofs
open Go.BI (De)
def waB(k:Nat)(d:Nat->De):Bool:=decide (0<k)&&decide ((d (k - 1)).back<0)
def au9:ϵ
 |[.agg [.i .i64 _,.i .i64 _,.i .i64 _,.i .i64 _,.i .i64 _,.i .i64 _,s]]=>match Dj 8 s with
  |some (k,g)=>.need (gG De k g) (.need (decide (k<=1000)) (.leaf (.b (waB k (aO g))))) |none=>.fail
 |_=>.fail
def ava:ϵ
 |[s]=>match Dj 8 s with
  |some (k,g)=>.need (gG De k g) (.need (decide (k<=1000)) (.leaf (.os 128 8 k (aS (aO (α:=De) g))))) |none=>.fail
 |_=>.fail
end Go.Pl
namespace Go.Proofs
open Go Go.Sx Go.Pl
open Go.BI (De)
theorem ahm{P:Program}{C:Ctx}{K:Kx}{g:Nat}{td:List It}{c c':Core}{R:Hp->Prop}{φ:Sh->Prop}(ρ:List (Nat×Rn)){l:List BL}(h:qC ρ c c'=aj l)(ha:BL.all l)(hgo:AB P C K g td c' [] R φ):AB P C K g td c [] R φ:=
 abB (stk:=[]) (KL:=[]) ρ (ano h ha) trivial hgo
theorem E5{n:Nat}(h:0<n)(h2:n<=1000):Ak.sub .i64 (Ak.AV n) 1=((n - 1:Nat):Int):=by
 show bD.wrap ((n:Int) - 1)=_;grind [CU]
theorem apG{H:Mem}{a b c d e f:Int}{s s':Sh}{v:Value}(h:Rep H (.agg [.i .i64 a,.i .i64 b,.i .i64 c,.i .i64 d,.i .i64 e,.i .i64 f,s]) v)(hs:∀u,Rep H s u->Rep H s' u):Rep H (.agg [.i .i64 a,.i .i64 b,.i .i64 c,.i .i64 d,.i .i64 e,.i .i64 f,s']) v:=by
 grind [Go.BI.Qw]
theorem aDq:AO ak (AZ W7) 115 au9:=by
 refine CV (Ej Aw) 300 400 L0 Tryz.f115 fun H w Bl args φ hrep hφ=>?_
 unfold au9 at hφ;split at hφ
 ·rename_i a b c d e f s
  split at hφ
  ·rename_i k g h1
   obtain ⟨q1,q2,hφ⟩:=hφ;match args,hrep with
   |[v],⟨hv,_⟩=>
    refine ⟨[.agg [.i .i64 a,.i .i64 b,.i .i64 c,.i .i64 d,.i .i64 e,.i .i64 f,.sl 8 k (aS (aO (α:=De) g))]],⟨apG hv fun _ u=>nC (Bz h1 u) q1,ϖ⟩,?_⟩;have hk:=ϑ q2;have kk (x:Bool) (h:x=waB k (aO g)):up φ (.b x):=AY (s':=.b (waB k (aO g))) (.inl (by rw[h])) hφ;clear hφ;generalize aO (α:=De) g=t at *;rw[<-Dh];refine Ld (nd (Ak.lt 0 (Ak.AV k)) (fun q=>an (?_:Ak.inB (Ak.sub .i64 (Ak.AV k) 1) k=ay) (kk (Ak.lt (t (Ak.toN (Ak.sub .i64 (Ak.AV k) 1))).back 0) ?_)) (fun q=>kk aA ?_))
    ·grind [Ar,AL,E5,AX]
    ·grind [Ar,AL,E5,Cm,waB]
    simp_all [Ar,AL,waB]
  ·exact hφ.elim
 ·exact hφ.elim
def aaK:List It:=[aK [0,1,0,1,1],aX 0,aK [1,1,1]]
def aAW:List It:=aK [0,0,1,0,1,1]::aaK
def aeE(n:Nat)(d:Nat->De)(k:Nat)(G:ϝ)(i:Int):Core:={tm:=DF 22 [(0,.sh (.sl 8 n (aS d))),(3,.gs 0),(4,.sym .i64 i)],hp:=[(0,.own 128 8 k G)],nx:=1,lim:=L0,tc:=[]}
section
variable{H0:Mem}{w0:World}{φ:Sh->Prop}{n:Nat}{d:Nat->De}
theorem alA(hn:n<=1000)(hφ:φ (.os 128 8 n (aS d))):∀r k,k+r=n->AB ak (C7 Ak W7 noSpec Aw) (K0 H0 w0) 90 aaK (aeE n d k (aS d) (k:Nat)) [] emp φ
 |r,k,hk=>by
  refine D6 wU aAW ?_;have e1:Ak.add .i64 (k:Int) 1=((k+1:Nat):Int):=add1 (by omega);refine BZ (Ej _) 300 400 [⟨90,aaK,aeE n d (k+1) (Ak.snoc (aS d) k (Bh [qI (d k)])) (Ak.add .i64 (k:Int) 1),[]⟩] ?_;refine D9 (nd (Ak.lt (k:Int) (Ak.AV n)) (fun q=>an (?_:Ak.inB (k:Int) n=ay) (an (room_le (by omega) (by omega):Ak.room (k+1) 64=ay)
   (?_:AB ak (C7 Ak W7 noSpec Aw) (K0 H0 w0) 90 aaK (aeE n d (k+1) (Ak.snoc (aS d) k (Bh [qI (d k)])) (Ak.add .i64 (k:Int) 1)) [] emp φ))) (fun q=>(?_:φ (.os 128 8 k (aS d)))))
  all_goals simp only[Ar,AL] at *
  ·simp_all [AX]
  ·simp at q
   match r,hk with
   |0,hk=>omega |r+1,hk=>
    exact ahm (c':=aeE n d (k+1) (aS d) ((k+1:Nat):Int)) [(0,.id 0)] (l:=[.sh (.sl 8 n (aS d)) (.sl 8 n (aS d)),.int (Ak.add .i64 (k:Int) 1) ((k+1:Nat):Int),.nat (k+1) (k+1),.get (k+1) (Ak.snoc (aS d) k (Bh [qI (d k)])) (aS d)]) (by kernel_rfl)
     ⟨rfl,e1,rfl,Go.BI.aas rfl,ϖ⟩ (alA hn hφ r (k+1) (by omega))
  grind
end
theorem aDr:AO ak (AZ W7) 90 ava:=by
 refine JA (C7 Ak W7 noSpec Aw) wU fun H w Bl args φ hrep hφ=>?_
 have hn:wU.ntmps=22:=by kernel_rfl
 unfold ava at hφ;split at hφ
 ·split at hφ
  ·rename_i s k g h1
   obtain ⟨q1,q2,hφ⟩:=hφ;match args,hrep with
   |[v],⟨hv,_⟩=>
    refine ⟨[.sl 8 k (aS (aO (α:=De) g))],⟨nC (Bz h1 hv) q1,ϖ⟩,L0,?_⟩;have hk:=ϑ q2;have hφ:φ (.os 128 8 k (aS (aO (α:=De) g))):=hφ;generalize aO (α:=De) g=d at *;rw[hn];refine BZ (Ej _) 300 400 [⟨90,aaK,aeE k d 0 (fun _=>[]) 0,[]⟩] ?_;refine D9 (an (by rfl:Ak.le 0 (Ak.AV k)=ay) (an (room_le (by omega) (by omega):Ak.room k 64=ay)
     (ahm (c':=aeE k d 0 (aS d) 0) [(0,.id 0)] (l:=[.sh (.sl 8 k (aS d)) (.sl 8 k (aS d)),.int 0 0,.nat 0 0,.get 0 (fun _=>[]) (aS d)]) (by kernel_rfl) ⟨rfl,rfl,rfl,fun i hi=>by omega,ϖ⟩ (alA hk hφ k 0 (by omega)):AB ak (C7 Ak W7 noSpec Aw) (K0 H w) 90 aaK (aeE k d 0 (fun _=>[]) 0) [] emp φ)))
  ·exact hφ.elim
 ·exact hφ.elim
def apH:ϕ
 |90=>aj ava |_=>aF
def F88:ϵ
 |[.agg [.i .i64 a,.i .i64 b,.i .i64 c,.i .i64 d,.i .i64 e,.i .i64 f,s]]=>match Dj 8 s with
  |some (k,g)=>.need (gG De k g) (.need (decide (k<=1000)) (.leaf (.agg [.i .i64 a,.i .i64 b,.i .i64 c,.i .i64 d,.i .i64 e,.i .i64 f,.os 128 8 k (aS (aO (α:=De) g))]))) |none=>.fail
 |_=>.fail
theorem aAY(stop:Nat->List Nat->Bool):BJ ak (C7 Ak W7 apH stop):=C7.OG (fun g F h=>by
 grind [apH,aDr]) fun g h=>by
 unfold apH at h;split at h;all_goals first|(cases h;done) |kernel_rfl
theorem O88:AO ak (AZ W7) 72 F88:=by
 refine JA (C7 Ak W7 apH Aw) Tryz.f72 fun H w Bl args φ hrep hφ=>?_
 have hn:Tryz.f72.ntmps=8:=by kernel_rfl
 unfold F88 at hφ;split at hφ
 ·rename_i a b c d e f s
  split at hφ
  ·rename_i k g h1
   obtain ⟨q1,q2,hφ⟩:=hφ;match args,hrep with
   |[v],⟨hv,_⟩=>
    refine ⟨[.agg [.i .i64 a,.i .i64 b,.i .i64 c,.i .i64 d,.i .i64 e,.i .i64 f,.sl 8 k (aS (aO (α:=De) g))]],⟨apG hv fun _ u=>nC (Bz h1 u) q1,ϖ⟩,L0,?_⟩;have hφ:φ (.agg [.i .i64 a,.i .i64 b,.i .i64 c,.i .i64 d,.i .i64 e,.i .i64 f,.os 128 8 k (aS (aO (α:=De) g))]):=hφ;generalize aO (α:=De) g=t at *;have et:aO (α:=De) (aS t)=t:=funext fun i=>Go.BI.MQ t i
    rw[<-et] at hφ;rw[hn];refine BZ (aAY _) 300 400 [] ?_;exact D9 (an (Go.BI.Cb t k) (an q2 hφ))
  ·exact hφ.elim
 ·exact hφ.elim
end Go.Proofs
namespace Go.Sx
def QB(n:Nat)(G G':ϝ):Prop:=∀i,i<n->(G' i).length=(G i).length/\∀(j:Nat) (s':Sh),(G' i)[j]?=aj s'->∃s:Sh,(G i)[j]?=aj s/\∀(H:Mem) (u:Value),Rep H s u->Rep H s' u
theorem alB{H:Mem}{st n:Nat}{G G':ϝ}{xs:List Value}(h:CQ H st n G xs)(hw:QB n G G'):CQ H st n G' xs:=
 ⟨h.1,fun i hi=>(hw i hi).1.trans (h.2.1 i hi),h.2.2.1,fun i j s v hi e1 e2=>by
  obtain ⟨s0,q1,q2⟩:=(hw i hi).2 j s e1;exact q2 H v (h.2.2.2 i j s0 v hi q1 e2)⟩
theorem Ir{P:Program}{C:Ctx}{K:Kx}{g:Nat}{td:List It}{c:Core}{φ:Sh->Prop}{id e st n:Nat}{G G':ϝ}(hl:Aq c.hp id=aj (.own e st n G))(hw:QB n G G')
  (hgo:AB P C K g td {c with hp:=hset c.hp id (.own e st n G')} [] emp φ):AB P C K g td c [] emp φ:=by
 intro H E w a items ms cs fn hfn st0 hi hs hx;refine hgo H E w a items ms cs fn hfn ⟨st0.den,⟨fun i sb h=>?_,fun i i' sb sb' b h1 h2 o1 o2=>?_⟩,st0.CP,st0.free,st0.gl,st0.defers⟩ hi hs U7
 ·rw[EC] at h
  cases hid:(id==i)<;>simp only[hid,ϰ,ϗ] at h
  ·exact st0.hp.ent _ _ h
  ·obtain rfl:id=i:=by grind
   rw[hl] at h;cases h;obtain ⟨v,xs,q1,q2,q3,q4⟩:=st0.hp.ent _ _ hl;exact ⟨v,xs,q1,q2,alB q3 hw,q4⟩
 ·have key:∀{j:Nat} {s:SB},Aq (hset c.hp id (.own e st n G')) j=aj s->Bv E j s=aj b->∃s0,Aq c.hp j=aj s0/\Bv E j s0=aj b:=by
   intro j s h o;rw[EC] at h;cases hid:(id==j)<;>simp only[hid,ϰ,ϗ] at h
   ·simp_all
   ·obtain rfl:id=j:=by grind
    rw[hl] at h;cases h;exact ⟨_,hl,o⟩
  obtain ⟨s1,a1,a2⟩:=key h1 o1;obtain ⟨s2,a3,a4⟩:=key h2 o2;exact st0.hp.GH _ _ _ _ _ a1 a3 a2 a4
end Go.Sx
namespace Go.Pl
open Go Go.Sx Go.Proofs
open Go.BI (Ev QZ De Rc)
def avb:ϵ
 |[s,.agg l]=>match Dj 2 s,Go.BI.abL l with
  |some (n,g),aj e=>.need (okB Oj n g) (.need (decide (Qe n (Ap g) e=0)) (.leaf (.v (.int .i64 0)))) |_,_=>.fail
 |_=>.fail
def FI:ϕ
 |44=>aj F57 |69=>aj avb |71=>aj (F87 fdX) |87=>aj (F87 byX) |114=>aj au7 |115=>aj au9 |72=>aj F88 |89=>aj (F2B Go.BI.H7) |_=>aF
def EZ(tx:Nat->Rc):ϝ:=fun j=>[.i .i64 (tx j).id,.i .i64 (tx j).th,.i .i64 (tx j).st,.i .i64 (tx j).bg,.i .i64 (tx j).en,.i .i64 (tx j).tr,.sl 8 (tx j).AA.length (aS (Go.BI.nth (tx j).AA))]
end Go.Pl
namespace Go.Proofs
open Go Go.Sx Go.Pl
open Go.BI (Ev QZ De Rc)
def ED(A:Prim)(W:Wd)(spec:ϕ)(stop:Nat->List Nat->Bool):Ctx:=
 {A,tys:=Tryz.tys,fns:=mO,spec,eqs:=[261,89],Xg:=[322],L9:=stop,gls:=AZ W,live:=Tryz.live,pks:=[145],acU:=aph,lend:=fun g=>g==71||g==87||g==114||g==115||g==25}
instance ED.ok(spec:ϕ)(stop:Nat->List Nat->Bool):BP ak (ED Ak W7 spec stop):=
 ⟨YH Tryz.tysB_,Px gI,rfl,Tryz.mixed_,fun t i h hi xs ys w h1 h2 x y=>Wp (PE atK t i h hi) xs ys w h1 h2 x y,U8 atL,akR⟩
theorem ED.OG{spec:ϕ}{stop:Nat->List Nat->Bool}(hs:∀g F,spec g=aj F->AO ak (AZ W7) g F)(he:∀g,(spec g).isSome=ay->(mO.get g).isSome=ay):BJ ak (ED Ak W7 spec stop):=
 ⟨hs,fun g h=>by
  rcases h with h|h
  ·exact FY gI iR g (he g h)
  ·exact FY gI iR g h,fun _ _ _ h=>(by cases h),fun _ _ _ h=>(by cases h)⟩
theorem avc{H H':Mem}{w w':World}{v:Value}{k:IntKind}{c:Int}(r:Dx H w (.i k c) v H' w'):Dx H w (.v (.int k c)) v H' w':=
 ⟨r.Ji,r.on,r.os,r.tape,r.output,r.size,r.old,r.fresh,r.res⟩
theorem aaL{P:Program}{gls:List (Nat×Sh)}{g:Nat}{F G:ϵ}(hF:AO P gls g F)(h:∀(Bl:List Sh) (φ:Sh->Prop),(G Bl).All φ->∃(k:IntKind) (c:Int),φ (.v (.int k c))/\(F Bl).All fun s=>s=.i k c):AO P gls g G:=by
 intro H w Bl args φ hon hg hr hφ;obtain ⟨k,c,h1,h2⟩:=h Bl φ hφ;refine (hF H w Bl args _ hon hg hr h2).mono fun e w' ⟨v,s,H',he,hs,r⟩=>?_;subst hs;exact ⟨v,_,H',he,h1,avc r⟩
theorem aDs:AO ak (AZ W7) 69 avb:=aaL O84 fun Bl φ h=>by
 unfold avb at h;split at h
 ·split at h
  ·rename_i e1 e2
   obtain ⟨ha,hc,hφ⟩:=h;refine ⟨.i64,0,hφ,?_⟩;unfold F84;simp only[e1,e2];refine ⟨ha,?_⟩;show aQ .i64 _=_;simp_all
  ·exact h.elim
 ·exact h.elim
theorem TU(stop:Nat->List Nat->Bool):BJ ak (ED Ak W7 FI stop):=ED.OG (fun g F h=>by
 unfold FI at h;split at h
 ·cases h;exact O57
 ·cases h;exact aDs
 ·cases h;exact O87
 ·cases h;exact aDo
 ·cases h;exact aDp
 ·cases h;exact aDq
 ·cases h;exact O88
 ·cases h;exact aCZ
 ·cases h) fun g h=>by
 unfold FI at h;split at h;all_goals first|(cases h;done) |kernel_rfl
def F8:List It:=[aK [0,1,0,1,1,1,1],aX 0,aK [1,1,1,1,1]]
def aDt:List It:=aK [0,0,1,0,1,1,1,1]::F8
def Gs(n:Nat)(o:Nat->Oj)(m:Nat)(ev:ϝ)(k:Nat)(G:ϝ)(c:Nat)(gc:ϝ)(ft:Int)(fk:Nat)(fg:ϝ)(i q:Int):Core:=
 {tm:=DF 38 [(1,.ptr 0 0),(2,.Bg),(3,.ptr 1 0),(4,.ptr 2 0),(5,.ptr 3 0),(6,.sym .i64 i)],
  hp:=[(0,.box [.sh (.sl 2 n (Am o)),.sh (.sl 8 m ev)] 25),(1,.box [.int .i64 0,.Bg] 37),(2,.box [.sym .i64 ft,.sh (.sl 1 fk fg)] 37),(3,.box [.sh (.sl 2 n (Am o)),.gs 4,.gs 5,.sym .i64 q] 118),(4,.own 87 7 k G),(5,.own 3 1 c gc)],nx:=6,lim:=L0,tc:=[]}
end Go.Proofs
namespace Go.Pl
open Go Go.Sx
open Go Go.Sx Go.Proofs
structure Rf where
 kind:Int
 num:Int
 keys:List Int
 vals:List Int
 deriving DecidableEq,Inhabited
def Q5(s:Rf):List Sh:=[.i .i64 s.kind,.i .i64 s.num,.sl 1 (len s.keys) (Am (nth s.keys)),.sl 1 (len s.vals) (Am (nth s.vals))]
def DJ(d:Nat->Rf):ϝ:=fun j=>Q5 (d j)
def Ja(o:Nat->Oj)(j:Nat):Rf:=⟨(o j).kind,(o j).init,[],[]⟩
def Bo(l:List Int)(key:Int):Nat:=(l.takeWhile fun p=>decide (p<key)).length
def hasK(l:List Int)(key:Int):Bool:=decide (Bo l key<l.length)&&(nth l (Bo l key)==key)
def isL(l:List Int)(a:Nat)(g:ϝ):Bool:=okB Int a g&&decide (lst Int a g=l/\l.length<=1000000000)
def Fv(kind num op k v:Int):Int:=
 if kind=0\/Fp op≠kind then 111
 else if (keyed op=aA/\k≠0)\/k<0\/1000<k\/(valued op=aA/\v≠0)\/v < -1000000000\/1000000000<v then 110
 else if op=3/\(KN num v < -1000000000000000\/1000000000000000<KN num v) then 110
 else 0
def isC(x y op k v c:Int):Bool:=decide (Fv x y op k v=c)
def Ko(n:Nat)(g:ϝ):Bool:=okB Int n g&&Cc n 8
def F9(g:ϝ):ϝ:=Am (Ap (α:=Int) g)
theorem aeF:∀{l:List Int} {key:Int} {i:Nat},i<=l.length->(∀j,j<i->nth l j<key)->(i<l.length->¬nth l i<key)->Bo l key=i
 |[],key,i,h,_,_=>by simp at h;subst h;rfl |a::l,key,0,_,_,h2=>by
  have:=h2 (by simp);have:¬a<key:=this;simp_all [Bo]
 |a::l,key,i+1,h,h1,h2=>by
  have h0:a<key:=h1 0 (by omega);have ih:=aeF (l:=l) (key:=key) (i:=i) (by simpa using h) (fun j hj=>h1 (j+1) (by omega)) (fun hi=>h2 (by grind));simp_all [Bo,jU,decide_true,List.length_cons]
theorem avd(l:List Int)(key:Int):Bo l key<=l.length:=by grind [Bo,List.takeWhile_prefix]
def TV(s:Rf)(op k v:Int):Rf×Int×Int:=
 if op=1\/op=4 then (s,3,s.num)
 else if op=2 then ({s with num:=v},1,0)
 else if op=3 then ({s with num:=KN s.num v},1,0)
 else if op=5 then ({s with vals:=s.vals++[v]},1,0)
 else if op=6 then ({s with vals:=s.vals.tail},WU s.vals.length,s.vals.headD 0)
 else if op=7 then (if hasK s.keys k=ay then {s with vals:=s.vals.set (Bo s.keys k) v} else {s with keys:=s.keys.take (Bo s.keys k)++k::s.keys.drop (Bo s.keys k),vals:=s.vals.take (Bo s.keys k)++v::s.vals.drop (Bo s.keys k)},1,0)
 else if op=8 then (s,if hasK s.keys k=ay then 3 else 2,if hasK s.keys k=ay then nth s.vals (Bo s.keys k) else 0)
 else if op=9 then (if hasK s.keys k=ay then {s with keys:=s.keys.take (Bo s.keys k)++s.keys.drop (Bo s.keys k+1),vals:=s.vals.take (Bo s.keys k)++s.vals.drop (Bo s.keys k+1)} else s,if hasK s.keys k=ay then 3 else 2,if hasK s.keys k=ay then nth s.vals (Bo s.keys k) else 0)
 else (s,0,0)
def anY(r:Rf×Int×Int):Sh:=.Az [.agg (Q5 r.1),.i .i64 r.2.1,.i .i64 r.2.2,.i .i64 0]
def aiP(a b:Nat):Bool:=decide (a<=100000/\b<=100000)
def ave(x:Int)(a b:Nat):Bool:=!decide (x=4)||decide (a=b)
def Si(n:Nat)(g:ϝ)(l:List Int):Prop:=n=l.length/\∀i,i<n->g i=Am (nth l) i
theorem DW(l:List Int):Si (len l) (Am (nth l)) l:=⟨rfl,fun _ _=>rfl⟩
theorem Dv{n:Nat}{o:Nat->Int}{l:List Int}(h:Si n (Am o) l):Si n (F9 (Am o)) l:=h
theorem GY{l:List Int}{p:Nat}(h:p<=l.length):Si p (Am (nth l)) (l.take p):=⟨by simp;omega,fun i hi=>by simp[Am,nth,hi]⟩
theorem G8{l:List Int}{q n:Nat}(_h:q<=l.length)(hn:n=l.length - q):Si n (Am fun j=>nth l (q+j)) (l.drop q):=⟨by simp[hn],fun i hi=>by simp[Am,nth,List.getElem?_drop]⟩
theorem aaM(v:Int):Si 1 (Bh [[aQ .i64 v]]) [v]:=⟨rfl,fun i hi=>by
 obtain rfl:i=0:=by omega
 rfl⟩
theorem MX{n m:Nat}{g h:ϝ}{l r:List Int}(h1:Si n g l)(h2:Si m h r):Si (n+m) (Ak.snoc g n h) (l++r):=by
 obtain ⟨rfl,h1⟩:=h1;obtain ⟨rfl,h2⟩:=h2;refine ⟨by simp,fun i hi=>?_⟩;rw[Dn];(split)<;>grind [Am,nth,gY,iZ,Nat.le_of_not_lt]
theorem arA{l:List Int}{p:Nat}(v:Int)(h:p<l.length):Si (len l) (Ak.upd (Am (nth l)) p 0 [aQ .i64 v]) (l.set p v):=by
 refine ⟨by simp[len],fun i hi=>?_⟩;rw[OY];by_cases e:i=p
 ·subst e
  simp[Am,nth,h];rfl
 simp_all [Am,nth,Ne.symm]
theorem Jv{n:Nat}{g:ϝ}{l:List Int}(h:Si n g l)(hn:n<=1000000):Ko n g=ay:=by
 unfold Ko;rw[aB];exact ⟨Qr (o:=nth l) fun i hi=>h.2 i hi,kY hn (by omega)⟩
def P5(d:Nat->Rf)(n:Nat)(g:ϝ):Bool:=@decide (∀j,j<n->g j=Q5 (d j)) (aI _)
def isR(r:Rf)(x y:Int)(s2 s3:Sh):Bool:=@decide ([.i .i64 x,.i .i64 y,s2,s3]=Q5 r) (aI _)
def Q7(r:Rf)(op k v:Int):Rf:=(TV r op k v).1
def opR(r:Rf)(op k v:Int):Int:=(TV r op k v).2.1
def opV(r:Rf)(op k v:Int):Int:=(TV r op k v).2.2
def wfU(r:Rf):Bool:=aiP r.keys.length r.vals.length&&ave r.kind r.keys.length r.vals.length
def TW(k:Int):List UInt8:=Af 15 (k - 1).toNat
def qU(r:List Int)(j:Nat):List UInt8:=(aU j).flatMap fun i=>32::BK (nth r i)
def pU(l r:List Int)(j:Nat):List UInt8:=(aU j).flatMap fun i=>32::(BK (nth l i)++58::BK (nth r i))
def Sj(s:Rf):List UInt8:=if s.kind=0 then [] else TW s.kind++(if s.kind<=2 then 32::BK s.num else if s.kind=3 then qU s.vals s.vals.length else pU s.keys s.vals s.vals.length)
def rowB(l:List Sh):Bool:=@decide (∃r:Rf,l=Q5 r) (aI _)
theorem Qw{H:Mem}{l l':List Sh}{v:Value}(hv:Rep H (.agg l) v)(hl:l'.length=l.length)(h:∀(j:Nat) (s s':Sh),l[j]?=aj s->l'[j]?=aj s'->∀u,Rep H s u->Rep H s' u):Rep H (.agg l') v:=by
 cases hv with
 |agg _ vs h3 h4=>
  refine .agg _ vs (by omega) fun j s' v' e1 e2=>?_
  grind
def Q8(d:Nat->Rf):Nat->List UInt8
 |0=>[] |k+1=>Q8 d k++((if k=0 then [] else [59,32])++Sj (d k))
def Xd(n:Nat)(d:Nat->A8):List UInt8:=ag7 ((aU n).map d)
def DX(n:Nat)(d:Nat->A8)(m:Nat)(f:Nat->Rf):Bool:=(Xd n d==Q8 f m)&&((n:Int)==(m:Int))
def okM(n:Nat)(f:Nat->Rf)(i op k v:Int):Bool:=Gw n i&&isC (f i.toNat).kind (f i.toNat).num op k v 0
def aeG(n:Nat)(f:Nat->Rf)(i op k v:Int):Int:=if Gw n i=ay then Fv (f i.toNat).kind (f i.toNat).num op k v else 109
def avg(n:Nat)(f:Nat->Rf)(i:Int):Bool:=!Gw n i||wfU (f i.toNat)
def toR(s:A8):Rf:=⟨s.kind,s.num,s.ps.map (·.key),s.q++s.ps.map (·.val)⟩
theorem OZ(ps:List Pr)(k:Int):Bo (ps.map (·.key)) k=CZ ps k:=by
 unfold Bo CZ;rw[List.takeWhile_map,dH];rfl
theorem arg_eq(x y op k v:Int):Fv x y op k v=if Iz x op=ay then 111 else if Jr x y op k v=ay then 110 else 0:=by
 by_cases h1:x=0\/Fp op≠x
 ·simp_all [Iz,Fv]
 ·have hx:x≠0/\Fp op=x:=⟨fun e=>h1 (.inl e),Classical.byContradiction fun e=>h1 (.inr e)⟩
  have:¬Iz x op=ay:=by
   simp_all [Iz]
  rw[if_neg this];unfold Fv;rw[if_neg h1];have h3:op=3->x=2:=fun e=>by rw[<-hx.2,e];decide
  have e1:(Jr x y op k v=ay)↔((keyed op=aA/\k≠0)\/k<0\/1000<k\/(valued op=aA/\v≠0)\/v < -1000000000\/1000000000<v)\/(op=3/\(KN y v < -1000000000000000\/1000000000000000<KN y v)):=by
   grind [Jr,J5,keyed,valued]
  grind
theorem alD(ps:List Pr){i:Nat}(h:i<ps.length):nth (ps.map (·.key)) i=(nth ps i).key:=by simp[nth,h]
theorem aeH(ps:List Pr){i:Nat}(h:i<ps.length):nth (ps.map (·.val)) i=(nth ps i).val:=by simp[nth,h]
theorem Zg:∀{ps:List Pr} {k:Int},(ps.Pairwise fun a b=>a.key<b.key)->(EI ps k=ay↔CZ ps k<ps.length/\(nth ps (CZ ps k)).key=k)
 |[],k,_=>by simp[EI,CZ] |a::ps,k,h=>by
  rw[sG] at h;have ih:=Zg (ps:=ps) (k:=k) h.2;by_cases hk:a.key<k
  ·grind [CZ,jU,EI,nth]
  ·have e:CZ (a::ps) k=0:=by simp_all [CZ]
   rw[e];constructor
   ·intro q
    refine ⟨by simp,?_⟩;show a.key=k;grind [EI]
   ·intro ⟨_,q⟩
    have q:a.key=k:=q;simp[EI,q]
theorem WA{ps:List Pr}{k:Int}(h:ps.Pairwise fun a b=>a.key<b.key):hasK (ps.map (·.key)) k=EI ps k:=by
 have e:hasK (ps.map (·.key)) k=ay↔EI ps k=ay:=by
  rw[Zg h];unfold hasK;simp_all [OZ,aB,dH,alD]
 simp_all
theorem aeI{ps:List Pr}:TG ps=ay↔(ps.Pairwise fun a b=>a.key<b.key)/\∀p∈ps,0<=p.key/\p.key<=1000:=by
 simp_all [TG,aB,dh]
theorem alE{ps:List Pr}{k v:Int}(hs:ps.Pairwise fun a b=>a.key<b.key)(h:EI ps k=ay):(FU ps k v).map (·.key)=ps.map (·.key):=by
 obtain ⟨h1,h2⟩:=RV hs h;grind [aiB,yS,set,CZ,List.set_getElem_self]
theorem avh{ps:List Pr}{k v:Int}(h:TG ps=ay)(hk:0<=k/\k<=1000):TG (FU ps k v)=ay:=by
 rw[aeI] at h ⊢;obtain ⟨hs,hb⟩:=h;cases hh:EI ps k with
 |true=>
  have e:=alE (v:=v) hs hh;refine ⟨?_,fun p hp=>?_⟩
  ·have:(ps.map (·.key)).Pairwise (·<·):=List.pairwise_map.2 hs
   grind
  grind [FU]
 |false=>
  rw[aiA hh];have hl:=ak5 ps k;have hg:=ak6 (key:=k) hs;have hn:∀p∈ps,p.key≠k:=fun p hp e=>by
   simp_all [EI]
  have ht:∀p∈ps.take (CZ ps k),p.key<k:=fun p hp=>by
   grind [List.mem_take_iff_getElem]
  have hd:∀p∈ps.drop (CZ ps k),k<p.key:=fun p hp=>by
   grind [List.mem_drop_iff_getElem,CZ,jI]
  (refine ⟨List.pairwise_append.2 ⟨hs.sublist (List.take_sublist _ _),sG.2 ⟨fun p hp=>hd p hp,hs.sublist (tZ _ _)⟩,fun a ha b hb=>?_⟩,fun p hp=>?_⟩)<;>grind
theorem avi{ps:List Pr}{k:Int}(h:TG ps=ay):TG (GU ps k)=ay:=by
 cases hh:EI ps k with
 |false=>grind [aiC] |true=>
  rw[aiD hh];rw[aeI] at h ⊢;have sub:(ps.take (CZ ps k)++ps.drop (CZ ps k+1)).Sublist ps:=by
   grind [List.take_append_drop,CZ,zG,List.drop_drop,tZ]
  grind
structure Gt(m:Nat)(s:A8):Prop where
 kind:1<=s.kind/\s.kind<=4
 q0:s.kind≠3->s.q=[]
 p0:s.kind≠4->s.ps=[]
 wf:TG s.ps=ay
 num:-1000000000000000<=s.num/\s.num<=1000000000000000
 qv:∀x∈s.q,-1000000000<=x/\x<=1000000000
 pv:∀p∈s.ps,-1000000000<=p.val/\p.val<=1000000000
 ql:s.q.length<=m
 pl:s.ps.length<=m
 n0:2<s.kind->s.num=0
theorem aiR{x y op k v:Int}(h:Fv x y op k v=0):(x≠0/\Fp op=x)/\(0<=k/\k<=1000)/\(-1000000000<=v/\v<=1000000000)/\(op=3->-1000000000000000<=KN y v/\KN y v<=1000000000000000):=by
 grind [Fv]
theorem ahn{x y op k v:Int}(h:Fv x y op k v=0):op=1\/op=2\/op=3\/op=4\/op=5\/op=6\/op=7\/op=8\/op=9:=by
 obtain ⟨⟨q1,q2⟩,_⟩:=aiR h;grind [Fp]
theorem aho{m:Nat}{s:A8}{op k v:Int}(h:Gt m s)(ha:Fv s.kind s.num op k v=0):Q7 (toR s) op k v=toR (Ey s op k v).1/\Gt (m+1) (Ey s op k v).1:=by
 obtain ⟨⟨k0,hk⟩,⟨b1,b2⟩,bv,bs⟩:=aiR ha;have hop:=ahn ha;have h':Gt (m+1) s:={h with ql:=nV h.ql,pl:=nV h.pl}
 obtain ⟨kind,num,q,ps⟩:=s;rcases hop with rfl|rfl|rfl|rfl|rfl|rfl|rfl|rfl|rfl
 ·exact ⟨rfl,h'⟩
 ·exact ⟨rfl,{h' with num:=⟨by show _<=v;omega,by show v<=_;omega⟩,n0:=fun e=>by have hk:(1:Int)=kind:=hk;have e:2<kind:=e;omega}⟩
 ·exact ⟨rfl,{h' with num:=bs rfl,n0:=fun e=>by have hk:(2:Int)=kind:=hk;have e:2<kind:=e;omega}⟩
 ·exact ⟨rfl,h'⟩
 ·have hk:(3:Int)=kind:=hk
  subst hk;have hp:ps=[]:=h.p0 (show (3:Int)≠4 by decide);subst hp;refine ⟨by simp[Q7,TV,Ey,toR],{h' with q0:=fun e=>absurd rfl e,qv:=fun x hx=>?_,ql:=?_}⟩
  ·have hx:x∈q++[v]:=hx
   rcases bQ.1 hx with hx|hx
   ·exact h.qv x hx
   simp_all
  ·show (q++[v]).length<=m+1
   have:=h.ql;simp_all
 ·have hk:(3:Int)=kind:=hk
  subst hk;have hp:ps=[]:=h.p0 (show (3:Int)≠4 by decide);subst hp;refine ⟨by simp[Q7,TV,Ey,toR],{h' with q0:=fun e=>absurd rfl e,qv:=fun x hx=>h.qv x (List.mem_of_mem_tail hx),ql:=?_}⟩
  show q.tail.length<=m+1;have:=h.ql;grind
 ·have hk:(4:Int)=kind:=hk
  subst hk;have hq:q=[]:=h.q0 (show (4:Int)≠3 by decide);subst hq;have hs:=F7 h.wf;refine ⟨?_,{h' with p0:=fun e=>absurd rfl e,wf:=avh h.wf ⟨b1,b2⟩,pv:=fun p hp=>?_,pl:=?_}⟩
  ·show (if hasK (ps.map (·.key)) k=ay then (_:Rf) else _)=⟨4,num,(FU ps k v).map (·.key),[]++(FU ps k v).map (·.val)⟩
   rw[WA hs];cases hh:EI ps k with
   |true=>
    rw[if_pos rfl,alE hs hh,aiB hh];simp[toR,OZ,yS]
   |false=>
    simp_all [aiA,toR,OZ,xJ,xK]
  ·have hp:p∈FU ps k v:=hp
   unfold FU at hp;split at hp
   ·rcases List.mem_or_eq_of_mem_set hp with hp|rfl
    ·exact h.pv p hp
    ·exact bv
   ·rcases bQ.1 hp with hp|hp
    ·exact h.pv p (qJ hp)
    ·rcases oZ.1 hp with rfl|hp
     ·exact bv
     ·exact h.pv p (jI hp)
  ·show (FU ps k v).length<=m+1
   have:=h.pl;grind [aec]
 ·exact ⟨rfl,h'⟩
 ·have hk:(4:Int)=kind:=hk
  subst hk;have hq:q=[]:=h.q0 (show (4:Int)≠3 by decide);subst hq;have hs:=F7 h.wf;refine ⟨?_,{h' with p0:=fun e=>absurd rfl e,wf:=avi h.wf,pv:=fun p hp=>?_,pl:=?_}⟩
  ·show (if hasK (ps.map (·.key)) k=ay then (_:Rf) else _)=⟨4,num,(GU ps k).map (·.key),[]++(GU ps k).map (·.val)⟩
   rw[WA hs];cases hh:EI ps k with
   |true=>
    rw[if_pos rfl,aiD hh];simp[toR,OZ,xJ,xK]
   |false=>
    rw[if_neg (by simp),aiC hh];rfl
  ·have hp:p∈GU ps k:=hp
   unfold GU at hp;split at hp
   ·rcases bQ.1 hp with hp|hp
    ·exact h.pv p (qJ hp)
    ·exact h.pv p (jI hp)
   ·exact h.pv p hp
  ·show (GU ps k).length<=m+1
   have:ps.length<=m:=h.pl;rw[ak8 (show TG ps=ay from h.wf)];grind
theorem abQ{α:Type}[Row α](l:List α)(F:α->List UInt8):(aU l.length).flatMap (fun i=>F (nth l i))=l.flatMap F:=by
 have:=ad2 l;grind [nD]
theorem an1(q:List Int):qU q q.length=q.flatMap fun x=>32::BK x:=abQ q fun x=>32::BK x
theorem an2(ps:List Pr):pU (ps.map (·.key)) (ps.map (·.val)) ps.length=ps.flatMap fun p=>32::(BK p.key++58::BK p.val):=by
 rw[<-abQ ps fun p=>32::(BK p.key++58::BK p.val)];simp_all [pU,List.flatMap_def,iJ,List.mem_range,alD,aeH]
theorem aeJ(l:List (List UInt8)):kQ [32] l=l.flatMap fun x=>32::x:=by
 rfl
theorem key_eq{m:Nat}{s:A8}(h:Gt m s):keyS s=Sj (toR s):=by
 obtain ⟨kind,num,q,ps⟩:=s;have hk:1<=kind/\kind<=4:=h.kind;unfold keyS La Eb;rw[l9,aeJ];have:kind=1\/kind=2\/kind=3\/kind=4:=by omega
 rcases this with rfl|rfl|rfl|rfl
 ·simp[Sj,toR];rfl
 ·simp[Sj,toR];rfl
 ·have hp:ps=[]:=h.p0 (show (3:Int)≠4 by decide)
  subst hp;have:=an1 q;simp[Sj,toR,this,nD];rfl
 ·have hq:q=[]:=h.q0 (show (4:Int)≠3 by decide)
  subst hq;have:=an2 ps;simp[Sj,toR,this,nD];rfl
theorem an3(l:List (List UInt8))(x sep:List UInt8):Eb (l++[x]) sep=Eb l sep++((if l=[] then [] else sep)++x):=by
 unfold Eb;cases l with
 |nil=>simp[Go.Lib.join_one,Go.Lib.join_nil] |cons a l=>
  simp_all [vI,l9,kQ]
theorem keys_eq{m:Nat}{d:Nat->A8}:∀n,(∀j,j<n->Gt m (d j))->Xd n d=Q8 (fun j=>toR (d j)) n
 |0,_=>rfl |n+1,h=>by
  have ih:=keys_eq n fun j hj=>h j (by omega);unfold Xd ag7 at ih ⊢;rw[wG,jR,jR,sH,sH,an3,ih,Q8,key_eq (h n (by omega))];simp
theorem avj{m:Nat}{s:A8}(hm:m<=100000)(h:Gt m s):ND s=ay:=by
 obtain ⟨⟨k1,k2⟩,_,_,wf,⟨n1,n2⟩,qv,pv,ql,pl,_⟩:=h;have wf:=aeI.1 wf;unfold ND;simp only[aB,dh,ϟ];refine ⟨⟨⟨⟨ϱ ⟨by omega,by omega⟩,ϱ ⟨by omega,by omega⟩⟩,fun x hx=>?_⟩,fun p hp=>⟨?_,?_⟩⟩,by omega,by omega⟩
 ·have:=qv x hx;exact ϱ ⟨by omega,by omega⟩
 ·have:=wf.2 p hp;exact ϱ ⟨by omega,by omega⟩
 ·have:=pv p hp;exact ϱ ⟨by omega,by omega⟩
theorem alG{m:Nat}{s:A8}(hm:m<=50000)(h:Gt m s):wfU (toR s)=ay:=by
 obtain ⟨_,q0,p0,_,_,_,_,ql,pl,_⟩:=h;unfold wfU;rw[aB];refine ⟨ϱ ?_,?_⟩
 ·grind [toR,dH,List.length_append]
 ·show (!decide (s.kind=4)||decide ((toR s).keys.length=(toR s).vals.length))=ay
  grind [toR]
theorem arB{m n:Nat}{d:Nat->A8}{i op:Int}(hm:m<=50000)(h:∀j,j<n->Gt m (d j)):ael n d i op=ay:=by
 unfold ael;cases hi:Gw n i with
 |false=>rfl |true=>
  have hi:0<=i/\i<n:=ϑ hi;obtain ⟨_,_,_,wf,_,_,_,ql,pl,_⟩:=h i.toNat (by omega);show (_&&_)=ay;rw[aB];refine ⟨kY (show (d i.toNat).q.length+1<=_ by omega) (by omega),?_⟩;unfold MS;rw[lN,aB];refine .inr ⟨Jq.2 ⟨Cb _ _,show (d i.toNat).ps.length<=_ by omega,?_⟩,kY (show (d i.toNat).ps.length+1<=_ by omega) (by omega)⟩;grind [lst,len,Am,nth,Hy]
theorem arC{m n:Nat}{d:Nat->A8}{i:Int}(hm:m<=50000)(h:∀j,j<n->Gt m (d j)):avg n (fun j=>toR (d j)) i=ay:=by
 unfold avg;cases hi:Gw n i with
 |false=>rfl |true=>
  have hi:0<=i/\i<n:=ϑ hi;grind [alG]
theorem alH{o:Nat->Oj}{j:Nat}(h:En (o j).kind (o j).init=aA):Gt 0 (newT o j)/\toR (newT o j)=Ja o j:=by
 unfold En at h;simp only[Bool.or_eq_false_iff,Bool.not_eq_false',aB,ϟ,decide_eq_false_iff_not] at h;exact ⟨⟨h.1.1.1,fun _=>rfl,fun _=>rfl,(show TG []=ay from rfl),⟨(by show _<=(o j).init;omega),(by show (o j).init<=_;omega)⟩,(fun x hx=>(vJ hx).elim),(fun p hp=>(vJ hp).elim),bM _,bM _,(fun e=>by have e:2<(o j).kind:=e;show (o j).init=0;have:=h.2;simp at this;omega)⟩,rfl⟩
theorem aeK{n:Nat}{d:Nat->A8}{i op k v:Int}:okM n (fun j=>toR (d j)) i op k v=OH n d i op k v:=by
 unfold okM OH;cases hi:Gw n i with
 |false=>rfl |true=>
  have e:=arg_eq (d i.toNat).kind (d i.toNat).num op k v;show decide (Fv (d i.toNat).kind (d i.toNat).num op k v=0)=_;grind
open Go.Lib (decDigits itoa)
def azo(l:List UInt8):Nat:=l.foldl (fun a c=>a*10+(c.toNat - 48)) 0
theorem alI{d:Nat}(h:d<10):(rH (48+d)).toNat=48+d:=by
 rw[UInt8.toNat_ofNat'];omega
theorem WB(u:Nat):azo (decDigits u)=u/\(∀c∈decDigits u,48<=c.toNat/\c.toNat<=57)/\decDigits u≠[]:=by
 induction u using Nat.strongRecOn with
 |ind u ih=>
  rw[decDigits];by_cases h:u<10
  ·rw[dif_pos h]
   have:=alI h;refine ⟨?_,fun c hc=>?_,by simp⟩
   ·show 0*10+((rH (48+u)).toNat - 48)=u
    omega
   grind
  ·rw[dif_neg h]
   obtain ⟨q1,q2,q3⟩:=ih (u / 10) (by omega);have:=alI (d:=u % 10) (by omega);grind [azo]
theorem avk{a b:Nat}(h:decDigits a=decDigits b):a=b:=by
 grind [WB]
theorem alJ{n:Int}{c:UInt8}(h:c∈BK n):c.toNat=45\/(48<=c.toNat/\c.toNat<=57):=by
 unfold BK itoa at h;split at h
 ·rcases oZ.1 h with rfl|h
  ·simp
  grind [WB]
 grind [WB]
theorem WC{a b:Int}(h:BK a=BK b):a=b:=by
 have head (u v:Nat) (h:45::decDigits u=decDigits v):False:=by
  have:(45:UInt8)∈decDigits v:=by grind
  grind [WB]
 grind [BK,itoa,avk]
theorem apI{z:UInt8}{a r:List UInt8}(ha:z ∉ a)(hr:r=[]\/∃t,r=z::t):(a++r).takeWhile (fun c=>!(c==z))=a:=by
 rw[List.takeWhile_append_of_pos fun c hc=>by
  grind]
 (rcases hr with rfl|⟨t,rfl⟩)<;>simp_all
theorem aeL{z:UInt8}{a b r r':List UInt8}(ha:z ∉ a)(hb:z ∉ b)(hr:r=[]\/∃t,r=z::t)(hr':r'=[]\/∃t,r'=z::t)(h:a++r=b++r'):a=b/\r=r':=by
 have h1:=apI ha hr;simp_all [apI]
theorem aeM{α:Type}{z:UInt8}{f:α->List UInt8}:∀l:List α,(l.flatMap fun x=>z::f x)=[]\/∃t,(l.flatMap fun x=>z::f x)=z::t
 |[]=>.inl rfl |_::_=>.inr ⟨_,rfl⟩
theorem aaN{α:Type}{z:UInt8}{f:α->List UInt8}(hz:∀x,z ∉ f x)(hf:∀x y,f x=f y->x=y):∀l l':List α,(l.flatMap fun x=>z::f x)=(l'.flatMap fun x=>z::f x)->l=l'
 |[],[],_=>rfl |[],_::_,h=>by cases h |_::_,[],h=>by cases h |a::l,b::l',h=>by
  simp only[kJ,vI] at h;injection h with _ h
  obtain ⟨h1,h2⟩:=aeL (hz a) (hz b) (aeM l) (aeM l') h;rw[hf a b h1,aaN hz hf l l' h2]
theorem Sl{n:Int}{z:UInt8}(h:z.toNat=32\/z.toNat=58\/z.toNat=59):z ∉ BK n:=fun hc=>by
 grind [alJ]
theorem arD{a b c d:Int}(h:BK a++58::BK b=BK c++58::BK d):a=c/\b=d:=by
 obtain ⟨h1,h2⟩:=aeL (z:=58) (Sl (by decide)) (Sl (by decide)) (.inr ⟨_,rfl⟩) (.inr ⟨_,rfl⟩) h;grind [WC]
theorem ahp{m m':Nat}{s t:A8}(hs:Gt m s)(ht:Gt m' t)(hk:s.kind=t.kind)(hn:s.kind<=2\/s.num=t.num)(h:Sj (toR s)=Sj (toR t)):s=t:=by
 obtain ⟨kind,num,q,ps⟩:=s;obtain ⟨kind',num',q',ps'⟩:=t;have hk:kind=kind':=hk;subst hk;have hkk:1<=kind/\kind<=4:=hs.kind;have hn:kind<=2\/num=num':=hn;have:kind=1\/kind=2\/kind=3\/kind=4:=by omega
 rcases this with rfl|rfl|rfl|rfl
 ·have e1:q=[]:=hs.q0 (show (1:Int)≠3 by decide)
  have e2:q'=[]:=ht.q0 (show (1:Int)≠3 by decide);have e3:ps=[]:=hs.p0 (show (1:Int)≠4 by decide);have e4:ps'=[]:=ht.p0 (show (1:Int)≠4 by decide);subst e1 e2 e3 e4;have h:TW 1++(32::BK num)=TW 1++(32::BK num'):=h;grind [jh,WC]
 ·have e1:q=[]:=hs.q0 (show (2:Int)≠3 by decide)
  have e2:q'=[]:=ht.q0 (show (2:Int)≠3 by decide);have e3:ps=[]:=hs.p0 (show (2:Int)≠4 by decide);have e4:ps'=[]:=ht.p0 (show (2:Int)≠4 by decide);subst e1 e2 e3 e4;have h:TW 2++(32::BK num)=TW 2++(32::BK num'):=h;grind [jh,WC]
 ·have e3:ps=[]:=hs.p0 (show (3:Int)≠4 by decide)
  have e4:ps'=[]:=ht.p0 (show (3:Int)≠4 by decide);subst e3 e4;have hn:num=num':=hn.resolve_left (show ¬(3:Int)<=2 by decide);subst hn;have h:TW 3++qU (q++[]) (q++[]).length=TW 3++qU (q'++[]) (q'++[]).length:=h;have h:=jh h;rw[iM,iM,an1,an1] at h;rw[aaN (fun x=>Sl (.inl rfl)) (fun x y e=>WC e) q q' h]
 ·have e1:q=[]:=hs.q0 (show (4:Int)≠3 by decide)
  have e2:q'=[]:=ht.q0 (show (4:Int)≠3 by decide);subst e1 e2;have hn:num=num':=hn.resolve_left (show ¬(4:Int)<=2 by decide);subst hn;have h:TW 4++pU (ps.map (·.key)) (ps.map (·.val)) (ps.map (·.val)).length=TW 4++pU (ps'.map (·.key)) (ps'.map (·.val)) (ps'.map (·.val)).length:=h;have h:=jh h;rw[dH,dH,an2,an2] at h;have:=aaN (f:=fun p:Pr=>BK p.key++58::BK p.val) (fun x hx=>by
   rcases bQ.1 hx with hx|hx
   ·exact Sl (.inl rfl) hx
   ·rcases oZ.1 hx with hx|hx
    ·cases hx
    ·exact Sl (.inl rfl) hx) (fun x y e=>by
   obtain ⟨a,b⟩:=x;obtain ⟨c,d⟩:=y;grind [arD]) ps ps' h
  rw[this]
theorem arE{a b x y:List UInt8}(hx:59 ∉ x)(hy:59 ∉ y)(h:a++59::32::x=b++59::32::y):a=b/\x=y:=by
 have h:=congrArg List.reverse h;simp only[List.reverse_append,List.reverse_cons,List.append_assoc,List.singleton_append] at h;have h:(x.reverse++[32])++59::a.reverse=(y.reverse++[32])++59::b.reverse:=by simpa using h
 obtain ⟨h1,h2⟩:=aeL (z:=59) (by grind) (by grind) (.inr ⟨_,rfl⟩) (.inr ⟨_,rfl⟩) h;simp_all
theorem aAZ{m:Nat}{s:A8}(hs:Gt m s):59 ∉ Sj (toR s):=by
 rw[<-key_eq hs];obtain ⟨kind,num,q,ps⟩:=s;have hkk:1<=kind/\kind<=4:=hs.kind;have hw:59 ∉ Fh kind:=by
  have:kind=1\/kind=2\/kind=3\/kind=4:=by omega
  rcases this with rfl|rfl|rfl|rfl<;>decide
 unfold keyS La Eb;rw[l9,aeJ];intro hc;rcases bQ.1 hc with hc|hc
 ·exact hw hc
 ·obtain ⟨x,hx,hc⟩:=List.mem_flatMap.1 hc
  have hc:(59:UInt8)∈x:=by
   simp_all
  grind [Sl]
theorem ahq{m m':Nat}{d e:Nat->A8}:∀n,(∀j,j<n->Gt m (d j))->(∀j,j<n->Gt m' (e j))->Q8 (fun j=>toR (d j)) n=Q8 (fun j=>toR (e j)) n->∀j,j<n->Sj (toR (d j))=Sj (toR (e j))
 |0,_,_,_,j,hj=>by omega |n+1,hd,he,h,j,hj=>by
  rw[Q8,Q8] at h;have key:Q8 (fun j=>toR (d j)) n=Q8 (fun j=>toR (e j)) n/\Sj (toR (d n))=Sj (toR (e n)):=by
   by_cases hn:n=0
   ·subst hn
    rw[if_pos rfl] at h;exact ⟨rfl,h⟩
   ·rw[if_neg hn] at h
    grind [arE,aAZ]
  by_cases e1:j=n
  ·simp_all
  ·exact ahq n (fun j hj=>hd j (by omega)) (fun j hj=>he j (by omega)) key.1 j (by omega)
theorem alK{m m' n:Nat}{d e:Nat->A8}(hd:∀j,j<n->Gt m (d j))(he:∀j,j<n->Gt m' (e j))(hk:∀j,j<n->(d j).kind=(e j).kind)(h:Xd n d=Xd n e):∀j,j<n->d j=e j:=fun j hj=>by
 rw[keys_eq n hd,keys_eq n he] at h;have:=ahq n hd he h j hj;refine ahp (hd j hj) (he j hj) (hk j hj) ?_ this;by_cases q:(d j).kind<=2
 ·exact .inl q
 ·exact .inr (by rw[(hd j hj).n0 (by omega),(he j hj).n0 (by simp_all)])
end Go.Pl
