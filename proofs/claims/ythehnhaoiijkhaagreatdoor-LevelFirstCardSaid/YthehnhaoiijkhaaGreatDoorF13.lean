/- Own work. -/
import Derived.Test.YthehnhaoiijkhaaGreatDoorF12
open Int (ofNat)
open And renaming intro->dh
open Bool renaming true->aC,false->ay,and_eq_true->aG,or_eq_true->lH,or_eq_false_iff->qG,not_eq_false'->rU,not_eq_true'->dM
open Classical renaming propDecidable->aX,byContradiction->yF
open Go.Gm renaming start->lK
open Go.IntKind renaming i64->aU
open Go.Lib renaming joinTail->kK,join_cons->l7
open Go.AL renaming zJ->bf,okB->ny,Oj->gV,Ev->dJ,OI->vX,abN->wJ,idx->xX
open Go.AL.Au renaming nil->jw
open Go.AL.Au.OK renaming nil->yN
open Go.AL.Row renaming put->qI
open Go.Proofs renaming akA->zF,W7->pY,room_le->lC
open Go.Proofs.C7 renaming ok->bY
open Go.Proofs.Tryz renaming prog->aA,f44->xR,f43->nO,f20->nP,f40->yE,f39->sU
open Go.Sx.DF renaming ret->aS
open Go.Sx.SB renaming box->jS,fm->nM
open Go.Sx.SV renaming CS->fH,sh->dH,agg->jQ,ptr->jR,zY->jV,mp->qZ
open Go.Sx.Sh renaming sl->aI,agg->bP,zQ->bT,i->aT
open Go.Sx.Tree renaming All->eY
open Go.Sx.pS renaming any->xU
open Int renaming ofNat->ah,natCast_nonneg->tq
open Int.ofNat renaming inj->jZ
open List renaming all_eq_true->dA,mem_range->dD,range->aY,length_map->iy,pairwise_cons->rP,map_set->xW,mem_of_mem_drop->jC,drop_sublist->sW,mem_append->cZ,map_take->wH,map_drop->wI,mem_of_mem_take->qE,mem_cons->lX,flatMap_map->nC,map_congr_left->jE,cons_append->uK,map_append->lI,map_singleton->rQ,not_mem_nil->uM,append_cancel_left->jc,append_nil->fA,mem_flatMap->iL,length_cons->jf,mem_map->fC
open List.Sublist renaming append->yO,refl->yP
open Nat renaming zero_add->iw,blt->fF,le_succ_of_le->uJ,le_refl->bV,le_trans->gU,pos_of_ne_zero->sZ,zero_le->fK,beq->dQ
open Option renaming none->aK,some->ak
open UInt8 renaming ofNat->qR
namespace Go.AL
open Go Go.Sx
theorem NW{α:Type}[Row α](o:Nat->α):zJ (zH o)=o:=funext fun i=>MZ o i
def takeN(p:Nat->Ev):Au->Nat->Nat->Au ⊕ (Nat×Nat)
 |σ,_,0=>.inl σ |σ,k,r+1=>match (σ.feed (p k)).1 with
  |none=>takeN p (σ.feed (p k)).2 (k+1) r |some e=>.inr (k,e)
def KQ(m:Nat)(p:Nat->Ev):Au ⊕ (Nat×Nat):=takeN p jw 0 m
def takeB(m:Nat)(p:Nat->Ev):Bool:=match KQ m p with| .inl _=>aC| .inr _=>ay
def FC(m:Nat)(p:Nat->Ev):Au:=match KQ m p with| .inl σ=>σ| .inr _=>jw
def Vq(m:Nat)(p:Nat->Ev):Int:=match KQ m p with| .inl _=>0| .inr (k,_)=>k
def Vr(m:Nat)(p:Nat->Ev):Nat:=match KQ m p with| .inl _=>0| .inr (_,e)=>e
def resT:Au ⊕ (Nat×Nat)->Sh
 | .inl σ=>.zQ [.os 115 7 σ.rs.length (Go.zM.Vo DT dfn (DC σ)),.v .nilIface] | .inr (k,e)=>.zQ [.sl 0 0 fun _=>[],.BM 109 (.pt [.i .i64 (k:Int),.er e 329])]
structure afd(n m:Nat)(o:Nat->Oj)(p:Nat->Ev):Prop where
 small:n<=8/\m<=400
 valid:∀k,k<m->Bl (p k)=aC
 obj:∀k,k<m->(p k).kind=2->0<=(p k).obj/\(p k).obj<n/\Dc (p k).op=(o (p k).obj.toNat).kind
theorem Qz{f:Nat->Option Nat}:∀{r k:Nat},GV f k r=aK->∀j,k<=j->j<k+r->f j=aK
 |0,k,_,j,h1,h2=>by omega |r+1,k,h,j,h1,h2=>by
  simp only[GV] at h;cases hf:f k with
  |some e=>simp_all |none=>
   rw[hf] at h;by_cases q:j=k
   ·simp_all
   ·exact Qz h j (by omega) (by omega)
theorem abZ{n m:Nat}{o:Nat->Oj}{p:Nat->Ev}(h1:Gg n m=ay)(h2:(Ui n m o p).isNone=aC)(h3:∀k,k<m->BR (p k).ret=aC):afd n m o p:=by
 unfold Gg at h1;have h1:¬(8<n\/400<m):=by grind
 have key:∀k,k<m->JW n o (p k)=aK:=fun k hk=>by
  unfold Ui at h2;cases hs:GV (fun k=>OI (o k)) 0 n with
  |some x=>simp_all |none=>
   rw[hs] at h2;exact Qz (Option.isNone_iff_eq_none.1 h2) k (by omega) (by omega)
 have parts:∀k,k<m->OH (p k)=aC/\fieldsB (p k)=aC/\((p k).kind=2->(p k).obj<n/\Dc (p k).op=(o (p k).obj.toNat).kind):=fun k hk=>by
  have h:=key k hk;unfold JW at h;grind
 exact ⟨by omega,fun k hk=>by
  simp_all [Bl],fun k hk hk2=>by
  simp_all [Zg]⟩
end Go.AL
namespace Go.zM
open Go Go.Sx Go.AL
theorem asu:∀g F,abY g=ak F->zZ aA (EO W5) g F:=fun g F h=>by
 grind [abY,axv]
theorem ab1:Az aA (CT zG W5):=by
 have h:=C5.ok abY zW;exact ⟨h.1,h.2,h.3,h.4,h.5,h.6,zF⟩
theorem CTf:AU aA (CT zG W5):=by
 have h:=C5.O5 (stop:=zW) asu fun g h=>by
  unfold abY at h;split at h;all_goals first|(cases h;done) |kernel_rfl
 exact ⟨h.1,h.2,h.3,h.4⟩
theorem Xl{n b:Nat}(h:n<=100000)(hb:b<=1000):zG.room n b=aC:=by
 rw[Ee,decide_eq_true_eq];have h1:n*b<=100000*1000:=Nat.mul_le_mul h hb;grind [maxLen]
theorem aqo{H0:Mem}{w0:World}{N:Nat}{rs:Nat->Rc}{φ:Sh->Prop}(hN:N<=1000)(hD:∀k,k<N->DT (rs k)<=1000)(hφ:φ (.zQ [.os 115 7 N (Vo DT dfn rs),.v .nilIface])):
  ∀rm k,k+rm=N->Aw aA (CT zG W5) (K0 H0 w0) 44 tdT (adT DT dfn N rs (N:Int) k k (Vo DT dfn rs)) frX emp φ
 |rm,k,hk=>by
  refine G6 (fn:=xR) (tb:=tbT) (by kernel_rfl) (by kernel_rfl) ?_;refine agz ab1 CTf (hold:=Dh) (m:=300) (n:=400) (ts:=[⟨44,tdT,adT DT dfn N rs (N:Int) (k+1:Nat) (k+1) (Vo DT dfn rs),frX⟩]) ?_;rw[f32 zG W5 DT dfn N rs (N:Int) k (k+1:Nat) k (k+1) (Vo DT dfn rs) (Vo DT dfn rs)];simp only[zN,Dy,Ad,AY,BL,CB,Cj,Gl,eY,H8,Int.toNat_natCast,iw];refine ⟨fun h=>?_,fun h=>?_⟩
  ·have hlt:k<N:=by simp_all
   have hd:=hD k hlt;have hw:aU.wrap ((k:Int)+1)=((k+1:Nat):Int):=by grind [BF]
   have hle:decide (ah 0<=ah (DT (rs k)))=aC:=by simp
   have hr1:zG.room (DT (rs k)) 64=aC:=Xl (by omega) (by omega);have hr2:zG.room (k+1) 72=aC:=Xl (by omega) (by omega);have eqD:zG.snoc (fun _=>[]) 0 (dfn (rs k))=dfn (rs k):=by
    rfl
   match rm,hk with
   |0,hk=>omega |rm+1,hk=>
    refine ⟨by simp;omega,hle,hr1,hr1,hle,hr1,hr1,?_,hle,hr1,hr1,?_,hr2,⟨rfl,rfl,hw,rfl,fun i hi=>?_,trivial⟩,_,rfl,aqo hN hD hφ rm (k+1) (by omega)⟩
    ·repeat' (first|exact trivial|refine dh rfl ?_)
    ·repeat' (first|exact trivial|refine dh rfl ?_)
    ·rw[Ef,eqD]
     by_cases q:i<k
     ·rw[if_pos q]
     ·rw[if_neg q]
      have:i=k:=by omega
      subst this;rw[Nat.sub_self];rfl
  grind
theorem avF{H0:Mem}{w0:World}{n:Nat}{o:Nat->Oj}{σ:Au}{b:Nat}{φ:Sh->Prop}(hI:σ.OK)(hm:σ.many<=400)(hφ:φ (resT (.inl σ))):
  Aw aA (CT zG W5) (K0 H0 w0) 20 adS (LX (.val (.pointer (ak ⟨b,0,aK⟩)))) [] (JY n o σ b) φ:=by
 have hlen:=hI.len;refine agw (X:=Lay) (u:=.pointer (ak ⟨b,0,aK⟩)) (y:=fun L=>auX DT dfn L.v0 σ.many σ.rs.length (DC σ) L.b1 L.b2) (fun H E h w hR _ hat=>amq hR hat) (i:=14) rfl fun L=>?_
 show Aw aA (CT zG W5) (K0 H0 w0) 20 adS (LX (auX DT dfn L.v0 σ.many σ.rs.length (DC σ) L.b1 L.b2)) [] emp φ;refine Gv ab1 CTf (hold:=Dh) (m:=300) (n:=400) (ts:=[⟨44,tdT,adT DT dfn σ.rs.length (DC σ) (σ.rs.length:Int) (0:Nat) 0 (Vo DT dfn (DC σ)),frX⟩]) ?_;rw[e32 zG W5 DT dfn L.v0 σ.many σ.rs.length (DC σ) L.b1 L.b2 (σ.rs.length:Int) (0:Nat) 0 (Vo DT dfn (DC σ))];refine ⟨by rfl,Xl (by simp[BL,Ad];omega) (by omega),⟨rfl,rfl,rfl,rfl,fun i hi=>by omega,trivial⟩,_,rfl,aqo (by omega) (fun k hk=>?_) hφ _ 0 (iw _)⟩;have:=hI.dl k _ (Vp hk);show (DC σ k).zK.length<=1000;omega
theorem asv{H:Mem}{E:Env}{e:Ev}{v:Value}(h:Den H E (.agg [.sym .i64 e.kind,.sym .i64 e.tx,.sym .i64 e.thread,.sym .i64 e.obj,.sym .i64 e.op,.sym .i64 e.key,.sym .i64 e.val,.sym .i64 e.ret]) v):v=Yr e:=by
 obtain ⟨⟨vs⟩,rfl,hd⟩:=h;match vs,hd with
 |[a,b,c,d,e,f,g,h],⟨h1,h2,h3,h4,h5,h6,h7,h8,_⟩=>
  cases h1;cases h2;cases h3;cases h4;cases h5;cases h6;cases h7;cases h8;rfl
theorem ak5{H0:Mem}{w0:World}{n m:Nat}{o:Nat->Oj}{p:Nat->Ev}{b:Nat}{φ:Sh->Prop}(hg:afd n m o p):
  ∀rm k σ,k+rm=m->σ.OK->σ.many=k->φ (resT (takeN p σ k rm))->Aw aA (CT zG W5) (K0 H0 w0) 43 Xj (LT m p b (m:Int) k) QM (JY n o σ b) φ
 |rm,k,σ,hk,hI,avG,hφ=>by
  have hs:=hg.small;refine G6 (fn:=nO) (tb:=atj) (by kernel_rfl) (by kernel_rfl) ?_;refine Gv ab1 CTf (hold:=Yt) (m:=300) (n:=400) (ts:=[⟨43,tdP,LP m p b (m:Int) k (p k) .any,QM⟩,⟨20,adS,LX (.val (.pointer (ak ⟨b,0,aK⟩))),[]⟩]) ?_;rw[b32 zG W5 m p b (m:Int) k k];refine ⟨fun h=>?_,fun h=>?_⟩
  ·have hlt:k<m:=by simp_all [zN]
   match rm,hk,hφ with
   |0,hk,_=>omega |rm+1,hk,hφ=>
    refine ⟨by simp[AY];omega,⟨rfl,rfl,rfl,rfl,rfl,rfl,rfl,rfl,rfl,rfl,rfl,rfl,rfl,rfl,trivial⟩,_,rfl,?_⟩;refine agu (fn:=nO) (g2:=79) (args:=[.val (.pointer (ak ⟨b,0,aK⟩)),.agg [.sym .i64 (p k).kind,.sym .i64 (p k).tx,.sym .i64 (p k).thread,.sym .i64 (p k).obj,.sym .i64 (p k).op,.sym .i64 (p k).key,.sym .i64 (p k).val,.sym .i64 (p k).ret]]) (dst:=ak 34) (Fj:=tdQ) (by kernel_rfl) (by kernel_rfl) (CTf.en 79 (.inr (by kernel_rfl))) ⟨rfl,by kernel_rfl,by kernel_rfl⟩
     (avE (fun H E v=>asv) hI (by omega) (hg.valid k hlt) (hg.obj k hlt)) ?_
    show Aw aA (CT zG W5) (K0 H0 w0) 43 tdQ (LP m p b (m:Int) k (p k) (svE (σ.feed (p k)).1)) QM (JY n o (σ.feed (p k)).2 b) φ;cases hx:(σ.feed (p k)).1 with
    |none=>
     refine Gv ab1 CTf (hold:=Yt) (m:=300) (n:=400) (ts:=[⟨43,Xj,LT m p b (m:Int) (k+1:Nat),QM⟩]) ?_;have e:=c32 zG W5 m p b (m:Int) k (k+1:Nat) (p k);rw[show svE aK=fH from rfl,e];refine ⟨⟨rfl,rfl,rfl,?_,trivial⟩,_,rfl,ak5 hg rm (k+1) _ (by omega) (hI.feed (hg.valid k hlt)) (by rw[Vm hx,avG]) (by simp_all [takeN])⟩;show zG.add .i64 (k:Int) (ah 1)=((k+1:Nat):Int);grind [CB,Gl,BF]
    |some e=>
     refine Gv ab1 CTf (hold:=Yt) (m:=300) (n:=400) (ts:=[]) ?_;rw[show svE (ak e)=dH (.er e 329) from rfl,d32 zG W5 m p b (m:Int) k (p k) e];have hφ':φ (resT (.inr (k,e))):=by simp_all [takeN]
     exact hφ'
  ·have:k=m:=by grind [zN]
   have:rm=0:=by omega
   subst this;exact ⟨⟨rfl,trivial⟩,_,rfl,avF hI (by omega) hφ⟩
def akb:Sh:=.sl 0 0 fun _=>[]
def F32:List Sh->Tree Sh
 |[.agg [.sl 2 n g,.sl 8 m h]]=>.need (okB Oj n g) (.need (okB Ev m h) (.need (Qv m h) (.node (Gg n m) (.leaf (.zQ [.sl 0 0 fun _=>[],.er 6 329])) (.node (FB n m g h)
   (.node (takeB m (zJ h)) (.leaf (.zQ [.os 115 7 (FC m (zJ h)).rs.length (Vo DT dfn (DC (FC m (zJ h)))),.v .nilIface])) (.leaf (.zQ [.sl 0 0 fun _=>[],.BM 109 (.pt [.i .i64 (Vq m (zJ h)),.er (Vr m (zJ h)) 329])])))
   (.leaf (.zQ [.sl 0 0 fun _=>[],.BM 109 (.pt [.i .i64 (Kq n m g h),.er (OJ n m g h) 329])]))))))
 |_=>.fail
theorem O32:zZ aA (EO W5) 20 F32:=by
 refine J8 (C:=CT zG W5) ab1 (fn:=nP) (by kernel_rfl) (by kernel_rfl) fun H w Aq args φ hrep h=>?_
 have hn:nP.ntmps=16:=by kernel_rfl
 unfold F32 at h;split at h
 ·rename_i n g m h'
  obtain ⟨h1,h2,h3,h4,h5⟩:=h;match args,hrep with
  |[v],⟨hv,_⟩=>
   rw[hn];refine ⟨[.agg [.sl 2 n (zH (zJ (α:=Oj) g)),.sl 8 m (zH (zJ (α:=Ev) h'))]],⟨Sv hv h1 h2,trivial⟩,L0,?_⟩;refine agy ab1 CTf (hold:=ak2) (m:=300) (n:=400) ?_;rw[a32 zG W5 n m (zJ g) (zJ h'),aa1];have hret:∀k,k<m->BR (zJ (α:=Ev) h' k).ret=aC:=fun k hk=>dA.1 h3 k (dD.2 hk);have hb0:Gg n m=ay->Gg n 0=ay:=fun q=>by
    simp_all [Gg,decide_eq_false]
   have hgd:FB n m (zH (zJ (α:=Oj) g)) (zH (zJ (α:=Ev) h'))=FB n m g h':=by
    rfl
   refine ⟨Dx _ _,Dx _ _,dA.2 fun k hk=>?_,fun q=>h4 q,fun q=>⟨fun q2=>?_,fun q2=>?_⟩⟩
   ·simp_all [NW,dD]
   ·have q3:FB n m g h'=aC:=hgd ▸ q2
    obtain ⟨hT,hF⟩:=(h5 q).1 q3;have G:=abZ q q3 hret;have hs:=G.small;have fin:∀b,Aw aA (CT zG W5) (K0 H w) 43 Xj (LT m (zJ h') b (m:Int) (0:Nat)) QM (JY n (zJ g) jw b) φ:=fun b=>by
     refine ak5 G m 0 jw (by omega) yN rfl ?_;show φ (resT (KQ m (zJ h')));unfold takeB at hT hF;unfold FC at hT;unfold Vq Vr at hF;cases hx:KQ m (zJ (α:=Ev) h') with
     |inl σ=>rw[hx] at hT;exact hT rfl |inr x=>rw[hx] at hF;exact hF rfl
    have own:∀nx tc,Aw aA (CT zG W5) (K0 H w) 43 Xj ⟨[jQ [dH (aI 2 n (zH (zJ (α:=Oj) g))),dH (aI 8 m (zH (zJ (α:=Ev) h')))],jR 1 0,SV.Ei,fH,fH,jR 6 0,fH]++rep [.any] 6++[.bool ay]++rep [.any] 8++[.bool ay,.any,.any,dH (aI 8 m (zH (zJ (α:=Ev) h'))),.sym .i64 (zG.Aa m),.int .i64 (ah 0)]++rep [.any] 16,
      [(0,jS [dH (aI 2 n (zH (zJ (α:=Oj) g))),dH (aI 8 m (zH (zJ (α:=Ev) h')))] 25),(1,jS [dH (aI 2 n (zH (zJ (α:=Oj) g))),dH (aI 8 m (zH (zJ (α:=Ev) h')))] 25),(3,SB.own 140 2 (zG.addN 0 n) (zG.snoc (Af []) 0 (zH (zJ (α:=Oj) g)))),(4,nM .i64 (fun _=>aK) [] [] aK),(5,nM .i64 (fun _=>aK) [] [] aK),(6,jS [SV.gs 3,SV.int .i64 (ah 0),jV,qZ 4,qZ 5] 181)],nx,L0,tc⟩
      [{g:=20,td:=[It.reg [0,1] [1,2,3,4,5,6],It.code [1,1]],tm:=[jQ [dH (aI 2 n (zH (zJ (α:=Oj) g))),dH (aI 8 m (zH (zJ (α:=Ev) h')))],jR 0 0,jV,fH,.any,.any,.any,jQ [dH (aI 2 n (zH (zJ (α:=Oj) g))),dH (aI 8 m (zH (zJ (α:=Ev) h')))]]++rep [.any] 8}] emp φ:=fun nx tc=>by
     refine Y2 (R':=JY n (zJ g) jw) (i0:=6) (fun i=>fF i 3) (fun H E w h hon hh hd=>aqm (n:=n) (n':=zG.addN 0 n) (o:=zJ g) (o':=zG.snoc (Af []) 0 (zH (zJ (α:=Oj) g))) (fun i hi=>by rfl) (iw n) rfl hh hd) fun b=>?_
     refine Xk (c':=LT m (zJ h') b (m:Int) (0:Nat)) (Jk:=QM) ⟨?_,trivial,rfl,rfl,rfl⟩ ⟨rfl,rfl,?_,trivial⟩ (fin b)
     ·repeat' (first|exact trivial|refine dh xU ?_|refine dh (fun _ _ _ h=>h) ?_)
     ·repeat' (first|exact trivial|refine dh xU ?_|refine dh (fun _ _ _ h=>h) ?_)
    have nil:n=0->∀nx tc,Aw aA (CT zG W5) (K0 H w) 43 Xj ⟨[jQ [dH (aI 2 n (zH (zJ (α:=Oj) g))),dH (aI 8 m (zH (zJ (α:=Ev) h')))],jR 1 0,SV.Ei,fH,fH,jR 4 0,fH]++rep [.any] 6++[.bool ay]++rep [.any] 8++[.bool ay,.any,.any,dH (aI 8 m (zH (zJ (α:=Ev) h'))),.sym .i64 (zG.Aa m),.int .i64 (ah 0)]++rep [.any] 16,
      [(0,jS [dH (aI 2 n (zH (zJ (α:=Oj) g))),dH (aI 8 m (zH (zJ (α:=Ev) h')))] 25),(1,jS [dH (aI 2 n (zH (zJ (α:=Oj) g))),dH (aI 8 m (zH (zJ (α:=Ev) h')))] 25),(2,nM .i64 (fun _=>aK) [] [] aK),(3,nM .i64 (fun _=>aK) [] [] aK),(4,jS [jV,SV.int .i64 (ah 0),jV,qZ 2,qZ 3] 181)],nx,L0,tc⟩
      [{g:=20,td:=[It.reg [0,1] [1,2,3,4,5,6],It.code [1,1]],tm:=[jQ [dH (aI 2 n (zH (zJ (α:=Oj) g))),dH (aI 8 m (zH (zJ (α:=Ev) h')))],jR 0 0,jV,fH,.any,.any,.any,jQ [dH (aI 2 n (zH (zJ (α:=Oj) g))),dH (aI 8 m (zH (zJ (α:=Ev) h')))]]++rep [.any] 8}] emp φ:=fun hz nx tc=>by
     refine Y2 (R':=JY n (zJ g) jw) (i0:=4) (fun i=>fF i 2) (fun H E w h hon hh hd=>aqn (n:=n) (o:=zJ g) hz rfl hh hd) fun b=>?_
     refine Xk (c':=LT m (zJ h') b (m:Int) (0:Nat)) (Jk:=QM) ⟨?_,trivial,rfl,rfl,rfl⟩ ⟨rfl,rfl,?_,trivial⟩ (fin b)
     ·repeat' (first|exact trivial|refine dh xU ?_|refine dh (fun _ _ _ h=>h) ?_)
     ·repeat' (first|exact trivial|refine dh xU ?_|refine dh (fun _ _ _ h=>h) ?_)
    have hrm:zG.room (zG.addN 0 n) 16=aC:=by rw[Cj,iw];grind [Xl]
    refine ⟨Dx _ _,rfl,rfl,fun q4=>?_,fun _=>⟨fun _=>⟨fun q5=>⟨nil (by grind [X4]) _ _,hrm,own _ _⟩,fun _=>⟨hrm,own _ _⟩⟩,fun q5=>?_⟩⟩
    ·simp_all
    ·exfalso
     unfold FB Ui at q3 q5;rw[NW] at q5;grind [GV,OI,zJ]
   ·have q3:FB n m g h'=ay:=hgd ▸ q2
    have:=(h5 q).2 q3;assumption
 ·exact h.elim
end Go.zM
namespace Go.Pl
open Go Go.Sx Go.Proofs Go.Gm Go.Bf
open Go.AL (Au DT dfn DC takeB FC Vq Vr Gg FB Kq OJ Qv)
open Go.zM (Vo)
noncomputable def zX(n:Nat)(g:Nat->List Sh)(m:Nat)(h:Nat->List Sh):Sr where
 okb:=!Gg n m&&(FB n m g h&&takeB m (bf h))
 Gy:=!Gg n m
 pos:=if FB n m g h=aC then Vq m (bf h) else Kq n m g h
 e:=if Gg n m=aC then 6 else if FB n m g h=aC then Vr m (bf h) else OJ n m g h
 n:=(FC m (bf h)).rs.length
 T:=zJ (Vo DT dfn (DC (FC m (bf h))))
structure JZ(n:Nat)(g:Nat->List Sh)(m:Nat)(h:Nat->List Sh):Prop where
 o:ny gV n g=aC
 p:ny dJ m h=aC
 r:Qv m h=aC
 k:Qj n (zJ g)=aC
def hsS(n:Nat)(g:Nat->List Sh)(m:Nat)(h:Nat->List Sh):Sh:=.agg [.sl 2 n g,.sl 8 m h]
noncomputable def Ba(lv:Int)(o:Nat)(og:Nat->List Sh)(B:Sr):IG where
 okb:=B.okb&&decide (B.n<=12)
 Gy:=!B.okb&&B.Gy
 pos:=B.pos
 e:=if B.okb=aC then 1 else B.e
 lv:=lv
 N:=(Ez lv B.n B.T).length
 T:=nth (Ez lv B.n B.T)
 ms:=Zy lv (Ez lv B.n B.T)
 k0:=o
 g0:=Hy og
theorem ak6(rs:Nat->Go.AL.Rc):∀n,okB Dz n (Vo DT dfn rs)=aC
 |0=>rfl |n+1=>by
  show (okB Dz n (Vo DT dfn rs)&&_)=aC;rw[ak6 rs n];rfl
end Go.Pl
namespace Go.Proofs
open Go Go.Sx Go.Pl Go.Gm Go.Bf
open Go.AL (Au DT dfn DC takeB FC Vq Vr Gg FB Kq OJ Qv)
open Go.zM (Vo)
theorem O20{n:Nat}{g:Nat->List Sh}{m:Nat}{h:Nat->List Sh}(P:JZ n g m h):zZ aA (Ar W7) 20 (D20 (hsS n g m h) (zX n g m h)):=by
 refine ahh Go.zM.O32 fun Aq φ hφ=>?_
 unfold D20 at hφ;split at hφ
 ·rename_i s
  obtain ⟨h1,h2,h3⟩:=hφ;have hs:s=hsS n g m h:=@of_decide_eq_true _ (aX _) h1;subst hs;have sl:∀{k:Nat} {f f':Nat->List Sh},(∀j,j<k->f j=f' j)->Wk (.sl 7 k f) (.sl 7 k f'):=fun hf=>.inr ⟨rfl,rfl,hf⟩;have n0:Wk (.sl 0 0 fun _=>[]) (.sl 0 0 fun _=>[]):=.inl ⟨rfl,rfl⟩;cases hb:Gg n m with
  |true=>
   have e1:(zX n g m h).okb=ay:=by grind [zX]
   have e2:(zX n g m h).Gy=ay:=by grind [zX]
   have e3:(zX n g m h).e=6:=by grind [zX]
   have q:=(h3 e1).2 e2;rw[e3] at q;exact ⟨_,q,P.o,P.p,P.r,fun _=>⟨n0,rfl,trivial⟩,fun x=>by simp_all⟩
  |false=>
   have e2:(zX n g m h).Gy=aC:=by grind [zX]
   cases hg:FB n m g h with
   |true=>
    cases ht:takeB m (bf h) with
    |true=>
     have e1:(zX n g m h).okb=aC:=by simp_all [zX]
     exact ⟨_,h2 e1,P.o,P.p,P.r,fun x=>(by simp_all),fun _=>⟨fun _=>⟨fun _=>⟨.inr ⟨rfl,rfl,fun j hj=>J9 (ak6 _ _) j hj⟩,rfl,trivial⟩,fun x=>(by simp_all)⟩,fun x=>(by simp_all)⟩⟩
    |false=>
     have e1:(zX n g m h).okb=ay:=by simp_all [zX]
     have e3:(zX n g m h).e=Vr m (bf h):=by simp_all [zX]
     have e4:(zX n g m h).pos=Vq m (bf h):=by grind [zX]
     have q:=(h3 e1).1 e2;rw[e3,e4] at q;exact ⟨_,q,P.o,P.p,P.r,fun x=>(by simp_all),fun _=>⟨fun _=>⟨fun x=>(by simp_all),fun _=>⟨n0,rfl,trivial⟩⟩,fun x=>(by simp_all)⟩⟩
   |false=>
    have e1:(zX n g m h).okb=ay:=by simp_all [zX]
    have e3:(zX n g m h).e=OJ n m g h:=by simp_all [zX]
    have e4:(zX n g m h).pos=Kq n m g h:=by grind [zX]
    have q:=(h3 e1).1 e2;rw[e3,e4] at q;exact ⟨_,q,P.o,P.p,P.r,fun x=>(by simp_all),fun _=>⟨fun x=>(by simp_all),fun _=>⟨n0,rfl,trivial⟩⟩⟩
 ·exact hφ.elim
theorem Ip{n:Nat}{g:Nat->List Sh}{m:Nat}{h:Nat->List Sh}{B:Sr}{lv:Int}(O:zZ aA (Ar W7) 20 (D20 (hsS n g m h) B))(h1:1<=lv)(h3:lv<=3)(hw:B.okb=aC->nwB n g=aC):
  zZ aA (Ar W7) 40 (D40 (hsS n g m h) lv (Ba lv n g B)):=by
 refine Fa (C:=C7 zG W7 (Qs (hsS n g m h) B) zW) (bY _ _) (fn:=yE) (by kernel_rfl) (by kernel_rfl) fun H w Aq args φ hrep hφ=>?_
 have hn:yE.ntmps=71:=by kernel_rfl
 unfold D40 at hφ;split at hφ
 ·rename_i s t
  split at hφ
  ·rename_i l e1
   obtain ⟨q1,q2,q3⟩:=hφ;obtain ⟨rfl,rfl⟩:s=hsS n g m h/\l=lv:=@of_decide_eq_true _ (aX _) q1;match args,hrep with
   |[v,u],⟨rv,ru,_⟩=>
    refine ⟨[hsS n g m h,.i .i64 l],⟨rv,Dn e1 ru,trivial⟩,L0,?_⟩;refine Ey (bY _ _) (ae5 O _) (hold:=AX) (m:=300) (n:=400) (ts:=[⟨40,Zc,Zd n m g h l B.n B.T 0 (nth []) ((0:Nat):Int),[]⟩]) ?_;rw[hn];refine ajp zG W7 B l n m g h (nth []) ((0:Nat):Int) rfl rfl rfl (@decide_eq_true _ (aX _) rfl) (fun c0 c1=>?_) (fun c0 c1=>?_) (fun c0 c2=>?_) (fun c0 c2=>?_)
    ·have hbig:¬B.n<=12:=by grind [zN,Ad]
     have e:(Ba l n g B).okb=ay:=by simp_all [Ba]
     have e2:(Ba l n g B).Gy=ay:=by grind [Ba]
     have e3:(Ba l n g B).e=1:=by grind [Ba]
     have q:=(q3 e).2 e2;rw[e3] at q;exact AB (s':=.zQ [.v (.pointer aK),.er 1 329]) ⟨rfl,rfl,trivial⟩ q
    ·have hsm:B.n<=12:=by grind [zN,Ad]
     have e:(Ba l n g B).okb=aC:=by simp_all [Ba]
     have q:=q2 e;exact ⟨⟨rfl,rfl,rfl,rfl,rfl,rfl,rfl,rfl,rfl,trivial⟩,_,rfl,ae6 O h1 h3 hsm (hw c0) q B.n 0 [] (by omega) (by simp) (by simp_all [ahu])⟩
    ·have e:(Ba l n g B).okb=ay:=by grind [Ba]
     have e2:(Ba l n g B).Gy=aC:=by simp_all [Ba]
     have e3:(Ba l n g B).e=B.e:=by grind [Ba]
     have q:=(q3 e).1 e2;rw[e3] at q;exact AB (s':=.zQ [.v (.pointer aK),.BM 109 (.pt [.i .i64 B.pos,.er B.e 329])]) ⟨rfl,rfl,trivial⟩ q
    ·have e:(Ba l n g B).okb=ay:=by grind [Ba]
     have e2:(Ba l n g B).Gy=ay:=by simp_all [Ba]
     have e3:(Ba l n g B).e=B.e:=by grind [Ba]
     have q:=(q3 e).2 e2;rw[e3] at q;exact AB (s':=.zQ [.v (.pointer aK),.er B.e 329]) ⟨rfl,rfl,trivial⟩ q
  ·exact hφ.elim
 ·exact hφ.elim
end Go.Proofs
namespace Go.Pl
open Go Go.Sx
def Nr(s t:BK):Bool:=decide (s=t)
open Go Go.Sx Go.Proofs
structure Rf where
 kind:Int
 num:Int
 keys:List Int
 vals:List Int
 deriving DecidableEq,Inhabited
def rfS(s:Rf):List Sh:=[.i .i64 s.kind,.i .i64 s.num,.sl 1 (len s.keys) (zH (nth s.keys)),.sl 1 (len s.vals) (zH (nth s.vals))]
def axI(o:Nat->Oj)(j:Nat):Rf:=⟨(o j).kind,(o j).init,[],[]⟩
def Ns(l:List Int)(key:Int):Nat:=(l.takeWhile fun p=>decide (p<key)).length
def hasK(l:List Int)(key:Int):Bool:=decide (Ns l key<l.length)&&(nth l (Ns l key)==key)
def Zl(kind num op k v:Int):Int:=
 if kind=0\/KX op≠kind then 111
 else if (keyed op=ay/\k≠0)\/k<0\/1000<k\/(valued op=ay/\v≠0)\/v < -1000000000\/1000000000<v then 110
 else if op=3/\(La num v < -1000000000000000\/1000000000000000<La num v) then 110
 else 0
def ajG(s:Rf)(op k v:Int):Rf×Int×Int:=
 if op=1\/op=4 then (s,3,s.num)
 else if op=2 then ({s with num:=v},1,0)
 else if op=3 then ({s with num:=La s.num v},1,0)
 else if op=5 then ({s with vals:=s.vals++[v]},1,0)
 else if op=6 then ({s with vals:=s.vals.tail},Uc s.vals.length,s.vals.headD 0)
 else if op=7 then (if hasK s.keys k=aC then {s with vals:=s.vals.set (Ns s.keys k) v} else {s with keys:=s.keys.take (Ns s.keys k)++k::s.keys.drop (Ns s.keys k),vals:=s.vals.take (Ns s.keys k)++v::s.vals.drop (Ns s.keys k)},1,0)
 else if op=8 then (s,if hasK s.keys k=aC then 3 else 2,if hasK s.keys k=aC then nth s.vals (Ns s.keys k) else 0)
 else if op=9 then (if hasK s.keys k=aC then {s with keys:=s.keys.take (Ns s.keys k)++s.keys.drop (Ns s.keys k+1),vals:=s.vals.take (Ns s.keys k)++s.vals.drop (Ns s.keys k+1)} else s,if hasK s.keys k=aC then 3 else 2,if hasK s.keys k=aC then nth s.vals (Ns s.keys k) else 0)
 else (s,0,0)
def opS(r:Rf)(op k v:Int):Rf:=(ajG r op k v).1
def QA(k:Int):List UInt8:=pY 16 (k - 1).toNat
def qU(r:List Int)(j:Nat):List UInt8:=(aY j).flatMap fun i=>32::Am (nth r i)
def pU(l r:List Int)(j:Nat):List UInt8:=(aY j).flatMap fun i=>32::(Am (nth l i)++58::Am (nth r i))
def Px(s:Rf):List UInt8:=if s.kind=0 then [] else QA s.kind++(if s.kind<=2 then 32::Am s.num else if s.kind=3 then qU s.vals s.vals.length else pU s.keys s.vals s.vals.length)
noncomputable def rowB(l:List Sh):Bool:=@decide (∃r:Rf,l=rfS r) (aX _)
def OL(d:Nat->Rf):Nat->List UInt8
 |0=>[] |k+1=>OL d k++((if k=0 then [] else [59,32])++Px (d k))
def Ul(n:Nat)(d:Nat->BK):List UInt8:=adz ((aY n).map d)
def Cc(n:Nat)(d:Nat->BK)(m:Nat)(f:Nat->Rf):Bool:=(Ul n d==OL f m)&&((n:Int)==(m:Int))
def toR(s:BK):Rf:=⟨s.kind,s.num,s.ps.map (·.key),s.q++s.ps.map (·.val)⟩
theorem TK(ps:List Pr)(k:Int):Ns (ps.map (·.key)) k=BG ps k:=by
 unfold Ns BG;rw[List.takeWhile_map,iy];rfl
theorem arg_eq(x y op k v:Int):Zl x y op k v=if Gp x op=aC then 111 else if Hr x y op k v=aC then 110 else 0:=by
 by_cases h1:x=0\/KX op≠x
 ·simp_all [Gp,Zl]
 ·have hx:x≠0/\KX op=x:=⟨fun e=>h1 (.inl e),yF fun e=>h1 (.inr e)⟩
  have:¬Gp x op=aC:=by
   simp_all [Gp]
  rw[if_neg this];unfold Zl;rw[if_neg h1];have h3:op=3->x=2:=fun e=>by rw[<-hx.2,e];decide
  have e1:(Hr x y op k v=aC)↔((keyed op=ay/\k≠0)\/k<0\/1000<k\/(valued op=ay/\v≠0)\/v < -1000000000\/1000000000<v)\/(op=3/\(La y v < -1000000000000000\/1000000000000000<La y v)):=by
   grind [Hr,Il,keyed,valued]
  grind
theorem ahG(ps:List Pr){i:Nat}(h:i<ps.length):nth (ps.map (·.key)) i=(nth ps i).key:=by simp[nth,h]
theorem aqp(ps:List Pr){i:Nat}(h:i<ps.length):nth (ps.map (·.val)) i=(nth ps i).val:=by simp[nth,h]
theorem ahH:∀{ps:List Pr} {k:Int},(ps.Pairwise fun a b=>a.key<b.key)->(Eb ps k=aC↔BG ps k<ps.length/\(nth ps (BG ps k)).key=k)
 |[],k,_=>by simp[Eb,BG] |a::ps,k,h=>by
  rw[rP] at h;have ih:=ahH (ps:=ps) (k:=k) h.2;by_cases hk:a.key<k
  ·grind [BG,List.takeWhile,Eb,nth]
  ·have e:BG (a::ps) k=0:=by simp_all [BG]
   rw[e];constructor
   ·intro q
    refine ⟨by simp,?_⟩;show a.key=k;grind [Eb]
   ·intro ⟨_,q⟩
    have q:a.key=k:=q;simp[Eb,q]
theorem adU{ps:List Pr}{k:Int}(h:ps.Pairwise fun a b=>a.key<b.key):hasK (ps.map (·.key)) k=Eb ps k:=by
 have e:hasK (ps.map (·.key)) k=aC↔Eb ps k=aC:=by
  rw[ahH h];unfold hasK;simp_all [TK,aG,decide_eq_true_eq,iy,beq_iff_eq,ahG]
 simp_all
theorem ab2{ps:List Pr}:Ql ps=aC↔(ps.Pairwise fun a b=>a.key<b.key)/\∀p∈ps,0<=p.key/\p.key<=1000:=by
 simp_all [Ql,aG,decide_eq_true_eq,dA]
theorem ahI{ps:List Pr}{k v:Int}(hs:ps.Pairwise fun a b=>a.key<b.key)(h:Eb ps k=aC):(Et ps k v).map (·.key)=ps.map (·.key):=by
 obtain ⟨h1,h2⟩:=Ph hs h;grind [aeP,xW,set,BG,List.set_getElem_self]
theorem aqr{ps:List Pr}{k v:Int}(h:Ql ps=aC)(hk:0<=k/\k<=1000):Ql (Et ps k v)=aC:=by
 rw[ab2] at h ⊢;obtain ⟨hs,hb⟩:=h;cases hh:Eb ps k with
 |true=>
  have e:=ahI (v:=v) hs hh;refine ⟨?_,fun p hp=>?_⟩
  ·have:(ps.map (·.key)).Pairwise (·<·):=List.pairwise_map.2 hs
   grind
  grind [Et]
 |false=>
  rw[aeO hh];have hl:=ag1 ps k;have hg:=ag2 (key:=k) hs;have hn:∀p∈ps,p.key≠k:=fun p hp e=>by
   simp_all [Eb]
  have ht:∀p∈ps.take (BG ps k),p.key<k:=fun p hp=>by
   grind [List.mem_take_iff_getElem]
  have hd:∀p∈ps.drop (BG ps k),k<p.key:=fun p hp=>by
   grind [List.mem_drop_iff_getElem,BG,jC]
  (refine ⟨List.pairwise_append.2 ⟨hs.sublist (List.take_sublist _ _),rP.2 ⟨fun p hp=>hd p hp,hs.sublist (sW _ _)⟩,fun a ha b hb=>?_⟩,fun p hp=>?_⟩)<;>grind
theorem aqs{ps:List Pr}{k:Int}(h:Ql ps=aC):Ql (Fb ps k)=aC:=by
 cases hh:Eb ps k with
 |false=>grind [aeQ] |true=>
  rw[aeR hh];rw[ab2] at h ⊢;have sub:(ps.take (BG ps k)++ps.drop (BG ps k+1)).Sublist ps:=by
   grind [List.take_append_drop,BG,yO,List.drop_drop,sW]
  grind
structure I9(m:Nat)(s:BK):Prop where
 kind:1<=s.kind/\s.kind<=4
 q0:s.kind≠3->s.q=[]
 p0:s.kind≠4->s.ps=[]
 wf:Ql s.ps=aC
 num:-1000000000000000<=s.num/\s.num<=1000000000000000
 qv:∀x∈s.q,-1000000000<=x/\x<=1000000000
 pv:∀p∈s.ps,-1000000000<=p.val/\p.val<=1000000000
 ql:s.q.length<=m
 pl:s.ps.length<=m
 n0:2<s.kind->s.num=0
theorem ak7{x y op k v:Int}(h:Zl x y op k v=0):(x≠0/\KX op=x)/\(0<=k/\k<=1000)/\(-1000000000<=v/\v<=1000000000)/\(op=3->-1000000000000000<=La y v/\La y v<=1000000000000000):=by
 grind [Zl]
theorem amr{x y op k v:Int}(h:Zl x y op k v=0):op=1\/op=2\/op=3\/op=4\/op=5\/op=6\/op=7\/op=8\/op=9:=by
 obtain ⟨⟨q1,q2⟩,_⟩:=ak7 h;grind [KX]
theorem ams{m:Nat}{s:BK}{op k v:Int}(h:I9 m s)(ha:Zl s.kind s.num op k v=0):opS (toR s) op k v=toR (Eh s op k v).1/\I9 (m+1) (Eh s op k v).1:=by
 obtain ⟨⟨k0,hk⟩,⟨b1,b2⟩,bv,bs⟩:=ak7 ha;have hop:=amr ha;have h':I9 (m+1) s:={h with ql:=uJ h.ql,pl:=uJ h.pl}
 obtain ⟨kind,num,q,ps⟩:=s;rcases hop with rfl|rfl|rfl|rfl|rfl|rfl|rfl|rfl|rfl
 ·exact ⟨rfl,h'⟩
 ·exact ⟨rfl,{h' with num:=⟨by show _<=v;omega,by show v<=_;omega⟩,n0:=fun e=>by have hk:(1:Int)=kind:=hk;have e:2<kind:=e;omega}⟩
 ·exact ⟨rfl,{h' with num:=bs rfl,n0:=fun e=>by have hk:(2:Int)=kind:=hk;have e:2<kind:=e;omega}⟩
 ·exact ⟨rfl,h'⟩
 ·have hk:(3:Int)=kind:=hk
  subst hk;have hp:ps=[]:=h.p0 (show (3:Int)≠4 by decide);subst hp;refine ⟨by simp[opS,ajG,Eh,toR],{h' with q0:=fun e=>absurd rfl e,qv:=fun x hx=>?_,ql:=?_}⟩
  ·have hx:x∈q++[v]:=hx
   rcases cZ.1 hx with hx|hx
   ·exact h.qv x hx
   simp_all
  ·show (q++[v]).length<=m+1
   have:=h.ql;simp_all
 ·have hk:(3:Int)=kind:=hk
  subst hk;have hp:ps=[]:=h.p0 (show (3:Int)≠4 by decide);subst hp;refine ⟨by simp[opS,ajG,Eh,toR],{h' with q0:=fun e=>absurd rfl e,qv:=fun x hx=>h.qv x (List.mem_of_mem_tail hx),ql:=?_}⟩
  show q.tail.length<=m+1;have:=h.ql;grind
 ·have hk:(4:Int)=kind:=hk
  subst hk;have hq:q=[]:=h.q0 (show (4:Int)≠3 by decide);subst hq;have hs:=F8 h.wf;refine ⟨?_,{h' with p0:=fun e=>absurd rfl e,wf:=aqr h.wf ⟨b1,b2⟩,pv:=fun p hp=>?_,pl:=?_}⟩
  ·show (if hasK (ps.map (·.key)) k=aC then (_:Rf) else _)=⟨4,num,(Et ps k v).map (·.key),[]++(Et ps k v).map (·.val)⟩
   rw[adU hs];cases hh:Eb ps k with
   |true=>
    rw[if_pos rfl,ahI hs hh,aeP hh];simp[toR,TK,xW]
   |false=>
    simp_all [aeO,toR,TK,wH,wI]
  ·have hp:p∈Et ps k v:=hp
   unfold Et at hp;split at hp
   ·rcases List.mem_or_eq_of_mem_set hp with hp|rfl
    ·exact h.pv p hp
    ·exact bv
   ·rcases cZ.1 hp with hp|hp
    ·exact h.pv p (qE hp)
    ·rcases lX.1 hp with rfl|hp
     ·exact bv
     ·exact h.pv p (jC hp)
  ·show (Et ps k v).length<=m+1
   have:=h.pl;grind [abm]
 ·exact ⟨rfl,h'⟩
 ·have hk:(4:Int)=kind:=hk
  subst hk;have hq:q=[]:=h.q0 (show (4:Int)≠3 by decide);subst hq;have hs:=F8 h.wf;refine ⟨?_,{h' with p0:=fun e=>absurd rfl e,wf:=aqs h.wf,pv:=fun p hp=>?_,pl:=?_}⟩
  ·show (if hasK (ps.map (·.key)) k=aC then (_:Rf) else _)=⟨4,num,(Fb ps k).map (·.key),[]++(Fb ps k).map (·.val)⟩
   rw[adU hs];cases hh:Eb ps k with
   |true=>
    rw[if_pos rfl,aeR hh];simp[toR,TK,wH,wI]
   |false=>
    rw[if_neg (by simp),aeQ hh];rfl
  ·have hp:p∈Fb ps k:=hp
   unfold Fb at hp;split at hp
   ·rcases cZ.1 hp with hp|hp
    ·exact h.pv p (qE hp)
    ·exact h.pv p (jC hp)
   ·exact h.pv p hp
  ·show (Fb ps k).length<=m+1
   have:ps.length<=m:=h.pl;rw[ag4 (show Ql ps=aC from h.wf)];grind
theorem Zm{α:Type}[Row α](l:List α)(F:α->List UInt8):(aY l.length).flatMap (fun i=>F (nth l i))=l.flatMap F:=by
 have:=abd l;grind [nC]
theorem ajH(q:List Int):qU q q.length=q.flatMap fun x=>32::Am x:=Zm q fun x=>32::Am x
theorem ajI(ps:List Pr):pU (ps.map (·.key)) (ps.map (·.val)) ps.length=ps.flatMap fun p=>32::(Am p.key++58::Am p.val):=by
 rw[<-Zm ps fun p=>32::(Am p.key++58::Am p.val)];simp_all [pU,List.flatMap_def,jE,dD,ahG,aqp]
theorem ab3(l:List (List UInt8)):kK [32] l=l.flatMap fun x=>32::x:=by
 rfl
theorem key_eq{m:Nat}{s:BK}(h:I9 m s):keyS s=Px (toR s):=by
 obtain ⟨kind,num,q,ps⟩:=s;have hk:1<=kind/\kind<=4:=h.kind;unfold keyS Jo CG;rw[l7,ab3];have:kind=1\/kind=2\/kind=3\/kind=4:=by omega
 rcases this with rfl|rfl|rfl|rfl
 ·simp[Px,toR];rfl
 ·simp[Px,toR];rfl
 ·have hp:ps=[]:=h.p0 (show (3:Int)≠4 by decide)
  subst hp;have:=ajH q;simp[Px,toR,this,nC];rfl
 ·have hq:q=[]:=h.q0 (show (4:Int)≠3 by decide)
  subst hq;have:=ajI ps;simp[Px,toR,this,nC];rfl
theorem ajJ(l:List (List UInt8))(x sep:List UInt8):CG (l++[x]) sep=CG l sep++((if l=[] then [] else sep)++x):=by
 unfold CG;cases l with
 |nil=>simp[Go.Lib.join_one,Go.Lib.join_nil] |cons a l=>
  simp_all [uK,l7,kK]
theorem keys_eq{m:Nat}{d:Nat->BK}:∀n,(∀j,j<n->I9 m (d j))->Ul n d=OL (fun j=>toR (d j)) n
 |0,_=>rfl |n+1,h=>by
  have ih:=keys_eq n fun j hj=>h j (by omega);unfold Ul adz at ih ⊢;rw[List.range_succ,lI,lI,rQ,rQ,ajJ,ih,OL,key_eq (h n (by omega))];simp
theorem aqt{m:Nat}{s:BK}(hm:m<=100000)(h:I9 m s):W9 s=aC:=by
 obtain ⟨⟨k1,k2⟩,_,_,wf,⟨n1,n2⟩,qv,pv,ql,pl,_⟩:=h;have wf:=ab2.1 wf;unfold W9;simp only[aG,dA,decide_eq_true_eq];refine ⟨⟨⟨⟨decide_eq_true ⟨by omega,by omega⟩,decide_eq_true ⟨by omega,by omega⟩⟩,fun x hx=>?_⟩,fun p hp=>⟨?_,?_⟩⟩,by omega,by omega⟩
 ·have:=qv x hx;exact decide_eq_true ⟨by omega,by omega⟩
 ·have:=wf.2 p hp;exact decide_eq_true ⟨by omega,by omega⟩
 ·have:=pv p hp;exact decide_eq_true ⟨by omega,by omega⟩
theorem amu{m n:Nat}{d:Nat->BK}{i op:Int}(hm:m<=50000)(h:∀j,j<n->I9 m (d j)):abr n d i op=aC:=by
 unfold abr;cases hi:Jm n i with
 |false=>rfl |true=>
  have hi:0<=i/\i<n:=of_decide_eq_true hi;obtain ⟨_,_,_,wf,_,_,_,ql,pl,_⟩:=h i.toNat (by omega);show (_&&_)=aC;rw[aG];refine ⟨lC (show (d i.toNat).q.length+1<=_ by omega) (by omega),?_⟩;unfold JU;rw[lH,aG];refine .inr ⟨Hq.2 ⟨Dx _ _,show (d i.toNat).ps.length<=_ by omega,?_⟩,lC (show (d i.toNat).ps.length+1<=_ by omega) (by omega)⟩;grind [lst,len,zH,nth,Kw]
theorem aqu{o:Nat->Oj}{j:Nat}(h:En (o j).kind (o j).init=ay):I9 0 (newT o j)/\toR (newT o j)=axI o j:=by
 unfold En at h;simp only[qG,rU,aG,decide_eq_true_eq,decide_eq_false_iff_not] at h;exact ⟨⟨h.1.1.1,fun _=>rfl,fun _=>rfl,(show Ql []=aC from rfl),⟨(by show _<=(o j).init;omega),(by show (o j).init<=_;omega)⟩,(fun x hx=>(uM hx).elim),(fun p hp=>(uM hp).elim),bV _,bV _,(fun e=>by have e:2<(o j).kind:=e;show (o j).init=0;have:=h.2;simp at this;omega)⟩,rfl⟩
open Go.Lib (decDigits itoa)
def atm(l:List UInt8):Nat:=l.foldl (fun a c=>a*10+(c.toNat - 48)) 0
theorem ahJ{d:Nat}(h:d<10):(qR (48+d)).toNat=48+d:=by
 rw[UInt8.toNat_ofNat'];omega
theorem TL(u:Nat):atm (decDigits u)=u/\(∀c∈decDigits u,48<=c.toNat/\c.toNat<=57)/\decDigits u≠[]:=by
 induction u using Nat.strongRecOn with
 |ind u ih=>
  rw[decDigits];by_cases h:u<10
  ·rw[dif_pos h]
   have:=ahJ h;refine ⟨?_,fun c hc=>?_,by simp⟩
   ·show 0*10+((qR (48+u)).toNat - 48)=u
    omega
   grind
  ·rw[dif_neg h]
   obtain ⟨q1,q2,q3⟩:=ih (u / 10) (by omega);have:=ahJ (d:=u % 10) (by omega);grind [atm]
theorem aqv{a b:Nat}(h:decDigits a=decDigits b):a=b:=by
 grind [TL]
theorem ahK{n:Int}{c:UInt8}(h:c∈Am n):c.toNat=45\/(48<=c.toNat/\c.toNat<=57):=by
 unfold Am itoa at h;split at h
 ·rcases lX.1 h with rfl|h
  ·simp
  grind [TL]
 grind [TL]
theorem TM{a b:Int}(h:Am a=Am b):a=b:=by
 have head (u v:Nat) (h:45::decDigits u=decDigits v):False:=by
  have:(45:UInt8)∈decDigits v:=by grind
  grind [TL]
 grind [Am,itoa,aqv]
theorem ak8{z:UInt8}{a r:List UInt8}(ha:z ∉ a)(hr:r=[]\/∃t,r=z::t):(a++r).takeWhile (fun c=>!(c==z))=a:=by
 rw[List.takeWhile_append_of_pos fun c hc=>by
  grind]
 (rcases hr with rfl|⟨t,rfl⟩)<;>simp_all
theorem ab4{z:UInt8}{a b r r':List UInt8}(ha:z ∉ a)(hb:z ∉ b)(hr:r=[]\/∃t,r=z::t)(hr':r'=[]\/∃t,r'=z::t)(h:a++r=b++r'):a=b/\r=r':=by
 have h1:=ak8 ha hr;simp_all [ak8]
theorem ab5{α:Type}{z:UInt8}{f:α->List UInt8}:∀l:List α,(l.flatMap fun x=>z::f x)=[]\/∃t,(l.flatMap fun x=>z::f x)=z::t
 |[]=>.inl rfl |_::_=>.inr ⟨_,rfl⟩
theorem Yu{α:Type}{z:UInt8}{f:α->List UInt8}(hz:∀x,z ∉ f x)(hf:∀x y,f x=f y->x=y):∀l l':List α,(l.flatMap fun x=>z::f x)=(l'.flatMap fun x=>z::f x)->l=l'
 |[],[],_=>rfl |[],_::_,h=>by cases h |_::_,[],h=>by cases h |a::l,b::l',h=>by
  simp only[List.flatMap_cons,uK] at h;injection h with _ h
  obtain ⟨h1,h2⟩:=ab4 (hz a) (hz b) (ab5 l) (ab5 l') h;rw[hf a b h1,Yu hz hf l l' h2]
theorem Py{n:Int}{z:UInt8}(h:z.toNat=32\/z.toNat=58\/z.toNat=59):z ∉ Am n:=fun hc=>by
 grind [ahK]
theorem amv{a b c d:Int}(h:Am a++58::Am b=Am c++58::Am d):a=c/\b=d:=by
 obtain ⟨h1,h2⟩:=ab4 (z:=58) (Py (by decide)) (Py (by decide)) (.inr ⟨_,rfl⟩) (.inr ⟨_,rfl⟩) h;grind [TM]
theorem amw{m m':Nat}{s t:BK}(hs:I9 m s)(ht:I9 m' t)(hk:s.kind=t.kind)(hn:s.kind<=2\/s.num=t.num)(h:Px (toR s)=Px (toR t)):s=t:=by
 obtain ⟨kind,num,q,ps⟩:=s;obtain ⟨kind',num',q',ps'⟩:=t;have hk:kind=kind':=hk;subst hk;have hkk:1<=kind/\kind<=4:=hs.kind;have hn:kind<=2\/num=num':=hn;have:kind=1\/kind=2\/kind=3\/kind=4:=by omega
 rcases this with rfl|rfl|rfl|rfl
 ·have e1:q=[]:=hs.q0 (show (1:Int)≠3 by decide)
  have e2:q'=[]:=ht.q0 (show (1:Int)≠3 by decide);have e3:ps=[]:=hs.p0 (show (1:Int)≠4 by decide);have e4:ps'=[]:=ht.p0 (show (1:Int)≠4 by decide);subst e1 e2 e3 e4;have h:QA 1++(32::Am num)=QA 1++(32::Am num'):=h;grind [jc,TM]
 ·have e1:q=[]:=hs.q0 (show (2:Int)≠3 by decide)
  have e2:q'=[]:=ht.q0 (show (2:Int)≠3 by decide);have e3:ps=[]:=hs.p0 (show (2:Int)≠4 by decide);have e4:ps'=[]:=ht.p0 (show (2:Int)≠4 by decide);subst e1 e2 e3 e4;have h:QA 2++(32::Am num)=QA 2++(32::Am num'):=h;grind [jc,TM]
 ·have e3:ps=[]:=hs.p0 (show (3:Int)≠4 by decide)
  have e4:ps'=[]:=ht.p0 (show (3:Int)≠4 by decide);subst e3 e4;have hn:num=num':=hn.resolve_left (show ¬(3:Int)<=2 by decide);subst hn;have h:QA 3++qU (q++[]) (q++[]).length=QA 3++qU (q'++[]) (q'++[]).length:=h;have h:=jc h;rw[fA,fA,ajH,ajH] at h;rw[Yu (fun x=>Py (.inl rfl)) (fun x y e=>TM e) q q' h]
 ·have e1:q=[]:=hs.q0 (show (4:Int)≠3 by decide)
  have e2:q'=[]:=ht.q0 (show (4:Int)≠3 by decide);subst e1 e2;have hn:num=num':=hn.resolve_left (show ¬(4:Int)<=2 by decide);subst hn;have h:QA 4++pU (ps.map (·.key)) (ps.map (·.val)) (ps.map (·.val)).length=QA 4++pU (ps'.map (·.key)) (ps'.map (·.val)) (ps'.map (·.val)).length:=h;have h:=jc h;rw[iy,iy,ajI,ajI] at h;have:=Yu (f:=fun p:Pr=>Am p.key++58::Am p.val) (fun x hx=>by
   rcases cZ.1 hx with hx|hx
   ·exact Py (.inl rfl) hx
   ·rcases lX.1 hx with hx|hx
    ·cases hx
    ·exact Py (.inl rfl) hx) (fun x y e=>by
   obtain ⟨a,b⟩:=x;obtain ⟨c,d⟩:=y;grind [amv]) ps ps' h
  rw[this]
theorem amx{a b x y:List UInt8}(hx:59 ∉ x)(hy:59 ∉ y)(h:a++59::32::x=b++59::32::y):a=b/\x=y:=by
 have h:=congrArg List.reverse h;simp only[List.reverse_append,List.reverse_cons,List.append_assoc,List.singleton_append] at h;have h:(x.reverse++[32])++59::a.reverse=(y.reverse++[32])++59::b.reverse:=by simpa using h
 obtain ⟨h1,h2⟩:=ab4 (z:=59) (by grind) (by grind) (.inr ⟨_,rfl⟩) (.inr ⟨_,rfl⟩) h;simp_all
theorem avI{m:Nat}{s:BK}(hs:I9 m s):59 ∉ Px (toR s):=by
 rw[<-key_eq hs];obtain ⟨kind,num,q,ps⟩:=s;have hkk:1<=kind/\kind<=4:=hs.kind;have hw:59 ∉ D8 kind:=by
  have:kind=1\/kind=2\/kind=3\/kind=4:=by omega
  rcases this with rfl|rfl|rfl|rfl<;>decide
 unfold keyS Jo CG;rw[l7,ab3];intro hc;rcases cZ.1 hc with hc|hc
 ·exact hw hc
 ·obtain ⟨x,hx,hc⟩:=iL.1 hc
  have hc:(59:UInt8)∈x:=by
   simp_all
  grind [Py]
theorem adV{m m':Nat}{d e:Nat->BK}:∀n,(∀j,j<n->I9 m (d j))->(∀j,j<n->I9 m' (e j))->OL (fun j=>toR (d j)) n=OL (fun j=>toR (e j)) n->∀j,j<n->Px (toR (d j))=Px (toR (e j))
 |0,_,_,_,j,hj=>by omega |n+1,hd,he,h,j,hj=>by
  rw[OL,OL] at h;have key:OL (fun j=>toR (d j)) n=OL (fun j=>toR (e j)) n/\Px (toR (d n))=Px (toR (e n)):=by
   by_cases hn:n=0
   ·subst hn
    rw[if_pos rfl] at h;exact ⟨rfl,h⟩
   ·rw[if_neg hn] at h
    grind [amx,avI]
  by_cases e1:j=n
  ·simp_all
  ·exact adV n (fun j hj=>hd j (by omega)) (fun j hj=>he j (by omega)) key.1 j (by omega)
theorem ahL{m m' n:Nat}{d e:Nat->BK}(hd:∀j,j<n->I9 m (d j))(he:∀j,j<n->I9 m' (e j))(hk:∀j,j<n->(d j).kind=(e j).kind)(h:Ul n d=Ul n e):∀j,j<n->d j=e j:=fun j hj=>by
 rw[keys_eq n hd,keys_eq n he] at h;have:=adV n hd he h j hj;refine amw (hd j hj) (he j hj) (hk j hj) ?_ this;by_cases q:(d j).kind<=2
 ·exact .inl q
 ·exact .inr (by rw[(hd j hj).n0 (by omega),(he j hj).n0 (by simp_all)])
open Go Go.Sx Go.Proofs Go.Gm Go.Bf
structure KR(n:Nat)(g0:SG)(m:Nat)(g:SG)(d:Nat->BK):Prop where
 row:∀j,j<n->g j=Cb (d j)
 inv:∀j,j<n->I9 m (d j)
 kind:∀j,j<n->∀s,g0 j=Cb s->(d j).kind=s.kind
 out:∀j,n<=j->g j=g0 j
section
variable{n m:Nat}{g0 g:SG}{d:Nat->BK}
theorem I9.up{m m':Nat}{s:BK}(h:I9 m s)(hm:m<=m'):I9 m' s:={h with ql:=gU h.ql hm,pl:=gU h.pl hm}
theorem KR.up{m':Nat}(h:KR n g0 m g d)(hm:m<=m'):KR n g0 m' g d:={h with inv:=fun j hj=>(h.inv j hj).up hm}
theorem KR.eqF(h:KR n g0 m g d):∀j,j<n->DN n g j=d j:=akC h.row
theorem KR.isB(h:KR n g0 m g d):stB n g=aC:=akB h.row
theorem ahM{i op k v:Int}(h:Ym n d i op k v=aC):Jm n i=aC/\Zl (d i.toNat).kind (d i.toNat).num op k v=0:=by
 simp_all [Ym,aG,arg_eq]
theorem ab6{d d':Nat->BK}(h:∀j,j<n->d j=d' j)(i op k v:Int):Ym n d i op k v=Ym n d' i op k v:=by
 unfold Ym;grind [Jm]
theorem ahN{d d':Nat->BK}(h:∀j,j<n->d j=d' j)(i op:Int):abr n d i op=abr n d' i op:=by
 unfold abr;grind [Jm]
theorem KR.next(h:KR n g0 m g d){i op k v:Int}(hok:TT n g i op k v=aC):
  ∃d',KR n g0 (m+1) (abt n g i op k v) d':=by
 unfold TT at hok;rw[ab6 h.eqF] at hok;obtain ⟨hi,ha⟩:=ahM hok;have hi':0<=i/\i<n:=of_decide_eq_true hi;have hst:DN n g i.toNat=d i.toNat:=h.eqF _ (by omega);refine ⟨fun j=>if j=i.toNat then (Eh (d i.toNat) op k v).1 else d j,fun j hj=>?_,fun j hj=>?_,fun j hj s hs=>?_,fun j hj=>?_⟩
 ·show (if Jm n i=aC/\j=i.toNat then Cb (Eh (DN n g i.toNat) op k v).1 else g j)=Cb (if j=i.toNat then (Eh (d i.toNat) op k v).1 else d j)
  by_cases e:j=i.toNat
  ·simp_all
  ·rw[if_neg (fun q=>e q.2),if_neg e,h.row j hj]
 ·show I9 (m+1) (if j=i.toNat then (Eh (d i.toNat) op k v).1 else d j)
  split
  ·exact (ams (h.inv i.toNat (by omega)) ha).2
  ·exact (h.inv j hj).up (by omega)
 ·grind [Eh,kind]
 ·show (if Jm n i=aC/\j=i.toNat then _ else g j)=g0 j
  rw[if_neg (fun q=>by omega)];exact h.out j hj
theorem KR.fits(h:KR n g0 m g d)(hm:m<=50000)(hn:n<=1000)(i op:Int):adA n g i op=aC:=by
 unfold Go.Pl.adA;rw[h.isB,ahN h.eqF,amu hm h.inv,lC (by omega) (by omega)];rfl
theorem KR.aqw(hn:n<=1000):∀(l:List Dd) {m:Nat} {g:SG} {d:Nat->BK},KR n g0 m g d->m+l.length<=50000->Ug n g l
 |[],_,_,_,_,_=>trivial |a::l,m,g,d,h,hm=>by
  unfold Go.Pl.Ug;rw[jf] at hm;split
  ·exact KR.aqw hn l h (by omega)
  ·refine ⟨h.fits (by omega) hn _ _,fun q=>?_⟩
   obtain ⟨d',h'⟩:=h.next q;exact KR.aqw hn l h' (by omega)
theorem KR.play:∀(l:List Dd) {m i:Nat} {g g':SG} {d:Nat->BK},KR n g0 m g d->ES n g i l=.inr g'->∃d',KR n g0 (m+l.length) g' d'
 |[],m,i,g,g',d,h,hp=>by
  have hp:(Sum.inr g:(Nat×Nat) ⊕ SG)=.inr g':=hp;grind
 |a::l,m,i,g,g',d,h,hp=>by
  unfold ES at hp;rw[jf];split at hp
  ·obtain ⟨d',h'⟩:=KR.play l h hp
   exact ⟨d',h'.up (by omega)⟩
  ·split at hp
   ·rename_i hok
    split at hp
    ·obtain ⟨d1,h1⟩:=h.next hok
     obtain ⟨d',h'⟩:=KR.play l h1 hp;grind
    ·cases hp
   ·cases hp
end
section
variable{lv:Int}{n:Nat}{og:Nat->List Sh}{B:Sr}
structure TbP(n:Nat)(og:Nat->List Sh)(B:Sr):Prop where
 few:B.n<=12
 ok:∀i,i<B.n->okB Dd (B.T i).k (B.T i).g=aC/\(B.T i).k<=400
 o:n<=8
 b:∀j,j<n->En (zJ (α:=Oj) og j).kind (zJ (α:=Oj) og j).init=ay
def QnP(lv:Int)(n:Nat)(og:Nat->List Sh)(B:Sr)(nd:Nd SG):Prop:=nd.placed<2^(Gb (Ba lv n og B)).n/\∃d,KR n (Hy og) (400*rk (Gb (Ba lv n og B)) nd) nd.st d
theorem aqx{t:Dz}{n:Nat}{T:Nat->Dz}(h:t∈Ez lv n T):∃i,i<n/\t=T i:=by
 grind [Ez]
theorem aqy(P:TbP n og B){i:Nat}(h:i<(Ba lv n og B).N):okB Dd ((Ba lv n og B).T i).k ((Ba lv n og B).T i).g=aC/\((Ba lv n og B).T i).k<=400:=by
 have h:i<(Ez lv B.n B.T).length:=h;have hm:nth (Ez lv B.n B.T) i∈Ez lv B.n B.T:=by
  simp_all [nth,List.getD_eq_getElem?_getD,List.getElem_mem]
 obtain ⟨j,hj,e⟩:=aqx hm;show okB Dd (nth (Ez lv B.n B.T) i).k (nth (Ez lv B.n B.T) i).g=aC/\(nth (Ez lv B.n B.T) i).k<=400;rw[e];exact P.ok j hj
theorem atn(P:TbP n og B)(nd:Nd SG):rk (Gb (Ba lv n og B)) nd<=12:=by
 have h1:=ao3 (B:=Ba lv n og B) nd;have h2:(Ba lv n og B).N=(Ez lv B.n B.T).length:=rfl;have h3:=akU lv B.n B.T;have:=P.few;omega
theorem TN(P:TbP n og B):OC (Ba lv n og B) (QnP lv n og B):=by
 have hN:(Ba lv n og B).N<=12:=by
  have h2:(Ba lv n og B).N=(Ez lv B.n B.T).length:=rfl;have h3:=akU lv B.n B.T;have:=P.few;omega
 refine ⟨⟨sZ (by simp),newT (zJ og),fun j hj=>rfl,fun j hj=>?_,fun j hj s hs=>?_,fun j _=>rfl⟩,fun nd hq t ht=>?_,fun nd hq=>?_,fun nd hq=>?_⟩
 ·exact (aqu (P.b j hj)).1.up (fK _)
 ·have hs:Cb (newT (zJ og) j)=Cb s:=hs
  rw[TA hs]
 ·obtain ⟨hlt,d,hd⟩:=hq
  have hlt':=lt_next hlt t ht;have hr:=abz (g:=Gb (Ba lv n og B)) t ht;refine ⟨hlt',?_⟩;rw[hr];unfold next turns at ht;obtain ⟨x,hx,rfl⟩:=fC.1 ht;obtain ⟨i,hi,hx⟩:=iL.1 hx;have hi:i<(Ba lv n og B).N:=dD.1 hi;obtain ⟨t1,t2⟩:=aqy P hi;unfold EK at hx;split at hx
  ·rcases cZ.1 hx with hx|hx
   ·split at hx
    ·rename_i s e1 e2
     obtain rfl:x=_:=by simpa using hx
     have e2:(if TU n nd.st ((Ba lv n og B).T i).k ((Ba lv n og B).T i).g=aC then ak (Oy n nd.st ((Ba lv n og B).T i).k ((Ba lv n og B).T i).g) else aK)=ak s:=e2;split at e2
     ·rename_i hok
      cases e2;unfold TU U8 at hok;cases hp:ES n nd.st 0 (lst Dd ((Ba lv n og B).T i).k ((Ba lv n og B).T i).g) with
      |inl q=>simp_all |inr g'=>
       obtain ⟨d',h'⟩:=KR.play _ hd hp;have e:Oy n nd.st ((Ba lv n og B).T i).k ((Ba lv n og B).T i).g=g':=by unfold Oy Yn;rw[hp]
       refine ⟨d',?_⟩;show KR n (Hy og) _ (Oy n nd.st ((Ba lv n og B).T i).k ((Ba lv n og B).T i).g) d';rw[e];exact h'.up (by rw[E8];omega)
     ·cases e2
    ·cases hx
   ·split at hx
    ·obtain rfl:x=_:=by simpa using hx
     exact ⟨d,hd.up (by omega)⟩
    ·cases hx
  ·cases hx
 ·obtain ⟨hlt,d,hd⟩:=hq
  have h12:=atn (lv:=lv) P nd;refine ⟨by omega,rfl,tq _,?_,fun i _=>tq _,fun i hi=>?_,fun i hi _=>?_⟩
  ·have h1:nd.placed<2^62:=Nat.lt_of_lt_of_le hlt (Nat.pow_le_pow_right (by decide) (by show (Ba lv n og B).N<=62;omega))
   omega
  ·show (NY lv (nth (Ez lv B.n B.T) i).bg 0 (Ez lv B.n B.T) 0:Nat)<2^(Ez lv B.n B.T).length
   simp_all [ahv,sZ]
  ·obtain ⟨t1,t2⟩:=aqy P hi
   unfold plN;rw[t1,decide_eq_true (by omega:((Ba lv n og B).T i).k<=100000)];have o8:=P.o;exact @decide_eq_true _ (aX _) (KR.aqw (n:=n) (by omega) _ hd (by rw[E8];omega))
 ·obtain ⟨hlt,d,hd⟩:=hq
  have h12:=atn (lv:=lv) P nd;have o8:=P.o;have e1:stB n nd.st=aC:=hd.isB;have e2:keysB n (DN n nd.st)=aC:=by
   unfold keysB;rw[aG,dA];refine ⟨decide_eq_true (by omega),fun j hj=>?_⟩;rw[hd.eqF j (dD.1 hj)];exact aqt (by omega) (hd.inv j (dD.1 hj))
  show ((dQ 4 4||dQ n 0)&&(stB n nd.st&&keysB n (DN n nd.st)))=aC;simp_all
theorem Zn{n:Nat}{d e:Nat->BK}(h:∀j,j<n->d j=e j):Ul n d=Ul n e:=by
 grind [Ul,jE]
theorem Yv:∀x y,QnP lv n og B x->QnP lv n og B y->BZ n x=BZ n y->x=y:=fun x y ⟨_,d,hd⟩ ⟨_,e,he⟩ h=>by
 unfold BZ at h;rw[Prod.mk.injEq] at h;obtain ⟨h1,h2⟩:=h;have h1:=jZ h1;have h2:Ul n (DN n x.st)=Ul n (DN n y.st):=h2;rw[Zn hd.eqF,Zn he.eqF] at h2;have hk:∀j,j<n->(d j).kind=(e j).kind:=fun j hj=>by
  rw[hd.kind j hj (newT (zJ og) j) rfl,he.kind j hj (newT (zJ og) j) rfl]
 have h3:=ahL hd.inv he.inv hk h2;obtain ⟨p,s⟩:=x;obtain ⟨p',s'⟩:=y;obtain rfl:p=p':=h1;have:s=s':=by
  funext j;by_cases hj:j<n
  ·have a:=hd.row j hj
   have b:=he.row j hj;simp_all
  ·have a:=hd.out j (by omega)
   have b:=he.out j (by omega);simp_all
 rw[this]
end
open Go Go.Sx Go.Proofs
open Go.AL (Au DT dfn DC takeB FC Vq Vr takeN KQ Gg FB Kq OJ Qv afd abZ Bl Vm)
open Go.zM (Vo)
theorem ahO{p:Nat->dJ}:∀r k (σ σ':Au),takeN p σ k r=.inl σ'->σ.OK->σ.many=k->(∀j,k<=j->j<k+r->Bl (p j)=aC)->σ'.OK/\σ'.many=k+r
 |0,k,σ,σ',h,ho,hm,hv=>by
  have h:(Sum.inl σ:Au ⊕ (Nat×Nat))=.inl σ':=h;cases h;exact ⟨ho,by omega⟩
 |r+1,k,σ,σ',h,ho,hm,hv=>by
  unfold takeN at h;cases hf:(σ.feed (p k)).1 with
  |some e=>rw[hf] at h;cases h |none=>
   rw[hf] at h;have:=ahO r (k+1) _ σ' h (ho.feed (hv k (by omega) (by omega))) (by rw[Vm hf];omega) (fun j h1 h2=>hv j (by omega) (by omega));exact ⟨this.1,by rw[this.2];omega⟩
theorem aqz(l:List Go.AL.De):∀k,okB Dd k (Go.AL.zH (Go.AL.nth l))=aC
 |0=>rfl |k+1=>by
  show (okB Dd k _&&_)=aC;rw[aqz l k];rfl
theorem avJ{g:Nat->List Sh}{j:Nat}(h:g j=qI (bf (α:=gV) g j)):g j=Row.put (zJ (α:=Oj) g j)/\(zJ (α:=Oj) g j).kind=(bf (α:=gV) g j).kind/\(zJ (α:=Oj) g j).init=(bf (α:=gV) g j).init:=by
 have e:zJ (α:=Oj) g j=⟨(bf (α:=gV) g j).kind,(bf (α:=gV) g j).init⟩:=by
  have:zJ (α:=Oj) g j=(Row.get (α:=Oj) (qI (bf (α:=gV) g j))).getD Row.Jl:=by
   unfold zJ;rw[<-h]
  rw[this];rfl
 rw[e];exact ⟨h,rfl,rfl⟩
theorem ahP{n m:Nat}{g h:Nat->List Sh}(P:JZ n g m h)(hok:(zX n g m h).okb=aC):afd n m (bf g) (bf h)/\takeB m (bf h)=aC:=by
 have hok:(!Gg n m&&(FB n m g h&&takeB m (bf h)))=aC:=hok;rw[aG,aG,dM] at hok;exact ⟨abZ hok.1 hok.2.1 fun k hk=>dA.1 P.r k (dD.2 hk),hok.2.2⟩
theorem ak9{n m:Nat}{g h:Nat->List Sh}(P:JZ n g m h)(hok:(zX n g m h).okb=aC):n<=8/\∀j,j<n->g j=Row.put (zJ (α:=Oj) g j)/\En (zJ (α:=Oj) g j).kind (zJ (α:=Oj) g j).init=ay:=by
 have hok:(!Gg n m&&(FB n m g h&&takeB m (bf h)))=aC:=hok;rw[aG,aG,dM] at hok;have hb:¬(8<n\/400<m):=by
  have:=hok.1;unfold Go.AL.Gg at this;simpa using this
 refine ⟨by omega,fun j hj=>?_⟩;obtain ⟨e1,e2,e3⟩:=avJ (Go.AL.J9 P.o j hj);refine ⟨e1,?_⟩;have aqA:BR (zJ (α:=Oj) g j).kind=aC:=Ho P.k j hj;rw[e2] at aqA;rw[e2,e3];have hg:=hok.2.1;unfold Go.AL.FB Go.AL.Ui at hg;cases hs:Go.AL.GV (fun k=>vX (bf (α:=gV) g k)) 0 n with
 |some x=>rw[hs] at hg;cases hg |none=>
  have hn:=Go.AL.Qz hs j (fK _) (by omega);unfold vX at hn;cases ho:wJ (bf (α:=gV) g j).kind (bf (α:=gV) g j).init with
  |false=>rw[ho] at hn;cases hn |true=>
   unfold wJ Go.AL.Zz at ho;unfold En;generalize (bf (α:=gV) g j).kind=a at ho aqA ⊢;have hr:=of_decide_eq_true aqA;have hidx:xX a=(if (0:Int)>a then 0 else a) - 1:=by
    unfold xX;exact BF (by split<;>omega) (by split<;>omega)
   rw[hidx] at ho;generalize (bf (α:=gV) g j).init=b at ho ⊢;simp only[aG,dM,decide_eq_true_eq,decide_eq_false_iff_not,lH,beq_iff_eq] at ho;simp only[qG,rU,aG,decide_eq_true_eq,decide_eq_false_iff_not,Bool.and_eq_false_imp,dM];split at ho<;>omega
theorem ajK{n m:Nat}{g h:Nat->List Sh}(P:JZ n g m h)(hok:(zX n g m h).okb=aC)(hf:(zX n g m h).n<=12):TbP n g (zX n g m h):=by
 obtain ⟨o1,o2⟩:=ak9 P hok;refine ⟨hf,fun i hi=>?_,o1,fun j hj=>(o2 j hj).2⟩;obtain ⟨G,ht⟩:=ahP P hok;have hi:i<(FC m (bf (α:=dJ) h)).rs.length:=hi;show okB Dd (DT (DC (FC m (bf (α:=dJ) h)) i)) (dfn (DC (FC m (bf (α:=dJ) h)) i))=aC/\DT (DC (FC m (bf (α:=dJ) h)) i)<=400;refine ⟨aqz _ _,?_⟩;unfold Go.AL.takeB Go.AL.KQ at ht;unfold Go.AL.FC Go.AL.KQ at hi ⊢;cases hs:takeN (bf (α:=dJ) h) jw 0 m with
 |inr q=>rw[hs] at ht;cases ht |inl σ=>
  rw[hs] at hi;obtain ⟨q1,q2⟩:=ahO m 0 jw σ hs yN rfl (fun j _ hj=>G.valid j (by omega));have:=q1.dl i _ (Go.AL.Vp hi);have:=G.small.2;show (DC σ i).zK.length<=400;omega
theorem avK{n m:Nat}{g h:Nat->List Sh}(P:JZ n g m h)(hok:(zX n g m h).okb=aC):nwB n g=aC:=by
 obtain ⟨o1,o2⟩:=ak9 P hok;unfold nwB RP;rw[Tz (o:=zJ g) fun j hj=>(o2 j hj).1,P.k,agU fun j hj=>(o2 j hj).2,decide_eq_false (by omega:¬8<n)];rfl
open Go Go.Sx Go.Proofs Go.Gm Go.Bf
noncomputable def CY(s:Sh)(lv:Int):IG:=match s with
 | .agg [.sl 2 n g,.sl 8 m h]=>Ba lv n g (zX n g m h) |_=>⟨ay,ay,0,0,0,0,fun _=>default,fun _=>0,0,fun _=>[]⟩
noncomputable def hsB(s:Sh)(lv:Int):Bool:=@decide (∃n g m h,s=hsS n g m h/\JZ n g m h/\1<=lv/\lv<=3) (aX _)
def Gz(mo:Int):Bool:=decide (1<=mo)&&decide (mo<=65536)
noncomputable def rsP(s:Sh)(lv mo:Int):Option (List (Nd SG)):=EM (Gb (CY s lv)) (BZ (CY s lv).k0) (CY s lv).g0 mo.toNat
noncomputable def rsL(s:Sh)(lv mo:Int):List (Nd SG):=(rsP s lv mo).getD []
noncomputable def SL(s:Sh)(lv mo:Int):Bool:=Gz mo&&((CY s lv).okb&&(rsP s lv mo).isSome)
noncomputable def Gq(s:Sh)(lv mo:Int):Bool:=Sj (Gb (CY s lv)) (BZ (CY s lv).k0) (CY s lv).g0 (rsL s lv mo)
noncomputable def rtL(s:Sh)(lv mo:Int):List Qr:=(Ls (Gb (CY s lv)) (BZ (CY s lv).k0) (CY s lv).g0 (rsL s lv mo)).map Jy
noncomputable def Vs(s:Sh)(lv mo:Int):Nat:=(rtL s lv mo).length
noncomputable def Vt(s:Sh)(lv mo:Int):Nat->Qr:=nth (rtL s lv mo)
noncomputable def J3(s:Sh)(lv mo:Int):Int:=((rsL s lv mo).length:Nat)
noncomputable def Xm(s:Sh)(lv mo:Int):Bool:=Gz mo&&(!(CY s lv).okb&&(CY s lv).Gy)
noncomputable def rpI(s:Sh)(lv mo:Int):Int:=(CY s lv).pos
noncomputable def Nv(s:Sh)(lv mo:Int):Nat:=if Gz mo=aC then (if (CY s lv).okb=aC then 0 else (CY s lv).e) else 4
end Go.Pl
namespace Go.Proofs
open Go Go.Sx Go.Pl Go.Gm Go.Bf
noncomputable def D15:List Sh->Tree Sh
 |[s,t,u]=>match Ak t,Ak u with
  |some lv,ak mo=>.need (hsB s lv) (.node (SL s lv mo) (.leaf (.zQ [.agg [.b (Gq s lv mo),.sl 2 (Vs s lv mo) (zH (Vt s lv mo)),.i .i64 (J3 s lv mo)],.v .nilIface]))
   (.node (Xm s lv mo) (.leaf (.zQ [.agg [.b ay,.sl 2 0 (fun _=>[]),.i .i64 0],.BM 109 (.pt [.i .i64 (rpI s lv mo),.er (Nv s lv mo) 329])]))
    (.leaf (.zQ [.agg [.b ay,.sl 2 0 (fun _=>[]),.i .i64 0],.er (Nv s lv mo) 329]))))
  |_,_=>.fail
 |_=>.fail
noncomputable def D39:List Sh->Tree Sh
 |[.v (.chan aK),s,t,u]=>D15 [s,t,u] |_=>.fail
theorem Ja{P:Program}{C:Ctx}(hC:Az P C){g:Nat}{fn:Func}(hfn:C.fns.get g=ak fn)(hb:fn.body.isSome=aC){H:Mem}{w:World}{C9:List Sh}{args:List Value}{φ:Sh->Prop}{L:Nat}(hon:H.on w)(hg:BU C.gls H)(hr:CU H C9 args)
  (hgo:Aw P C (K0 H w) g [.code []] (zL fn.ntmps C9 L) [] emp (up φ)):Calls P g args.toArray w fun e w'=>∃v s H',e=.returned v/\φ s/\CV H w s v H' w':=by
 refine (agS hC hfn hb hon hg hr hgo).mono fun e w' ⟨v,s,H',he,⟨s',hw,hs⟩,r⟩=>?_;obtain ⟨H2,r2⟩:=r.wk hw;grind
theorem aqB{c:Int}{e e':Sh}(he:Wk e e'):Wk (.zQ [.agg [.b ay,.sl 0 0 fun _=>[],.i .i64 c],e]) (.zQ [.agg [.b ay,.sl 2 0 (fun _=>[]),.i .i64 c],e']):=
 ⟨⟨.inl rfl,.inl ⟨rfl,rfl⟩,rfl,trivial⟩,he,trivial⟩
theorem O39:zZ aA (Ar W7) 39 D39:=by
 intro H w Aq args φ hon hg hr hφ;unfold D39 at hφ;split at hφ
 ·rename_i s t u
  unfold D15 at hφ;dsimp only at hφ;split at hφ
  ·rename_i lv mo e1 e2
   obtain ⟨q1,q2,q3⟩:=hφ;obtain ⟨n,g,m,h,rfl,P,l1,l3⟩:=@of_decide_eq_true _ (aX _) q1;have O:=Ip (O20 P) l1 l3 (avK P);have hBe:CY (hsS n g m h) lv=Ba lv n g (zX n g m h):=rfl;obtain ⟨B,hB⟩:∃B,Ba lv n g (zX n g m h)=B:=⟨_,rfl⟩;have aqC:zZ aA (Ar W7) 40 (D40 (hsS n g m h) lv B):=by simp_all
   match args,hr with
   |[a0,a1,a2,a3],⟨r0,r1,r2,r3,_⟩=>
   refine Ja (C:=C7 zG W7 (Ea (hsS n g m h) lv B) zW) (bY _ _) (fn:=sU) (C9:=[.v (.chan aK),hsS n g m h,.i .i64 lv,.i .i64 mo]) (L:=L0) (by kernel_rfl) (by kernel_rfl) hon hg ⟨r0,r1,Dn e1 r2,Dn e2 r3,trivial⟩ ?_;have hn:sU.ntmps=111:=by kernel_rfl
   have hbg:CY (hsS n g m h) lv=B:=hBe.trans hB;have c0 {P:Prop} (q:zG.lt lv (ah 1)=aC):P:=by grind [zN]
   have c1 {P:Prop} (q:zG.lt (ah 3) lv=aC):P:=by grind [zN]
   have bad {k:Nat} (hk:SL (hsS n g m h) lv mo=ay) (ha:Xm (hsS n g m h) lv mo=ay) (he:Nv (hsS n g m h) lv mo=k):up φ (.zQ [.agg [.b ay,.sl 0 0 fun _=>[],.i .i64 (ah 0)],.er k 329]):=by
    have q:=(q3 hk).2 ha;rw[he] at q;exact AB (aqB rfl) q
   have badM (hm:Gz mo=ay):up φ (.zQ [.agg [.b ay,.sl 0 0 fun _=>[],.i .i64 (ah 0)],.er 4 329]):=
    bad (by simp_all [SL]) (by simp_all [Xm]) (by simp_all [Nv])
   have moT (h1:zG.lt mo (ah 1)=ay) (h2:zG.lt (ah 65536) mo=ay):1<=mo/\mo<=65536:=by
    simp_all [zN]
   have ato (q:1<=mo/\mo<=65536):Gz mo=aC:=by simp_all [Gz,decide_eq_true]
   have W9 (h4:B.okb=aC):OC B (QnP lv n g (zX n g m h))/\∀x y,QnP lv n g (zX n g m h) x->QnP lv n g (zX n g m h) y->BZ B.k0 x=BZ B.k0 y->x=y:=by
    rw[<-hB] at h4 ⊢;have h4:((zX n g m h).okb&&decide ((zX n g m h).n<=12))=aC:=h4;rw[aG,decide_eq_true_eq] at h4;have T:=ajK P h4.1 h4.2;exact ⟨TN T,Yv⟩
   refine Ey (bY _ _) (IJ aqC _) (hold:=AX) (m:=300) (n:=400) (ts:=[⟨39,tdA,LA B (mo.toNat:Nat) (KU (BZ B.k0 ⟨0,B.g0⟩) (ak (.int .i64 (ah 0))) fun _=>aK) [(⟨0,B.g0⟩:Nd SG)].length (nth ([(⟨0,B.g0⟩:Nd SG)].map (OE B.k0))) (0:Nat) 1 (fun _=>ndQ B.k0 ⟨0,B.g0⟩) [(⟨0,B.g0⟩:Nd SG)].length (nth ([(⟨0,B.g0⟩:Nd SG)].map (II B.k0))),[]⟩]) ?_;rw[hn];refine ajh zG W7 B lv mo n m g h _ _ _ _ _ _ _ _ _ rfl rfl rfl rfl rfl rfl rfl rfl (fun _ _ _ _=>@decide_eq_true _ (aX _) ⟨rfl,rfl⟩) (fun _ _ _ _ h4=>(W9 h4).1.ke _ (W9 h4).1.start)
    (fun q=>c0 q) (fun _ q=>c1 q) (fun _ _ q=>badM ?_) (fun _ _ _ q=>badM ?_) (fun _ _ _ _ _ q=>by cases q) (fun _ _ h2 h3 _ _ q=>?_) (fun _ _ h2 h3 h4 _ _=>?_) (fun _ _ h2 h3 h4 h7=>?_) (fun _ _ h2 h3 h4 h7=>?_)
   ·simp_all [zN,Gz,decide_eq_false]
   ·simp_all [zN,Gz,decide_eq_false,Bool.and_false]
   ·grind [Ac,I7]
   ·have hm:=moT h2 h3
    obtain ⟨hg1,hg2⟩:=W9 h4;have hmo:((mo.toNat:Nat):Int)=mo:=Int.toNat_of_nonneg (by omega);have hmax:zG.max mo (ah 0)=((mo.toNat:Nat):Int):=by
     grind [I7]
    refine ⟨⟨rfl,rfl,rfl,rfl,rfl,rfl,hmax,rfl,rfl,fun j hj=>?_,rfl,fun j hj=>?_,rfl,fun j hj=>?_,trivial⟩,_,rfl,?_⟩
    ·obtain rfl:j=0:=by omega
     rfl
    ·obtain rfl:j=0:=by omega
     rfl
    ·obtain rfl:j=0:=by omega
     rfl
    have hm1:1<=mo.toNat:=by omega
    refine loopA aqC hg1 (m:=mo.toNat) (by omega) (fun o hp=>?_) (mo.toNat+1) 0 [⟨0,B.g0⟩] _ 0 1 _ (by omega) (fun x hx=>?_) ⟨by simp,by simp,fun j x hx=>?_⟩ (by omega) (by simp;omega) (fun k=>?_) (fun r hr=>hr) (fun hr=>?_)
    ·
     have hst:lK B.g0∈o:=adG hp;have hnx:=al6 (Q:=QnP lv n g (zX n g m h)) hm1 hp hg1.step hg2 hg1.start;have hg':OC B (fun nd=>QnP lv n g (zX n g m h) nd/\nd∈o):=⟨⟨hg1.start,hst⟩,fun nd hq t ht=>⟨hg1.step nd hq.1 t ht,hnx nd hq.2 t ht⟩,fun nd hq=>hg1.tu nd hq.1,fun nd hq=>hg1.ke nd hq.1⟩;have hld:=akQ (Q:=QnP lv n g (zX n g m h)) hm1 hp hg1.step hg2 hg1.start;have hlen:=(Va hm1 hp).2;have hall:∀x∈o,QnP lv n g (zX n g m h) x:=Pm hg1.step hp (fun x hx=>by
      obtain rfl:x=⟨0,B.g0⟩:=by grind [lK]
      exact hg1.start)
     have hP:rsP (hsS n g m h) lv mo=ak o:=by grind [rsP]
     have hL:rsL (hsS n g m h) lv mo=o:=by grind [rsL]
     have hk:SL (hsS n g m h) lv mo=aC:=by grind [SL]
     have hφ:φ (.zQ [.agg [.b (Gq (hsS n g m h) lv mo),.sl 2 (Vs (hsS n g m h) lv mo) (zH (Vt (hsS n g m h) lv mo)),.i .i64 (J3 (hsS n g m h) lv mo)],.v .nilIface]):=q2 hk;have ey:Gq (hsS n g m h) lv mo=Sj (Gb B) (BZ B.k0) B.g0 o:=by grind [Gq]
     have et:rtL (hsS n g m h) lv mo=(Ls (Gb B) (BZ B.k0) B.g0 o).map Jy:=by grind [rtL]
     have ec:J3 (hsS n g m h) lv mo=((o.length:Nat):Int):=by grind [J3]
     unfold Vs Vt at hφ;rw[ey,et,ec] at hφ;have es:zG.sub .i64 (zG.Aa o.length) (ah 1)=((o.length:Nat):Int) - 1:=by
      show aU.wrap (((o.length:Nat):Int) - 1)=_;grind [BF]
     rw[es];refine ao6 aqC hg' o (fun x hx=>⟨hall x hx,hx⟩) (by omega) (fun nd hq hl hf=>?_) (fun hy=>?_) (fun hy=>?_) o.length (fun _=>aK) (bV _) (fun k=>?_)
     ·obtain ⟨t,ht,hte⟩:=ajd ((hld nd hq.2).1 hl) hf
      exact ⟨t,ht,(hld t.2 (hnx nd hq.2 _ (fC.2 ⟨t,ht,rfl⟩))).2 hte⟩
     ·rw[hy] at hφ
      exact hφ
     ·have e0:Ls (Gb B) (BZ B.k0) B.g0 o=[]:=if_neg (by rw[hy];simp)
      rw[hy,e0] at hφ;exact hφ
     ·rw[List.drop_length];rfl
    ·obtain rfl:x=⟨0,B.g0⟩:=by grind
     exact hg1.start
    ·grind
    ·have:=getM (k:=BZ B.k0 ⟨0,B.g0⟩) (o:=[]) (k0:=B.k0) (v:=.int .i64 (ah 0)) (nd:=⟨0,B.g0⟩) (M:=fun _=>aK) (fun _=>rfl) k
     exact this
    ·have hP:rsP (hsS n g m h) lv mo=aK:=by unfold rsP;rw[hbg];exact hr
     have hk:SL (hsS n g m h) lv mo=ay:=by grind [SL]
     have ha:Xm (hsS n g m h) lv mo=ay:=by grind [Xm]
     have he:Nv (hsS n g m h) lv mo=0:=by grind [Nv]
     have q:=(q3 hk).2 ha;rw[he] at q;exact q
   ·have hm:=moT h2 h3
    have hk:SL (hsS n g m h) lv mo=ay:=by simp_all [SL]
    have ha:Xm (hsS n g m h) lv mo=aC:=by simp_all [Xm]
    have he:Nv (hsS n g m h) lv mo=B.e:=by unfold Nv;rw[ato hm,hbg,if_pos rfl,if_neg (by rw[h4];simp)]
    have hp:rpI (hsS n g m h) lv mo=B.pos:=by grind [rpI]
    have q:=(q3 hk).1 ha;rw[he,hp] at q;exact AB (aqB rfl) q
   ·have hm:=moT h2 h3
    refine bad ?_ ?_ ?_
    ·simp_all [SL]
    ·simp_all [Xm]
    ·unfold Nv;rw[ato hm,hbg,if_pos rfl,if_neg (by rw[h4];simp)]
  ·exact hφ.elim
 ·exact hφ.elim
end Go.Proofs
namespace Go.Pl
open Go Go.Sx Go.Proofs Go.Gm
def s1B(a b:Qr):Bool:=decide (a=b)
noncomputable def Vu(s:Sh):Sr:=match s with
 | .agg [.sl 2 n g,.sl 8 m h]=>zX n g m h |_=>⟨ay,ay,0,0,0,fun _=>default⟩
noncomputable def hpB(s:Sh):Bool:=@decide (∃n g m h,s=hsS n g m h/\JZ n g m h) (aX _)
noncomputable def tkB(s:Sh):Bool:=hpB s&&(Vu s).okb
noncomputable def tnN(s:Sh):Nat:=(Vu s).n
noncomputable def ttT(s:Sh):Nat->Dz:=(Vu s).T
end Go.Pl
namespace Go.Proofs
open Go Go.Sx Go.Pl
noncomputable def Xn:Nat->Option (List Sh->Tree Sh)
 |39=>ak D39 |_=>aK
noncomputable def D18:List Sh->Tree Sh
 |[.agg a,.agg b]=>match Row.get (α:=Qr) a,Row.get (α:=Qr) b with
  |some x,ak y=>.leaf (.b (s1B x y)) |_,_=>.fail
 |_=>.fail
noncomputable def LG:Nat->Option (List Sh->Tree Sh)
 |18=>ak D18 |_=>aK
noncomputable def aqE:List Sh->Tree Sh
 |[s]=>.need (tkB s) (.leaf (.zQ [.sl 7 (tnN s) (zH (ttT s)),.v .nilIface])) |_=>.fail
theorem ajL(A:Prim)(W:Wd)(s:Sh)(n m:Nat)(g h:Nat->List Sh)(lv mo:Int){ψ:DF->Prop}{c0 c1:Bool}(e0:SL (bP [aI 2 n g,aI 8 m h]) lv mo=c0)(e1:Xm (bP [aI 2 n g,aI 8 m h]) lv mo=c1)(h1:(hsB (bP [aI 2 n g,aI 8 m h]) lv)=aC)(y1:c0=aC->ψ (aS (bT [bP [Sh.b (Gq (bP [aI 2 n g,aI 8 m h]) lv mo),aI 2 (Vs (bP [aI 2 n g,aI 8 m h]) lv mo) (zH (Vt (bP [aI 2 n g,aI 8 m h]) lv mo)),aT .i64 (J3 (bP [aI 2 n g,aI 8 m h]) lv mo)],Sh.v Value.nilIface])))(y2:c0=ay->c1=aC->ψ (aS (bT [bP [Sh.b ay,aI 2 0 fun _=>[],aT .i64 (ah 0)],Sh.BM 109 (Sh.pt [aT .i64 (rpI (bP [aI 2 n g,aI 8 m h]) lv mo),Sh.er (Nv (bP [aI 2 n g,aI 8 m h]) lv mo) 329])])))(y3:c0=ay->c1=ay->ψ (aS (bT [bP [Sh.b ay,aI 2 0 fun _=>[],aT .i64 (ah 0)],Sh.er (Nv (bP [aI 2 n g,aI 8 m h]) lv mo) 329]))):CQ ψ (AA (C7 A W Xn zW) AX 300 400 15 [.code []] (zL 14 [.agg [.sl 2 n g,.sl 8 m h],.i .i64 lv,.i .i64 mo] L0) [] []):=by
 subst e0 e1;exact EI (an h1 (an y1 (fun q0=>an (y2 q0) (y3 q0)))) (by kernel_rfl)
end Go.Proofs
namespace Go.Pl
open Go Go.Sx Go.Proofs Go.Gm
noncomputable def gaB(s:Sh)(lv mo:Int):Bool:=hsB s lv&&(Gz mo&&(CY s lv).okb)
noncomputable def geB(k:Nat)(s:Sh)(lv mo:Int):Bool:=hsB s lv&&(Gz mo&&(!(CY s lv).okb&&(if k=0 then (CY s lv).Gy else !(CY s lv).Gy&&(CY s lv).e==k)))
noncomputable def gmB(s:Sh)(lv mo:Int):Bool:=hsB s lv && !Gz mo
noncomputable def GH(s:Sh)(lv mo:Int):Bool:=(rsP s lv mo).isSome
end Go.Pl
namespace Go.Proofs
open Go Go.Sx Go.Pl
noncomputable def ala:List Sh->Tree Sh
 |[s,t,u]=>match Ak t,Ak u with
  |some lv,ak mo=>.need (gaB s lv mo) (.node (GH s lv mo) (.leaf (.zQ [.agg [.b (Gq s lv mo),.sl 2 (Vs s lv mo) (zH (Vt s lv mo)),.i .i64 (J3 s lv mo)],.v .nilIface]))
    (.leaf (.zQ [.agg [.b ay,.sl 2 0 (fun _=>[]),.i .i64 0],.er 0 329])))
  |_,_=>.fail
 |_=>.fail
noncomputable def aqF(k:Nat):List Sh->Tree Sh
 |[s,t,u]=>match Ak t,Ak u with
  |some lv,ak mo=>match k with
   |0=>.need (geB 0 s lv mo) (.leaf (.zQ [.agg [.b ay,.sl 2 0 (fun _=>[]),.i .i64 0],.BM 109 (.pt [.i .i64 (rpI s lv mo),.er (Nv s lv mo) 329])])) |1=>.need (geB 1 s lv mo) (.leaf (.zQ [.agg [.b ay,.sl 2 0 (fun _=>[]),.i .i64 0],.er 1 329])) |6=>.need (geB 6 s lv mo) (.leaf (.zQ [.agg [.b ay,.sl 2 0 (fun _=>[]),.i .i64 0],.er 6 329])) |4=>.need (gmB s lv mo) (.leaf (.zQ [.agg [.b ay,.sl 2 0 (fun _=>[]),.i .i64 0],.er 4 329])) |_=>.fail
  |_,_=>.fail
 |_=>.fail
theorem avN(stop:Nat->List Nat->Bool):AU aA (C7 zG W7 Xn stop):=C7.O5 (fun g F h=>by
 grind [Xn,O39]) fun g h=>by
 unfold Xn at h;split at h;all_goals first|(cases h;done) |kernel_rfl
theorem afi{φ:Sh->Prop}{y:Bool}{k:Nat}{f:Nat->List Sh}{c:Int}{e:Sh}(he:Wk e e)(h:φ (.zQ [.agg [.b y,.sl 2 k f,.i .i64 c],e])):up φ (.zQ [.agg [.b y,.sl 2 k f,.i .i64 c],e]):=
 AB (s':=.zQ [.agg [.b y,.sl 2 k f,.i .i64 c],e]) ⟨⟨.inl rfl,.inr ⟨rfl,rfl,fun _ _=>rfl⟩,rfl,trivial⟩,he,trivial⟩ h
theorem O15:zZ aA (Ar W7) 15 D15:=by
 refine Fa (C:=C7 zG W7 Xn zW) (bY _ _) (fn:=Tryz.f15) (by kernel_rfl) (by kernel_rfl) fun H w Aq args φ hrep h=>?_
 have hn:Tryz.f15.ntmps=14:=by kernel_rfl
 unfold D15 at h;split at h
 ·rename_i s t u
  split at h
  ·rename_i lv mo e1 e2
   obtain ⟨q1,q2,q3⟩:=h;obtain ⟨n,g,m,h',rfl,P,l1,l3⟩:=@of_decide_eq_true _ (aX _) q1;match args,hrep with
   |[v,u1,u2],⟨rv,ru,ru2,_⟩=>
    refine ⟨[hsS n g m h',.i .i64 lv,.i .i64 mo],⟨rv,Dn e1 ru,Dn e2 ru2,trivial⟩,L0,?_⟩;refine Ey (bY _ _) (avN _) (hold:=AX) (m:=300) (n:=400) (ts:=[]) ?_;rw[hn];exact ajL zG W7 (hsS n g m h') n m g h' lv mo rfl rfl q1 (fun c0=>afi rfl (q2 c0)) (fun c0 c1=>afi rfl ((q3 c0).1 c1)) (fun c0 c1=>afi rfl ((q3 c0).2 c1))
  ·exact h.elim
 ·exact h.elim
theorem atp:zZ aA (Ar W7) 15 ala:=O15.mono fun H Aq args φ hr h=>by
 unfold ala at h;split at h
 ·split at h
  ·rename_i s t u x y lv mo e1 e2
   obtain ⟨q1,q2,q3⟩:=h;unfold gaB at q1;rw[aG,aG] at q1;obtain ⟨a1,a2,a3⟩:=q1;unfold D15;simp only[e1,e2];refine ⟨a1,fun c=>q2 ?_,fun c=>⟨fun c2=>?_,fun _=>?_⟩⟩
   ·unfold SL at c
    rw[a2,a3] at c;exact c
   ·simp_all [Xm]
   ·have e:Nv s lv mo=0:=by simp_all [Nv]
    rw[e];refine q3 ?_;unfold SL at c;rw[a2,a3] at c;exact c
  ·exact h.elim
 ·exact h.elim
theorem axL(k:Nat):zZ aA (Ar W7) 15 (aqF k):=O15.mono fun H Aq args φ hr h=>by
 unfold aqF at h;split at h
 ·split at h
  ·rename_i s t u x y lv mo e1 e2
   unfold D15;simp only[e1,e2];have key (k:Nat) (q1:geB k s lv mo=aC):hsB s lv=aC/\SL s lv mo=ay/\Gz mo=aC/\(CY s lv).okb=ay/\(if k=0 then (CY s lv).Gy else !(CY s lv).Gy&&(CY s lv).e==k)=aC:=by
    simp_all [geB,aG,SL]
   have keyE (k:Nat) (hk:k≠0) (q1:geB k s lv mo=aC) (q2:φ (.zQ [.agg [.b ay,.sl 2 0 (fun _=>[]),.i .i64 0],.er k 329])):eY φ (Tree.need (hsB s lv) (.node (SL s lv mo) (.leaf (.zQ [.agg [.b (Gq s lv mo),.sl 2 (Vs s lv mo) (zH (Vt s lv mo)),.i .i64 (J3 s lv mo)],.v .nilIface]))
     (.node (Xm s lv mo) (.leaf (.zQ [.agg [.b ay,.sl 2 0 (fun _=>[]),.i .i64 0],.BM 109 (.pt [.i .i64 (rpI s lv mo),.er (Nv s lv mo) 329])]))
      (.leaf (.zQ [.agg [.b ay,.sl 2 0 (fun _=>[]),.i .i64 0],.er (Nv s lv mo) 329]))))):=by
    obtain ⟨a1,a2,a3,a4,a5⟩:=key k q1;rw[if_neg hk,aG,dM,beq_iff_eq] at a5;have e:Nv s lv mo=k:=by simp_all [Nv]
    refine ⟨a1,fun c=>(by simp_all),fun _=>⟨fun c=>?_,fun _=>?_⟩⟩
    ·simp_all [Xm]
    ·rw[e];exact q2
   split at h
   ·obtain ⟨q1,q2⟩:=h
    obtain ⟨a1,a2,a3,a4,a5⟩:=key 0 q1;rw[if_pos rfl] at a5;refine ⟨a1,fun c=>(by simp_all),fun _=>⟨fun _=>q2,fun c=>?_⟩⟩;simp_all [Xm]
   ·exact keyE 1 (by decide) h.1 h.2
   ·exact keyE 6 (by decide) h.1 h.2
   ·obtain ⟨q1,q2⟩:=h
    unfold gmB at q1;rw[aG,dM] at q1;obtain ⟨a1,a2⟩:=q1;(refine ⟨a1,fun c=>?_,fun _=>⟨fun c=>?_,fun _=>?_⟩⟩)<;>simp_all [SL,Xm,Nv]
   ·exact h.elim
  ·exact h.elim
 ·exact h.elim
end Go.Proofs
namespace Go.Pl
open Go Go.Sx
end Go.Pl
namespace Go.Proofs
open Go Go.Sx Go.Pl
section
variable{H0:Mem}{w0:World}{φ:Sh->Prop}{n:Nat}{g h:Nat->Qr}
end
open Go Go.Sx Go.Pl
end Go.Proofs
namespace Go.Pl
open Go Go.Sx Go.Proofs Go.Gm Go.Bf
end Go.Pl
namespace Go.Proofs
open Go Go.Sx Go.Pl Go.Gm Go.Bf
section
variable{H0:Mem}{w0:World}{φ:Sh->Prop}{B:IG}{Q:Nd SG->Prop}{hs:Sh}{lv:Int}
end
end Go.Proofs
