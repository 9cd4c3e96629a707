/- Own work. -/
import Derived.Test.YthehnhaoiijkhaaGreatDoorO12
open Int (ofNat)
open And renaming intro->ba
open Bool renaming true->aj,false->ag,and_eq_true->al,or_eq_true->eT,or_eq_false_iff->it,not_eq_false'->iS,not_eq_true'->br
open Classical renaming propDecidable->aB,byContradiction->lM
open Go.Gm renaming start->eW
open Go.IntKind renaming i64->aA
open Go.Lib renaming joinTail->eg,join_cons->ft
open Go.oD renaming mJ->aP,okB->fR,Oj->cp,Ev->cW,FM->ko,WH->kD,idx->lx
open Go.oD.Au renaming nil->dC
open Go.oD.Au.OK renaming nil->lU
open Go.oD.Row renaming put->iu
open Go.Proofs renaming afV->mz,W7->hZ,room_le->eP
open Go.Proofs.C7 renaming ok->aS
open Go.Proofs.Tryz renaming prog->ah,f44->ls,f43->gf,f20->gh,f40->lL,f39->jg
open Go.Sx.rQ renaming ret->ay
open Go.Sx.SB renaming box->dQ,fm->fZ
open Go.Sx.SV renaming qP->bV,sh->bl,agg->dO,ptr->dP,nD->dV,mp->iG
open Go.Sx.Sh renaming sl->ao,agg->aN,mV->aQ,i->az
open Go.Sx.Tree renaming All->bP
open Go.Sx.pS renaming any->lu
open Int renaming ofNat->ab,natCast_nonneg->jk
open Int.ofNat renaming inj->dR
open List renaming all_eq_true->be,mem_range->bh,range->aE,length_map->ct,pairwise_cons->iQ,map_set->lw,mem_of_mem_drop->dA,drop_sublist->ji,mem_append->aU,map_take->kB,map_drop->kC,mem_of_mem_take->ir,mem_cons->fj,flatMap_map->fS,map_congr_left->dD,cons_append->jJ,map_append->eU,map_singleton->iR,not_mem_nil->jK,append_cancel_left->cX,append_nil->bQ,mem_flatMap->cj,length_cons->cZ,mem_map->bN
open List.Sublist renaming append->lV,refl->lW
open Nat renaming zero_add->cA,blt->bT,le_succ_of_le->jI,le_refl->aV,le_trans->co,pos_of_ne_zero->jj,zero_le->bZ,beq->bA
open Option renaming none->aq,some->ae
open UInt8 renaming ofNat->iB
namespace Go.oD
open Go Go.Sx
theorem Ib{α:Type}[Row α](o:Nat->α):mJ (mF o)=o:=funext fun i=>Eb o i
def takeN(p:Nat->Ev):Au->Nat->Nat->Au ⊕ (Nat×Nat)
 |σ,_,0=>.inl σ |σ,k,r+1=>match (σ.feed (p k)).1 with
  |none=>takeN p (σ.feed (p k)).2 (k+1) r |some e=>.inr (k,e)
def FP(m:Nat)(p:Nat->Ev):Au ⊕ (Nat×Nat):=takeN p dC 0 m
def takeB(m:Nat)(p:Nat->Ev):Bool:=match FP m p with| .inl _=>aj| .inr _=>ag
def Af(m:Nat)(p:Nat->Ev):Au:=match FP m p with| .inl σ=>σ| .inr _=>dC
def Nz(m:Nat)(p:Nat->Ev):Int:=match FP m p with| .inl _=>0| .inr (k,_)=>k
def NC(m:Nat)(p:Nat->Ev):Nat:=match FP m p with| .inl _=>0| .inr (_,e)=>e
def resT:Au ⊕ (Nat×Nat)->Sh
 | .inl σ=>.mV [.os 115 7 σ.rs.length (Go.mP.Nw uU dfn (wU σ)),.v .nilIface] | .inr (k,e)=>.mV [.sl 0 0 fun _=>[],.pV 109 (.pt [.i .i64 (k:Int),.er e 329])]
structure aak(n m:Nat)(o:Nat->Oj)(p:Nat->Ev):Prop where
 small:n<=8/\m<=400
 valid:∀k,k<m->oZ (p k)=aj
 obj:∀k,k<m->(p k).kind=2->0<=(p k).obj/\(p k).obj<n/\rD (p k).op=(o (p k).obj.toNat).kind
theorem Ip{f:Nat->Option Nat}:∀{r k:Nat},xO f k r=aq->∀j,k<=j->j<k+r->f j=aq
 |0,k,_,j,h1,h2=>by omega |r+1,k,h,j,h1,h2=>by
  simp only[xO] at h;cases hf:f k with
  |some e=>simp_all |none=>
   rw[hf] at h;by_cases q:j=k
   ·simp_all
   ·exact Ip h j (by omega) (by omega)
theorem WW{n m:Nat}{o:Nat->Oj}{p:Nat->Ev}(h1:wS n m=ag)(h2:(Lp n m o p).isNone=aj)(h3:∀k,k<m->qg (p k).ret=aj):aak n m o p:=by
 unfold wS at h1;have h1:¬(8<n\/400<m):=by grind
 have key:∀k,k<m->Bg n o (p k)=aq:=fun k hk=>by
  unfold Lp at h2;cases hs:xO (fun k=>FM (o k)) 0 n with
  |some x=>simp_all |none=>
   rw[hs] at h2;exact Ip (Option.isNone_iff_eq_none.1 h2) k (by omega) (by omega)
 have parts:∀k,k<m->Ii (p k)=aj/\fieldsB (p k)=aj/\((p k).kind=2->(p k).obj<n/\rD (p k).op=(o (p k).obj.toNat).kind):=fun k hk=>by
  have h:=key k hk;unfold Bg at h;grind
 exact ⟨by omega,fun k hk=>by
  simp_all [oZ],fun k hk hk2=>by
  simp_all [Tj]⟩
end Go.oD
namespace Go.mP
open Go Go.Sx Go.oD
theorem anO:∀g F,WV g=ae F->nG ah (uY W5) g F:=fun g F h=>by
 grind [WV,asK]
theorem WX:oh ah (CT mD W5):=by
 have h:=C5.ok WV ny;exact ⟨h.1,h.2,h.3,h.4,h.5,h.6,mz⟩
theorem CTf:oH ah (CT mD W5):=by
 have h:=C5.Gh (stop:=ny) anO fun g h=>by
  unfold WV at h;split at h;all_goals first|(cases h;done) |kernel_rfl
 exact ⟨h.1,h.2,h.3,h.4⟩
theorem PU{n b:Nat}(h:n<=100000)(hb:b<=1000):mD.room n b=aj:=by
 rw[tX,decide_eq_true_eq];have h1:n*b<=100000*1000:=Nat.mul_le_mul h hb;grind [maxLen]
theorem alS{H0:Mem}{w0:World}{N:Nat}{rs:Nat->Rc}{φ:Sh->Prop}(hN:N<=1000)(hD:∀k,k<N->uU (rs k)<=1000)(hφ:φ (.mV [.os 115 7 N (Nw uU dfn rs),.v .nilIface])):
  ∀rm k,k+rm=N->nX ah (CT mD W5) (K0 H0 w0) 44 tdT (YR uU dfn N rs (N:Int) k k (Nw uU dfn rs)) frX emp φ
 |rm,k,hk=>by
  refine wY (fn:=ls) (tb:=tbT) (by kernel_rfl) (by kernel_rfl) ?_;refine abI WX CTf (hold:=rF) (m:=300) (n:=400) (ts:=[⟨44,tdT,YR uU dfn N rs (N:Int) (k+1:Nat) (k+1) (Nw uU dfn rs),frX⟩]) ?_;rw[f32 mD W5 uU dfn N rs (N:Int) k (k+1:Nat) k (k+1) (Nw uU dfn rs) (Nw uU dfn rs)];simp only[mQ,su,nI,oJ,pR,qG,qy,wZ,bP,yG,Int.toNat_natCast,cA];refine ⟨fun h=>?_,fun h=>?_⟩
  ·have hlt:k<N:=by simp_all
   have hd:=hD k hlt;have hw:aA.wrap ((k:Int)+1)=((k+1:Nat):Int):=by grind [pI]
   have hle:decide (ab 0<=ab (uU (rs k)))=aj:=by simp
   have hr1:mD.room (uU (rs k)) 64=aj:=PU (by omega) (by omega);have hr2:mD.room (k+1) 72=aj:=PU (by omega) (by omega);have eqD:mD.snoc (fun _=>[]) 0 (dfn (rs k))=dfn (rs k):=by
    rfl
   match rm,hk with
   |0,hk=>omega |rm+1,hk=>
    refine ⟨by simp;omega,hle,hr1,hr1,hle,hr1,hr1,?_,hle,hr1,hr1,?_,hr2,⟨rfl,rfl,hw,rfl,fun i hi=>?_,trivial⟩,_,rfl,alS hN hD hφ rm (k+1) (by omega)⟩
    ·repeat' (first|exact trivial|refine ba rfl ?_)
    ·repeat' (first|exact trivial|refine ba rfl ?_)
    ·rw[tY,eqD]
     by_cases q:i<k
     ·rw[if_pos q]
     ·rw[if_neg q]
      have:i=k:=by omega
      subst this;rw[Nat.sub_self];rfl
  grind
theorem aqN{H0:Mem}{w0:World}{n:Nat}{o:Nat->Oj}{σ:Au}{b:Nat}{φ:Sh->Prop}(hI:σ.OK)(hm:σ.many<=400)(hφ:φ (resT (.inl σ))):
  nX ah (CT mD W5) (K0 H0 w0) 20 YQ (LX (.val (.pointer (ae ⟨b,0,aq⟩)))) [] (Bj n o σ b) φ:=by
 have hlen:=hI.len;refine abE (X:=Lay) (u:=.pointer (ae ⟨b,0,aq⟩)) (y:=fun L=>auX uU dfn L.v0 σ.many σ.rs.length (wU σ) L.b1 L.b2) (fun H E h w hR _ hat=>ahO hR hat) (i:=14) rfl fun L=>?_
 show nX ah (CT mD W5) (K0 H0 w0) 20 YQ (LX (auX uU dfn L.v0 σ.many σ.rs.length (wU σ) L.b1 L.b2)) [] emp φ;refine xA WX CTf (hold:=rF) (m:=300) (n:=400) (ts:=[⟨44,tdT,YR uU dfn σ.rs.length (wU σ) (σ.rs.length:Int) (0:Nat) 0 (Nw uU dfn (wU σ)),frX⟩]) ?_;rw[e32 mD W5 uU dfn L.v0 σ.many σ.rs.length (wU σ) L.b1 L.b2 (σ.rs.length:Int) (0:Nat) 0 (Nw uU dfn (wU σ))];refine ⟨by rfl,PU (by simp[pR,nI];omega) (by omega),⟨rfl,rfl,rfl,rfl,fun i hi=>by omega,trivial⟩,_,rfl,alS (by omega) (fun k hk=>?_) hφ _ 0 (cA _)⟩;have:=hI.dl k _ (Ny hk);show (wU σ k).mO.length<=1000;omega
theorem anP{H:Mem}{E:Env}{e:Ev}{v:Value}(h:Den H E (.agg [.sym .i64 e.kind,.sym .i64 e.tx,.sym .i64 e.thread,.sym .i64 e.obj,.sym .i64 e.op,.sym .i64 e.key,.sym .i64 e.val,.sym .i64 e.ret]) v):v=Rj e:=by
 obtain ⟨⟨vs⟩,rfl,hd⟩:=h;match vs,hd with
 |[a,b,c,d,e,f,g,h],⟨h1,h2,h3,h4,h5,h6,h7,h8,_⟩=>
  cases h1;cases h2;cases h3;cases h4;cases h5;cases h6;cases h7;cases h8;rfl
theorem agw{H0:Mem}{w0:World}{n m:Nat}{o:Nat->Oj}{p:Nat->Ev}{b:Nat}{φ:Sh->Prop}(hg:aak n m o p):
  ∀rm k σ,k+rm=m->σ.OK->σ.many=k->φ (resT (takeN p σ k rm))->nX ah (CT mD W5) (K0 H0 w0) 43 PO (LT m p b (m:Int) k) IL (Bj n o σ b) φ
 |rm,k,σ,hk,hI,aqO,hφ=>by
  have hs:=hg.small;refine wY (fn:=gf) (tb:=aoD) (by kernel_rfl) (by kernel_rfl) ?_;refine xA WX CTf (hold:=Rk) (m:=300) (n:=400) (ts:=[⟨43,tdP,LP m p b (m:Int) k (p k) .any,IL⟩,⟨20,YQ,LX (.val (.pointer (ae ⟨b,0,aq⟩))),[]⟩]) ?_;rw[b32 mD W5 m p b (m:Int) k k];refine ⟨fun h=>?_,fun h=>?_⟩
  ·have hlt:k<m:=by simp_all [mQ]
   match rm,hk,hφ with
   |0,hk,_=>omega |rm+1,hk,hφ=>
    refine ⟨by simp[oJ];omega,⟨rfl,rfl,rfl,rfl,rfl,rfl,rfl,rfl,rfl,rfl,rfl,rfl,rfl,rfl,trivial⟩,_,rfl,?_⟩;refine abC (fn:=gf) (g2:=79) (args:=[.val (.pointer (ae ⟨b,0,aq⟩)),.agg [.sym .i64 (p k).kind,.sym .i64 (p k).tx,.sym .i64 (p k).thread,.sym .i64 (p k).obj,.sym .i64 (p k).op,.sym .i64 (p k).key,.sym .i64 (p k).val,.sym .i64 (p k).ret]]) (dst:=ae 34) (vS:=tdQ) (by kernel_rfl) (by kernel_rfl) (CTf.en 79 (.inr (by kernel_rfl))) ⟨rfl,by kernel_rfl,by kernel_rfl⟩
     (aqM (fun H E v=>anP) hI (by omega) (hg.valid k hlt) (hg.obj k hlt)) ?_
    show nX ah (CT mD W5) (K0 H0 w0) 43 tdQ (LP m p b (m:Int) k (p k) (svE (σ.feed (p k)).1)) IL (Bj n o (σ.feed (p k)).2 b) φ;cases hx:(σ.feed (p k)).1 with
    |none=>
     refine xA WX CTf (hold:=Rk) (m:=300) (n:=400) (ts:=[⟨43,PO,LT m p b (m:Int) (k+1:Nat),IL⟩]) ?_;have e:=c32 mD W5 m p b (m:Int) k (k+1:Nat) (p k);rw[show svE aq=bV from rfl,e];refine ⟨⟨rfl,rfl,rfl,?_,trivial⟩,_,rfl,agw hg rm (k+1) _ (by omega) (hI.feed (hg.valid k hlt)) (by rw[Nv hx,aqO]) (by simp_all [takeN])⟩;show mD.add .i64 (k:Int) (ab 1)=((k+1:Nat):Int);grind [qG,wZ,pI]
    |some e=>
     refine xA WX CTf (hold:=Rk) (m:=300) (n:=400) (ts:=[]) ?_;rw[show svE (ae e)=bl (.er e 329) from rfl,d32 mD W5 m p b (m:Int) k (p k) e];have hφ':φ (resT (.inr (k,e))):=by simp_all [takeN]
     exact hφ'
  ·have:k=m:=by grind [mQ]
   have:rm=0:=by omega
   subst this;exact ⟨⟨rfl,trivial⟩,_,rfl,aqN hI (by omega) hφ⟩
def afw:Sh:=.sl 0 0 fun _=>[]
def F32:List Sh->Tree Sh
 |[.agg [.sl 2 n g,.sl 8 m h]]=>.need (okB Oj n g) (.need (okB Ev m h) (.need (Ij m h) (.node (wS n m) (.leaf (.mV [.sl 0 0 fun _=>[],.er 6 329])) (.node (vX n m g h)
   (.node (takeB m (mJ h)) (.leaf (.mV [.os 115 7 (Af m (mJ h)).rs.length (Nw uU dfn (wU (Af m (mJ h)))),.v .nilIface])) (.leaf (.mV [.sl 0 0 fun _=>[],.pV 109 (.pt [.i .i64 (Nz m (mJ h)),.er (NC m (mJ h)) 329])])))
   (.leaf (.mV [.sl 0 0 fun _=>[],.pV 109 (.pt [.i .i64 (BG n m g h),.er (FN n m g h) 329])]))))))
 |_=>.fail
theorem O32:nG ah (uY W5) 20 F32:=by
 refine BA (C:=CT mD W5) WX (fn:=gh) (by kernel_rfl) (by kernel_rfl) fun H w nV args φ hrep h=>?_
 have hn:gh.ntmps=16:=by kernel_rfl
 unfold F32 at h;split at h
 ·rename_i n g m h'
  obtain ⟨h1,h2,h3,h4,h5⟩:=h;match args,hrep with
  |[v],⟨hv,_⟩=>
   rw[hn];refine ⟨[.agg [.sl 2 n (mF (mJ (α:=Oj) g)),.sl 8 m (mF (mJ (α:=Ev) h'))]],⟨JQ hv h1 h2,trivial⟩,L0,?_⟩;refine abH WX CTf (hold:=agt) (m:=300) (n:=400) ?_;rw[a32 mD W5 n m (mJ g) (mJ h'),VA];have hret:∀k,k<m->qg (mJ (α:=Ev) h' k).ret=aj:=fun k hk=>be.1 h3 k (bh.2 hk);have hb0:wS n m=ag->wS n 0=ag:=fun q=>by
    simp_all [wS,decide_eq_false]
   have hgd:vX n m (mF (mJ (α:=Oj) g)) (mF (mJ (α:=Ev) h'))=vX n m g h':=by
    rfl
   refine ⟨rZ _ _,rZ _ _,be.2 fun k hk=>?_,fun q=>h4 q,fun q=>⟨fun q2=>?_,fun q2=>?_⟩⟩
   ·simp_all [Ib,bh]
   ·have q3:vX n m g h'=aj:=hgd ▸ q2
    obtain ⟨hT,hF⟩:=(h5 q).1 q3;have G:=WW q q3 hret;have hs:=G.small;have fin:∀b,nX ah (CT mD W5) (K0 H w) 43 PO (LT m (mJ h') b (m:Int) (0:Nat)) IL (Bj n (mJ g) dC b) φ:=fun b=>by
     refine agw G m 0 dC (by omega) lU rfl ?_;show φ (resT (FP m (mJ h')));unfold takeB at hT hF;unfold Af at hT;unfold Nz NC at hF;cases hx:FP m (mJ (α:=Ev) h') with
     |inl σ=>rw[hx] at hT;exact hT rfl |inr x=>rw[hx] at hF;exact hF rfl
    have own:∀nx tc,nX ah (CT mD W5) (K0 H w) 43 PO ⟨[dO [bl (ao 2 n (mF (mJ (α:=Oj) g))),bl (ao 8 m (mF (mJ (α:=Ev) h')))],dP 1 0,SV.uj,bV,bV,dP 6 0,bV]++rep [.any] 6++[.bool ag]++rep [.any] 8++[.bool ag,.any,.any,bl (ao 8 m (mF (mJ (α:=Ev) h'))),.sym .i64 (mD.nH m),.int .i64 (ab 0)]++rep [.any] 16,
      [(0,dQ [bl (ao 2 n (mF (mJ (α:=Oj) g))),bl (ao 8 m (mF (mJ (α:=Ev) h')))] 25),(1,dQ [bl (ao 2 n (mF (mJ (α:=Oj) g))),bl (ao 8 m (mF (mJ (α:=Ev) h')))] 25),(3,SB.own 140 2 (mD.addN 0 n) (mD.snoc (nM []) 0 (mF (mJ (α:=Oj) g)))),(4,fZ .i64 (fun _=>aq) [] [] aq),(5,fZ .i64 (fun _=>aq) [] [] aq),(6,dQ [SV.gs 3,SV.int .i64 (ab 0),dV,iG 4,iG 5] 181)],nx,L0,tc⟩
      [{g:=20,td:=[It.reg [0,1] [1,2,3,4,5,6],It.code [1,1]],tm:=[dO [bl (ao 2 n (mF (mJ (α:=Oj) g))),bl (ao 8 m (mF (mJ (α:=Ev) h')))],dP 0 0,dV,bV,.any,.any,.any,dO [bl (ao 2 n (mF (mJ (α:=Oj) g))),bl (ao 8 m (mF (mJ (α:=Ev) h')))]]++rep [.any] 8}] emp φ:=fun nx tc=>by
     refine SH (R':=Bj n (mJ g) dC) (i0:=6) (fun i=>bT i 3) (fun H E w h hon hh hd=>alQ (n:=n) (n':=mD.addN 0 n) (o:=mJ g) (o':=mD.snoc (nM []) 0 (mF (mJ (α:=Oj) g))) (fun i hi=>by rfl) (cA n) rfl hh hd) fun b=>?_
     refine PS (c':=LT m (mJ h') b (m:Int) (0:Nat)) (zW:=IL) ⟨?_,trivial,rfl,rfl,rfl⟩ ⟨rfl,rfl,?_,trivial⟩ (fin b)
     ·repeat' (first|exact trivial|refine ba lu ?_|refine ba (fun _ _ _ h=>h) ?_)
     ·repeat' (first|exact trivial|refine ba lu ?_|refine ba (fun _ _ _ h=>h) ?_)
    have nil:n=0->∀nx tc,nX ah (CT mD W5) (K0 H w) 43 PO ⟨[dO [bl (ao 2 n (mF (mJ (α:=Oj) g))),bl (ao 8 m (mF (mJ (α:=Ev) h')))],dP 1 0,SV.uj,bV,bV,dP 4 0,bV]++rep [.any] 6++[.bool ag]++rep [.any] 8++[.bool ag,.any,.any,bl (ao 8 m (mF (mJ (α:=Ev) h'))),.sym .i64 (mD.nH m),.int .i64 (ab 0)]++rep [.any] 16,
      [(0,dQ [bl (ao 2 n (mF (mJ (α:=Oj) g))),bl (ao 8 m (mF (mJ (α:=Ev) h')))] 25),(1,dQ [bl (ao 2 n (mF (mJ (α:=Oj) g))),bl (ao 8 m (mF (mJ (α:=Ev) h')))] 25),(2,fZ .i64 (fun _=>aq) [] [] aq),(3,fZ .i64 (fun _=>aq) [] [] aq),(4,dQ [dV,SV.int .i64 (ab 0),dV,iG 2,iG 3] 181)],nx,L0,tc⟩
      [{g:=20,td:=[It.reg [0,1] [1,2,3,4,5,6],It.code [1,1]],tm:=[dO [bl (ao 2 n (mF (mJ (α:=Oj) g))),bl (ao 8 m (mF (mJ (α:=Ev) h')))],dP 0 0,dV,bV,.any,.any,.any,dO [bl (ao 2 n (mF (mJ (α:=Oj) g))),bl (ao 8 m (mF (mJ (α:=Ev) h')))]]++rep [.any] 8}] emp φ:=fun hz nx tc=>by
     refine SH (R':=Bj n (mJ g) dC) (i0:=4) (fun i=>bT i 2) (fun H E w h hon hh hd=>alR (n:=n) (o:=mJ g) hz rfl hh hd) fun b=>?_
     refine PS (c':=LT m (mJ h') b (m:Int) (0:Nat)) (zW:=IL) ⟨?_,trivial,rfl,rfl,rfl⟩ ⟨rfl,rfl,?_,trivial⟩ (fin b)
     ·repeat' (first|exact trivial|refine ba lu ?_|refine ba (fun _ _ _ h=>h) ?_)
     ·repeat' (first|exact trivial|refine ba lu ?_|refine ba (fun _ _ _ h=>h) ?_)
    have hrm:mD.room (mD.addN 0 n) 16=aj:=by rw[qy,cA];grind [PU]
    refine ⟨rZ _ _,rfl,rfl,fun q4=>?_,fun _=>⟨fun _=>⟨fun q5=>⟨nil (by grind [QF]) _ _,hrm,own _ _⟩,fun _=>⟨hrm,own _ _⟩⟩,fun q5=>?_⟩⟩
    ·simp_all
    ·exfalso
     unfold vX Lp at q3 q5;rw[Ib] at q5;grind [xO,FM,mJ]
   ·have q3:vX n m g h'=ag:=hgd ▸ q2
    have:=(h5 q).2 q3;assumption
 ·exact h.elim
end Go.mP
namespace Go.Pl
open Go Go.Sx Go.Proofs Go.Gm Go.Bf
open Go.oD (Au uU dfn wU takeB Af Nz NC wS vX BG FN Ij)
open Go.mP (Nw)
noncomputable def nJ(n:Nat)(g:Nat->List Sh)(m:Nat)(h:Nat->List Sh):JO where
 okb:=!wS n m&&(vX n m g h&&takeB m (aP h))
 xC:=!wS n m
 pos:=if vX n m g h=aj then Nz m (aP h) else BG n m g h
 e:=if wS n m=aj then 6 else if vX n m g h=aj then NC m (aP h) else FN n m g h
 n:=(Af m (aP h)).rs.length
 T:=mJ (Nw uU dfn (wU (Af m (aP h))))
structure Ak(n:Nat)(g:Nat->List Sh)(m:Nat)(h:Nat->List Sh):Prop where
 o:fR cp n g=aj
 p:fR cW m h=aj
 r:Ij m h=aj
 k:Hz n (mJ g)=aj
def hsS(n:Nat)(g:Nat->List Sh)(m:Nat)(h:Nat->List Sh):Sh:=.agg [.sl 2 n g,.sl 8 m h]
noncomputable def oL(lv:Int)(o:Nat)(og:Nat->List Sh)(B:JO):zl where
 okb:=B.okb&&decide (B.n<=12)
 xC:=!B.okb&&B.xC
 pos:=B.pos
 e:=if B.okb=aj then 1 else B.e
 lv:=lv
 N:=(tC lv B.n B.T).length
 T:=nth (tC lv B.n B.T)
 ms:=Rh lv (tC lv B.n B.T)
 k0:=o
 g0:=yA og
theorem agx(rs:Nat->Go.oD.Rc):∀n,okB rU n (Nw uU dfn rs)=aj
 |0=>rfl |n+1=>by
  show (okB rU n (Nw uU dfn rs)&&_)=aj;rw[agx rs n];rfl
end Go.Pl
namespace Go.Proofs
open Go Go.Sx Go.Pl Go.Gm Go.Bf
open Go.oD (Au uU dfn wU takeB Af Nz NC wS vX BG FN Ij)
open Go.mP (Nw)
theorem XK{n:Nat}{g:Nat->List Sh}{m:Nat}{h:Nat->List Sh}(P:Ak n g m h):nG ah (nY W7) 20 (D20 (hsS n g m h) (nJ n g m h)):=by
 refine acA Go.mP.O32 fun nV φ hφ=>?_
 unfold D20 at hφ;split at hφ
 ·rename_i s
  obtain ⟨h1,h2,h3⟩:=hφ;have hs:s=hsS n g m h:=@of_decide_eq_true _ (aB _) h1;subst hs;have sl:∀{k:Nat} {f f':Nat->List Sh},(∀j,j<k->f j=f' j)->Wk (.sl 7 k f) (.sl 7 k f'):=fun hf=>.inr ⟨rfl,rfl,hf⟩;have n0:Wk (.sl 0 0 fun _=>[]) (.sl 0 0 fun _=>[]):=.inl ⟨rfl,rfl⟩;cases hb:wS n m with
  |true=>
   have e1:(nJ n g m h).okb=ag:=by grind [nJ]
   have e2:(nJ n g m h).xC=ag:=by grind [nJ]
   have e3:(nJ n g m h).e=6:=by grind [nJ]
   have q:=(h3 e1).2 e2;rw[e3] at q;exact ⟨_,q,P.o,P.p,P.r,fun _=>⟨n0,rfl,trivial⟩,fun x=>by simp_all⟩
  |false=>
   have e2:(nJ n g m h).xC=aj:=by grind [nJ]
   cases hg:vX n m g h with
   |true=>
    cases ht:takeB m (aP h) with
    |true=>
     have e1:(nJ n g m h).okb=aj:=by simp_all [nJ]
     exact ⟨_,h2 e1,P.o,P.p,P.r,fun x=>(by simp_all),fun _=>⟨fun _=>⟨fun _=>⟨.inr ⟨rfl,rfl,fun j hj=>BD (agx _ _) j hj⟩,rfl,trivial⟩,fun x=>(by simp_all)⟩,fun x=>(by simp_all)⟩⟩
    |false=>
     have e1:(nJ n g m h).okb=ag:=by simp_all [nJ]
     have e3:(nJ n g m h).e=NC m (aP h):=by simp_all [nJ]
     have e4:(nJ n g m h).pos=Nz m (aP h):=by grind [nJ]
     have q:=(h3 e1).1 e2;rw[e3,e4] at q;exact ⟨_,q,P.o,P.p,P.r,fun x=>(by simp_all),fun _=>⟨fun _=>⟨fun x=>(by simp_all),fun _=>⟨n0,rfl,trivial⟩⟩,fun x=>(by simp_all)⟩⟩
   |false=>
    have e1:(nJ n g m h).okb=ag:=by simp_all [nJ]
    have e3:(nJ n g m h).e=FN n m g h:=by simp_all [nJ]
    have e4:(nJ n g m h).pos=BG n m g h:=by grind [nJ]
    have q:=(h3 e1).1 e2;rw[e3,e4] at q;exact ⟨_,q,P.o,P.p,P.r,fun x=>(by simp_all),fun _=>⟨fun x=>(by simp_all),fun _=>⟨n0,rfl,trivial⟩⟩⟩
 ·exact hφ.elim
theorem yT{n:Nat}{g:Nat->List Sh}{m:Nat}{h:Nat->List Sh}{B:JO}{lv:Int}(O:nG ah (nY W7) 20 (D20 (hsS n g m h) B))(h1:1<=lv)(h3:lv<=3)(hw:B.okb=aj->nwB n g=aj):
  nG ah (nY W7) 40 (Wu (hsS n g m h) lv (oL lv n g B)):=by
 refine vM (C:=C7 mD W7 (Ig (hsS n g m h) B) ny) (aS _ _) (fn:=lL) (by kernel_rfl) (by kernel_rfl) fun H w nV args φ hrep hφ=>?_
 have hn:lL.ntmps=71:=by kernel_rfl
 unfold Wu at hφ;split at hφ
 ·rename_i s t
  split at hφ
  ·rename_i l e1
   obtain ⟨q1,q2,q3⟩:=hφ;obtain ⟨rfl,rfl⟩:s=hsS n g m h/\l=lv:=@of_decide_eq_true _ (aB _) q1;match args,hrep with
   |[v,u],⟨rv,ru,_⟩=>
    refine ⟨[hsS n g m h,.i .i64 l],⟨rv,qW e1 ru,trivial⟩,L0,?_⟩;refine uz (aS _ _) (aac O _) (hold:=oG) (m:=300) (n:=400) (ts:=[⟨40,Tc,Td n m g h l B.n B.T 0 (nth []) ((0:Nat):Int),[]⟩]) ?_;rw[hn];refine aeM mD W7 B l n m g h (nth []) ((0:Nat):Int) rfl rfl rfl (@decide_eq_true _ (aB _) rfl) (fun c0 c1=>?_) (fun c0 c1=>?_) (fun c0 c2=>?_) (fun c0 c2=>?_)
    ·have hbig:¬B.n<=12:=by grind [mQ,nI]
     have e:(oL l n g B).okb=ag:=by simp_all [oL]
     have e2:(oL l n g B).xC=ag:=by grind [oL]
     have e3:(oL l n g B).e=1:=by grind [oL]
     have q:=(q3 e).2 e2;rw[e3] at q;exact oq (s':=.mV [.v (.pointer aq),.er 1 329]) ⟨rfl,rfl,trivial⟩ q
    ·have hsm:B.n<=12:=by grind [mQ,nI]
     have e:(oL l n g B).okb=aj:=by simp_all [oL]
     have q:=q2 e;exact ⟨⟨rfl,rfl,rfl,rfl,rfl,rfl,rfl,rfl,rfl,trivial⟩,_,rfl,aad O h1 h3 hsm (hw c0) q B.n 0 [] (by omega) (by simp) (by simp_all [acN])⟩
    ·have e:(oL l n g B).okb=ag:=by grind [oL]
     have e2:(oL l n g B).xC=aj:=by simp_all [oL]
     have e3:(oL l n g B).e=B.e:=by grind [oL]
     have q:=(q3 e).1 e2;rw[e3] at q;exact oq (s':=.mV [.v (.pointer aq),.pV 109 (.pt [.i .i64 B.pos,.er B.e 329])]) ⟨rfl,rfl,trivial⟩ q
    ·have e:(oL l n g B).okb=ag:=by grind [oL]
     have e2:(oL l n g B).xC=ag:=by simp_all [oL]
     have e3:(oL l n g B).e=B.e:=by grind [oL]
     have q:=(q3 e).2 e2;rw[e3] at q;exact oq (s':=.mV [.v (.pointer aq),.er B.e 329]) ⟨rfl,rfl,trivial⟩ q
  ·exact hφ.elim
 ·exact hφ.elim
end Go.Proofs
namespace Go.Pl
open Go Go.Sx
def Eo(s t:pO):Bool:=decide (s=t)
open Go Go.Sx Go.Proofs
structure Rf where
 kind:Int
 num:Int
 keys:List Int
 vals:List Int
 deriving DecidableEq,Inhabited
def rfS(s:Rf):List Sh:=[.i .i64 s.kind,.i .i64 s.num,.sl 1 (len s.keys) (mF (nth s.keys)),.sl 1 (len s.vals) (mF (nth s.vals))]
def asY(o:Nat->Oj)(j:Nat):Rf:=⟨(o j).kind,(o j).init,[],[]⟩
def Ep(l:List Int)(key:Int):Nat:=(l.takeWhile fun p=>decide (p<key)).length
def hasK(l:List Int)(key:Int):Bool:=decide (Ep l key<l.length)&&(nth l (Ep l key)==key)
def Tv(kind num op k v:Int):Int:=
 if kind=0\/CP op≠kind then 111
 else if (keyed op=ag/\k≠0)\/k<0\/1000<k\/(valued op=ag/\v≠0)\/v < -1000000000\/1000000000<v then 110
 else if op=3/\(CU num v < -1000000000000000\/1000000000000000<CU num v) then 110
 else 0
def ae3(s:Rf)(op k v:Int):Rf×Int×Int:=
 if op=1\/op=4 then (s,3,s.num)
 else if op=2 then ({s with num:=v},1,0)
 else if op=3 then ({s with num:=CU s.num v},1,0)
 else if op=5 then ({s with vals:=s.vals++[v]},1,0)
 else if op=6 then ({s with vals:=s.vals.tail},Ld s.vals.length,s.vals.headD 0)
 else if op=7 then (if hasK s.keys k=aj then {s with vals:=s.vals.set (Ep s.keys k) v} else {s with keys:=s.keys.take (Ep s.keys k)++k::s.keys.drop (Ep s.keys k),vals:=s.vals.take (Ep s.keys k)++v::s.vals.drop (Ep s.keys k)},1,0)
 else if op=8 then (s,if hasK s.keys k=aj then 3 else 2,if hasK s.keys k=aj then nth s.vals (Ep s.keys k) else 0)
 else if op=9 then (if hasK s.keys k=aj then {s with keys:=s.keys.take (Ep s.keys k)++s.keys.drop (Ep s.keys k+1),vals:=s.vals.take (Ep s.keys k)++s.vals.drop (Ep s.keys k+1)} else s,if hasK s.keys k=aj then 3 else 2,if hasK s.keys k=aj then nth s.vals (Ep s.keys k) else 0)
 else (s,0,0)
def opS(r:Rf)(op k v:Int):Rf:=(ae3 r op k v).1
def Iq(k:Int):List UInt8:=hZ 16 (k - 1).toNat
def qU(r:List Int)(j:Nat):List UInt8:=(aE j).flatMap fun i=>32::nT (nth r i)
def pU(l r:List Int)(j:Nat):List UInt8:=(aE j).flatMap fun i=>32::(nT (nth l i)++58::nT (nth r i))
def Gx(s:Rf):List UInt8:=if s.kind=0 then [] else Iq s.kind++(if s.kind<=2 then 32::nT s.num else if s.kind=3 then qU s.vals s.vals.length else pU s.keys s.vals s.vals.length)
noncomputable def rowB(l:List Sh):Bool:=@decide (∃r:Rf,l=rfS r) (aB _)
def FQ(d:Nat->Rf):Nat->List UInt8
 |0=>[] |k+1=>FQ d k++((if k=0 then [] else [59,32])++Gx (d k))
def Lu(n:Nat)(d:Nat->pO):List UInt8:=Yy ((aE n).map d)
def qp(n:Nat)(d:Nat->pO)(m:Nat)(f:Nat->Rf):Bool:=(Lu n d==FQ f m)&&((n:Int)==(m:Int))
def toR(s:pO):Rf:=⟨s.kind,s.num,s.ps.map (·.key),s.q++s.ps.map (·.val)⟩
theorem KL(ps:List Pr)(k:Int):Ep (ps.map (·.key)) k=pF ps k:=by
 unfold Ep pF;rw[List.takeWhile_map,ct];rfl
theorem arg_eq(x y op k v:Int):Tv x y op k v=if xk x op=aj then 111 else if yt x y op k v=aj then 110 else 0:=by
 by_cases h1:x=0\/CP op≠x
 ·simp_all [xk,Tv]
 ·have hx:x≠0/\CP op=x:=⟨fun e=>h1 (.inl e),lM fun e=>h1 (.inr e)⟩
  have:¬xk x op=aj:=by
   simp_all [xk]
  rw[if_neg this];unfold Tv;rw[if_neg h1];have h3:op=3->x=2:=fun e=>by rw[<-hx.2,e];decide
  have e1:(yt x y op k v=aj)↔((keyed op=ag/\k≠0)\/k<0\/1000<k\/(valued op=ag/\v≠0)\/v < -1000000000\/1000000000<v)\/(op=3/\(CU y v < -1000000000000000\/1000000000000000<CU y v)):=by
   grind [yt,yR,keyed,valued]
  grind
theorem acZ(ps:List Pr){i:Nat}(h:i<ps.length):nth (ps.map (·.key)) i=(nth ps i).key:=by simp[nth,h]
theorem alT(ps:List Pr){i:Nat}(h:i<ps.length):nth (ps.map (·.val)) i=(nth ps i).val:=by simp[nth,h]
theorem ac0:∀{ps:List Pr} {k:Int},(ps.Pairwise fun a b=>a.key<b.key)->(tN ps k=aj↔pF ps k<ps.length/\(nth ps (pF ps k)).key=k)
 |[],k,_=>by simp[tN,pF] |a::ps,k,h=>by
  rw[iQ] at h;have ih:=ac0 (ps:=ps) (k:=k) h.2;by_cases hk:a.key<k
  ·grind [pF,List.takeWhile,tN,nth]
  ·have e:pF (a::ps) k=0:=by simp_all [pF]
   rw[e];constructor
   ·intro q
    refine ⟨by simp,?_⟩;show a.key=k;grind [tN]
   ·intro ⟨_,q⟩
    have q:a.key=k:=q;simp[tN,q]
theorem YS{ps:List Pr}{k:Int}(h:ps.Pairwise fun a b=>a.key<b.key):hasK (ps.map (·.key)) k=tN ps k:=by
 have e:hasK (ps.map (·.key)) k=aj↔tN ps k=aj:=by
  rw[ac0 h];unfold hasK;simp_all [KL,al,decide_eq_true_eq,ct,beq_iff_eq,acZ]
 simp_all
theorem WY{ps:List Pr}:H6 ps=aj↔(ps.Pairwise fun a b=>a.key<b.key)/\∀p∈ps,0<=p.key/\p.key<=1000:=by
 simp_all [H6,al,decide_eq_true_eq,be]
theorem ac1{ps:List Pr}{k v:Int}(hs:ps.Pairwise fun a b=>a.key<b.key)(h:tN ps k=aj):(uI ps k v).map (·.key)=ps.map (·.key):=by
 obtain ⟨h1,h2⟩:=Gp hs h;grind [ZO,lw,set,pF,List.set_getElem_self]
theorem alU{ps:List Pr}{k v:Int}(h:H6 ps=aj)(hk:0<=k/\k<=1000):H6 (uI ps k v)=aj:=by
 rw[WY] at h ⊢;obtain ⟨hs,hb⟩:=h;cases hh:tN ps k with
 |true=>
  have e:=ac1 (v:=v) hs hh;refine ⟨?_,fun p hp=>?_⟩
  ·have:(ps.map (·.key)).Pairwise (·<·):=List.pairwise_map.2 hs
   grind
  grind [uI]
 |false=>
  rw[ZN hh];have hl:=ace ps k;have hg:=acf (key:=k) hs;have hn:∀p∈ps,p.key≠k:=fun p hp e=>by
   simp_all [tN]
  have ht:∀p∈ps.take (pF ps k),p.key<k:=fun p hp=>by
   grind [List.mem_take_iff_getElem]
  have hd:∀p∈ps.drop (pF ps k),k<p.key:=fun p hp=>by
   grind [List.mem_drop_iff_getElem,pF,dA]
  (refine ⟨List.pairwise_append.2 ⟨hs.sublist (List.take_sublist _ _),iQ.2 ⟨fun p hp=>hd p hp,hs.sublist (ji _ _)⟩,fun a ha b hb=>?_⟩,fun p hp=>?_⟩)<;>grind
theorem alV{ps:List Pr}{k:Int}(h:H6 ps=aj):H6 (vN ps k)=aj:=by
 cases hh:tN ps k with
 |false=>grind [ZP] |true=>
  rw[ZQ hh];rw[WY] at h ⊢;have sub:(ps.take (pF ps k)++ps.drop (pF ps k+1)).Sublist ps:=by
   grind [List.take_append_drop,pF,lV,List.drop_drop,ji]
  grind
structure zJ(m:Nat)(s:pO):Prop where
 kind:1<=s.kind/\s.kind<=4
 q0:s.kind≠3->s.q=[]
 p0:s.kind≠4->s.ps=[]
 wf:H6 s.ps=aj
 num:-1000000000000000<=s.num/\s.num<=1000000000000000
 qv:∀x∈s.q,-1000000000<=x/\x<=1000000000
 pv:∀p∈s.ps,-1000000000<=p.val/\p.val<=1000000000
 ql:s.q.length<=m
 pl:s.ps.length<=m
 n0:2<s.kind->s.num=0
theorem agy{x y op k v:Int}(h:Tv x y op k v=0):(x≠0/\CP op=x)/\(0<=k/\k<=1000)/\(-1000000000<=v/\v<=1000000000)/\(op=3->-1000000000000000<=CU y v/\CU y v<=1000000000000000):=by
 grind [Tv]
theorem ahP{x y op k v:Int}(h:Tv x y op k v=0):op=1\/op=2\/op=3\/op=4\/op=5\/op=6\/op=7\/op=8\/op=9:=by
 obtain ⟨⟨q1,q2⟩,_⟩:=agy h;grind [CP]
theorem ahQ{m:Nat}{s:pO}{op k v:Int}(h:zJ m s)(ha:Tv s.kind s.num op k v=0):opS (toR s) op k v=toR (tZ s op k v).1/\zJ (m+1) (tZ s op k v).1:=by
 obtain ⟨⟨k0,hk⟩,⟨b1,b2⟩,bv,bs⟩:=agy ha;have hop:=ahP ha;have h':zJ (m+1) s:={h with ql:=jI h.ql,pl:=jI h.pl}
 obtain ⟨kind,num,q,ps⟩:=s;rcases hop with rfl|rfl|rfl|rfl|rfl|rfl|rfl|rfl|rfl
 ·exact ⟨rfl,h'⟩
 ·exact ⟨rfl,{h' with num:=⟨by show _<=v;omega,by show v<=_;omega⟩,n0:=fun e=>by have hk:(1:Int)=kind:=hk;have e:2<kind:=e;omega}⟩
 ·exact ⟨rfl,{h' with num:=bs rfl,n0:=fun e=>by have hk:(2:Int)=kind:=hk;have e:2<kind:=e;omega}⟩
 ·exact ⟨rfl,h'⟩
 ·have hk:(3:Int)=kind:=hk
  subst hk;have hp:ps=[]:=h.p0 (show (3:Int)≠4 by decide);subst hp;refine ⟨by simp[opS,ae3,tZ,toR],{h' with q0:=fun e=>absurd rfl e,qv:=fun x hx=>?_,ql:=?_}⟩
  ·have hx:x∈q++[v]:=hx
   rcases aU.1 hx with hx|hx
   ·exact h.qv x hx
   simp_all
  ·show (q++[v]).length<=m+1
   have:=h.ql;simp_all
 ·have hk:(3:Int)=kind:=hk
  subst hk;have hp:ps=[]:=h.p0 (show (3:Int)≠4 by decide);subst hp;refine ⟨by simp[opS,ae3,tZ,toR],{h' with q0:=fun e=>absurd rfl e,qv:=fun x hx=>h.qv x (List.mem_of_mem_tail hx),ql:=?_}⟩
  show q.tail.length<=m+1;have:=h.ql;grind
 ·have hk:(4:Int)=kind:=hk
  subst hk;have hq:q=[]:=h.q0 (show (4:Int)≠3 by decide);subst hq;have hs:=wQ h.wf;refine ⟨?_,{h' with p0:=fun e=>absurd rfl e,wf:=alU h.wf ⟨b1,b2⟩,pv:=fun p hp=>?_,pl:=?_}⟩
  ·show (if hasK (ps.map (·.key)) k=aj then (_:Rf) else _)=⟨4,num,(uI ps k v).map (·.key),[]++(uI ps k v).map (·.val)⟩
   rw[YS hs];cases hh:tN ps k with
   |true=>
    rw[if_pos rfl,ac1 hs hh,ZO hh];simp[toR,KL,lw]
   |false=>
    simp_all [ZN,toR,KL,kB,kC]
  ·have hp:p∈uI ps k v:=hp
   unfold uI at hp;split at hp
   ·rcases List.mem_or_eq_of_mem_set hp with hp|rfl
    ·exact h.pv p hp
    ·exact bv
   ·rcases aU.1 hp with hp|hp
    ·exact h.pv p (ir hp)
    ·rcases fj.1 hp with rfl|hp
     ·exact bv
     ·exact h.pv p (dA hp)
  ·show (uI ps k v).length<=m+1
   have:=h.pl;grind [VX]
 ·exact ⟨rfl,h'⟩
 ·have hk:(4:Int)=kind:=hk
  subst hk;have hq:q=[]:=h.q0 (show (4:Int)≠3 by decide);subst hq;have hs:=wQ h.wf;refine ⟨?_,{h' with p0:=fun e=>absurd rfl e,wf:=alV h.wf,pv:=fun p hp=>?_,pl:=?_}⟩
  ·show (if hasK (ps.map (·.key)) k=aj then (_:Rf) else _)=⟨4,num,(vN ps k).map (·.key),[]++(vN ps k).map (·.val)⟩
   rw[YS hs];cases hh:tN ps k with
   |true=>
    rw[if_pos rfl,ZQ hh];simp[toR,KL,kB,kC]
   |false=>
    rw[if_neg (by simp),ZP hh];rfl
  ·have hp:p∈vN ps k:=hp
   unfold vN at hp;split at hp
   ·rcases aU.1 hp with hp|hp
    ·exact h.pv p (ir hp)
    ·exact h.pv p (dA hp)
   ·exact h.pv p hp
  ·show (vN ps k).length<=m+1
   have:ps.length<=m:=h.pl;rw[ach (show H6 ps=aj from h.wf)];grind
theorem Tz{α:Type}[Row α](l:List α)(F:α->List UInt8):(aE l.length).flatMap (fun i=>F (nth l i))=l.flatMap F:=by
 have:=VL l;grind [fS]
theorem ae4(q:List Int):qU q q.length=q.flatMap fun x=>32::nT x:=Tz q fun x=>32::nT x
theorem ae5(ps:List Pr):pU (ps.map (·.key)) (ps.map (·.val)) ps.length=ps.flatMap fun p=>32::(nT p.key++58::nT p.val):=by
 rw[<-Tz ps fun p=>32::(nT p.key++58::nT p.val)];simp_all [pU,List.flatMap_def,dD,bh,acZ,alT]
theorem WZ(l:List (List UInt8)):eg [32] l=l.flatMap fun x=>32::x:=by
 rfl
theorem key_eq{m:Nat}{s:pO}(h:zJ m s):keyS s=Gx (toR s):=by
 obtain ⟨kind,num,q,ps⟩:=s;have hk:1<=kind/\kind<=4:=h.kind;unfold keyS zZ qJ;rw[ft,WZ];have:kind=1\/kind=2\/kind=3\/kind=4:=by omega
 rcases this with rfl|rfl|rfl|rfl
 ·simp[Gx,toR];rfl
 ·simp[Gx,toR];rfl
 ·have hp:ps=[]:=h.p0 (show (3:Int)≠4 by decide)
  subst hp;have:=ae4 q;simp[Gx,toR,this,fS];rfl
 ·have hq:q=[]:=h.q0 (show (4:Int)≠3 by decide)
  subst hq;have:=ae5 ps;simp[Gx,toR,this,fS];rfl
theorem ae6(l:List (List UInt8))(x sep:List UInt8):qJ (l++[x]) sep=qJ l sep++((if l=[] then [] else sep)++x):=by
 unfold qJ;cases l with
 |nil=>simp[Go.Lib.join_one,Go.Lib.join_nil] |cons a l=>
  simp_all [jJ,ft,eg]
theorem keys_eq{m:Nat}{d:Nat->pO}:∀n,(∀j,j<n->zJ m (d j))->Lu n d=FQ (fun j=>toR (d j)) n
 |0,_=>rfl |n+1,h=>by
  have ih:=keys_eq n fun j hj=>h j (by omega);unfold Lu Yy at ih ⊢;rw[List.range_succ,eU,eU,iR,iR,ae6,ih,FQ,key_eq (h n (by omega))];simp
theorem alW{m:Nat}{s:pO}(hm:m<=100000)(h:zJ m s):Pq s=aj:=by
 obtain ⟨⟨k1,k2⟩,_,_,wf,⟨n1,n2⟩,qv,pv,ql,pl,_⟩:=h;have wf:=WY.1 wf;unfold Pq;simp only[al,be,decide_eq_true_eq];refine ⟨⟨⟨⟨decide_eq_true ⟨by omega,by omega⟩,decide_eq_true ⟨by omega,by omega⟩⟩,fun x hx=>?_⟩,fun p hp=>⟨?_,?_⟩⟩,by omega,by omega⟩
 ·have:=qv x hx;exact decide_eq_true ⟨by omega,by omega⟩
 ·have:=wf.2 p hp;exact decide_eq_true ⟨by omega,by omega⟩
 ·have:=pv p hp;exact decide_eq_true ⟨by omega,by omega⟩
theorem ahR{m n:Nat}{d:Nat->pO}{i op:Int}(hm:m<=50000)(h:∀j,j<n->zJ m (d j)):V4 n d i op=aj:=by
 unfold V4;cases hi:zY n i with
 |false=>rfl |true=>
  have hi:0<=i/\i<n:=of_decide_eq_true hi;obtain ⟨_,_,_,wf,_,_,_,ql,pl,_⟩:=h i.toNat (by omega);show (_&&_)=aj;rw[al];refine ⟨eP (show (d i.toNat).q.length+1<=_ by omega) (by omega),?_⟩;unfold Bc;rw[eT,al];refine .inr ⟨yj.2 ⟨rZ _ _,show (d i.toNat).ps.length<=_ by omega,?_⟩,eP (show (d i.toNat).ps.length+1<=_ by omega) (by omega)⟩;grind [lst,len,mF,nth,BL]
theorem alX{o:Nat->Oj}{j:Nat}(h:uw (o j).kind (o j).init=ag):zJ 0 (newT o j)/\toR (newT o j)=asY o j:=by
 unfold uw at h;simp only[it,iS,al,decide_eq_true_eq,decide_eq_false_iff_not] at h;exact ⟨⟨h.1.1.1,fun _=>rfl,fun _=>rfl,(show H6 []=aj from rfl),⟨(by show _<=(o j).init;omega),(by show (o j).init<=_;omega)⟩,(fun x hx=>(jK hx).elim),(fun p hp=>(jK hp).elim),aV _,aV _,(fun e=>by have e:2<(o j).kind:=e;show (o j).init=0;have:=h.2;simp at this;omega)⟩,rfl⟩
open Go.Lib (decDigits itoa)
def aoF(l:List UInt8):Nat:=l.foldl (fun a c=>a*10+(c.toNat - 48)) 0
theorem ac2{d:Nat}(h:d<10):(iB (48+d)).toNat=48+d:=by
 rw[UInt8.toNat_ofNat'];omega
theorem KN(u:Nat):aoF (decDigits u)=u/\(∀c∈decDigits u,48<=c.toNat/\c.toNat<=57)/\decDigits u≠[]:=by
 induction u using Nat.strongRecOn with
 |ind u ih=>
  rw[decDigits];by_cases h:u<10
  ·rw[dif_pos h]
   have:=ac2 h;refine ⟨?_,fun c hc=>?_,by simp⟩
   ·show 0*10+((iB (48+u)).toNat - 48)=u
    omega
   grind
  ·rw[dif_neg h]
   obtain ⟨q1,q2,q3⟩:=ih (u / 10) (by omega);have:=ac2 (d:=u % 10) (by omega);grind [aoF]
theorem alY{a b:Nat}(h:decDigits a=decDigits b):a=b:=by
 grind [KN]
theorem ac3{n:Int}{c:UInt8}(h:c∈nT n):c.toNat=45\/(48<=c.toNat/\c.toNat<=57):=by
 unfold nT itoa at h;split at h
 ·rcases fj.1 h with rfl|h
  ·simp
  grind [KN]
 grind [KN]
theorem KO{a b:Int}(h:nT a=nT b):a=b:=by
 have head (u v:Nat) (h:45::decDigits u=decDigits v):False:=by
  have:(45:UInt8)∈decDigits v:=by grind
  grind [KN]
 grind [nT,itoa,alY]
theorem agz{z:UInt8}{a r:List UInt8}(ha:z ∉ a)(hr:r=[]\/∃t,r=z::t):(a++r).takeWhile (fun c=>!(c==z))=a:=by
 rw[List.takeWhile_append_of_pos fun c hc=>by
  grind]
 (rcases hr with rfl|⟨t,rfl⟩)<;>simp_all
theorem W9{z:UInt8}{a b r r':List UInt8}(ha:z ∉ a)(hb:z ∉ b)(hr:r=[]\/∃t,r=z::t)(hr':r'=[]\/∃t,r'=z::t)(h:a++r=b++r'):a=b/\r=r':=by
 have h1:=agz ha hr;simp_all [agz]
theorem Xa{α:Type}{z:UInt8}{f:α->List UInt8}:∀l:List α,(l.flatMap fun x=>z::f x)=[]\/∃t,(l.flatMap fun x=>z::f x)=z::t
 |[]=>.inl rfl |_::_=>.inr ⟨_,rfl⟩
theorem Rl{α:Type}{z:UInt8}{f:α->List UInt8}(hz:∀x,z ∉ f x)(hf:∀x y,f x=f y->x=y):∀l l':List α,(l.flatMap fun x=>z::f x)=(l'.flatMap fun x=>z::f x)->l=l'
 |[],[],_=>rfl |[],_::_,h=>by cases h |_::_,[],h=>by cases h |a::l,b::l',h=>by
  simp only[List.flatMap_cons,jJ] at h;injection h with _ h
  obtain ⟨h1,h2⟩:=W9 (hz a) (hz b) (Xa l) (Xa l') h;rw[hf a b h1,Rl hz hf l l' h2]
theorem Gy{n:Int}{z:UInt8}(h:z.toNat=32\/z.toNat=58\/z.toNat=59):z ∉ nT n:=fun hc=>by
 grind [ac3]
theorem ahS{a b c d:Int}(h:nT a++58::nT b=nT c++58::nT d):a=c/\b=d:=by
 obtain ⟨h1,h2⟩:=W9 (z:=58) (Gy (by decide)) (Gy (by decide)) (.inr ⟨_,rfl⟩) (.inr ⟨_,rfl⟩) h;grind [KO]
theorem ahT{m m':Nat}{s t:pO}(hs:zJ m s)(ht:zJ m' t)(hk:s.kind=t.kind)(hn:s.kind<=2\/s.num=t.num)(h:Gx (toR s)=Gx (toR t)):s=t:=by
 obtain ⟨kind,num,q,ps⟩:=s;obtain ⟨kind',num',q',ps'⟩:=t;have hk:kind=kind':=hk;subst hk;have hkk:1<=kind/\kind<=4:=hs.kind;have hn:kind<=2\/num=num':=hn;have:kind=1\/kind=2\/kind=3\/kind=4:=by omega
 rcases this with rfl|rfl|rfl|rfl
 ·have e1:q=[]:=hs.q0 (show (1:Int)≠3 by decide)
  have e2:q'=[]:=ht.q0 (show (1:Int)≠3 by decide);have e3:ps=[]:=hs.p0 (show (1:Int)≠4 by decide);have e4:ps'=[]:=ht.p0 (show (1:Int)≠4 by decide);subst e1 e2 e3 e4;have h:Iq 1++(32::nT num)=Iq 1++(32::nT num'):=h;grind [cX,KO]
 ·have e1:q=[]:=hs.q0 (show (2:Int)≠3 by decide)
  have e2:q'=[]:=ht.q0 (show (2:Int)≠3 by decide);have e3:ps=[]:=hs.p0 (show (2:Int)≠4 by decide);have e4:ps'=[]:=ht.p0 (show (2:Int)≠4 by decide);subst e1 e2 e3 e4;have h:Iq 2++(32::nT num)=Iq 2++(32::nT num'):=h;grind [cX,KO]
 ·have e3:ps=[]:=hs.p0 (show (3:Int)≠4 by decide)
  have e4:ps'=[]:=ht.p0 (show (3:Int)≠4 by decide);subst e3 e4;have hn:num=num':=hn.resolve_left (show ¬(3:Int)<=2 by decide);subst hn;have h:Iq 3++qU (q++[]) (q++[]).length=Iq 3++qU (q'++[]) (q'++[]).length:=h;have h:=cX h;rw[bQ,bQ,ae4,ae4] at h;rw[Rl (fun x=>Gy (.inl rfl)) (fun x y e=>KO e) q q' h]
 ·have e1:q=[]:=hs.q0 (show (4:Int)≠3 by decide)
  have e2:q'=[]:=ht.q0 (show (4:Int)≠3 by decide);subst e1 e2;have hn:num=num':=hn.resolve_left (show ¬(4:Int)<=2 by decide);subst hn;have h:Iq 4++pU (ps.map (·.key)) (ps.map (·.val)) (ps.map (·.val)).length=Iq 4++pU (ps'.map (·.key)) (ps'.map (·.val)) (ps'.map (·.val)).length:=h;have h:=cX h;rw[ct,ct,ae5,ae5] at h;have:=Rl (f:=fun p:Pr=>nT p.key++58::nT p.val) (fun x hx=>by
   rcases aU.1 hx with hx|hx
   ·exact Gy (.inl rfl) hx
   ·rcases fj.1 hx with hx|hx
    ·cases hx
    ·exact Gy (.inl rfl) hx) (fun x y e=>by
   obtain ⟨a,b⟩:=x;obtain ⟨c,d⟩:=y;grind [ahS]) ps ps' h
  rw[this]
theorem ahU{a b x y:List UInt8}(hx:59 ∉ x)(hy:59 ∉ y)(h:a++59::32::x=b++59::32::y):a=b/\x=y:=by
 have h:=congrArg List.reverse h;simp only[List.reverse_append,List.reverse_cons,List.append_assoc,List.singleton_append] at h;have h:(x.reverse++[32])++59::a.reverse=(y.reverse++[32])++59::b.reverse:=by simpa using h
 obtain ⟨h1,h2⟩:=W9 (z:=59) (by grind) (by grind) (.inr ⟨_,rfl⟩) (.inr ⟨_,rfl⟩) h;simp_all
theorem aqQ{m:Nat}{s:pO}(hs:zJ m s):59 ∉ Gx (toR s):=by
 rw[<-key_eq hs];obtain ⟨kind,num,q,ps⟩:=s;have hkk:1<=kind/\kind<=4:=hs.kind;have hw:59 ∉ tH kind:=by
  have:kind=1\/kind=2\/kind=3\/kind=4:=by omega
  rcases this with rfl|rfl|rfl|rfl<;>decide
 unfold keyS zZ qJ;rw[ft,WZ];intro hc;rcases aU.1 hc with hc|hc
 ·exact hw hc
 ·obtain ⟨x,hx,hc⟩:=cj.1 hc
  have hc:(59:UInt8)∈x:=by
   simp_all
  grind [Gy]
theorem YT{m m':Nat}{d e:Nat->pO}:∀n,(∀j,j<n->zJ m (d j))->(∀j,j<n->zJ m' (e j))->FQ (fun j=>toR (d j)) n=FQ (fun j=>toR (e j)) n->∀j,j<n->Gx (toR (d j))=Gx (toR (e j))
 |0,_,_,_,j,hj=>by omega |n+1,hd,he,h,j,hj=>by
  rw[FQ,FQ] at h;have key:FQ (fun j=>toR (d j)) n=FQ (fun j=>toR (e j)) n/\Gx (toR (d n))=Gx (toR (e n)):=by
   by_cases hn:n=0
   ·subst hn
    rw[if_pos rfl] at h;exact ⟨rfl,h⟩
   ·rw[if_neg hn] at h
    grind [ahU,aqQ]
  by_cases e1:j=n
  ·simp_all
  ·exact YT n (fun j hj=>hd j (by omega)) (fun j hj=>he j (by omega)) key.1 j (by omega)
theorem ac4{m m' n:Nat}{d e:Nat->pO}(hd:∀j,j<n->zJ m (d j))(he:∀j,j<n->zJ m' (e j))(hk:∀j,j<n->(d j).kind=(e j).kind)(h:Lu n d=Lu n e):∀j,j<n->d j=e j:=fun j hj=>by
 rw[keys_eq n hd,keys_eq n he] at h;have:=YT n hd he h j hj;refine ahT (hd j hj) (he j hj) (hk j hj) ?_ this;by_cases q:(d j).kind<=2
 ·exact .inl q
 ·exact .inr (by rw[(hd j hj).n0 (by omega),(he j hj).n0 (by simp_all)])
open Go Go.Sx Go.Proofs Go.Gm Go.Bf
structure CG(n:Nat)(g0:SG)(m:Nat)(g:SG)(d:Nat->pO):Prop where
 row:∀j,j<n->g j=qo (d j)
 inv:∀j,j<n->zJ m (d j)
 kind:∀j,j<n->∀s,g0 j=qo s->(d j).kind=s.kind
 out:∀j,n<=j->g j=g0 j
section
variable{n m:Nat}{g0 g:SG}{d:Nat->pO}
theorem zJ.up{m m':Nat}{s:pO}(h:zJ m s)(hm:m<=m'):zJ m' s:={h with ql:=co h.ql hm,pl:=co h.pl hm}
theorem CG.up{m':Nat}(h:CG n g0 m g d)(hm:m<=m'):CG n g0 m' g d:={h with inv:=fun j hj=>(h.inv j hj).up hm}
theorem CG.eqF(h:CG n g0 m g d):∀j,j<n->sJ n g j=d j:=afX h.row
theorem CG.isB(h:CG n g0 m g d):stB n g=aj:=afW h.row
theorem ac5{i op k v:Int}(h:Q5 n d i op k v=aj):zY n i=aj/\Tv (d i.toNat).kind (d i.toNat).num op k v=0:=by
 simp_all [Q5,al,arg_eq]
theorem Xb{d d':Nat->pO}(h:∀j,j<n->d j=d' j)(i op k v:Int):Q5 n d i op k v=Q5 n d' i op k v:=by
 unfold Q5;grind [zY]
theorem ac6{d d':Nat->pO}(h:∀j,j<n->d j=d' j)(i op:Int):V4 n d i op=V4 n d' i op:=by
 unfold V4;grind [zY]
theorem CG.next(h:CG n g0 m g d){i op k v:Int}(hok:KU n g i op k v=aj):
  ∃d',CG n g0 (m+1) (V5 n g i op k v) d':=by
 unfold KU at hok;rw[Xb h.eqF] at hok;obtain ⟨hi,ha⟩:=ac5 hok;have hi':0<=i/\i<n:=of_decide_eq_true hi;have hst:sJ n g i.toNat=d i.toNat:=h.eqF _ (by omega);refine ⟨fun j=>if j=i.toNat then (tZ (d i.toNat) op k v).1 else d j,fun j hj=>?_,fun j hj=>?_,fun j hj s hs=>?_,fun j hj=>?_⟩
 ·show (if zY n i=aj/\j=i.toNat then qo (tZ (sJ n g i.toNat) op k v).1 else g j)=qo (if j=i.toNat then (tZ (d i.toNat) op k v).1 else d j)
  by_cases e:j=i.toNat
  ·simp_all
  ·rw[if_neg (fun q=>e q.2),if_neg e,h.row j hj]
 ·show zJ (m+1) (if j=i.toNat then (tZ (d i.toNat) op k v).1 else d j)
  split
  ·exact (ahQ (h.inv i.toNat (by omega)) ha).2
  ·exact (h.inv j hj).up (by omega)
 ·grind [tZ,kind]
 ·show (if zY n i=aj/\j=i.toNat then _ else g j)=g0 j
  rw[if_neg (fun q=>by omega)];exact h.out j hj
theorem CG.fits(h:CG n g0 m g d)(hm:m<=50000)(hn:n<=1000)(i op:Int):Yz n g i op=aj:=by
 unfold Go.Pl.Yz;rw[h.isB,ac6 h.eqF,ahR hm h.inv,eP (by omega) (by omega)];rfl
theorem CG.alZ(hn:n<=1000):∀(l:List Dd) {m:Nat} {g:SG} {d:Nat->pO},CG n g0 m g d->m+l.length<=50000->Ll n g l
 |[],_,_,_,_,_=>trivial |a::l,m,g,d,h,hm=>by
  unfold Go.Pl.Ll;rw[cZ] at hm;split
  ·exact CG.alZ hn l h (by omega)
  ·refine ⟨h.fits (by omega) hn _ _,fun q=>?_⟩
   obtain ⟨d',h'⟩:=h.next q;exact CG.alZ hn l h' (by omega)
theorem CG.play:∀(l:List Dd) {m i:Nat} {g g':SG} {d:Nat->pO},CG n g0 m g d->xM n g i l=.inr g'->∃d',CG n g0 (m+l.length) g' d'
 |[],m,i,g,g',d,h,hp=>by
  have hp:(Sum.inr g:(Nat×Nat) ⊕ SG)=.inr g':=hp;grind
 |a::l,m,i,g,g',d,h,hp=>by
  unfold xM at hp;rw[cZ];split at hp
  ·obtain ⟨d',h'⟩:=CG.play l h hp
   exact ⟨d',h'.up (by omega)⟩
  ·split at hp
   ·rename_i hok
    split at hp
    ·obtain ⟨d1,h1⟩:=h.next hok
     obtain ⟨d',h'⟩:=CG.play l h1 hp;grind
    ·cases hp
   ·cases hp
end
section
variable{lv:Int}{n:Nat}{og:Nat->List Sh}{B:JO}
structure TbP(n:Nat)(og:Nat->List Sh)(B:JO):Prop where
 few:B.n<=12
 ok:∀i,i<B.n->okB Dd (B.T i).k (B.T i).g=aj/\(B.T i).k<=400
 o:n<=8
 b:∀j,j<n->uw (mJ (α:=Oj) og j).kind (mJ (α:=Oj) og j).init=ag
def Xc(lv:Int)(n:Nat)(og:Nat->List Sh)(B:JO)(nd:Nd SG):Prop:=nd.placed<2^(Gb (oL lv n og B)).n/\∃d,CG n (yA og) (400*rk (Gb (oL lv n og B)) nd) nd.st d
theorem al0{t:rU}{n:Nat}{T:Nat->rU}(h:t∈tC lv n T):∃i,i<n/\t=T i:=by
 grind [tC]
theorem al1(P:TbP n og B){i:Nat}(h:i<(oL lv n og B).N):okB Dd ((oL lv n og B).T i).k ((oL lv n og B).T i).g=aj/\((oL lv n og B).T i).k<=400:=by
 have h:i<(tC lv B.n B.T).length:=h;have hm:nth (tC lv B.n B.T) i∈tC lv B.n B.T:=by
  simp_all [nth,List.getD_eq_getElem?_getD,List.getElem_mem]
 obtain ⟨j,hj,e⟩:=al0 hm;show okB Dd (nth (tC lv B.n B.T) i).k (nth (tC lv B.n B.T) i).g=aj/\(nth (tC lv B.n B.T) i).k<=400;rw[e];exact P.ok j hj
theorem aoG(P:TbP n og B)(nd:Nd SG):rk (Gb (oL lv n og B)) nd<=12:=by
 have h1:=akv (B:=oL lv n og B) nd;have h2:(oL lv n og B).N=(tC lv B.n B.T).length:=rfl;have h3:=agj lv B.n B.T;have:=P.few;omega
theorem KP(P:TbP n og B):FH (oL lv n og B) (Xc lv n og B):=by
 have hN:(oL lv n og B).N<=12:=by
  have h2:(oL lv n og B).N=(tC lv B.n B.T).length:=rfl;have h3:=agj lv B.n B.T;have:=P.few;omega
 refine ⟨⟨jj (by simp),newT (mJ og),fun j hj=>rfl,fun j hj=>?_,fun j hj s hs=>?_,fun j _=>rfl⟩,fun nd hq t ht=>?_,fun nd hq=>?_,fun nd hq=>?_⟩
 ·exact (alX (P.b j hj)).1.up (bZ _)
 ·have hs:qo (newT (mJ og) j)=qo s:=hs
  rw[KD hs]
 ·obtain ⟨hlt,d,hd⟩:=hq
  have hlt':=lt_next hlt t ht;have hr:=Wn (g:=Gb (oL lv n og B)) t ht;refine ⟨hlt',?_⟩;rw[hr];unfold next turns at ht;obtain ⟨x,hx,rfl⟩:=bN.1 ht;obtain ⟨i,hi,hx⟩:=cj.1 hx;have hi:i<(oL lv n og B).N:=bh.1 hi;obtain ⟨t1,t2⟩:=al1 P hi;unfold uH at hx;split at hx
  ·rcases aU.1 hx with hx|hx
   ·split at hx
    ·rename_i s e1 e2
     obtain rfl:x=_:=by simpa using hx
     have e2:(if XI n nd.st ((oL lv n og B).T i).k ((oL lv n og B).T i).g=aj then ae (JI n nd.st ((oL lv n og B).T i).k ((oL lv n og B).T i).g) else aq)=ae s:=e2;split at e2
     ·rename_i hok
      cases e2;unfold XI V8 at hok;cases hp:xM n nd.st 0 (lst Dd ((oL lv n og B).T i).k ((oL lv n og B).T i).g) with
      |inl q=>simp_all |inr g'=>
       obtain ⟨d',h'⟩:=CG.play _ hd hp;have e:JI n nd.st ((oL lv n og B).T i).k ((oL lv n og B).T i).g=g':=by unfold JI V9;rw[hp]
       refine ⟨d',?_⟩;show CG n (yA og) _ (JI n nd.st ((oL lv n og B).T i).k ((oL lv n og B).T i).g) d';rw[e];exact h'.up (by rw[vK];omega)
     ·cases e2
    ·cases hx
   ·split at hx
    ·obtain rfl:x=_:=by simpa using hx
     exact ⟨d,hd.up (by omega)⟩
    ·cases hx
  ·cases hx
 ·obtain ⟨hlt,d,hd⟩:=hq
  have h12:=aoG (lv:=lv) P nd;refine ⟨by omega,rfl,jk _,?_,fun i _=>jk _,fun i hi=>?_,fun i hi _=>?_⟩
  ·have h1:nd.placed<2^62:=Nat.lt_of_lt_of_le hlt (Nat.pow_le_pow_right (by decide) (by show (oL lv n og B).N<=62;omega))
   omega
  ·show (BP lv (nth (tC lv B.n B.T) i).bg 0 (tC lv B.n B.T) 0:Nat)<2^(tC lv B.n B.T).length
   simp_all [acO,jj]
  ·obtain ⟨t1,t2⟩:=al1 P hi
   unfold plN;rw[t1,decide_eq_true (by omega:((oL lv n og B).T i).k<=100000)];have o8:=P.o;exact @decide_eq_true _ (aB _) (CG.alZ (n:=n) (by omega) _ hd (by rw[vK];omega))
 ·obtain ⟨hlt,d,hd⟩:=hq
  have h12:=aoG (lv:=lv) P nd;have o8:=P.o;have e1:stB n nd.st=aj:=hd.isB;have e2:keysB n (sJ n nd.st)=aj:=by
   unfold keysB;rw[al,be];refine ⟨decide_eq_true (by omega),fun j hj=>?_⟩;rw[hd.eqF j (bh.1 hj)];exact alW (by omega) (hd.inv j (bh.1 hj))
  show ((bA 4 4||bA n 0)&&(stB n nd.st&&keysB n (sJ n nd.st)))=aj;simp_all
theorem TA{n:Nat}{d e:Nat->pO}(h:∀j,j<n->d j=e j):Lu n d=Lu n e:=by
 grind [Lu,dD]
theorem Ro:∀x y,Xc lv n og B x->Xc lv n og B y->qm n x=qm n y->x=y:=fun x y ⟨_,d,hd⟩ ⟨_,e,he⟩ h=>by
 unfold qm at h;rw[Prod.mk.injEq] at h;obtain ⟨h1,h2⟩:=h;have h1:=dR h1;have h2:Lu n (sJ n x.st)=Lu n (sJ n y.st):=h2;rw[TA hd.eqF,TA he.eqF] at h2;have hk:∀j,j<n->(d j).kind=(e j).kind:=fun j hj=>by
  rw[hd.kind j hj (newT (mJ og) j) rfl,he.kind j hj (newT (mJ og) j) rfl]
 have h3:=ac4 hd.inv he.inv hk h2;obtain ⟨p,s⟩:=x;obtain ⟨p',s'⟩:=y;obtain rfl:p=p':=h1;have:s=s':=by
  funext j;by_cases hj:j<n
  ·have a:=hd.row j hj
   have b:=he.row j hj;simp_all
  ·have a:=hd.out j (by omega)
   have b:=he.out j (by omega);simp_all
 rw[this]
end
open Go Go.Sx Go.Proofs
open Go.oD (Au uU dfn wU takeB Af Nz NC takeN FP wS vX BG FN Ij aak WW oZ Nv)
open Go.mP (Nw)
theorem ac7{p:Nat->cW}:∀r k (σ σ':Au),takeN p σ k r=.inl σ'->σ.OK->σ.many=k->(∀j,k<=j->j<k+r->oZ (p j)=aj)->σ'.OK/\σ'.many=k+r
 |0,k,σ,σ',h,ho,hm,hv=>by
  have h:(Sum.inl σ:Au ⊕ (Nat×Nat))=.inl σ':=h;cases h;exact ⟨ho,by omega⟩
 |r+1,k,σ,σ',h,ho,hm,hv=>by
  unfold takeN at h;cases hf:(σ.feed (p k)).1 with
  |some e=>rw[hf] at h;cases h |none=>
   rw[hf] at h;have:=ac7 r (k+1) _ σ' h (ho.feed (hv k (by omega) (by omega))) (by rw[Nv hf];omega) (fun j h1 h2=>hv j (by omega) (by omega));exact ⟨this.1,by rw[this.2];omega⟩
theorem al2(l:List Go.oD.De):∀k,okB Dd k (Go.oD.mF (Go.oD.nth l))=aj
 |0=>rfl |k+1=>by
  show (okB Dd k _&&_)=aj;rw[al2 l k];rfl
theorem aqR{g:Nat->List Sh}{j:Nat}(h:g j=iu (aP (α:=cp) g j)):g j=Row.put (mJ (α:=Oj) g j)/\(mJ (α:=Oj) g j).kind=(aP (α:=cp) g j).kind/\(mJ (α:=Oj) g j).init=(aP (α:=cp) g j).init:=by
 have e:mJ (α:=Oj) g j=⟨(aP (α:=cp) g j).kind,(aP (α:=cp) g j).init⟩:=by
  have:mJ (α:=Oj) g j=(Row.get (α:=Oj) (iu (aP (α:=cp) g j))).getD Row.zX:=by
   unfold mJ;rw[<-h]
  rw[this];rfl
 rw[e];exact ⟨h,rfl,rfl⟩
theorem al3{n m:Nat}{g h:Nat->List Sh}(P:Ak n g m h)(hok:(nJ n g m h).okb=aj):aak n m (aP g) (aP h)/\takeB m (aP h)=aj:=by
 have hok:(!wS n m&&(vX n m g h&&takeB m (aP h)))=aj:=hok;rw[al,al,br] at hok;exact ⟨WW hok.1 hok.2.1 fun k hk=>be.1 P.r k (bh.2 hk),hok.2.2⟩
theorem agA{n m:Nat}{g h:Nat->List Sh}(P:Ak n g m h)(hok:(nJ n g m h).okb=aj):n<=8/\∀j,j<n->g j=Row.put (mJ (α:=Oj) g j)/\uw (mJ (α:=Oj) g j).kind (mJ (α:=Oj) g j).init=ag:=by
 have hok:(!wS n m&&(vX n m g h&&takeB m (aP h)))=aj:=hok;rw[al,al,br] at hok;have hb:¬(8<n\/400<m):=by
  have:=hok.1;unfold Go.oD.wS at this;simpa using this
 refine ⟨by omega,fun j hj=>?_⟩;obtain ⟨e1,e2,e3⟩:=aqR (Go.oD.BD P.o j hj);refine ⟨e1,?_⟩;have al4:qg (mJ (α:=Oj) g j).kind=aj:=yh P.k j hj;rw[e2] at al4;rw[e2,e3];have hg:=hok.2.1;unfold Go.oD.vX Go.oD.Lp at hg;cases hs:Go.oD.xO (fun k=>ko (aP (α:=cp) g k)) 0 n with
 |some x=>rw[hs] at hg;cases hg |none=>
  have hn:=Go.oD.Ip hs j (bZ _) (by omega);unfold ko at hn;cases ho:kD (aP (α:=cp) g j).kind (aP (α:=cp) g j).init with
  |false=>rw[ho] at hn;cases hn |true=>
   unfold kD Go.oD.TN at ho;unfold uw;generalize (aP (α:=cp) g j).kind=a at ho al4 ⊢;have hr:=of_decide_eq_true al4;have hidx:lx a=(if (0:Int)>a then 0 else a) - 1:=by
    unfold lx;exact pI (by split<;>omega) (by split<;>omega)
   rw[hidx] at ho;generalize (aP (α:=cp) g j).init=b at ho ⊢;simp only[al,br,decide_eq_true_eq,decide_eq_false_iff_not,eT,beq_iff_eq] at ho;simp only[it,iS,al,decide_eq_true_eq,decide_eq_false_iff_not,Bool.and_eq_false_imp,br];split at ho<;>omega
theorem ae7{n m:Nat}{g h:Nat->List Sh}(P:Ak n g m h)(hok:(nJ n g m h).okb=aj)(hf:(nJ n g m h).n<=12):TbP n g (nJ n g m h):=by
 obtain ⟨o1,o2⟩:=agA P hok;refine ⟨hf,fun i hi=>?_,o1,fun j hj=>(o2 j hj).2⟩;obtain ⟨G,ht⟩:=al3 P hok;have hi:i<(Af m (aP (α:=cW) h)).rs.length:=hi;show okB Dd (uU (wU (Af m (aP (α:=cW) h)) i)) (dfn (wU (Af m (aP (α:=cW) h)) i))=aj/\uU (wU (Af m (aP (α:=cW) h)) i)<=400;refine ⟨al2 _ _,?_⟩;unfold Go.oD.takeB Go.oD.FP at ht;unfold Go.oD.Af Go.oD.FP at hi ⊢;cases hs:takeN (aP (α:=cW) h) dC 0 m with
 |inr q=>rw[hs] at ht;cases ht |inl σ=>
  rw[hs] at hi;obtain ⟨q1,q2⟩:=ac7 m 0 dC σ hs lU rfl (fun j _ hj=>G.valid j (by omega));have:=q1.dl i _ (Go.oD.Ny hi);have:=G.small.2;show (wU σ i).mO.length<=400;omega
theorem aqS{n m:Nat}{g h:Nat->List Sh}(P:Ak n g m h)(hok:(nJ n g m h).okb=aj):nwB n g=aj:=by
 obtain ⟨o1,o2⟩:=agA P hok;unfold nwB JA;rw[Ph (o:=mJ g) fun j hj=>(o2 j hj).1,P.k,ab4 fun j hj=>(o2 j hj).2,decide_eq_false (by omega:¬8<n)];rfl
open Go Go.Sx Go.Proofs Go.Gm Go.Bf
noncomputable def qZ(s:Sh)(lv:Int):zl:=match s with
 | .agg [.sl 2 n g,.sl 8 m h]=>oL lv n g (nJ n g m h) |_=>⟨ag,ag,0,0,0,0,fun _=>default,fun _=>0,0,fun _=>[]⟩
noncomputable def hsB(s:Sh)(lv:Int):Bool:=@decide (∃n g m h,s=hsS n g m h/\Ak n g m h/\1<=lv/\lv<=3) (aB _)
def wu(mo:Int):Bool:=decide (1<=mo)&&decide (mo<=65536)
noncomputable def rsP(s:Sh)(lv mo:Int):Option (List (Nd SG)):=uV (Gb (qZ s lv)) (qm (qZ s lv).k0) (qZ s lv).g0 mo.toNat
noncomputable def rsL(s:Sh)(lv mo:Int):List (Nd SG):=(rsP s lv mo).getD []
noncomputable def J3(s:Sh)(lv mo:Int):Bool:=wu mo&&((qZ s lv).okb&&(rsP s lv mo).isSome)
noncomputable def zK(s:Sh)(lv mo:Int):Bool:=JK (Gb (qZ s lv)) (qm (qZ s lv).k0) (qZ s lv).g0 (rsL s lv mo)
noncomputable def rtL(s:Sh)(lv mo:Int):List Ie:=(Dj (Gb (qZ s lv)) (qm (qZ s lv).k0) (qZ s lv).g0 (rsL s lv mo)).map Aq
noncomputable def ND(s:Sh)(lv mo:Int):Nat:=(rtL s lv mo).length
noncomputable def NG(s:Sh)(lv mo:Int):Nat->Ie:=nth (rtL s lv mo)
noncomputable def Es(s:Sh)(lv mo:Int):Int:=((rsL s lv mo).length:Nat)
noncomputable def PW(s:Sh)(lv mo:Int):Bool:=wu mo&&(!(qZ s lv).okb&&(qZ s lv).xC)
noncomputable def rpI(s:Sh)(lv mo:Int):Int:=(qZ s lv).pos
noncomputable def Eu(s:Sh)(lv mo:Int):Nat:=if wu mo=aj then (if (qZ s lv).okb=aj then 0 else (qZ s lv).e) else 4
end Go.Pl
namespace Go.Proofs
open Go Go.Sx Go.Pl Go.Gm Go.Bf
noncomputable def D15:List Sh->Tree Sh
 |[s,t,u]=>match nR t,nR u with
  |some lv,ae mo=>.need (hsB s lv) (.node (J3 s lv mo) (.leaf (.mV [.agg [.b (zK s lv mo),.sl 2 (ND s lv mo) (mF (NG s lv mo)),.i .i64 (Es s lv mo)],.v .nilIface]))
   (.node (PW s lv mo) (.leaf (.mV [.agg [.b ag,.sl 2 0 (fun _=>[]),.i .i64 0],.pV 109 (.pt [.i .i64 (rpI s lv mo),.er (Eu s lv mo) 329])]))
    (.leaf (.mV [.agg [.b ag,.sl 2 0 (fun _=>[]),.i .i64 0],.er (Eu s lv mo) 329]))))
  |_,_=>.fail
 |_=>.fail
noncomputable def D39:List Sh->Tree Sh
 |[.v (.chan aq),s,t,u]=>D15 [s,t,u] |_=>.fail
theorem yC{P:Program}{C:Ctx}(hC:oh P C){g:Nat}{fn:Func}(hfn:C.fns.get g=ae fn)(hb:fn.body.isSome=aj){H:Mem}{w:World}{qV:List Sh}{args:List Value}{φ:Sh->Prop}{L:Nat}(hon:H.on w)(hg:qh C.gls H)(hr:qQ H qV args)
  (hgo:nX P C (K0 H w) g [.code []] (mM fn.ntmps qV L) [] emp (up φ)):Calls P g args.toArray w fun e w'=>∃v s H',e=.returned v/\φ s/\qR H w s v H' w':=by
 refine (ab2 hC hfn hb hon hg hr hgo).mono fun e w' ⟨v,s,H',he,⟨s',hw,hs⟩,r⟩=>?_;obtain ⟨H2,r2⟩:=r.wk hw;grind
theorem al5{c:Int}{e e':Sh}(he:Wk e e'):Wk (.mV [.agg [.b ag,.sl 0 0 fun _=>[],.i .i64 c],e]) (.mV [.agg [.b ag,.sl 2 0 (fun _=>[]),.i .i64 c],e']):=
 ⟨⟨.inl rfl,.inl ⟨rfl,rfl⟩,rfl,trivial⟩,he,trivial⟩
theorem O39:nG ah (nY W7) 39 D39:=by
 intro H w nV args φ hon hg hr hφ;unfold D39 at hφ;split at hφ
 ·rename_i s t u
  unfold D15 at hφ;dsimp only at hφ;split at hφ
  ·rename_i lv mo e1 e2
   obtain ⟨q1,q2,q3⟩:=hφ;obtain ⟨n,g,m,h,rfl,P,l1,l3⟩:=@of_decide_eq_true _ (aB _) q1;have O:=yT (XK P) l1 l3 (aqS P);have hBe:qZ (hsS n g m h) lv=oL lv n g (nJ n g m h):=rfl;obtain ⟨B,hB⟩:∃B,oL lv n g (nJ n g m h)=B:=⟨_,rfl⟩;have al6:nG ah (nY W7) 40 (Wu (hsS n g m h) lv B):=by simp_all
   match args,hr with
   |[a0,a1,a2,a3],⟨r0,r1,r2,r3,_⟩=>
   refine yC (C:=C7 mD W7 (tK (hsS n g m h) lv B) ny) (aS _ _) (fn:=jg) (qV:=[.v (.chan aq),hsS n g m h,.i .i64 lv,.i .i64 mo]) (L:=L0) (by kernel_rfl) (by kernel_rfl) hon hg ⟨r0,r1,qW e1 r2,qW e2 r3,trivial⟩ ?_;have hn:jg.ntmps=111:=by kernel_rfl
   have hbg:qZ (hsS n g m h) lv=B:=hBe.trans hB;have c0 {P:Prop} (q:mD.lt lv (ab 1)=aj):P:=by grind [mQ]
   have c1 {P:Prop} (q:mD.lt (ab 3) lv=aj):P:=by grind [mQ]
   have bad {k:Nat} (hk:J3 (hsS n g m h) lv mo=ag) (ha:PW (hsS n g m h) lv mo=ag) (he:Eu (hsS n g m h) lv mo=k):up φ (.mV [.agg [.b ag,.sl 0 0 fun _=>[],.i .i64 (ab 0)],.er k 329]):=by
    have q:=(q3 hk).2 ha;rw[he] at q;exact oq (al5 rfl) q
   have badM (hm:wu mo=ag):up φ (.mV [.agg [.b ag,.sl 0 0 fun _=>[],.i .i64 (ab 0)],.er 4 329]):=
    bad (by simp_all [J3]) (by simp_all [PW]) (by simp_all [Eu])
   have moT (h1:mD.lt mo (ab 1)=ag) (h2:mD.lt (ab 65536) mo=ag):1<=mo/\mo<=65536:=by
    simp_all [mQ]
   have aoH (q:1<=mo/\mo<=65536):wu mo=aj:=by simp_all [wu,decide_eq_true]
   have Pq (h4:B.okb=aj):FH B (Xc lv n g (nJ n g m h))/\∀x y,Xc lv n g (nJ n g m h) x->Xc lv n g (nJ n g m h) y->qm B.k0 x=qm B.k0 y->x=y:=by
    rw[<-hB] at h4 ⊢;have h4:((nJ n g m h).okb&&decide ((nJ n g m h).n<=12))=aj:=h4;rw[al,decide_eq_true_eq] at h4;have T:=ae7 P h4.1 h4.2;exact ⟨KP T,Ro⟩
   refine uz (aS _ _) (zo al6 _) (hold:=oG) (m:=300) (n:=400) (ts:=[⟨39,XJ,LA B (mo.toNat:Nat) (CJ (qm B.k0 ⟨0,B.g0⟩) (ae (.int .i64 (ab 0))) fun _=>aq) [(⟨0,B.g0⟩:Nd SG)].length (nth ([(⟨0,B.g0⟩:Nd SG)].map (FI B.k0))) (0:Nat) 1 (fun _=>ndQ B.k0 ⟨0,B.g0⟩) [(⟨0,B.g0⟩:Nd SG)].length (nth ([(⟨0,B.g0⟩:Nd SG)].map (zn B.k0))),[]⟩]) ?_;rw[hn];refine aeE mD W7 B lv mo n m g h _ _ _ _ _ _ _ _ _ rfl rfl rfl rfl rfl rfl rfl rfl (fun _ _ _ _=>@decide_eq_true _ (aB _) ⟨rfl,rfl⟩) (fun _ _ _ _ h4=>(Pq h4).1.ke _ (Pq h4).1.start)
    (fun q=>c0 q) (fun _ q=>c1 q) (fun _ _ q=>badM ?_) (fun _ _ _ q=>badM ?_) (fun _ _ _ _ _ q=>by cases q) (fun _ _ h2 h3 _ _ q=>?_) (fun _ _ h2 h3 h4 _ _=>?_) (fun _ _ h2 h3 h4 h7=>?_) (fun _ _ h2 h3 h4 h7=>?_)
   ·simp_all [mQ,wu,decide_eq_false]
   ·simp_all [mQ,wu,decide_eq_false,Bool.and_false]
   ·grind [nC,zH]
   ·have hm:=moT h2 h3
    obtain ⟨hg1,hg2⟩:=Pq h4;have hmo:((mo.toNat:Nat):Int)=mo:=Int.toNat_of_nonneg (by omega);have hmax:mD.max mo (ab 0)=((mo.toNat:Nat):Int):=by
     grind [zH]
    refine ⟨⟨rfl,rfl,rfl,rfl,rfl,rfl,hmax,rfl,rfl,fun j hj=>?_,rfl,fun j hj=>?_,rfl,fun j hj=>?_,trivial⟩,_,rfl,?_⟩
    ·obtain rfl:j=0:=by omega
     rfl
    ·obtain rfl:j=0:=by omega
     rfl
    ·obtain rfl:j=0:=by omega
     rfl
    have hm1:1<=mo.toNat:=by omega
    refine loopA al6 hg1 (m:=mo.toNat) (by omega) (fun o hp=>?_) (mo.toNat+1) 0 [⟨0,B.g0⟩] _ 0 1 _ (by omega) (fun x hx=>?_) ⟨by simp,by simp,fun j x hx=>?_⟩ (by omega) (by simp;omega) (fun k=>?_) (fun r hr=>hr) (fun hr=>?_)
    ·
     have hst:eW B.g0∈o:=YE hp;have hnx:=ahv (Q:=Xc lv n g (nJ n g m h)) hm1 hp hg1.step hg2 hg1.start;have hg':FH B (fun nd=>Xc lv n g (nJ n g m h) nd/\nd∈o):=⟨⟨hg1.start,hst⟩,fun nd hq t ht=>⟨hg1.step nd hq.1 t ht,hnx nd hq.2 t ht⟩,fun nd hq=>hg1.tu nd hq.1,fun nd hq=>hg1.ke nd hq.1⟩;have hld:=agd (Q:=Xc lv n g (nJ n g m h)) hm1 hp hg1.step hg2 hg1.start;have hlen:=(Nh hm1 hp).2;have hall:∀x∈o,Xc lv n g (nJ n g m h) x:=Gs hg1.step hp (fun x hx=>by
      obtain rfl:x=⟨0,B.g0⟩:=by grind [eW]
      exact hg1.start)
     have hP:rsP (hsS n g m h) lv mo=ae o:=by grind [rsP]
     have hL:rsL (hsS n g m h) lv mo=o:=by grind [rsL]
     have hk:J3 (hsS n g m h) lv mo=aj:=by grind [J3]
     have hφ:φ (.mV [.agg [.b (zK (hsS n g m h) lv mo),.sl 2 (ND (hsS n g m h) lv mo) (mF (NG (hsS n g m h) lv mo)),.i .i64 (Es (hsS n g m h) lv mo)],.v .nilIface]):=q2 hk;have ey:zK (hsS n g m h) lv mo=JK (Gb B) (qm B.k0) B.g0 o:=by grind [zK]
     have et:rtL (hsS n g m h) lv mo=(Dj (Gb B) (qm B.k0) B.g0 o).map Aq:=by grind [rtL]
     have ec:Es (hsS n g m h) lv mo=((o.length:Nat):Int):=by grind [Es]
     unfold ND NG at hφ;rw[ey,et,ec] at hφ;have es:mD.sub .i64 (mD.nH o.length) (ab 1)=((o.length:Nat):Int) - 1:=by
      show aA.wrap (((o.length:Nat):Int) - 1)=_;grind [pI]
     rw[es];refine aky al6 hg' o (fun x hx=>⟨hall x hx,hx⟩) (by omega) (fun nd hq hl hf=>?_) (fun hy=>?_) (fun hy=>?_) o.length (fun _=>aq) (aV _) (fun k=>?_)
     ·obtain ⟨t,ht,hte⟩:=aeA ((hld nd hq.2).1 hl) hf
      exact ⟨t,ht,(hld t.2 (hnx nd hq.2 _ (bN.2 ⟨t,ht,rfl⟩))).2 hte⟩
     ·rw[hy] at hφ
      exact hφ
     ·have e0:Dj (Gb B) (qm B.k0) B.g0 o=[]:=if_neg (by rw[hy];simp)
      rw[hy,e0] at hφ;exact hφ
     ·rw[List.drop_length];rfl
    ·obtain rfl:x=⟨0,B.g0⟩:=by grind
     exact hg1.start
    ·grind
    ·have:=getM (k:=qm B.k0 ⟨0,B.g0⟩) (o:=[]) (k0:=B.k0) (v:=.int .i64 (ab 0)) (nd:=⟨0,B.g0⟩) (M:=fun _=>aq) (fun _=>rfl) k
     exact this
    ·have hP:rsP (hsS n g m h) lv mo=aq:=by unfold rsP;rw[hbg];exact hr
     have hk:J3 (hsS n g m h) lv mo=ag:=by grind [J3]
     have ha:PW (hsS n g m h) lv mo=ag:=by grind [PW]
     have he:Eu (hsS n g m h) lv mo=0:=by grind [Eu]
     have q:=(q3 hk).2 ha;rw[he] at q;exact q
   ·have hm:=moT h2 h3
    have hk:J3 (hsS n g m h) lv mo=ag:=by simp_all [J3]
    have ha:PW (hsS n g m h) lv mo=aj:=by simp_all [PW]
    have he:Eu (hsS n g m h) lv mo=B.e:=by unfold Eu;rw[aoH hm,hbg,if_pos rfl,if_neg (by rw[h4];simp)]
    have hp:rpI (hsS n g m h) lv mo=B.pos:=by grind [rpI]
    have q:=(q3 hk).1 ha;rw[he,hp] at q;exact oq (al5 rfl) q
   ·have hm:=moT h2 h3
    refine bad ?_ ?_ ?_
    ·simp_all [J3]
    ·simp_all [PW]
    ·unfold Eu;rw[aoH hm,hbg,if_pos rfl,if_neg (by rw[h4];simp)]
  ·exact hφ.elim
 ·exact hφ.elim
end Go.Proofs
namespace Go.Pl
open Go Go.Sx Go.Proofs Go.Gm
def s1B(a b:Ie):Bool:=decide (a=b)
noncomputable def NH(s:Sh):JO:=match s with
 | .agg [.sl 2 n g,.sl 8 m h]=>nJ n g m h |_=>⟨ag,ag,0,0,0,fun _=>default⟩
noncomputable def hpB(s:Sh):Bool:=@decide (∃n g m h,s=hsS n g m h/\Ak n g m h) (aB _)
noncomputable def tkB(s:Sh):Bool:=hpB s&&(NH s).okb
noncomputable def tnN(s:Sh):Nat:=(NH s).n
noncomputable def ttT(s:Sh):Nat->rU:=(NH s).T
end Go.Pl
namespace Go.Proofs
open Go Go.Sx Go.Pl
noncomputable def PX:Nat->Option (List Sh->Tree Sh)
 |39=>ae D39 |_=>aq
noncomputable def D18:List Sh->Tree Sh
 |[.agg a,.agg b]=>match Row.get (α:=Ie) a,Row.get (α:=Ie) b with
  |some x,ae y=>.leaf (.b (s1B x y)) |_,_=>.fail
 |_=>.fail
noncomputable def Dl:Nat->Option (List Sh->Tree Sh)
 |18=>ae D18 |_=>aq
noncomputable def al8:List Sh->Tree Sh
 |[s]=>.need (tkB s) (.leaf (.mV [.sl 7 (tnN s) (mF (ttT s)),.v .nilIface])) |_=>.fail
theorem ae8(A:Prim)(W:Wd)(s:Sh)(n m:Nat)(g h:Nat->List Sh)(lv mo:Int){ψ:rQ->Prop}{c0 c1:Bool}(e0:J3 (aN [ao 2 n g,ao 8 m h]) lv mo=c0)(e1:PW (aN [ao 2 n g,ao 8 m h]) lv mo=c1)(h1:(hsB (aN [ao 2 n g,ao 8 m h]) lv)=aj)(y1:c0=aj->ψ (ay (aQ [aN [Sh.b (zK (aN [ao 2 n g,ao 8 m h]) lv mo),ao 2 (ND (aN [ao 2 n g,ao 8 m h]) lv mo) (mF (NG (aN [ao 2 n g,ao 8 m h]) lv mo)),az .i64 (Es (aN [ao 2 n g,ao 8 m h]) lv mo)],Sh.v Value.nilIface])))(y2:c0=ag->c1=aj->ψ (ay (aQ [aN [Sh.b ag,ao 2 0 fun _=>[],az .i64 (ab 0)],Sh.pV 109 (Sh.pt [az .i64 (rpI (aN [ao 2 n g,ao 8 m h]) lv mo),Sh.er (Eu (aN [ao 2 n g,ao 8 m h]) lv mo) 329])])))(y3:c0=ag->c1=ag->ψ (ay (aQ [aN [Sh.b ag,ao 2 0 fun _=>[],az .i64 (ab 0)],Sh.er (Eu (aN [ao 2 n g,ao 8 m h]) lv mo) 329]))):qA ψ (nZ (C7 A W PX ny) oG 300 400 15 [.code []] (mM 14 [.agg [.sl 2 n g,.sl 8 m h],.i .i64 lv,.i .i64 mo] L0) [] []):=by
 subst e0 e1;exact um (an h1 (an y1 (fun q0=>an (y2 q0) (y3 q0)))) (by kernel_rfl)
end Go.Proofs
namespace Go.Pl
open Go Go.Sx Go.Proofs Go.Gm
noncomputable def gaB(s:Sh)(lv mo:Int):Bool:=hsB s lv&&(wu mo&&(qZ s lv).okb)
noncomputable def geB(k:Nat)(s:Sh)(lv mo:Int):Bool:=hsB s lv&&(wu mo&&(!(qZ s lv).okb&&(if k=0 then (qZ s lv).xC else !(qZ s lv).xC&&(qZ s lv).e==k)))
noncomputable def gmB(s:Sh)(lv mo:Int):Bool:=hsB s lv && !wu mo
noncomputable def Ag(s:Sh)(lv mo:Int):Bool:=(rsP s lv mo).isSome
end Go.Pl
namespace Go.Proofs
open Go Go.Sx Go.Pl
noncomputable def agB:List Sh->Tree Sh
 |[s,t,u]=>match nR t,nR u with
  |some lv,ae mo=>.need (gaB s lv mo) (.node (Ag s lv mo) (.leaf (.mV [.agg [.b (zK s lv mo),.sl 2 (ND s lv mo) (mF (NG s lv mo)),.i .i64 (Es s lv mo)],.v .nilIface]))
    (.leaf (.mV [.agg [.b ag,.sl 2 0 (fun _=>[]),.i .i64 0],.er 0 329])))
  |_,_=>.fail
 |_=>.fail
noncomputable def al9(k:Nat):List Sh->Tree Sh
 |[s,t,u]=>match nR t,nR u with
  |some lv,ae mo=>match k with
   |0=>.need (geB 0 s lv mo) (.leaf (.mV [.agg [.b ag,.sl 2 0 (fun _=>[]),.i .i64 0],.pV 109 (.pt [.i .i64 (rpI s lv mo),.er (Eu s lv mo) 329])])) |1=>.need (geB 1 s lv mo) (.leaf (.mV [.agg [.b ag,.sl 2 0 (fun _=>[]),.i .i64 0],.er 1 329])) |6=>.need (geB 6 s lv mo) (.leaf (.mV [.agg [.b ag,.sl 2 0 (fun _=>[]),.i .i64 0],.er 6 329])) |4=>.need (gmB s lv mo) (.leaf (.mV [.agg [.b ag,.sl 2 0 (fun _=>[]),.i .i64 0],.er 4 329])) |_=>.fail
  |_,_=>.fail
 |_=>.fail
theorem aqV(stop:Nat->List Nat->Bool):oH ah (C7 mD W7 PX stop):=C7.Gh (fun g F h=>by
 grind [PX,O39]) fun g h=>by
 unfold PX at h;split at h;all_goals first|(cases h;done) |kernel_rfl
theorem aap{φ:Sh->Prop}{y:Bool}{k:Nat}{f:Nat->List Sh}{c:Int}{e:Sh}(he:Wk e e)(h:φ (.mV [.agg [.b y,.sl 2 k f,.i .i64 c],e])):up φ (.mV [.agg [.b y,.sl 2 k f,.i .i64 c],e]):=
 oq (s':=.mV [.agg [.b y,.sl 2 k f,.i .i64 c],e]) ⟨⟨.inl rfl,.inr ⟨rfl,rfl,fun _ _=>rfl⟩,rfl,trivial⟩,he,trivial⟩ h
theorem O15:nG ah (nY W7) 15 D15:=by
 refine vM (C:=C7 mD W7 PX ny) (aS _ _) (fn:=Tryz.f15) (by kernel_rfl) (by kernel_rfl) fun H w nV args φ hrep h=>?_
 have hn:Tryz.f15.ntmps=14:=by kernel_rfl
 unfold D15 at h;split at h
 ·rename_i s t u
  split at h
  ·rename_i lv mo e1 e2
   obtain ⟨q1,q2,q3⟩:=h;obtain ⟨n,g,m,h',rfl,P,l1,l3⟩:=@of_decide_eq_true _ (aB _) q1;match args,hrep with
   |[v,u1,u2],⟨rv,ru,ru2,_⟩=>
    refine ⟨[hsS n g m h',.i .i64 lv,.i .i64 mo],⟨rv,qW e1 ru,qW e2 ru2,trivial⟩,L0,?_⟩;refine uz (aS _ _) (aqV _) (hold:=oG) (m:=300) (n:=400) (ts:=[]) ?_;rw[hn];exact ae8 mD W7 (hsS n g m h') n m g h' lv mo rfl rfl q1 (fun c0=>aap rfl (q2 c0)) (fun c0 c1=>aap rfl ((q3 c0).1 c1)) (fun c0 c1=>aap rfl ((q3 c0).2 c1))
  ·exact h.elim
 ·exact h.elim
theorem aoI:nG ah (nY W7) 15 agB:=O15.mono fun H nV args φ hr h=>by
 unfold agB at h;split at h
 ·split at h
  ·rename_i s t u x y lv mo e1 e2
   obtain ⟨q1,q2,q3⟩:=h;unfold gaB at q1;rw[al,al] at q1;obtain ⟨a1,a2,a3⟩:=q1;unfold D15;simp only[e1,e2];refine ⟨a1,fun c=>q2 ?_,fun c=>⟨fun c2=>?_,fun _=>?_⟩⟩
   ·unfold J3 at c
    rw[a2,a3] at c;exact c
   ·simp_all [PW]
   ·have e:Eu s lv mo=0:=by simp_all [Eu]
    rw[e];refine q3 ?_;unfold J3 at c;rw[a2,a3] at c;exact c
  ·exact h.elim
 ·exact h.elim
theorem as2(k:Nat):nG ah (nY W7) 15 (al9 k):=O15.mono fun H nV args φ hr h=>by
 unfold al9 at h;split at h
 ·split at h
  ·rename_i s t u x y lv mo e1 e2
   unfold D15;simp only[e1,e2];have key (k:Nat) (q1:geB k s lv mo=aj):hsB s lv=aj/\J3 s lv mo=ag/\wu mo=aj/\(qZ s lv).okb=ag/\(if k=0 then (qZ s lv).xC else !(qZ s lv).xC&&(qZ s lv).e==k)=aj:=by
    simp_all [geB,al,J3]
   have keyE (k:Nat) (hk:k≠0) (q1:geB k s lv mo=aj) (q2:φ (.mV [.agg [.b ag,.sl 2 0 (fun _=>[]),.i .i64 0],.er k 329])):bP φ (Tree.need (hsB s lv) (.node (J3 s lv mo) (.leaf (.mV [.agg [.b (zK s lv mo),.sl 2 (ND s lv mo) (mF (NG s lv mo)),.i .i64 (Es s lv mo)],.v .nilIface]))
     (.node (PW s lv mo) (.leaf (.mV [.agg [.b ag,.sl 2 0 (fun _=>[]),.i .i64 0],.pV 109 (.pt [.i .i64 (rpI s lv mo),.er (Eu s lv mo) 329])]))
      (.leaf (.mV [.agg [.b ag,.sl 2 0 (fun _=>[]),.i .i64 0],.er (Eu s lv mo) 329]))))):=by
    obtain ⟨a1,a2,a3,a4,a5⟩:=key k q1;rw[if_neg hk,al,br,beq_iff_eq] at a5;have e:Eu s lv mo=k:=by simp_all [Eu]
    refine ⟨a1,fun c=>(by simp_all),fun _=>⟨fun c=>?_,fun _=>?_⟩⟩
    ·simp_all [PW]
    ·rw[e];exact q2
   split at h
   ·obtain ⟨q1,q2⟩:=h
    obtain ⟨a1,a2,a3,a4,a5⟩:=key 0 q1;rw[if_pos rfl] at a5;refine ⟨a1,fun c=>(by simp_all),fun _=>⟨fun _=>q2,fun c=>?_⟩⟩;simp_all [PW]
   ·exact keyE 1 (by decide) h.1 h.2
   ·exact keyE 6 (by decide) h.1 h.2
   ·obtain ⟨q1,q2⟩:=h
    unfold gmB at q1;rw[al,br] at q1;obtain ⟨a1,a2⟩:=q1;(refine ⟨a1,fun c=>?_,fun _=>⟨fun c=>?_,fun _=>?_⟩⟩)<;>simp_all [J3,PW,Eu]
   ·exact h.elim
  ·exact h.elim
 ·exact h.elim
end Go.Proofs
namespace Go.Pl
open Go Go.Sx
end Go.Pl
namespace Go.Proofs
open Go Go.Sx Go.Pl
section
variable{H0:Mem}{w0:World}{φ:Sh->Prop}{n:Nat}{g h:Nat->Ie}
end
open Go Go.Sx Go.Pl
end Go.Proofs
namespace Go.Pl
open Go Go.Sx Go.Proofs Go.Gm Go.Bf
end Go.Pl
namespace Go.Proofs
open Go Go.Sx Go.Pl Go.Gm Go.Bf
section
variable{H0:Mem}{w0:World}{φ:Sh->Prop}{B:zl}{Q:Nd SG->Prop}{hs:Sh}{lv:Int}
end
end Go.Proofs
