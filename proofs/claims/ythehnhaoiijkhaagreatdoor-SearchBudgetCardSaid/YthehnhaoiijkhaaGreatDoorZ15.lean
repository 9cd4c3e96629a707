/- Own work. -/
import Derived.Test.YthehnhaoiijkhaaGreatDoorZ14
import Derived.KernelRfl
import Derived.ProofKit
import Derived.Deep.Slices
import Derived.Stop.LaidErr
import Derived.LaidMore
open Int (ofNat)
open Bool renaming true->aC,and_eq_true->aI,not_eq_true'->fM,false->ak,eq_iff_iff->vY
open Classical renaming propDecidable->bM
open Go.Addr renaming add->mZ
open Go.BinOp renaming rem->bU
open Go.DataW renaming trod->yY,trod_int->wo,trod_struct->tH
open Go.Gm renaming start->iK
open Go.IntKind renaming i64->aN
open Go.BF renaming Ev->je,zZ->dM,Oj->iI,Iu->xk,JB->pR,QA->wJ,abP->xq,idx->yG,SN->wK,Row->yH,okB->oC,lst->oQ
open Go.BF.Row renaming put->rW
open Go.Proofs.C7 renaming ok->dw,WI->lS
open Go.Proofs.Tryz renaming prog->aB,f39->uw,f19->rX,f16->mJ,f5->kS
open Go.Sx.Bj renaming sh->aQ,int->aj,nat->aJ,Lp->bC,bool->pz,all->dG
open Go.Sx.D8 renaming ret->aP,at_->bJ
open Go.Sx.It renaming code->bD,inBlock->dD
open Go.Sx.Sh renaming agg->bH,sl->aG,Ak->cZ,b->eF,i->aW,er->aZ
open Go.Value renaming nilIface->bI,int->iR,okWide->nZ
open Int renaming ofNat->ah,tmod_lt_of_pos->uG,toNat->vZ
open Int.ofNat renaming inj->kU
open List renaming all_eq_true->dO,mem_range->dP,mem_map->dK,getElem?_eq_some_iff->aU,map_congr_left->jO,length_map->dW,getElem?_eq_getElem->aV,map_append->iO,mem_of_find?_eq_some->qm,getElem?_map->gV,range->aX,length_range->lG,getElem?_range->mY,map_cons->jm,find?_cons->vX,mem_cons_self->cO,mem_cons_of_mem->dB,flatMap_def->lV,map_map->l9,map->mM,any_eq_true->pG,getD_eq_getElem?_getD->aY,mem_flatMap->kM,mem_append->bK,mem_singleton->tC
open Nat renaming zero_le->gQ,le_refl->dn,beq->fC,eq_of_beq_eq_true->fH,add_assoc->jS
open Option renaming some->ay,none->aK,isSome_iff_exists->dZ
open Option.some renaming inj->dh
open Prod.mk renaming inj->wL
namespace Go.Pl
open Go Go.Sx Go.Proofs
open Go.BF (Au Fj dfn GU takeB Kv Vj Vk takeN SN Iu F8 JJ Ny QB afh ab2 BP Vf)
open Go.Ae (Vg)
theorem ahE{p:Nat->je}:∀r k (σ σ':Au),takeN p σ k r=.inl σ'->σ.OK->σ.many=k->(∀j,k<=j->j<k+r->BP (p j)=aC)->σ'.OK/\σ'.many=k+r
 |0,k,σ,σ',h,ho,hm,hv=>by
  have h:(Sum.inl σ:Au ⊕ (Nat×Nat))=.inl σ':=h;cases h;exact ⟨ho,by omega⟩
 |r+1,k,σ,σ',h,ho,hm,hv=>by
  unfold takeN at h;cases hf:(σ.feed (p k)).1 with
  |some e=>rw[hf] at h;cases h |none=>
   rw[hf] at h;have:=ahE r (k+1) _ σ' h (ho.feed (hv k (by omega) (by omega))) (by rw[Vf hf];omega) (fun j h1 h2=>hv j (by omega) (by omega));exact ⟨this.1,by rw[this.2];omega⟩
theorem ap5(l:List Go.BF.De):∀k,okB Dd k (Go.BF.zX (Go.BF.nth l))=aC
 |0=>rfl |k+1=>by
  show (okB Dd k _&&_)=aC;rw[ap5 l k];rfl
theorem auO{g:Nat->List Sh}{j:Nat}(h:g j=rW (dM (α:=iI) g j)):g j=Row.put (zZ (α:=Oj) g j)/\(zZ (α:=Oj) g j).kind=(dM (α:=iI) g j).kind/\(zZ (α:=Oj) g j).init=(dM (α:=iI) g j).init:=by
 have e:zZ (α:=Oj) g j=⟨(dM (α:=iI) g j).kind,(dM (α:=iI) g j).init⟩:=by
  have:zZ (α:=Oj) g j=(Row.get (α:=Oj) (rW (dM (α:=iI) g j))).getD Row.Jm:=by
   unfold zZ;rw[<-h]
  rw[this];rfl
 rw[e];exact ⟨h,rfl,rfl⟩
theorem ap6{n m:Nat}{g h:Nat->List Sh}(P:Yr n g m h)(hok:(BI n g m h).okb=aC):afh n m (dM g) (dM h)/\takeB m (dM h)=aC:=by
 have hok:(!Iu n m&&(F8 n m g h&&takeB m (dM h)))=aC:=hok;rw[aI,aI,fM] at hok;exact ⟨ab2 hok.1 hok.2.1 fun k hk=>dO.1 P.r k (dP.2 hk),hok.2.2⟩
theorem akO{n m:Nat}{g h:Nat->List Sh}(P:Yr n g m h)(hok:(BI n g m h).okb=aC):n<=8/\∀j,j<n->g j=Row.put (zZ (α:=Oj) g j)/\EO (zZ (α:=Oj) g j).kind (zZ (α:=Oj) g j).init=ak:=by
 have hok:(!Iu n m&&(F8 n m g h&&takeB m (dM h)))=aC:=hok;rw[aI,aI,fM] at hok;have hb:¬(8<n\/400<m):=by
  have:=hok.1;unfold xk at this;simpa using this
 refine ⟨by omega,fun j hj=>?_⟩;obtain ⟨e1,e2,e3⟩:=auO (pR P.o j hj);refine ⟨e1,?_⟩;have ap7:CQ (zZ (α:=Oj) g j).kind=aC:=Ii P.k j hj;rw[e2] at ap7;rw[e2,e3];have hg:=hok.2.1;unfold Go.BF.F8 Go.BF.W9 at hg;cases hs:Go.BF.I9 (fun k=>wJ (dM (α:=iI) g k)) 0 n with
 |some x=>rw[hs] at hg;cases hg |none=>
  have hn:=Go.BF.Vl hs j (gQ _) (by omega);unfold wJ at hn;cases ho:xq (dM (α:=iI) g j).kind (dM (α:=iI) g j).init with
  |false=>rw[ho] at hn;cases hn |true=>
   unfold xq Go.BF.Yo at ho;unfold EO;generalize (dM (α:=iI) g j).kind=a at ho ap7 ⊢;have hr:=of_decide_eq_true ap7;have hidx:yG a=(if (0:Int)>a then 0 else a) - 1:=by
    unfold yG;exact BL (by split<;>omega) (by split<;>omega)
   rw[hidx] at ho;generalize (dM (α:=iI) g j).init=b at ho ⊢;simp only[aI,fM,decide_eq_true_eq,decide_eq_false_iff_not,Bool.or_eq_true,beq_iff_eq] at ho;simp only[Bool.or_eq_false_iff,Bool.not_eq_false',aI,decide_eq_true_eq,decide_eq_false_iff_not,Bool.and_eq_false_imp,fM];split at ho<;>omega
theorem afi{n m:Nat}{g h:Nat->List Sh}(P:Yr n g m h)(hok:(BI n g m h).okb=aC)(hf:(BI n g m h).n<=12):TbP n g (BI n g m h):=by
 obtain ⟨o1,o2⟩:=akO P hok;refine ⟨hf,fun i hi=>?_,o1,fun j hj=>(o2 j hj).2⟩;obtain ⟨G,ht⟩:=ap6 P hok;have hi:i<(Kv m (dM (α:=je) h)).rs.length:=hi;show okB Dd (Fj (GU (Kv m (dM (α:=je) h)) i)) (dfn (GU (Kv m (dM (α:=je) h)) i))=aC/\Fj (GU (Kv m (dM (α:=je) h)) i)<=400;refine ⟨ap5 _ _,?_⟩;unfold Go.BF.takeB wK at ht;unfold Go.BF.Kv wK at hi ⊢;cases hs:takeN (dM (α:=je) h) Au.nil 0 m with
 |inr q=>rw[hs] at ht;cases ht |inl σ=>
  rw[hs] at hi;obtain ⟨q1,q2⟩:=ahE m 0 Au.nil σ hs Au.OK.nil rfl (fun j _ hj=>G.valid j (by omega));have:=q1.dl i _ (Go.BF.Vh hi);have:=G.small.2;show (GU σ i).Ac.length<=400;omega
theorem ap8{n m:Nat}{g h:Nat->List Sh}(P:Yr n g m h)(hok:(BI n g m h).okb=aC):nwB n g=aC:=by
 obtain ⟨o1,o2⟩:=akO P hok;unfold nwB RU;rw[ZT (o:=zZ g) fun j hj=>(o2 j hj).1,P.k,agK fun j hj=>(o2 j hj).2,decide_eq_false (by omega:¬8<n)];rfl
open Go Go.Sx Go.Proofs Go.Gm Go.Bf
noncomputable def CZ(s:Sh)(lv:Int):Ht:=match s with
 | .agg [.sl 2 n g,.sl 8 m h]=>Bz lv n g (BI n g m h) |_=>⟨ak,ak,0,0,0,0,fun _=>default,fun _=>0,0,fun _=>[]⟩
noncomputable def hsB(s:Sh)(lv:Int):Bool:=@decide (∃n g m h,s=hsS n g m h/\Yr n g m h/\1<=lv/\lv<=3) (bM _)
def Pz(mo:Int):Bool:=decide (1<=mo)&&decide (mo<=65536)
noncomputable def Xg(s:Sh)(lv mo:Int):Option (List (Nd SG)):=DK (Gb (CZ s lv)) (CP (CZ s lv).k0) (CZ s lv).g0 mo.toNat
noncomputable def Xh(s:Sh)(lv mo:Int):List (Nd SG):=(Xg s lv mo).getD []
noncomputable def SQ(s:Sh)(lv mo:Int):Bool:=Pz mo&&((CZ s lv).okb&&(Xg s lv mo).isSome)
noncomputable def Ub(s:Sh)(lv mo:Int):Bool:=Sv (Gb (CZ s lv)) (CP (CZ s lv).k0) (CZ s lv).g0 (Xh s lv mo)
noncomputable def rtL(s:Sh)(lv mo:Int):List DL:=(IW (Gb (CZ s lv)) (CP (CZ s lv).k0) (CZ s lv).g0 (Xh s lv mo)).map D7
noncomputable def PD(s:Sh)(lv mo:Int):Nat:=(rtL s lv mo).length
noncomputable def SS(s:Sh)(lv mo:Int):Nat->DL:=nth (rtL s lv mo)
noncomputable def Ll(s:Sh)(lv mo:Int):Int:=((Xh s lv mo).length:Nat)
noncomputable def Xi(s:Sh)(lv mo:Int):Bool:=Pz mo&&(!(CZ s lv).okb&&(CZ s lv).JG)
noncomputable def rpI(s:Sh)(lv mo:Int):Int:=(CZ s lv).pos
noncomputable def PE(s:Sh)(lv mo:Int):Nat:=if Pz mo=aC then (if (CZ s lv).okb=aC then 0 else (CZ s lv).e) else 4
end Go.Pl
namespace Go.Proofs
open Go Go.Sx Go.Pl Go.Gm Go.Bf
noncomputable def D15:List Sh->Tree Sh
 |[s,t,u]=>match AY t,AY u with
  |some lv,ay mo=>.need (hsB s lv) (.node (SQ s lv mo) (.leaf (.Ak [.agg [.b (Ub s lv mo),.sl 2 (PD s lv mo) (zX (SS s lv mo)),.i .i64 (Ll s lv mo)],.v .nilIface]))
   (.node (Xi s lv mo) (.leaf (.Ak [.agg [.b ak,.sl 2 0 (fun _=>[]),.i .i64 0],.CS 109 (.pt [.i .i64 (rpI s lv mo),.er (PE s lv mo) 329])]))
    (.leaf (.Ak [.agg [.b ak,.sl 2 0 (fun _=>[]),.i .i64 0],.er (PE s lv mo) 329]))))
  |_,_=>.fail
 |_=>.fail
noncomputable def D39:List Sh->Tree Sh
 |[.v (.chan aK),s,t,u]=>D15 [s,t,u] |_=>.fail
theorem MK{P:Program}{C:Ctx}(hC:Ba P C){g:Nat}{fn:Func}(hfn:C.fns.get g=ay fn)(hb:fn.body.isSome=aC){H:Mem}{w:World}{DX:List Sh}{args:List Value}{φ:Sh->Prop}{L:Nat}(hon:H.on w)(hg:CU C.gls H)(hr:Dw H DX args)
  (hgo:Bd P C (K0 H w) g [.code []] (Aa fn.ntmps DX L) [] emp (up φ)):Calls P g args.toArray w fun e w'=>∃v s H',e=.returned v/\φ s/\Eu H w s v H' w':=by
 refine (agI hC hfn hb hon hg hr hgo).mono fun e w' ⟨v,s,H',he,⟨s',hw,hs⟩,r⟩=>?_;obtain ⟨H2,r2⟩:=r.wk hw;exact ⟨v,s',H2,he,hs,r2⟩
theorem ap9{c:Int}{e e':Sh}(he:Wk e e'):Wk (.Ak [.agg [.b ak,.sl 0 0 fun _=>[],.i .i64 c],e]) (.Ak [.agg [.b ak,.sl 2 0 (fun _=>[]),.i .i64 c],e']):=
 ⟨⟨.inl rfl,.inl ⟨rfl,rfl⟩,rfl,trivial⟩,he,trivial⟩
theorem O39:Ar aB (AZ W7) 39 D39:=by
 intro H w A8 args φ hon hg hr hφ;unfold D39 at hφ;split at hφ
 ·rename_i s t u
  unfold D15 at hφ;dsimp only at hφ;split at hφ
  ·rename_i lv mo e1 e2
   obtain ⟨q1,q2,q3⟩:=hφ;obtain ⟨n,g,m,h,rfl,P,l1,l3⟩:=@of_decide_eq_true _ (bM _) q1;have O:=Fa (O20 P) l1 l3 (ap8 P);have hBe:CZ (hsS n g m h) lv=Bz lv n g (BI n g m h):=rfl;obtain ⟨B,hB⟩:∃B,Bz lv n g (BI n g m h)=B:=⟨_,rfl⟩;have aqa:Ar aB (AZ W7) 40 (WU (hsS n g m h) lv B):=by rw[<-hB];exact O
   match args,hr with
   |[a0,a1,a2,a3],⟨r0,r1,r2,r3,_⟩=>
   refine MK (C:=C7 zW W7 (Dc (hsS n g m h) lv B) Ap) (dw _ _) (fn:=uw) (DX:=[.v (.chan aK),hsS n g m h,.i .i64 lv,.i .i64 mo]) (L:=L0) (by kernel_rfl) (by kernel_rfl) hon hg ⟨r0,r1,Ej e1 r2,Ej e2 r3,trivial⟩ ?_;have hn:uw.ntmps=111:=by kernel_rfl
   have hbg:CZ (hsS n g m h) lv=B:=hBe.trans hB;have c0 {P:Prop} (q:zW.lt lv (ah 1)=aC):P:=by simp[Ad] at q;omega
   have c1 {P:Prop} (q:zW.lt (ah 3) lv=aC):P:=by simp[Ad] at q;omega
   have bad {k:Nat} (hk:SQ (hsS n g m h) lv mo=ak) (ha:Xi (hsS n g m h) lv mo=ak) (he:PE (hsS n g m h) lv mo=k):up φ (.Ak [.agg [.b ak,.sl 0 0 fun _=>[],.i .i64 (ah 0)],.er k 329]):=by
    have q:=(q3 hk).2 ha;rw[he] at q;exact BH (ap9 rfl) q
   have badM (hm:Pz mo=ak):up φ (.Ak [.agg [.b ak,.sl 0 0 fun _=>[],.i .i64 (ah 0)],.er 4 329]):=
    bad (by unfold SQ;rw[hm];rfl) (by unfold Xi;rw[hm];rfl) (by unfold PE;rw[hm];rfl)
   have moT (h1:zW.lt mo (ah 1)=ak) (h2:zW.lt (ah 65536) mo=ak):1<=mo/\mo<=65536:=by
    simp[Ad] at h1 h2;omega
   have ahF (q:1<=mo/\mo<=65536):Pz mo=aC:=by unfold Pz;rw[decide_eq_true q.1,decide_eq_true q.2];rfl
   have WR (h4:B.okb=aC):Le B (QnP lv n g (BI n g m h))/\∀x y,QnP lv n g (BI n g m h) x->QnP lv n g (BI n g m h) y->CP B.k0 x=CP B.k0 y->x=y:=by
    rw[<-hB] at h4 ⊢;have h4:((BI n g m h).okb&&decide ((BI n g m h).n<=12))=aC:=h4;rw[aI,decide_eq_true_eq] at h4;have T:=afi P h4.1 h4.2;exact ⟨TM T,ad1⟩
   refine EJ (dw _ _) (FC aqa _) (hold:=Bh) (m:=300) (n:=400) (ts:=[⟨39,tdA,LA B (mo.toNat:Nat) (Ls (CP B.k0 ⟨0,B.g0⟩) (ay (.int .i64 (ah 0))) fun _=>aK) [(⟨0,B.g0⟩:Nd SG)].length (nth ([(⟨0,B.g0⟩:Nd SG)].map (OA B.k0))) (0:Nat) 1 (fun _=>ndQ B.k0 ⟨0,B.g0⟩) [(⟨0,B.g0⟩:Nd SG)].length (nth ([(⟨0,B.g0⟩:Nd SG)].map (I7 B.k0))),[]⟩]) ?_;rw[hn];refine aiZ zW W7 B lv mo n m g h _ _ _ _ _ _ _ _ _ rfl rfl rfl rfl rfl rfl rfl rfl (fun _ _ _ _=>@decide_eq_true _ (bM _) ⟨rfl,rfl⟩) (fun _ _ _ _ h4=>(WR h4).1.ke _ (WR h4).1.start)
    (fun q=>c0 q) (fun _ q=>c1 q) (fun _ _ q=>badM ?_) (fun _ _ _ q=>badM ?_) (fun _ _ _ _ _ q=>by cases q) (fun _ _ h2 h3 _ _ q=>?_) (fun _ _ h2 h3 h4 _ _=>?_) (fun _ _ h2 h3 h4 h7=>?_) (fun _ _ h2 h3 h4 h7=>?_)
   ·simp[Ad] at q
    unfold Pz;rw[decide_eq_false (by omega:¬1<=mo)];rfl
   ·simp[Ad] at q
    unfold Pz;rw[decide_eq_false (by omega:¬mo<=65536),Bool.and_false]
   ·have hm:=moT h2 h3
    exfalso;simp[Aq,MF] at q;have:=q (by omega);omega
   ·have hm:=moT h2 h3
    obtain ⟨hg1,hg2⟩:=WR h4;have hmo:((mo.toNat:Nat):Int)=mo:=Int.toNat_of_nonneg (by omega);have hmax:zW.max mo (ah 0)=((mo.toNat:Nat):Int):=by
     rw[MF,hmo];split
     ·rename_i q;have:(0:Int)>mo:=q;omega
     ·rfl
    refine ⟨⟨rfl,rfl,rfl,rfl,rfl,rfl,hmax,rfl,rfl,fun j hj=>?_,rfl,fun j hj=>?_,rfl,fun j hj=>?_,trivial⟩,_,rfl,?_⟩
    ·obtain rfl:j=0:=by omega
     rfl
    ·obtain rfl:j=0:=by omega
     rfl
    ·obtain rfl:j=0:=by omega
     rfl
    have hm1:1<=mo.toNat:=by omega
    refine loopA aqa hg1 (m:=mo.toNat) (by omega) (fun o hp=>?_) (mo.toNat+1) 0 [⟨0,B.g0⟩] _ 0 1 _ (by omega) (fun x hx=>?_) ⟨by simp,by simp,fun j x hx=>?_⟩ (by omega) (by simp;omega) (fun k=>?_) (fun r hr=>hr) (fun hr=>?_)
    ·
     have hst:iK B.g0∈o:=alF hp;have hnx:=alG (Q:=QnP lv n g (BI n g m h)) hm1 hp hg1.step hg2 hg1.start;have hg':Le B (fun nd=>QnP lv n g (BI n g m h) nd/\nd∈o):=⟨⟨hg1.start,hst⟩,fun nd hq t ht=>⟨hg1.step nd hq.1 t ht,hnx nd hq.2 t ht⟩,fun nd hq=>hg1.tu nd hq.1,fun nd hq=>hg1.ke nd hq.1⟩;have hld:=arh (Q:=QnP lv n g (BI n g m h)) hm1 hp hg1.step hg2 hg1.start;have hlen:=(Ko hm1 hp).2;have hall:∀x∈o,QnP lv n g (BI n g m h) x:=O8 hg1.step hp (fun x hx=>by
      obtain rfl:x=⟨0,B.g0⟩:=by simpa[iK] using hx
      exact hg1.start)
     have hP:Xg (hsS n g m h) lv mo=ay o:=by unfold Xg;rw[hbg];exact hp
     have hL:Xh (hsS n g m h) lv mo=o:=by unfold Xh;rw[hP];rfl
     have hk:SQ (hsS n g m h) lv mo=aC:=by unfold SQ;rw[ahF hm,hbg,h4,hP];rfl
     have hφ:φ (.Ak [.agg [.b (Ub (hsS n g m h) lv mo),.sl 2 (PD (hsS n g m h) lv mo) (zX (SS (hsS n g m h) lv mo)),.i .i64 (Ll (hsS n g m h) lv mo)],.v .nilIface]):=q2 hk;have ey:Ub (hsS n g m h) lv mo=Sv (Gb B) (CP B.k0) B.g0 o:=by unfold Ub;rw[hbg,hL]
     have et:rtL (hsS n g m h) lv mo=(IW (Gb B) (CP B.k0) B.g0 o).map D7:=by unfold rtL;rw[hbg,hL]
     have ec:Ll (hsS n g m h) lv mo=((o.length:Nat):Int):=by unfold Ll;rw[hL]
     unfold PD SS at hφ;rw[ey,et,ec] at hφ;have es:zW.sub .i64 (zW.AO o.length) (ah 1)=((o.length:Nat):Int) - 1:=by
      show aN.wrap (((o.length:Nat):Int) - 1)=_;exact BL (by omega) (by omega)
     rw[es];refine aoF aqa hg' o (fun x hx=>⟨hall x hx,hx⟩) (by omega) (fun nd hq hl hf=>?_) (fun hy=>?_) (fun hy=>?_) o.length (fun _=>aK) (dn _) (fun k=>?_)
     ·obtain ⟨t,ht,hte⟩:=aiV ((hld nd hq.2).1 hl) hf
      exact ⟨t,ht,(hld t.2 (hnx nd hq.2 _ (dK.2 ⟨t,ht,rfl⟩))).2 hte⟩
     ·rw[hy] at hφ
      exact hφ
     ·have e0:IW (Gb B) (CP B.k0) B.g0 o=[]:=if_neg (by rw[hy];simp)
      rw[hy,e0] at hφ;exact hφ
     ·rw[List.drop_length];rfl
    ·obtain rfl:x=⟨0,B.g0⟩:=by simpa using hx
     exact hg1.start
    ·have hj:j=0:=by
      have:=(aU.1 hx).1;simp at this;omega
     subst hj;cases hx;rfl
    ·have:=getM (k:=CP B.k0 ⟨0,B.g0⟩) (o:=[]) (k0:=B.k0) (v:=.int .i64 (ah 0)) (nd:=⟨0,B.g0⟩) (M:=fun _=>aK) (fun _=>rfl) k
     exact this
    ·have hP:Xg (hsS n g m h) lv mo=aK:=by unfold Xg;rw[hbg];exact hr
     have hk:SQ (hsS n g m h) lv mo=ak:=by unfold SQ;rw[hP];simp
     have ha:Xi (hsS n g m h) lv mo=ak:=by unfold Xi;rw[hbg,h4];simp
     have he:PE (hsS n g m h) lv mo=0:=by unfold PE;rw[ahF hm,hbg,if_pos rfl,if_pos h4]
     have q:=(q3 hk).2 ha;rw[he] at q;exact q
   ·have hm:=moT h2 h3
    have hk:SQ (hsS n g m h) lv mo=ak:=by unfold SQ;rw[hbg,h4];simp
    have ha:Xi (hsS n g m h) lv mo=aC:=by unfold Xi;rw[ahF hm,hbg,h4,h7];rfl
    have he:PE (hsS n g m h) lv mo=B.e:=by unfold PE;rw[ahF hm,hbg,if_pos rfl,if_neg (by rw[h4];simp)]
    have hp:rpI (hsS n g m h) lv mo=B.pos:=by unfold rpI;rw[hbg]
    have q:=(q3 hk).1 ha;rw[he,hp] at q;exact BH (ap9 rfl) q
   ·have hm:=moT h2 h3
    refine bad ?_ ?_ ?_
    ·unfold SQ;rw[hbg,h4];simp
    ·unfold Xi;rw[hbg,h7];simp
    ·unfold PE;rw[ahF hm,hbg,if_pos rfl,if_neg (by rw[h4];simp)]
  ·exact hφ.elim
 ·exact hφ.elim
end Go.Proofs
namespace Go.Pl
open Go Go.Sx Go.Proofs Go.Gm
def ssB(n:Nat)(g:Nat->List Sh)(m:Nat)(h:Nat->List Sh):Bool:=decide (lst DL n g=lst DL m h)
def s1B(a b:DL):Bool:=decide (a=b)
noncomputable def hpB(s:Sh):Bool:=@decide (∃n g m h,s=hsS n g m h/\Yr n g m h) (bM _)
noncomputable def wkO(s:Sh)(lv:Int)(k:Nat)(u:Nat->List Sh):Option (Nd SG):=walk (Gb (CZ s lv)) ⟨0,(CZ s lv).g0⟩ ((lst DL k u).map fun x=>(x.tx,x.com))
noncomputable def nxL(s:Sh)(lv:Int)(k:Nat)(u:Nat->List Sh):List DL:=match wkO s lv k u with
 |some nd=>(turns (Gb (CZ s lv)) nd).map fun t=>D7 t.1 |none=>[]
end Go.Pl
namespace Go.Proofs
open Go Go.Sx Go.Pl
noncomputable def Xj:Nat->Option (List Sh->Tree Sh)
 |39=>ay D39 |_=>aK
noncomputable def D18:List Sh->Tree Sh
 |[.agg a,.agg b]=>match Row.get (α:=DL) a,Row.get (α:=DL) b with
  |some x,ay y=>.leaf (.b (s1B x y)) |_,_=>.fail
 |_=>.fail
noncomputable def Gp:Nat->Option (List Sh->Tree Sh)
 |18=>ay D18 |_=>aK
def Xk:List It:=[bD [0,1,0,1,1],dD 0,bD [1,1,1]]
def acf(n:Nat)(g:Nat->DL)(m:Nat)(h:Nat->DL)(i:Int):Core:={tm:=Gv 29 [(0,.sh (.sl 2 n (zX g))),(1,.sh (.sl 2 m (zX h))),(5,.sym .i64 i)],hp:=[],nx:=0,lim:=L0,tc:=[]}
theorem ajt(A:Prim)(W:Wd)(s:Sh)(n m:Nat)(g h:Nat->List Sh)(lv mo:Int){ψ:D8->Prop}{c0 c1:Bool}(e0:SQ (bH [aG 2 n g,aG 8 m h]) lv mo=c0)(e1:Xi (bH [aG 2 n g,aG 8 m h]) lv mo=c1)(h1:(hsB (bH [aG 2 n g,aG 8 m h]) lv)=aC)(y1:c0=aC->ψ (aP (cZ [bH [eF (Ub (bH [aG 2 n g,aG 8 m h]) lv mo),aG 2 (PD (bH [aG 2 n g,aG 8 m h]) lv mo) (zX (SS (bH [aG 2 n g,aG 8 m h]) lv mo)),aW .i64 (Ll (bH [aG 2 n g,aG 8 m h]) lv mo)],Sh.v bI])))(y2:c0=ak->c1=aC->ψ (aP (cZ [bH [eF ak,aG 2 0 fun _=>[],aW .i64 (ah 0)],Sh.CS 109 (Sh.pt [aW .i64 (rpI (bH [aG 2 n g,aG 8 m h]) lv mo),aZ (PE (bH [aG 2 n g,aG 8 m h]) lv mo) 329])])))(y3:c0=ak->c1=ak->ψ (aP (cZ [bH [eF ak,aG 2 0 fun _=>[],aW .i64 (ah 0)],aZ (PE (bH [aG 2 n g,aG 8 m h]) lv mo) 329]))):Cc ψ (AQ (C7 A W Xj Ap) Bh 300 400 15 [.code []] (Aa 14 [.agg [.sl 2 n g,.sl 8 m h],.i .i64 lv,.i .i64 mo] L0) [] []):=by
 subst e0 e1;exact Gh (an h1 (an y1 (fun q0=>an (y2 q0) (y3 q0)))) (by kernel_rfl)
theorem aju(A:Prim)(W:Wd)(a b:DL){ψ:D8->Prop}{c0:Bool}(e0:A.eq a.tx b.tx=c0)(y1:c0=aC->ψ (aP (eF (A.beq a.com b.com))))(y2:c0=ak->ψ (aP (eF ak))):Cc ψ (AQ (C7 A W noSpec Ap) Bh 300 400 18 [.code []] (Aa 17 [.agg [.i .i64 a.tx,.b a.com],.agg [.i .i64 b.tx,.b b.com]] L0) [] []):=by
 subst e0;exact Gh (an y1 y2) (by kernel_rfl)
theorem ajv(A:Prim)(W:Wd)(n m:Nat)(g h:Nat->DL)(i':Int){ψ:D8->Prop}{c0:Bool}(e0:A.nt (A.eq (A.AO n) (A.AO m))=c0)(y1:c0=aC->ψ (aP (eF ak)))(y2:c0=ak->ψ (bJ 0 [aQ (aG 2 n (zX g)) (aG 2 n (zX g)),aQ (aG 2 m (zX h)) (aG 2 m (zX h)),aj (ah 0) i'])):Cc ψ (AQ (C7 A W Gp Ap) Bh 300 400 19 [.code []] (Aa 29 [.sl 2 n (zX g),.sl 2 m (zX h)] L0) [] [⟨19,Xk,acf n g m h i',[]⟩]):=by
 subst e0;exact Gh (an y1 y2) (by kernel_rfl)
theorem acg(A:Prim)(W:Wd)(n m:Nat)(g h:Nat->DL)(i i':Int){ψ:D8->Prop}{c0 c1:Bool}(e0:A.lt i (A.AO n)=c0)(e1:A.nt (s1B {tx:=(g (A.toN i)).tx,com:=(g (A.toN i)).com} {tx:=(h (A.toN i)).tx,com:=(h (A.toN i)).com})=c1)(h1:c0=aC->(A.inB i n)=aC)(h2:c0=aC->(A.inB i m)=aC)(y1:c0=aC->c1=aC->ψ (aP (eF ak)))(y2:c0=aC->c1=ak->ψ (bJ 0 [aQ (aG 2 n (zX g)) (aG 2 n (zX g)),aQ (aG 2 m (zX h)) (aG 2 m (zX h)),aj (A.add .i64 i (ah 1)) i']))(y3:c0=ak->ψ (aP (eF aC))):Cc ψ (AQ (C7 A W Gp Ap) Bh 300 400 19 (bD [0,0,1,0,1,1]::Xk) (acf n g m h i) [] [⟨19,Xk,acf n g m h i',[]⟩]):=by
 subst e0 e1;exact Gh (an (fun q0=>an (h1 q0) (an (h2 q0) (an (y1 q0) (y2 q0)))) y3) (by kernel_rfl)
end Go.Proofs
namespace Go.Pl
open Go Go.Sx Go.Proofs Go.Gm
noncomputable def gaB(s:Sh)(lv mo:Int):Bool:=hsB s lv&&(Pz mo&&(CZ s lv).okb)
noncomputable def Uc(k:Nat)(s:Sh)(lv mo:Int):Bool:=hsB s lv&&(Pz mo&&(!(CZ s lv).okb&&(if k=0 then (CZ s lv).JG else !(CZ s lv).JG&&(CZ s lv).e==k)))
noncomputable def gmB(s:Sh)(lv mo:Int):Bool:=hsB s lv && !Pz mo
noncomputable def Lm(s:Sh)(lv mo:Int):Bool:=(Xg s lv mo).isSome
end Go.Pl
namespace Go.Proofs
open Go Go.Sx Go.Pl
noncomputable def ad2:List Sh->Tree Sh
 |[s,t,u]=>match AY t,AY u with
  |some lv,ay mo=>.need (gaB s lv mo) (.node (Lm s lv mo) (.leaf (.Ak [.agg [.b (Ub s lv mo),.sl 2 (PD s lv mo) (zX (SS s lv mo)),.i .i64 (Ll s lv mo)],.v .nilIface]))
    (.leaf (.Ak [.agg [.b ak,.sl 2 0 (fun _=>[]),.i .i64 0],.er 0 329])))
  |_,_=>.fail
 |_=>.fail
noncomputable def aqc(k:Nat):List Sh->Tree Sh
 |[s,t,u]=>match AY t,AY u with
  |some lv,ay mo=>match k with
   |0=>.need (Uc 0 s lv mo) (.leaf (.Ak [.agg [.b ak,.sl 2 0 (fun _=>[]),.i .i64 0],.CS 109 (.pt [.i .i64 (rpI s lv mo),.er (PE s lv mo) 329])])) |1=>.need (Uc 1 s lv mo) (.leaf (.Ak [.agg [.b ak,.sl 2 0 (fun _=>[]),.i .i64 0],.er 1 329])) |6=>.need (Uc 6 s lv mo) (.leaf (.Ak [.agg [.b ak,.sl 2 0 (fun _=>[]),.i .i64 0],.er 6 329])) |4=>.need (gmB s lv mo) (.leaf (.Ak [.agg [.b ak,.sl 2 0 (fun _=>[]),.i .i64 0],.er 4 329])) |_=>.fail
  |_,_=>.fail
 |_=>.fail
theorem auR(stop:Nat->List Nat->Bool):BA aB (C7 zW W7 Xj stop):=lS (fun g F h=>by
 unfold Xj at h;split at h
 ·cases h;exact O39
 ·cases h) fun g h=>by
 unfold Xj at h;split at h;all_goals first|(cases h;done) |kernel_rfl
theorem afk{φ:Sh->Prop}{y:Bool}{k:Nat}{f:Nat->List Sh}{c:Int}{e:Sh}(he:Wk e e)(h:φ (.Ak [.agg [.b y,.sl 2 k f,.i .i64 c],e])):up φ (.Ak [.agg [.b y,.sl 2 k f,.i .i64 c],e]):=
 BH (s':=.Ak [.agg [.b y,.sl 2 k f,.i .i64 c],e]) ⟨⟨.inl rfl,.inr ⟨rfl,rfl,fun _ _=>rfl⟩,rfl,trivial⟩,he,trivial⟩ h
theorem O15:Ar aB (AZ W7) 15 D15:=by
 refine FN (C:=C7 zW W7 Xj Ap) (dw _ _) (fn:=Tryz.f15) (by kernel_rfl) (by kernel_rfl) fun H w A8 args φ hrep h=>?_
 have hn:Tryz.f15.ntmps=14:=by kernel_rfl
 unfold D15 at h;split at h
 ·rename_i s t u
  split at h
  ·rename_i lv mo e1 e2
   obtain ⟨q1,q2,q3⟩:=h;obtain ⟨n,g,m,h',rfl,P,l1,l3⟩:=@of_decide_eq_true _ (bM _) q1;match args,hrep with
   |[v,u1,u2],⟨rv,ru,ru2,_⟩=>
    refine ⟨[hsS n g m h',.i .i64 lv,.i .i64 mo],⟨rv,Ej e1 ru,Ej e2 ru2,trivial⟩,L0,?_⟩;refine EJ (dw _ _) (auR _) (hold:=Bh) (m:=300) (n:=400) (ts:=[]) ?_;rw[hn];exact ajt zW W7 (hsS n g m h') n m g h' lv mo rfl rfl q1 (fun c0=>afk rfl (q2 c0)) (fun c0 c1=>afk rfl ((q3 c0).1 c1)) (fun c0 c1=>afk rfl ((q3 c0).2 c1))
  ·exact h.elim
 ·exact h.elim
theorem akP:Ar aB (AZ W7) 15 ad2:=O15.mono fun H A8 args φ hr h=>by
 unfold ad2 at h;split at h
 ·split at h
  ·rename_i s t u x y lv mo e1 e2
   obtain ⟨q1,q2,q3⟩:=h;unfold gaB at q1;rw[aI,aI] at q1;obtain ⟨a1,a2,a3⟩:=q1;unfold D15;simp only[e1,e2];refine ⟨a1,fun c=>q2 ?_,fun c=>⟨fun c2=>?_,fun _=>?_⟩⟩
   ·unfold SQ at c
    rw[a2,a3] at c;exact c
   ·unfold Xi at c2
    rw[a3] at c2;simp at c2
   ·have e:PE s lv mo=0:=by unfold PE;rw[if_pos a2,if_pos a3]
    rw[e];refine q3 ?_;unfold SQ at c;rw[a2,a3] at c;exact c
  ·exact h.elim
 ·exact h.elim
theorem awI(k:Nat):Ar aB (AZ W7) 15 (aqc k):=O15.mono fun H A8 args φ hr h=>by
 unfold aqc at h;split at h
 ·split at h
  ·rename_i s t u x y lv mo e1 e2
   unfold D15;simp only[e1,e2];have key (k:Nat) (q1:Uc k s lv mo=aC):hsB s lv=aC/\SQ s lv mo=ak/\Pz mo=aC/\(CZ s lv).okb=ak/\(if k=0 then (CZ s lv).JG else !(CZ s lv).JG&&(CZ s lv).e==k)=aC:=by
    unfold Uc at q1;rw[aI,aI,aI,fM] at q1;obtain ⟨a1,a2,a3,a4⟩:=q1;refine ⟨a1,?_,a2,a3,a4⟩;unfold SQ;rw[a3];simp
   have keyE (k:Nat) (hk:k≠0) (q1:Uc k s lv mo=aC) (q2:φ (.Ak [.agg [.b ak,.sl 2 0 (fun _=>[]),.i .i64 0],.er k 329])):Tree.All φ (Tree.need (hsB s lv) (.node (SQ s lv mo) (.leaf (.Ak [.agg [.b (Ub s lv mo),.sl 2 (PD s lv mo) (zX (SS s lv mo)),.i .i64 (Ll s lv mo)],.v .nilIface]))
     (.node (Xi s lv mo) (.leaf (.Ak [.agg [.b ak,.sl 2 0 (fun _=>[]),.i .i64 0],.CS 109 (.pt [.i .i64 (rpI s lv mo),.er (PE s lv mo) 329])]))
      (.leaf (.Ak [.agg [.b ak,.sl 2 0 (fun _=>[]),.i .i64 0],.er (PE s lv mo) 329]))))):=by
    obtain ⟨a1,a2,a3,a4,a5⟩:=key k q1;rw[if_neg hk,aI,fM,beq_iff_eq] at a5;have e:PE s lv mo=k:=by unfold PE;rw[if_pos a3,if_neg (by rw[a4];simp),a5.2]
    refine ⟨a1,fun c=>(by rw[a2] at c;cases c),fun _=>⟨fun c=>?_,fun _=>?_⟩⟩
    ·unfold Xi at c
     rw[a5.1] at c;simp at c
    ·rw[e];exact q2
   split at h
   ·obtain ⟨q1,q2⟩:=h
    obtain ⟨a1,a2,a3,a4,a5⟩:=key 0 q1;rw[if_pos rfl] at a5;refine ⟨a1,fun c=>(by rw[a2] at c;cases c),fun _=>⟨fun _=>q2,fun c=>?_⟩⟩;unfold Xi at c;rw[a3,a4,a5] at c;simp at c
   ·exact keyE 1 (by decide) h.1 h.2
   ·exact keyE 6 (by decide) h.1 h.2
   ·obtain ⟨q1,q2⟩:=h
    unfold gmB at q1;rw[aI,fM] at q1;obtain ⟨a1,a2⟩:=q1;refine ⟨a1,fun c=>?_,fun _=>⟨fun c=>?_,fun _=>?_⟩⟩
    ·unfold SQ at c;rw[a2] at c;simp at c
    ·unfold Xi at c;rw[a2] at c;simp at c
    ·have e:PE s lv mo=4:=by unfold PE;rw[if_neg (by rw[a2];simp)]
     rw[e];exact q2
   ·exact h.elim
  ·exact h.elim
 ·exact h.elim
theorem auS:Ar aB (AZ W7) 18 D18:=by
 refine FN (C:=C7 zW W7 noSpec Ap) (dw _ _) (fn:=Tryz.f18) (by kernel_rfl) (by kernel_rfl) fun H w A8 args φ hrep h=>?_
 have hn:Tryz.f18.ntmps=17:=by kernel_rfl
 unfold D18 at h;split at h
 ·rename_i l r
  split at h
  ·rename_i x y e1 e2
   have hφ:φ (.b (s1B x y)):=h;have hl:l=Row.put x:=(Row.Dp _ _ e1).symm;have hr:r=Row.put y:=(Row.Dp _ _ e2).symm;subst hl hr;refine ⟨[.agg (Row.put x),.agg (Row.put y)],hrep,L0,?_⟩;refine EJ (dw _ _) (Nl _) (hold:=Bh) (m:=300) (n:=400) (ts:=[]) ?_;rw[hn];have fin (b:Bool) (hb:b=s1B x y):up φ (.b b):=BH (s':=.b (s1B x y)) (.inl (by rw[hb])) hφ;obtain ⟨a,b⟩:=x;obtain ⟨c,d⟩:=y;refine aju zW W7 ⟨a,b⟩ ⟨c,d⟩ rfl (fun q=>fin _ ?_) (fun q=>fin _ ?_)
   ·have q:a=c:=by simpa[Aq] using q
    subst q;unfold s1B;rw[adu];cases b<;>cases d<;>simp
   ·have q:a≠c:=by simpa[Aq] using q
    unfold s1B;rw[decide_eq_false (by intro e;injection e;contradiction)]
  ·exact h.elim
 ·exact h.elim
theorem Ym(stop:Nat->List Nat->Bool):BA aB (C7 zW W7 Gp stop):=lS (fun g F h=>by
 unfold Gp at h;split at h
 ·cases h;exact auS
 ·cases h) fun g h=>by
 unfold Gp at h;split at h;all_goals first|(cases h;done) |kernel_rfl
end Go.Proofs
namespace Go.Pl
open Go Go.Sx
theorem aqd{n m:Nat}{g h:Nat->DL}:lst DL n (zX g)=lst DL m (zX h)↔n=m/\∀j,j<n->g j=h j:=by
 rw[RQ,RQ];constructor
 ·intro e
  have hl:=congrArg List.length e;simp at hl;subst hl;refine ⟨rfl,fun j hj=>?_⟩;have:=congrArg (fun l=>l[j]?) e;simpa[hj] using this
 ·rintro ⟨rfl,e⟩
  exact jO fun j hj=>e j (dP.1 hj)
def ad3(n:Nat)(g:Nat->List Sh)(m:Nat)(h:Nat->List Sh):Bool:=okB DL n g&&(okB DL m h&&decide (n<=100000))
end Go.Pl
namespace Go.Proofs
open Go Go.Sx Go.Pl
noncomputable def D19:List Sh->Tree Sh
 |[s,t]=>match DV 2 s,DV 2 t with
  |some (n,g),ay (m,h)=>.need (ad3 n g m h) (.leaf (.b (ssB n g m h))) |_,_=>.fail
 |_=>.fail
section
variable{H0:Mem}{w0:World}{φ:Sh->Prop}{n:Nat}{g h:Nat->DL}
theorem akQ(hn:n<=100000)(hφ:φ (.b (decide (∀j,j<n->g j=h j)))):∀r i,i+r=n->(∀j,j<i->g j=h j)->
  Bd aB (C7 zW W7 Gp Ap) (K0 H0 w0) 19 Xk (acf n g n h (i:Nat)) [] emp (up φ)
 |0,i,hi,he=>by
  refine Gu (fn:=rX) (tb:=bD [0,0,1,0,1,1]::Xk) (by kernel_rfl) (by kernel_rfl) ?_;have lt {P:Prop} (h:zW.lt (i:Int) (zW.AO n)=aC):P:=by simp[Ad,Az] at h;omega
  refine EJ (dw _ _) (Ym _) (hold:=Bh) (m:=300) (n:=400) (ts:=[⟨19,Xk,acf n g n h 0,[]⟩]) ?_;refine acg zW W7 n n g h i 0 rfl rfl (fun q=>lt q) (fun q=>lt q) (fun q=>lt q) (fun q=>lt q) (fun _=>?_);rw[decide_eq_true (fun j hj=>he j (by omega))] at hφ;exact BH (s':=.b aC) (.inl rfl) hφ
 |r+1,i,hi,he=>by
  refine Gu (fn:=rX) (tb:=bD [0,0,1,0,1,1]::Xk) (by kernel_rfl) (by kernel_rfl) ?_;have no {P:Prop} (h:zW.lt (i:Int) (zW.AO n)=ak):P:=by simp[Ad,Az] at h;omega
  have inb:zW.inB (i:Int) n=aC:=by rw[Bl,decide_eq_true_eq];omega
  have w1:zW.add .i64 (i:Int) (ah 1)=((i+1:Nat):Int):=add1 (by omega);refine EJ (dw _ _) (Ym _) (hold:=Bh) (m:=300) (n:=400) (ts:=[⟨19,Xk,acf n g n h ((i+1:Nat):Int),[]⟩]) ?_;refine acg zW W7 n n g h i _ rfl rfl (fun _=>inb) (fun _=>inb) (fun _ q=>?_) (fun _ q=>?_) (fun q=>no q)
  ·have q:(!s1B (g i) (h i))=aC:=q
   have hne:g i≠h i:=by
    intro e;unfold s1B at q;rw[decide_eq_true e] at q;cases q
   rw[decide_eq_false (fun f=>hne (f i (by omega)))] at hφ;exact BH (s':=.b ak) (.inl rfl) hφ
  ·have q:(!s1B (g i) (h i))=ak:=q
   have he2:g i=h i:=by
    unfold s1B at q;simpa using q
   exact ⟨⟨rfl,rfl,w1,trivial⟩,_,rfl,akQ hn hφ r (i+1) (by omega) fun j hj=>by
    by_cases hj2:j=i
    ·rw[hj2];exact he2
    ·exact he j (by omega)⟩
end
theorem ajw:Ar aB (AZ W7) 19 D19:=by
 refine FN (C:=C7 zW W7 Gp Ap) (dw _ _) (fn:=rX) (by kernel_rfl) (by kernel_rfl) fun H w A8 args φ hrep h=>?_
 have hn:rX.ntmps=29:=by kernel_rfl
 unfold D19 at h;split at h
 ·rename_i s t
  split at h
  ·rename_i n g m h' e1 e2
   obtain ⟨q1,hφ⟩:=h;unfold ad3 at q1;rw[aI,aI,decide_eq_true_eq] at q1;obtain ⟨a1,a2,a3⟩:=q1;match args,hrep with
   |[v,u],⟨rv,ru,_⟩=>
    refine ⟨[.sl 2 n (zX (zZ (α:=DL) g)),.sl 2 m (zX (zZ (α:=DL) h'))],⟨Ei (BD e1 rv) a1,Ei (BD e2 ru) a2,trivial⟩,L0,?_⟩;have hφ:φ (.b (ssB n g m h')):=hφ;have es:ssB n g m h'=decide (n=m/\∀j,j<n->zZ (α:=DL) g j=zZ (α:=DL) h' j):=by
     unfold ssB;rw[abb (JB a1),abb (JB a2)];have:(lst DL n (zX (zZ g))=lst DL m (zX (zZ h')))↔(n=m/\∀j,j<n->zZ (α:=DL) g j=zZ (α:=DL) h' j):=aqd;by_cases hh:(n=m/\∀j,j<n->zZ (α:=DL) g j=zZ (α:=DL) h' j)
     ·rw[decide_eq_true hh];exact decide_eq_true (this.2 hh)
     ·rw[decide_eq_false hh];exact decide_eq_false (fun e=>hh (this.1 e))
    rw[es] at hφ;refine EJ (dw _ _) (Ym _) (hold:=Bh) (m:=300) (n:=400) (ts:=[⟨19,Xk,acf n (zZ g) m (zZ h') ((0:Nat):Int),[]⟩]) ?_;rw[hn];refine ajv zW W7 n m (zZ g) (zZ h') ((0:Nat):Int) rfl (fun q=>?_) (fun q=>?_)
    ·have hne:n≠m:=fun e=>by
      rw[e] at q;simp[BQ,Aq,Az] at q
     rw[decide_eq_false (fun f=>hne f.1)] at hφ;exact BH (s':=.b ak) (.inl rfl) hφ
    ·have he:n=m:=by
      simp[BQ,Aq,Az] at q;exact kU q
     subst he;have ed:decide (n=n/\∀j,j<n->zZ (α:=DL) g j=zZ (α:=DL) h' j)=decide (∀j,j<n->zZ (α:=DL) g j=zZ (α:=DL) h' j):=by
      by_cases hh:∀j,j<n->zZ (α:=DL) g j=zZ (α:=DL) h' j
      ·rw[decide_eq_true hh];exact decide_eq_true ⟨rfl,hh⟩
      ·rw[decide_eq_false hh];exact decide_eq_false (fun f=>hh f.2)
     rw[ed] at hφ;exact ⟨⟨rfl,rfl,rfl,trivial⟩,_,rfl,akQ a3 hφ n 0 (by omega) (fun j hj=>by omega)⟩
  ·exact h.elim
 ·exact h.elim
open Go Go.Sx Go.Pl
def Zn:List It:=[bD [0,1,0,1,1,1,1,1],dD 0,bD [1,1,1,1,1,1]]
def aqf:List It:=bD [0,0,1,0,1,1,1,1,1]::Zn
def tmN(B:Ht)(k:Nat)(u:Nat->DL)(i:Int):List (Nat×SV):=[(8,.Gq 4 1 (fun _=>BK B.lv B.N B.T B.N B.ms B.k0 B.g0) 0 0),(10,.ptr 0 0),(40,.sh (.sl 2 k (zX u))),(41,.sym .i64 (k:Int)),(42,.sym .i64 i)]
def LNa(B:Ht)(k:Nat)(u:Nat->DL)(i:Int)(p:Int)(n:Nat)(g:Nat->List Sh):Core:={tm:=Gv 85 (tmN B k u i),hp:=[(0,.box [.sym .i64 p,.sh (.sl 4 n g)] 104)],nx:=1,lim:=L0,tc:=[]}
def Zo:List It:=[bD [0,1,0,1,1,0,0,1,1,0,0,1,0,1,1,1,1,1],dD 2,bD [1,1,1,0,0,1,1,0,0,1,0,1,1,1,1,1],dD 1,bD [1,1,1,0,0,1,0,1,1,1,1,1],bD [0,1,0,1,1,1,1,1],dD 0,bD [1,1,1,1,1,1]]
def aso:List It:=bD [0,0,1,0,1,1,0,0,1,1,0,0,1,0,1,1,1,1,1]::Zo
def LNb(B:Ht)(k:Nat)(u:Nat->DL)(i:Int)(p:Int)(n:Nat)(g:Nat->List Sh)(x:DL)(t:Nat)(tr:Nat->Jo)(j:Int):Core:=
 {tm:=Gv 85 (tmN B k u i++[(11,.sym .i64 i),(12,.ptr 1 0),(13,.bool ak),(49,.sh (.sl 4 t (zX tr))),(50,.sym .i64 (t:Int)),(51,.sym .i64 j)]),hp:=[(0,.box [.sym .i64 p,.sh (.sl 4 n g)] 104),(1,.box [.sym .i64 x.tx,.test x.com] 55)],nx:=2,lim:=L0,tc:=[]}
def Zp:List It:=[bD [0,1,0,1,1,1,1,1,1,1],dD 4,bD [1,1,1,1,1,1,1,1]]
def aqg:List It:=bD [0,0,1,0,1,1,1,1,1,1,1]::Zp
def LNc(t:Nat)(tr:Nat->Jo)(c:Nat)(cr:Nat->DL)(j:Int):Core:=
 {tm:=Gv 85 [(16,.gs 0),(72,.sh (.sl 4 t (zX tr))),(73,.sym .i64 (t:Int)),(74,.sym .i64 j)],hp:=[(0,.own 55 2 c (zX cr))],nx:=1,lim:=L0,tc:=[]}
theorem ajx(A:Prim)(W:Wd)(B:Ht)(lv:Int)(o m:Nat)(og mg:Nat->List Sh)(k:Nat)(u:Nat->DL)(i':Int){ψ:D8->Prop}{c0 c1 c2 c3:Bool}(e0:A.lt lv (ah 1)=c0)(e1:A.lt (ah 3) lv=c1)(e2:B.okb=c2)(e3:B.JG=c3)(h1:c0=ak->c1=ak->(aoA (bH [aG 2 o og,aG 8 m mg]) lv (bH [aG 2 o og,aG 8 m mg]) lv)=aC)(y1:c0=aC->ψ (aP (cZ [aG 0 0 fun _=>[],aZ 2 329])))(y2:c0=ak->c1=aC->ψ (aP (cZ [aG 0 0 fun _=>[],aZ 2 329])))(y3:c0=ak->c1=ak->c2=aC->ψ (bJ 0 [aJ 1 1,bC (fun (x:Nat)=>BK B.lv B.N B.T B.N B.ms B.k0 B.g0) fun (x:Nat)=>BK B.lv B.N B.T B.N B.ms B.k0 B.g0,aJ 0 0,aQ (aG 2 k (zX u)) (aG 2 k (zX u)),aj (A.AO k) (ah k),aj (ah 0) i',aj (ah 0) (ah 0),aQ (aG 4 B.k0 B.g0) (aG 4 B.k0 B.g0)]))(y4:c0=ak->c1=ak->c2=ak->c3=aC->ψ (aP (cZ [aG 0 0 fun _=>[],Sh.CS 109 (Sh.pt [aW .i64 B.pos,aZ B.e 329])])))(y5:c0=ak->c1=ak->c2=ak->c3=ak->ψ (aP (cZ [aG 0 0 fun _=>[],aZ B.e 329]))):Cc ψ (AQ (C7 A W (Dc (.agg [.sl 2 o og,.sl 8 m mg]) lv B) Ap) Bh 300 400 16 [.code []] (Aa 85 [.agg [.sl 2 o og,.sl 8 m mg],.i .i64 lv,.sl 2 k (zX u)] L0) [] [⟨16,Zn,LNa B k u i' 0 B.k0 B.g0,[]⟩]):=by
 subst e0 e1 e2 e3;exact Gh (an y1 (fun q0=>an (y2 q0) (fun q1=>an (h1 q0 q1) (an (y3 q0 q1) (fun q2=>an (y4 q0 q1 q2) (y5 q0 q1 q2)))))) (by kernel_rfl)
theorem ach(A:Prim)(W:Wd)(B:Ht)(hs:Sh)(lv:Int)(k:Nat)(u:Nat->DL)(i p:Int)(n:Nat)(g:Nat->List Sh)(x:DL)(t:Nat)(tr:Nat->Jo)(cr:Nat->DL){ψ:D8->Prop}{c0:Bool}(e0:A.lt i (ah k)=c0)(h1:c0=aC->(A.inB i k)=aC)(h2:c0=aC->(tuB B.lv B.N (zX B.T) B.N (zX B.ms) p 4 n g)=aC)(h3:c0=ak->(tuB B.lv B.N (zX B.T) B.N (zX B.ms) p 4 n g)=aC)(y1:c0=aC->ψ (bJ 0 [aJ 1 1,bC (fun (x:Nat)=>BK B.lv B.N B.T B.N B.ms B.k0 B.g0) fun (x:Nat)=>BK B.lv B.N B.T B.N B.ms B.k0 B.g0,aJ 0 0,aj i i,aQ (aG 2 k (zX u)) (aG 2 k (zX u)),aj (ah k) (ah k),aj i i,aQ (aG 4 (Ox B.lv B.N (zX B.T) (zX B.ms) p n g) (zX (Zy B.lv B.N (zX B.T) (zX B.ms) p n g))) (aG 4 t (zX tr)),aj (A.AO (Ox B.lv B.N (zX B.T) (zX B.ms) p n g)) (ah t),aj (ah 0) (ah 0),aj p p,aQ (aG 4 n g) (aG 4 n g),aj (u (A.toN i)).tx x.tx,pz (u (A.toN i)).com x.com]))(y2:c0=ak->ψ (bJ 1 [aQ (aG 4 (Ox B.lv B.N (zX B.T) (zX B.ms) p n g) (zX (Zy B.lv B.N (zX B.T) (zX B.ms) p n g))) (aG 4 t (zX tr)),aj (A.AO (Ox B.lv B.N (zX B.T) (zX B.ms) p n g)) (ah t),aj (ah 0) (ah 0),aJ 0 0])):Cc ψ (AQ (C7 A W (Dc hs lv B) Ap) Bh 300 400 16 aqf (LNa B k u i p n g) [] [⟨16,Zo,LNb B k u i p n g x t tr 0,[]⟩,⟨16,Zp,LNc t tr 0 cr 0,[]⟩]):=by
 subst e0;exact Gh (an (fun q0=>an (h1 q0) (an (h2 q0) (y1 q0))) (fun q0=>an (h3 q0) (y2 q0))) (by kernel_rfl)
theorem aci(A:Prim)(W:Wd)(B:Ht)(hs:Sh)(lv:Int)(k:Nat)(u:Nat->DL)(i p:Int)(n:Nat)(g:Nat->List Sh)(x:DL)(t:Nat)(tr:Nat->Jo)(j j' i' p':Int)(n':Nat)(g':Nat->List Sh){ψ:D8->Prop}{c0 c1:Bool}(e0:A.lt j (ah t)=c0)(e1:A.ite (A.eq (tr (A.toN j)).tx x.tx) (A.ite (A.beq (tr (A.toN j)).com x.com) aC ak) ak=c1)(h1:c0=aC->(A.inB j t)=aC)(y1:c0=aC->c1=aC->ψ (bJ 1 [aJ 1 1,bC (fun (x:Nat)=>BK B.lv B.N B.T B.N B.ms B.k0 B.g0) fun (x:Nat)=>BK B.lv B.N B.T B.N B.ms B.k0 B.g0,aJ 0 0,aQ (aG 2 k (zX u)) (aG 2 k (zX u)),aj (ah k) (ah k),aj (A.add .i64 i (ah 1)) i',aj (tr (A.toN j)).placed p',aQ (aG 4 (tr (A.toN j)).n (tr (A.toN j)).g) (aG 4 n' g')]))(y2:c0=aC->c1=ak->ψ (bJ 0 [aJ 1 1,bC (fun (x:Nat)=>BK B.lv B.N B.T B.N B.ms B.k0 B.g0) fun (x:Nat)=>BK B.lv B.N B.T B.N B.ms B.k0 B.g0,aJ 0 0,aj i i,aQ (aG 2 k (zX u)) (aG 2 k (zX u)),aj (ah k) (ah k),aj i i,aQ (aG 4 t (zX tr)) (aG 4 t (zX tr)),aj (ah t) (ah t),aj (A.add .i64 j (ah 1)) j',aj p p,aQ (aG 4 n g) (aG 4 n g),aj x.tx x.tx,pz x.com x.com]))(y3:c0=ak->False):Cc ψ (AQ (C7 A W (Dc hs lv B) Ap) Bh 300 400 16 aso (LNb B k u i p n g x t tr j) [] [⟨16,Zo,LNb B k u i p n g x t tr j',[]⟩,⟨16,Zn,LNa B k u i' p' n' g',[]⟩]):=by
 subst e0 e1;exact Gh (an (fun q0=>an (h1 q0) (an (y1 q0) (y2 q0))) y3) (by kernel_rfl)
theorem acj(A:Prim)(W:Wd)(B:Ht)(hs:Sh)(lv:Int)(t:Nat)(tr:Nat->Jo)(c c':Nat)(cr Qw:Nat->DL)(j j':Int){ψ:D8->Prop}{c0:Bool}(e0:A.lt j (ah t)=c0)(h1:c0=aC->(A.inB j t)=aC)(h2:c0=aC->(A.room (A.addN c 1) 16)=aC)(y1:c0=aC->ψ (bJ 0 [aQ (aG 4 t (zX tr)) (aG 4 t (zX tr)),aj (ah t) (ah t),aj (A.add .i64 j (ah 1)) j',aJ (A.addN c 1) c',Bj.get (A.addN c 1) (A.snoc (zX cr) c (AU [[aW .i64 (tr (A.toN j)).tx,eF (tr (A.toN j)).com]])) (zX Qw)]))(y2:c0=ak->ψ (aP (cZ [Sh.os 55 2 c (zX cr),Sh.v bI]))):Cc ψ (AQ (C7 A W (Dc hs lv B) Ap) Bh 300 400 16 aqg (LNc t tr c cr j) [] [⟨16,Zp,LNc t tr c' Qw j',[]⟩]):=by
 subst e0;exact Gh (an (fun q0=>an (h1 q0) (an (h2 q0) (y1 q0))) y2) (by kernel_rfl)
end Go.Proofs
namespace Go.Pl
open Go Go.Sx Go.Proofs Go.Gm Go.Bf
noncomputable def naB(s:Sh)(lv:Int)(k:Nat)(u:Nat->List Sh):Bool:=hsB s lv&&((CZ s lv).okb&&(okB DL k u&&(decide (k<=1000)&&(wkO s lv k u).isSome)))
noncomputable def nxN(s:Sh)(lv:Int)(k:Nat)(u:Nat->List Sh):Nat:=(nxL s lv k u).length
noncomputable def nxR(s:Sh)(lv:Int)(k:Nat)(u:Nat->List Sh):Nat->DL:=nth (nxL s lv k u)
end Go.Pl
namespace Go.Proofs
open Go Go.Sx Go.Pl Go.Gm Go.Bf
noncomputable def aqh:List Sh->Tree Sh
 |[s,t,v]=>match AY t,DV 2 v with
  |some lv,ay (k,u)=>.need (naB s lv k u) (.leaf (.Ak [.sl 2 (nxN s lv k u) (zX (nxR s lv k u)),.v .nilIface])) |_,_=>.fail
 |_=>.fail
section
variable{H0:Mem}{w0:World}{φ:Sh->Prop}{B:Ht}{Q:Nd SG->Prop}{hs:Sh}{lv:Int}
theorem akR(Fa:Ar aB (AZ W7) 40 (WU hs lv B))(ts:List ((Int×Bool)×Nd SG))(hl:ts.length<=1000)(hφ:φ (.Ak [.sl 2 ts.length (zX (nth (ts.map fun t=>D7 t.1))),.v .nilIface])):
  ∀r j (acc:List DL),j+r=ts.length->acc=(ts.take j).map (fun t=>D7 t.1)->
  Bd aB (C7 zW W7 (Dc hs lv B) Ap) (K0 H0 w0) 16 Zp (LNc ts.length (nth (ts.map (Gx B.k0))) acc.length (nth acc) (j:Nat)) [] emp (up φ)
 |0,j,acc,hj,ha=>by
  refine Gu (fn:=mJ) (tb:=aqg) (by kernel_rfl) (by kernel_rfl) ?_;have lt {P:Prop} (h:zW.lt (j:Int) (ah ts.length)=aC):P:=by simp[Ad] at h;omega
  refine EJ (dw _ _) (FC Fa _) (hold:=Bh) (m:=300) (n:=400) (ts:=[⟨16,Zp,LNc ts.length (nth (ts.map (Gx B.k0))) 0 (nth []) 0,[]⟩]) ?_;refine acj zW W7 B hs lv _ _ _ 0 (nth acc) (nth []) j 0 rfl (fun q=>lt q) (fun q=>lt q) (fun q=>lt q) (fun _=>?_);have e:acc=ts.map fun t=>D7 t.1:=by rw[ha,List.take_of_length_le (by omega)]
  refine BH (s':=.Ak [.sl 2 ts.length (zX (nth (ts.map fun t=>D7 t.1))),.v .nilIface]) ⟨.inr ⟨rfl,?_,fun i hi=>?_⟩,rfl,trivial⟩ hφ
  ·rw[e,dW]
  ·rw[e]
 |r+1,j,acc,hj,ha=>by
  obtain ⟨t,ht⟩:∃t,ts[j]?=ay t:=⟨_,aV (by omega)⟩;have htr:nth (ts.map (Gx B.k0)) (zW.toN (j:Int))=Gx B.k0 t:=Pg _ _ ht;have htk:ts.take (j+1)=ts.take j++[t]:=by
   rw[List.take_add_one,ht];rfl
  have nx:=akR Fa ts hl hφ r (j+1) (acc++[D7 t.1]) (by omega) (by rw[htk,iO,<-ha];rfl);obtain ⟨tr,etr⟩:∃tr,nth (ts.map (Gx B.k0))=tr:=⟨_,rfl⟩;rw[etr] at htr nx ⊢;have hal:acc.length<=1000:=by rw[ha,dW,List.length_take];omega
  refine Gu (fn:=mJ) (tb:=aqg) (by kernel_rfl) (by kernel_rfl) ?_;have w1:zW.add .i64 (j:Int) (ah 1)=((j+1:Nat):Int):=add1 (by omega);have no {P:Prop} (h:zW.lt (j:Int) (ah ts.length)=ak):P:=by simp[Ad] at h;omega
  have inb:zW.inB (j:Int) ts.length=aC:=by rw[Bl,decide_eq_true_eq];omega
  refine EJ (dw _ _) (FC Fa _) (hold:=Bh) (m:=300) (n:=400) (ts:=[⟨16,Zp,LNc ts.length tr (acc++[D7 t.1]).length (nth (acc++[D7 t.1])) ((j+1:Nat):Int),[]⟩]) ?_;refine acj zW W7 B hs lv _ tr _ _ (nth acc) _ j _ rfl (fun _=>inb) (fun _=>by rw[Ew,decide_eq_true_eq,Dl];unfold maxLen;omega) (fun _=>?_) (fun q=>no q);exact ⟨⟨rfl,rfl,w1,by rw[List.length_append];rfl,fun i hi=>Ip acc (D7 t.1) _ (by rw[htr];rfl) i hi,trivial⟩,_,rfl,nx⟩
theorem akS(Fa:Ar aB (AZ W7) 40 (WU hs lv B))(hg:Le B Q)(nd:Nd SG)(hq:Q nd){k:Nat}{u:Nat->DL}{i:Nat}(hi:i<=1000)(s:Int×Bool){t0:(Int×Bool)×Nd SG}
  (hA:Bd aB (C7 zW W7 (Dc hs lv B) Ap) (K0 H0 w0) 16 Zn (LNa B k u ((i+1:Nat):Int) (t0.2.placed:Nat) B.k0 t0.2.st) [] emp (up φ)) :
  ∀r j,j+r=(turns (Gb B) nd).length->((turns (Gb B) nd).drop j).find? (fun t=>t.1==s)=ay t0->
  Bd aB (C7 zW W7 (Dc hs lv B) Ap) (K0 H0 w0) 16 Zo (LNb B k u (i:Nat) (nd.placed:Nat) B.k0 nd.st (D7 s) (turns (Gb B) nd).length (nth ((turns (Gb B) nd).map (Gx B.k0))) (j:Nat)) [] emp (up φ)
 |0,j,hj,hf=>by
  rw[List.drop_eq_nil_of_le (by omega)] at hf;cases hf
 |r+1,j,hj,hf=>by
  have hjl:j<(turns (Gb B) nd).length:=by omega
  have hN:(turns (Gb B) nd).length<=124:=Ph (hg.tu nd hq).le nd;obtain ⟨t,ht⟩:∃t,(turns (Gb B) nd)[j]?=ay t:=⟨_,aV hjl⟩;have hd:(turns (Gb B) nd).drop j=t::(turns (Gb B) nd).drop (j+1):=by
   rw[List.drop_eq_getElem_cons hjl];congr 1;rw[aV hjl] at ht;exact dh ht
  rw[hd] at hf;have htr:nth ((turns (Gb B) nd).map (Gx B.k0)) (zW.toN (j:Int))=Gx B.k0 t:=Pg _ _ ht;have ih:=fun h=>akS Fa hg nd hq hi s hA r (j+1) (by omega) h;obtain ⟨tr,etr⟩:∃tr,nth ((turns (Gb B) nd).map (Gx B.k0))=tr:=⟨_,rfl⟩;rw[etr] at htr ih ⊢;refine Gu (fn:=mJ) (tb:=aso) (by kernel_rfl) (by kernel_rfl) ?_;have w1:zW.add .i64 (j:Int) (ah 1)=((j+1:Nat):Int):=add1 (by omega);have w2:zW.add .i64 (i:Int) (ah 1)=((i+1:Nat):Int):=add1 (by omega);have no {P:Prop} (h:zW.lt (j:Int) (ah (turns (Gb B) nd).length)=ak):P:=by simp[Ad] at h;omega
  have inb:zW.inB (j:Int) (turns (Gb B) nd).length=aC:=by rw[Bl,decide_eq_true_eq];omega
  have hc:zW.ite (zW.eq (tr (zW.toN (j:Int))).tx (D7 s).tx) (zW.ite (zW.beq (tr (zW.toN (j:Int))).com (D7 s).com) aC ak) ak=(t.1==s):=by
   rw[htr];obtain ⟨⟨a,b⟩,nd'⟩:=t;obtain ⟨c,d⟩:=s;show (bif a==c then (bif b==d then aC else ak) else ak)=((a,b)==(c,d));by_cases h1:a=c
   ·subst h1
    by_cases h2:b=d
    ·subst h2;simp
    ·have e1:(b==d)=ak:=beq_eq_false_iff_ne.2 h2
     have e2:((a,b)==(a,d))=ak:=beq_eq_false_iff_ne.2 fun e=>h2 (wL e).2;rw[e1,e2];simp
   ·have e1:(a==c)=ak:=beq_eq_false_iff_ne.2 h1
    have e2:((a,b)==(c,d))=ak:=beq_eq_false_iff_ne.2 fun e=>h1 (wL e).1;rw[e1,e2];rfl
  cases hb:(t.1==s) with
  |true=>
   have e:t=t0:=by
    rw[List.find?_cons_of_pos (p:=fun t:(Int×Bool)×Nd SG=>t.1==s) hb] at hf;exact dh hf
   subst e;refine EJ (dw _ _) (FC Fa _) (hold:=Bh) (m:=300) (n:=400) (ts:=[⟨16,Zo,LNb B k u (i:Nat) (nd.placed:Nat) B.k0 nd.st (D7 s) (turns (Gb B) nd).length tr 0,[]⟩,⟨16,Zn,LNa B k u ((i+1:Nat):Int) (t.2.placed:Nat) B.k0 t.2.st,[]⟩]) ?_;refine aci zW W7 B hs lv k u i _ B.k0 nd.st (D7 s) _ tr j 0 _ _ _ _ (c1:=aC) rfl (by rw[hc];exact hb) (fun _=>inb) (fun _ _=>?_) (fun _ q=>by cases q) (fun q=>no q);exact ⟨⟨rfl,rfl,rfl,rfl,rfl,w2,congrArg Jo.placed htr,congrArg (fun x:Jo=>aG 4 x.n x.g) htr,trivial⟩,_,rfl,hA⟩
  |false=>
   have nx:=ih (by
    rw[List.find?_cons_of_neg (p:=fun t:(Int×Bool)×Nd SG=>t.1==s) (by rw[hb];simp)] at hf;exact hf)
   refine EJ (dw _ _) (FC Fa _) (hold:=Bh) (m:=300) (n:=400) (ts:=[⟨16,Zo,LNb B k u (i:Nat) (nd.placed:Nat) B.k0 nd.st (D7 s) (turns (Gb B) nd).length tr ((j+1:Nat):Int),[]⟩,⟨16,Zn,LNa B k u 0 0 B.k0 nd.st,[]⟩]) ?_;refine aci zW W7 B hs lv k u i _ B.k0 nd.st (D7 s) _ tr j _ _ 0 _ _ (c1:=ak) rfl (by rw[hc];exact hb) (fun _=>inb) (fun _ q=>by cases q) (fun _ _=>?_) (fun q=>no q);exact ⟨⟨rfl,rfl,rfl,rfl,rfl,rfl,rfl,rfl,rfl,w1,rfl,rfl,rfl,rfl,trivial⟩,_,rfl,nx⟩
theorem akT(Fa:Ar aB (AZ W7) 40 (WU hs lv B))(hg:Le B Q){k:Nat}(hk:k<=1000){u:Nat->DL}{nd':Nd SG}(hφ:φ (.Ak [.sl 2 (turns (Gb B) nd').length (zX (nth ((turns (Gb B) nd').map fun t=>D7 t.1))),.v .nilIface])):
  ∀(l:List (Int×Bool)) (i:Nat) (nd:Nd SG),i+l.length=k->(∀j s,l[j]?=ay s->u (i+j)=D7 s)->Q nd->walk (Gb B) nd l=ay nd'->
  Bd aB (C7 zW W7 (Dc hs lv B) Ap) (K0 H0 w0) 16 Zn (LNa B k u (i:Nat) (nd.placed:Nat) B.k0 nd.st) [] emp (up φ)
 |[],i,nd,hi,hu,hq,hw=>by
  have hw:ay nd=ay nd':=hw;rw[<-dh hw] at hφ;have hN:(turns (Gb B) nd).length<=124:=Ph (hg.tu nd hq).le nd;refine Gu (fn:=mJ) (tb:=aqf) (by kernel_rfl) (by kernel_rfl) ?_;have lt {P:Prop} (h:zW.lt (i:Int) (ah k)=aC):P:=by simp[Ad] at h;simp at hi;omega
  have nx:=akR (H0:=H0) (w0:=w0) Fa (turns (Gb B) nd) (by omega) hφ (turns (Gb B) nd).length 0 [] (by omega) rfl;refine EJ (dw _ _) (FC Fa _) (hold:=Bh) (m:=300) (n:=400) (ts:=[⟨16,Zo,LNb B k u (i:Nat) (nd.placed:Nat) B.k0 nd.st default (turns (Gb B) nd).length (nth ((turns (Gb B) nd).map (Gx B.k0))) 0,[]⟩,⟨16,Zp,LNc (turns (Gb B) nd).length (nth ((turns (Gb B) nd).map (Gx B.k0))) 0 (nth []) ((0:Nat):Int),[]⟩]) ?_;exact ach zW W7 B hs lv k u i _ B.k0 nd.st default _ _ (nth []) rfl (fun q=>lt q) (fun q=>lt q) (fun _=>WW hg hq rfl) (fun q=>lt q) (fun _=>⟨⟨by rw[KG,WX];rfl,by rw[KG];rfl,rfl,rfl,trivial⟩,_,rfl,nx⟩)
 |s::l,i,nd,hi,hu,hq,hw=>by
  rw[List.length_cons] at hi;rw[walk] at hw;cases hf:(turns (Gb B) nd).find? fun t=>t.1==s with
  |none=>rw[hf] at hw;cases hw |some t0=>
   rw[hf] at hw;have hqt:Q t0.2:=hg.step nd hq _ (dK.2 ⟨t0,qm hf,rfl⟩);have hA:=akT Fa hg hk hφ l (i+1) t0.2 (by omega) (fun j s hs=>by
    have:=hu (j+1) s (by simpa using hs);rw[show i+1+j=i+(j+1) by omega];exact this) hqt hw
   have hus:u i=D7 s:=hu 0 s rfl;have nx:=akS (H0:=H0) (w0:=w0) Fa hg nd hq (k:=k) (u:=u) (i:=i) (by omega) s hA (turns (Gb B) nd).length 0 (by omega) (by rw[List.drop_zero];exact hf);refine Gu (fn:=mJ) (tb:=aqf) (by kernel_rfl) (by kernel_rfl) ?_;have no {P:Prop} (h:zW.lt (i:Int) (ah k)=ak):P:=by simp[Ad] at h;omega
   have inb:zW.inB (i:Int) k=aC:=by rw[Bl,decide_eq_true_eq];omega
   refine EJ (dw _ _) (FC Fa _) (hold:=Bh) (m:=300) (n:=400) (ts:=[⟨16,Zo,LNb B k u (i:Nat) (nd.placed:Nat) B.k0 nd.st (D7 s) (turns (Gb B) nd).length (nth ((turns (Gb B) nd).map (Gx B.k0))) ((0:Nat):Int),[]⟩,⟨16,Zp,LNc (turns (Gb B) nd).length (nth ((turns (Gb B) nd).map (Gx B.k0))) 0 (nth []) 0,[]⟩]) ?_;refine ach zW W7 B hs lv k u i _ B.k0 nd.st (D7 s) _ _ (nth []) rfl (fun _=>inb) (fun _=>WW hg hq rfl) (fun q=>no q) (fun _=>?_) (fun q=>no q);exact ⟨⟨rfl,rfl,rfl,rfl,rfl,rfl,rfl,by rw[KG,WX];rfl,by rw[KG];rfl,rfl,rfl,rfl,congrArg DL.tx hus,congrArg DL.com hus,trivial⟩,_,rfl,nx⟩
end
theorem awK:Ar aB (AZ W7) 16 aqh:=by
 intro H w A8 args φ hon hgl hr hφ;unfold aqh at hφ;split at hφ
 ·rename_i s t v
  split at hφ
  ·rename_i lv k u e1 e2
   obtain ⟨q1,hφ⟩:=hφ;unfold naB at q1;rw[aI,aI,aI,aI,decide_eq_true_eq] at q1;obtain ⟨b1,b2,b3,b4,b5⟩:=q1;obtain ⟨n,g,m,h,rfl,P,l1,l3⟩:=@of_decide_eq_true _ (bM _) b1;have hφ:φ (.Ak [.sl 2 (nxN (hsS n g m h) lv k u) (zX (nxR (hsS n g m h) lv k u)),.v .nilIface]):=hφ;have O:=Fa (O20 P) l1 l3 (ap8 P);have hbg:CZ (hsS n g m h) lv=Bz lv n g (BI n g m h):=rfl;have hT:((BI n g m h).okb&&decide ((BI n g m h).n<=12))=aC:=b2;rw[aI,decide_eq_true_eq] at hT;have hG:=TM (lv:=lv) (afi P hT.1 hT.2);obtain ⟨nd',hw⟩:=dZ.1 b5;have hL:nxL (hsS n g m h) lv k u=(turns (Gb (Bz lv n g (BI n g m h))) nd').map fun t=>D7 t.1:=by unfold nxL;rw[hw,hbg]
   unfold nxN nxR at hφ;rw[hL,dW] at hφ;unfold wkO at hw;rw[hbg] at hw;match args,hr with
   |[a0,a1,a2],⟨r0,r1,r2,_⟩=>
   refine MK (C:=C7 zW W7 (Dc (hsS n g m h) lv (Bz lv n g (BI n g m h))) Ap) (dw _ _) (fn:=mJ) (DX:=[hsS n g m h,.i .i64 lv,.sl 2 k (zX (zZ (α:=DL) u))]) (L:=L0) (by kernel_rfl) (by kernel_rfl) hon hgl ⟨r0,Ej e1 r1,Ei (BD e2 r2) b3,trivial⟩ ?_;have hn:mJ.ntmps=85:=by kernel_rfl
   refine EJ (dw _ _) (FC O _) (hold:=Bh) (m:=300) (n:=400) (ts:=[⟨16,Zn,LNa (Bz lv n g (BI n g m h)) k (zZ u) ((0:Nat):Int) 0 (Bz lv n g (BI n g m h)).k0 (Bz lv n g (BI n g m h)).g0,[]⟩]) ?_;rw[hn];have c0 {P:Prop} (q:zW.lt lv (ah 1)=aC):P:=by simp[Ad] at q;omega
   have c1 {P:Prop} (q:zW.lt (ah 3) lv=aC):P:=by simp[Ad] at q;omega
   have nx:=akT (H0:=H) (w0:=w) (φ:=φ) (hs:=hsS n g m h) (lv:=lv) O hG b4 (u:=zZ u) hφ ((lst DL k u).map fun x=>(x.tx,x.com)) 0 ⟨0,(Bz lv n g (BI n g m h)).g0⟩ (by simp) (fun j s hs=>by
    rw[gV] at hs;unfold lst at hs;rw[gV] at hs;obtain ⟨hj,_⟩:=aU.1 (show (aX k)[j]?=ay ((aX k)[j]?.getD 0) by
     cases hx:(aX k)[j]? with
     |none=>rw[hx] at hs;cases hs |some x=>rfl)
    rw[lG] at hj;rw[mY hj] at hs;cases hs;rw[Nat.zero_add];rfl) hG.start hw
   exact ajx zW W7 (Bz lv n g (BI n g m h)) lv n m g h k (zZ u) ((0:Nat):Int) (c2:=aC) rfl rfl b2 rfl (fun _ _=>@decide_eq_true _ (bM _) ⟨rfl,rfl⟩) (fun q=>c0 q) (fun _ q=>c1 q)
    (fun _ _ _=>⟨⟨rfl,rfl,rfl,rfl,rfl,rfl,rfl,rfl,trivial⟩,_,rfl,nx⟩) (fun _ _ q=>by cases q) (fun _ _ q=>by cases q)
  ·exact hφ.elim
 ·exact hφ.elim
end Go.Proofs
namespace Go.Gm
open Go.Bf
theorem ad4{α β:Type}{p:β->Bool}{q:α->Bool}{F:α->β}:∀{l:List α},(∀x∈l,p (F x)=q x)->(l.map F).find? p=(l.find? q).map F
 |[],_=>rfl |a::l,h=>by
  rw[jm,vX,vX,h a cO];cases q a with
  |true=>rfl |false=>exact ad4 fun x hx=>h x (dB _ hx)
section
variable{S S' κ κ':Type}[DecidableEq κ][DecidableEq κ']{g:Game S}{g':Game S'}{key:Nd S->κ}{key':Nd S'->κ'}{f:S'->S}{Q:Nd S'->Prop}
def Dv(f:S'->S)(nd:Nd S'):Nd S:=⟨nd.placed,f nd.st⟩
structure N7(g:Game S)(g':Game S')(f:S'->S)(Q:Nd S'->Prop):Prop where
 n:g.n=g'.n
 id:∀i,i<g'.n->g.id i=g'.id i
 com:∀i,i<g'.n->g.com i=g'.com i
 abo:∀i,i<g'.n->g.abo i=g'.abo i
 mask:∀i,i<g'.n->g.mask i=g'.mask i
 all:g.all=g'.all
 run:∀nd,Q nd->∀i,i<g'.n->may g' nd.placed i=aC->g.run (f nd.st) i=(g'.run nd.st i).map f
 step:∀nd,Q nd->∀t∈next g' nd,Q t
theorem aqi(h:N7 g g' f Q)(p i:Nat)(hi:i<g'.n):may g p i=may g' p i:=by
 unfold may;rw[h.n,h.mask i hi]
theorem ajy(h:N7 g g' f Q){nd:Nd S'}(hq:Q nd){i:Nat}(hi:i<g'.n):G5 g (Dv f nd) i=(G5 g' nd i).map fun t=>(t.1,Dv f t.2):=by
 unfold G5;have e:may g (Dv f nd).placed i=may g' nd.placed i:=aqi h _ _ hi;rw[e];cases hm:may g' nd.placed i with
 |false=>rfl |true=>
  have hr:=h.run nd hq i hi hm;have hr:g.run (Dv f nd).st i=(g'.run nd.st i).map f:=hr;rw[if_pos rfl,if_pos rfl,hr,h.com i hi,h.abo i hi,h.all,h.id i hi,iO];have hs:((g'.run nd.st i).map f).isSome=(g'.run nd.st i).isSome:=by cases g'.run nd.st i<;>rfl
  rw[hs];congr 1
  ·cases g'.com i<;>cases g'.run nd.st i<;>rfl
  ·split<;>rfl
theorem Vm(h:N7 g g' f Q){nd:Nd S'}(hq:Q nd):turns g (Dv f nd)=(turns g' nd).map fun t=>(t.1,Dv f t.2):=by
 unfold turns;rw[h.n,List.map_flatMap,lV,lV];congr 1;exact jO fun i hi=>ajy h hq (dP.1 hi)
theorem ad5(h:N7 g g' f Q){nd:Nd S'}(hq:Q nd):next g (Dv f nd)=(next g' nd).map (Dv f):=by
 unfold next;rw[Vm h hq,l9,l9];rfl
theorem ad6(h:N7 g g' f Q)(nd:Nd S'):full g (Dv f nd)=full g' nd:=by unfold full;rw[h.n];rfl
variable(hk:∀x y,Q x->Q y->(key (Dv f x)=key (Dv f y)↔key' x=key' y))
include hk
theorem aqj{o:List (Nd S')}(ho:∀x∈o,Q x){n:Nd S'}(hn:Q n):JE key (o.map (Dv f)) (key (Dv f n))=JE key' o (key' n):=by
 rw[vY,JF,JF];constructor
 ·intro ⟨x,hx,e⟩
  obtain ⟨y,hy,rfl⟩:=dK.1 hx;exact ⟨y,hy,(hk y n (ho y hy) hn).1 e⟩
 ·intro ⟨y,hy,e⟩
  exact ⟨Dv f y,dK.2 ⟨y,hy,rfl⟩,(hk y n (ho y hy) hn).2 e⟩
theorem aqk{m:Nat}{o:List (Nd S')}(ho:∀x∈o,Q x){n:Nd S'}(hn:Q n):FQ key m (o.map (Dv f)) (Dv f n)=(FQ key' m o n).map (mM (Dv f)):=by
 unfold FQ;rw[aqj hk ho hn,dW];split
 ·rfl
 ·split
  ·rfl
  ·simp
theorem ad7{m:Nat}:∀{l o:List (Nd S')},(∀x∈o,Q x)->(∀x∈l,Q x)->Ez key m (o.map (Dv f)) (l.map (Dv f))=(Ez key' m o l).map (mM (Dv f))
 |[],o,_,_=>rfl |n::l,o,ho,hl=>by
  rw[jm,Ez,Ez,aqk hk ho (hl n cO)];cases hp:FQ key' m o n with
  |none=>rfl |some o1=>exact ad7 (adH hp ho (hl n cO)) fun x hx=>hl x (dB _ hx)
theorem ahJ(h:N7 g g' f Q){m:Nat}:∀{fu i:Nat} {o:List (Nd S')},(∀x∈o,Q x)->Gj key (next g) m fu (o.map (Dv f)) i=(Gj key' (next g') m fu o i).map (mM (Dv f))
 |0,_,_,_=>rfl |fu+1,i,o,ho=>by
  rw[Gj,Gj,gV];cases hi:o[i]? with
  |none=>rfl |some n=>
   have hn:=ho n (List.mem_of_getElem? hi);simp only[Option.map_some];rw[ad5 h hn,ad7 hk ho (h.step n hn)];cases hp:Ez key' m o (next g' n) with
   |none=>rfl |some o1=>exact ahJ h (TG hp ho (h.step n hn))
theorem QF(h:N7 g g' f Q):∀{r:List (Nd S')},(∀x∈r,Q x)->∀n,Q n->H8 key (next g) (full g) (r.map (Dv f)) (key (Dv f n))=H8 key' (next g') (full g') r (key' n)
 |[],_,_,_=>rfl |a::r,hr,n,hn=>by
  have ha:=hr a cO;have hr':=fun x hx=>hr x (dB a hx);rw[jm,H8,H8];by_cases e:key' a=key' n
  ·rw[if_pos e,if_pos ((hk a n ha hn).2 e),ad6 h,ad5 h ha,List.any_map]
   congr 1;rw[vY,pG,pG];constructor
   ·intro ⟨t,ht,q⟩
    exact ⟨t,ht,by rw[<-QF h hr' t (h.step a ha t ht)];exact q⟩
   ·intro ⟨t,ht,q⟩
    exact ⟨t,ht,(QF h hr' t (h.step a ha t ht)).trans q⟩
  ·rw[if_neg e,if_neg (fun q=>e ((hk a n ha hn).1 q))]
   exact QF h hr' n hn
theorem ajz(h:N7 g g' f Q){s:S'}(hs:Q (start s))(m:Nat):DK g key (f s) m=(DK g' key' s m).map (mM (Dv f)):=by
 unfold DK;have:=ahJ hk h (m:=m) (fu:=m+1) (i:=0) (o:=[start s]) (fun x hx=>by
  obtain rfl:x=start s:=by simpa using hx
  exact hs)
 exact this
theorem akU(h:N7 g g' f Q){r:List (Nd S')}(hr:∀x∈r,Q x){n:Nd S'}(hn:Q n):TW g key (r.map (Dv f)) (Dv f n)=TW g' key' r n:=QF hk h hr n hn
theorem ahK(h:N7 g g' f Q){r:List (Nd S')}(hr:∀x∈r,Q x){s:S'}(hs:Q (start s)):Sv g key (f s) (r.map (Dv f))=Sv g' key' s r:=akU hk h hr hs
theorem acn(h:N7 g g' f Q){r:List (Nd S')}(hr:∀x∈r,Q x):∀fu (n:Nd S'),Q n->least g (TW g key (r.map (Dv f))) fu (Dv f n)=least g' (TW g' key' r) fu n
 |0,_,_=>rfl |fu+1,n,hn=>by
  rw[least,least,ad6 h,Vm h hn];rw[ad4 (p:=fun t=>TW g key (r.map (Dv f)) t.2) (q:=fun t=>TW g' key' r t.2) (F:=fun t=>(t.1,Dv f t.2)) fun t ht=>akU hk h hr (h.step n hn _ (dK.2 ⟨t,ht,rfl⟩))];cases hf:(turns g' n).find? fun t=>TW g' key' r t.2 with
  |none=>rfl |some t=>
   have ht:=h.step n hn t.2 (dK.2 ⟨t,qm hf,rfl⟩);show (if full g' n=aC then [] else t.1::least g (TW g key (r.map (Dv f))) fu (Dv f t.2))=_;rw[acn h hr fu t.2 ht]
theorem ajA(h:N7 g g' f Q){r:List (Nd S')}(hr:∀x∈r,Q x){s:S'}(hs:Q (start s)):IW g key (f s) (r.map (Dv f))=IW g' key' s r:=by
 unfold IW;rw[ahK hk h hr hs,h.n];split
 ·exact acn hk h hr _ _ hs
 ·rfl
omit hk in
end
end Go.Gm
namespace Go.Pl
open Go Go.Sx Go.Proofs Go.Gm Go.Bf
def Ik(l:List Cm)(j:Nat):Cm:=l.getD j Nr
def SX(n:Nat):List Cm->List Dd->Option (List Cm)
 |l,[]=>ay l |l,d::r=>if d.ret=0 then SX n l r else if Yj n (Ik l) d.obj d.op d.key d.val=aC then
   (if (ED (Ik l d.obj.toNat) d.op d.key d.val).2.1=d.ret/\(ED (Ik l d.obj.toNat) d.op d.key d.val).2.2=d.got then SX n (l.set d.obj.toNat (ED (Ik l d.obj.toNat) d.op d.key d.val).1) r else aK) else aK
def Gz(n:Nat)(g0:SG)(l:List Cm):SG:=fun j=>if j<n then CY (Ik l j) else g0 j
def Kw(B:Ht):Game (List Cm) where
 n:=B.N
 id i:=(B.T i).id
 com i:=(B.T i).st==3||(B.T i).st==2
 abo i:=!((B.T i).st==3)
 mask i:=(B.ms i).toNat
 run l i:=SX B.k0 l (lst Dd (B.T i).k (B.T i).g)
 all:=B.lv==3
def PG(nd:Nd (List Cm)):Nat×List Cm:=(nd.placed,nd.st)
section
variable{n:Nat}{g0:SG}
theorem aco(l:List Cm):∀j,j<n->Gz n g0 l j=CY (Ik l j):=fun j hj=>if_pos hj
theorem aql(l:List Cm):∀j,j<n->Ee n (Gz n g0 l) j=Ik l j:=aki (aco l)
theorem al8(l:List Cm)(k:Nat)(s:Cm)(hk:k<l.length)(j:Nat):Ik (l.set k s) j=if j=k then s else Ik l j:=by
 unfold Ik;rw[aY,aY,List.getElem?_set];by_cases e:k=j
 ·subst e;simp[hk]
 ·rw[if_neg e,if_neg (fun h=>e h.symm)]
theorem afl(n:Nat)(g0:SG):∀(dd:List Dd) (l:List Cm) (i:Nat),l.length=n->
  match SX n l dd with
  |some l'=>H7 n (Gz n g0 l) i dd=.inr (Gz n g0 l')/\l'.length=n |none=>∃q,H7 n (Gz n g0 l) i dd=.inl q
 |[],l,i,hl=>⟨rfl,hl⟩ |d::dd,l,i,hl=>by
  unfold SX H7;by_cases h0:d.ret=0
  ·rw[if_pos h0,if_pos h0]
   exact afl n g0 dd l (i+1) hl
  ·rw[if_neg h0,if_neg h0]
   have hok:TU n (Gz n g0 l) d.obj d.op d.key d.val=Yj n (Ik l) d.obj d.op d.key d.val:=ab9 (aql l) _ _ _ _;rw[hok];by_cases h1:Yj n (Ik l) d.obj d.op d.key d.val=aC
   ·rw[if_pos h1,if_pos h1]
    obtain ⟨hi,_⟩:=ahC h1;have hi':0<=d.obj/\d.obj<n:=of_decide_eq_true hi;have hs:Ee n (Gz n g0 l) d.obj.toNat=Ik l d.obj.toNat:=aql l _ (by omega);have hr:ag5 n (Gz n g0 l) d.obj d.op d.key d.val=(ED (Ik l d.obj.toNat) d.op d.key d.val).2.1:=by unfold ag5;rw[hs]
    have hgt:ag6 n (Gz n g0 l) d.obj d.op d.key d.val=(ED (Ik l d.obj.toNat) d.op d.key d.val).2.2:=by unfold ag6;rw[hs]
    have hn:abu n (Gz n g0 l) d.obj d.op d.key d.val=Gz n g0 (l.set d.obj.toNat (ED (Ik l d.obj.toNat) d.op d.key d.val).1):=by
     funext j;show (if JC n d.obj=aC/\j=d.obj.toNat then CY (ED (Ee n (Gz n g0 l) d.obj.toNat) d.op d.key d.val).1 else Gz n g0 l j)=if j<n then CY (Ik (l.set d.obj.toNat _) j) else g0 j;rw[hs,al8 _ _ _ (by omega)];by_cases e:j=d.obj.toNat
     ·rw[if_pos ⟨hi,e⟩,if_pos (by omega),if_pos e]
     ·rw[if_neg (fun q=>e q.2),if_neg e];rfl
    rw[hr,hgt,hn];by_cases h2:(ED (Ik l d.obj.toNat) d.op d.key d.val).2.1=d.ret/\(ED (Ik l d.obj.toNat) d.op d.key d.val).2.2=d.got
    ·rw[if_pos h2,if_pos h2]
     exact afl n g0 dd _ (i+1) (by rw[List.length_set];exact hl)
    ·rw[if_neg h2,if_neg h2]
     exact ⟨_,rfl⟩
   ·rw[if_neg h1,if_neg h1]
    exact ⟨_,rfl⟩
end
section
variable{lv:Int}{n:Nat}{og:Nat->List Sh}{B:WY}
def QlP(lv:Int)(n:Nat)(og:Nat->List Sh)(B:WY)(nd:Nd (List Cm)):Prop:=nd.st.length=n/\QnP lv n og B (Dv (Gz n (Hu og)) nd)
theorem ajB(nd:Nd (List Cm))(hl:nd.st.length=n)(i:Nat):
  (Gb (Bz lv n og B)).run (Gz n (Hu og) nd.st) i=((Kw (Bz lv n og B)).run nd.st i).map (Gz n (Hu og))/\∀l',(Kw (Bz lv n og B)).run nd.st i=ay l'->l'.length=n:=by
 have h:=afl n (Hu og) (lst Dd ((Bz lv n og B).T i).k ((Bz lv n og B).T i).g) nd.st 0 hl;show (if plO n (Gz n (Hu og) nd.st) ((Bz lv n og B).T i).k ((Bz lv n og B).T i).g=aC then ay (TV n (Gz n (Hu og) nd.st) ((Bz lv n og B).T i).k ((Bz lv n og B).T i).g) else aK)=(SX n nd.st (lst Dd ((Bz lv n og B).T i).k ((Bz lv n og B).T i).g)).map (Gz n (Hu og))/\∀l',SX n nd.st (lst Dd ((Bz lv n og B).T i).k ((Bz lv n og B).T i).g)=ay l'->l'.length=n;unfold plO TV abx aby;cases hp:SX n nd.st (lst Dd ((Bz lv n og B).T i).k ((Bz lv n og B).T i).g) with
 |some l'=>
  rw[hp] at h;rw[h.1];exact ⟨rfl,fun l2 e=>by cases e;exact h.2⟩
 |none=>
  rw[hp] at h;obtain ⟨q,hq⟩:=h;rw[hq];exact ⟨rfl,fun l2 e=>by cases e⟩
theorem Xl(P:TbP n og B):N7 (Gb (Bz lv n og B)) (Kw (Bz lv n og B)) (Gz n (Hu og)) (QlP lv n og B) where
 n:=rfl
 id _ _:=rfl
 com _ _:=rfl
 abo _ _:=rfl
 mask _ _:=rfl
 all:=rfl
 run nd hq i _ _:=(ajB nd hq.1 i).1
 step nd hq t ht:=by
  have hG:=TM (lv:=lv) P;have hlen:t.st.length=n:=by
   unfold next turns at ht;obtain ⟨x,hx,rfl⟩:=dK.1 ht;obtain ⟨i,hi,hx⟩:=kM.1 hx;unfold G5 at hx;split at hx
   ·rcases bK.1 hx with hx|hx
    ·split at hx
     ·rename_i s e1 e2
      obtain rfl:x=_:=by simpa using hx
      exact (ajB (lv:=lv) (og:=og) (B:=B) nd hq.1 i).2 s e2
     ·cases hx
    ·split at hx
     ·obtain rfl:x=_:=by simpa using hx
      exact hq.1
     ·cases hx
   ·cases hx
  refine ⟨hlen,hG.step _ hq.2 _ ?_⟩;have key:N7 (Gb (Bz lv n og B)) (Kw (Bz lv n og B)) (Gz n (Hu og)) (fun x=>x=nd/\x.st.length=n)\/True:=.inr trivial;unfold next turns at ht ⊢;obtain ⟨x,hx,rfl⟩:=dK.1 ht;obtain ⟨i,hi,hx⟩:=kM.1 hx;refine dK.2 ⟨(x.1,Dv (Gz n (Hu og)) x.2),kM.2 ⟨i,hi,?_⟩,rfl⟩;have hr:=(ajB (lv:=lv) (og:=og) (B:=B) nd hq.1 i).1;unfold G5 at hx ⊢;have em:may (Gb (Bz lv n og B)) (Dv (Gz n (Hu og)) nd).placed i=may (Kw (Bz lv n og B)) nd.placed i:=rfl;rw[em];have hr':(Gb (Bz lv n og B)).run (Dv (Gz n (Hu og)) nd).st i=((Kw (Bz lv n og B)).run nd.st i).map (Gz n (Hu og)):=hr;rw[hr'];split at hx
  ·rename_i hm
   rw[if_pos hm];rcases bK.1 hx with hx|hx
   ·refine List.mem_append_left _ ?_
    split at hx
    ·rename_i s e1 e2
     obtain rfl:x=_:=by simpa using hx
     rw[e2];have e1':(Gb (Bz lv n og B)).com i=aC:=e1;rw[e1'];exact tC.2 rfl
    ·cases hx
   ·refine List.mem_append_right _ ?_
    split at hx
    ·rename_i hc
     obtain rfl:x=_:=by simpa using hx
     have hc':(Gb (Bz lv n og B)).abo i=aC/\((Gb (Bz lv n og B)).all=aC->(((Kw (Bz lv n og B)).run nd.st i).map (Gz n (Hu og))).isSome=aC):=⟨hc.1,fun q=>by
      have:=hc.2 q;revert this;cases (Kw (Bz lv n og B)).run nd.st i<;>simp⟩
     rw[if_pos hc'];exact tC.2 rfl
    ·cases hx
  ·cases hx
theorem al9{l l':List Cm}(h1:l.length=n)(h2:l'.length=n)(h:∀j,j<n->Ik l j=Ik l' j):l=l':=by
 apply List.ext_getElem (by omega);intro j hj hj';have:=h j (by omega);unfold Ik at this;rw[aY,aY,aV hj,aV hj'] at this;exact this
theorem ajC:∀x y,QlP lv n og B x->QlP lv n og B y->(CP n (Dv (Gz n (Hu og)) x)=CP n (Dv (Gz n (Hu og)) y)↔PG x=PG y):=fun x y hx hy=>by
 constructor
 ·intro h
  have e:=ad1 _ _ hx.2 hy.2 h;obtain ⟨p,l⟩:=x;obtain ⟨p',l'⟩:=y;have e1:p=p':=congrArg Nd.placed e;have e2:Gz n (Hu og) l=Gz n (Hu og) l':=congrArg Nd.st e;have e3:l=l':=al9 hx.1 hy.1 fun j hj=>by
   have:=congrFun e2 j;rw[aco l j hj,aco l' j hj] at this;exact TB this
  rw[e1,e3]
 ·intro h
  obtain ⟨p,l⟩:=x;obtain ⟨p',l'⟩:=y;have h:(p,l)=(p',l'):=h;cases h;rfl
def newL(n:Nat)(og:Nat->List Sh):List Cm:=(aX n).map fun j=>newT (zZ og) j
theorem afm:Gz n (Hu og) (newL n og)=Hu og:=by
 funext j;unfold Gz;split
 ·rename_i hj
  unfold Ik newL;rw[aY,gV,mY hj];rfl
 ·rfl
theorem SY(P:TbP n og B):QlP lv n og B (iK (newL n og)):=⟨by show (newL n og).length=n;unfold newL;simp,by
 have h:=(TM (lv:=lv) P).start;have e:Dv (Gz n (Hu og)) (iK (newL n og))=⟨0,(Bz lv n og B).g0⟩:=by
  show (⟨0,Gz n (Hu og) (newL n og)⟩:Nd SG)=⟨0,Hu og⟩;rw[afm]
 rw[e];exact h⟩
end
open Go Go.Sx Go.Proofs Go.Gm Go.Bf
def ex(k t th o p v r:Int):List Sh:=[.i .i64 k,.i .i64 t,.i .i64 th,.i .i64 o,.i .i64 p,.i .i64 0,.i .i64 v,.i .i64 r]
def Eh:Nat->List Sh:=AU [[.i .i64 1,.i .i64 0]]
def exL:List (List Sh):=[ex 1 1 0 0 0 0 0,ex 1 2 1 0 0 0 0,ex 2 1 0 0 1 0 0,ex 3 1 0 0 0 0 3,ex 2 2 0 0 1 0 0,ex 3 2 0 0 0 0 3,ex 2 1 0 0 2 1 0,ex 3 1 0 0 0 0 1,ex 2 2 0 0 2 2 0,ex 3 2 0 0 0 0 1,ex 4 1 0 0 0 0 0,ex 5 1 0 0 0 0 0,ex 4 2 0 0 0 0 0]
def Ir:Nat->List Sh:=AU exL
def ZC:Nat->List Sh:=zW.snoc Ir 13 (AU [ex 5 2 0 0 0 0 0])
section
variable{n m:Nat}{g h:Nat->List Sh}{lv:Int}
theorem ajD(P:Yr n g m h)(hb:(CZ (hsS n g m h) lv).okb=aC)(mo:Int):
  Xg (hsS n g m h) lv mo=(DK (Kw (CZ (hsS n g m h) lv)) PG (newL n g) mo.toNat).map (mM (Dv (Gz n (Hu g))))/\
  ∀r,DK (Kw (CZ (hsS n g m h) lv)) PG (newL n g) mo.toNat=ay r->Ub (hsS n g m h) lv mo=Sv (Kw (CZ (hsS n g m h) lv)) PG (newL n g) r/\rtL (hsS n g m h) lv mo=(IW (Kw (CZ (hsS n g m h) lv)) PG (newL n g) r).map D7/\Ll (hsS n g m h) lv mo=((r.length:Nat):Int):=by
 have hT:((BI n g m h).okb&&decide ((BI n g m h).n<=12))=aC:=hb;rw[aI,decide_eq_true_eq] at hT;have T:=afi P hT.1 hT.2;have hp:=ajz (key:=CP n) (key':=PG) (ajC (lv:=lv)) (Xl T) (SY T) mo.toNat;rw[afm] at hp;have e1:Xg (hsS n g m h) lv mo=(DK (Kw (CZ (hsS n g m h) lv)) PG (newL n g) mo.toNat).map (mM (Dv (Gz n (Hu g)))):=hp;refine ⟨e1,fun r hr=>?_⟩;have hr':DK (Kw (Bz lv n g (BI n g m h))) PG (newL n g) mo.toNat=ay r:=hr;have hq:∀x∈r,QlP lv n g (BI n g m h) x:=O8 (Xl T).step hr' (fun x hx=>by
  obtain rfl:x=iK (newL n g):=by simpa using hx
  exact SY T)
 have eL:Xh (hsS n g m h) lv mo=r.map (Dv (Gz n (Hu g))):=by unfold Xh;rw[e1,hr];rfl
 have hy:=ahK (key:=CP n) (key':=PG) (ajC (lv:=lv)) (Xl T) hq (SY T);have hs:=ajA (key:=CP n) (key':=PG) (ajC (lv:=lv)) (Xl T) hq (SY T);rw[afm] at hy hs;refine ⟨?_,?_,?_⟩
 ·unfold Ub;rw[eL];exact hy
 ·unfold rtL;rw[eL];exact congrArg (mM D7) hs
 ·unfold Ll;rw[eL,dW]
end
theorem exH:Yr 1 Eh 13 Ir:=⟨by kernel_rfl,by kernel_rfl,by kernel_rfl,by kernel_rfl⟩
theorem aqn:Yr 1 Eh 14 ZC:=⟨by kernel_rfl,by kernel_rfl,by kernel_rfl,by kernel_rfl⟩
theorem Yu:(CZ (hsS 1 Eh 13 Ir) 1).okb=aC:=by kernel_rfl
theorem akV:(CZ (hsS 1 Eh 14 ZC) 1).okb=aC:=by kernel_rfl
theorem awL:(match DK (Kw (CZ (hsS 1 Eh 13 Ir) 1)) PG (newL 1 Eh) 100 with
  |some r=>r.length==5&&(Sv (Kw (CZ (hsS 1 Eh 13 Ir) 1)) PG (newL 1 Eh) r&&decide (IW (Kw (CZ (hsS 1 Eh 13 Ir) 1)) PG (newL 1 Eh) r=[(1,aC),(2,ak)])) |none=>ak)=aC:=by kernel_rfl
theorem awM:(DK (Kw (CZ (hsS 1 Eh 13 Ir) 1)) PG (newL 1 Eh) 4).isNone=aC:=by kernel_rfl
theorem awN:(match DK (Kw (CZ (hsS 1 Eh 14 ZC) 1)) PG (newL 1 Eh) 100 with
  |some r=>r.length==3 && !Sv (Kw (CZ (hsS 1 Eh 14 ZC) 1)) PG (newL 1 Eh) r |none=>ak)=aC:=by kernel_rfl
theorem awO:((turns (Kw (CZ (hsS 1 Eh 13 Ir) 1)) (iK (newL 1 Eh))).map (·.1))=[(1,aC),(2,aC),(2,ak)]:=by kernel_rfl
end Go.Pl
namespace Go.Sx
def Tree.way{α:Type}:Tree α->List Bj->Option (List Bj×α)
 | .leaf a,l=>ay (l,a) | .node b t f,l=>bif b then t.way l else f.way l | .need b t,l=>bif b then t.way l else aK | .must q t,l=>t.way (q++l) | .both _ _,_=>aK | .fail,_=>aK
theorem Bj.all_append:∀{l m:List Bj},dG (l++m)->dG l/\dG m
 |[],_,h=>⟨trivial,h⟩ |_::_,_,h=>let ⟨h1,h2⟩:=Bj.all_append h.2;⟨⟨h.1,h1⟩,h2⟩
theorem Tree.N8{α:Type}{φ:α->Prop}:∀{t:Tree α} {l q:List Bj} {a:α},t.way l=ay (q,a)->dG q->φ a->t.All φ/\dG l
 | .leaf _,_,_,_,h,hq,ha=>by cases h;exact ⟨ha,hq⟩ | .node b t f,l,q,a,h,hq,ha=>by
  cases b with
  |true=>exact ⟨⟨fun _=>(Tree.N8 (t:=t) h hq ha).1,fun e=>by cases e⟩,(Tree.N8 (t:=t) h hq ha).2⟩ |false=>exact ⟨⟨fun e=>(by cases e),fun _=>(Tree.N8 (t:=f) h hq ha).1⟩,(Tree.N8 (t:=f) h hq ha).2⟩
 | .need b t,l,q,a,h,hq,ha=>by
  cases b with
  |true=>exact ⟨⟨rfl,(Tree.N8 (t:=t) h hq ha).1⟩,(Tree.N8 (t:=t) h hq ha).2⟩ |false=>cases h
 | .must e t,l,q,a,h,hq,ha=>by
  have h1:=Tree.N8 (t:=t) (φ:=φ) h hq ha;have h2:=Bj.all_append h1.2;exact ⟨⟨h2.1,h1.1⟩,h2.2⟩
 | .both _ _,_,_,_,h,_,_=>by cases h | .fail,_,_,_,h,_,_=>by cases h
end Go.Sx
namespace Go.Pl
open Go Go.Sx
def ZE(α:Type)[yH α][DecidableEq α](n:Nat)(g:Nat->List Sh)(n0:Nat)(g0:Nat->List Sh):Bool:=oC α n g&&(fC n n0&&decide (oQ α n g=oQ α n0 g0))
def auU:List (List Sh):=[[.i .i64 1,.b aC],[.i .i64 2,.b ak]]
def auV:List (List Sh):=[[.i .i64 1,.b aC],[.i .i64 2,.b aC],[.i .i64 2,.b ak]]
end Go.Pl
namespace Go.Proofs
open Go Go.Sx Go.Pl
noncomputable def aqo:List Sh->Tree Sh
 |[.agg [.sl 2 n o,.sl 8 m e],t,u]=>match AY t,AY u with
  |some lv,ay mo=>bif ZE iI n o 1 Eh&&lv==1 then
    bif ZE je m e 13 Ir then bif mo==100 then .leaf (.Ak [.agg [.b aC,.sl 2 2 (AU auU),.i .i64 5],.v .nilIface])
     else bif mo==4 then .leaf (.Ak [.agg [.b ak,.sl 2 0 (fun _=>[]),.i .i64 0],.er 0 329]) else .fail
    else bif ZE je m e 14 ZC&&mo==100 then .leaf (.Ak [.agg [.b ak,.sl 2 0 (fun _=>[]),.i .i64 3],.v .nilIface]) else .fail
   else .fail
  |_,_=>.fail
 |_=>.fail
noncomputable def aqp:List Sh->Tree Sh
 |[.agg [.sl 2 n o,.sl 8 m e],t,v]=>match AY t,DV 2 v with
  |some lv,ay (k,_)=>bif ZE iI n o 1 Eh&&(lv==1&&(ZE je m e 13 Ir&&fC k 0)) then .leaf (.Ak [.sl 2 3 (AU auV),.v .nilIface]) else .fail |_,_=>.fail
 |_=>.fail
noncomputable def Xm:Nat->Option (List Sh->Tree Sh)
 |15=>ay aqo |16=>ay aqp |19=>ay D19 |_=>aK
noncomputable def C11:Ctx:={C7 zW W7 Xm Am with lits:=aC}
theorem w11:Tree.way (AQ C11 Bh 900 3000 11 [.code []] (Aa 94 [] L0) [] []) []=ay ([],aP (eF aC)):=by kernel_rfl
noncomputable def W11:List Sh->Tree Sh
 |[]=>.leaf (.v (.bool aC)) |_=>.fail
noncomputable def Xn:Nat->Option (List Sh->Tree Sh)
 |11=>ay W11 |15=>ay ad2 |19=>ay D19 |_=>aK
noncomputable def LZ(k:Nat):Nat->Option (List Sh->Tree Sh)
 |11=>ay W11 |15=>ay (aqc k) |19=>ay D19 |_=>aK
theorem ajF(A:Prim)(W:Wd)(o m:Nat)(og mg:Nat->List Sh)(l mo k:Int){ψ:D8->Prop}{c0 c1 c2 c3 c4 c5 c6 c7 c8 c9 c10 c11:Bool}(e0:A.le (A.AO o) (ah 100)=c0)(e1:A.nt (A.le (A.AO m) (ah 600))=c1)(e2:A.lt mo (ah 1)=c2)(e3:A.lt (ah 250) mo=c3)(e4:A.lt k (ah 0)=c4)(e5:A.lt (ah 250) k=c5)(e6:Lm (bH [aG 2 o og,aG 8 m mg]) (A.add .i64 (A.bin bU aN (A.add .i64 (A.bin bU aN l (ah 3)) (ah 3)) (ah 3)) (ah 1)) mo=c6)(e7:Lm (bH [aG 2 o og,aG 8 m mg]) (A.add .i64 (A.bin bU aN (A.add .i64 (A.bin bU aN l (ah 3)) (ah 3)) (ah 3)) (ah 1)) (A.add .i64 mo k)=c7)(e8:ssB (PD (bH [aG 2 o og,aG 8 m mg]) (A.add .i64 (A.bin bU aN (A.add .i64 (A.bin bU aN l (ah 3)) (ah 3)) (ah 3)) (ah 1)) mo) (zX (SS (bH [aG 2 o og,aG 8 m mg]) (A.add .i64 (A.bin bU aN (A.add .i64 (A.bin bU aN l (ah 3)) (ah 3)) (ah 3)) (ah 1)) mo)) (PD (bH [aG 2 o og,aG 8 m mg]) (A.add .i64 (A.bin bU aN (A.add .i64 (A.bin bU aN l (ah 3)) (ah 3)) (ah 3)) (ah 1)) (A.add .i64 mo k)) (zX (SS (bH [aG 2 o og,aG 8 m mg]) (A.add .i64 (A.bin bU aN (A.add .i64 (A.bin bU aN l (ah 3)) (ah 3)) (ah 3)) (ah 1)) (A.add .i64 mo k)))=c8)(e9:A.beq (Ub (bH [aG 2 o og,aG 8 m mg]) (A.add .i64 (A.bin bU aN (A.add .i64 (A.bin bU aN l (ah 3)) (ah 3)) (ah 3)) (ah 1)) mo) (Ub (bH [aG 2 o og,aG 8 m mg]) (A.add .i64 (A.bin bU aN (A.add .i64 (A.bin bU aN l (ah 3)) (ah 3)) (ah 3)) (ah 1)) (A.add .i64 mo k))=c9)(e10:A.eq (Ll (bH [aG 2 o og,aG 8 m mg]) (A.add .i64 (A.bin bU aN (A.add .i64 (A.bin bU aN l (ah 3)) (ah 3)) (ah 3)) (ah 1)) mo) (Ll (bH [aG 2 o og,aG 8 m mg]) (A.add .i64 (A.bin bU aN (A.add .i64 (A.bin bU aN l (ah 3)) (ah 3)) (ah 3)) (ah 1)) (A.add .i64 mo k))=c10)(e11:A.le (ah 1) (Ll (bH [aG 2 o og,aG 8 m mg]) (A.add .i64 (A.bin bU aN (A.add .i64 (A.bin bU aN l (ah 3)) (ah 3)) (ah 3)) (ah 1)) mo)=c11)(h1:c0=aC->c1=ak->c2=ak->c3=ak->c4=ak->c5=ak->(gaB (bH [aG 2 o og,aG 8 m mg]) (A.add .i64 (A.bin bU aN (A.add .i64 (A.bin bU aN l (ah 3)) (ah 3)) (ah 3)) (ah 1)) mo)=aC)(h2:c0=aC->c1=ak->c2=ak->c3=ak->c4=ak->c5=ak->c6=aC->(gaB (bH [aG 2 o og,aG 8 m mg]) (A.add .i64 (A.bin bU aN (A.add .i64 (A.bin bU aN l (ah 3)) (ah 3)) (ah 3)) (ah 1)) (A.add .i64 mo k))=aC)(h3:c0=aC->c1=ak->c2=ak->c3=ak->c4=ak->c5=ak->c6=aC->c7=aC->(ad3 (PD (bH [aG 2 o og,aG 8 m mg]) (A.add .i64 (A.bin bU aN (A.add .i64 (A.bin bU aN l (ah 3)) (ah 3)) (ah 3)) (ah 1)) mo) (zX (SS (bH [aG 2 o og,aG 8 m mg]) (A.add .i64 (A.bin bU aN (A.add .i64 (A.bin bU aN l (ah 3)) (ah 3)) (ah 3)) (ah 1)) mo)) (PD (bH [aG 2 o og,aG 8 m mg]) (A.add .i64 (A.bin bU aN (A.add .i64 (A.bin bU aN l (ah 3)) (ah 3)) (ah 3)) (ah 1)) (A.add .i64 mo k)) (zX (SS (bH [aG 2 o og,aG 8 m mg]) (A.add .i64 (A.bin bU aN (A.add .i64 (A.bin bU aN l (ah 3)) (ah 3)) (ah 3)) (ah 1)) (A.add .i64 mo k))))=aC)(h4:c0=aC->c1=ak->c2=ak->c3=ak->c4=ak->c5=ak->c6=aC->c7=ak->(ad3 (PD (bH [aG 2 o og,aG 8 m mg]) (A.add .i64 (A.bin bU aN (A.add .i64 (A.bin bU aN l (ah 3)) (ah 3)) (ah 3)) (ah 1)) mo) (zX (SS (bH [aG 2 o og,aG 8 m mg]) (A.add .i64 (A.bin bU aN (A.add .i64 (A.bin bU aN l (ah 3)) (ah 3)) (ah 3)) (ah 1)) mo)) 0 fun _=>[])=aC)(h5:c0=aC->c1=ak->c2=ak->c3=ak->c4=ak->c5=ak->c6=ak->(gaB (bH [aG 2 o og,aG 8 m mg]) (A.add .i64 (A.bin bU aN (A.add .i64 (A.bin bU aN l (ah 3)) (ah 3)) (ah 3)) (ah 1)) (A.add .i64 mo k))=aC)(y1:c0=aC->c1=aC->ψ (aP (eF aC)))(y2:c0=aC->c1=ak->c2=aC->ψ (aP (eF aC)))(y3:c0=aC->c1=ak->c2=ak->c3=aC->ψ (aP (eF aC)))(y4:c0=aC->c1=ak->c2=ak->c3=ak->c4=aC->ψ (aP (eF aC)))(y5:c0=aC->c1=ak->c2=ak->c3=ak->c4=ak->c5=aC->ψ (aP (eF aC)))(y6:c0=aC->c1=ak->c2=ak->c3=ak->c4=ak->c5=ak->c6=aC->c7=aC->c8=aC->c9=aC->c10=aC->c11=aC->ψ (aP (eF (A.le (Ll (bH [aG 2 o og,aG 8 m mg]) (A.add .i64 (A.bin bU aN (A.add .i64 (A.bin bU aN l (ah 3)) (ah 3)) (ah 3)) (ah 1)) mo) mo))))(y7:c0=aC->c1=ak->c2=ak->c3=ak->c4=ak->c5=ak->c6=aC->c7=aC->c8=aC->c9=aC->c10=aC->c11=ak->ψ (aP (eF ak)))(y8:c0=aC->c1=ak->c2=ak->c3=ak->c4=ak->c5=ak->c6=aC->c7=aC->c8=aC->c9=aC->c10=ak->ψ (aP (eF ak)))(y9:c0=aC->c1=ak->c2=ak->c3=ak->c4=ak->c5=ak->c6=aC->c7=aC->c8=aC->c9=ak->ψ (aP (eF ak)))(y10:c0=aC->c1=ak->c2=ak->c3=ak->c4=ak->c5=ak->c6=aC->c7=aC->c8=ak->ψ (aP (eF ak)))(y11:c0=aC->c1=ak->c2=ak->c3=ak->c4=ak->c5=ak->c6=aC->c7=ak->ψ (aP (eF ak)))(y12:c0=aC->c1=ak->c2=ak->c3=ak->c4=ak->c5=ak->c6=ak->c7=aC->ψ (aP (eF (A.lt mo (Ll (bH [aG 2 o og,aG 8 m mg]) (A.add .i64 (A.bin bU aN (A.add .i64 (A.bin bU aN l (ah 3)) (ah 3)) (ah 3)) (ah 1)) (A.add .i64 mo k))))))(y13:c0=aC->c1=ak->c2=ak->c3=ak->c4=ak->c5=ak->c6=ak->c7=ak->ψ (aP (eF aC)))(y14:c0=ak->ψ (aP (eF aC))):Cc ψ (AQ (C7 A W Xn Ap) Bh 300 400 5 [.code []] (Aa 120 [.agg [.sl 2 o og,.sl 8 m mg],.i .i64 l,.i .i64 mo,.i .i64 k] L0) [] []):=by
 subst e0 e1 e2 e3 e4 e5 e6 e7 e8 e9 e10 e11;exact Gh (an (fun q0=>an (y1 q0) (fun q1=>an (y2 q0 q1) (fun q2=>an (y3 q0 q1 q2) (fun q3=>an (y4 q0 q1 q2 q3) (fun q4=>an (y5 q0 q1 q2 q3 q4) (fun q5=>an (h1 q0 q1 q2 q3 q4 q5) (an (fun q6=>an (h2 q0 q1 q2 q3 q4 q5 q6) (an (fun q7=>an (h3 q0 q1 q2 q3 q4 q5 q6 q7) (an (fun q8=>an (fun q9=>an (fun q10=>an (y6 q0 q1 q2 q3 q4 q5 q6 q7 q8 q9 q10) (y7 q0 q1 q2 q3 q4 q5 q6 q7 q8 q9 q10)) (y8 q0 q1 q2 q3 q4 q5 q6 q7 q8 q9)) (y9 q0 q1 q2 q3 q4 q5 q6 q7 q8)) (y10 q0 q1 q2 q3 q4 q5 q6 q7))) (fun q7=>an (h4 q0 q1 q2 q3 q4 q5 q6 q7) (y11 q0 q1 q2 q3 q4 q5 q6 q7)))) (fun q6=>an (h5 q0 q1 q2 q3 q4 q5 q6) (an (y12 q0 q1 q2 q3 q4 q5 q6) (y13 q0 q1 q2 q3 q4 q5 q6)))))))))) y14) (by kernel_rfl)
theorem ajG(A:Prim)(W:Wd)(o m:Nat)(og mg:Nat->List Sh)(l mo k:Int){ψ:D8->Prop}{c0 c1 c2 c3 c4 c5:Bool}(e0:A.le (A.AO o) (ah 100)=c0)(e1:A.nt (A.le (A.AO m) (ah 600))=c1)(e2:A.lt mo (ah 1)=c2)(e3:A.lt (ah 250) mo=c3)(e4:A.lt k (ah 0)=c4)(e5:A.lt (ah 250) k=c5)(h1:c0=aC->c1=ak->c2=ak->c3=ak->c4=ak->c5=ak->(Uc 0 (bH [aG 2 o og,aG 8 m mg]) (A.add .i64 (A.bin bU aN (A.add .i64 (A.bin bU aN l (ah 3)) (ah 3)) (ah 3)) (ah 1)) mo)=aC)(h2:c0=aC->c1=ak->c2=ak->c3=ak->c4=ak->c5=ak->(Uc 0 (bH [aG 2 o og,aG 8 m mg]) (A.add .i64 (A.bin bU aN (A.add .i64 (A.bin bU aN l (ah 3)) (ah 3)) (ah 3)) (ah 1)) (A.add .i64 mo k))=aC)(y1:c0=aC->c1=aC->ψ (aP (eF aC)))(y2:c0=aC->c1=ak->c2=aC->ψ (aP (eF aC)))(y3:c0=aC->c1=ak->c2=ak->c3=aC->ψ (aP (eF aC)))(y4:c0=aC->c1=ak->c2=ak->c3=ak->c4=aC->ψ (aP (eF aC)))(y5:c0=aC->c1=ak->c2=ak->c3=ak->c4=ak->c5=aC->ψ (aP (eF aC)))(y6:c0=aC->c1=ak->c2=ak->c3=ak->c4=ak->c5=ak->ψ (aP (eF aC)))(y7:c0=ak->ψ (aP (eF aC))):Cc ψ (AQ (C7 A W (LZ 0) Ap) Bh 300 400 5 [.code []] (Aa 120 [.agg [.sl 2 o og,.sl 8 m mg],.i .i64 l,.i .i64 mo,.i .i64 k] L0) [] []):=by
 subst e0 e1 e2 e3 e4 e5;exact Gh (an (fun q0=>an (y1 q0) (fun q1=>an (y2 q0 q1) (fun q2=>an (y3 q0 q1 q2) (fun q3=>an (y4 q0 q1 q2 q3) (fun q4=>an (y5 q0 q1 q2 q3 q4) (fun q5=>an (h1 q0 q1 q2 q3 q4 q5) (an (h2 q0 q1 q2 q3 q4 q5) (y6 q0 q1 q2 q3 q4 q5)))))))) y7) (by kernel_rfl)
theorem ajH(A:Prim)(W:Wd)(o m:Nat)(og mg:Nat->List Sh)(l mo k:Int){ψ:D8->Prop}{c0 c1 c2 c3 c4 c5:Bool}(e0:A.le (A.AO o) (ah 100)=c0)(e1:A.nt (A.le (A.AO m) (ah 600))=c1)(e2:A.lt mo (ah 1)=c2)(e3:A.lt (ah 250) mo=c3)(e4:A.lt k (ah 0)=c4)(e5:A.lt (ah 250) k=c5)(h1:c0=aC->c1=ak->c2=ak->c3=ak->c4=ak->c5=ak->(Uc 1 (bH [aG 2 o og,aG 8 m mg]) (A.add .i64 (A.bin bU aN (A.add .i64 (A.bin bU aN l (ah 3)) (ah 3)) (ah 3)) (ah 1)) mo)=aC)(h2:c0=aC->c1=ak->c2=ak->c3=ak->c4=ak->c5=ak->(Uc 1 (bH [aG 2 o og,aG 8 m mg]) (A.add .i64 (A.bin bU aN (A.add .i64 (A.bin bU aN l (ah 3)) (ah 3)) (ah 3)) (ah 1)) (A.add .i64 mo k))=aC)(y1:c0=aC->c1=aC->ψ (aP (eF aC)))(y2:c0=aC->c1=ak->c2=aC->ψ (aP (eF aC)))(y3:c0=aC->c1=ak->c2=ak->c3=aC->ψ (aP (eF aC)))(y4:c0=aC->c1=ak->c2=ak->c3=ak->c4=aC->ψ (aP (eF aC)))(y5:c0=aC->c1=ak->c2=ak->c3=ak->c4=ak->c5=aC->ψ (aP (eF aC)))(y6:c0=aC->c1=ak->c2=ak->c3=ak->c4=ak->c5=ak->ψ (aP (eF aC)))(y7:c0=ak->ψ (aP (eF aC))):Cc ψ (AQ (C7 A W (LZ 1) Ap) Bh 300 400 5 [.code []] (Aa 120 [.agg [.sl 2 o og,.sl 8 m mg],.i .i64 l,.i .i64 mo,.i .i64 k] L0) [] []):=by
 subst e0 e1 e2 e3 e4 e5;exact Gh (an (fun q0=>an (y1 q0) (fun q1=>an (y2 q0 q1) (fun q2=>an (y3 q0 q1 q2) (fun q3=>an (y4 q0 q1 q2 q3) (fun q4=>an (y5 q0 q1 q2 q3 q4) (fun q5=>an (h1 q0 q1 q2 q3 q4 q5) (an (h2 q0 q1 q2 q3 q4 q5) (y6 q0 q1 q2 q3 q4 q5)))))))) y7) (by kernel_rfl)
theorem ajI(A:Prim)(W:Wd)(o m:Nat)(og mg:Nat->List Sh)(l mo k:Int){ψ:D8->Prop}{c0 c1 c2 c3 c4 c5:Bool}(e0:A.le (A.AO o) (ah 100)=c0)(e1:A.nt (A.le (A.AO m) (ah 600))=c1)(e2:A.lt mo (ah 1)=c2)(e3:A.lt (ah 250) mo=c3)(e4:A.lt k (ah 0)=c4)(e5:A.lt (ah 250) k=c5)(h1:c0=aC->c1=ak->c2=ak->c3=ak->c4=ak->c5=ak->(Uc 6 (bH [aG 2 o og,aG 8 m mg]) (A.add .i64 (A.bin bU aN (A.add .i64 (A.bin bU aN l (ah 3)) (ah 3)) (ah 3)) (ah 1)) mo)=aC)(h2:c0=aC->c1=ak->c2=ak->c3=ak->c4=ak->c5=ak->(Uc 6 (bH [aG 2 o og,aG 8 m mg]) (A.add .i64 (A.bin bU aN (A.add .i64 (A.bin bU aN l (ah 3)) (ah 3)) (ah 3)) (ah 1)) (A.add .i64 mo k))=aC)(y1:c0=aC->c1=aC->ψ (aP (eF aC)))(y2:c0=aC->c1=ak->c2=aC->ψ (aP (eF aC)))(y3:c0=aC->c1=ak->c2=ak->c3=aC->ψ (aP (eF aC)))(y4:c0=aC->c1=ak->c2=ak->c3=ak->c4=aC->ψ (aP (eF aC)))(y5:c0=aC->c1=ak->c2=ak->c3=ak->c4=ak->c5=aC->ψ (aP (eF aC)))(y6:c0=aC->c1=ak->c2=ak->c3=ak->c4=ak->c5=ak->ψ (aP (eF aC)))(y7:c0=ak->ψ (aP (eF aC))):Cc ψ (AQ (C7 A W (LZ 6) Ap) Bh 300 400 5 [.code []] (Aa 120 [.agg [.sl 2 o og,.sl 8 m mg],.i .i64 l,.i .i64 mo,.i .i64 k] L0) [] []):=by
 subst e0 e1 e2 e3 e4 e5;exact Gh (an (fun q0=>an (y1 q0) (fun q1=>an (y2 q0 q1) (fun q2=>an (y3 q0 q1 q2) (fun q3=>an (y4 q0 q1 q2 q3) (fun q4=>an (y5 q0 q1 q2 q3 q4) (fun q5=>an (h1 q0 q1 q2 q3 q4 q5) (an (h2 q0 q1 q2 q3 q4 q5) (y6 q0 q1 q2 q3 q4 q5)))))))) y7) (by kernel_rfl)
end Go.Proofs
namespace Go.Pl
open Go Go.Sx Go.Proofs Go.Gm Go.Bf
def Ia(l:Int):Int:=zW.add .i64 (zW.bin bU aN (zW.add .i64 (zW.bin bU aN l (ah 3)) (ah 3)) (ah 3)) (ah 1)
theorem auW(l:Int):1<=Ia l/\Ia l<=3:=by
 have h1:-3<l.tmod 3:=by
  have:=Int.lt_tmod_of_pos l (b:=3) (by decide);omega
 have h2:l.tmod 3<3:=uG l (by decide);have e1:zW.add .i64 (zW.bin bU aN l (ah 3)) (ah 3)=l.tmod 3+3:=by
  show aN.wrap (l.tmod 3+3)=_;exact BL (by omega) (by omega)
 unfold Ia;rw[e1];have h3:0<=(l.tmod 3+3).tmod 3:=Int.tmod_nonneg _ (by omega);have h4:(l.tmod 3+3).tmod 3<3:=uG _ (by decide);have e2:zW.add .i64 (zW.bin bU aN (l.tmod 3+3) (ah 3)) (ah 1)=(l.tmod 3+3).tmod 3+1:=by
  show aN.wrap ((l.tmod 3+3).tmod 3+1)=_;exact BL (by omega) (by omega)
 rw[e2];omega
theorem acp{S:Type}(g:Game S)(ld:Nd S->Bool):∀f nd,(least g ld f nd).length<=f
 |0,_=>dn _ |f+1,nd=>by
  unfold least;split
  ·simp
  ·split
   ·simp
   ·have:=acp g ld f
    simp;exact this _
section
variable{n m:Nat}{g h:Nat->List Sh}
theorem ajJ(P:Yr n g m h){lv:Int}(hl:1<=lv/\lv<=3):hsB (hsS n g m h) lv=aC:=@decide_eq_true _ (bM _) ⟨n,g,m,h,rfl,P,hl.1,hl.2⟩
theorem ama{lv:Int}(hb:(CZ (hsS n g m h) lv).okb=ak):(CZ (hsS n g m h) lv).JG=aC\/((CZ (hsS n g m h) lv).JG=ak/\((CZ (hsS n g m h) lv).e=1\/(CZ (hsS n g m h) lv).e=6)):=by
 have hb:((BI n g m h).okb&&decide ((BI n g m h).n<=12))=ak:=hb;show (!(BI n g m h).okb&&(BI n g m h).JG)=aC\/((!(BI n g m h).okb&&(BI n g m h).JG)=ak/\((if (BI n g m h).okb=aC then 1 else (BI n g m h).e)=1\/(if (BI n g m h).okb=aC then 1 else (BI n g m h).e)=6));cases ho:(BI n g m h).okb with
 |true=>exact .inr ⟨rfl,.inl rfl⟩ |false=>
  cases hbig:xk n m with
  |true=>
   have e1:(BI n g m h).JG=ak:=by unfold BI;simp[hbig]
   have e2:(BI n g m h).e=6:=by unfold BI;simp[hbig]
   exact .inr ⟨by rw[e1];rfl,.inr e2⟩
  |false=>
   have e1:(BI n g m h).JG=aC:=by unfold BI;simp[hbig]
   exact .inl (by rw[e1];rfl)
theorem Yv(P:Yr n g m h){lv mo:Int}(hl:1<=lv/\lv<=3)(hm:Pz mo=aC)(hb:(CZ (hsS n g m h) lv).okb=aC):gaB (hsS n g m h) lv mo=aC:=by
 unfold gaB;rw[ajJ P hl,hm,hb];rfl
theorem aqr(P:Yr n g m h){lv mo:Int}(hl:1<=lv/\lv<=3)(hm:Pz mo=aC)(hb:(CZ (hsS n g m h) lv).okb=ak){k:Nat}(hk:(if k=0 then (CZ (hsS n g m h) lv).JG else !(CZ (hsS n g m h) lv).JG&&(CZ (hsS n g m h) lv).e==k)=aC):Uc k (hsS n g m h) lv mo=aC:=by
 unfold Uc;rw[ajJ P hl,hm,hb,hk];rfl
theorem arO{lv:Int}(hb:(CZ (hsS n g m h) lv).okb=aC):(Gb (CZ (hsS n g m h) lv)).n<=12:=by
 have hb:((BI n g m h).okb&&decide ((BI n g m h).n<=12))=aC:=hb;rw[aI,decide_eq_true_eq] at hb;have h3:=ae8 lv (BI n g m h).n (BI n g m h).T;show (G7 lv (BI n g m h).n (BI n g m h).T).length<=12;omega
theorem arP{lv mo:Int}(hb:(CZ (hsS n g m h) lv).okb=aC):PD (hsS n g m h) lv mo<=13:=by
 have:=arO hb;unfold PD rtL;rw[dW];unfold IW;split
 ·have:=acp (Gb (CZ (hsS n g m h) lv)) (TW (Gb (CZ (hsS n g m h) lv)) (CP (CZ (hsS n g m h) lv).k0) (Xh (hsS n g m h) lv mo)) ((Gb (CZ (hsS n g m h) lv)).n+1) (iK (CZ (hsS n g m h) lv).g0)
  omega
 ·simp
theorem arQ{lv mo:Int}(hb:(CZ (hsS n g m h) lv).okb=aC){m':Nat}(r:Nat->DL):ad3 (PD (hsS n g m h) lv mo) (zX (SS (hsS n g m h) lv mo)) m' (zX r)=aC:=by
 have:=arP (mo:=mo) hb;unfold ad3;rw[Dy,Dy,decide_eq_true (by omega:PD (hsS n g m h) lv mo<=100000)];rfl
end
end Go.Pl
namespace Go.Proofs
open Go Go.Sx Go.Pl Go.Gm Go.Bf
noncomputable def F5:List Sh->Tree Sh
 |[s,t,u,v]=>match AY t,AY u,AY v with
  |some _,ay _,ay _=>.need (hpB s) (.leaf (.v (.bool aC))) |_,_,_=>.fail
 |_=>.fail
theorem auY(Yl:Ar aB (AZ W7) 11 W11)(stop:Nat->List Nat->Bool):BA aB (C7 zW W7 Xn stop):=lS (fun g F h=>by
 unfold Xn at h;split at h
 ·cases h;exact Yl
 ·cases h;exact akP
 ·cases h;exact ajw
 ·cases h) fun g h=>by
 unfold Xn at h;split at h;all_goals first|(cases h;done) |kernel_rfl
theorem ajK(k:Nat)(Yl:Ar aB (AZ W7) 11 W11)(stop:Nat->List Nat->Bool):BA aB (C7 zW W7 (LZ k) stop):=lS (fun g F h=>by
 unfold LZ at h;split at h
 ·cases h;exact Yl
 ·cases h;exact awI k
 ·cases h;exact ajw
 ·cases h) fun g h=>by
 unfold LZ at h;split at h;all_goals first|(cases h;done) |kernel_rfl
theorem O5(Yl:Ar aB (AZ W7) 11 W11):Ar aB (AZ W7) 5 F5:=by
 intro H w A8 args φ hon hgl hr hφ;unfold F5 at hφ;split at hφ
 ·rename_i s t u v
  split at hφ
  ·rename_i l mo k e1 e2 e3
   obtain ⟨q1,hφ⟩:=hφ;obtain ⟨n,g,m,h,rfl,P⟩:=@of_decide_eq_true _ (bM _) q1;have hφ:φ (.v (.bool aC)):=hφ;have hn:kS.ntmps=120:=by kernel_rfl
   match args,hr with
   |[a0,a1,a2,a3],⟨r0,r1,r2,r3,_⟩=>
   have fin (b:Bool) (hb:b=aC):up φ (.b b):=BH (s':=.v (.bool aC)) (.inr (by rw[hb])) hφ;have hl:=auW l;have mo1 (c2:zW.lt mo (ah 1)=ak) (c3:zW.lt (ah 250) mo=ak) (c4:zW.lt k (ah 0)=ak) (c5:zW.lt (ah 250) k=ak):(1<=mo/\mo<=250)/\(0<=k/\k<=250)/\zW.add .i64 mo k=mo+k/\Pz mo=aC/\Pz (mo+k)=aC:=by
    simp[Ad] at c2 c3 c4 c5;refine ⟨⟨by omega,by omega⟩,⟨by omega,by omega⟩,BL (by omega) (by omega),?_,?_⟩
    ·unfold Pz;rw[decide_eq_true (by omega:1<=mo),decide_eq_true (by omega:mo<=65536)];rfl
    ·unfold Pz;rw[decide_eq_true (by omega:1<=mo+k),decide_eq_true (by omega:mo+k<=65536)];rfl
   have afn:Dw H [hsS n g m h,.i .i64 l,.i .i64 mo,.i .i64 k] [a0,a1,a2,a3]:=⟨r0,Ej e1 r1,Ej e2 r2,Ej e3 r3,trivial⟩;cases hb:(CZ (hsS n g m h) (Ia l)).okb with
   |true=>
    refine MK (C:=C7 zW W7 Xn Ap) (dw _ _) (fn:=kS) (DX:=[hsS n g m h,.i .i64 l,.i .i64 mo,.i .i64 k]) (L:=L0) (by kernel_rfl) (by kernel_rfl) hon hgl afn ?_;refine EJ (dw _ _) (auY Yl _) (hold:=Bh) (m:=300) (n:=400) (ts:=[]) ?_;rw[hn];have same (hm1:1<=mo) (hk:0<=k) (hc:Lm (hsS n g m h) (Ia l) mo=aC):Xg (hsS n g m h) (Ia l) (mo+k)=Xg (hsS n g m h) (Ia l) mo:=by
     unfold Lm at hc;obtain ⟨r,hr⟩:=dZ.1 hc;rw[hr];have e:(mo+k).toNat=mo.toNat+k.toNat:=by omega
     unfold Xg at hr ⊢;rw[e];exact ae0 (by omega) hr
    refine ajF zW W7 n m g h l mo k rfl rfl rfl rfl rfl rfl rfl rfl rfl rfl rfl rfl (fun _ _ c2 c3 c4 c5=>?_) (fun _ _ c2 c3 c4 c5 _=>?_) (fun _ _ c2 c3 c4 c5 _ _=>?_) (fun _ _ c2 c3 c4 c5 c6 c7=>?_) (fun _ _ c2 c3 c4 c5 _=>?_)
     (fun _ _=>fin _ rfl) (fun _ _ _=>fin _ rfl) (fun _ _ _ _=>fin _ rfl) (fun _ _ _ _ _=>fin _ rfl) (fun _ _ _ _ _ _=>fin _ rfl) (fun _ _ c2 c3 c4 c5 c6 c7 c8 c9 c10 c11=>fin _ ?_) (fun _ _ c2 c3 c4 c5 c6 c7 c8 c9 c10 c11=>?_) (fun _ _ c2 c3 c4 c5 c6 c7 c8 c9 c10=>?_) (fun _ _ c2 c3 c4 c5 c6 c7 c8 c9=>?_) (fun _ _ c2 c3 c4 c5 c6 c7 c8=>?_) (fun _ _ c2 c3 c4 c5 c6 c7=>?_) (fun _ _ c2 c3 c4 c5 c6 c7=>fin _ ?_) (fun _ _ _ _ _ _ _ _=>fin _ rfl) (fun _=>fin _ rfl)
    all_goals obtain ⟨m1,m2,m3,m4,m5⟩:=mo1 c2 c3 c4 c5
    ·exact Yv P hl m4 hb
    ·show gaB (hsS n g m h) (Ia l) (zW.add .i64 mo k)=aC
     rw[m3];exact Yv P hl m5 hb
    ·exact arQ hb _
    ·exfalso
     have c7:Lm (hsS n g m h) (Ia l) (zW.add .i64 mo k)=ak:=c7;have c6:Lm (hsS n g m h) (Ia l) mo=aC:=c6;rw[m3] at c7;unfold Lm at c7;rw[same m1.1 m2.1 c6] at c7;unfold Lm at c6;rw[c6] at c7;cases c7
    ·show gaB (hsS n g m h) (Ia l) (zW.add .i64 mo k)=aC
     rw[m3];exact Yv P hl m5 hb
    all_goals
     have c6e:Lm (hsS n g m h) (Ia l) mo=aC->∃r,Xg (hsS n g m h) (Ia l) mo=ay r/\1<=r.length/\r.length<=mo.toNat:=fun c=>by
      unfold Lm at c;obtain ⟨r,hr⟩:=dZ.1 c;have:=Ko (by omega:1<=mo.toNat) hr;exact ⟨r,hr,this.1,this.2⟩
     have eL:Lm (hsS n g m h) (Ia l) mo=aC->Xh (hsS n g m h) (Ia l) (zW.add .i64 mo k)=Xh (hsS n g m h) (Ia l) mo:=fun c=>by
      rw[m3];unfold Xh;rw[same m1.1 m2.1 c]
    ·obtain ⟨r,hr,h1,h2⟩:=c6e c6
     show zW.le (Ll (hsS n g m h) (Ia l) mo) mo=aC;unfold Ll Xh;rw[hr,Df,decide_eq_true_eq];show ((r.length:Nat):Int)<=mo;omega
    ·exfalso
     obtain ⟨r,hr,h1,h2⟩:=c6e c6;have c11:zW.le (ah 1) (Ll (hsS n g m h) (Ia l) mo)=ak:=c11;unfold Ll Xh at c11;rw[hr,Df,decide_eq_false_iff_not] at c11;exact c11 (by show (1:Int)<=((r.length:Nat):Int);omega)
    ·exfalso
     have c10:zW.eq (Ll (hsS n g m h) (Ia l) mo) (Ll (hsS n g m h) (Ia l) (zW.add .i64 mo k))=ak:=c10;unfold Ll at c10;rw[eL c6,Aq] at c10;simp at c10
    ·exfalso
     have c9:zW.beq (Ub (hsS n g m h) (Ia l) mo) (Ub (hsS n g m h) (Ia l) (zW.add .i64 mo k))=ak:=c9;unfold Ub at c9;rw[eL c6,adu] at c9;simp at c9
    ·exfalso
     have c8:ssB (PD (hsS n g m h) (Ia l) mo) (zX (SS (hsS n g m h) (Ia l) mo)) (PD (hsS n g m h) (Ia l) (zW.add .i64 mo k)) (zX (SS (hsS n g m h) (Ia l) (zW.add .i64 mo k)))=ak:=c8;unfold PD SS rtL at c8;rw[eL c6] at c8;unfold ssB at c8;simp at c8
    ·exfalso
     have c7:Lm (hsS n g m h) (Ia l) (zW.add .i64 mo k)=ak:=c7;have c6:Lm (hsS n g m h) (Ia l) mo=aC:=c6;rw[m3] at c7;unfold Lm at c7;rw[same m1.1 m2.1 c6] at c7;unfold Lm at c6;rw[c6] at c7;cases c7
    ·have c6:Lm (hsS n g m h) (Ia l) mo=ak:=c6
     have c7:Lm (hsS n g m h) (Ia l) (zW.add .i64 mo k)=aC:=c7;show zW.lt mo (Ll (hsS n g m h) (Ia l) (zW.add .i64 mo k))=aC;rw[m3] at c7 ⊢;unfold Lm at c6 c7;obtain ⟨r,hr⟩:=dZ.1 c7;have c6:=Option.not_isSome_iff_eq_none.1 (by rw[c6];simp);unfold Ll Xh;rw[hr];unfold Xg at hr c6;have e:(mo+k).toNat=mo.toNat+k.toNat:=by omega
     rw[e] at hr;have:=ae1 (by omega:1<=mo.toNat) c6 hr;rw[Ad,decide_eq_true_eq];show mo<((r.length:Nat):Int);omega
   |false=>
    have hk:=ama (n:=n) (m:=m) (g:=g) (h:=h) hb;have gen (j:Nat) (hj:(if j=0 then (CZ (hsS n g m h) (Ia l)).JG else !(CZ (hsS n g m h) (Ia l)).JG&&(CZ (hsS n g m h) (Ia l)).e==j)=aC) (c2:zW.lt mo (ah 1)=ak) (c3:zW.lt (ah 250) mo=ak) (c4:zW.lt k (ah 0)=ak) (c5:zW.lt (ah 250) k=ak) :
      Uc j (hsS n g m h) (Ia l) mo=aC/\Uc j (hsS n g m h) (Ia l) (zW.add .i64 mo k)=aC:=by
     obtain ⟨m1,m2,m3,m4,m5⟩:=mo1 c2 c3 c4 c5;rw[m3];exact ⟨aqr P hl m4 hb hj,aqr P hl m5 hb hj⟩
    rcases hk with ha|⟨ha,he|he⟩
    ·refine MK (C:=C7 zW W7 (LZ 0) Ap) (dw _ _) (fn:=kS) (DX:=[hsS n g m h,.i .i64 l,.i .i64 mo,.i .i64 k]) (L:=L0) (by kernel_rfl) (by kernel_rfl) hon hgl afn ?_
     refine EJ (dw _ _) (ajK 0 Yl _) (hold:=Bh) (m:=300) (n:=400) (ts:=[]) ?_;rw[hn];have gg:=gen 0 (by rw[if_pos rfl];exact ha);exact ajG zW W7 n m g h l mo k rfl rfl rfl rfl rfl rfl (fun _ _ c2 c3 c4 c5=>(gg c2 c3 c4 c5).1) (fun _ _ c2 c3 c4 c5=>(gg c2 c3 c4 c5).2)
      (fun _ _=>fin _ rfl) (fun _ _ _=>fin _ rfl) (fun _ _ _ _=>fin _ rfl) (fun _ _ _ _ _=>fin _ rfl) (fun _ _ _ _ _ _=>fin _ rfl) (fun _ _ _ _ _ _=>fin _ rfl) (fun _=>fin _ rfl)
    ·refine MK (C:=C7 zW W7 (LZ 1) Ap) (dw _ _) (fn:=kS) (DX:=[hsS n g m h,.i .i64 l,.i .i64 mo,.i .i64 k]) (L:=L0) (by kernel_rfl) (by kernel_rfl) hon hgl afn ?_
     refine EJ (dw _ _) (ajK 1 Yl _) (hold:=Bh) (m:=300) (n:=400) (ts:=[]) ?_;rw[hn];have gg:=gen 1 (by rw[if_neg (by decide),ha,he];rfl);exact ajH zW W7 n m g h l mo k rfl rfl rfl rfl rfl rfl (fun _ _ c2 c3 c4 c5=>(gg c2 c3 c4 c5).1) (fun _ _ c2 c3 c4 c5=>(gg c2 c3 c4 c5).2)
      (fun _ _=>fin _ rfl) (fun _ _ _=>fin _ rfl) (fun _ _ _ _=>fin _ rfl) (fun _ _ _ _ _=>fin _ rfl) (fun _ _ _ _ _ _=>fin _ rfl) (fun _ _ _ _ _ _=>fin _ rfl) (fun _=>fin _ rfl)
    ·refine MK (C:=C7 zW W7 (LZ 6) Ap) (dw _ _) (fn:=kS) (DX:=[hsS n g m h,.i .i64 l,.i .i64 mo,.i .i64 k]) (L:=L0) (by kernel_rfl) (by kernel_rfl) hon hgl afn ?_
     refine EJ (dw _ _) (ajK 6 Yl _) (hold:=Bh) (m:=300) (n:=400) (ts:=[]) ?_;rw[hn];have gg:=gen 6 (by rw[if_neg (by decide),ha,he];rfl);exact ajI zW W7 n m g h l mo k rfl rfl rfl rfl rfl rfl (fun _ _ c2 c3 c4 c5=>(gg c2 c3 c4 c5).1) (fun _ _ c2 c3 c4 c5=>(gg c2 c3 c4 c5).2)
      (fun _ _=>fin _ rfl) (fun _ _ _=>fin _ rfl) (fun _ _ _ _=>fin _ rfl) (fun _ _ _ _ _=>fin _ rfl) (fun _ _ _ _ _ _=>fin _ rfl) (fun _ _ _ _ _ _=>fin _ rfl) (fun _=>fin _ rfl)
  ·exact hφ.elim
 ·exact hφ.elim
end Go.Proofs
namespace Go.Pl
open Go Go.Sx
theorem Xo{α:Type}[yH α][DecidableEq α]{n n0:Nat}{g g0:Nat->List Sh}(h:ZE α n g n0 g0=aC)(h0:oC α n0 g0=aC):n=n0/\∀j,j<n->g j=g0 j:=by
 unfold ZE at h;rw[aI,aI,decide_eq_true_eq] at h;obtain ⟨h1,h2,h3⟩:=h;obtain rfl:=fH h2;refine ⟨rfl,fun j hj=>?_⟩;rw[pR h1 j hj,pR h0 j hj];have e:∀(f:Nat->List Sh),(oQ α n f)[j]?=ay (dM f j):=fun f=>by
  unfold oQ;rw[gV,mY hj];rfl
 have e1:=e g;rw[h3,e g0] at e1;rw[dh e1]
end Go.Pl
namespace Go.Proofs
open Go Go.Sx Go.Pl Go.Gm
theorem TN{H:Mem}{n m n0 m0:Nat}{o e o0 e0:Nat->List Sh}{v:Value}(h1:n=n0/\∀j,j<n->o j=o0 j)(h2:m=m0/\∀j,j<m->e j=e0 j)(hr:Rep H (.agg [.sl 2 n o,.sl 8 m e]) v):Rep H (hsS n0 o0 m0 e0) v:=by
 obtain ⟨rfl,h1⟩:=h1;obtain ⟨rfl,h2⟩:=h2;exact Qv hr ⟨fun _ r=>Es r h1,fun _ r=>Es r h2,trivial⟩
theorem TP{P:Program}{gls:List (Nat×Sh)}{g:Nat}{F:List Sh->Tree Sh}(hF:Ar P gls g F){H:Mem}{w:World}{A8:List Sh}{args:List Value}{φ:Sh->Prop}(hon:H.on w)(hg:CU gls H)(hr:Dw H A8 args){s':Sh}(hφ:φ s')(h:(F A8).All fun s=>Wk s s'):
  Calls P g args.toArray w fun e w'=>∃v s H',e=.returned v/\φ s/\Eu H w s v H' w':=by
 refine (hF H w A8 args _ hon hg hr h).mono fun e w' ⟨v,s,H',he,hs,r⟩=>?_;obtain ⟨H2,r2⟩:=r.wk hs;exact ⟨v,s',H2,he,hφ,r2⟩
theorem arR:Lm (hsS 1 Eh 13 Ir) 1 100=aC/\Ub (hsS 1 Eh 13 Ir) 1 100=aC/\rtL (hsS 1 Eh 13 Ir) 1 100=[⟨1,aC⟩,⟨2,ak⟩]/\Ll (hsS 1 Eh 13 Ir) 1 100=5:=by
 have h:=ajD exH Yu 100;have hr:=awL;split at hr
 ·rename_i r e
  obtain ⟨q1,q2,q3⟩:=h.2 r e;rw[aI,aI,beq_iff_eq,decide_eq_true_eq] at hr;refine ⟨?_,q1.trans hr.2.1,?_,?_⟩
  ·unfold Lm
   have e':DK (Kw (CZ (hsS 1 Eh 13 Ir) 1)) PG (newL 1 Eh) (vZ 100)=ay r:=e;rw[h.1,e'];rfl
  ·rw[q2,hr.2.2];rfl
  ·rw[q3,hr.1];rfl
 ·cases hr
theorem aqs:Lm (hsS 1 Eh 13 Ir) 1 4=ak:=by
 have h:=ajD exH Yu 4;have h4:=Option.isNone_iff_eq_none.1 awM;unfold Lm;have e':DK (Kw (CZ (hsS 1 Eh 13 Ir) 1)) PG (newL 1 Eh) (vZ 4)=aK:=h4;rw[h.1,e'];rfl
theorem aqt:Lm (hsS 1 Eh 14 ZC) 1 100=aC/\Ub (hsS 1 Eh 14 ZC) 1 100=ak/\Ll (hsS 1 Eh 14 ZC) 1 100=3/\rtL (hsS 1 Eh 14 ZC) 1 100=[]:=by
 have h:=ajD aqn akV 100;have hr:=awN;split at hr
 ·rename_i r e
  obtain ⟨q1,q2,q3⟩:=h.2 r e;rw[aI,beq_iff_eq,fM] at hr;refine ⟨?_,q1.trans hr.2,?_,?_⟩
  ·unfold Lm
   have e':DK (Kw (CZ (hsS 1 Eh 14 ZC) 1)) PG (newL 1 Eh) (vZ 100)=ay r:=e;rw[h.1,e'];rfl
  ·rw[q3,hr.1];rfl
  ·rw[q2]
   unfold IW;rw[if_neg (by rw[hr.2];simp)];rfl
 ·cases hr
theorem auZ(u:Nat->List Sh):nxL (hsS 1 Eh 13 Ir) 1 0 u=[⟨1,aC⟩,⟨2,aC⟩,⟨2,ak⟩]/\(wkO (hsS 1 Eh 13 Ir) 1 0 u).isSome=aC:=by
 refine ⟨?_,rfl⟩;have hT:((BI 1 Eh 13 Ir).okb&&decide ((BI 1 Eh 13 Ir).n<=12))=aC:=Yu;rw[aI,decide_eq_true_eq] at hT;have T:=afi exH hT.1 hT.2;have ht:=Vm (Xl (lv:=1) T) (SY (lv:=1) T);have e:Dv (Gz 1 (Hu Eh)) (iK (newL 1 Eh))=⟨0,(CZ (hsS 1 Eh 13 Ir) 1).g0⟩:=by
  show (⟨0,Gz 1 (Hu Eh) (newL 1 Eh)⟩:Nd SG)=⟨0,Hu Eh⟩;rw[afm]
 rw[e] at ht;show ((turns (Gb (CZ (hsS 1 Eh 13 Ir) 1)) ⟨0,(CZ (hsS 1 Eh 13 Ir) 1).g0⟩).map fun t=>D7 t.1)=_;have ht':turns (Gb (CZ (hsS 1 Eh 13 Ir) 1)) ⟨0,(CZ (hsS 1 Eh 13 Ir) 1).g0⟩=(turns (Kw (CZ (hsS 1 Eh 13 Ir) 1)) (iK (newL 1 Eh))).map fun t=>(t.1,Dv (Gz 1 (Hu Eh)) t.2):=ht;rw[ht',l9];have en:=awO;have e2:((turns (Kw (CZ (hsS 1 Eh 13 Ir) 1)) (iK (newL 1 Eh))).map ((fun t:(Int×Bool)×Nd SG=>D7 t.1) ∘ fun t=>(t.1,Dv (Gz 1 (Hu Eh)) t.2)))=((turns (Kw (CZ (hsS 1 Eh 13 Ir) 1)) (iK (newL 1 Eh))).map (·.1)).map D7:=by
  rw[l9];rfl
 rw[e2,en];rfl
theorem akW:Pz 100=aC:=by kernel_rfl
theorem awR:Pz 4=aC:=by kernel_rfl
theorem awS:Ar aB (AZ W7) 15 aqo:=by
 intro H w A8 args φ hon hgl hr hφ;unfold aqo at hφ;split at hφ
 ·rename_i n o m e t u
  split at hφ
  ·rename_i lv mo e1 e2
   cases c1:(ZE iI n o 1 Eh&&lv==1)<;>simp only[c1,cond_true,cond_false] at hφ
   ·exact hφ.elim
   rw[aI,beq_iff_eq] at c1;obtain ⟨c1,rfl⟩:=c1;have k1:=Xo c1 exH.o;match args,hr with
   |[a0,a1,a2],⟨r0,r1,r2,_⟩=>
   have s2 {k:Nat} {f f':Nat->List Sh} (h:∀j,j<k->f j=f' j):Wk (.sl 2 k f) (.sl 2 k f'):=.inr ⟨rfl,rfl,h⟩;cases c2:ZE je m e 13 Ir<;>simp only[c2,cond_true,cond_false] at hφ
   ·cases c3:(ZE je m e 14 ZC&&mo==100)<;>simp only[c3,cond_true,cond_false] at hφ
    ·exact hφ.elim
    rw[aI,beq_iff_eq] at c3;obtain ⟨c3,rfl⟩:=c3;have k2:=Xo c3 aqn.p;refine TP akP hon hgl (A8:=[hsS 1 Eh 14 ZC,t,u]) ⟨TN k1 k2 r0,r1,r2,trivial⟩ hφ ?_;unfold ad2;simp only[e1,e2];obtain ⟨b1,b2,b3,b4⟩:=aqt;refine ⟨Yv aqn (by decide) akW akV,fun _=>?_,fun c=>(by rw[b1] at c;cases c)⟩;refine ⟨⟨.inl (by rw[b2]),?_,by rw[b3];rfl,trivial⟩,rfl,trivial⟩;unfold PD SS;rw[b4];exact .inl ⟨rfl,rfl⟩
   ·have k2:=Xo c2 exH.p
    cases c3:(mo==100)<;>simp only[c3,cond_true,cond_false] at hφ
    ·cases c4:(mo==4)<;>simp only[c4,cond_true,cond_false] at hφ
     ·exact hφ.elim
     rw[beq_iff_eq] at c4;subst c4;refine TP akP hon hgl (A8:=[hsS 1 Eh 13 Ir,t,u]) ⟨TN k1 k2 r0,r1,r2,trivial⟩ hφ ?_;unfold ad2;simp only[e1,e2];refine ⟨Yv exH (by decide) awR Yu,fun c=>(by rw[aqs] at c;cases c),fun _=>?_⟩;exact ⟨⟨.inl rfl,.inl ⟨rfl,rfl⟩,rfl,trivial⟩,rfl,trivial⟩
    ·rw[beq_iff_eq] at c3
     subst c3;refine TP akP hon hgl (A8:=[hsS 1 Eh 13 Ir,t,u]) ⟨TN k1 k2 r0,r1,r2,trivial⟩ hφ ?_;unfold ad2;simp only[e1,e2];obtain ⟨b1,b2,b3,b4⟩:=arR;refine ⟨Yv exH (by decide) akW Yu,fun _=>?_,fun c=>(by rw[b1] at c;cases c)⟩;refine ⟨⟨.inl (by rw[b2]),?_,by rw[b4];rfl,trivial⟩,rfl,trivial⟩;unfold PD SS;rw[b3];refine .inr ⟨rfl,rfl,fun j hj=>?_⟩;have hj:j<2:=hj;match j,hj with
     |0,_=>rfl |1,_=>rfl
  ·exact hφ.elim
 ·exact hφ.elim
theorem awT:Ar aB (AZ W7) 16 aqp:=by
 intro H w A8 args φ hon hgl hr hφ;unfold aqp at hφ;split at hφ
 ·rename_i n o m e t v
  split at hφ
  ·rename_i lv k u e1 e2
   cases c1:(ZE iI n o 1 Eh&&(lv==1&&(ZE je m e 13 Ir&&fC k 0)))<;>simp only[c1,cond_true,cond_false] at hφ
   ·exact hφ.elim
   rw[aI,aI,aI,beq_iff_eq] at c1;obtain ⟨c1,rfl,c2,c3⟩:=c1;obtain rfl:=fH c3;have k1:=Xo c1 exH.o;have k2:=Xo c2 exH.p;match args,hr with
   |[a0,a1,a2],⟨r0,r1,r2,_⟩=>
   refine TP awK hon hgl (A8:=[hsS 1 Eh 13 Ir,t,v]) ⟨TN k1 k2 r0,r1,r2,trivial⟩ hφ ?_;unfold aqh;simp only[e1,e2];obtain ⟨b1,b2⟩:=auZ u;refine ⟨?_,?_,rfl,trivial⟩
   ·unfold naB
    rw[ajJ exH (by decide),Yu,b2];rfl
   ·unfold nxN nxR
    rw[b1];refine .inr ⟨rfl,rfl,fun j hj=>?_⟩;have hj:j<3:=hj;match j,hj with
    |0,_=>rfl |1,_=>rfl |2,_=>rfl
  ·exact hφ.elim
 ·exact hφ.elim
theorem au0{P:Program}{C:Ctx}{K:Kx}{ts:List ND}{R:Hp->Prop}{φ:Sh->Prop}{t:Tree D8}{q:List Bj}{s:Sh}(h:t.way []=ay (q,.ret s))(hq:dG q)(hs:φ s):Cc (Jz P C K ts R φ) t:=by
 rw[Qu];exact (Tree.N8 h hq hs).1
theorem aqu:Ba aB C11:=by
 have h:=dw Xm Am;exact ⟨h.1,h.2,h.3,h.4,h.5,h.6,h.7⟩
theorem awU:BA aB C11:=by
 have h:=lS (stop:=Am) (spec:=Xm) (fun g F h=>by
  unfold Xm at h;split at h
  ·cases h;exact awS
  ·cases h;exact awT
  ·cases h;exact ajw
  ·cases h) fun g h=>by
  unfold Xm at h;split at h;all_goals first|(cases h;done) |kernel_rfl
 exact ⟨h.1,h.2,h.3,h.4⟩
theorem Yl:Ar aB (AZ W7) 11 W11:=by
 refine FN (C:=C11) aqu (fn:=Tryz.f11) (by kernel_rfl) (by kernel_rfl) fun H w A8 args φ hrep h=>?_
 have hn:Tryz.f11.ntmps=94:=by kernel_rfl
 unfold W11 at h;split at h
 ·refine ⟨[],hrep,L0,?_⟩
  refine EJ aqu awU (hold:=Bh) (m:=900) (n:=3000) (ts:=[]) ?_;rw[hn];have hφ:φ (.v (.bool aC)):=h;exact au0 w11 trivial (BH (s':=.v (.bool aC)) (.inr rfl) hφ)
 ·exact h.elim
end Go.Proofs
namespace Go.Sx
open Go.RowKit Go.ChangeShapes Go.WideShapes Go.Deep
def Eo(w:World):Mem:=fun b=>w.heap[b]?
theorem amb(w:World):(Eo w).on w:=fun _ _ h=>h
theorem Xp{w:World}{a:Addr}{v:Value}(h:w.cell? a=ay v):hcell (Eo w) a.block a.off=ay v/\a.spot=aK:=by
 unfold World.cell? at h;unfold hcell Eo;split at h
 ·rename_i c t f hb
  rw[hb];cases hs:a.spot with
  |none=>simp only[hs,Option.isSome_none,Bool.false_eq_true,if_false] at h;exact ⟨h,rfl⟩ |some x=>simp[hs] at h
 ·cases h
section
variable{H:Type}{enc:TypeId×Value->H}{P:Program}{w:World}{base:Nat}{spare:Nat->Bool}{held:Bool}
def aqv(P:Program)(fs:Array Field)(k:Nat):Bool:=
 fs.size==k&&(aX k).all fun i=>match fs[i]? with
  |some f=>f.offset==i&&(match P.underlying f.type with|some (.int .i64)=>aC|_=>ak)&&P.cellsOf f.type==1
  |none=>ak
def rowB(P:Program)(e k:Nat):Bool:=
 match P.underlying e with
 |some (.int .i64)=>k==1&&P.cellsOf e==1 |some (.struct fs)=>aqv P fs k&&P.cellsOf e==k |_=>ak
def int64(n:Int):Prop:=(Lit.int .i64 n).wf=aC
theorem ahL{e k fuel:Nat}{cs:List Value}{x:DataW H×List MemPlace}(hr:rowB P e k=aC)(h:yY enc P w base spare held fuel e cs=ay x):
  ∃ns:List Int,ns.length=k/\cs=ns.map (iR .i64)/\∀n∈ns,int64 n:=by
 unfold rowB at hr;split at hr
 ·rename_i hu
  simp only[aI,beq_iff_eq] at hr;obtain ⟨n,rfl,_,hw⟩:=wo hu h;exact ⟨[n],hr.1.symm,rfl,fun m hm=>by simp at hm;subst hm;exact hw⟩
 ·rename_i fs hu
  simp only[aI,beq_iff_eq] at hr;obtain ⟨hf,hc⟩:=hr;unfold aqv at hf;simp only[aI,beq_iff_eq] at hf;obtain ⟨hk,hf⟩:=hf;obtain ⟨xs,m,_,_,hlen,hxs,hel⟩:=tH hu h;rw[hc] at hlen;have cell:∀i,i<k->∃n,cs[i]?=ay (.int .i64 n)/\int64 n:=fun i hi=>by
   have q:=dO.1 hf i (dP.2 hi);split at q
   ·rename_i f hfi
    simp only[aI,beq_iff_eq] at q;obtain ⟨⟨ho,ht⟩,h1⟩:=q;have ht:P.underlying f.type=ay (.int .i64):=by
     split at ht
     ·assumption
     ·cases ht
    have q2:=hel i f hfi;rw[ho,h1] at q2;have hxi:i<xs.length:=by rw[hxs,hk];exact hi
    rw[aV hxi] at q2;obtain ⟨n,e1,_,e3⟩:=wo ht q2;refine ⟨n,?_,e3⟩;have:(List.take 1 (List.drop i cs))[0]?=ay (.int .i64 n):=by rw[e1];rfl
    simpa using this
   ·cases q
  clear hel h hf;have:∀(j:Nat) (l:List Value),l.length=j->(∀i,i<j->∃n,l[i]?=ay (.int .i64 n)/\int64 n)->∃ns:List Int,ns.length=j/\l=ns.map (iR .i64)/\∀n∈ns,int64 n:=by
   intro j;induction j with
   |zero=>intro l hl _;exact ⟨[],rfl,by simpa using hl,fun _ h=>by simp at h⟩ |succ j ih=>
    intro l hl hc;match l,hl with
    |v::l,hl=>
     obtain ⟨ns,h1,h2,h3⟩:=ih l (by simpa using hl) fun i hi=>by simpa using hc (i+1) (by omega)
     obtain ⟨n,q1,q2⟩:=hc 0 (by omega);simp at q1;subst q1;exact ⟨n::ns,by simp[h1],by simp[h2],fun m hm=>by
      rcases List.mem_cons.1 hm with rfl|hm
      ·exact q2
      ·exact h3 m hm⟩
  exact this k cs hlen cell
 ·cases hr
def G8(ns:List Int):List Sh:=ns.map (aW .i64)
theorem ajL{w:World}{base:Nat}{a:Addr}{n:Nat}{cs:List Value}(h:w.cells? base a n=ay cs):cs.length=n/\∀j,j<n->w.cell? (a.add j)=cs[j]?:=by
 unfold World.cells? at h;split at h
 ·have:∀(l:List Nat) (cs:List Value),l.mapM (fun i=>w.cell? (a.add i))=ay cs->cs.length=l.length/\∀(j:Nat) (i:Nat),l[j]?=ay i->w.cell? (a.add i)=cs[j]?:=by
   intro l;induction l with
   |nil=>intro cs h;simp at h;subst h;exact ⟨rfl,fun j i e=>by simp at e⟩ |cons x l ih=>
    intro cs h;rw[List.mapM_cons] at h;simp only[Option.bind_eq_bind,Option.bind_eq_some_iff,Option.pure_def] at h;obtain ⟨v,h1,vs,h2,h3⟩:=h;cases h3;obtain ⟨e1,e2⟩:=ih vs h2;refine ⟨by simp[e1],fun j i e=>?_⟩;match j,e with
    |0,e=>simp at e;subst e;simpa using h1 |j+1,e=>simpa using e2 j i (by simpa using e)
  obtain ⟨e1,e2⟩:=this _ _ h;rw[lG] at e1;exact ⟨e1,fun j hj=>e2 j j (by simp[hj])⟩
 ·cases h
theorem ahM(a:Addr)(n:Nat):(a.add n).off=a.off+n/\(a.add n).block=a.block:=by
 unfold mZ;split
 ·subst_vars;exact ⟨rfl,rfl⟩
 ·exact ⟨rfl,rfl⟩
theorem add_add'(a:Addr)(i j:Nat):(a.add i).add j=a.add (i+j):=by
 unfold mZ;by_cases hi:i=0<;>by_cases hj:j=0<;>simp[hi,hj,jS]
theorem acr{t e k fuel:Nat}{cs:List Value}{x:DataW H×List MemPlace}(ht:P.underlying t=ay (.slice e))(hr:rowB P e k=aC)(hk:P.cellsOf e=k)(h0:0<k)
  (h:yY enc P w base spare held fuel t cs=ay x) :
  ∃v n g,cs=[v]/\Rep (Eo w) (.sl k n g) v/\∀i,i<n->∃ns:List Int,ns.length=k/\g i=G8 ns/\∀n∈ns,int64 n:=by
 rcases open_slice ht h with ⟨rfl,_⟩ |⟨a,len,cap,m,n,D,Pl,rfl,hb,hl,hcap,hm,_,hel⟩
 ·exact ⟨_,0,fun _=>[],rfl,.sl0 _ _ _ _ (gQ _),fun i hi=>by omega⟩
 have hlm:len<=m:=by rw[hm];split<;>omega
 rw[hk] at hel;have row:∀i,i<len->∃ns:List Int,ns.length=k/\w.cells? base (a.add (i*k)) k=ay (ns.map (iR .i64))/\∀n∈ns,int64 n:=fun i hi=>by
  obtain ⟨cs',h1,h2⟩:=hel i (by omega);obtain ⟨ns,e1,rfl,e3⟩:=ahL hr h2;exact ⟨ns,e1,h1,e3⟩
 by_cases hz:len=0
 ·subst hz
  exact ⟨_,0,fun _=>[],rfl,.sl0 _ _ _ _ hcap,fun i hi=>by omega⟩
 let N:Nat->List Int:=fun i=>if h:i<len then (row i h).choose else []
 have hN:∀i,i<len->(N i).length=k/\w.cells? base (a.add (i*k)) k=ay ((N i).map (iR .i64))/\∀n∈N i,int64 n:=fun i hi=>by
  simp only[N,dif_pos hi];exact (row i hi).choose_spec
 have cell:∀i j,i<len->j<k->w.cell? (a.add (i*k+j))=((N i).map (iR .i64))[j]?:=fun i j hi hj=>by
  have:=(ajL (hN i hi).2.1).2 j hj;rwa[add_add'] at this
 have hspot:a.spot=aK:=by
  have h1:=cell 0 0 (by omega) h0;have:∃v,w.cell? a=ay v:=by
   have hl0:=(hN 0 (by omega)).1;match hq:N 0 with
   |[]=>rw[hq] at hl0;simp at hl0;omega |x::r=>
    rw[hq] at h1;simp[mZ] at h1;exact ⟨_,h1⟩
  obtain ⟨v,hv⟩:=this;exact (Xp hv).2
 obtain ⟨blk,off,spot⟩:=a;simp only at hspot;subst hspot;refine ⟨_,len,fun i=>G8 (N i),rfl,.sl _ _ _ blk off cap (fun i j=>((N i).map (iR .i64)).getD j .nilFunc) hl hcap (fun i hi=>by simp[G8,(hN i hi).1]) (fun i j hi hj=>?_) (fun i j hi hj=>?_) (fun i j s hi e=>?_),fun i hi=>⟨N i,(hN i hi).1,rfl,(hN i hi).2.2⟩⟩
 ·have h1:=cell i j hi hj
  have hlt:j<((N i).map (iR .i64)).length:=by simpa[(hN i hi).1] using hj
  rw[aV hlt] at h1;have h2:=(Xp h1).1;rw[(ahM _ _).1,(ahM _ _).2] at h2;simp only[jS] at h2 ⊢;rw[h2,aY,aV hlt];rfl
 ·have hlt:j<(N i).length:=by rw[(hN i hi).1];exact hj
  simp[aY,hlt];rfl
 ·simp only[G8,gV,Option.map_eq_some_iff] at e
  obtain ⟨n,h3,rfl⟩:=e;simp[aY,h3];exact .i _ _
def aqw(P:Program)(t:Nat)(k0 k1:Nat):Bool:=
 match P.underlying t with
 |some (.struct fs)=>fs.size==2&&P.cellsOf t==2&&(match fs[0]?,fs[1]? with
  |some f0,ay f1=>f0.offset==0&&f1.offset==1&&P.cellsOf f0.type==1&&P.cellsOf f1.type==1&&(match P.underlying f0.type,P.underlying f1.type with
   |some (.slice e0),ay (.slice e1)=>rowB P e0 k0&&P.cellsOf e0==k0&&rowB P e1 k1&&P.cellsOf e1==k1 |_,_=>ak)
  |_,_=>ak)
 |_=>ak
theorem amc{t k0 k1:Nat}{v:Value}{d:DataW H}{ps:List MemPlace}(hp:aqw P t k0 k1=aC)(h00:0<k0)(h01:0<k1){b0:Nat}(hval:nZ P w .any b0 t v)(hd:DataW.Trod enc P w base spare held t v d ps):
  ∃n0 g0 n1 g1,Rep (Eo w) (.agg [.sl k0 n0 g0,.sl k1 n1 g1]) v/\(∀i,i<n0->∃ns:List Int,ns.length=k0/\g0 i=G8 ns/\∀n∈ns,int64 n)/\∀i,i<n1->∃ns:List Int,ns.length=k1/\g1 i=G8 ns/\∀n∈ns,int64 n:=by
 unfold aqw at hp;split at hp
 ·rename_i fs hu
  unfold nZ at hval;rw[hu] at hval;obtain ⟨cs,rfl,hsz,_⟩:=hval;simp only[aI,beq_iff_eq] at hp;obtain ⟨⟨h2,hc⟩,hp⟩:=hp;split at hp
  ·rename_i f0 f1 hf0 hf1
   simp only[aI,beq_iff_eq] at hp;obtain ⟨⟨⟨⟨o0,o1⟩,c0⟩,c1⟩,hp⟩:=hp;split at hp
   ·rename_i e0 e1 hs0 hs1
    simp only[aI,beq_iff_eq] at hp;obtain ⟨⟨⟨r0,q0⟩,r1⟩,q1⟩:=hp;obtain ⟨fuel,hd⟩:=hd;obtain ⟨xs,m,_,_,hlen,hxs,hel⟩:=tH hu hd;have a0:=hel 0 f0 hf0;have a1:=hel 1 f1 hf1;rw[o0,c0,aV (by rw[hxs,h2];decide)] at a0;rw[o1,c1,aV (by rw[hxs,h2];decide)] at a1;obtain ⟨v0,n0,g0,x0,y0,z0⟩:=acr hs0 r0 q0 h00 a0;obtain ⟨v1,n1,g1,x1,y1,z1⟩:=acr hs1 r1 q1 h01 a1;rw[hc] at hsz;obtain ⟨l⟩:=cs;match l,hsz with
    |[u0,u1],_=>
     simp[Value.cells] at x0 x1;subst x0 x1;refine ⟨n0,g0,n1,g1,.agg _ _ rfl fun j s v e1 e2=>?_,z0,z1⟩;match j,e1,e2 with
     |0,e1,e2=>simp at e1 e2;subst e1 e2;exact y0 |1,e1,e2=>simp at e1 e2;subst e1 e2;exact y1 |j+2,e1,_=>simp at e1
   ·cases hp
  ·cases hp
 ·cases hp
end
end Go.Sx
