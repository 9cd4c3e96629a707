/- Own work. -/
import Derived.Test.YthehnhaoiijkhaaGreatDoorL14
open Int (ofNat)
open Bool renaming true->aC,and_eq_true->aI,not_eq_true'->fH,false->ay,eq_iff_iff->wK
open Classical renaming propDecidable->bG
open Go.Gm renaming start->fD
open Go.BR renaming Ev->jv,Am->dK,Oj->iP,F5->oH,EG->lU,UK->xM,IZ->wY,O8->qQ,ace->xO,idx->yT,takeB->qR,Ph->wZ
open Go.BR.Row renaming put->sJ
open Go.Proofs.C7 renaming ok->dD,Vo->nT
open Go.Proofs.Tryz renaming prog->aA,f39->uN,f19->sK,f16->mX,f21->oG,f7->nO
open Go.Aw renaming O34->sN
open Go.Sx.BK renaming sh->aO,int->aj,nat->aJ,Mc->bF,bool->pW
open Go.Sx.ED renaming ret->aT,at_->bK
open Go.Sx.It renaming code->bD,inBlock->dw
open Go.Sx.Sh renaming agg->cO,sl->aG,AQ->cZ,b->gU,i->aY,er->bf
open Go.Value renaming nilIface->bJ
open Int renaming ofNat->ah,ofNat_eq_natCast->fM
open Int.ofNat renaming inj->lq
open List renaming all_eq_true->dF,mem_range->dh,mem_map->dJ,getElem?_eq_some_iff->aV,map_congr_left->jV,length_map->dP,getElem?_eq_getElem->aS,map_append->iR,mem_of_find?_eq_some->qI,getElem?_map->gB,range->aZ,length_range->kD,mem_cons_self->bZ,mem_cons_of_mem->dA,mem_append->bI,mem_flatMap->iV,getD_eq_getElem?_getD->aX,mem_filter->wI,map_cons->jr,find?_cons->wJ,flatMap_def->mF,map_map->qm,map->oU,any_eq_true->pX
open Nat renaming zero_le->gV,le_refl->dn
open Option renaming some->ak,none->aK,isSome_iff_exists->fP
open Option.some renaming inj->dH
open Prod.mk renaming inj->xg
namespace Go.Pl
open Go Go.Sx Go.Proofs
open Go.BR (Au FX dfn Ht takeB KP Pj Pm takeN Ph F5 EG GV I4 L6 acv XA Cm QZ)
open Go.Aw (VL)
theorem ahU{p:Nat->jv}:∀r k (σ σ':Au),takeN p σ k r=.inl σ'->σ.OK->σ.many=k->(∀j,k<=j->j<k+r->Cm (p j)=aC)->σ'.OK/\σ'.many=k+r
 |0,k,σ,σ',h,ho,hm,hv=>by
  have h:(Sum.inl σ:Au ⊕ (Nat×Nat))=.inl σ':=h;cases h;exact ⟨ho,by omega⟩
 |r+1,k,σ,σ',h,ho,hm,hv=>by
  unfold takeN at h;cases hf:(σ.feed (p k)).1 with
  |some e=>rw[hf] at h;cases h |none=>
   rw[hf] at h;have:=ahU r (k+1) _ σ' h (ho.feed (hv k (by omega) (by omega))) (by rw[QZ hf];omega) (fun j h1 h2=>hv j (by omega) (by omega));exact ⟨this.1,by rw[this.2];omega⟩
theorem aqr(l:List Go.BR.De):∀k,okB Dd k (Go.BR.Aj (Go.BR.nth l))=aC
 |0=>rfl |k+1=>by
  show (okB Dd k _&&_)=aC;rw[aqr l k];rfl
theorem avi{g:Nat->List Sh}{j:Nat}(h:g j=sJ (dK (α:=iP) g j)):g j=Row.put (Am (α:=Oj) g j)/\(Am (α:=Oj) g j).kind=(dK (α:=iP) g j).kind/\(Am (α:=Oj) g j).init=(dK (α:=iP) g j).init:=by
 have e:Am (α:=Oj) g j=⟨(dK (α:=iP) g j).kind,(dK (α:=iP) g j).init⟩:=by
  have:Am (α:=Oj) g j=(Row.get (α:=Oj) (sJ (dK (α:=iP) g j))).getD Row.JI:=by
   unfold Am;rw[<-h]
  rw[this];rfl
 rw[e];exact ⟨h,rfl,rfl⟩
theorem aqs{n m:Nat}{g h:Nat->List Sh}(P:Pn n g m h)(hok:(Bl n g m h).okb=aC):acv n m (dK g) (dK h)/\takeB m (dK h)=aC:=by
 have hok:(!F5 n m&&(EG n m g h&&takeB m (dK h)))=aC:=hok;rw[aI,aI,fH] at hok;exact ⟨XA hok.1 hok.2.1 fun k hk=>dF.1 P.r k (dh.2 hk),hok.2.2⟩
theorem ak9{n m:Nat}{g h:Nat->List Sh}(P:Pn n g m h)(hok:(Bl n g m h).okb=aC):n<=8/\∀j,j<n->g j=Row.put (Am (α:=Oj) g j)/\Fa (Am (α:=Oj) g j).kind (Am (α:=Oj) g j).init=ay:=by
 have hok:(!F5 n m&&(EG n m g h&&takeB m (dK h)))=aC:=hok;rw[aI,aI,fH] at hok;have hb:¬(8<n\/400<m):=by
  have:=hok.1;unfold oH at this;simpa using this
 refine ⟨by omega,fun j hj=>?_⟩;obtain ⟨e1,e2,e3⟩:=avi (Go.BR.Jh P.o j hj);refine ⟨e1,?_⟩;have aqt:Di (Am (α:=Oj) g j).kind=aC:=IE P.k j hj;rw[e2] at aqt;rw[e2,e3];have hg:=hok.2.1;unfold lU xM at hg;cases hs:wY (fun k=>qQ (dK (α:=iP) g k)) 0 n with
 |some x=>rw[hs] at hg;cases hg |none=>
  have hn:=Go.BR.VO hs j (gV _) (by omega);unfold qQ at hn;cases ho:xO (dK (α:=iP) g j).kind (dK (α:=iP) g j).init with
  |false=>rw[ho] at hn;cases hn |true=>
   unfold xO Go.BR.YH at ho;unfold Fa;generalize (dK (α:=iP) g j).kind=a at ho aqt ⊢;have hr:=of_decide_eq_true aqt;have hidx:yT a=(if (0:Int)>a then 0 else a) - 1:=by
    unfold yT;exact Cj (by split<;>omega) (by split<;>omega)
   rw[hidx] at ho;generalize (dK (α:=iP) g j).init=b at ho ⊢;simp only[aI,fH,decide_eq_true_eq,decide_eq_false_iff_not,Bool.or_eq_true,beq_iff_eq] at ho;simp only[Bool.or_eq_false_iff,Bool.not_eq_false',aI,decide_eq_true_eq,decide_eq_false_iff_not,Bool.and_eq_false_imp,fH];split at ho<;>omega
theorem YK{n m:Nat}{g h:Nat->List Sh}(P:Pn n g m h)(hok:(Bl n g m h).okb=aC)(hf:(Bl n g m h).n<=12):TbP n g (Bl n g m h):=by
 obtain ⟨o1,o2⟩:=ak9 P hok;refine ⟨hf,fun i hi=>?_,o1,fun j hj=>(o2 j hj).2⟩;obtain ⟨G,ht⟩:=aqs P hok;have hi:i<(KP m (dK (α:=jv) h)).rs.length:=hi;show okB Dd (FX (Ht (KP m (dK (α:=jv) h)) i)) (dfn (Ht (KP m (dK (α:=jv) h)) i))=aC/\FX (Ht (KP m (dK (α:=jv) h)) i)<=400;refine ⟨aqr _ _,?_⟩;unfold qR wZ at ht;unfold Go.BR.KP wZ at hi ⊢;cases hs:takeN (dK (α:=jv) h) Au.nil 0 m with
 |inr q=>rw[hs] at ht;cases ht |inl σ=>
  rw[hs] at hi;obtain ⟨q1,q2⟩:=ahU m 0 Au.nil σ hs Au.OK.nil rfl (fun j _ hj=>G.valid j (by omega));have:=q1.dl i _ (Go.BR.VN hi);have:=G.small.2;show (Ht σ i).Ar.length<=400;omega
theorem aqu{n m:Nat}{g h:Nat->List Sh}(P:Pn n g m h)(hok:(Bl n g m h).okb=aC):nwB n g=aC:=by
 obtain ⟨o1,o2⟩:=ak9 P hok;unfold nwB S9;rw[aao (o:=Am g) fun j hj=>(o2 j hj).1,P.k,agV fun j hj=>(o2 j hj).2,decide_eq_false (by omega:¬8<n)];rfl
open Go Go.Sx Go.Proofs Go.Gm Go.Bf
noncomputable def Ed(s:Sh)(lv:Int):Ie:=match s with
 | .agg [.sl 2 n g,.sl 8 m h]=>BD lv n g (Bl n g m h) |_=>⟨ay,ay,0,0,0,0,fun _=>default,fun _=>0,0,fun _=>[]⟩
noncomputable def hsB(s:Sh)(lv:Int):Bool:=@decide (∃n g m h,s=hsS n g m h/\Pn n g m h/\1<=lv/\lv<=3) (bG _)
def YL(mo:Int):Bool:=decide (1<=mo)&&decide (mo<=65536)
noncomputable def rsP(s:Sh)(lv mo:Int):Option (List (Nd SG)):=Dv (Gb (Ed s lv)) (CS (Ed s lv).k0) (Ed s lv).g0 mo.toNat
noncomputable def rsL(s:Sh)(lv mo:Int):List (Nd SG):=(rsP s lv mo).getD []
noncomputable def RD(s:Sh)(lv mo:Int):Bool:=YL mo&&((Ed s lv).okb&&(rsP s lv mo).isSome)
noncomputable def N8(s:Sh)(lv mo:Int):Bool:=Kt (Gb (Ed s lv)) (CS (Ed s lv).k0) (Ed s lv).g0 (rsL s lv mo)
noncomputable def rtL(s:Sh)(lv mo:Int):List Ea:=(Ir (Gb (Ed s lv)) (CS (Ed s lv).k0) (Ed s lv).g0 (rsL s lv mo)).map Em
noncomputable def rtN(s:Sh)(lv mo:Int):Nat:=(rtL s lv mo).length
noncomputable def rtR(s:Sh)(lv mo:Int):Nat->Ea:=nth (rtL s lv mo)
noncomputable def RF(s:Sh)(lv mo:Int):Int:=((rsL s lv mo).length:Nat)
noncomputable def YM(s:Sh)(lv mo:Int):Bool:=YL mo&&(!(Ed s lv).okb&&(Ed s lv).Ig)
noncomputable def rpI(s:Sh)(lv mo:Int):Int:=(Ed s lv).pos
noncomputable def VP(s:Sh)(lv mo:Int):Nat:=if YL mo=aC then (if (Ed s lv).okb=aC then 0 else (Ed s lv).e) else 4
end Go.Pl
namespace Go.Proofs
open Go Go.Sx Go.Pl Go.Gm Go.Bf
noncomputable def D15:List Sh->Tree Sh
 |[s,t,u]=>match BF t,BF u with
  |some lv,ak mo=>.need (hsB s lv) (.node (RD s lv mo) (.leaf (.AQ [.agg [.b (N8 s lv mo),.sl 2 (rtN s lv mo) (Aj (rtR s lv mo)),.i .i64 (RF s lv mo)],.v .nilIface]))
   (.node (YM s lv mo) (.leaf (.AQ [.agg [.b ay,.sl 2 0 (fun _=>[]),.i .i64 0],.C9 109 (.pt [.i .i64 (rpI s lv mo),.er (VP s lv mo) 329])]))
    (.leaf (.AQ [.agg [.b ay,.sl 2 0 (fun _=>[]),.i .i64 0],.er (VP s lv mo) 329]))))
  |_,_=>.fail
 |_=>.fail
noncomputable def D39:List Sh->Tree Sh
 |[.v (.chan aK),s,t,u]=>D15 [s,t,u] |_=>.fail
theorem YN{P:Program}{C:Ctx}(hC:BG P C){g:Nat}{fn:Func}(hfn:C.fns.get g=ak fn)(hb:fn.body.isSome=aC){H:Mem}{w:World}{Ey:List Sh}{args:List Value}{φ:Sh->Prop}{L:Nat}(hon:H.on w)(hg:Dj C.gls H)(hr:DX H Ey args)
  (hgo:Bz P C (K0 H w) g [.code []] (Ap fn.ntmps Ey L) [] emp (up φ)):Calls P g args.toArray w fun e w'=>∃v s H',e=.returned v/\φ s/\Ew H w s v H' w':=by
 refine (agT hC hfn hb hon hg hr hgo).mono fun e w' ⟨v,s,H',he,⟨s',hw,hs⟩,r⟩=>?_;obtain ⟨H2,r2⟩:=r.wk hw;exact ⟨v,s',H2,he,hs,r2⟩
theorem aqw{c:Int}{e e':Sh}(he:Wk e e'):Wk (.AQ [.agg [.b ay,.sl 0 0 fun _=>[],.i .i64 c],e]) (.AQ [.agg [.b ay,.sl 2 0 (fun _=>[]),.i .i64 c],e']):=
 ⟨⟨.inl rfl,.inl ⟨rfl,rfl⟩,rfl,trivial⟩,he,trivial⟩
theorem O39:AV aA (Bq W7) 39 D39:=by
 intro H w Bv args φ hon hg hr hφ;unfold D39 at hφ;split at hφ
 ·rename_i s t u
  unfold D15 at hφ;dsimp only at hφ;split at hφ
  ·rename_i lv mo e1 e2
   obtain ⟨q1,q2,q3⟩:=hφ;obtain ⟨n,g,m,h,rfl,P,l1,l3⟩:=@of_decide_eq_true _ (bG _) q1;have O:=FN (O20 P) l1 l3 (aqu P);have hBe:Ed (hsS n g m h) lv=BD lv n g (Bl n g m h):=rfl;obtain ⟨B,hB⟩:∃B,BD lv n g (Bl n g m h)=B:=⟨_,rfl⟩;have aqx:AV aA (Bq W7) 40 (Xt (hsS n g m h) lv B):=by rw[<-hB];exact O
   match args,hr with
   |[a0,a1,a2,a3],⟨r0,r1,r2,r3,_⟩=>
   refine YN (C:=C7 Ai W7 (Dw (hsS n g m h) lv B) AU) (dD _ _) (fn:=uN) (Ey:=[.v (.chan aK),hsS n g m h,.i .i64 lv,.i .i64 mo]) (L:=L0) (by kernel_rfl) (by kernel_rfl) hon hg ⟨r0,r1,EJ e1 r2,EJ e2 r3,trivial⟩ ?_;have hn:uN.ntmps=111:=by kernel_rfl
   have hbg:Ed (hsS n g m h) lv=B:=hBe.trans hB;have c0 {P:Prop} (q:Ai.lt lv (ah 1)=aC):P:=by simp[Aq] at q;omega
   have c1 {P:Prop} (q:Ai.lt (ah 3) lv=aC):P:=by simp[Aq] at q;omega
   have bad {k:Nat} (hk:RD (hsS n g m h) lv mo=ay) (ha:YM (hsS n g m h) lv mo=ay) (he:VP (hsS n g m h) lv mo=k):up φ (.AQ [.agg [.b ay,.sl 0 0 fun _=>[],.i .i64 (ah 0)],.er k 329]):=by
    have q:=(q3 hk).2 ha;rw[he] at q;exact BX (aqw rfl) q
   have badM (hm:YL mo=ay):up φ (.AQ [.agg [.b ay,.sl 0 0 fun _=>[],.i .i64 (ah 0)],.er 4 329]):=
    bad (by unfold RD;rw[hm];rfl) (by unfold YM;rw[hm];rfl) (by unfold VP;rw[hm];rfl)
   have moT (h1:Ai.lt mo (ah 1)=ay) (h2:Ai.lt (ah 65536) mo=ay):1<=mo/\mo<=65536:=by
    simp[Aq] at h1 h2;omega
   have ahV (q:1<=mo/\mo<=65536):YL mo=aC:=by unfold YL;rw[decide_eq_true q.1,decide_eq_true q.2];rfl
   have Xo (h4:B.okb=aC):LY B (QnP lv n g (Bl n g m h))/\∀x y,QnP lv n g (Bl n g m h) x->QnP lv n g (Bl n g m h) y->CS B.k0 x=CS B.k0 y->x=y:=by
    rw[<-hB] at h4 ⊢;have h4:((Bl n g m h).okb&&decide ((Bl n g m h).n<=12))=aC:=h4;rw[aI,decide_eq_true_eq] at h4;have T:=YK P h4.1 h4.2;exact ⟨JG T,KQ⟩
   refine Fh (dD _ _) (F9 aqx _) (hold:=BL) (m:=300) (n:=400) (ts:=[⟨39,tdA,LA B (mo.toNat:Nat) (Me (CS B.k0 ⟨0,B.g0⟩) (ak (.int .i64 (ah 0))) fun _=>aK) [(⟨0,B.g0⟩:Nd SG)].length (nth ([(⟨0,B.g0⟩:Nd SG)].map (O4 B.k0))) (0:Nat) 1 (fun _=>ndQ B.k0 ⟨0,B.g0⟩) [(⟨0,B.g0⟩:Nd SG)].length (nth ([(⟨0,B.g0⟩:Nd SG)].map (Jq B.k0))),[]⟩]) ?_;rw[hn];refine ajj Ai W7 B lv mo n m g h _ _ _ _ _ _ _ _ _ rfl rfl rfl rfl rfl rfl rfl rfl (fun _ _ _ _=>@decide_eq_true _ (bG _) ⟨rfl,rfl⟩) (fun _ _ _ _ h4=>(Xo h4).1.ke _ (Xo h4).1.start)
    (fun q=>c0 q) (fun _ q=>c1 q) (fun _ _ q=>badM ?_) (fun _ _ _ q=>badM ?_) (fun _ _ _ _ _ q=>by cases q) (fun _ _ h2 h3 _ _ q=>?_) (fun _ _ h2 h3 h4 _ _=>?_) (fun _ _ h2 h3 h4 h7=>?_) (fun _ _ h2 h3 h4 h7=>?_)
   ·simp[Aq] at q
    unfold YL;rw[decide_eq_false (by omega:¬1<=mo)];rfl
   ·simp[Aq] at q
    unfold YL;rw[decide_eq_false (by omega:¬mo<=65536),Bool.and_false]
   ·have hm:=moT h2 h3
    exfalso;simp[AX,JC] at q;have:=q (by omega);omega
   ·have hm:=moT h2 h3
    obtain ⟨hg1,hg2⟩:=Xo h4;have hmo:((mo.toNat:Nat):Int)=mo:=Int.toNat_of_nonneg (by omega);have hmax:Ai.max mo (ah 0)=((mo.toNat:Nat):Int):=by
     rw[JC,hmo];split
     ·rename_i q;have:(0:Int)>mo:=q;omega
     ·rfl
    refine ⟨⟨rfl,rfl,rfl,rfl,rfl,rfl,hmax,rfl,rfl,fun j hj=>?_,rfl,fun j hj=>?_,rfl,fun j hj=>?_,trivial⟩,_,rfl,?_⟩
    ·obtain rfl:j=0:=by omega
     rfl
    ·obtain rfl:j=0:=by omega
     rfl
    ·obtain rfl:j=0:=by omega
     rfl
    have hm1:1<=mo.toNat:=by omega
    refine loopA aqx hg1 (m:=mo.toNat) (by omega) (fun o hp=>?_) (mo.toNat+1) 0 [⟨0,B.g0⟩] _ 0 1 _ (by omega) (fun x hx=>?_) ⟨by simp,by simp,fun j x hx=>?_⟩ (by omega) (by simp;omega) (fun k=>?_) (fun r hr=>hr) (fun hr=>?_)
    ·
     have hst:fD B.g0∈o:=YC hp;have hnx:=ad5 (Q:=QnP lv n g (Bl n g m h)) hm1 hp hg1.step hg2 hg1.start;have hg':LY B (fun nd=>QnP lv n g (Bl n g m h) nd/\nd∈o):=⟨⟨hg1.start,hst⟩,fun nd hq t ht=>⟨hg1.step nd hq.1 t ht,hnx nd hq.2 t ht⟩,fun nd hq=>hg1.tu nd hq.1,fun nd hq=>hg1.ke nd hq.1⟩;have hld:=akP (Q:=QnP lv n g (Bl n g m h)) hm1 hp hg1.step hg2 hg1.start;have hlen:=(Vz hm1 hp).2;have hall:∀x∈o,QnP lv n g (Bl n g m h) x:=NT hg1.step hp (fun x hx=>by
      obtain rfl:x=⟨0,B.g0⟩:=by simpa[fD] using hx
      exact hg1.start)
     have hP:rsP (hsS n g m h) lv mo=ak o:=by unfold rsP;rw[hbg];exact hp
     have hL:rsL (hsS n g m h) lv mo=o:=by unfold rsL;rw[hP];rfl
     have hk:RD (hsS n g m h) lv mo=aC:=by unfold RD;rw[ahV hm,hbg,h4,hP];rfl
     have hφ:φ (.AQ [.agg [.b (N8 (hsS n g m h) lv mo),.sl 2 (rtN (hsS n g m h) lv mo) (Aj (rtR (hsS n g m h) lv mo)),.i .i64 (RF (hsS n g m h) lv mo)],.v .nilIface]):=q2 hk;have ey:N8 (hsS n g m h) lv mo=Kt (Gb B) (CS B.k0) B.g0 o:=by unfold N8;rw[hbg,hL]
     have et:rtL (hsS n g m h) lv mo=(Ir (Gb B) (CS B.k0) B.g0 o).map Em:=by unfold rtL;rw[hbg,hL]
     have ec:RF (hsS n g m h) lv mo=((o.length:Nat):Int):=by unfold RF;rw[hL]
     unfold rtN rtR at hφ;rw[ey,et,ec] at hφ;have es:Ai.sub .i64 (Ai.AZ o.length) (ah 1)=((o.length:Nat):Int) - 1:=by
      show IntKind.i64.wrap (((o.length:Nat):Int) - 1)=_;exact Cj (by omega) (by omega)
     rw[es];refine ao0 aqx hg' o (fun x hx=>⟨hall x hx,hx⟩) (by omega) (fun nd hq hl hf=>?_) (fun hy=>?_) (fun hy=>?_) o.length (fun _=>aK) (dn _) (fun k=>?_)
     ·obtain ⟨t,ht,hte⟩:=ajf ((hld nd hq.2).1 hl) hf
      exact ⟨t,ht,(hld t.2 (hnx nd hq.2 _ (dJ.2 ⟨t,ht,rfl⟩))).2 hte⟩
     ·rw[hy] at hφ
      exact hφ
     ·have e0:Ir (Gb B) (CS B.k0) B.g0 o=[]:=if_neg (by rw[hy];simp)
      rw[hy,e0] at hφ;exact hφ
     ·rw[List.drop_length];rfl
    ·obtain rfl:x=⟨0,B.g0⟩:=by simpa using hx
     exact hg1.start
    ·have hj:j=0:=by
      have:=(aV.1 hx).1;simp at this;omega
     subst hj;cases hx;rfl
    ·have:=getM (k:=CS B.k0 ⟨0,B.g0⟩) (o:=[]) (k0:=B.k0) (v:=.int .i64 (ah 0)) (nd:=⟨0,B.g0⟩) (M:=fun _=>aK) (fun _=>rfl) k
     exact this
    ·have hP:rsP (hsS n g m h) lv mo=aK:=by unfold rsP;rw[hbg];exact hr
     have hk:RD (hsS n g m h) lv mo=ay:=by unfold RD;rw[hP];simp
     have ha:YM (hsS n g m h) lv mo=ay:=by unfold YM;rw[hbg,h4];simp
     have he:VP (hsS n g m h) lv mo=0:=by unfold VP;rw[ahV hm,hbg,if_pos rfl,if_pos h4]
     have q:=(q3 hk).2 ha;rw[he] at q;exact q
   ·have hm:=moT h2 h3
    have hk:RD (hsS n g m h) lv mo=ay:=by unfold RD;rw[hbg,h4];simp
    have ha:YM (hsS n g m h) lv mo=aC:=by unfold YM;rw[ahV hm,hbg,h4,h7];rfl
    have he:VP (hsS n g m h) lv mo=B.e:=by unfold VP;rw[ahV hm,hbg,if_pos rfl,if_neg (by rw[h4];simp)]
    have hp:rpI (hsS n g m h) lv mo=B.pos:=by unfold rpI;rw[hbg]
    have q:=(q3 hk).1 ha;rw[he,hp] at q;exact BX (aqw rfl) q
   ·have hm:=moT h2 h3
    refine bad ?_ ?_ ?_
    ·unfold RD;rw[hbg,h4];simp
    ·unfold YM;rw[hbg,h7];simp
    ·unfold VP;rw[ahV hm,hbg,if_pos rfl,if_neg (by rw[h4];simp)]
  ·exact hφ.elim
 ·exact hφ.elim
end Go.Proofs
namespace Go.Pl
open Go Go.Sx Go.Proofs Go.Gm
def ssB(n:Nat)(g:Nat->List Sh)(m:Nat)(h:Nat->List Sh):Bool:=decide (lst Ea n g=lst Ea m h)
def s1B(a b:Ea):Bool:=decide (a=b)
noncomputable def tbS(s:Sh):TA:=match s with
 | .agg [.sl 2 n g,.sl 8 m h]=>Bl n g m h |_=>⟨ay,ay,0,0,0,fun _=>default⟩
noncomputable def hpB(s:Sh):Bool:=@decide (∃n g m h,s=hsS n g m h/\Pn n g m h) (bG _)
noncomputable def tkB(s:Sh):Bool:=hpB s&&(tbS s).okb
noncomputable def wkO(s:Sh)(lv:Int)(k:Nat)(u:Nat->List Sh):Option (Nd SG):=walk (Gb (Ed s lv)) ⟨0,(Ed s lv).g0⟩ ((lst Ea k u).map fun x=>(x.tx,x.com))
noncomputable def nxL(s:Sh)(lv:Int)(k:Nat)(u:Nat->List Sh):List Ea:=match wkO s lv k u with
 |some nd=>(turns (Gb (Ed s lv)) nd).map fun t=>Em t.1 |none=>[]
end Go.Pl
namespace Go.Proofs
open Go Go.Sx Go.Pl
noncomputable def XB:Nat->Option (List Sh->Tree Sh)
 |39=>ak D39 |_=>aK
noncomputable def D18:List Sh->Tree Sh
 |[.agg a,.agg b]=>match Row.get (α:=Ea) a,Row.get (α:=Ea) b with
  |some x,ak y=>.leaf (.b (s1B x y)) |_,_=>.fail
 |_=>.fail
noncomputable def GU:Nat->Option (List Sh->Tree Sh)
 |18=>ak D18 |_=>aK
def XC:List It:=[bD [0,1,0,1,1],dw 0,bD [1,1,1]]
def acI(n:Nat)(g:Nat->Ea)(m:Nat)(h:Nat->Ea)(i:Int):Core:={tm:=G6 29 [(0,.sh (.sl 2 n (Aj g))),(1,.sh (.sl 2 m (Aj h))),(5,.sym .i64 i)],hp:=[],nx:=0,lim:=L0,tc:=[]}
theorem ajO(A:Prim)(W:Wd)(s:Sh)(n m:Nat)(g h:Nat->List Sh)(lv mo:Int){ψ:ED->Prop}{c0 c1:Bool}(e0:RD (cO [aG 2 n g,aG 8 m h]) lv mo=c0)(e1:YM (cO [aG 2 n g,aG 8 m h]) lv mo=c1)(h1:(hsB (cO [aG 2 n g,aG 8 m h]) lv)=aC)(y1:c0=aC->ψ (aT (cZ [cO [gU (N8 (cO [aG 2 n g,aG 8 m h]) lv mo),aG 2 (rtN (cO [aG 2 n g,aG 8 m h]) lv mo) (Aj (rtR (cO [aG 2 n g,aG 8 m h]) lv mo)),aY .i64 (RF (cO [aG 2 n g,aG 8 m h]) lv mo)],Sh.v bJ])))(y2:c0=ay->c1=aC->ψ (aT (cZ [cO [gU ay,aG 2 0 fun _=>[],aY .i64 (ah 0)],Sh.C9 109 (Sh.pt [aY .i64 (rpI (cO [aG 2 n g,aG 8 m h]) lv mo),bf (VP (cO [aG 2 n g,aG 8 m h]) lv mo) 329])])))(y3:c0=ay->c1=ay->ψ (aT (cZ [cO [gU ay,aG 2 0 fun _=>[],aY .i64 (ah 0)],bf (VP (cO [aG 2 n g,aG 8 m h]) lv mo) 329]))):Df ψ (Bj (C7 A W XB AU) BL 300 400 15 [.code []] (Ap 14 [.agg [.sl 2 n g,.sl 8 m h],.i .i64 lv,.i .i64 mo] L0) [] []):=by
 subst e0 e1;exact FU (an h1 (an y1 (fun q0=>an (y2 q0) (y3 q0)))) (by kernel_rfl)
theorem ajP(A:Prim)(W:Wd)(a b:Ea){ψ:ED->Prop}{c0:Bool}(e0:A.eq a.tx b.tx=c0)(y1:c0=aC->ψ (aT (gU (A.beq a.com b.com))))(y2:c0=ay->ψ (aT (gU ay))):Df ψ (Bj (C7 A W noSpec AU) BL 300 400 18 [.code []] (Ap 17 [.agg [.i .i64 a.tx,.b a.com],.agg [.i .i64 b.tx,.b b.com]] L0) [] []):=by
 subst e0;exact FU (an y1 y2) (by kernel_rfl)
theorem ajQ(A:Prim)(W:Wd)(n m:Nat)(g h:Nat->Ea)(i':Int){ψ:ED->Prop}{c0:Bool}(e0:A.nt (A.eq (A.AZ n) (A.AZ m))=c0)(y1:c0=aC->ψ (aT (gU ay)))(y2:c0=ay->ψ (bK 0 [aO (aG 2 n (Aj g)) (aG 2 n (Aj g)),aO (aG 2 m (Aj h)) (aG 2 m (Aj h)),aj (ah 0) i'])):Df ψ (Bj (C7 A W GU AU) BL 300 400 19 [.code []] (Ap 29 [.sl 2 n (Aj g),.sl 2 m (Aj h)] L0) [] [⟨19,XC,acI n g m h i',[]⟩]):=by
 subst e0;exact FU (an y1 y2) (by kernel_rfl)
theorem acJ(A:Prim)(W:Wd)(n m:Nat)(g h:Nat->Ea)(i i':Int){ψ:ED->Prop}{c0 c1:Bool}(e0:A.lt i (A.AZ n)=c0)(e1:A.nt (s1B {tx:=(g (A.toN i)).tx,com:=(g (A.toN i)).com} {tx:=(h (A.toN i)).tx,com:=(h (A.toN i)).com})=c1)(h1:c0=aC->(A.inB i n)=aC)(h2:c0=aC->(A.inB i m)=aC)(y1:c0=aC->c1=aC->ψ (aT (gU ay)))(y2:c0=aC->c1=ay->ψ (bK 0 [aO (aG 2 n (Aj g)) (aG 2 n (Aj g)),aO (aG 2 m (Aj h)) (aG 2 m (Aj h)),aj (A.add .i64 i (ah 1)) i']))(y3:c0=ay->ψ (aT (gU aC))):Df ψ (Bj (C7 A W GU AU) BL 300 400 19 (bD [0,0,1,0,1,1]::XC) (acI n g m h i) [] [⟨19,XC,acI n g m h i',[]⟩]):=by
 subst e0 e1;exact FU (an (fun q0=>an (h1 q0) (an (h2 q0) (an (y1 q0) (y2 q0)))) y3) (by kernel_rfl)
end Go.Proofs
namespace Go.Pl
open Go Go.Sx Go.Proofs Go.Gm
noncomputable def gaB(s:Sh)(lv mo:Int):Bool:=hsB s lv&&(YL mo&&(Ed s lv).okb)
noncomputable def J8(s:Sh)(lv mo:Int):Bool:=(rsP s lv mo).isSome
end Go.Pl
namespace Go.Proofs
open Go Go.Sx Go.Pl
noncomputable def ahW:List Sh->Tree Sh
 |[s,t,u]=>match BF t,BF u with
  |some lv,ak mo=>.need (gaB s lv mo) (.node (J8 s lv mo) (.leaf (.AQ [.agg [.b (N8 s lv mo),.sl 2 (rtN s lv mo) (Aj (rtR s lv mo)),.i .i64 (RF s lv mo)],.v .nilIface]))
    (.leaf (.AQ [.agg [.b ay,.sl 2 0 (fun _=>[]),.i .i64 0],.er 0 329])))
  |_,_=>.fail
 |_=>.fail
theorem avl(stop:Nat->List Nat->Bool):BP aA (C7 Ai W7 XB stop):=nT (fun g F h=>by
 unfold XB at h;split at h
 ·cases h;exact O39
 ·cases h) fun g h=>by
 unfold XB at h;split at h;all_goals first|(cases h;done) |kernel_rfl
theorem afy{φ:Sh->Prop}{y:Bool}{k:Nat}{f:Nat->List Sh}{c:Int}{e:Sh}(he:Wk e e)(h:φ (.AQ [.agg [.b y,.sl 2 k f,.i .i64 c],e])):up φ (.AQ [.agg [.b y,.sl 2 k f,.i .i64 c],e]):=
 BX (s':=.AQ [.agg [.b y,.sl 2 k f,.i .i64 c],e]) ⟨⟨.inl rfl,.inr ⟨rfl,rfl,fun _ _=>rfl⟩,rfl,trivial⟩,he,trivial⟩ h
theorem O15:AV aA (Bq W7) 15 D15:=by
 refine FT (C:=C7 Ai W7 XB AU) (dD _ _) (fn:=Tryz.f15) (by kernel_rfl) (by kernel_rfl) fun H w Bv args φ hrep h=>?_
 have hn:Tryz.f15.ntmps=14:=by kernel_rfl
 unfold D15 at h;split at h
 ·rename_i s t u
  split at h
  ·rename_i lv mo e1 e2
   obtain ⟨q1,q2,q3⟩:=h;obtain ⟨n,g,m,h',rfl,P,l1,l3⟩:=@of_decide_eq_true _ (bG _) q1;match args,hrep with
   |[v,u1,u2],⟨rv,ru,ru2,_⟩=>
    refine ⟨[hsS n g m h',.i .i64 lv,.i .i64 mo],⟨rv,EJ e1 ru,EJ e2 ru2,trivial⟩,L0,?_⟩;refine Fh (dD _ _) (avl _) (hold:=BL) (m:=300) (n:=400) (ts:=[]) ?_;rw[hn];exact ajO Ai W7 (hsS n g m h') n m g h' lv mo rfl rfl q1 (fun c0=>afy rfl (q2 c0)) (fun c0 c1=>afy rfl ((q3 c0).1 c1)) (fun c0 c1=>afy rfl ((q3 c0).2 c1))
  ·exact h.elim
 ·exact h.elim
theorem ala:AV aA (Bq W7) 15 ahW:=O15.mono fun H Bv args φ hr h=>by
 unfold ahW at h;split at h
 ·split at h
  ·rename_i s t u x y lv mo e1 e2
   obtain ⟨q1,q2,q3⟩:=h;unfold gaB at q1;rw[aI,aI] at q1;obtain ⟨a1,a2,a3⟩:=q1;unfold D15;simp only[e1,e2];refine ⟨a1,fun c=>q2 ?_,fun c=>⟨fun c2=>?_,fun _=>?_⟩⟩
   ·unfold RD at c
    rw[a2,a3] at c;exact c
   ·unfold YM at c2
    rw[a3] at c2;simp at c2
   ·have e:VP s lv mo=0:=by unfold VP;rw[if_pos a2,if_pos a3]
    rw[e];refine q3 ?_;unfold RD at c;rw[a2,a3] at c;exact c
  ·exact h.elim
 ·exact h.elim
theorem avn:AV aA (Bq W7) 18 D18:=by
 refine FT (C:=C7 Ai W7 noSpec AU) (dD _ _) (fn:=Tryz.f18) (by kernel_rfl) (by kernel_rfl) fun H w Bv args φ hrep h=>?_
 have hn:Tryz.f18.ntmps=17:=by kernel_rfl
 unfold D18 at h;split at h
 ·rename_i l r
  split at h
  ·rename_i x y e1 e2
   have hφ:φ (.b (s1B x y)):=h;have hl:l=Row.put x:=(Row.DF _ _ e1).symm;have hr:r=Row.put y:=(Row.DF _ _ e2).symm;subst hl hr;refine ⟨[.agg (Row.put x),.agg (Row.put y)],hrep,L0,?_⟩;refine Fh (dD _ _) (MC _) (hold:=BL) (m:=300) (n:=400) (ts:=[]) ?_;rw[hn];have fin (b:Bool) (hb:b=s1B x y):up φ (.b b):=BX (s':=.b (s1B x y)) (.inl (by rw[hb])) hφ;obtain ⟨a,b⟩:=x;obtain ⟨c,d⟩:=y;refine ajP Ai W7 ⟨a,b⟩ ⟨c,d⟩ rfl (fun q=>fin _ ?_) (fun q=>fin _ ?_)
   ·have q:a=c:=by simpa[AX] using q
    subst q;unfold s1B;rw[alR];cases b<;>cases d<;>simp
   ·have q:a≠c:=by simpa[AX] using q
    unfold s1B;rw[decide_eq_false (by intro e;injection e;contradiction)]
  ·exact h.elim
 ·exact h.elim
theorem YF(stop:Nat->List Nat->Bool):BP aA (C7 Ai W7 GU stop):=nT (fun g F h=>by
 unfold GU at h;split at h
 ·cases h;exact avn
 ·cases h) fun g h=>by
 unfold GU at h;split at h;all_goals first|(cases h;done) |kernel_rfl
end Go.Proofs
namespace Go.Pl
open Go Go.Sx
theorem aqz{n m:Nat}{g h:Nat->Ea}:lst Ea n (Aj g)=lst Ea m (Aj h)↔n=m/\∀j,j<n->g j=h j:=by
 rw[SS,SS];constructor
 ·intro e
  have hl:=congrArg List.length e;simp at hl;subst hl;refine ⟨rfl,fun j hj=>?_⟩;have:=congrArg (fun l=>l[j]?) e;simpa[hj] using this
 ·rintro ⟨rfl,e⟩
  exact jV fun j hj=>e j (dh.1 hj)
def asR(n:Nat)(g:Nat->List Sh)(m:Nat)(h:Nat->List Sh):Bool:=okB Ea n g&&(okB Ea m h&&decide (n<=100000))
end Go.Pl
namespace Go.Proofs
open Go Go.Sx Go.Pl
noncomputable def D19:List Sh->Tree Sh
 |[s,t]=>match D9 2 s,D9 2 t with
  |some (n,g),ak (m,h)=>.need (asR n g m h) (.leaf (.b (ssB n g m h))) |_,_=>.fail
 |_=>.fail
section
variable{H0:Mem}{w0:World}{φ:Sh->Prop}{n:Nat}{g h:Nat->Ea}
theorem alb(hn:n<=100000)(hφ:φ (.b (decide (∀j,j<n->g j=h j)))):∀r i,i+r=n->(∀j,j<i->g j=h j)->
  Bz aA (C7 Ai W7 GU AU) (K0 H0 w0) 19 XC (acI n g n h (i:Nat)) [] emp (up φ)
 |0,i,hi,he=>by
  refine GK (fn:=sK) (tb:=bD [0,0,1,0,1,1]::XC) (by kernel_rfl) (by kernel_rfl) ?_;have lt {P:Prop} (h:Ai.lt (i:Int) (Ai.AZ n)=aC):P:=by simp[Aq,AY] at h;omega
  refine Fh (dD _ _) (YF _) (hold:=BL) (m:=300) (n:=400) (ts:=[⟨19,XC,acI n g n h 0,[]⟩]) ?_;refine acJ Ai W7 n n g h i 0 rfl rfl (fun q=>lt q) (fun q=>lt q) (fun q=>lt q) (fun q=>lt q) (fun _=>?_);rw[decide_eq_true (fun j hj=>he j (by omega))] at hφ;exact BX (s':=.b aC) (.inl rfl) hφ
 |r+1,i,hi,he=>by
  refine GK (fn:=sK) (tb:=bD [0,0,1,0,1,1]::XC) (by kernel_rfl) (by kernel_rfl) ?_;have no {P:Prop} (h:Ai.lt (i:Int) (Ai.AZ n)=ay):P:=by simp[Aq,AY] at h;omega
  have inb:Ai.inB (i:Int) n=aC:=by rw[BJ,decide_eq_true_eq];omega
  have w1:Ai.add .i64 (i:Int) (ah 1)=((i+1:Nat):Int):=add1 (by omega);refine Fh (dD _ _) (YF _) (hold:=BL) (m:=300) (n:=400) (ts:=[⟨19,XC,acI n g n h ((i+1:Nat):Int),[]⟩]) ?_;refine acJ Ai W7 n n g h i _ rfl rfl (fun _=>inb) (fun _=>inb) (fun _ q=>?_) (fun _ q=>?_) (fun q=>no q)
  ·have q:(!s1B (g i) (h i))=aC:=q
   have hne:g i≠h i:=by
    intro e;unfold s1B at q;rw[decide_eq_true e] at q;cases q
   rw[decide_eq_false (fun f=>hne (f i (by omega)))] at hφ;exact BX (s':=.b ay) (.inl rfl) hφ
  ·have q:(!s1B (g i) (h i))=ay:=q
   have he2:g i=h i:=by
    unfold s1B at q;simpa using q
   exact ⟨⟨rfl,rfl,w1,trivial⟩,_,rfl,alb hn hφ r (i+1) (by omega) fun j hj=>by
    by_cases hj2:j=i
    ·rw[hj2];exact he2
    ·exact he j (by omega)⟩
end
theorem avp:AV aA (Bq W7) 19 D19:=by
 refine FT (C:=C7 Ai W7 GU AU) (dD _ _) (fn:=sK) (by kernel_rfl) (by kernel_rfl) fun H w Bv args φ hrep h=>?_
 have hn:sK.ntmps=29:=by kernel_rfl
 unfold D19 at h;split at h
 ·rename_i s t
  split at h
  ·rename_i n g m h' e1 e2
   obtain ⟨q1,hφ⟩:=h;unfold asR at q1;rw[aI,aI,decide_eq_true_eq] at q1;obtain ⟨a1,a2,a3⟩:=q1;match args,hrep with
   |[v,u],⟨rv,ru,_⟩=>
    refine ⟨[.sl 2 n (Aj (Am (α:=Ea) g)),.sl 2 m (Aj (Am (α:=Ea) h'))],⟨Ez (BQ e1 rv) a1,Ez (BQ e2 ru) a2,trivial⟩,L0,?_⟩;have hφ:φ (.b (ssB n g m h')):=hφ;have es:ssB n g m h'=decide (n=m/\∀j,j<n->Am (α:=Ea) g j=Am (α:=Ea) h' j):=by
     unfold ssB;rw[abB (Jh a1),abB (Jh a2)];have:(lst Ea n (Aj (Am g))=lst Ea m (Aj (Am h')))↔(n=m/\∀j,j<n->Am (α:=Ea) g j=Am (α:=Ea) h' j):=aqz;by_cases hh:(n=m/\∀j,j<n->Am (α:=Ea) g j=Am (α:=Ea) h' j)
     ·rw[decide_eq_true hh];exact decide_eq_true (this.2 hh)
     ·rw[decide_eq_false hh];exact decide_eq_false (fun e=>hh (this.1 e))
    rw[es] at hφ;refine Fh (dD _ _) (YF _) (hold:=BL) (m:=300) (n:=400) (ts:=[⟨19,XC,acI n (Am g) m (Am h') ((0:Nat):Int),[]⟩]) ?_;rw[hn];refine ajQ Ai W7 n m (Am g) (Am h') ((0:Nat):Int) rfl (fun q=>?_) (fun q=>?_)
    ·have hne:n≠m:=fun e=>by
      rw[e] at q;simp[CB,AX,AY] at q
     rw[decide_eq_false (fun f=>hne f.1)] at hφ;exact BX (s':=.b ay) (.inl rfl) hφ
    ·have he:n=m:=by
      simp[CB,AX,AY] at q;exact lq q
     subst he;have ed:decide (n=n/\∀j,j<n->Am (α:=Ea) g j=Am (α:=Ea) h' j)=decide (∀j,j<n->Am (α:=Ea) g j=Am (α:=Ea) h' j):=by
      by_cases hh:∀j,j<n->Am (α:=Ea) g j=Am (α:=Ea) h' j
      ·rw[decide_eq_true hh];exact decide_eq_true ⟨rfl,hh⟩
      ·rw[decide_eq_false hh];exact decide_eq_false (fun f=>hh f.2)
     rw[ed] at hφ;exact ⟨⟨rfl,rfl,rfl,trivial⟩,_,rfl,alb a3 hφ n 0 (by omega) (fun j hj=>by omega)⟩
  ·exact h.elim
 ·exact h.elim
open Go Go.Sx Go.Pl
def ZK:List It:=[bD [0,1,0,1,1,1,1,1],dw 0,bD [1,1,1,1,1,1]]
def aqA:List It:=bD [0,0,1,0,1,1,1,1,1]::ZK
def tmN(B:Ie)(k:Nat)(u:Nat->Ea)(i:Int):List (Nat×SV):=[(8,.GX 4 1 (fun _=>Cb B.lv B.N B.T B.N B.ms B.k0 B.g0) 0 0),(10,.ptr 0 0),(40,.sh (.sl 2 k (Aj u))),(41,.sym .i64 (k:Int)),(42,.sym .i64 i)]
def LNa(B:Ie)(k:Nat)(u:Nat->Ea)(i:Int)(p:Int)(n:Nat)(g:Nat->List Sh):Core:={tm:=G6 85 (tmN B k u i),hp:=[(0,.box [.sym .i64 p,.sh (.sl 4 n g)] 104)],nx:=1,lim:=L0,tc:=[]}
def ZL:List It:=[bD [0,1,0,1,1,0,0,1,1,0,0,1,0,1,1,1,1,1],dw 2,bD [1,1,1,0,0,1,1,0,0,1,0,1,1,1,1,1],dw 1,bD [1,1,1,0,0,1,0,1,1,1,1,1],bD [0,1,0,1,1,1,1,1],dw 0,bD [1,1,1,1,1,1]]
def asT:List It:=bD [0,0,1,0,1,1,0,0,1,1,0,0,1,0,1,1,1,1,1]::ZL
def LNb(B:Ie)(k:Nat)(u:Nat->Ea)(i:Int)(p:Int)(n:Nat)(g:Nat->List Sh)(x:Ea)(t:Nat)(tr:Nat->JJ)(j:Int):Core:=
 {tm:=G6 85 (tmN B k u i++[(11,.sym .i64 i),(12,.ptr 1 0),(13,.bool ay),(49,.sh (.sl 4 t (Aj tr))),(50,.sym .i64 (t:Int)),(51,.sym .i64 j)]),hp:=[(0,.box [.sym .i64 p,.sh (.sl 4 n g)] 104),(1,.box [.sym .i64 x.tx,.test x.com] 55)],nx:=2,lim:=L0,tc:=[]}
def ZM:List It:=[bD [0,1,0,1,1,1,1,1,1,1],dw 4,bD [1,1,1,1,1,1,1,1]]
def aqB:List It:=bD [0,0,1,0,1,1,1,1,1,1,1]::ZM
def LNc(t:Nat)(tr:Nat->JJ)(c:Nat)(cr:Nat->Ea)(j:Int):Core:=
 {tm:=G6 85 [(16,.gs 0),(72,.sh (.sl 4 t (Aj tr))),(73,.sym .i64 (t:Int)),(74,.sym .i64 j)],hp:=[(0,.own 55 2 c (Aj cr))],nx:=1,lim:=L0,tc:=[]}
theorem ajS(A:Prim)(W:Wd)(B:Ie)(lv:Int)(o m:Nat)(og mg:Nat->List Sh)(k:Nat)(u:Nat->Ea)(i':Int){ψ:ED->Prop}{c0 c1 c2 c3:Bool}(e0:A.lt lv (ah 1)=c0)(e1:A.lt (ah 3) lv=c1)(e2:B.okb=c2)(e3:B.Ig=c3)(h1:c0=ay->c1=ay->(aoV (cO [aG 2 o og,aG 8 m mg]) lv (cO [aG 2 o og,aG 8 m mg]) lv)=aC)(y1:c0=aC->ψ (aT (cZ [aG 0 0 fun _=>[],bf 2 329])))(y2:c0=ay->c1=aC->ψ (aT (cZ [aG 0 0 fun _=>[],bf 2 329])))(y3:c0=ay->c1=ay->c2=aC->ψ (bK 0 [aJ 1 1,bF (fun (x:Nat)=>Cb B.lv B.N B.T B.N B.ms B.k0 B.g0) fun (x:Nat)=>Cb B.lv B.N B.T B.N B.ms B.k0 B.g0,aJ 0 0,aO (aG 2 k (Aj u)) (aG 2 k (Aj u)),aj (A.AZ k) (ah k),aj (ah 0) i',aj (ah 0) (ah 0),aO (aG 4 B.k0 B.g0) (aG 4 B.k0 B.g0)]))(y4:c0=ay->c1=ay->c2=ay->c3=aC->ψ (aT (cZ [aG 0 0 fun _=>[],Sh.C9 109 (Sh.pt [aY .i64 B.pos,bf B.e 329])])))(y5:c0=ay->c1=ay->c2=ay->c3=ay->ψ (aT (cZ [aG 0 0 fun _=>[],bf B.e 329]))):Df ψ (Bj (C7 A W (Dw (.agg [.sl 2 o og,.sl 8 m mg]) lv B) AU) BL 300 400 16 [.code []] (Ap 85 [.agg [.sl 2 o og,.sl 8 m mg],.i .i64 lv,.sl 2 k (Aj u)] L0) [] [⟨16,ZK,LNa B k u i' 0 B.k0 B.g0,[]⟩]):=by
 subst e0 e1 e2 e3;exact FU (an y1 (fun q0=>an (y2 q0) (fun q1=>an (h1 q0 q1) (an (y3 q0 q1) (fun q2=>an (y4 q0 q1 q2) (y5 q0 q1 q2)))))) (by kernel_rfl)
theorem acK(A:Prim)(W:Wd)(B:Ie)(hs:Sh)(lv:Int)(k:Nat)(u:Nat->Ea)(i p:Int)(n:Nat)(g:Nat->List Sh)(x:Ea)(t:Nat)(tr:Nat->JJ)(cr:Nat->Ea){ψ:ED->Prop}{c0:Bool}(e0:A.lt i (ah k)=c0)(h1:c0=aC->(A.inB i k)=aC)(h2:c0=aC->(tuB B.lv B.N (Aj B.T) B.N (Aj B.ms) p 4 n g)=aC)(h3:c0=ay->(tuB B.lv B.N (Aj B.T) B.N (Aj B.ms) p 4 n g)=aC)(y1:c0=aC->ψ (bK 0 [aJ 1 1,bF (fun (x:Nat)=>Cb B.lv B.N B.T B.N B.ms B.k0 B.g0) fun (x:Nat)=>Cb B.lv B.N B.T B.N B.ms B.k0 B.g0,aJ 0 0,aj i i,aO (aG 2 k (Aj u)) (aG 2 k (Aj u)),aj (ah k) (ah k),aj i i,aO (aG 4 (OY B.lv B.N (Aj B.T) (Aj B.ms) p n g) (Aj (ZW B.lv B.N (Aj B.T) (Aj B.ms) p n g))) (aG 4 t (Aj tr)),aj (A.AZ (OY B.lv B.N (Aj B.T) (Aj B.ms) p n g)) (ah t),aj (ah 0) (ah 0),aj p p,aO (aG 4 n g) (aG 4 n g),aj (u (A.toN i)).tx x.tx,pW (u (A.toN i)).com x.com]))(y2:c0=ay->ψ (bK 1 [aO (aG 4 (OY B.lv B.N (Aj B.T) (Aj B.ms) p n g) (Aj (ZW B.lv B.N (Aj B.T) (Aj B.ms) p n g))) (aG 4 t (Aj tr)),aj (A.AZ (OY B.lv B.N (Aj B.T) (Aj B.ms) p n g)) (ah t),aj (ah 0) (ah 0),aJ 0 0])):Df ψ (Bj (C7 A W (Dw hs lv B) AU) BL 300 400 16 aqA (LNa B k u i p n g) [] [⟨16,ZL,LNb B k u i p n g x t tr 0,[]⟩,⟨16,ZM,LNc t tr 0 cr 0,[]⟩]):=by
 subst e0;exact FU (an (fun q0=>an (h1 q0) (an (h2 q0) (y1 q0))) (fun q0=>an (h3 q0) (y2 q0))) (by kernel_rfl)
theorem acL(A:Prim)(W:Wd)(B:Ie)(hs:Sh)(lv:Int)(k:Nat)(u:Nat->Ea)(i p:Int)(n:Nat)(g:Nat->List Sh)(x:Ea)(t:Nat)(tr:Nat->JJ)(j j' i' p':Int)(n':Nat)(g':Nat->List Sh){ψ:ED->Prop}{c0 c1:Bool}(e0:A.lt j (ah t)=c0)(e1:A.ite (A.eq (tr (A.toN j)).tx x.tx) (A.ite (A.beq (tr (A.toN j)).com x.com) aC ay) ay=c1)(h1:c0=aC->(A.inB j t)=aC)(y1:c0=aC->c1=aC->ψ (bK 1 [aJ 1 1,bF (fun (x:Nat)=>Cb B.lv B.N B.T B.N B.ms B.k0 B.g0) fun (x:Nat)=>Cb B.lv B.N B.T B.N B.ms B.k0 B.g0,aJ 0 0,aO (aG 2 k (Aj u)) (aG 2 k (Aj u)),aj (ah k) (ah k),aj (A.add .i64 i (ah 1)) i',aj (tr (A.toN j)).placed p',aO (aG 4 (tr (A.toN j)).n (tr (A.toN j)).g) (aG 4 n' g')]))(y2:c0=aC->c1=ay->ψ (bK 0 [aJ 1 1,bF (fun (x:Nat)=>Cb B.lv B.N B.T B.N B.ms B.k0 B.g0) fun (x:Nat)=>Cb B.lv B.N B.T B.N B.ms B.k0 B.g0,aJ 0 0,aj i i,aO (aG 2 k (Aj u)) (aG 2 k (Aj u)),aj (ah k) (ah k),aj i i,aO (aG 4 t (Aj tr)) (aG 4 t (Aj tr)),aj (ah t) (ah t),aj (A.add .i64 j (ah 1)) j',aj p p,aO (aG 4 n g) (aG 4 n g),aj x.tx x.tx,pW x.com x.com]))(y3:c0=ay->False):Df ψ (Bj (C7 A W (Dw hs lv B) AU) BL 300 400 16 asT (LNb B k u i p n g x t tr j) [] [⟨16,ZL,LNb B k u i p n g x t tr j',[]⟩,⟨16,ZK,LNa B k u i' p' n' g',[]⟩]):=by
 subst e0 e1;exact FU (an (fun q0=>an (h1 q0) (an (y1 q0) (y2 q0))) y3) (by kernel_rfl)
theorem acM(A:Prim)(W:Wd)(B:Ie)(hs:Sh)(lv:Int)(t:Nat)(tr:Nat->JJ)(c c':Nat)(cr QT:Nat->Ea)(j j':Int){ψ:ED->Prop}{c0:Bool}(e0:A.lt j (ah t)=c0)(h1:c0=aC->(A.inB j t)=aC)(h2:c0=aC->(A.room (A.addN c 1) 16)=aC)(y1:c0=aC->ψ (bK 0 [aO (aG 4 t (Aj tr)) (aG 4 t (Aj tr)),aj (ah t) (ah t),aj (A.add .i64 j (ah 1)) j',aJ (A.addN c 1) c',BK.get (A.addN c 1) (A.snoc (Aj cr) c (Bh [[aY .i64 (tr (A.toN j)).tx,gU (tr (A.toN j)).com]])) (Aj QT)]))(y2:c0=ay->ψ (aT (cZ [Sh.os 55 2 c (Aj cr),Sh.v bJ]))):Df ψ (Bj (C7 A W (Dw hs lv B) AU) BL 300 400 16 aqB (LNc t tr c cr j) [] [⟨16,ZM,LNc t tr c' QT j',[]⟩]):=by
 subst e0;exact FU (an (fun q0=>an (h1 q0) (an (h2 q0) (y1 q0))) y2) (by kernel_rfl)
end Go.Proofs
namespace Go.Pl
open Go Go.Sx Go.Proofs Go.Gm Go.Bf
noncomputable def naB(s:Sh)(lv:Int)(k:Nat)(u:Nat->List Sh):Bool:=hsB s lv&&((Ed s lv).okb&&(okB Ea k u&&(decide (k<=1000)&&(wkO s lv k u).isSome)))
noncomputable def nxN(s:Sh)(lv:Int)(k:Nat)(u:Nat->List Sh):Nat:=(nxL s lv k u).length
noncomputable def nxR(s:Sh)(lv:Int)(k:Nat)(u:Nat->List Sh):Nat->Ea:=nth (nxL s lv k u)
end Go.Pl
namespace Go.Proofs
open Go Go.Sx Go.Pl Go.Gm Go.Bf
noncomputable def aqC:List Sh->Tree Sh
 |[s,t,v]=>match BF t,D9 2 v with
  |some lv,ak (k,u)=>.need (naB s lv k u) (.leaf (.AQ [.sl 2 (nxN s lv k u) (Aj (nxR s lv k u)),.v .nilIface])) |_,_=>.fail
 |_=>.fail
section
variable{H0:Mem}{w0:World}{φ:Sh->Prop}{B:Ie}{Q:Nd SG->Prop}{hs:Sh}{lv:Int}
theorem alc(FN:AV aA (Bq W7) 40 (Xt hs lv B))(ts:List ((Int×Bool)×Nd SG))(hl:ts.length<=1000)(hφ:φ (.AQ [.sl 2 ts.length (Aj (nth (ts.map fun t=>Em t.1))),.v .nilIface])):
  ∀r j (acc:List Ea),j+r=ts.length->acc=(ts.take j).map (fun t=>Em t.1)->
  Bz aA (C7 Ai W7 (Dw hs lv B) AU) (K0 H0 w0) 16 ZM (LNc ts.length (nth (ts.map (G8 B.k0))) acc.length (nth acc) (j:Nat)) [] emp (up φ)
 |0,j,acc,hj,ha=>by
  refine GK (fn:=mX) (tb:=aqB) (by kernel_rfl) (by kernel_rfl) ?_;have lt {P:Prop} (h:Ai.lt (j:Int) (ah ts.length)=aC):P:=by simp[Aq] at h;omega
  refine Fh (dD _ _) (F9 FN _) (hold:=BL) (m:=300) (n:=400) (ts:=[⟨16,ZM,LNc ts.length (nth (ts.map (G8 B.k0))) 0 (nth []) 0,[]⟩]) ?_;refine acM Ai W7 B hs lv _ _ _ 0 (nth acc) (nth []) j 0 rfl (fun q=>lt q) (fun q=>lt q) (fun q=>lt q) (fun _=>?_);have e:acc=ts.map fun t=>Em t.1:=by rw[ha,List.take_of_length_le (by omega)]
  refine BX (s':=.AQ [.sl 2 ts.length (Aj (nth (ts.map fun t=>Em t.1))),.v .nilIface]) ⟨.inr ⟨rfl,?_,fun i hi=>?_⟩,rfl,trivial⟩ hφ
  ·rw[e,dP]
  ·rw[e]
 |r+1,j,acc,hj,ha=>by
  obtain ⟨t,ht⟩:∃t,ts[j]?=ak t:=⟨_,aS (by omega)⟩;have htr:nth (ts.map (G8 B.k0)) (Ai.toN (j:Int))=G8 B.k0 t:=P6 _ _ ht;have htk:ts.take (j+1)=ts.take j++[t]:=by
   rw[List.take_add_one,ht];rfl
  have nx:=alc FN ts hl hφ r (j+1) (acc++[Em t.1]) (by omega) (by rw[htk,iR,<-ha];rfl);obtain ⟨tr,etr⟩:∃tr,nth (ts.map (G8 B.k0))=tr:=⟨_,rfl⟩;rw[etr] at htr nx ⊢;have hal:acc.length<=1000:=by rw[ha,dP,List.length_take];omega
  refine GK (fn:=mX) (tb:=aqB) (by kernel_rfl) (by kernel_rfl) ?_;have w1:Ai.add .i64 (j:Int) (ah 1)=((j+1:Nat):Int):=add1 (by omega);have no {P:Prop} (h:Ai.lt (j:Int) (ah ts.length)=ay):P:=by simp[Aq] at h;omega
  have inb:Ai.inB (j:Int) ts.length=aC:=by rw[BJ,decide_eq_true_eq];omega
  refine Fh (dD _ _) (F9 FN _) (hold:=BL) (m:=300) (n:=400) (ts:=[⟨16,ZM,LNc ts.length tr (acc++[Em t.1]).length (nth (acc++[Em t.1])) ((j+1:Nat):Int),[]⟩]) ?_;refine acM Ai W7 B hs lv _ tr _ _ (nth acc) _ j _ rfl (fun _=>inb) (fun _=>by rw[EM,decide_eq_true_eq,Du];unfold maxLen;omega) (fun _=>?_) (fun q=>no q);exact ⟨⟨rfl,rfl,w1,by rw[List.length_append];rfl,fun i hi=>IL acc (Em t.1) _ (by rw[htr];rfl) i hi,trivial⟩,_,rfl,nx⟩
theorem ald(FN:AV aA (Bq W7) 40 (Xt hs lv B))(hg:LY B Q)(nd:Nd SG)(hq:Q nd){k:Nat}{u:Nat->Ea}{i:Nat}(hi:i<=1000)(s:Int×Bool){t0:(Int×Bool)×Nd SG}
  (hA:Bz aA (C7 Ai W7 (Dw hs lv B) AU) (K0 H0 w0) 16 ZK (LNa B k u ((i+1:Nat):Int) (t0.2.placed:Nat) B.k0 t0.2.st) [] emp (up φ)) :
  ∀r j,j+r=(turns (Gb B) nd).length->((turns (Gb B) nd).drop j).find? (fun t=>t.1==s)=ak t0->
  Bz aA (C7 Ai W7 (Dw hs lv B) AU) (K0 H0 w0) 16 ZL (LNb B k u (i:Nat) (nd.placed:Nat) B.k0 nd.st (Em s) (turns (Gb B) nd).length (nth ((turns (Gb B) nd).map (G8 B.k0))) (j:Nat)) [] emp (up φ)
 |0,j,hj,hf=>by
  rw[List.drop_eq_nil_of_le (by omega)] at hf;cases hf
 |r+1,j,hj,hf=>by
  have hjl:j<(turns (Gb B) nd).length:=by omega
  have hN:(turns (Gb B) nd).length<=124:=P7 (hg.tu nd hq).le nd;obtain ⟨t,ht⟩:∃t,(turns (Gb B) nd)[j]?=ak t:=⟨_,aS hjl⟩;have hd:(turns (Gb B) nd).drop j=t::(turns (Gb B) nd).drop (j+1):=by
   rw[List.drop_eq_getElem_cons hjl];congr 1;rw[aS hjl] at ht;exact dH ht
  rw[hd] at hf;have htr:nth ((turns (Gb B) nd).map (G8 B.k0)) (Ai.toN (j:Int))=G8 B.k0 t:=P6 _ _ ht;have ih:=fun h=>ald FN hg nd hq hi s hA r (j+1) (by omega) h;obtain ⟨tr,etr⟩:∃tr,nth ((turns (Gb B) nd).map (G8 B.k0))=tr:=⟨_,rfl⟩;rw[etr] at htr ih ⊢;refine GK (fn:=mX) (tb:=asT) (by kernel_rfl) (by kernel_rfl) ?_;have w1:Ai.add .i64 (j:Int) (ah 1)=((j+1:Nat):Int):=add1 (by omega);have w2:Ai.add .i64 (i:Int) (ah 1)=((i+1:Nat):Int):=add1 (by omega);have no {P:Prop} (h:Ai.lt (j:Int) (ah (turns (Gb B) nd).length)=ay):P:=by simp[Aq] at h;omega
  have inb:Ai.inB (j:Int) (turns (Gb B) nd).length=aC:=by rw[BJ,decide_eq_true_eq];omega
  have hc:Ai.ite (Ai.eq (tr (Ai.toN (j:Int))).tx (Em s).tx) (Ai.ite (Ai.beq (tr (Ai.toN (j:Int))).com (Em s).com) aC ay) ay=(t.1==s):=by
   rw[htr];obtain ⟨⟨a,b⟩,nd'⟩:=t;obtain ⟨c,d⟩:=s;show (bif a==c then (bif b==d then aC else ay) else ay)=((a,b)==(c,d));by_cases h1:a=c
   ·subst h1
    by_cases h2:b=d
    ·subst h2;simp
    ·have e1:(b==d)=ay:=beq_eq_false_iff_ne.2 h2
     have e2:((a,b)==(a,d))=ay:=beq_eq_false_iff_ne.2 fun e=>h2 (xg e).2;rw[e1,e2];simp
   ·have e1:(a==c)=ay:=beq_eq_false_iff_ne.2 h1
    have e2:((a,b)==(c,d))=ay:=beq_eq_false_iff_ne.2 fun e=>h1 (xg e).1;rw[e1,e2];rfl
  cases hb:(t.1==s) with
  |true=>
   have e:t=t0:=by
    rw[List.find?_cons_of_pos (p:=fun t:(Int×Bool)×Nd SG=>t.1==s) hb] at hf;exact dH hf
   subst e;refine Fh (dD _ _) (F9 FN _) (hold:=BL) (m:=300) (n:=400) (ts:=[⟨16,ZL,LNb B k u (i:Nat) (nd.placed:Nat) B.k0 nd.st (Em s) (turns (Gb B) nd).length tr 0,[]⟩,⟨16,ZK,LNa B k u ((i+1:Nat):Int) (t.2.placed:Nat) B.k0 t.2.st,[]⟩]) ?_;refine acL Ai W7 B hs lv k u i _ B.k0 nd.st (Em s) _ tr j 0 _ _ _ _ (c1:=aC) rfl (by rw[hc];exact hb) (fun _=>inb) (fun _ _=>?_) (fun _ q=>by cases q) (fun q=>no q);exact ⟨⟨rfl,rfl,rfl,rfl,rfl,w2,congrArg JJ.placed htr,congrArg (fun x:JJ=>aG 4 x.n x.g) htr,trivial⟩,_,rfl,hA⟩
  |false=>
   have nx:=ih (by
    rw[List.find?_cons_of_neg (p:=fun t:(Int×Bool)×Nd SG=>t.1==s) (by rw[hb];simp)] at hf;exact hf)
   refine Fh (dD _ _) (F9 FN _) (hold:=BL) (m:=300) (n:=400) (ts:=[⟨16,ZL,LNb B k u (i:Nat) (nd.placed:Nat) B.k0 nd.st (Em s) (turns (Gb B) nd).length tr ((j+1:Nat):Int),[]⟩,⟨16,ZK,LNa B k u 0 0 B.k0 nd.st,[]⟩]) ?_;refine acL Ai W7 B hs lv k u i _ B.k0 nd.st (Em s) _ tr j _ _ 0 _ _ (c1:=ay) rfl (by rw[hc];exact hb) (fun _=>inb) (fun _ q=>by cases q) (fun _ _=>?_) (fun q=>no q);exact ⟨⟨rfl,rfl,rfl,rfl,rfl,rfl,rfl,rfl,rfl,w1,rfl,rfl,rfl,rfl,trivial⟩,_,rfl,nx⟩
theorem ale(FN:AV aA (Bq W7) 40 (Xt hs lv B))(hg:LY B Q){k:Nat}(hk:k<=1000){u:Nat->Ea}{nd':Nd SG}(hφ:φ (.AQ [.sl 2 (turns (Gb B) nd').length (Aj (nth ((turns (Gb B) nd').map fun t=>Em t.1))),.v .nilIface])):
  ∀(l:List (Int×Bool)) (i:Nat) (nd:Nd SG),i+l.length=k->(∀j s,l[j]?=ak s->u (i+j)=Em s)->Q nd->walk (Gb B) nd l=ak nd'->
  Bz aA (C7 Ai W7 (Dw hs lv B) AU) (K0 H0 w0) 16 ZK (LNa B k u (i:Nat) (nd.placed:Nat) B.k0 nd.st) [] emp (up φ)
 |[],i,nd,hi,hu,hq,hw=>by
  have hw:ak nd=ak nd':=hw;rw[<-dH hw] at hφ;have hN:(turns (Gb B) nd).length<=124:=P7 (hg.tu nd hq).le nd;refine GK (fn:=mX) (tb:=aqA) (by kernel_rfl) (by kernel_rfl) ?_;have lt {P:Prop} (h:Ai.lt (i:Int) (ah k)=aC):P:=by simp[Aq] at h;simp at hi;omega
  have nx:=alc (H0:=H0) (w0:=w0) FN (turns (Gb B) nd) (by omega) hφ (turns (Gb B) nd).length 0 [] (by omega) rfl;refine Fh (dD _ _) (F9 FN _) (hold:=BL) (m:=300) (n:=400) (ts:=[⟨16,ZL,LNb B k u (i:Nat) (nd.placed:Nat) B.k0 nd.st default (turns (Gb B) nd).length (nth ((turns (Gb B) nd).map (G8 B.k0))) 0,[]⟩,⟨16,ZM,LNc (turns (Gb B) nd).length (nth ((turns (Gb B) nd).map (G8 B.k0))) 0 (nth []) ((0:Nat):Int),[]⟩]) ?_;exact acK Ai W7 B hs lv k u i _ B.k0 nd.st default _ _ (nth []) rfl (fun q=>lt q) (fun q=>lt q) (fun _=>Xv hg hq rfl) (fun q=>lt q) (fun _=>⟨⟨by rw[La,Xw];rfl,by rw[La];rfl,rfl,rfl,trivial⟩,_,rfl,nx⟩)
 |s::l,i,nd,hi,hu,hq,hw=>by
  rw[List.length_cons] at hi;rw[walk] at hw;cases hf:(turns (Gb B) nd).find? fun t=>t.1==s with
  |none=>rw[hf] at hw;cases hw |some t0=>
   rw[hf] at hw;have hqt:Q t0.2:=hg.step nd hq _ (dJ.2 ⟨t0,qI hf,rfl⟩);have hA:=ale FN hg hk hφ l (i+1) t0.2 (by omega) (fun j s hs=>by
    have:=hu (j+1) s (by simpa using hs);rw[show i+1+j=i+(j+1) by omega];exact this) hqt hw
   have hus:u i=Em s:=hu 0 s rfl;have nx:=ald (H0:=H0) (w0:=w0) FN hg nd hq (k:=k) (u:=u) (i:=i) (by omega) s hA (turns (Gb B) nd).length 0 (by omega) (by rw[List.drop_zero];exact hf);refine GK (fn:=mX) (tb:=aqA) (by kernel_rfl) (by kernel_rfl) ?_;have no {P:Prop} (h:Ai.lt (i:Int) (ah k)=ay):P:=by simp[Aq] at h;omega
   have inb:Ai.inB (i:Int) k=aC:=by rw[BJ,decide_eq_true_eq];omega
   refine Fh (dD _ _) (F9 FN _) (hold:=BL) (m:=300) (n:=400) (ts:=[⟨16,ZL,LNb B k u (i:Nat) (nd.placed:Nat) B.k0 nd.st (Em s) (turns (Gb B) nd).length (nth ((turns (Gb B) nd).map (G8 B.k0))) ((0:Nat):Int),[]⟩,⟨16,ZM,LNc (turns (Gb B) nd).length (nth ((turns (Gb B) nd).map (G8 B.k0))) 0 (nth []) 0,[]⟩]) ?_;refine acK Ai W7 B hs lv k u i _ B.k0 nd.st (Em s) _ _ (nth []) rfl (fun _=>inb) (fun _=>Xv hg hq rfl) (fun q=>no q) (fun _=>?_) (fun q=>no q);exact ⟨⟨rfl,rfl,rfl,rfl,rfl,rfl,rfl,by rw[La,Xw];rfl,by rw[La];rfl,rfl,rfl,rfl,congrArg Ea.tx hus,congrArg Ea.com hus,trivial⟩,_,rfl,nx⟩
end
theorem axi:AV aA (Bq W7) 16 aqC:=by
 intro H w Bv args φ hon hgl hr hφ;unfold aqC at hφ;split at hφ
 ·rename_i s t v
  split at hφ
  ·rename_i lv k u e1 e2
   obtain ⟨q1,hφ⟩:=hφ;unfold naB at q1;rw[aI,aI,aI,aI,decide_eq_true_eq] at q1;obtain ⟨b1,b2,b3,b4,b5⟩:=q1;obtain ⟨n,g,m,h,rfl,P,l1,l3⟩:=@of_decide_eq_true _ (bG _) b1;have hφ:φ (.AQ [.sl 2 (nxN (hsS n g m h) lv k u) (Aj (nxR (hsS n g m h) lv k u)),.v .nilIface]):=hφ;have O:=FN (O20 P) l1 l3 (aqu P);have hbg:Ed (hsS n g m h) lv=BD lv n g (Bl n g m h):=rfl;have hT:((Bl n g m h).okb&&decide ((Bl n g m h).n<=12))=aC:=b2;rw[aI,decide_eq_true_eq] at hT;have hG:=JG (lv:=lv) (YK P hT.1 hT.2);obtain ⟨nd',hw⟩:=fP.1 b5;have hL:nxL (hsS n g m h) lv k u=(turns (Gb (BD lv n g (Bl n g m h))) nd').map fun t=>Em t.1:=by unfold nxL;rw[hw,hbg]
   unfold nxN nxR at hφ;rw[hL,dP] at hφ;unfold wkO at hw;rw[hbg] at hw;match args,hr with
   |[a0,a1,a2],⟨r0,r1,r2,_⟩=>
   refine YN (C:=C7 Ai W7 (Dw (hsS n g m h) lv (BD lv n g (Bl n g m h))) AU) (dD _ _) (fn:=mX) (Ey:=[hsS n g m h,.i .i64 lv,.sl 2 k (Aj (Am (α:=Ea) u))]) (L:=L0) (by kernel_rfl) (by kernel_rfl) hon hgl ⟨r0,EJ e1 r1,Ez (BQ e2 r2) b3,trivial⟩ ?_;have hn:mX.ntmps=85:=by kernel_rfl
   refine Fh (dD _ _) (F9 O _) (hold:=BL) (m:=300) (n:=400) (ts:=[⟨16,ZK,LNa (BD lv n g (Bl n g m h)) k (Am u) ((0:Nat):Int) 0 (BD lv n g (Bl n g m h)).k0 (BD lv n g (Bl n g m h)).g0,[]⟩]) ?_;rw[hn];have c0 {P:Prop} (q:Ai.lt lv (ah 1)=aC):P:=by simp[Aq] at q;omega
   have c1 {P:Prop} (q:Ai.lt (ah 3) lv=aC):P:=by simp[Aq] at q;omega
   have nx:=ale (H0:=H) (w0:=w) (φ:=φ) (hs:=hsS n g m h) (lv:=lv) O hG b4 (u:=Am u) hφ ((lst Ea k u).map fun x=>(x.tx,x.com)) 0 ⟨0,(BD lv n g (Bl n g m h)).g0⟩ (by simp) (fun j s hs=>by
    rw[gB] at hs;unfold lst at hs;rw[gB] at hs;obtain ⟨hj,_⟩:=aV.1 (show (aZ k)[j]?=ak ((aZ k)[j]?.getD 0) by
     cases hx:(aZ k)[j]? with
     |none=>rw[hx] at hs;cases hs |some x=>rfl)
    rw[kD] at hj;rw[List.getElem?_range hj] at hs;cases hs;rw[Nat.zero_add];rfl) hG.start hw
   exact ajS Ai W7 (BD lv n g (Bl n g m h)) lv n m g h k (Am u) ((0:Nat):Int) (c2:=aC) rfl rfl b2 rfl (fun _ _=>@decide_eq_true _ (bG _) ⟨rfl,rfl⟩) (fun q=>c0 q) (fun _ q=>c1 q)
    (fun _ _ _=>⟨⟨rfl,rfl,rfl,rfl,rfl,rfl,rfl,rfl,trivial⟩,_,rfl,nx⟩) (fun _ _ q=>by cases q) (fun _ _ q=>by cases q)
  ·exact hφ.elim
 ·exact hφ.elim
end Go.Proofs
namespace Go.Pl
open Go Go.Sx Go.Proofs Go.Gm Go.Bf
noncomputable def tvB(k:Nat)(s:Sh):Bool:=hpB s&&(!(tbS s).okb&&(if k=0 then (tbS s).Ig else !(tbS s).Ig&&(tbS s).e==k))
noncomputable def tpI(s:Sh):Int:=(tbS s).pos
noncomputable def teN(s:Sh):Nat:=(tbS s).e
end Go.Pl
namespace Go.Proofs
open Go Go.Sx Go.Pl Go.Gm Go.Bf
open Go Go.Sx Go.Pl
noncomputable def W11:List Sh->Tree Sh
 |[]=>.leaf (.v (.bool aC)) |_=>.fail
end Go.Proofs
namespace Go.Pl
open Go Go.Sx Go.Proofs Go.Gm Go.Bf
section
variable{n m:Nat}{g h:Nat->List Sh}
theorem ajT(P:Pn n g m h){lv:Int}(hl:1<=lv/\lv<=3):hsB (hsS n g m h) lv=aC:=@decide_eq_true _ (bG _) ⟨n,g,m,h,rfl,P,hl.1,hl.2⟩
theorem acN(P:Pn n g m h){lv mo:Int}(hl:1<=lv/\lv<=3)(hm:YL mo=aC)(hb:(Ed (hsS n g m h) lv).okb=aC):gaB (hsS n g m h) lv mo=aC:=by
 unfold gaB;rw[ajT P hl,hm,hb];rfl
end
end Go.Pl
namespace Go.Proofs
open Go Go.Sx Go.Pl Go.Gm Go.Bf
end Go.Proofs
namespace Go.Gm
open Go.Bf
section
variable{S κ:Type}[DecidableEq κ]{g g':Game S}{key:Nd S->κ}
theorem amv(hf:∀nd:Nd S,full g nd=full g' nd)(hn:∀nd,∀t∈next g nd,t∈next g' nd):∀{nd:Nd S},NU (next g) (full g) nd->NU (next g') (full g') nd:=fun {nd} h=>by
 induction h with
 |here h=>exact .here (by rw[<-hf];exact h) |step ht _ ih=>exact .step (hn _ _ ht) ih
theorem ah0{α β:Type}{f:α->β}:∀{l m:List α},(l.map f).Nodup->(∀x∈l,x∈m)->l.length<=m.length
 |[],_,_,_=>gV _ |a::l,m,hd,hs=>by
  have hd:=List.nodup_cons.1 (by simpa using hd:(f a::l.map f).Nodup);have ha:=hs a bZ;obtain ⟨s,t,e⟩:=List.append_of_mem ha;have:l.length<=(s++t).length:=ah0 hd.2 fun x hx=>by
   have:=hs x (dA _ hx);rw[e] at this;rcases bI.1 this with h|h
   ·exact List.mem_append_left _ h
   ·rcases List.mem_cons.1 h with h|h
    ·subst h
     exact (hd.1 (dJ.2 ⟨x,hx,rfl⟩)).elim
    ·exact List.mem_append_right _ h
  rw[e];simp at this ⊢;omega
theorem ajU(hn:∀nd,∀t∈next g nd,t∈next g' nd){s:S}{m m':Nat}(hm:1<=m)(hm':1<=m'){r r':List (Nd S)}(h:Dv g key s m=ak r)(h':Dv g' key s m'=ak r'){Q:Nd S->Prop}
  (hQ:∀n,Q n->∀t∈next g' n,Q t) (hk:∀x y,Q x->Q y->key x=key y->x=y) (hs:Q (start s)):r.length<=r'.length:=by
 refine ah0 (f:=key) (Vx h (by simp)) fun x hx=>?_
 have ha:∀y∈[start s],y∈r':=fun y hy=>by
  obtain rfl:y=start s:=by simpa using hy
  exact YC h'
 exact NT (P:=fun y=>y∈r') (fun n hn' t ht=>ad5 hm' h' hQ hk hs n hn' t (hn n t ht)) h ha x hx
structure Part(b c:Game S)(φ:Nat->Nat):Prop where
 lt:∀i,i<b.n->φ i<c.n
 inj:∀i j,i<b.n->j<b.n->φ i=φ j->i=j
 com:∀i,i<b.n->b.com i=c.com (φ i)
 Uw:∀i,i<b.n->b.Uw i=c.Uw (φ i)
 run:∀i,i<b.n->∀s,b.run s i=c.run s (φ i)
 mask:∀i j,i<b.n->j<b.n->(b.mask i).testBit j=(c.mask (φ i)).testBit (φ j)
 out:∀j,j<c.n->c.com j=aC->∃i,i<b.n/\φ i=j
 free:b.all=ay
structure Sim(b:Game S)(φ:Nat->Nat)(x y:Nd S):Prop where
 st:x.st=y.st
 bit:∀i,i<b.n->x.placed.testBit i=y.placed.testBit (φ i)
theorem amw{b c:Game S}{φ:Nat->Nat}(hp:Part b c φ){x y t:Nd S}(hs:Sim b φ x y)(ht:t∈next c y):Sim b φ x t\/∃u∈next b x,Sim b φ u t:=by
 obtain ⟨e,he,rfl⟩:=dJ.1 ht;unfold turns at he;obtain ⟨j,hj,he⟩:=iV.1 he;have hj:=dh.1 hj;have hpl:=(YB he).2.2;by_cases hq:∃i,i<b.n/\φ i=j
 ·obtain ⟨i,hi,rfl⟩:=hq
  refine .inr ?_;have hm:may c y.placed (φ i)=aC:=by
   unfold Fg at he;split at he
   ·assumption
   ·cases he
  have hm':may b x.placed i=aC:=by
   unfold may at hm ⊢;rw[aI,dF] at hm ⊢;refine ⟨by rw[hs.bit i hi];exact hm.1,fun k hk=>?_⟩;have hk:=dh.1 hk;rw[hp.mask i k hi hk,hs.bit k hk];exact hm.2 (φ k) (dh.2 (hp.lt k hk))
  have bits:∀k,k<b.n->(x.placed|||1<<<i).testBit k=(y.placed|||1<<<φ i).testBit (φ k):=fun k hk=>by
   rw[Xr,Xr,hs.bit k hk];congr 1;by_cases q:i=k
   ·subst q;simp
   ·rw[decide_eq_false q,decide_eq_false fun e=>q (hp.inj i k hi hk e)]
  have mem:∀u∈Fg b x i,u.2∈next b x:=fun u hu=>dJ.2 ⟨u,iV.2 ⟨i,dh.2 hi,hu⟩,rfl⟩;unfold Fg at he;rw[if_pos hm] at he;rcases bI.1 he with he|he
  ·split at he
   ·rename_i s e1 e2
    obtain rfl:e=_:=by simpa using he
    refine ⟨⟨x.placed|||1<<<i,s⟩,mem ((b.id i,aC),⟨x.placed|||1<<<i,s⟩) ?_,rfl,bits⟩;unfold Fg;rw[if_pos hm',hp.com i hi,e1,hp.run i hi,hs.st,e2];simp
   ·cases he
  ·split at he
   ·rename_i q
    obtain rfl:e=_:=by simpa using he
    refine ⟨⟨x.placed|||1<<<i,x.st⟩,mem ((b.id i,ay),⟨x.placed|||1<<<i,x.st⟩) ?_,hs.st,bits⟩;unfold Fg;rw[if_pos hm',if_pos ⟨by rw[hp.Uw i hi];exact q.1,fun e=>by rw[hp.free] at e;cases e⟩];simp
   ·cases he
 ·refine .inl ⟨?_,fun i hi=>?_⟩
  ·unfold Fg at he
   split at he
   ·rcases bI.1 he with he|he
    ·split at he
     ·rename_i s e1 e2
      exact (hq (hp.out j hj e1)).elim
     ·cases he
    ·split at he
     ·obtain rfl:e=_:=by simpa using he
      exact hs.st
     ·cases he
   ·cases he
  ·rw[hpl,Xr,hs.bit i hi,decide_eq_false fun e=>hq ⟨i,hi,e.symm⟩,Bool.or_false]
theorem ajV{b c:Game S}{φ:Nat->Nat}(hp:Part b c φ):∀{y:Nd S},NU (next c) (full c) y->y.placed<2^c.n->∀{x:Nd S},Sim b φ x y->x.placed<2^b.n->NU (next b) (full b) x:=fun {y} h=>by
 induction h with
 |here h=>
  intro hy x hs hx;exact .here ((ad4 hx).2 fun i hi=>by rw[hs.bit i hi];exact (ad4 hy).1 h _ (hp.lt i hi))
 |step ht _ ih=>
  intro hy x hs hx;rcases amw hp hs ht with q|⟨u,hu,q⟩
  ·exact ih (lt_next hy _ ht) q hx
  ·exact .step hu (ih (lt_next hy _ ht) q (lt_next hx _ hu))
theorem ah1{b c:Game S}{φ:Nat->Nat}(hp:Part b c φ)(s:S)(h:NU (next c) (full c) (start s)):NU (next b) (full b) (start s):=
 ajV hp h (start_lt s) ⟨rfl,fun i hi=>by simp[start]⟩ (start_lt s)
end
end Go.Gm
namespace Go.Pl
open Go Go.Sx Go.Proofs Go.Gm Go.Bf
theorem amx{S:Type}{g g':Game S}(hn:g.n=g'.n)(hi:g.id=g'.id)(hc:g.com=g'.com)(ha:g.Uw=g'.Uw)(hr:g.run=g'.run)(hl:g.all=g'.all)(hm:∀p i,may g p i=aC->may g' p i=aC)(nd:Nd S):∀t∈next g nd,t∈next g' nd:=fun t ht=>by
 obtain ⟨e,he,rfl⟩:=dJ.1 ht;obtain ⟨i,h',he⟩:=iV.1 he;rw[hn] at h';refine dJ.2 ⟨e,iV.2 ⟨i,h',?_⟩,rfl⟩;unfold Fg at he ⊢;split at he
 ·rename_i h1
  rw[if_pos (hm _ _ h1),<-hi,<-hc,<-ha,<-hr,<-hl];exact he
 ·cases he
theorem ael(bg:Int):∀(l:List Ee) i m,JE 1 bg i l m=m
 |[],i,m=>rfl |a::l,i,m=>by
  rw[JE,if_neg (fun q=>q.1 rfl)];exact ael bg l (i+1) m
theorem aem{lv bg:Int}(h:lv≠1):∀(l:List Ee) i m j,(JE lv bg i l m).testBit j=(m.testBit j||(decide (i<=j)&&match l[j - i]? with|some a=>VD a.en bg|none=>ay))
 |[],i,m,j=>by rw[JE];simp |a::l,i,m,j=>by
  rw[JE,aem h l];have hb:(if lv≠1/\VD a.en bg=aC then m|||1<<<i else m).testBit j=(m.testBit j||(VD a.en bg&&decide (i=j))):=by
   cases hr:VD a.en bg with
   |true=>rw[if_pos ⟨h,rfl⟩,Xr];rfl |false=>rw[if_neg (fun q=>by cases q.2)];simp
  rw[hb];by_cases h1:i=j
  ·subst h1
   rw[decide_eq_false (by omega:¬i+1<=i),Nat.sub_self];simp
  ·by_cases h2:i+1<=j
   ·have e:j - i=(j - (i+1))+1:=by omega
    rw[e,List.getElem?_cons_succ];simp[h1,h2,(by omega:i<=j)]
   ·rw[decide_eq_false (by omega:¬i+1<=j),decide_eq_false (by omega:¬i<=j),decide_eq_false h1]
    simp
theorem aen{lv:Int}(h:lv≠1){L:List Ee}{i j:Nat}(hj:j<L.length):((YE lv L i).toNat).testBit j=VD (nth L j).en (nth L i).bg:=by
 show (JE lv (nth L i).bg 0 L 0).testBit j=_;rw[aem h,Nat.sub_zero,aS hj];unfold nth;rw[aX,aX,aS hj];simp
theorem alf{α β:Type}[Row β]{f:α->β}{l:List α}{i:Nat}(h:i<l.length):nth (l.map f) i=f l[i]:=by
 unfold nth;rw[aX,gB,aS h];rfl
section
variable{n:Nat}{og:Nat->List Sh}{B:TA}
theorem alg(nd:Nd SG):∀t∈next (Gb (BD 2 n og B)) nd,t∈next (Gb (BD 1 n og B)) nd:=
 amx (g:=Gb (BD 2 n og B)) (g':=Gb (BD 1 n og B)) rfl rfl rfl rfl rfl rfl (fun p i h=>by
  unfold may at h ⊢;rw[aI] at h;rw[h.1];refine dF.2 fun j _=>?_
  have e:(Gb (BD 1 n og B)).mask i=0:=by
   show (JE 1 _ 0 _ 0:Nat)=0;exact ael _ _ _ _
  rw[e];simp) nd
theorem asf(nd:Nd SG):full (Gb (BD 2 n og B)) nd=full (Gb (BD 1 n og B)) nd:=by
 have e:(Gb (BD 2 n og B)).n=(Gb (BD 1 n og B)).n:=rfl;unfold full;rw[e]
def idx(B:TA):List Nat:=(aZ B.n).filter fun j=>VB (B.T j).st 2
theorem ct2:EO 2 B.n B.T=(idx B).map B.T:=by
 unfold EO idx;rw[List.filter_map];rfl
theorem ct3:EO 3 B.n B.T=(aZ B.n).map B.T:=List.filter_eq_self.2 fun _ _=>rfl
theorem asg{i:Nat}(h:i<(idx B).length):(idx B)[i]<B.n:=dh.1 (wI.1 (List.getElem_mem h)).1
theorem ash:Part (Gb (BD 2 n og B)) (Gb (BD 3 n og B)) (fun i=>(idx B).getD i 0):=by
 have hb:(Gb (BD 2 n og B)).n=(idx B).length:=by show (EO 2 B.n B.T).length=_;rw[ct2,dP]
 have hc:(Gb (BD 3 n og B)).n=B.n:=by show (EO 3 B.n B.T).length=_;rw[ct3,dP,kD]
 have fi:∀i,(h:i<(idx B).length)->(idx B).getD i 0=(idx B)[i]:=fun i h=>by rw[aX,aS h];rfl
 have tb:∀i,(h:i<(idx B).length)->nth (EO 2 B.n B.T) i=B.T ((idx B).getD i 0):=fun i h=>by rw[fi i h,ct2,alf h]
 have tc:∀i,(h:i<B.n)->nth (EO 3 B.n B.T) i=B.T i:=fun i h=>by rw[ct3,alf (by simpa using h),List.getElem_range]
 have fl:∀i,i<(idx B).length->(idx B).getD i 0<B.n:=fun i h=>by rw[fi i h];exact asg h
 have tt:∀i,i<(idx B).length->nth (EO 2 B.n B.T) i=nth (EO 3 B.n B.T) ((idx B).getD i 0):=fun i h=>by rw[tb i h,tc _ (fl i h)]
 refine ⟨fun i h=>?_,fun i j h1 h2 e=>?_,fun i h=>?_,fun i h=>?_,fun i h s=>?_,fun i j h1 h2=>?_,fun j h hq=>?_,rfl⟩
 ·rw[hb] at h;rw[hc];exact fl i h
 ·rw[hb] at h1 h2
  rw[fi i h1,fi j h2] at e;exact (List.getElem_inj ((List.nodup_range (n:=B.n)).filter _)).1 e
 ·rw[hb] at h
  show ((nth (EO 2 B.n B.T) i).st==3||(nth (EO 2 B.n B.T) i).st==2)=_;rw[tt i h];rfl
 ·rw[hb] at h
  show (!((nth (EO 2 B.n B.T) i).st==3))=_;rw[tt i h];rfl
 ·rw[hb] at h
  show (if plO n s (nth (EO 2 B.n B.T) i).k (nth (EO 2 B.n B.T) i).g=aC then ak (Tq n s (nth (EO 2 B.n B.T) i).k (nth (EO 2 B.n B.T) i).g) else aK)=_;rw[tt i h];rfl
 ·rw[hb] at h1 h2
  show ((YE 2 (EO 2 B.n B.T) i).toNat).testBit j=((YE 3 (EO 3 B.n B.T) ((idx B).getD i 0)).toNat).testBit ((idx B).getD j 0);rw[aen (by decide) (by rw[ct2,dP];exact h2),aen (by decide) (by rw[ct3,dP,kD];exact fl j h2),tt i h1,tt j h2]
 ·rw[hc] at h
  have hq:((nth (EO 3 B.n B.T) j).st==3||(nth (EO 3 B.n B.T) j).st==2)=aC:=hq;rw[tc j h] at hq;have hm:j∈idx B:=wI.2 ⟨dh.2 h,hq⟩;obtain ⟨i,hi,e⟩:=List.getElem_of_mem hm;exact ⟨i,by rw[hb];exact hi,by show (idx B).getD i 0=j;rw[fi i hi];exact e⟩
theorem axj(P:TbP n og B){m:Nat}(hm:1<=m){r2 r1:List (Nd SG)}(h2:Dv (Gb (BD 2 n og B)) (CS n) (FD og) m=ak r2)(h1:Dv (Gb (BD 1 n og B)) (CS n) (FD og) m=ak r1):
  r2.length<=r1.length/\(Kt (Gb (BD 2 n og B)) (CS n) (FD og) r2=aC->Kt (Gb (BD 1 n og B)) (CS n) (FD og) r1=aC):=by
 have g1:=JG (lv:=1) P;have g2:=JG (lv:=2) P;refine ⟨ajU alg hm hm h2 h1 g1.step KQ g1.start,fun y=>?_⟩;exact (Tv hm h1 g1.step KQ g1.start).2 (amv asf alg ((Tv hm h2 g2.step KQ g2.start).1 y))
theorem axk(P:TbP n og B){m:Nat}(hm:1<=m){r3 r2:List (Nd SG)}(h3:Dv (Gb (BD 3 n og B)) (CS n) (FD og) m=ak r3)(h2:Dv (Gb (BD 2 n og B)) (CS n) (FD og) m=ak r2)
  (y:Kt (Gb (BD 3 n og B)) (CS n) (FD og) r3=aC):Kt (Gb (BD 2 n og B)) (CS n) (FD og) r2=aC:=by
 have g2:=JG (lv:=2) P;have g3:=JG (lv:=3) P;exact (Tv hm h2 g2.step KQ g2.start).2 (ah1 ash _ ((Tv hm h3 g3.step KQ g3.start).1 y))
end
theorem amy{S κ:Type}[DecidableEq κ]{g:Game S}{key:Nd S->κ}(hn:g.n=0)(s:S):Dv g key s 1=ak [fD s]/\Kt g key s [fD s]=aC/\Ir g key s [fD s]=[]:=by
 have nx:∀nd,next g nd=[]:=fun nd=>by unfold next turns;rw[hn];rfl
 have hp:Dv g key s 1=ak [fD s]:=by
  unfold Dv;simp[LW,nx,FM]
 have hf:full g (fD s)=aC:=by unfold full;rw[hn];rfl
 have hy:Kt g key s [fD s]=aC:=(Tv (Q:=fun x=>x=fD s) (dn 1) hp (fun n _ t ht=>by rw[nx] at ht;cases ht) (fun x y hx hy _=>hx.trans hy.symm) rfl).2 (.here hf);refine ⟨hp,hy,?_⟩;unfold Ir;rw[if_pos hy,least,if_pos hf]
open Go Go.Sx Go.Proofs Go.Gm
noncomputable def YO(x:Int)(m:Nat):Nat:=(max 0 (min x (m:Int))).toNat
noncomputable def pfB(o:Nat)(x:Int)(m:Nat):Bool:=Ai.room o 16&&Ai.room (YO x m) 64
noncomputable def znB(s:Sh)(lv mo:Int):Bool:=gaB s lv mo&&(J8 s lv mo&&(N8 s lv mo&&(decide (rtN s lv mo=0)&&decide (RF s lv mo=1))))
noncomputable def gxB(k:Bool)(s:Sh)(lv mo:Int):Bool:=hsB s lv&&(!RD s lv mo&&(YM s lv mo==k))
end Go.Pl
namespace Go.Proofs
open Go Go.Sx Go.Pl
noncomputable def D21:List Sh->Tree Sh
 |[.agg [.sl 2 o og,.sl 8 m mg],t]=>match BF t with
  |some x=>.need (pfB o x m) (.leaf (.agg [.sl 2 o og,.sl 8 (YO x m) mg])) |none=>.fail
 |_=>.fail
noncomputable def asU(k:Bool):List Sh->Tree Sh
 |[s,t,u]=>match BF t,BF u with
  |some lv,ak mo=>.need (gxB k s lv mo) (.leaf (.AQ [.agg [.b ay,.sl 2 0 (fun _=>[]),.i .i64 0],match k with
   |true=>.C9 109 (.pt [.i .i64 (rpI s lv mo),.er (VP s lv mo) 329]) |false=>.er (VP s lv mo) 329]))
  |_,_=>.fail
 |_=>.fail
noncomputable def asV:List Sh->Tree Sh
 |[s,t,u]=>match BF t,BF u with
  |some lv,ak mo=>.need (znB s lv mo) (.leaf (.AQ [.agg [.v (.bool aC),.sl 2 0 (fun _=>[]),.i .i64 1],.v .nilIface])) |_,_=>.fail
 |_=>.fail
noncomputable def asW(F G:List Sh->Tree Sh):List Sh->Tree Sh
 |[s,t,u]=>match BF u with
  |some mo=>bif decide (mo=1) then G [s,t,u] else F [s,t,u] |none=>.fail
 |_=>.fail
noncomputable def asX:List Sh->Tree Sh
 |[s]=>.need (tkB s) (.leaf (.v .nilIface)) |_=>.fail
noncomputable def asY(k:Bool):List Sh->Tree Sh
 |[s]=>.need (tvB (bif k then 0 else 6) s) (.leaf (match k with
  |true=>.C9 109 (.pt [.i .i64 (tpI s),.er (teN s) 329]) |false=>.er 6 329))
 |_=>.fail
noncomputable def YP(F C:List Sh->Tree Sh):Nat->Option (List Sh->Tree Sh)
 |11=>ak W11 |15=>ak F |21=>ak D21 |22=>ak C |_=>aK
theorem O21:AV aA (Bq W7) 21 D21:=by
 refine FT (C:=C7 Ai W7 noSpec AU) (dD _ _) (fn:=oG) (by kernel_rfl) (by kernel_rfl) fun H w Bv args φ hrep h=>?_
 have hn:oG.ntmps=17:=by kernel_rfl
 unfold D21 at h;split at h
 ·rename_i o og m mg t
  split at h
  ·rename_i x e1
   obtain ⟨q1,hφ⟩:=h;match args,hrep with
   |[a0,a1],⟨r0,r1,_⟩=>
    refine ⟨[.agg [.sl 2 o og,.sl 8 m mg],.i .i64 x],⟨r0,EJ e1 r1,trivial⟩,L0,?_⟩;refine Fh (dD _ _) (MC _) (hold:=BL) (m:=300) (n:=400) (ts:=[]) ?_;rw[hn];unfold pfB at q1;rw[aI] at q1;obtain ⟨ro,rp⟩:=q1;have eX:Ai.toN (Ai.max (ah 0) (Ai.min x (Ai.AZ m)))=YO x m:=by
     unfold YO;rw[JC,PS,CX,AY];congr 1;simp only[fM];split<;>split<;>omega
    have up1:Ai.upTo (Ai.max (ah 0) (Ai.min x (Ai.AZ m))) m=aC:=by
     rw[JC,PS,Jp,AY];simp only[fM];split<;>split<;>simp<;>omega
    obtain ⟨X,hX⟩:∃X,Ai.toN (Ai.max (ah 0) (Ai.min x (Ai.AZ m)))=X:=⟨_,rfl⟩;have leo:Ai.le (ah 0) (Ai.AZ o)=aC:=le0 o;have ro2:Ai.room (Ai.addN 0 o) 16=aC:=by rw[KI];exact ro
    have lep:Ai.le (ah 0) (Ai.AZ (Ai.toN (Ai.max (ah 0) (Ai.min x (Ai.AZ m)))))=aC:=le0 _;have rp1:Ai.room (Ai.toN (Ai.AZ (Ai.toN (Ai.max (ah 0) (Ai.min x (Ai.AZ m)))))) 64=aC:=by rw[SX,eX];exact rp
    have rp2:Ai.room (Ai.addN 0 (Ai.toN (Ai.max (ah 0) (Ai.min x (Ai.AZ m))))) 64=aC:=by rw[KI,eX];exact rp
    have ro1:Ai.room (Ai.toN (Ai.AZ o)) 16=aC:=by rw[SX];exact ro
    have fin:up φ (.agg [.os 140 2 (Ai.addN 0 o) (Ai.snoc (fun _=>[]) 0 og),.os 71 8 (Ai.addN 0 (Ai.toN (Ai.max (ah 0) (Ai.min x (Ai.AZ m))))) (Ai.snoc (fun _=>[]) 0 mg)]):=by
     rw[KI,KI,eX,NM,NM];exact BX (s':=.agg [.sl 2 o og,.sl 8 (YO x m) mg]) ⟨.inr ⟨rfl,rfl,fun _ _=>rfl⟩,.inr ⟨rfl,rfl,fun _ _=>rfl⟩,trivial⟩ hφ
    exact akM (by kernel_rfl) (an up1 (an leo (an ro1 (an ro2 (an lep (an rp1 (an rp2 (an lep (an rp1 (an ro2 (an rp2 (an lep (an rp1 (an leo (an ro1 (an ro2 (an rp2 fin))))))))))))))))) (by kernel_rfl)
  ·exact h.elim
 ·exact h.elim
end Go.Proofs
namespace Go.Pl
open Go Go.Sx Go.Proofs Go.Gm Go.Bf
section
variable{n m:Nat}{g h:Nat->List Sh}
theorem Pn.none(P:Pn n g m h):Pn n g 0 h:=⟨P.o,rfl,rfl,P.k⟩
theorem ah2(hok:(Bl n g m h).okb=aC):(Bl n g 0 h).okb=aC:=by
 have hok:(!Go.BR.F5 n m&&(lU n m g h&&qR m (dK h)))=aC:=hok;rw[aI,aI,fH] at hok;obtain ⟨h1,h2,_⟩:=hok;show (!Go.BR.F5 n 0&&(lU n 0 g h&&qR 0 (dK h)))=aC;have e1:oH n 0=ay:=by
  unfold oH at h1 ⊢;simp at h1 ⊢;omega
 have e2:lU n 0 g h=aC:=by
  unfold lU xM at h2 ⊢;cases hs:wY (fun k=>qQ (dK (α:=iP) g k)) 0 n with
  |some x=>rw[hs] at h2;cases h2 |none=>rfl
 rw[e1,e2];rfl
theorem asj:(Bl n g 0 h).n=0:=rfl
theorem avy{lv:Int}(hok:(Bl n g m h).okb=aC)(hn:(Bl n g m h).n<=12):(Ed (hsS n g m h) lv).okb=aC:=by
 show ((Bl n g m h).okb&&decide ((Bl n g m h).n<=12))=aC;rw[hok,decide_eq_true hn];rfl
theorem aqG(P:Pn n g m h)(hz:(Bl n g 0 h).okb=aC):znB (hsS n g 0 h) 3 1=aC:=by
 have hg:(Ed (hsS n g 0 h) 3).okb=aC:=avy hz (by rw[asj];omega);obtain ⟨e1,e2,e3⟩:=amy (g:=Gb (BD 3 n g (Bl n g 0 h))) (key:=CS n) rfl (FD g);have er:rsP (hsS n g 0 h) 3 1=ak [fD (FD g)]:=e1;have eL:rsL (hsS n g 0 h) 3 1=[fD (FD g)]:=by unfold rsL;rw[er];rfl
 have a1:J8 (hsS n g 0 h) 3 1=aC:=by unfold J8;rw[er];rfl
 have a2:N8 (hsS n g 0 h) 3 1=aC:=by unfold N8;rw[eL];exact e2
 have a3:rtN (hsS n g 0 h) 3 1=0:=by
  unfold rtN rtL;rw[eL];have e3:Ir (Gb (Ed (hsS n g 0 h) 3)) (CS (Ed (hsS n g 0 h) 3).k0) (Ed (hsS n g 0 h) 3).g0 [fD (FD g)]=[]:=e3;rw[e3];rfl
 have a4:RF (hsS n g 0 h) 3 1=1:=by unfold RF;rw[eL];rfl
 unfold znB;rw[acN P.none (by decide) (by decide) hg,a1,a2,a3,a4];rfl
theorem aqH(P:Pn n g m h){lv mo:Int}(hl:1<=lv/\lv<=3)(hm:YL mo=aC)(hb:(Ed (hsS n g m h) 1).okb=ay):gxB (Ed (hsS n g m h) 1).Ig (hsS n g m h) lv mo=aC:=by
 have e1:RD (hsS n g m h) lv mo=ay:=by
  unfold RD;rw[show (Ed (hsS n g m h) lv).okb=ay from hb,hm];rfl
 have e2:YM (hsS n g m h) lv mo=(Ed (hsS n g m h) 1).Ig:=by
  unfold YM;rw[show (Ed (hsS n g m h) lv).okb=ay from hb,hm];rfl
 unfold gxB;rw[ajT P hl,e1,e2];simp
theorem avz(P:Pn n g m h)(hz:(Bl n g m h).okb=ay):tvB (bif (Bl n g m h).Ig then 0 else 6) (hsS n g m h)=aC:=by
 have hp:hpB (hsS n g m h)=aC:=@decide_eq_true _ (bG _) ⟨n,g,m,h,rfl,P⟩;unfold tvB;rw[hp,show (tbS (hsS n g m h)).okb=ay from hz];cases hbig:oH n m with
 |true=>
  have e1:(Bl n g m h).Ig=ay:=by unfold Bl;simp[hbig]
  have e2:(Bl n g m h).e=6:=by unfold Bl;simp[hbig]
  rw[e1,show (tbS (hsS n g m h)).Ig=ay from e1,show (tbS (hsS n g m h)).e=6 from e2];rfl
 |false=>
  have e1:(Bl n g m h).Ig=aC:=by unfold Bl;simp[hbig]
  rw[e1,show (tbS (hsS n g m h)).Ig=aC from e1];rfl
theorem XD{s:Sh}{lv mo:Int}(c:J8 s lv mo=aC):∃r,rsP s lv mo=ak r/\rsL s lv mo=r:=by
 unfold J8 at c;obtain ⟨r,hr⟩:=fP.1 c;exact ⟨r,hr,by unfold rsL;rw[hr];rfl⟩
theorem q12(P:Pn n g m h)(hb:(Ed (hsS n g m h) 1).okb=aC)(c1:J8 (hsS n g m h) 1 250=aC)(c2:J8 (hsS n g m h) 2 250=aC):
  RF (hsS n g m h) 2 250<=RF (hsS n g m h) 1 250/\(N8 (hsS n g m h) 2 250=aC->N8 (hsS n g m h) 1 250=aC):=by
 have hT:((Bl n g m h).okb&&decide ((Bl n g m h).n<=12))=aC:=hb;rw[aI,decide_eq_true_eq] at hT;obtain ⟨r1,h1,e1⟩:=XD c1;obtain ⟨r2,h2,e2⟩:=XD c2;obtain ⟨a,b⟩:=axj (YK P hT.1 hT.2) (m:=250) (by decide) h2 h1;unfold RF N8;rw[e1,e2];exact ⟨Int.ofNat_le.2 a,b⟩
theorem q23(P:Pn n g m h)(hb:(Ed (hsS n g m h) 1).okb=aC)(c2:J8 (hsS n g m h) 2 250=aC)(c3:J8 (hsS n g m h) 3 250=aC)(y:N8 (hsS n g m h) 3 250=aC):N8 (hsS n g m h) 2 250=aC:=by
 have hT:((Bl n g m h).okb&&decide ((Bl n g m h).n<=12))=aC:=hb;rw[aI,decide_eq_true_eq] at hT;obtain ⟨r2,h2,e2⟩:=XD c2;obtain ⟨r3,h3,e3⟩:=XD c3;unfold N8 at y ⊢;rw[e3] at y;rw[e2];exact axk (YK P hT.1 hT.2) (m:=250) (by decide) h3 h2 y
end
end Go.Pl
namespace Go.Proofs
open Go Go.Sx Go.Pl Go.Gm Go.Bf
theorem asZ:AV aA (Bq W7) 15 asV:=ahi O15 fun Bv φ hφ=>by
 unfold asV at hφ;split at hφ
 ·rename_i s t u
  split at hφ
  ·rename_i lv mo e1 e2
   obtain ⟨q,hφ⟩:=hφ;unfold znB gaB at q;simp only[aI,decide_eq_true_eq] at q;obtain ⟨⟨q1,q2,q3⟩,q4,q5,q6,q7⟩:=q;refine ⟨_,hφ,?_⟩;unfold D15;simp only[e1,e2];have hk:RD s lv mo=aC:=by unfold RD;rw[q2,q3];exact q4
   refine ⟨q1,fun _=>?_,fun c=>by rw[hk] at c;cases c⟩;rw[q5,q6,q7];exact ⟨⟨.inr rfl,.inl ⟨rfl,rfl⟩,rfl,trivial⟩,rfl,trivial⟩
  ·exact hφ.elim
 ·exact hφ.elim
theorem aqI(k:Bool):AV aA (Bq W7) 15 (asU k):=O15.mono fun H Bv args φ hr h=>by
 unfold asU at h;split at h
 ·rename_i s t u
  split at h
  ·rename_i lv mo e1 e2
   obtain ⟨q,hφ⟩:=h;unfold gxB at q;simp only[aI,fH,beq_iff_eq] at q;obtain ⟨q1,q2,q3⟩:=q;unfold D15;simp only[e1,e2];refine ⟨q1,fun c=>(by rw[q2] at c;cases c),fun _=>⟨fun c=>?_,fun c=>?_⟩⟩
   ·rw[q3] at c;subst c;exact hφ
   ·rw[q3] at c;subst c;exact hφ
  ·exact h.elim
 ·exact h.elim
theorem aqJ{F G:List Sh->Tree Sh}(hF:AV aA (Bq W7) 15 F)(hG:AV aA (Bq W7) 15 G):AV aA (Bq W7) 15 (asW F G):=by
 intro H w Bv args φ hon hgl hr hφ;unfold asW at hφ;split at hφ
 ·split at hφ
  ·rename_i mo e1
   cases hd:decide (mo=1) with
   |true=>rw[hd] at hφ;exact hG H w _ args φ hon hgl hr hφ |false=>rw[hd] at hφ;exact hF H w _ args φ hon hgl hr hφ
  ·exact hφ.elim
 ·exact hφ.elim
theorem O22{n:Nat}{g:Nat->List Sh}{m:Nat}{h:Nat->List Sh}(P:Pn n g m h){φ:Sh->Prop}(h1:(Bl n g m h).okb=aC->φ (.v .nilIface))(h2:(Bl n g m h).okb=ay->(Bl n g m h).Ig=aC->φ (.C9 109 (.pt [.i .i64 (Bl n g m h).pos,.er (Bl n g m h).e 329])))
  (h3:(Bl n g m h).okb=ay->(Bl n g m h).Ig=ay->φ (.er (Bl n g m h).e 329)):(Go.Aw.F34 [hsS n g m h]).All φ:=by
 refine ⟨P.o,P.p,P.r,fun hb=>?_,fun hb=>?_⟩
 ·have q:=h3 (by unfold Bl;simp[hb]) (by unfold Bl;simp[hb])
  rw[show (Bl n g m h).e=6 by unfold Bl;simp[hb]] at q;exact q
 ·have a:(Bl n g m h).Ig=aC:=by unfold Bl;simp[hb]
  refine ⟨fun hg=>⟨fun ht=>h1 (by unfold Bl;simp[hb,hg,ht]),fun ht=>?_⟩,fun hg=>?_⟩
  ·have q:=h2 (by unfold Bl;simp[hb,hg,ht]) a
   rw[show (Bl n g m h).e=Go.BR.Pm m (dK h) by unfold Bl;simp[hb,hg],show (Bl n g m h).pos=Go.BR.Pj m (dK h) by unfold Bl;simp[hg]] at q;exact q
  ·have q:=h2 (by unfold Bl;simp[hb,hg]) a
   rw[show (Bl n g m h).e=Go.BR.I4 n m g h by unfold Bl;simp[hb,hg],show (Bl n g m h).pos=Go.BR.GV n m g h by unfold Bl;simp[hg]] at q;exact q
theorem as1:AV aA (Bq W7) 22 asX:=sN.mono fun H Bv args φ hr hφ=>by
 unfold asX at hφ;split at hφ
 ·obtain ⟨q,hφ⟩:=hφ
  unfold tkB at q;rw[aI] at q;obtain ⟨n,g,m,h,rfl,P⟩:=@of_decide_eq_true _ (bG _) q.1;have e:(Bl n g m h).okb=aC:=q.2;exact O22 P (fun _=>hφ) (fun c=>by rw[e] at c;cases c) (fun c=>by rw[e] at c;cases c)
 ·exact hφ.elim
theorem axp(k:Bool):AV aA (Bq W7) 22 (asY k):=sN.mono fun H Bv args φ hr hφ=>by
 unfold asY at hφ;split at hφ
 ·obtain ⟨q,hφ⟩:=hφ
  unfold tvB at q;rw[aI,aI,fH] at q;obtain ⟨n,g,m,h,rfl,P⟩:=@of_decide_eq_true _ (bG _) q.1;have e:(Bl n g m h).okb=ay:=q.2.1;refine O22 P (fun c=>by rw[e] at c;cases c) (fun _ c=>?_) (fun _ c=>?_)
  ·cases k with
   |true=>exact hφ |false=>
    have q:(!(Bl n g m h).Ig&&(Bl n g m h).e==6)=aC:=q.2.2;rw[aI,fH] at q;rw[q.1] at c;cases c
  ·cases k with
   |true=>
    have q:(Bl n g m h).Ig=aC:=q.2.2;rw[q] at c;cases c
   |false=>
    have q:(!(Bl n g m h).Ig&&(Bl n g m h).e==6)=aC:=q.2.2;rw[aI,fH,beq_iff_eq] at q;rw[q.2];exact hφ
 ·exact hφ.elim
theorem axq(O11:AV aA (Bq W7) 11 W11){F C:List Sh->Tree Sh}(hF:AV aA (Bq W7) 15 F)(hC:AV aA (Bq W7) 22 C)(stop:Nat->List Nat->Bool):BP aA (C7 Ai W7 (YP F C) stop):=nT (fun g F h=>by
 unfold YP at h;split at h
 ·cases h;exact O11
 ·cases h;exact hF
 ·cases h;exact O21
 ·cases h;exact hC
 ·cases h) fun g h=>by
 unfold YP at h;split at h;all_goals first|(cases h;done) |kernel_rfl
noncomputable def F7:List Sh->Tree Sh
 |[s]=>.need (hpB s) (.leaf (.v (.bool aC))) |_=>.fail
theorem O7(O11:AV aA (Bq W7) 11 W11):AV aA (Bq W7) 7 F7:=by
 intro H w Bv args φ hon hgl hr hφ;unfold F7 at hφ;split at hφ
 ·rename_i s
  obtain ⟨q1,hφ⟩:=hφ;obtain ⟨n,g,m,h,rfl,P⟩:=@of_decide_eq_true _ (bG _) q1;have hφ:φ (.v (.bool aC)):=hφ;have hn:nO.ntmps=103:=by kernel_rfl
  have T:up φ (.b aC):=BX (s':=.v (.bool aC)) (.inr rfl) hφ;have ez:YO 0 m=0:=by unfold YO;omega
  have pf (ho:Ai.le (Ai.AZ n) (ah 100)=aC):pfB n 0 m=aC:=by
   have ho:(n:Int)<=100:=by simpa[DJ,AY] using ho
   unfold pfB;rw[ez,aI];exact ⟨room_le (by omega) (by omega),room_le (by omega) (by omega)⟩
  have go {F C:List Sh->Tree Sh} (hF:AV aA (Bq W7) 15 F) (hC:AV aA (Bq W7) 22 C) (hm:Df (Jo aA (C7 Ai W7 (YP F C) AU) (K0 H w) [] emp (up φ)) (Bj (C7 Ai W7 (YP F C) AU) BL 300 400 7 [.code []] (Ap 103 [.agg [.sl 2 n g,.sl 8 m h]] L0) [] [])) :
    Calls aA 7 args.toArray w fun e w'=>∃v s H',e=.returned v/\φ s/\Ew H w s v H' w':=by
   refine YN (C:=C7 Ai W7 (YP F C) AU) (dD _ _) (fn:=nO) (Ey:=[hsS n g m h]) (L:=L0) (by kernel_rfl) (by kernel_rfl) hon hgl hr ?_;refine Fh (dD _ _) (axq O11 hF hC _) (hold:=BL) (m:=300) (n:=400) (ts:=[]) ?_;rw[hn];exact hm
  have hz0:hpB (hsS n g 0 h)=aC:=@decide_eq_true _ (bG _) ⟨n,g,0,h,rfl,P.none⟩;cases hb:(Ed (hsS n g m h) 1).okb with
  |true=>
   have hT:((Bl n g m h).okb&&decide ((Bl n g m h).n<=12))=aC:=hb;rw[aI] at hT;have zn:znB (hsS n g (YO 0 m) h) 3 1=aC:=by rw[ez];exact aqG P (ah2 hT.1)
   have tk:tkB (hsS n g (YO 0 m) h)=aC:=by
    rw[ez];unfold tkB;rw[hz0];exact ah2 hT.1
   have ga (lv:Int) (hl:1<=lv/\lv<=3):gaB (hsS n g m h) lv 250=aC:=acN P hl (by decide) hb;refine go (aqJ ala asZ) as1 ?_;have end_:=fun ho=>an (pf ho) (an zn (an tk (nd (Ai.eq 1 1) (fun _=>T) (fun c=>(no2 c rfl:up φ (.b ay))))));have x3:=fun ho (r2:J8 (hsS n g m h) 2 250=aC) (r3:J8 (hsS n g m h) 3 250=aC)=>nd (N8 (hsS n g m h) 3 250) (fun y3=>nd (Ai.nt (N8 (hsS n g m h) 2 250)) (fun c=>(no2 (b:=Ai.nt aC) rfl (by rw[q23 P hb r2 r3 y3] at c;exact c):up φ (.b ay))) (fun _=>end_ ho)) (fun _=>end_ ho);have xl:=fun {K:Prop} (r1:J8 (hsS n g m h) 1 250=aC) (r2:J8 (hsS n g m h) 2 250=aC) (k:K)=>nd (Ai.lt (RF (hsS n g m h) 1 250) (RF (hsS n g m h) 2 250)) (fun c=>(by
    have:=(q12 P hb r1 r2).1;rw[Aq,decide_eq_true_eq] at c;omega:up φ (.b ay))) (fun _=>k)
   have x12:=fun {K:Prop} (r1:J8 (hsS n g m h) 1 250=aC) (r2:J8 (hsS n g m h) 2 250=aC) (k:K)=>nd (N8 (hsS n g m h) 2 250) (fun y2=>nd (Ai.nt (N8 (hsS n g m h) 1 250)) (fun c=>(no2 (b:=Ai.nt aC) rfl (by rw[(q12 P hb r1 r2).2 y2] at c;exact c):up φ (.b ay))) (fun _=>xl r1 r2 k)) (fun _=>xl r1 r2 k);have g1:=ga 1 (by decide);have g2:=ga 2 (by decide);have g3:=ga 3 (by decide);exact FU (nd (Ai.le (Ai.AZ n) (ah 100)) (fun ho=>nd (Ai.nt (Ai.le (Ai.AZ m) (ah 600))) (fun _=>T) (fun _=>an g1 (nd (J8 (hsS n g m h) 1 250)
    (fun r1=>an g2 (nd (J8 (hsS n g m h) 2 250) (fun r2=>an g3 (nd (J8 (hsS n g m h) 3 250) (fun r3=>x12 r1 r2 (x3 ho r2 r3)) (fun _=>x12 r1 r2 (end_ ho)))) (fun _=>an g3 (nd (J8 (hsS n g m h) 3 250) (fun _=>end_ ho) (fun _=>end_ ho)))))
    (fun _=>an g2 (nd (J8 (hsS n g m h) 2 250) (fun r2=>an g3 (nd (J8 (hsS n g m h) 3 250) (fun r3=>x3 ho r2 r3) (fun _=>end_ ho))) (fun _=>an g3 (nd (J8 (hsS n g m h) 3 250) (fun _=>end_ ho) (fun _=>end_ ho)))))))) (fun _=>T)) (by kernel_rfl)
  |false=>
   have gx (lv:Int) (hl:1<=lv/\lv<=3):=aqH P (lv:=lv) (mo:=250) hl (by decide) hb;have g1:=gx 1 (by decide);have g2:=gx 2 (by decide);have g3:=gx 3 (by decide);cases hz:(Bl n g 0 h).okb with
   |true=>
    have zn:znB (hsS n g (YO 0 m) h) 3 1=aC:=by rw[ez];exact aqG P hz
    have tk:tkB (hsS n g (YO 0 m) h)=aC:=by
     rw[ez];unfold tkB;rw[hz0];exact hz
    generalize (Ed (hsS n g m h) 1).Ig=k at g1 g2 g3;refine go (aqJ (aqI k) asZ) as1 ?_;have tm:=nd (Ai.le (Ai.AZ n) (ah 100)) (fun ho=>nd (Ai.nt (Ai.le (Ai.AZ m) (ah 600))) (fun _=>T) (fun _=>an g1 (an g2 (an g3 (an (pf ho) (an zn (an tk (nd (Ai.eq 1 1) (fun _=>T) (fun c=>(no2 c rfl:up φ (.b ay))))))))))) (fun _=>T);cases k with
    |true=>exact FU tm (by kernel_rfl) |false=>exact FU tm (by kernel_rfl)
   |false=>
    have gz:gxB (Bl n g 0 h).Ig (hsS n g (YO 0 m) h) 3 1=aC:=by
     rw[ez];have e:(Ed (hsS n g 0 h) 1).okb=ay:=by
      show ((Bl n g 0 h).okb&&_)=ay;rw[hz];rfl
     have e2:(Ed (hsS n g 0 h) 1).Ig=(Bl n g 0 h).Ig:=by
      show (!(Bl n g 0 h).okb&&(Bl n g 0 h).Ig)=_;rw[hz];rfl
     rw[<-e2];exact aqH P.none (by decide) (by decide) e
    have tv:tvB (bif (Bl n g 0 h).Ig then 0 else 6) (hsS n g (YO 0 m) h)=aC:=by rw[ez];exact avz P.none hz
    generalize (Bl n g 0 h).Ig=j at gz tv;generalize (Ed (hsS n g m h) 1).Ig=k at g1 g2 g3;refine go (aqJ (aqI k) (aqI j)) (axp j) ?_;have tm:=nd (Ai.le (Ai.AZ n) (ah 100)) (fun ho=>nd (Ai.nt (Ai.le (Ai.AZ m) (ah 600))) (fun _=>T) (fun _=>an g1 (an g2 (an g3 (an (pf ho) (an gz (an tv T))))))) (fun _=>T);cases k with
    |true=>cases j with
     |true=>exact FU tm (by kernel_rfl) |false=>exact FU tm (by kernel_rfl)
    |false=>cases j with
     |true=>exact FU tm (by kernel_rfl) |false=>exact FU tm (by kernel_rfl)
 ·exact hφ.elim
end Go.Proofs
namespace Go.Gm
open Go.Bf
theorem aeo{α β:Type}{p:β->Bool}{q:α->Bool}{F:α->β}:∀{l:List α},(∀x∈l,p (F x)=q x)->(l.map F).find? p=(l.find? q).map F
 |[],_=>rfl |a::l,h=>by
  rw[jr,wJ,wJ,h a bZ];cases q a with
  |true=>rfl |false=>exact aeo fun x hx=>h x (dA _ hx)
section
variable{S S' κ κ':Type}[DecidableEq κ][DecidableEq κ']{g:Game S}{g':Game S'}{key:Nd S->κ}{key':Nd S'->κ'}{f:S'->S}{Q:Nd S'->Prop}
def DR(f:S'->S)(nd:Nd S'):Nd S:=⟨nd.placed,f nd.st⟩
structure OB(g:Game S)(g':Game S')(f:S'->S)(Q:Nd S'->Prop):Prop where
 n:g.n=g'.n
 id:∀i,i<g'.n->g.id i=g'.id i
 com:∀i,i<g'.n->g.com i=g'.com i
 Uw:∀i,i<g'.n->g.Uw i=g'.Uw i
 mask:∀i,i<g'.n->g.mask i=g'.mask i
 all:g.all=g'.all
 run:∀nd,Q nd->∀i,i<g'.n->may g' nd.placed i=aC->g.run (f nd.st) i=(g'.run nd.st i).map f
 step:∀nd,Q nd->∀t∈next g' nd,Q t
theorem aqK(h:OB g g' f Q)(p i:Nat)(hi:i<g'.n):may g p i=may g' p i:=by
 unfold may;rw[h.n,h.mask i hi]
theorem ajW(h:OB g g' f Q){nd:Nd S'}(hq:Q nd){i:Nat}(hi:i<g'.n):Fg g (DR f nd) i=(Fg g' nd i).map fun t=>(t.1,DR f t.2):=by
 unfold Fg;have e:may g (DR f nd).placed i=may g' nd.placed i:=aqK h _ _ hi;rw[e];cases hm:may g' nd.placed i with
 |false=>rfl |true=>
  have hr:=h.run nd hq i hi hm;have hr:g.run (DR f nd).st i=(g'.run nd.st i).map f:=hr;rw[if_pos rfl,if_pos rfl,hr,h.com i hi,h.Uw i hi,h.all,h.id i hi,iR];have hs:((g'.run nd.st i).map f).isSome=(g'.run nd.st i).isSome:=by cases g'.run nd.st i<;>rfl
  rw[hs];congr 1
  ·cases g'.com i<;>cases g'.run nd.st i<;>rfl
  ·split<;>rfl
theorem VQ(h:OB g g' f Q){nd:Nd S'}(hq:Q nd):turns g (DR f nd)=(turns g' nd).map fun t=>(t.1,DR f t.2):=by
 unfold turns;rw[h.n,List.map_flatMap,mF,mF];congr 1;exact jV fun i hi=>ajW h hq (dh.1 hi)
theorem aep(h:OB g g' f Q){nd:Nd S'}(hq:Q nd):next g (DR f nd)=(next g' nd).map (DR f):=by
 unfold next;rw[VQ h hq,qm,qm];rfl
theorem aer(h:OB g g' f Q)(nd:Nd S'):full g (DR f nd)=full g' nd:=by unfold full;rw[h.n];rfl
variable(hk:∀x y,Q x->Q y->(key (DR f x)=key (DR f y)↔key' x=key' y))
include hk
theorem aqL{o:List (Nd S')}(ho:∀x∈o,Q x){n:Nd S'}(hn:Q n):J3 key (o.map (DR f)) (key (DR f n))=J3 key' o (key' n):=by
 rw[wK,J4,J4];constructor
 ·intro ⟨x,hx,e⟩
  obtain ⟨y,hy,rfl⟩:=dJ.1 hx;exact ⟨y,hy,(hk y n (ho y hy) hn).1 e⟩
 ·intro ⟨y,hy,e⟩
  exact ⟨DR f y,dJ.2 ⟨y,hy,rfl⟩,(hk y n (ho y hy) hn).2 e⟩
theorem aqM{m:Nat}{o:List (Nd S')}(ho:∀x∈o,Q x){n:Nd S'}(hn:Q n):Ic key m (o.map (DR f)) (DR f n)=(Ic key' m o n).map (oU (DR f)):=by
 unfold Ic;rw[aqL hk ho hn,dP];split
 ·rfl
 ·split
  ·rfl
  ·simp
theorem aes{m:Nat}:∀{l o:List (Nd S')},(∀x∈o,Q x)->(∀x∈l,Q x)->FM key m (o.map (DR f)) (l.map (DR f))=(FM key' m o l).map (oU (DR f))
 |[],o,_,_=>rfl |n::l,o,ho,hl=>by
  rw[jr,FM,FM,aqM hk ho (hl n bZ)];cases hp:Ic key' m o n with
  |none=>rfl |some o1=>exact aes (ad2 hp ho (hl n bZ)) fun x hx=>hl x (dA _ hx)
theorem ah3(h:OB g g' f Q){m:Nat}:∀{fu i:Nat} {o:List (Nd S')},(∀x∈o,Q x)->LW key (next g) m fu (o.map (DR f)) i=(LW key' (next g') m fu o i).map (oU (DR f))
 |0,_,_,_=>rfl |fu+1,i,o,ho=>by
  rw[LW,LW,gB];cases hi:o[i]? with
  |none=>rfl |some n=>
   have hn:=ho n (List.mem_of_getElem? hi);simp only[Option.map_some];rw[aep h hn,aes hk ho (h.step n hn)];cases hp:FM key' m o (next g' n) with
   |none=>rfl |some o1=>exact ah3 h (Uh hp ho (h.step n hn))
theorem Q7(h:OB g g' f Q):∀{r:List (Nd S')},(∀x∈r,Q x)->∀n,Q n->Iq key (next g) (full g) (r.map (DR f)) (key (DR f n))=Iq key' (next g') (full g') r (key' n)
 |[],_,_,_=>rfl |a::r,hr,n,hn=>by
  have ha:=hr a bZ;have hr':=fun x hx=>hr x (dA a hx);rw[jr,Iq,Iq];by_cases e:key' a=key' n
  ·rw[if_pos e,if_pos ((hk a n ha hn).2 e),aer h,aep h ha,List.any_map]
   congr 1;rw[wK,pX,pX];constructor
   ·intro ⟨t,ht,q⟩
    exact ⟨t,ht,by rw[<-Q7 h hr' t (h.step a ha t ht)];exact q⟩
   ·intro ⟨t,ht,q⟩
    exact ⟨t,ht,(Q7 h hr' t (h.step a ha t ht)).trans q⟩
  ·rw[if_neg e,if_neg (fun q=>e ((hk a n ha hn).1 q))]
   exact Q7 h hr' n hn
theorem ajX(h:OB g g' f Q){s:S'}(hs:Q (start s))(m:Nat):Dv g key (f s) m=(Dv g' key' s m).map (oU (DR f)):=by
 unfold Dv;have:=ah3 hk h (m:=m) (fu:=m+1) (i:=0) (o:=[start s]) (fun x hx=>by
  obtain rfl:x=start s:=by simpa using hx
  exact hs)
 exact this
theorem alh(h:OB g g' f Q){r:List (Nd S')}(hr:∀x∈r,Q x){n:Nd S'}(hn:Q n):Vy g key (r.map (DR f)) (DR f n)=Vy g' key' r n:=Q7 hk h hr n hn
theorem ah4(h:OB g g' f Q){r:List (Nd S')}(hr:∀x∈r,Q x){s:S'}(hs:Q (start s)):Kt g key (f s) (r.map (DR f))=Kt g' key' s r:=alh hk h hr hs
theorem acO(h:OB g g' f Q){r:List (Nd S')}(hr:∀x∈r,Q x):∀fu (n:Nd S'),Q n->least g (Vy g key (r.map (DR f))) fu (DR f n)=least g' (Vy g' key' r) fu n
 |0,_,_=>rfl |fu+1,n,hn=>by
  rw[least,least,aer h,VQ h hn];rw[aeo (p:=fun t=>Vy g key (r.map (DR f)) t.2) (q:=fun t=>Vy g' key' r t.2) (F:=fun t=>(t.1,DR f t.2)) fun t ht=>alh hk h hr (h.step n hn _ (dJ.2 ⟨t,ht,rfl⟩))];cases hf:(turns g' n).find? fun t=>Vy g' key' r t.2 with
  |none=>rfl |some t=>
   have ht:=h.step n hn t.2 (dJ.2 ⟨t,qI hf,rfl⟩);show (if full g' n=aC then [] else t.1::least g (Vy g key (r.map (DR f))) fu (DR f t.2))=_;rw[acO h hr fu t.2 ht]
theorem ajY(h:OB g g' f Q){r:List (Nd S')}(hr:∀x∈r,Q x){s:S'}(hs:Q (start s)):Ir g key (f s) (r.map (DR f))=Ir g' key' s r:=by
 unfold Ir;rw[ah4 hk h hr hs,h.n];split
 ·exact acO hk h hr _ _ hs
 ·rfl
omit hk in
end
end Go.Gm
