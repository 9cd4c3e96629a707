/- Own work. -/
import Derived.Test.YthehnhaoiijkhaaGreatDoorM14
import Derived.KernelRfl
open Int (ofNat)
open Bool renaming true->aC,and_eq_true->aH,not_eq_true'->dW,false->ak,eq_iff_iff->wo
open Classical renaming propDecidable->bD
open Go.BinOp renaming rem->iE
open Go.Gm renaming start->je
open Go.IntKind renaming i64->aT
open Go.BF renaming Ev->jl,zY->dO,Oj->iO,Iq->xu,Qr->wL,abJ->xw,idx->yI,SA->wM,lst->sH
open Go.BF.Row renaming put->rU
open Go.Proofs.C7 renaming ok->cZ,UK->lQ
open Go.Proofs.Tryz renaming prog->aB,f39->uw,f19->rV,f16->kN,f6->kR
open Go.Sx.Bh renaming sh->aP,int->aj,nat->aJ,Le->bC,bool->oZ,all->dF
open Go.Sx.D7 renaming ret->aO,at_->bJ
open Go.Sx.It renaming code->bF,inBlock->dA
open Go.Sx.Sh renaming agg->bM,sl->aG,Aj->cO,b->eP,i->aW,er->aZ
open Go.Value renaming nilIface->bI
open Int renaming ofNat->ah,tmod_lt_of_pos->uG
open Int.ofNat renaming inj->kT
open List renaming mem_range->dN,mem_map->dJ,getElem?_eq_some_iff->aU,map_congr_left->jM,length_map->dY,getElem?_eq_getElem->aV,map_append->iL,mem_of_find?_eq_some->qg,getElem?_map->gQ,range->aX,getElem?_range->sG,map_cons->jk,find?_cons->vZ,mem_cons_self->cu,mem_cons_of_mem->dw,flatMap_def->lU,map_map->pJ,map->mG,any_eq_true->o9,getD_eq_getElem?_getD->aY,mem_flatMap->kK,mem_append->bK,mem_singleton->tC
open Nat renaming beq->fB
open Option renaming some->ay,none->aK
open Option.some renaming inj->dD
open Prod.mk renaming inj->wO
namespace Go.Pl
open Go Go.Sx Go.Proofs
open Go.BF (Au Fj dfn GL takeB Kq Va Vb takeN SA Iq F5 JG Np Qs ae7 abV BO U7)
open Go.Ad (U8)
theorem ahx{p:Nat->jl}:∀r k (σ σ':Au),takeN p σ k r=.inl σ'->σ.OK->σ.many=k->(∀j,k<=j->j<k+r->BO (p j)=aC)->σ'.OK/\σ'.many=k+r
 |0,k,σ,σ',h,ho,hm,hv=>by
  have h:(Sum.inl σ:Au ⊕ (Nat×Nat))=.inl σ':=h;cases h;exact ⟨ho,by omega⟩
 |r+1,k,σ,σ',h,ho,hm,hv=>by
  unfold takeN at h;cases hf:(σ.feed (p k)).1 with
  |some e=>rw[hf] at h;cases h |none=>
   rw[hf] at h;have:=ahx r (k+1) _ σ' h (ho.feed (hv k (by omega) (by omega))) (by rw[U7 hf];omega) (fun j h1 h2=>hv j (by omega) (by omega));exact ⟨this.1,by rw[this.2];omega⟩
theorem ap1(l:List Go.BF.De):∀k,okB Dd k (Go.BF.zW (Go.BF.nth l))=aC
 |0=>rfl |k+1=>by
  show (okB Dd k _&&_)=aC;rw[ap1 l k];rfl
theorem auJ{g:Nat->List Sh}{j:Nat}(h:g j=rU (dO (α:=iO) g j)):g j=Row.put (zY (α:=Oj) g j)/\(zY (α:=Oj) g j).kind=(dO (α:=iO) g j).kind/\(zY (α:=Oj) g j).init=(dO (α:=iO) g j).init:=by
 have e:zY (α:=Oj) g j=⟨(dO (α:=iO) g j).kind,(dO (α:=iO) g j).init⟩:=by
  have:zY (α:=Oj) g j=(Row.get (α:=Oj) (rU (dO (α:=iO) g j))).getD Row.Jk:=by
   unfold zY;rw[<-h]
  rw[this];rfl
 rw[e];exact ⟨h,rfl,rfl⟩
theorem ap2{n m:Nat}{g h:Nat->List Sh}(P:Yk n g m h)(hok:(Bv n g m h).okb=aC):ae7 n m (dO g) (dO h)/\takeB m (dO h)=aC:=by
 have hok:(!Iq n m&&(F5 n m g h&&takeB m (dO h)))=aC:=hok;rw[aH,aH,dW] at hok;exact ⟨abV hok.1 hok.2.1 fun k hk=>List.all_eq_true.1 P.r k (dN.2 hk),hok.2.2⟩
theorem akJ{n m:Nat}{g h:Nat->List Sh}(P:Yk n g m h)(hok:(Bv n g m h).okb=aC):n<=8/\∀j,j<n->g j=Row.put (zY (α:=Oj) g j)/\EM (zY (α:=Oj) g j).kind (zY (α:=Oj) g j).init=ak:=by
 have hok:(!Iq n m&&(F5 n m g h&&takeB m (dO h)))=aC:=hok;rw[aH,aH,dW] at hok;have hb:¬(8<n\/400<m):=by
  have:=hok.1;unfold xu at this;simpa using this
 refine ⟨by omega,fun j hj=>?_⟩;obtain ⟨e1,e2,e3⟩:=auJ (Go.BF.IU P.o j hj);refine ⟨e1,?_⟩;have ap3:CQ (zY (α:=Oj) g j).kind=aC:=Ie P.k j hj;rw[e2] at ap3;rw[e2,e3];have hg:=hok.2.1;unfold Go.BF.F5 Go.BF.WR at hg;cases hs:Go.BF.I7 (fun k=>wL (dO (α:=iO) g k)) 0 n with
 |some x=>rw[hs] at hg;cases hg |none=>
  have hn:=Go.BF.Vd hs j (Nat.zero_le _) (by omega);unfold wL at hn;cases ho:xw (dO (α:=iO) g j).kind (dO (α:=iO) g j).init with
  |false=>rw[ho] at hn;cases hn |true=>
   unfold xw Go.BF.Yh at ho;unfold EM;generalize (dO (α:=iO) g j).kind=a at ho ap3 ⊢;have hr:=of_decide_eq_true ap3;have hidx:yI a=(if (0:Int)>a then 0 else a) - 1:=by
    unfold yI;exact BL (by split<;>omega) (by split<;>omega)
   rw[hidx] at ho;generalize (dO (α:=iO) g j).init=b at ho ⊢;simp only[aH,dW,decide_eq_true_eq,decide_eq_false_iff_not,Bool.or_eq_true,beq_iff_eq] at ho;simp only[Bool.or_eq_false_iff,Bool.not_eq_false',aH,decide_eq_true_eq,decide_eq_false_iff_not,Bool.and_eq_false_imp,dW];split at ho<;>omega
theorem ae8{n m:Nat}{g h:Nat->List Sh}(P:Yk n g m h)(hok:(Bv n g m h).okb=aC)(hf:(Bv n g m h).n<=12):TbP n g (Bv n g m h):=by
 obtain ⟨o1,o2⟩:=akJ P hok;refine ⟨hf,fun i hi=>?_,o1,fun j hj=>(o2 j hj).2⟩;obtain ⟨G,ht⟩:=ap2 P hok;have hi:i<(Kq m (dO (α:=jl) h)).rs.length:=hi;show okB Dd (Fj (GL (Kq m (dO (α:=jl) h)) i)) (dfn (GL (Kq m (dO (α:=jl) h)) i))=aC/\Fj (GL (Kq m (dO (α:=jl) h)) i)<=400;refine ⟨ap1 _ _,?_⟩;unfold Go.BF.takeB wM at ht;unfold Go.BF.Kq wM at hi ⊢;cases hs:takeN (dO (α:=jl) h) Au.nil 0 m with
 |inr q=>rw[hs] at ht;cases ht |inl σ=>
  rw[hs] at hi;obtain ⟨q1,q2⟩:=ahx m 0 Au.nil σ hs Au.OK.nil rfl (fun j _ hj=>G.valid j (by omega));have:=q1.dl i _ (Go.BF.U9 hi);have:=G.small.2;show (GL σ i).Ac.length<=400;omega
theorem ajp{n m:Nat}{g h:Nat->List Sh}(P:Yk n g m h)(hok:(Bv n g m h).okb=aC):nwB n g=aC:=by
 obtain ⟨o1,o2⟩:=akJ P hok;unfold nwB RI;rw[ZL (o:=zY g) fun j hj=>(o2 j hj).1,P.k,agE fun j hj=>(o2 j hj).2,decide_eq_false (by omega:¬8<n)];rfl
open Go Go.Sx Go.Proofs Go.Gm Go.Bf
noncomputable def Dk(s:Sh)(lv:Int):Ho:=match s with
 | .agg [.sl 2 n g,.sl 8 m h]=>Bl lv n g (Bv n g m h) |_=>⟨ak,ak,0,0,0,0,fun _=>default,fun _=>0,0,fun _=>[]⟩
noncomputable def hsB(s:Sh)(lv:Int):Bool:=@decide (∃n g m h,s=hsS n g m h/\Yk n g m h/\1<=lv/\lv<=3) (bD _)
def QM(mo:Int):Bool:=decide (1<=mo)&&decide (mo<=65536)
noncomputable def rsP(s:Sh)(lv mo:Int):Option (List (Nd SG)):=EH (Gb (Dk s lv)) (CP (Dk s lv).k0) (Dk s lv).g0 mo.toNat
noncomputable def rsL(s:Sh)(lv mo:Int):List (Nd SG):=(rsP s lv mo).getD []
noncomputable def SC(s:Sh)(lv mo:Int):Bool:=QM mo&&((Dk s lv).okb&&(rsP s lv mo).isSome)
noncomputable def ryB(s:Sh)(lv mo:Int):Bool:=RY (Gb (Dk s lv)) (CP (Dk s lv).k0) (Dk s lv).g0 (rsL s lv mo)
noncomputable def rtL(s:Sh)(lv mo:Int):List Dx:=(JD (Gb (Dk s lv)) (CP (Dk s lv).k0) (Dk s lv).g0 (rsL s lv mo)).map D6
noncomputable def rtN(s:Sh)(lv mo:Int):Nat:=(rtL s lv mo).length
noncomputable def rtR(s:Sh)(lv mo:Int):Nat->Dx:=nth (rtL s lv mo)
noncomputable def rcI(s:Sh)(lv mo:Int):Int:=((rsL s lv mo).length:Nat)
noncomputable def WY(s:Sh)(lv mo:Int):Bool:=QM mo&&(!(Dk s lv).okb&&(Dk s lv).Ih)
noncomputable def rpI(s:Sh)(lv mo:Int):Int:=(Dk s lv).pos
noncomputable def Pn(s:Sh)(lv mo:Int):Nat:=if QM mo=aC then (if (Dk s lv).okb=aC then 0 else (Dk s lv).e) else 4
end Go.Pl
namespace Go.Proofs
open Go Go.Sx Go.Pl Go.Gm Go.Bf
noncomputable def D15:List Sh->Tree Sh
 |[s,t,u]=>match AZ t,AZ u with
  |some lv,ay mo=>.need (hsB s lv) (.node (SC s lv mo) (.leaf (.Aj [.agg [.b (ryB s lv mo),.sl 2 (rtN s lv mo) (zW (rtR s lv mo)),.i .i64 (rcI s lv mo)],.v .nilIface]))
   (.node (WY s lv mo) (.leaf (.Aj [.agg [.b ak,.sl 2 0 (fun _=>[]),.i .i64 0],.CG 109 (.pt [.i .i64 (rpI s lv mo),.er (Pn s lv mo) 329])]))
    (.leaf (.Aj [.agg [.b ak,.sl 2 0 (fun _=>[]),.i .i64 0],.er (Pn s lv mo) 329]))))
  |_,_=>.fail
 |_=>.fail
noncomputable def D39:List Sh->Tree Sh
 |[.v (.chan aK),s,t,u]=>D15 [s,t,u] |_=>.fail
theorem Kr{P:Program}{C:Ctx}(hC:A8 P C){g:Nat}{fn:Func}(hfn:C.fns.get g=ay fn)(hb:fn.body.isSome=aC){H:Mem}{w:World}{DR:List Sh}{args:List Value}{φ:Sh->Prop}{L:Nat}(hon:H.on w)(hg:CS C.gls H)(hr:Dq H DR args)
  (hgo:Bc P C (K0 H w) g [.code []] (zZ fn.ntmps DR L) [] emp (up φ)):Calls P g args.toArray w fun e w'=>∃v s H',e=.returned v/\φ s/\Eh H w s v H' w':=by
 refine (agC hC hfn hb hon hg hr hgo).mono fun e w' ⟨v,s,H',he,⟨s',hw,hs⟩,r⟩=>?_;obtain ⟨H2,r2⟩:=r.wk hw;exact ⟨v,s',H2,he,hs,r2⟩
theorem ap4{c:Int}{e e':Sh}(he:Wk e e'):Wk (.Aj [.agg [.b ak,.sl 0 0 fun _=>[],.i .i64 c],e]) (.Aj [.agg [.b ak,.sl 2 0 (fun _=>[]),.i .i64 c],e']):=
 ⟨⟨.inl rfl,.inl ⟨rfl,rfl⟩,rfl,trivial⟩,he,trivial⟩
theorem O39:Aq aB (AY W7) 39 D39:=by
 intro H w AX args φ hon hg hr hφ;unfold D39 at hφ;split at hφ
 ·rename_i s t u
  unfold D15 at hφ;dsimp only at hφ;split at hφ
  ·rename_i lv mo e1 e2
   obtain ⟨q1,q2,q3⟩:=hφ;obtain ⟨n,g,m,h,rfl,P,l1,l3⟩:=@of_decide_eq_true _ (bD _) q1;have O:=EZ (Yd P) l1 l3 (ajp P);have hBe:Dk (hsS n g m h) lv=Bl lv n g (Bv n g m h):=rfl;obtain ⟨B,hB⟩:∃B,Bl lv n g (Bv n g m h)=B:=⟨_,rfl⟩;have ap5:Aq aB (AY W7) 40 (WJ (hsS n g m h) lv B):=by rw[<-hB];exact O
   match args,hr with
   |[a0,a1,a2,a3],⟨r0,r1,r2,r3,_⟩=>
   refine Kr (C:=C7 zV W7 (CX (hsS n g m h) lv B) Am) (cZ _ _) (fn:=uw) (DR:=[.v (.chan aK),hsS n g m h,.i .i64 lv,.i .i64 mo]) (L:=L0) (by kernel_rfl) (by kernel_rfl) hon hg ⟨r0,r1,Ei e1 r2,Ei e2 r3,trivial⟩ ?_;have hn:uw.ntmps=111:=by kernel_rfl
   have hbg:Dk (hsS n g m h) lv=B:=hBe.trans hB;have c0 {P:Prop} (q:zV.lt lv (ah 1)=aC):P:=by simp[Aa] at q;omega
   have c1 {P:Prop} (q:zV.lt (ah 3) lv=aC):P:=by simp[Aa] at q;omega
   have bad {k:Nat} (hk:SC (hsS n g m h) lv mo=ak) (ha:WY (hsS n g m h) lv mo=ak) (he:Pn (hsS n g m h) lv mo=k):up φ (.Aj [.agg [.b ak,.sl 0 0 fun _=>[],.i .i64 (ah 0)],.er k 329]):=by
    have q:=(q3 hk).2 ha;rw[he] at q;exact BH (ap4 rfl) q
   have badM (hm:QM mo=ak):up φ (.Aj [.agg [.b ak,.sl 0 0 fun _=>[],.i .i64 (ah 0)],.er 4 329]):=
    bad (by unfold SC;rw[hm];rfl) (by unfold WY;rw[hm];rfl) (by unfold Pn;rw[hm];rfl)
   have moT (h1:zV.lt mo (ah 1)=ak) (h2:zV.lt (ah 65536) mo=ak):1<=mo/\mo<=65536:=by
    simp[Aa] at h1 h2;omega
   have ahB (q:1<=mo/\mo<=65536):QM mo=aC:=by unfold QM;rw[decide_eq_true q.1,decide_eq_true q.2];rfl
   have WG (h4:B.okb=aC):La B (QnP lv n g (Bv n g m h))/\∀x y,QnP lv n g (Bv n g m h) x->QnP lv n g (Bv n g m h) y->CP B.k0 x=CP B.k0 y->x=y:=by
    rw[<-hB] at h4 ⊢;have h4:((Bv n g m h).okb&&decide ((Bv n g m h).n<=12))=aC:=h4;rw[aH,decide_eq_true_eq] at h4;have T:=ae8 P h4.1 h4.2;exact ⟨TB T,adU⟩
   refine ED (cZ _ _) (Fg ap5 _) (hold:=Bg) (m:=300) (n:=400) (ts:=[⟨39,tdA,LA B (mo.toNat:Nat) (Lj (CP B.k0 ⟨0,B.g0⟩) (ay (.int .i64 (ah 0))) fun _=>aK) [(⟨0,B.g0⟩:Nd SG)].length (nth ([(⟨0,B.g0⟩:Nd SG)].map (Oq B.k0))) (0:Nat) 1 (fun _=>ndQ B.k0 ⟨0,B.g0⟩) [(⟨0,B.g0⟩:Nd SG)].length (nth ([(⟨0,B.g0⟩:Nd SG)].map (I4 B.k0))),[]⟩]) ?_;rw[hn];refine aiW zV W7 B lv mo n m g h _ _ _ _ _ _ _ _ _ rfl rfl rfl rfl rfl rfl rfl rfl (fun _ _ _ _=>@decide_eq_true _ (bD _) ⟨rfl,rfl⟩) (fun _ _ _ _ h4=>(WG h4).1.ke _ (WG h4).1.start)
    (fun q=>c0 q) (fun _ q=>c1 q) (fun _ _ q=>badM ?_) (fun _ _ _ q=>badM ?_) (fun _ _ _ _ _ q=>by cases q) (fun _ _ h2 h3 _ _ q=>?_) (fun _ _ h2 h3 h4 _ _=>?_) (fun _ _ h2 h3 h4 h7=>?_) (fun _ _ h2 h3 h4 h7=>?_)
   ·simp[Aa] at q
    unfold QM;rw[decide_eq_false (by omega:¬1<=mo)];rfl
   ·simp[Aa] at q
    unfold QM;rw[decide_eq_false (by omega:¬mo<=65536),Bool.and_false]
   ·have hm:=moT h2 h3
    exfalso;simp[Ap,Mc] at q;have:=q (by omega);omega
   ·have hm:=moT h2 h3
    obtain ⟨hg1,hg2⟩:=WG h4;have hmo:((mo.toNat:Nat):Int)=mo:=Int.toNat_of_nonneg (by omega);have hmax:zV.max mo (ah 0)=((mo.toNat:Nat):Int):=by
     rw[Mc,hmo];split
     ·rename_i q;have:(0:Int)>mo:=q;omega
     ·rfl
    refine ⟨⟨rfl,rfl,rfl,rfl,rfl,rfl,hmax,rfl,rfl,fun j hj=>?_,rfl,fun j hj=>?_,rfl,fun j hj=>?_,trivial⟩,_,rfl,?_⟩
    ·obtain rfl:j=0:=by omega
     rfl
    ·obtain rfl:j=0:=by omega
     rfl
    ·obtain rfl:j=0:=by omega
     rfl
    have hm1:1<=mo.toNat:=by omega
    refine loopA ap5 hg1 (m:=mo.toNat) (by omega) (fun o hp=>?_) (mo.toNat+1) 0 [⟨0,B.g0⟩] _ 0 1 _ (by omega) (fun x hx=>?_) ⟨by simp,by simp,fun j x hx=>?_⟩ (by omega) (by simp;omega) (fun k=>?_) (fun r hr=>hr) (fun hr=>?_)
    ·
     have hst:je B.g0∈o:=alC hp;have hnx:=alD (Q:=QnP lv n g (Bv n g m h)) hm1 hp hg1.step hg2 hg1.start;have hg':La B (fun nd=>QnP lv n g (Bv n g m h) nd/\nd∈o):=⟨⟨hg1.start,hst⟩,fun nd hq t ht=>⟨hg1.step nd hq.1 t ht,hnx nd hq.2 t ht⟩,fun nd hq=>hg1.tu nd hq.1,fun nd hq=>hg1.ke nd hq.1⟩;have hld:=aq9 (Q:=QnP lv n g (Bv n g m h)) hm1 hp hg1.step hg2 hg1.start;have hlen:=(UW hm1 hp).2;have hall:∀x∈o,QnP lv n g (Bv n g m h) x:=OY hg1.step hp (fun x hx=>by
      obtain rfl:x=⟨0,B.g0⟩:=by simpa[je] using hx
      exact hg1.start)
     have hP:rsP (hsS n g m h) lv mo=ay o:=by unfold rsP;rw[hbg];exact hp
     have hL:rsL (hsS n g m h) lv mo=o:=by unfold rsL;rw[hP];rfl
     have hk:SC (hsS n g m h) lv mo=aC:=by unfold SC;rw[ahB hm,hbg,h4,hP];rfl
     have hφ:φ (.Aj [.agg [.b (ryB (hsS n g m h) lv mo),.sl 2 (rtN (hsS n g m h) lv mo) (zW (rtR (hsS n g m h) lv mo)),.i .i64 (rcI (hsS n g m h) lv mo)],.v .nilIface]):=q2 hk;have ey:ryB (hsS n g m h) lv mo=RY (Gb B) (CP B.k0) B.g0 o:=by unfold ryB;rw[hbg,hL]
     have et:rtL (hsS n g m h) lv mo=(JD (Gb B) (CP B.k0) B.g0 o).map D6:=by unfold rtL;rw[hbg,hL]
     have ec:rcI (hsS n g m h) lv mo=((o.length:Nat):Int):=by unfold rcI;rw[hL]
     unfold rtN rtR at hφ;rw[ey,et,ec] at hφ;have es:zV.sub .i64 (zV.Az o.length) (ah 1)=((o.length:Nat):Int) - 1:=by
      show aT.wrap (((o.length:Nat):Int) - 1)=_;exact BL (by omega) (by omega)
     rw[es];refine aoB ap5 hg' o (fun x hx=>⟨hall x hx,hx⟩) (by omega) (fun nd hq hl hf=>?_) (fun hy=>?_) (fun hy=>?_) o.length (fun _=>aK) (Nat.le_refl _) (fun k=>?_)
     ·obtain ⟨t,ht,hte⟩:=aiS ((hld nd hq.2).1 hl) hf
      exact ⟨t,ht,(hld t.2 (hnx nd hq.2 _ (dJ.2 ⟨t,ht,rfl⟩))).2 hte⟩
     ·rw[hy] at hφ
      exact hφ
     ·have e0:JD (Gb B) (CP B.k0) B.g0 o=[]:=if_neg (by rw[hy];simp)
      rw[hy,e0] at hφ;exact hφ
     ·rw[List.drop_length];rfl
    ·obtain rfl:x=⟨0,B.g0⟩:=by simpa using hx
     exact hg1.start
    ·have hj:j=0:=by
      have:=(aU.1 hx).1;simp at this;omega
     subst hj;cases hx;rfl
    ·have:=getM (k:=CP B.k0 ⟨0,B.g0⟩) (o:=[]) (k0:=B.k0) (v:=.int .i64 (ah 0)) (nd:=⟨0,B.g0⟩) (M:=fun _=>aK) (fun _=>rfl) k
     exact this
    ·have hP:rsP (hsS n g m h) lv mo=aK:=by unfold rsP;rw[hbg];exact hr
     have hk:SC (hsS n g m h) lv mo=ak:=by unfold SC;rw[hP];simp
     have ha:WY (hsS n g m h) lv mo=ak:=by unfold WY;rw[hbg,h4];simp
     have he:Pn (hsS n g m h) lv mo=0:=by unfold Pn;rw[ahB hm,hbg,if_pos rfl,if_pos h4]
     have q:=(q3 hk).2 ha;rw[he] at q;exact q
   ·have hm:=moT h2 h3
    have hk:SC (hsS n g m h) lv mo=ak:=by unfold SC;rw[hbg,h4];simp
    have ha:WY (hsS n g m h) lv mo=aC:=by unfold WY;rw[ahB hm,hbg,h4,h7];rfl
    have he:Pn (hsS n g m h) lv mo=B.e:=by unfold Pn;rw[ahB hm,hbg,if_pos rfl,if_neg (by rw[h4];simp)]
    have hp:rpI (hsS n g m h) lv mo=B.pos:=by unfold rpI;rw[hbg]
    have q:=(q3 hk).1 ha;rw[he,hp] at q;exact BH (ap4 rfl) q
   ·have hm:=moT h2 h3
    refine bad ?_ ?_ ?_
    ·unfold SC;rw[hbg,h4];simp
    ·unfold WY;rw[hbg,h7];simp
    ·unfold Pn;rw[ahB hm,hbg,if_pos rfl,if_neg (by rw[h4];simp)]
  ·exact hφ.elim
 ·exact hφ.elim
end Go.Proofs
namespace Go.Pl
open Go Go.Sx Go.Proofs Go.Gm
def ssB(n:Nat)(g:Nat->List Sh)(m:Nat)(h:Nat->List Sh):Bool:=decide (lst Dx n g=lst Dx m h)
def s1B(a b:Dx):Bool:=decide (a=b)
noncomputable def Ym(s:Sh):UZ:=match s with
 | .agg [.sl 2 n g,.sl 8 m h]=>Bv n g m h |_=>⟨ak,ak,0,0,0,fun _=>default⟩
noncomputable def hpB(s:Sh):Bool:=@decide (∃n g m h,s=hsS n g m h/\Yk n g m h) (bD _)
noncomputable def tkB(s:Sh):Bool:=hpB s&&(Ym s).okb
noncomputable def tnN(s:Sh):Nat:=(Ym s).n
noncomputable def ttT(s:Sh):Nat->D8:=(Ym s).T
noncomputable def wkO(s:Sh)(lv:Int)(k:Nat)(u:Nat->List Sh):Option (Nd SG):=walk (Gb (Dk s lv)) ⟨0,(Dk s lv).g0⟩ ((lst Dx k u).map fun x=>(x.tx,x.com))
noncomputable def nxL(s:Sh)(lv:Int)(k:Nat)(u:Nat->List Sh):List Dx:=match wkO s lv k u with
 |some nd=>(turns (Gb (Dk s lv)) nd).map fun t=>D6 t.1 |none=>[]
end Go.Pl
namespace Go.Proofs
open Go Go.Sx Go.Pl
noncomputable def WZ:Nat->Option (List Sh->Tree Sh)
 |39=>ay D39 |_=>aK
noncomputable def D18:List Sh->Tree Sh
 |[.agg a,.agg b]=>match Row.get (α:=Dx) a,Row.get (α:=Dx) b with
  |some x,ay y=>.leaf (.b (s1B x y)) |_,_=>.fail
 |_=>.fail
noncomputable def Gj:Nat->Option (List Sh->Tree Sh)
 |18=>ay D18 |_=>aK
noncomputable def akK:List Sh->Tree Sh
 |[s]=>.need (tkB s) (.leaf (.Aj [.sl 7 (tnN s) (zW (ttT s)),.v .nilIface])) |_=>.fail
def W9:List It:=[bF [0,1,0,1,1],dA 0,bF [1,1,1]]
def ab8(n:Nat)(g:Nat->Dx)(m:Nat)(h:Nat->Dx)(i:Int):Core:={tm:=Gs 29 [(0,.sh (.sl 2 n (zW g))),(1,.sh (.sl 2 m (zW h))),(5,.sym .i64 i)],hp:=[],nx:=0,lim:=L0,tc:=[]}
theorem ajr(A:Prim)(W:Wd)(s:Sh)(n m:Nat)(g h:Nat->List Sh)(lv mo:Int){ψ:D7->Prop}{c0 c1:Bool}(e0:SC (bM [aG 2 n g,aG 8 m h]) lv mo=c0)(e1:WY (bM [aG 2 n g,aG 8 m h]) lv mo=c1)(h1:(hsB (bM [aG 2 n g,aG 8 m h]) lv)=aC)(y1:c0=aC->ψ (aO (cO [bM [eP (ryB (bM [aG 2 n g,aG 8 m h]) lv mo),aG 2 (rtN (bM [aG 2 n g,aG 8 m h]) lv mo) (zW (rtR (bM [aG 2 n g,aG 8 m h]) lv mo)),aW .i64 (rcI (bM [aG 2 n g,aG 8 m h]) lv mo)],Sh.v bI])))(y2:c0=ak->c1=aC->ψ (aO (cO [bM [eP ak,aG 2 0 fun _=>[],aW .i64 (ah 0)],Sh.CG 109 (Sh.pt [aW .i64 (rpI (bM [aG 2 n g,aG 8 m h]) lv mo),aZ (Pn (bM [aG 2 n g,aG 8 m h]) lv mo) 329])])))(y3:c0=ak->c1=ak->ψ (aO (cO [bM [eP ak,aG 2 0 fun _=>[],aW .i64 (ah 0)],aZ (Pn (bM [aG 2 n g,aG 8 m h]) lv mo) 329]))):Cb ψ (AP (C7 A W WZ Am) Bg 300 400 15 [.code []] (zZ 14 [.agg [.sl 2 n g,.sl 8 m h],.i .i64 lv,.i .i64 mo] L0) [] []):=by
 subst e0 e1;exact Gf (an h1 (an y1 (fun q0=>an (y2 q0) (y3 q0)))) (by kernel_rfl)
theorem ajs(A:Prim)(W:Wd)(a b:Dx){ψ:D7->Prop}{c0:Bool}(e0:A.eq a.tx b.tx=c0)(y1:c0=aC->ψ (aO (eP (A.beq a.com b.com))))(y2:c0=ak->ψ (aO (eP ak))):Cb ψ (AP (C7 A W noSpec Am) Bg 300 400 18 [.code []] (zZ 17 [.agg [.i .i64 a.tx,.b a.com],.agg [.i .i64 b.tx,.b b.com]] L0) [] []):=by
 subst e0;exact Gf (an y1 y2) (by kernel_rfl)
theorem ajt(A:Prim)(W:Wd)(n m:Nat)(g h:Nat->Dx)(i':Int){ψ:D7->Prop}{c0:Bool}(e0:A.nt (A.eq (A.Az n) (A.Az m))=c0)(y1:c0=aC->ψ (aO (eP ak)))(y2:c0=ak->ψ (bJ 0 [aP (aG 2 n (zW g)) (aG 2 n (zW g)),aP (aG 2 m (zW h)) (aG 2 m (zW h)),aj (ah 0) i'])):Cb ψ (AP (C7 A W Gj Am) Bg 300 400 19 [.code []] (zZ 29 [.sl 2 n (zW g),.sl 2 m (zW h)] L0) [] [⟨19,W9,ab8 n g m h i',[]⟩]):=by
 subst e0;exact Gf (an y1 y2) (by kernel_rfl)
theorem ab9(A:Prim)(W:Wd)(n m:Nat)(g h:Nat->Dx)(i i':Int){ψ:D7->Prop}{c0 c1:Bool}(e0:A.lt i (A.Az n)=c0)(e1:A.nt (s1B {tx:=(g (A.toN i)).tx,com:=(g (A.toN i)).com} {tx:=(h (A.toN i)).tx,com:=(h (A.toN i)).com})=c1)(h1:c0=aC->(A.inB i n)=aC)(h2:c0=aC->(A.inB i m)=aC)(y1:c0=aC->c1=aC->ψ (aO (eP ak)))(y2:c0=aC->c1=ak->ψ (bJ 0 [aP (aG 2 n (zW g)) (aG 2 n (zW g)),aP (aG 2 m (zW h)) (aG 2 m (zW h)),aj (A.add .i64 i (ah 1)) i']))(y3:c0=ak->ψ (aO (eP aC))):Cb ψ (AP (C7 A W Gj Am) Bg 300 400 19 (bF [0,0,1,0,1,1]::W9) (ab8 n g m h i) [] [⟨19,W9,ab8 n g m h i',[]⟩]):=by
 subst e0 e1;exact Gf (an (fun q0=>an (h1 q0) (an (h2 q0) (an (y1 q0) (y2 q0)))) y3) (by kernel_rfl)
end Go.Proofs
namespace Go.Pl
open Go Go.Sx Go.Proofs Go.Gm
noncomputable def gaB(s:Sh)(lv mo:Int):Bool:=hsB s lv&&(QM mo&&(Dk s lv).okb)
noncomputable def geB(k:Nat)(s:Sh)(lv mo:Int):Bool:=hsB s lv&&(QM mo&&(!(Dk s lv).okb&&(if k=0 then (Dk s lv).Ih else !(Dk s lv).Ih&&(Dk s lv).e==k)))
noncomputable def gmB(s:Sh)(lv mo:Int):Bool:=hsB s lv && !QM mo
noncomputable def rsB(s:Sh)(lv mo:Int):Bool:=(rsP s lv mo).isSome
end Go.Pl
namespace Go.Proofs
open Go Go.Sx Go.Pl
noncomputable def adV:List Sh->Tree Sh
 |[s,t,u]=>match AZ t,AZ u with
  |some lv,ay mo=>.need (gaB s lv mo) (.node (rsB s lv mo) (.leaf (.Aj [.agg [.b (ryB s lv mo),.sl 2 (rtN s lv mo) (zW (rtR s lv mo)),.i .i64 (rcI s lv mo)],.v .nilIface]))
    (.leaf (.Aj [.agg [.b ak,.sl 2 0 (fun _=>[]),.i .i64 0],.er 0 329])))
  |_,_=>.fail
 |_=>.fail
noncomputable def ap8(k:Nat):List Sh->Tree Sh
 |[s,t,u]=>match AZ t,AZ u with
  |some lv,ay mo=>match k with
   |0=>.need (geB 0 s lv mo) (.leaf (.Aj [.agg [.b ak,.sl 2 0 (fun _=>[]),.i .i64 0],.CG 109 (.pt [.i .i64 (rpI s lv mo),.er (Pn s lv mo) 329])])) |1=>.need (geB 1 s lv mo) (.leaf (.Aj [.agg [.b ak,.sl 2 0 (fun _=>[]),.i .i64 0],.er 1 329])) |6=>.need (geB 6 s lv mo) (.leaf (.Aj [.agg [.b ak,.sl 2 0 (fun _=>[]),.i .i64 0],.er 6 329])) |4=>.need (gmB s lv mo) (.leaf (.Aj [.agg [.b ak,.sl 2 0 (fun _=>[]),.i .i64 0],.er 4 329])) |_=>.fail
  |_,_=>.fail
 |_=>.fail
theorem auM(stop:Nat->List Nat->Bool):Bz aB (C7 zV W7 WZ stop):=lQ (fun g F h=>by
 unfold WZ at h;split at h
 ·cases h;exact O39
 ·cases h) fun g h=>by
 unfold WZ at h;split at h;all_goals first|(cases h;done) |kernel_rfl
theorem afc{φ:Sh->Prop}{y:Bool}{k:Nat}{f:Nat->List Sh}{c:Int}{e:Sh}(he:Wk e e)(h:φ (.Aj [.agg [.b y,.sl 2 k f,.i .i64 c],e])):up φ (.Aj [.agg [.b y,.sl 2 k f,.i .i64 c],e]):=
 BH (s':=.Aj [.agg [.b y,.sl 2 k f,.i .i64 c],e]) ⟨⟨.inl rfl,.inr ⟨rfl,rfl,fun _ _=>rfl⟩,rfl,trivial⟩,he,trivial⟩ h
theorem O15:Aq aB (AY W7) 15 D15:=by
 refine FM (C:=C7 zV W7 WZ Am) (cZ _ _) (fn:=Tryz.f15) (by kernel_rfl) (by kernel_rfl) fun H w AX args φ hrep h=>?_
 have hn:Tryz.f15.ntmps=14:=by kernel_rfl
 unfold D15 at h;split at h
 ·rename_i s t u
  split at h
  ·rename_i lv mo e1 e2
   obtain ⟨q1,q2,q3⟩:=h;obtain ⟨n,g,m,h',rfl,P,l1,l3⟩:=@of_decide_eq_true _ (bD _) q1;match args,hrep with
   |[v,u1,u2],⟨rv,ru,ru2,_⟩=>
    refine ⟨[hsS n g m h',.i .i64 lv,.i .i64 mo],⟨rv,Ei e1 ru,Ei e2 ru2,trivial⟩,L0,?_⟩;refine ED (cZ _ _) (auM _) (hold:=Bg) (m:=300) (n:=400) (ts:=[]) ?_;rw[hn];exact ajr zV W7 (hsS n g m h') n m g h' lv mo rfl rfl q1 (fun c0=>afc rfl (q2 c0)) (fun c0 c1=>afc rfl ((q3 c0).1 c1)) (fun c0 c1=>afc rfl ((q3 c0).2 c1))
  ·exact h.elim
 ·exact h.elim
theorem akL:Aq aB (AY W7) 15 adV:=O15.mono fun H AX args φ hr h=>by
 unfold adV at h;split at h
 ·split at h
  ·rename_i s t u x y lv mo e1 e2
   obtain ⟨q1,q2,q3⟩:=h;unfold gaB at q1;rw[aH,aH] at q1;obtain ⟨a1,a2,a3⟩:=q1;unfold D15;simp only[e1,e2];refine ⟨a1,fun c=>q2 ?_,fun c=>⟨fun c2=>?_,fun _=>?_⟩⟩
   ·unfold SC at c
    rw[a2,a3] at c;exact c
   ·unfold WY at c2
    rw[a3] at c2;simp at c2
   ·have e:Pn s lv mo=0:=by unfold Pn;rw[if_pos a2,if_pos a3]
    rw[e];refine q3 ?_;unfold SC at c;rw[a2,a3] at c;exact c
  ·exact h.elim
 ·exact h.elim
theorem awF(k:Nat):Aq aB (AY W7) 15 (ap8 k):=O15.mono fun H AX args φ hr h=>by
 unfold ap8 at h;split at h
 ·split at h
  ·rename_i s t u x y lv mo e1 e2
   unfold D15;simp only[e1,e2];have key (k:Nat) (q1:geB k s lv mo=aC):hsB s lv=aC/\SC s lv mo=ak/\QM mo=aC/\(Dk s lv).okb=ak/\(if k=0 then (Dk s lv).Ih else !(Dk s lv).Ih&&(Dk s lv).e==k)=aC:=by
    unfold geB at q1;rw[aH,aH,aH,dW] at q1;obtain ⟨a1,a2,a3,a4⟩:=q1;refine ⟨a1,?_,a2,a3,a4⟩;unfold SC;rw[a3];simp
   have keyE (k:Nat) (hk:k≠0) (q1:geB k s lv mo=aC) (q2:φ (.Aj [.agg [.b ak,.sl 2 0 (fun _=>[]),.i .i64 0],.er k 329])):Tree.All φ (Tree.need (hsB s lv) (.node (SC s lv mo) (.leaf (.Aj [.agg [.b (ryB s lv mo),.sl 2 (rtN s lv mo) (zW (rtR s lv mo)),.i .i64 (rcI s lv mo)],.v .nilIface]))
     (.node (WY s lv mo) (.leaf (.Aj [.agg [.b ak,.sl 2 0 (fun _=>[]),.i .i64 0],.CG 109 (.pt [.i .i64 (rpI s lv mo),.er (Pn s lv mo) 329])]))
      (.leaf (.Aj [.agg [.b ak,.sl 2 0 (fun _=>[]),.i .i64 0],.er (Pn s lv mo) 329]))))):=by
    obtain ⟨a1,a2,a3,a4,a5⟩:=key k q1;rw[if_neg hk,aH,dW,beq_iff_eq] at a5;have e:Pn s lv mo=k:=by unfold Pn;rw[if_pos a3,if_neg (by rw[a4];simp),a5.2]
    refine ⟨a1,fun c=>(by rw[a2] at c;cases c),fun _=>⟨fun c=>?_,fun _=>?_⟩⟩
    ·unfold WY at c
     rw[a5.1] at c;simp at c
    ·rw[e];exact q2
   split at h
   ·obtain ⟨q1,q2⟩:=h
    obtain ⟨a1,a2,a3,a4,a5⟩:=key 0 q1;rw[if_pos rfl] at a5;refine ⟨a1,fun c=>(by rw[a2] at c;cases c),fun _=>⟨fun _=>q2,fun c=>?_⟩⟩;unfold WY at c;rw[a3,a4,a5] at c;simp at c
   ·exact keyE 1 (by decide) h.1 h.2
   ·exact keyE 6 (by decide) h.1 h.2
   ·obtain ⟨q1,q2⟩:=h
    unfold gmB at q1;rw[aH,dW] at q1;obtain ⟨a1,a2⟩:=q1;refine ⟨a1,fun c=>?_,fun _=>⟨fun c=>?_,fun _=>?_⟩⟩
    ·unfold SC at c;rw[a2] at c;simp at c
    ·unfold WY at c;rw[a2] at c;simp at c
    ·have e:Pn s lv mo=4:=by unfold Pn;rw[if_neg (by rw[a2];simp)]
     rw[e];exact q2
   ·exact h.elim
  ·exact h.elim
 ·exact h.elim
theorem auN:Aq aB (AY W7) 18 D18:=by
 refine FM (C:=C7 zV W7 noSpec Am) (cZ _ _) (fn:=Tryz.f18) (by kernel_rfl) (by kernel_rfl) fun H w AX args φ hrep h=>?_
 have hn:Tryz.f18.ntmps=17:=by kernel_rfl
 unfold D18 at h;split at h
 ·rename_i l r
  split at h
  ·rename_i x y e1 e2
   have hφ:φ (.b (s1B x y)):=h;have hl:l=Row.put x:=(Row.Dl _ _ e1).symm;have hr:r=Row.put y:=(Row.Dl _ _ e2).symm;subst hl hr;refine ⟨[.agg (Row.put x),.agg (Row.put y)],hrep,L0,?_⟩;refine ED (cZ _ _) (MZ _) (hold:=Bg) (m:=300) (n:=400) (ts:=[]) ?_;rw[hn];have fin (b:Bool) (hb:b=s1B x y):up φ (.b b):=BH (s':=.b (s1B x y)) (.inl (by rw[hb])) hφ;obtain ⟨a,b⟩:=x;obtain ⟨c,d⟩:=y;refine ajs zV W7 ⟨a,b⟩ ⟨c,d⟩ rfl (fun q=>fin _ ?_) (fun q=>fin _ ?_)
   ·have q:a=c:=by simpa[Ap] using q
    subst q;unfold s1B;rw[XP];cases b<;>cases d<;>simp
   ·have q:a≠c:=by simpa[Ap] using q
    unfold s1B;rw[decide_eq_false (by intro e;injection e;contradiction)]
  ·exact h.elim
 ·exact h.elim
theorem Yf(stop:Nat->List Nat->Bool):Bz aB (C7 zV W7 Gj stop):=lQ (fun g F h=>by
 unfold Gj at h;split at h
 ·cases h;exact auN
 ·cases h) fun g h=>by
 unfold Gj at h;split at h;all_goals first|(cases h;done) |kernel_rfl
end Go.Proofs
namespace Go.Pl
open Go Go.Sx
theorem ap9{n m:Nat}{g h:Nat->Dx}:lst Dx n (zW g)=lst Dx m (zW h)↔n=m/\∀j,j<n->g j=h j:=by
 rw[RG,RG];constructor
 ·intro e
  have hl:=congrArg List.length e;simp at hl;subst hl;refine ⟨rfl,fun j hj=>?_⟩;have:=congrArg (fun l=>l[j]?) e;simpa[hj] using this
 ·rintro ⟨rfl,e⟩
  exact jM fun j hj=>e j (dN.1 hj)
def asf(n:Nat)(g:Nat->List Sh)(m:Nat)(h:Nat->List Sh):Bool:=okB Dx n g&&(okB Dx m h&&decide (n<=100000))
end Go.Pl
namespace Go.Proofs
open Go Go.Sx Go.Pl
noncomputable def D19:List Sh->Tree Sh
 |[s,t]=>match DJ 2 s,DJ 2 t with
  |some (n,g),ay (m,h)=>.need (asf n g m h) (.leaf (.b (ssB n g m h))) |_,_=>.fail
 |_=>.fail
section
variable{H0:Mem}{w0:World}{φ:Sh->Prop}{n:Nat}{g h:Nat->Dx}
theorem akM(hn:n<=100000)(hφ:φ (.b (decide (∀j,j<n->g j=h j)))):∀r i,i+r=n->(∀j,j<i->g j=h j)->
  Bc aB (C7 zV W7 Gj Am) (K0 H0 w0) 19 W9 (ab8 n g n h (i:Nat)) [] emp (up φ)
 |0,i,hi,he=>by
  refine Gq (fn:=rV) (tb:=bF [0,0,1,0,1,1]::W9) (by kernel_rfl) (by kernel_rfl) ?_;have lt {P:Prop} (h:zV.lt (i:Int) (zV.Az n)=aC):P:=by simp[Aa,Ar] at h;omega
  refine ED (cZ _ _) (Yf _) (hold:=Bg) (m:=300) (n:=400) (ts:=[⟨19,W9,ab8 n g n h 0,[]⟩]) ?_;refine ab9 zV W7 n n g h i 0 rfl rfl (fun q=>lt q) (fun q=>lt q) (fun q=>lt q) (fun q=>lt q) (fun _=>?_);rw[decide_eq_true (fun j hj=>he j (by omega))] at hφ;exact BH (s':=.b aC) (.inl rfl) hφ
 |r+1,i,hi,he=>by
  refine Gq (fn:=rV) (tb:=bF [0,0,1,0,1,1]::W9) (by kernel_rfl) (by kernel_rfl) ?_;have no {P:Prop} (h:zV.lt (i:Int) (zV.Az n)=ak):P:=by simp[Aa,Ar] at h;omega
  have inb:zV.inB (i:Int) n=aC:=by rw[Bj,decide_eq_true_eq];omega
  have w1:zV.add .i64 (i:Int) (ah 1)=((i+1:Nat):Int):=add1 (by omega);refine ED (cZ _ _) (Yf _) (hold:=Bg) (m:=300) (n:=400) (ts:=[⟨19,W9,ab8 n g n h ((i+1:Nat):Int),[]⟩]) ?_;refine ab9 zV W7 n n g h i _ rfl rfl (fun _=>inb) (fun _=>inb) (fun _ q=>?_) (fun _ q=>?_) (fun q=>no q)
  ·have q:(!s1B (g i) (h i))=aC:=q
   have hne:g i≠h i:=by
    intro e;unfold s1B at q;rw[decide_eq_true e] at q;cases q
   rw[decide_eq_false (fun f=>hne (f i (by omega)))] at hφ;exact BH (s':=.b ak) (.inl rfl) hφ
  ·have q:(!s1B (g i) (h i))=ak:=q
   have he2:g i=h i:=by
    unfold s1B at q;simpa using q
   exact ⟨⟨rfl,rfl,w1,trivial⟩,_,rfl,akM hn hφ r (i+1) (by omega) fun j hj=>by
    by_cases hj2:j=i
    ·rw[hj2];exact he2
    ·exact he j (by omega)⟩
end
theorem auP:Aq aB (AY W7) 19 D19:=by
 refine FM (C:=C7 zV W7 Gj Am) (cZ _ _) (fn:=rV) (by kernel_rfl) (by kernel_rfl) fun H w AX args φ hrep h=>?_
 have hn:rV.ntmps=29:=by kernel_rfl
 unfold D19 at h;split at h
 ·rename_i s t
  split at h
  ·rename_i n g m h' e1 e2
   obtain ⟨q1,hφ⟩:=h;unfold asf at q1;rw[aH,aH,decide_eq_true_eq] at q1;obtain ⟨a1,a2,a3⟩:=q1;match args,hrep with
   |[v,u],⟨rv,ru,_⟩=>
    refine ⟨[.sl 2 n (zW (zY (α:=Dx) g)),.sl 2 m (zW (zY (α:=Dx) h'))],⟨DV (BD e1 rv) a1,DV (BD e2 ru) a2,trivial⟩,L0,?_⟩;have hφ:φ (.b (ssB n g m h')):=hφ;have es:ssB n g m h'=decide (n=m/\∀j,j<n->zY (α:=Dx) g j=zY (α:=Dx) h' j):=by
     unfold ssB;rw[aa3 (IU a1),aa3 (IU a2)];have:(lst Dx n (zW (zY g))=lst Dx m (zW (zY h')))↔(n=m/\∀j,j<n->zY (α:=Dx) g j=zY (α:=Dx) h' j):=ap9;by_cases hh:(n=m/\∀j,j<n->zY (α:=Dx) g j=zY (α:=Dx) h' j)
     ·rw[decide_eq_true hh];exact decide_eq_true (this.2 hh)
     ·rw[decide_eq_false hh];exact decide_eq_false (fun e=>hh (this.1 e))
    rw[es] at hφ;refine ED (cZ _ _) (Yf _) (hold:=Bg) (m:=300) (n:=400) (ts:=[⟨19,W9,ab8 n (zY g) m (zY h') ((0:Nat):Int),[]⟩]) ?_;rw[hn];refine ajt zV W7 n m (zY g) (zY h') ((0:Nat):Int) rfl (fun q=>?_) (fun q=>?_)
    ·have hne:n≠m:=fun e=>by
      rw[e] at q;simp[BP,Ap,Ar] at q
     rw[decide_eq_false (fun f=>hne f.1)] at hφ;exact BH (s':=.b ak) (.inl rfl) hφ
    ·have he:n=m:=by
      simp[BP,Ap,Ar] at q;exact kT q
     subst he;have ed:decide (n=n/\∀j,j<n->zY (α:=Dx) g j=zY (α:=Dx) h' j)=decide (∀j,j<n->zY (α:=Dx) g j=zY (α:=Dx) h' j):=by
      by_cases hh:∀j,j<n->zY (α:=Dx) g j=zY (α:=Dx) h' j
      ·rw[decide_eq_true hh];exact decide_eq_true ⟨rfl,hh⟩
      ·rw[decide_eq_false hh];exact decide_eq_false (fun f=>hh f.2)
     rw[ed] at hφ;exact ⟨⟨rfl,rfl,rfl,trivial⟩,_,rfl,akM a3 hφ n 0 (by omega) (fun j hj=>by omega)⟩
  ·exact h.elim
 ·exact h.elim
open Go Go.Sx Go.Pl
def Xa:List It:=[bF [0,1,0,1,1,1,1,1],dA 0,bF [1,1,1,1,1,1]]
def aqa:List It:=bF [0,0,1,0,1,1,1,1,1]::Xa
def tmN(B:Ho)(k:Nat)(u:Nat->Dx)(i:Int):List (Nat×SV):=[(8,.Gl 4 1 (fun _=>BJ B.lv B.N B.T B.N B.ms B.k0 B.g0) 0 0),(10,.ptr 0 0),(40,.sh (.sl 2 k (zW u))),(41,.sym .i64 (k:Int)),(42,.sym .i64 i)]
def LNa(B:Ho)(k:Nat)(u:Nat->Dx)(i:Int)(p:Int)(n:Nat)(g:Nat->List Sh):Core:={tm:=Gs 85 (tmN B k u i),hp:=[(0,.box [.sym .i64 p,.sh (.sl 4 n g)] 104)],nx:=1,lim:=L0,tc:=[]}
def Zg:List It:=[bF [0,1,0,1,1,0,0,1,1,0,0,1,0,1,1,1,1,1],dA 2,bF [1,1,1,0,0,1,1,0,0,1,0,1,1,1,1,1],dA 1,bF [1,1,1,0,0,1,0,1,1,1,1,1],bF [0,1,0,1,1,1,1,1],dA 0,bF [1,1,1,1,1,1]]
def asg:List It:=bF [0,0,1,0,1,1,0,0,1,1,0,0,1,0,1,1,1,1,1]::Zg
def LNb(B:Ho)(k:Nat)(u:Nat->Dx)(i:Int)(p:Int)(n:Nat)(g:Nat->List Sh)(x:Dx)(t:Nat)(tr:Nat->Jl)(j:Int):Core:=
 {tm:=Gs 85 (tmN B k u i++[(11,.sym .i64 i),(12,.ptr 1 0),(13,.bool ak),(49,.sh (.sl 4 t (zW tr))),(50,.sym .i64 (t:Int)),(51,.sym .i64 j)]),hp:=[(0,.box [.sym .i64 p,.sh (.sl 4 n g)] 104),(1,.box [.sym .i64 x.tx,.test x.com] 55)],nx:=2,lim:=L0,tc:=[]}
def Zh:List It:=[bF [0,1,0,1,1,1,1,1,1,1],dA 4,bF [1,1,1,1,1,1,1,1]]
def aqb:List It:=bF [0,0,1,0,1,1,1,1,1,1,1]::Zh
def LNc(t:Nat)(tr:Nat->Jl)(c:Nat)(cr:Nat->Dx)(j:Int):Core:=
 {tm:=Gs 85 [(16,.gs 0),(72,.sh (.sl 4 t (zW tr))),(73,.sym .i64 (t:Int)),(74,.sym .i64 j)],hp:=[(0,.own 55 2 c (zW cr))],nx:=1,lim:=L0,tc:=[]}
theorem acd(A:Prim)(W:Wd)(B:Ho)(lv:Int)(o m:Nat)(og mg:Nat->List Sh)(k:Nat)(u:Nat->Dx)(i':Int){ψ:D7->Prop}{c0 c1 c2 c3:Bool}(e0:A.lt lv (ah 1)=c0)(e1:A.lt (ah 3) lv=c1)(e2:B.okb=c2)(e3:B.Ih=c3)(h1:c0=ak->c1=ak->(aow (bM [aG 2 o og,aG 8 m mg]) lv (bM [aG 2 o og,aG 8 m mg]) lv)=aC)(y1:c0=aC->ψ (aO (cO [aG 0 0 fun _=>[],aZ 2 329])))(y2:c0=ak->c1=aC->ψ (aO (cO [aG 0 0 fun _=>[],aZ 2 329])))(y3:c0=ak->c1=ak->c2=aC->ψ (bJ 0 [aJ 1 1,bC (fun (x:Nat)=>BJ B.lv B.N B.T B.N B.ms B.k0 B.g0) fun (x:Nat)=>BJ B.lv B.N B.T B.N B.ms B.k0 B.g0,aJ 0 0,aP (aG 2 k (zW u)) (aG 2 k (zW u)),aj (A.Az k) (ah k),aj (ah 0) i',aj (ah 0) (ah 0),aP (aG 4 B.k0 B.g0) (aG 4 B.k0 B.g0)]))(y4:c0=ak->c1=ak->c2=ak->c3=aC->ψ (aO (cO [aG 0 0 fun _=>[],Sh.CG 109 (Sh.pt [aW .i64 B.pos,aZ B.e 329])])))(y5:c0=ak->c1=ak->c2=ak->c3=ak->ψ (aO (cO [aG 0 0 fun _=>[],aZ B.e 329]))):Cb ψ (AP (C7 A W (CX (.agg [.sl 2 o og,.sl 8 m mg]) lv B) Am) Bg 300 400 16 [.code []] (zZ 85 [.agg [.sl 2 o og,.sl 8 m mg],.i .i64 lv,.sl 2 k (zW u)] L0) [] [⟨16,Xa,LNa B k u i' 0 B.k0 B.g0,[]⟩]):=by
 subst e0 e1 e2 e3;exact Gf (an y1 (fun q0=>an (y2 q0) (fun q1=>an (h1 q0 q1) (an (y3 q0 q1) (fun q2=>an (y4 q0 q1 q2) (y5 q0 q1 q2)))))) (by kernel_rfl)
theorem ace(A:Prim)(W:Wd)(B:Ho)(hs:Sh)(lv:Int)(k:Nat)(u:Nat->Dx)(i p:Int)(n:Nat)(g:Nat->List Sh)(x:Dx)(t:Nat)(tr:Nat->Jl)(cr:Nat->Dx){ψ:D7->Prop}{c0:Bool}(e0:A.lt i (ah k)=c0)(h1:c0=aC->(A.inB i k)=aC)(h2:c0=aC->(tuB B.lv B.N (zW B.T) B.N (zW B.ms) p 4 n g)=aC)(h3:c0=ak->(tuB B.lv B.N (zW B.T) B.N (zW B.ms) p 4 n g)=aC)(y1:c0=aC->ψ (bJ 0 [aJ 1 1,bC (fun (x:Nat)=>BJ B.lv B.N B.T B.N B.ms B.k0 B.g0) fun (x:Nat)=>BJ B.lv B.N B.T B.N B.ms B.k0 B.g0,aJ 0 0,aj i i,aP (aG 2 k (zW u)) (aG 2 k (zW u)),aj (ah k) (ah k),aj i i,aP (aG 4 (Ol B.lv B.N (zW B.T) (zW B.ms) p n g) (zW (Zp B.lv B.N (zW B.T) (zW B.ms) p n g))) (aG 4 t (zW tr)),aj (A.Az (Ol B.lv B.N (zW B.T) (zW B.ms) p n g)) (ah t),aj (ah 0) (ah 0),aj p p,aP (aG 4 n g) (aG 4 n g),aj (u (A.toN i)).tx x.tx,oZ (u (A.toN i)).com x.com]))(y2:c0=ak->ψ (bJ 1 [aP (aG 4 (Ol B.lv B.N (zW B.T) (zW B.ms) p n g) (zW (Zp B.lv B.N (zW B.T) (zW B.ms) p n g))) (aG 4 t (zW tr)),aj (A.Az (Ol B.lv B.N (zW B.T) (zW B.ms) p n g)) (ah t),aj (ah 0) (ah 0),aJ 0 0])):Cb ψ (AP (C7 A W (CX hs lv B) Am) Bg 300 400 16 aqa (LNa B k u i p n g) [] [⟨16,Zg,LNb B k u i p n g x t tr 0,[]⟩,⟨16,Zh,LNc t tr 0 cr 0,[]⟩]):=by
 subst e0;exact Gf (an (fun q0=>an (h1 q0) (an (h2 q0) (y1 q0))) (fun q0=>an (h3 q0) (y2 q0))) (by kernel_rfl)
theorem acf(A:Prim)(W:Wd)(B:Ho)(hs:Sh)(lv:Int)(k:Nat)(u:Nat->Dx)(i p:Int)(n:Nat)(g:Nat->List Sh)(x:Dx)(t:Nat)(tr:Nat->Jl)(j j' i' p':Int)(n':Nat)(g':Nat->List Sh){ψ:D7->Prop}{c0 c1:Bool}(e0:A.lt j (ah t)=c0)(e1:A.ite (A.eq (tr (A.toN j)).tx x.tx) (A.ite (A.beq (tr (A.toN j)).com x.com) aC ak) ak=c1)(h1:c0=aC->(A.inB j t)=aC)(y1:c0=aC->c1=aC->ψ (bJ 1 [aJ 1 1,bC (fun (x:Nat)=>BJ B.lv B.N B.T B.N B.ms B.k0 B.g0) fun (x:Nat)=>BJ B.lv B.N B.T B.N B.ms B.k0 B.g0,aJ 0 0,aP (aG 2 k (zW u)) (aG 2 k (zW u)),aj (ah k) (ah k),aj (A.add .i64 i (ah 1)) i',aj (tr (A.toN j)).placed p',aP (aG 4 (tr (A.toN j)).n (tr (A.toN j)).g) (aG 4 n' g')]))(y2:c0=aC->c1=ak->ψ (bJ 0 [aJ 1 1,bC (fun (x:Nat)=>BJ B.lv B.N B.T B.N B.ms B.k0 B.g0) fun (x:Nat)=>BJ B.lv B.N B.T B.N B.ms B.k0 B.g0,aJ 0 0,aj i i,aP (aG 2 k (zW u)) (aG 2 k (zW u)),aj (ah k) (ah k),aj i i,aP (aG 4 t (zW tr)) (aG 4 t (zW tr)),aj (ah t) (ah t),aj (A.add .i64 j (ah 1)) j',aj p p,aP (aG 4 n g) (aG 4 n g),aj x.tx x.tx,oZ x.com x.com]))(y3:c0=ak->False):Cb ψ (AP (C7 A W (CX hs lv B) Am) Bg 300 400 16 asg (LNb B k u i p n g x t tr j) [] [⟨16,Zg,LNb B k u i p n g x t tr j',[]⟩,⟨16,Xa,LNa B k u i' p' n' g',[]⟩]):=by
 subst e0 e1;exact Gf (an (fun q0=>an (h1 q0) (an (y1 q0) (y2 q0))) y3) (by kernel_rfl)
theorem acg(A:Prim)(W:Wd)(B:Ho)(hs:Sh)(lv:Int)(t:Nat)(tr:Nat->Jl)(c c':Nat)(cr Qn:Nat->Dx)(j j':Int){ψ:D7->Prop}{c0:Bool}(e0:A.lt j (ah t)=c0)(h1:c0=aC->(A.inB j t)=aC)(h2:c0=aC->(A.room (A.addN c 1) 16)=aC)(y1:c0=aC->ψ (bJ 0 [aP (aG 4 t (zW tr)) (aG 4 t (zW tr)),aj (ah t) (ah t),aj (A.add .i64 j (ah 1)) j',aJ (A.addN c 1) c',Bh.get (A.addN c 1) (A.snoc (zW cr) c (AQ [[aW .i64 (tr (A.toN j)).tx,eP (tr (A.toN j)).com]])) (zW Qn)]))(y2:c0=ak->ψ (aO (cO [Sh.os 55 2 c (zW cr),Sh.v bI]))):Cb ψ (AP (C7 A W (CX hs lv B) Am) Bg 300 400 16 aqb (LNc t tr c cr j) [] [⟨16,Zh,LNc t tr c' Qn j',[]⟩]):=by
 subst e0;exact Gf (an (fun q0=>an (h1 q0) (an (h2 q0) (y1 q0))) y2) (by kernel_rfl)
end Go.Proofs
namespace Go.Pl
open Go Go.Sx Go.Proofs Go.Gm Go.Bf
noncomputable def naB(s:Sh)(lv:Int)(k:Nat)(u:Nat->List Sh):Bool:=hsB s lv&&((Dk s lv).okb&&(okB Dx k u&&(decide (k<=1000)&&(wkO s lv k u).isSome)))
noncomputable def nxN(s:Sh)(lv:Int)(k:Nat)(u:Nat->List Sh):Nat:=(nxL s lv k u).length
noncomputable def nxR(s:Sh)(lv:Int)(k:Nat)(u:Nat->List Sh):Nat->Dx:=nth (nxL s lv k u)
noncomputable def neB(k:Nat)(s:Sh)(lv:Int):Bool:=hsB s lv&&(!(Dk s lv).okb&&(if k=0 then (Dk s lv).Ih else !(Dk s lv).Ih&&(Dk s lv).e==k))
noncomputable def npI(s:Sh)(lv:Int):Int:=(Dk s lv).pos
noncomputable def neN(s:Sh)(lv:Int):Nat:=(Dk s lv).e
end Go.Pl
namespace Go.Proofs
open Go Go.Sx Go.Pl Go.Gm Go.Bf
noncomputable def akN:List Sh->Tree Sh
 |[s,t,v]=>match AZ t,DJ 2 v with
  |some lv,ay (k,u)=>.need (naB s lv k u) (.leaf (.Aj [.sl 2 (nxN s lv k u) (zW (nxR s lv k u)),.v .nilIface])) |_,_=>.fail
 |_=>.fail
noncomputable def aqc(j:Nat):List Sh->Tree Sh
 |[s,t,v]=>match AZ t,DJ 2 v with
  |some lv,ay (k,u)=>.need (okB Dx k u) (match j with
   |0=>.need (neB 0 s lv) (.leaf (.Aj [.sl 2 0 (fun _=>[]),.CG 109 (.pt [.i .i64 (npI s lv),.er (neN s lv) 329])])) |1=>.need (neB 1 s lv) (.leaf (.Aj [.sl 2 0 (fun _=>[]),.er 1 329])) |6=>.need (neB 6 s lv) (.leaf (.Aj [.sl 2 0 (fun _=>[]),.er 6 329])) |_=>.fail)
  |_,_=>.fail
 |_=>.fail
section
variable{H0:Mem}{w0:World}{φ:Sh->Prop}{B:Ho}{Q:Nd SG->Prop}{hs:Sh}{lv:Int}
theorem akO(EZ:Aq aB (AY W7) 40 (WJ hs lv B))(ts:List ((Int×Bool)×Nd SG))(hl:ts.length<=1000)(hφ:φ (.Aj [.sl 2 ts.length (zW (nth (ts.map fun t=>D6 t.1))),.v .nilIface])):
  ∀r j (acc:List Dx),j+r=ts.length->acc=(ts.take j).map (fun t=>D6 t.1)->
  Bc aB (C7 zV W7 (CX hs lv B) Am) (K0 H0 w0) 16 Zh (LNc ts.length (nth (ts.map (Gu B.k0))) acc.length (nth acc) (j:Nat)) [] emp (up φ)
 |0,j,acc,hj,ha=>by
  refine Gq (fn:=kN) (tb:=aqb) (by kernel_rfl) (by kernel_rfl) ?_;have lt {P:Prop} (h:zV.lt (j:Int) (ah ts.length)=aC):P:=by simp[Aa] at h;omega
  refine ED (cZ _ _) (Fg EZ _) (hold:=Bg) (m:=300) (n:=400) (ts:=[⟨16,Zh,LNc ts.length (nth (ts.map (Gu B.k0))) 0 (nth []) 0,[]⟩]) ?_;refine acg zV W7 B hs lv _ _ _ 0 (nth acc) (nth []) j 0 rfl (fun q=>lt q) (fun q=>lt q) (fun q=>lt q) (fun _=>?_);have e:acc=ts.map fun t=>D6 t.1:=by rw[ha,List.take_of_length_le (by omega)]
  refine BH (s':=.Aj [.sl 2 ts.length (zW (nth (ts.map fun t=>D6 t.1))),.v .nilIface]) ⟨.inr ⟨rfl,?_,fun i hi=>?_⟩,rfl,trivial⟩ hφ
  ·rw[e,dY]
  ·rw[e]
 |r+1,j,acc,hj,ha=>by
  obtain ⟨t,ht⟩:∃t,ts[j]?=ay t:=⟨_,aV (by omega)⟩;have htr:nth (ts.map (Gu B.k0)) (zV.toN (j:Int))=Gu B.k0 t:=O1 _ _ ht;have htk:ts.take (j+1)=ts.take j++[t]:=by
   rw[List.take_add_one,ht];rfl
  have nx:=akO EZ ts hl hφ r (j+1) (acc++[D6 t.1]) (by omega) (by rw[htk,iL,<-ha];rfl);obtain ⟨tr,etr⟩:∃tr,nth (ts.map (Gu B.k0))=tr:=⟨_,rfl⟩;rw[etr] at htr nx ⊢;have hal:acc.length<=1000:=by rw[ha,dY,List.length_take];omega
  refine Gq (fn:=kN) (tb:=aqb) (by kernel_rfl) (by kernel_rfl) ?_;have w1:zV.add .i64 (j:Int) (ah 1)=((j+1:Nat):Int):=add1 (by omega);have no {P:Prop} (h:zV.lt (j:Int) (ah ts.length)=ak):P:=by simp[Aa] at h;omega
  have inb:zV.inB (j:Int) ts.length=aC:=by rw[Bj,decide_eq_true_eq];omega
  refine ED (cZ _ _) (Fg EZ _) (hold:=Bg) (m:=300) (n:=400) (ts:=[⟨16,Zh,LNc ts.length tr (acc++[D6 t.1]).length (nth (acc++[D6 t.1])) ((j+1:Nat):Int),[]⟩]) ?_;refine acg zV W7 B hs lv _ tr _ _ (nth acc) _ j _ rfl (fun _=>inb) (fun _=>by rw[Et,decide_eq_true_eq,Di];unfold maxLen;omega) (fun _=>?_) (fun q=>no q);exact ⟨⟨rfl,rfl,w1,by rw[List.length_append];rfl,fun i hi=>Il acc (D6 t.1) _ (by rw[htr];rfl) i hi,trivial⟩,_,rfl,nx⟩
theorem akP(EZ:Aq aB (AY W7) 40 (WJ hs lv B))(hg:La B Q)(nd:Nd SG)(hq:Q nd){k:Nat}{u:Nat->Dx}{i:Nat}(hi:i<=1000)(s:Int×Bool){t0:(Int×Bool)×Nd SG}
  (hA:Bc aB (C7 zV W7 (CX hs lv B) Am) (K0 H0 w0) 16 Xa (LNa B k u ((i+1:Nat):Int) (t0.2.placed:Nat) B.k0 t0.2.st) [] emp (up φ)) :
  ∀r j,j+r=(turns (Gb B) nd).length->((turns (Gb B) nd).drop j).find? (fun t=>t.1==s)=ay t0->
  Bc aB (C7 zV W7 (CX hs lv B) Am) (K0 H0 w0) 16 Zg (LNb B k u (i:Nat) (nd.placed:Nat) B.k0 nd.st (D6 s) (turns (Gb B) nd).length (nth ((turns (Gb B) nd).map (Gu B.k0))) (j:Nat)) [] emp (up φ)
 |0,j,hj,hf=>by
  rw[List.drop_eq_nil_of_le (by omega)] at hf;cases hf
 |r+1,j,hj,hf=>by
  have hjl:j<(turns (Gb B) nd).length:=by omega
  have hN:(turns (Gb B) nd).length<=124:=O4 (hg.tu nd hq).le nd;obtain ⟨t,ht⟩:∃t,(turns (Gb B) nd)[j]?=ay t:=⟨_,aV hjl⟩;have hd:(turns (Gb B) nd).drop j=t::(turns (Gb B) nd).drop (j+1):=by
   rw[List.drop_eq_getElem_cons hjl];congr 1;rw[aV hjl] at ht;exact dD ht
  rw[hd] at hf;have htr:nth ((turns (Gb B) nd).map (Gu B.k0)) (zV.toN (j:Int))=Gu B.k0 t:=O1 _ _ ht;have ih:=fun h=>akP EZ hg nd hq hi s hA r (j+1) (by omega) h;obtain ⟨tr,etr⟩:∃tr,nth ((turns (Gb B) nd).map (Gu B.k0))=tr:=⟨_,rfl⟩;rw[etr] at htr ih ⊢;refine Gq (fn:=kN) (tb:=asg) (by kernel_rfl) (by kernel_rfl) ?_;have w1:zV.add .i64 (j:Int) (ah 1)=((j+1:Nat):Int):=add1 (by omega);have w2:zV.add .i64 (i:Int) (ah 1)=((i+1:Nat):Int):=add1 (by omega);have no {P:Prop} (h:zV.lt (j:Int) (ah (turns (Gb B) nd).length)=ak):P:=by simp[Aa] at h;omega
  have inb:zV.inB (j:Int) (turns (Gb B) nd).length=aC:=by rw[Bj,decide_eq_true_eq];omega
  have hc:zV.ite (zV.eq (tr (zV.toN (j:Int))).tx (D6 s).tx) (zV.ite (zV.beq (tr (zV.toN (j:Int))).com (D6 s).com) aC ak) ak=(t.1==s):=by
   rw[htr];obtain ⟨⟨a,b⟩,nd'⟩:=t;obtain ⟨c,d⟩:=s;show (bif a==c then (bif b==d then aC else ak) else ak)=((a,b)==(c,d));by_cases h1:a=c
   ·subst h1
    by_cases h2:b=d
    ·subst h2;simp
    ·have e1:(b==d)=ak:=beq_eq_false_iff_ne.2 h2
     have e2:((a,b)==(a,d))=ak:=beq_eq_false_iff_ne.2 fun e=>h2 (wO e).2;rw[e1,e2];simp
   ·have e1:(a==c)=ak:=beq_eq_false_iff_ne.2 h1
    have e2:((a,b)==(c,d))=ak:=beq_eq_false_iff_ne.2 fun e=>h1 (wO e).1;rw[e1,e2];rfl
  cases hb:(t.1==s) with
  |true=>
   have e:t=t0:=by
    rw[List.find?_cons_of_pos (p:=fun t:(Int×Bool)×Nd SG=>t.1==s) hb] at hf;exact dD hf
   subst e;refine ED (cZ _ _) (Fg EZ _) (hold:=Bg) (m:=300) (n:=400) (ts:=[⟨16,Zg,LNb B k u (i:Nat) (nd.placed:Nat) B.k0 nd.st (D6 s) (turns (Gb B) nd).length tr 0,[]⟩,⟨16,Xa,LNa B k u ((i+1:Nat):Int) (t.2.placed:Nat) B.k0 t.2.st,[]⟩]) ?_;refine acf zV W7 B hs lv k u i _ B.k0 nd.st (D6 s) _ tr j 0 _ _ _ _ (c1:=aC) rfl (by rw[hc];exact hb) (fun _=>inb) (fun _ _=>?_) (fun _ q=>by cases q) (fun q=>no q);exact ⟨⟨rfl,rfl,rfl,rfl,rfl,w2,congrArg Jl.placed htr,congrArg (fun x:Jl=>aG 4 x.n x.g) htr,trivial⟩,_,rfl,hA⟩
  |false=>
   have nx:=ih (by
    rw[List.find?_cons_of_neg (p:=fun t:(Int×Bool)×Nd SG=>t.1==s) (by rw[hb];simp)] at hf;exact hf)
   refine ED (cZ _ _) (Fg EZ _) (hold:=Bg) (m:=300) (n:=400) (ts:=[⟨16,Zg,LNb B k u (i:Nat) (nd.placed:Nat) B.k0 nd.st (D6 s) (turns (Gb B) nd).length tr ((j+1:Nat):Int),[]⟩,⟨16,Xa,LNa B k u 0 0 B.k0 nd.st,[]⟩]) ?_;refine acf zV W7 B hs lv k u i _ B.k0 nd.st (D6 s) _ tr j _ _ 0 _ _ (c1:=ak) rfl (by rw[hc];exact hb) (fun _=>inb) (fun _ q=>by cases q) (fun _ _=>?_) (fun q=>no q);exact ⟨⟨rfl,rfl,rfl,rfl,rfl,rfl,rfl,rfl,rfl,w1,rfl,rfl,rfl,rfl,trivial⟩,_,rfl,nx⟩
theorem akQ(EZ:Aq aB (AY W7) 40 (WJ hs lv B))(hg:La B Q){k:Nat}(hk:k<=1000){u:Nat->Dx}{nd':Nd SG}(hφ:φ (.Aj [.sl 2 (turns (Gb B) nd').length (zW (nth ((turns (Gb B) nd').map fun t=>D6 t.1))),.v .nilIface])):
  ∀(l:List (Int×Bool)) (i:Nat) (nd:Nd SG),i+l.length=k->(∀j s,l[j]?=ay s->u (i+j)=D6 s)->Q nd->walk (Gb B) nd l=ay nd'->
  Bc aB (C7 zV W7 (CX hs lv B) Am) (K0 H0 w0) 16 Xa (LNa B k u (i:Nat) (nd.placed:Nat) B.k0 nd.st) [] emp (up φ)
 |[],i,nd,hi,hu,hq,hw=>by
  have hw:ay nd=ay nd':=hw;rw[<-dD hw] at hφ;have hN:(turns (Gb B) nd).length<=124:=O4 (hg.tu nd hq).le nd;refine Gq (fn:=kN) (tb:=aqa) (by kernel_rfl) (by kernel_rfl) ?_;have lt {P:Prop} (h:zV.lt (i:Int) (ah k)=aC):P:=by simp[Aa] at h;simp at hi;omega
  have nx:=akO (H0:=H0) (w0:=w0) EZ (turns (Gb B) nd) (by omega) hφ (turns (Gb B) nd).length 0 [] (by omega) rfl;refine ED (cZ _ _) (Fg EZ _) (hold:=Bg) (m:=300) (n:=400) (ts:=[⟨16,Zg,LNb B k u (i:Nat) (nd.placed:Nat) B.k0 nd.st default (turns (Gb B) nd).length (nth ((turns (Gb B) nd).map (Gu B.k0))) 0,[]⟩,⟨16,Zh,LNc (turns (Gb B) nd).length (nth ((turns (Gb B) nd).map (Gu B.k0))) 0 (nth []) ((0:Nat):Int),[]⟩]) ?_;exact ace zV W7 B hs lv k u i _ B.k0 nd.st default _ _ (nth []) rfl (fun q=>lt q) (fun q=>lt q) (fun _=>WM hg hq rfl) (fun q=>lt q) (fun _=>⟨⟨by rw[KD,WO];rfl,by rw[KD];rfl,rfl,rfl,trivial⟩,_,rfl,nx⟩)
 |s::l,i,nd,hi,hu,hq,hw=>by
  rw[List.length_cons] at hi;rw[walk] at hw;cases hf:(turns (Gb B) nd).find? fun t=>t.1==s with
  |none=>rw[hf] at hw;cases hw |some t0=>
   rw[hf] at hw;have hqt:Q t0.2:=hg.step nd hq _ (dJ.2 ⟨t0,qg hf,rfl⟩);have hA:=akQ EZ hg hk hφ l (i+1) t0.2 (by omega) (fun j s hs=>by
    have:=hu (j+1) s (by simpa using hs);rw[show i+1+j=i+(j+1) by omega];exact this) hqt hw
   have hus:u i=D6 s:=hu 0 s rfl;have nx:=akP (H0:=H0) (w0:=w0) EZ hg nd hq (k:=k) (u:=u) (i:=i) (by omega) s hA (turns (Gb B) nd).length 0 (by omega) (by rw[List.drop_zero];exact hf);refine Gq (fn:=kN) (tb:=aqa) (by kernel_rfl) (by kernel_rfl) ?_;have no {P:Prop} (h:zV.lt (i:Int) (ah k)=ak):P:=by simp[Aa] at h;omega
   have inb:zV.inB (i:Int) k=aC:=by rw[Bj,decide_eq_true_eq];omega
   refine ED (cZ _ _) (Fg EZ _) (hold:=Bg) (m:=300) (n:=400) (ts:=[⟨16,Zg,LNb B k u (i:Nat) (nd.placed:Nat) B.k0 nd.st (D6 s) (turns (Gb B) nd).length (nth ((turns (Gb B) nd).map (Gu B.k0))) ((0:Nat):Int),[]⟩,⟨16,Zh,LNc (turns (Gb B) nd).length (nth ((turns (Gb B) nd).map (Gu B.k0))) 0 (nth []) 0,[]⟩]) ?_;refine ace zV W7 B hs lv k u i _ B.k0 nd.st (D6 s) _ _ (nth []) rfl (fun _=>inb) (fun _=>WM hg hq rfl) (fun q=>no q) (fun _=>?_) (fun q=>no q);exact ⟨⟨rfl,rfl,rfl,rfl,rfl,rfl,rfl,by rw[KD,WO];rfl,by rw[KD];rfl,rfl,rfl,rfl,congrArg Dx.tx hus,congrArg Dx.com hus,trivial⟩,_,rfl,nx⟩
end
theorem ash:Aq aB (AY W7) 16 akN:=by
 intro H w AX args φ hon hgl hr hφ;unfold akN at hφ;split at hφ
 ·rename_i s t v
  split at hφ
  ·rename_i lv k u e1 e2
   obtain ⟨q1,hφ⟩:=hφ;unfold naB at q1;rw[aH,aH,aH,aH,decide_eq_true_eq] at q1;obtain ⟨b1,b2,b3,b4,b5⟩:=q1;obtain ⟨n,g,m,h,rfl,P,l1,l3⟩:=@of_decide_eq_true _ (bD _) b1;have hφ:φ (.Aj [.sl 2 (nxN (hsS n g m h) lv k u) (zW (nxR (hsS n g m h) lv k u)),.v .nilIface]):=hφ;have O:=EZ (Yd P) l1 l3 (ajp P);have hbg:Dk (hsS n g m h) lv=Bl lv n g (Bv n g m h):=rfl;have hT:((Bv n g m h).okb&&decide ((Bv n g m h).n<=12))=aC:=b2;rw[aH,decide_eq_true_eq] at hT;have hG:=TB (lv:=lv) (ae8 P hT.1 hT.2);obtain ⟨nd',hw⟩:=Option.isSome_iff_exists.1 b5;have hL:nxL (hsS n g m h) lv k u=(turns (Gb (Bl lv n g (Bv n g m h))) nd').map fun t=>D6 t.1:=by unfold nxL;rw[hw,hbg]
   unfold nxN nxR at hφ;rw[hL,dY] at hφ;unfold wkO at hw;rw[hbg] at hw;match args,hr with
   |[a0,a1,a2],⟨r0,r1,r2,_⟩=>
   refine Kr (C:=C7 zV W7 (CX (hsS n g m h) lv (Bl lv n g (Bv n g m h))) Am) (cZ _ _) (fn:=kN) (DR:=[hsS n g m h,.i .i64 lv,.sl 2 k (zW (zY (α:=Dx) u))]) (L:=L0) (by kernel_rfl) (by kernel_rfl) hon hgl ⟨r0,Ei e1 r1,DV (BD e2 r2) b3,trivial⟩ ?_;have hn:kN.ntmps=85:=by kernel_rfl
   refine ED (cZ _ _) (Fg O _) (hold:=Bg) (m:=300) (n:=400) (ts:=[⟨16,Xa,LNa (Bl lv n g (Bv n g m h)) k (zY u) ((0:Nat):Int) 0 (Bl lv n g (Bv n g m h)).k0 (Bl lv n g (Bv n g m h)).g0,[]⟩]) ?_;rw[hn];have c0 {P:Prop} (q:zV.lt lv (ah 1)=aC):P:=by simp[Aa] at q;omega
   have c1 {P:Prop} (q:zV.lt (ah 3) lv=aC):P:=by simp[Aa] at q;omega
   have nx:=akQ (H0:=H) (w0:=w) (φ:=φ) (hs:=hsS n g m h) (lv:=lv) O hG b4 (u:=zY u) hφ ((lst Dx k u).map fun x=>(x.tx,x.com)) 0 ⟨0,(Bl lv n g (Bv n g m h)).g0⟩ (by simp) (fun j s hs=>by
    rw[gQ] at hs;unfold lst at hs;rw[gQ] at hs;obtain ⟨hj,_⟩:=aU.1 (show (aX k)[j]?=ay ((aX k)[j]?.getD 0) by
     cases hx:(aX k)[j]? with
     |none=>rw[hx] at hs;cases hs |some x=>rfl)
    rw[List.length_range] at hj;rw[sG hj] at hs;cases hs;rw[Nat.zero_add];rfl) hG.start hw
   exact acd zV W7 (Bl lv n g (Bv n g m h)) lv n m g h k (zY u) ((0:Nat):Int) (c2:=aC) rfl rfl b2 rfl (fun _ _=>@decide_eq_true _ (bD _) ⟨rfl,rfl⟩) (fun q=>c0 q) (fun _ q=>c1 q)
    (fun _ _ _=>⟨⟨rfl,rfl,rfl,rfl,rfl,rfl,rfl,rfl,trivial⟩,_,rfl,nx⟩) (fun _ _ q=>by cases q) (fun _ _ q=>by cases q)
  ·exact hφ.elim
 ·exact hφ.elim
end Go.Proofs
namespace Go.Pl
open Go Go.Sx Go.Proofs Go.Gm Go.Bf
noncomputable def tvB(k:Nat)(s:Sh):Bool:=hpB s&&(!(Ym s).okb&&(if k=0 then (Ym s).Ih else !(Ym s).Ih&&(Ym s).e==k))
noncomputable def tpI(s:Sh):Int:=(Ym s).pos
noncomputable def teN(s:Sh):Nat:=(Ym s).e
end Go.Pl
namespace Go.Proofs
open Go Go.Sx Go.Pl Go.Gm Go.Bf
noncomputable def aqd(k:Nat):List Sh->Tree Sh
 |[s]=>match k with
  |0=>.need (tvB 0 s) (.leaf (.Aj [.sl 0 0 (fun _=>[]),.CG 109 (.pt [.i .i64 (tpI s),.er (teN s) 329])])) |6=>.need (tvB 6 s) (.leaf (.Aj [.sl 0 0 (fun _=>[]),.er 6 329])) |_=>.fail
 |_=>.fail
theorem asi:Aq aB (AY W7) 20 akK:=by
 intro H w AX args φ hon hgl hr hφ;unfold akK at hφ;split at hφ
 ·rename_i s
  obtain ⟨q1,hφ⟩:=hφ;unfold tkB at q1;rw[aH] at q1;obtain ⟨n,g,m,h,rfl,P⟩:=@of_decide_eq_true _ (bD _) q1.1;exact Yd P H w _ args φ hon hgl hr ⟨@decide_eq_true _ (bD _) rfl,fun _=>hφ,fun c=>(by rw[show (Bv n g m h).okb=aC from q1.2] at c;cases c)⟩
 ·exact hφ.elim
theorem awJ(k:Nat):Aq aB (AY W7) 20 (aqd k):=by
 intro H w AX args φ hon hgl hr hφ;unfold aqd at hφ;have key:∀s,tvB k s=aC->(∀(x:k=0),φ (.Aj [.sl 0 0 (fun _=>[]),.CG 109 (.pt [.i .i64 (tpI s),.er (teN s) 329])]))->(∀(x:k≠0),φ (.Aj [.sl 0 0 (fun _=>[]),.er k 329]))->Dq H [s] args->
   Calls aB 20 args.toArray w fun e w'=>∃v s H',e=.returned v/\φ s/\Eh H w s v H' w':=by
  intro s q1 h0 h1 hr;unfold tvB at q1;rw[aH,aH,dW] at q1;obtain ⟨a1,a2,a3⟩:=q1;obtain ⟨n,g,m,h,rfl,P⟩:=@of_decide_eq_true _ (bD _) a1;have a2:(Bv n g m h).okb=ak:=a2;refine Yd P H w _ args φ hon hgl hr ⟨@decide_eq_true _ (bD _) rfl,fun c=>(by rw[a2] at c;cases c),fun _=>⟨fun c=>?_,fun c=>?_⟩⟩
  ·by_cases hk:k=0
   ·exact h0 hk
   ·rw[if_neg hk,aH,dW] at a3
    rw[show (Bv n g m h).Ih=ak from a3.1] at c;cases c
  ·by_cases hk:k=0
   ·rw[if_pos hk] at a3
    rw[show (Bv n g m h).Ih=aC from a3] at c;cases c
   ·rw[if_neg hk,aH,dW,beq_iff_eq] at a3
    rw[show (Bv n g m h).e=k from a3.2];exact h1 hk
 split at hφ
 ·rename_i s
  split at hφ
  ·exact key s hφ.1 (fun _=>hφ.2) (fun x=>(x rfl).elim) hr
  ·exact key s hφ.1 (fun x=>by cases x) (fun _=>hφ.2) hr
  ·exact hφ.elim
 ·exact hφ.elim
theorem awK:Aq aB (AY W7) 16 (aqc 1):=by
 intro H w AX args φ hon hgl hr hφ;unfold aqc at hφ;split at hφ
 ·rename_i s t v
  split at hφ
  ·rename_i lv k u e1 e2
   obtain ⟨b3,q1,hφ⟩:=hφ;unfold neB at q1;rw[aH,aH,dW] at q1;obtain ⟨b1,b2,b4⟩:=q1;rw[if_neg (by decide),aH,dW,beq_iff_eq] at b4;obtain ⟨n,g,m,h,rfl,P,l1,l3⟩:=@of_decide_eq_true _ (bD _) b1;have O:=EZ (Yd P) l1 l3 (ajp P);have b2:(Bl lv n g (Bv n g m h)).okb=ak:=b2;have b5:(Bl lv n g (Bv n g m h)).Ih=ak:=b4.1;have b6:(Bl lv n g (Bv n g m h)).e=1:=b4.2;match args,hr with
   |[a0,a1,a2],⟨r0,r1,r2,_⟩=>
   refine Kr (C:=C7 zV W7 (CX (hsS n g m h) lv (Bl lv n g (Bv n g m h))) Am) (cZ _ _) (fn:=kN) (DR:=[hsS n g m h,.i .i64 lv,.sl 2 k (zW (zY (α:=Dx) u))]) (L:=L0) (by kernel_rfl) (by kernel_rfl) hon hgl ⟨r0,Ei e1 r1,DV (BD e2 r2) b3,trivial⟩ ?_;have hn:kN.ntmps=85:=by kernel_rfl
   refine ED (cZ _ _) (Fg O _) (hold:=Bg) (m:=300) (n:=400) (ts:=[⟨16,Xa,LNa (Bl lv n g (Bv n g m h)) k (zY u) ((0:Nat):Int) 0 (Bl lv n g (Bv n g m h)).k0 (Bl lv n g (Bv n g m h)).g0,[]⟩]) ?_;rw[hn];have c0 {P:Prop} (q:zV.lt lv (ah 1)=aC):P:=by simp[Aa] at q;omega
   have c1 {P:Prop} (q:zV.lt (ah 3) lv=aC):P:=by simp[Aa] at q;omega
   refine acd zV W7 (Bl lv n g (Bv n g m h)) lv n m g h k (zY u) ((0:Nat):Int) (c2:=ak) (c3:=ak) rfl rfl b2 b5 (fun _ _=>@decide_eq_true _ (bD _) ⟨rfl,rfl⟩) (fun q=>c0 q) (fun _ q=>c1 q)
    (fun _ _ q=>by cases q) (fun _ _ _ q=>by cases q) (fun _ _ _ _=>?_)
   rw[b6];exact BH (s':=.Aj [.sl 2 0 (fun _=>[]),.er 1 329]) ⟨.inl ⟨rfl,rfl⟩,rfl,trivial⟩ hφ
  ·exact hφ.elim
 ·exact hφ.elim
open Go Go.Sx Go.Pl
noncomputable def W11:List Sh->Tree Sh
 |[]=>.leaf (.v (.bool aC)) |_=>.fail
end Go.Proofs
namespace Go.Pl
open Go Go.Sx Go.Proofs Go.Gm Go.Bf
def Zu(l:Int):Int:=zV.add .i64 (zV.bin iE aT (zV.add .i64 (zV.bin iE aT l (ah 3)) (ah 3)) (ah 3)) (ah 1)
theorem auQ(l:Int):1<=Zu l/\Zu l<=3:=by
 have h1:-3<l.tmod 3:=by
  have:=Int.lt_tmod_of_pos l (b:=3) (by decide);omega
 have h2:l.tmod 3<3:=uG l (by decide);have e1:zV.add .i64 (zV.bin iE aT l (ah 3)) (ah 3)=l.tmod 3+3:=by
  show aT.wrap (l.tmod 3+3)=_;exact BL (by omega) (by omega)
 unfold Zu;rw[e1];have h3:0<=(l.tmod 3+3).tmod 3:=Int.tmod_nonneg _ (by omega);have h4:(l.tmod 3+3).tmod 3<3:=uG _ (by decide);have e2:zV.add .i64 (zV.bin iE aT (l.tmod 3+3) (ah 3)) (ah 1)=(l.tmod 3+3).tmod 3+1:=by
  show aT.wrap ((l.tmod 3+3).tmod 3+1)=_;exact BL (by omega) (by omega)
 rw[e2];omega
section
variable{n m:Nat}{g h:Nat->List Sh}
theorem ach(P:Yk n g m h){lv:Int}(hl:1<=lv/\lv<=3):hsB (hsS n g m h) lv=aC:=@decide_eq_true _ (bD _) ⟨n,g,m,h,rfl,P,hl.1,hl.2⟩
theorem afe(P:Yk n g m h){lv mo:Int}(hl:1<=lv/\lv<=3)(hm:QM mo=aC)(hb:(Dk (hsS n g m h) lv).okb=aC):gaB (hsS n g m h) lv mo=aC:=by
 unfold gaB;rw[ach P hl,hm,hb];rfl
theorem auR(P:Yk n g m h){lv mo:Int}(hl:1<=lv/\lv<=3)(hm:QM mo=aC)(hb:(Dk (hsS n g m h) lv).okb=ak){k:Nat}(hk:(if k=0 then (Dk (hsS n g m h) lv).Ih else !(Dk (hsS n g m h) lv).Ih&&(Dk (hsS n g m h) lv).e==k)=aC):geB k (hsS n g m h) lv mo=aC:=by
 unfold geB;rw[ach P hl,hm,hb,hk];rfl
end
end Go.Pl
namespace Go.Proofs
open Go Go.Sx Go.Pl Go.Gm Go.Bf
open Go Go.Sx Go.Pl
noncomputable def Xb:Nat->Option (List Sh->Tree Sh)
 |11=>ay W11 |15=>ay adV |16=>ay akN |20=>ay akK |_=>aK
noncomputable def Xc:Nat->Option (List Sh->Tree Sh)
 |11=>ay W11 |15=>ay (ap8 1) |16=>ay (aqc 1) |20=>ay akK |_=>aK
noncomputable def Qx(k:Nat):Nat->Option (List Sh->Tree Sh)
 |11=>ay W11 |20=>ay (aqd k) |_=>aK
theorem ajw(A:Prim)(W:Wd)(o m:Nat)(og mg:Nat->List Sh)(l mo:Int){ψ:D7->Prop}{c0 c1 c2 c3 c4 c5 c6:Bool}(e0:A.le (A.Az o) (ah 100)=c0)(e1:A.nt (A.le (A.Az m) (ah 600))=c1)(e2:A.lt mo (ah 1)=c2)(e3:A.lt (ah 250) mo=c3)(e4:rsB (bM [aG 2 o og,aG 8 m mg]) (A.add .i64 (A.bin iE aT (A.add .i64 (A.bin iE aT l (ah 3)) (ah 3)) (ah 3)) (ah 1)) mo=c4)(e5:A.beq ak (A.lt (ah 12) (A.Az (tnN (bM [aG 2 o og,aG 8 m mg]))))=c5)(e6:A.lt (ah 12) (A.Az (tnN (bM [aG 2 o og,aG 8 m mg])))=c6)(h1:c0=aC->c1=ak->c2=ak->c3=ak->(tkB (bM [aG 2 o og,aG 8 m mg]))=aC)(h2:c0=aC->c1=ak->c2=ak->c3=ak->(gaB (bM [aG 2 o og,aG 8 m mg]) (A.add .i64 (A.bin iE aT (A.add .i64 (A.bin iE aT l (ah 3)) (ah 3)) (ah 3)) (ah 1)) mo)=aC)(h3:c0=aC->c1=ak->c2=ak->c3=ak->c4=aC->(naB (bM [aG 2 o og,aG 8 m mg]) (A.add .i64 (A.bin iE aT (A.add .i64 (A.bin iE aT l (ah 3)) (ah 3)) (ah 3)) (ah 1)) 0 fun _=>[])=aC)(h4:c0=aC->c1=ak->c2=ak->c3=ak->c4=ak->(naB (bM [aG 2 o og,aG 8 m mg]) (A.add .i64 (A.bin iE aT (A.add .i64 (A.bin iE aT l (ah 3)) (ah 3)) (ah 3)) (ah 1)) 0 fun _=>[])=aC)(y1:c0=aC->c1=aC->ψ (aO (eP aC)))(y2:c0=aC->c1=ak->c2=aC->ψ (aO (eP aC)))(y3:c0=aC->c1=ak->c2=ak->c3=aC->ψ (aO (eP aC)))(y4:c0=aC->c1=ak->c2=ak->c3=ak->c4=aC->c5=aC->c5=aC->c6=aC->ψ (aO (eP aC)))(y5:c0=aC->c1=ak->c2=ak->c3=ak->c4=aC->c5=aC->c5=aC->c6=ak->ψ (aO (eP aC)))(y6:c0=aC->c1=ak->c2=ak->c3=ak->c4=aC->c5=aC->c5=ak->ψ (aO (eP ak)))(y7:c0=aC->c1=ak->c2=ak->c3=ak->c4=aC->c5=ak->ψ (aO (eP ak)))(y8:c0=aC->c1=ak->c2=ak->c3=ak->c4=ak->c5=aC->c5=aC->c6=aC->ψ (aO (eP aC)))(y9:c0=aC->c1=ak->c2=ak->c3=ak->c4=ak->c5=aC->c5=aC->c6=ak->ψ (aO (eP aC)))(y10:c0=aC->c1=ak->c2=ak->c3=ak->c4=ak->c5=aC->c5=ak->ψ (aO (eP ak)))(y11:c0=aC->c1=ak->c2=ak->c3=ak->c4=ak->c5=ak->ψ (aO (eP ak)))(y12:c0=ak->ψ (aO (eP aC))):Cb ψ (AP (C7 A W Xb Am) Bg 300 400 6 [.code []] (zZ 84 [.agg [.sl 2 o og,.sl 8 m mg],.i .i64 l,.i .i64 mo] L0) [] []):=by
 subst e0 e1 e2 e3 e4 e5 e6;exact Gf (an (fun q0=>an (y1 q0) (fun q1=>an (y2 q0 q1) (fun q2=>an (y3 q0 q1 q2) (fun q3=>an (h1 q0 q1 q2 q3) (an (h2 q0 q1 q2 q3) (an (fun q4=>an (h3 q0 q1 q2 q3 q4) (an (fun q5=>an (fun q6=>an (y4 q0 q1 q2 q3 q4 q5 q6) (y5 q0 q1 q2 q3 q4 q5 q6)) (y6 q0 q1 q2 q3 q4 q5)) (y7 q0 q1 q2 q3 q4))) (fun q4=>an (h4 q0 q1 q2 q3 q4) (an (fun q5=>an (fun q6=>an (y8 q0 q1 q2 q3 q4 q5 q6) (y9 q0 q1 q2 q3 q4 q5 q6)) (y10 q0 q1 q2 q3 q4 q5)) (y11 q0 q1 q2 q3 q4))))))))) y12) (by kernel_rfl)
theorem ajx(A:Prim)(W:Wd)(o m:Nat)(og mg:Nat->List Sh)(l mo:Int){ψ:D7->Prop}{c0 c1 c2 c3 c4 c5:Bool}(e0:A.le (A.Az o) (ah 100)=c0)(e1:A.nt (A.le (A.Az m) (ah 600))=c1)(e2:A.lt mo (ah 1)=c2)(e3:A.lt (ah 250) mo=c3)(e4:A.beq aC (A.lt (ah 12) (A.Az (tnN (bM [aG 2 o og,aG 8 m mg]))))=c4)(e5:A.lt (ah 12) (A.Az (tnN (bM [aG 2 o og,aG 8 m mg])))=c5)(h1:c0=aC->c1=ak->c2=ak->c3=ak->(tkB (bM [aG 2 o og,aG 8 m mg]))=aC)(h2:c0=aC->c1=ak->c2=ak->c3=ak->(geB 1 (bM [aG 2 o og,aG 8 m mg]) (A.add .i64 (A.bin iE aT (A.add .i64 (A.bin iE aT l (ah 3)) (ah 3)) (ah 3)) (ah 1)) mo)=aC)(h3:c0=aC->c1=ak->c2=ak->c3=ak->(okB Dx 0 fun _=>[])=aC)(h4:c0=aC->c1=ak->c2=ak->c3=ak->(neB 1 (bM [aG 2 o og,aG 8 m mg]) (A.add .i64 (A.bin iE aT (A.add .i64 (A.bin iE aT l (ah 3)) (ah 3)) (ah 3)) (ah 1)))=aC)(y1:c0=aC->c1=aC->ψ (aO (eP aC)))(y2:c0=aC->c1=ak->c2=aC->ψ (aO (eP aC)))(y3:c0=aC->c1=ak->c2=ak->c3=aC->ψ (aO (eP aC)))(y4:c0=aC->c1=ak->c2=ak->c3=ak->c4=aC->c4=aC->c5=aC->ψ (aO (eP aC)))(y5:c0=aC->c1=ak->c2=ak->c3=ak->c4=aC->c4=aC->c5=ak->ψ (aO (eP ak)))(y6:c0=aC->c1=ak->c2=ak->c3=ak->c4=aC->c4=ak->ψ (aO (eP ak)))(y7:c0=aC->c1=ak->c2=ak->c3=ak->c4=ak->ψ (aO (eP ak)))(y8:c0=ak->ψ (aO (eP aC))):Cb ψ (AP (C7 A W Xc Am) Bg 300 400 6 [.code []] (zZ 84 [.agg [.sl 2 o og,.sl 8 m mg],.i .i64 l,.i .i64 mo] L0) [] []):=by
 subst e0 e1 e2 e3 e4 e5;exact Gf (an (fun q0=>an (y1 q0) (fun q1=>an (y2 q0 q1) (fun q2=>an (y3 q0 q1 q2) (fun q3=>an (h1 q0 q1 q2 q3) (an (h2 q0 q1 q2 q3) (an (h3 q0 q1 q2 q3) (an (h4 q0 q1 q2 q3) (an (fun q4=>an (fun q5=>an (y4 q0 q1 q2 q3 q4 q5) (y5 q0 q1 q2 q3 q4 q5)) (y6 q0 q1 q2 q3 q4)) (y7 q0 q1 q2 q3))))))))) y8) (by kernel_rfl)
theorem ajy(A:Prim)(W:Wd)(o m:Nat)(og mg:Nat->List Sh)(l mo:Int){ψ:D7->Prop}{c0 c1 c2 c3:Bool}(e0:A.le (A.Az o) (ah 100)=c0)(e1:A.nt (A.le (A.Az m) (ah 600))=c1)(e2:A.lt mo (ah 1)=c2)(e3:A.lt (ah 250) mo=c3)(h1:c0=aC->c1=ak->c2=ak->c3=ak->(tvB 0 (bM [aG 2 o og,aG 8 m mg]))=aC)(y1:c0=aC->c1=aC->ψ (aO (eP aC)))(y2:c0=aC->c1=ak->c2=aC->ψ (aO (eP aC)))(y3:c0=aC->c1=ak->c2=ak->c3=aC->ψ (aO (eP aC)))(y4:c0=aC->c1=ak->c2=ak->c3=ak->ψ (aO (eP aC)))(y5:c0=ak->ψ (aO (eP aC))):Cb ψ (AP (C7 A W (Qx 0) Am) Bg 300 400 6 [.code []] (zZ 84 [.agg [.sl 2 o og,.sl 8 m mg],.i .i64 l,.i .i64 mo] L0) [] []):=by
 subst e0 e1 e2 e3;exact Gf (an (fun q0=>an (y1 q0) (fun q1=>an (y2 q0 q1) (fun q2=>an (y3 q0 q1 q2) (fun q3=>an (h1 q0 q1 q2 q3) (y4 q0 q1 q2 q3))))) y5) (by kernel_rfl)
theorem ajz(A:Prim)(W:Wd)(o m:Nat)(og mg:Nat->List Sh)(l mo:Int){ψ:D7->Prop}{c0 c1 c2 c3:Bool}(e0:A.le (A.Az o) (ah 100)=c0)(e1:A.nt (A.le (A.Az m) (ah 600))=c1)(e2:A.lt mo (ah 1)=c2)(e3:A.lt (ah 250) mo=c3)(h1:c0=aC->c1=ak->c2=ak->c3=ak->(tvB 6 (bM [aG 2 o og,aG 8 m mg]))=aC)(y1:c0=aC->c1=aC->ψ (aO (eP aC)))(y2:c0=aC->c1=ak->c2=aC->ψ (aO (eP aC)))(y3:c0=aC->c1=ak->c2=ak->c3=aC->ψ (aO (eP aC)))(y4:c0=aC->c1=ak->c2=ak->c3=ak->ψ (aO (eP aC)))(y5:c0=ak->ψ (aO (eP aC))):Cb ψ (AP (C7 A W (Qx 6) Am) Bg 300 400 6 [.code []] (zZ 84 [.agg [.sl 2 o og,.sl 8 m mg],.i .i64 l,.i .i64 mo] L0) [] []):=by
 subst e0 e1 e2 e3;exact Gf (an (fun q0=>an (y1 q0) (fun q1=>an (y2 q0 q1) (fun q2=>an (y3 q0 q1 q2) (fun q3=>an (h1 q0 q1 q2 q3) (y4 q0 q1 q2 q3))))) y5) (by kernel_rfl)
noncomputable def F6:List Sh->Tree Sh
 |[s,t,u]=>match AZ t,AZ u with
  |some _,ay _=>.need (hpB s) (.leaf (.v (.bool aC))) |_,_=>.fail
 |_=>.fail
section
variable(Ye:Aq aB (AY W7) 11 W11)
include Ye
theorem auS(stop:Nat->List Nat->Bool):Bz aB (C7 zV W7 Xb stop):=lQ (fun g F h=>by
 unfold Xb at h;split at h
 ·cases h;exact Ye
 ·cases h;exact akL
 ·cases h;exact ash
 ·cases h;exact asi
 ·cases h) fun g h=>by
 unfold Xb at h;split at h;all_goals first|(cases h;done) |kernel_rfl
theorem auT(stop:Nat->List Nat->Bool):Bz aB (C7 zV W7 Xc stop):=lQ (fun g F h=>by
 unfold Xc at h;split at h
 ·cases h;exact Ye
 ·cases h;exact awF 1
 ·cases h;exact awK
 ·cases h;exact asi
 ·cases h) fun g h=>by
 unfold Xc at h;split at h;all_goals first|(cases h;done) |kernel_rfl
theorem aqe(k:Nat)(stop:Nat->List Nat->Bool):Bz aB (C7 zV W7 (Qx k) stop):=lQ (fun g F h=>by
 unfold Qx at h;split at h
 ·cases h;exact Ye
 ·cases h;exact awJ k
 ·cases h) fun g h=>by
 unfold Qx at h;split at h;all_goals first|(cases h;done) |kernel_rfl
theorem O6:Aq aB (AY W7) 6 F6:=by
 intro H w AX args φ hon hgl hr hφ;unfold F6 at hφ;split at hφ
 ·rename_i s t u
  split at hφ
  ·rename_i l mo e1 e2
   obtain ⟨q1,hφ⟩:=hφ;have q1':=q1;obtain ⟨n,g,m,h,rfl,P⟩:=@of_decide_eq_true _ (bD _) q1;have hφ:φ (.v (.bool aC)):=hφ;have hn:kR.ntmps=84:=by kernel_rfl
   match args,hr with
   |[a0,a1,a2],⟨r0,r1,r2,_⟩=>
   have fin:up φ (.b aC):=BH (s':=.v (.bool aC)) (.inr rfl) hφ;have hl:=auQ l;have mo1 (c2:zV.lt mo (ah 1)=ak) (c3:zV.lt (ah 250) mo=ak):QM mo=aC:=by
    simp[Aa] at c2 c3;unfold QM;rw[decide_eq_true (by omega:1<=mo),decide_eq_true (by omega:mo<=65536)];rfl
   have aff:Dq H [hsS n g m h,.i .i64 l,.i .i64 mo] [a0,a1,a2]:=⟨r0,Ei e1 r1,Ei e2 r2,trivial⟩;cases hb:(Bv n g m h).okb with
   |true=>
    have ht:tkB (hsS n g m h)=aC:=by unfold tkB;rw[q1'];exact hb
    by_cases hN:(Bv n g m h).n<=12
    ·have hg:(Dk (hsS n g m h) (Zu l)).okb=aC:=by
      show ((Bv n g m h).okb&&decide ((Bv n g m h).n<=12))=aC;rw[hb,decide_eq_true hN];rfl
     have lt:zV.lt (ah 12) (zV.Az (tnN (hsS n g m h)))=ak:=by
      rw[Aa,Ar,decide_eq_false_iff_not];show ¬((12:Int)<(((Bv n g m h).n:Nat):Int));omega
     refine Kr (C:=C7 zV W7 Xb Am) (cZ _ _) (fn:=kR) (DR:=[hsS n g m h,.i .i64 l,.i .i64 mo]) (L:=L0) (by kernel_rfl) (by kernel_rfl) hon hgl aff ?_;refine ED (cZ _ _) (auS Ye _) (hold:=Bg) (m:=300) (n:=400) (ts:=[]) ?_;rw[hn];have na:naB (hsS n g m h) (Zu l) 0 (fun _=>[])=aC:=by
      unfold naB;rw[ach P hl,hg];rfl
     exact ajw zV W7 n m g h l mo (c5:=aC) (c6:=ak) rfl rfl rfl rfl rfl (by rw[show zV.lt (ah 12) (zV.Az (tnN (bM [aG 2 n g,aG 8 m h])))=ak from lt,XP];rfl) lt
      (fun _ _ _ _=>ht) (fun _ _ c2 c3=>afe P hl (mo1 c2 c3) hg) (fun _ _ _ _ _=>na) (fun _ _ _ _ _=>na)
      (fun _ _=>fin) (fun _ _ _=>fin) (fun _ _ _ _=>fin) (fun _ _ _ _ _ _ _ _=>fin) (fun _ _ _ _ _ _ _ _=>fin) (fun _ _ _ _ _ _ q=>by cases q) (fun _ _ _ _ _ q=>by cases q) (fun _ _ _ _ _ _ _ _=>fin) (fun _ _ _ _ _ _ _ _=>fin) (fun _ _ _ _ _ _ q=>by cases q) (fun _ _ _ _ _ q=>by cases q) (fun _=>fin)
    ·have hg:(Dk (hsS n g m h) (Zu l)).okb=ak:=by
      show ((Bv n g m h).okb&&decide ((Bv n g m h).n<=12))=ak;rw[hb,decide_eq_false hN];rfl
     have ha:(Dk (hsS n g m h) (Zu l)).Ih=ak:=by
      show (!(Bv n g m h).okb&&(Bv n g m h).Ih)=ak;rw[hb];rfl
     have he:(Dk (hsS n g m h) (Zu l)).e=1:=by
      show (if (Bv n g m h).okb=aC then 1 else (Bv n g m h).e)=1;rw[if_pos hb]
     have lt:zV.lt (ah 12) (zV.Az (tnN (hsS n g m h)))=aC:=by
      rw[Aa,Ar,decide_eq_true_eq];show (12:Int)<(((Bv n g m h).n:Nat):Int);omega
     have hk:(if 1=0 then (Dk (hsS n g m h) (Zu l)).Ih else !(Dk (hsS n g m h) (Zu l)).Ih&&(Dk (hsS n g m h) (Zu l)).e==1)=aC:=by
      rw[if_neg (by decide),ha,he];rfl
     have ne:neB 1 (hsS n g m h) (Zu l)=aC:=by
      unfold neB;rw[ach P hl,hg];exact hk
     refine Kr (C:=C7 zV W7 Xc Am) (cZ _ _) (fn:=kR) (DR:=[hsS n g m h,.i .i64 l,.i .i64 mo]) (L:=L0) (by kernel_rfl) (by kernel_rfl) hon hgl aff ?_;refine ED (cZ _ _) (auT Ye _) (hold:=Bg) (m:=300) (n:=400) (ts:=[]) ?_;rw[hn];exact ajx zV W7 n m g h l mo (c4:=aC) (c5:=aC) rfl rfl rfl rfl (by rw[show zV.lt (ah 12) (zV.Az (tnN (bM [aG 2 n g,aG 8 m h])))=aC from lt,XP];rfl) lt
      (fun _ _ _ _=>ht) (fun _ _ c2 c3=>auR P hl (mo1 c2 c3) hg hk) (fun _ _ _ _=>rfl) (fun _ _ _ _=>ne)
      (fun _ _=>fin) (fun _ _ _=>fin) (fun _ _ _ _=>fin) (fun _ _ _ _ _ _ _=>fin) (fun _ _ _ _ _ _ q=>by cases q) (fun _ _ _ _ _ q=>by cases q) (fun _ _ _ _ q=>by cases q) (fun _=>fin)
   |false=>
    have hk:(Bv n g m h).Ih=aC\/((Bv n g m h).Ih=ak/\(Bv n g m h).e=6):=by
     cases hbig:xu n m with
     |true=>exact .inr ⟨by unfold Bv;simp[hbig],by unfold Bv;simp[hbig]⟩ |false=>exact .inl (by unfold Bv;simp[hbig])
    rcases hk with ha|⟨ha,he⟩
    ·refine Kr (C:=C7 zV W7 (Qx 0) Am) (cZ _ _) (fn:=kR) (DR:=[hsS n g m h,.i .i64 l,.i .i64 mo]) (L:=L0) (by kernel_rfl) (by kernel_rfl) hon hgl aff ?_
     refine ED (cZ _ _) (aqe Ye 0 _) (hold:=Bg) (m:=300) (n:=400) (ts:=[]) ?_;rw[hn];exact ajy zV W7 n m g h l mo rfl rfl rfl rfl (fun _ _ _ _=>by unfold tvB;rw[show hpB (bM [aG 2 n g,aG 8 m h])=aC from q1',show (Ym (bM [aG 2 n g,aG 8 m h])).okb=ak from hb,if_pos rfl];exact ha)
      (fun _ _=>fin) (fun _ _ _=>fin) (fun _ _ _ _=>fin) (fun _ _ _ _=>fin) (fun _=>fin)
    ·refine Kr (C:=C7 zV W7 (Qx 6) Am) (cZ _ _) (fn:=kR) (DR:=[hsS n g m h,.i .i64 l,.i .i64 mo]) (L:=L0) (by kernel_rfl) (by kernel_rfl) hon hgl aff ?_
     refine ED (cZ _ _) (aqe Ye 6 _) (hold:=Bg) (m:=300) (n:=400) (ts:=[]) ?_;rw[hn];exact ajz zV W7 n m g h l mo rfl rfl rfl rfl (fun _ _ _ _=>by unfold tvB;rw[show hpB (bM [aG 2 n g,aG 8 m h])=aC from q1',show (Ym (bM [aG 2 n g,aG 8 m h])).okb=ak from hb,if_neg (by decide),show (Ym (bM [aG 2 n g,aG 8 m h])).Ih=ak from ha,show (Ym (bM [aG 2 n g,aG 8 m h])).e=6 from he];rfl)
      (fun _ _=>fin) (fun _ _ _=>fin) (fun _ _ _ _=>fin) (fun _ _ _ _=>fin) (fun _=>fin)
  ·exact hφ.elim
 ·exact hφ.elim
end
end Go.Proofs
namespace Go.Gm
open Go.Bf
theorem adW{α β:Type}{p:β->Bool}{q:α->Bool}{F:α->β}:∀{l:List α},(∀x∈l,p (F x)=q x)->(l.map F).find? p=(l.find? q).map F
 |[],_=>rfl |a::l,h=>by
  rw[jk,vZ,vZ,h a cu];cases q a with
  |true=>rfl |false=>exact adW fun x hx=>h x (dw _ hx)
section
variable{S S' κ κ':Type}[DecidableEq κ][DecidableEq κ']{g:Game S}{g':Game S'}{key:Nd S->κ}{key':Nd S'->κ'}{f:S'->S}{Q:Nd S'->Prop}
def Du(f:S'->S)(nd:Nd S'):Nd S:=⟨nd.placed,f nd.st⟩
structure NS(g:Game S)(g':Game S')(f:S'->S)(Q:Nd S'->Prop):Prop where
 n:g.n=g'.n
 id:∀i,i<g'.n->g.id i=g'.id i
 com:∀i,i<g'.n->g.com i=g'.com i
 abo:∀i,i<g'.n->g.abo i=g'.abo i
 mask:∀i,i<g'.n->g.mask i=g'.mask i
 all:g.all=g'.all
 run:∀nd,Q nd->∀i,i<g'.n->may g' nd.placed i=aC->g.run (f nd.st) i=(g'.run nd.st i).map f
 step:∀nd,Q nd->∀t∈next g' nd,Q t
theorem aqf(h:NS g g' f Q)(p i:Nat)(hi:i<g'.n):may g p i=may g' p i:=by
 unfold may;rw[h.n,h.mask i hi]
theorem ajA(h:NS g g' f Q){nd:Nd S'}(hq:Q nd){i:Nat}(hi:i<g'.n):GX g (Du f nd) i=(GX g' nd i).map fun t=>(t.1,Du f t.2):=by
 unfold GX;have e:may g (Du f nd).placed i=may g' nd.placed i:=aqf h _ _ hi;rw[e];cases hm:may g' nd.placed i with
 |false=>rfl |true=>
  have hr:=h.run nd hq i hi hm;have hr:g.run (Du f nd).st i=(g'.run nd.st i).map f:=hr;rw[if_pos rfl,if_pos rfl,hr,h.com i hi,h.abo i hi,h.all,h.id i hi,iL];have hs:((g'.run nd.st i).map f).isSome=(g'.run nd.st i).isSome:=by cases g'.run nd.st i<;>rfl
  rw[hs];congr 1
  ·cases g'.com i<;>cases g'.run nd.st i<;>rfl
  ·split<;>rfl
theorem Ve(h:NS g g' f Q){nd:Nd S'}(hq:Q nd):turns g (Du f nd)=(turns g' nd).map fun t=>(t.1,Du f t.2):=by
 unfold turns;rw[h.n,List.map_flatMap,lU,lU];congr 1;exact jM fun i hi=>ajA h hq (dN.1 hi)
theorem adX(h:NS g g' f Q){nd:Nd S'}(hq:Q nd):next g (Du f nd)=(next g' nd).map (Du f):=by
 unfold next;rw[Ve h hq,pJ,pJ];rfl
theorem adY(h:NS g g' f Q)(nd:Nd S'):full g (Du f nd)=full g' nd:=by unfold full;rw[h.n];rfl
variable(hk:∀x y,Q x->Q y->(key (Du f x)=key (Du f y)↔key' x=key' y))
include hk
theorem aqg{o:List (Nd S')}(ho:∀x∈o,Q x){n:Nd S'}(hn:Q n):JB key (o.map (Du f)) (key (Du f n))=JB key' o (key' n):=by
 rw[wo,JC,JC];constructor
 ·intro ⟨x,hx,e⟩
  obtain ⟨y,hy,rfl⟩:=dJ.1 hx;exact ⟨y,hy,(hk y n (ho y hy) hn).1 e⟩
 ·intro ⟨y,hy,e⟩
  exact ⟨Du f y,dJ.2 ⟨y,hy,rfl⟩,(hk y n (ho y hy) hn).2 e⟩
theorem aqh{m:Nat}{o:List (Nd S')}(ho:∀x∈o,Q x){n:Nd S'}(hn:Q n):Hl key m (o.map (Du f)) (Du f n)=(Hl key' m o n).map (mG (Du f)):=by
 unfold Hl;rw[aqg hk ho hn,dY];split
 ·rfl
 ·split
  ·rfl
  ·simp
theorem adZ{m:Nat}:∀{l o:List (Nd S')},(∀x∈o,Q x)->(∀x∈l,Q x)->Fb key m (o.map (Du f)) (l.map (Du f))=(Fb key' m o l).map (mG (Du f))
 |[],o,_,_=>rfl |n::l,o,ho,hl=>by
  rw[jk,Fb,Fb,aqh hk ho (hl n cu)];cases hp:Hl key' m o n with
  |none=>rfl |some o1=>exact adZ (adB hp ho (hl n cu)) fun x hx=>hl x (dw _ hx)
theorem ahG(h:NS g g' f Q){m:Nat}:∀{fu i:Nat} {o:List (Nd S')},(∀x∈o,Q x)->LM key (next g) m fu (o.map (Du f)) i=(LM key' (next g') m fu o i).map (mG (Du f))
 |0,_,_,_=>rfl |fu+1,i,o,ho=>by
  rw[LM,LM,gQ];cases hi:o[i]? with
  |none=>rfl |some n=>
   have hn:=ho n (List.mem_of_getElem? hi);simp only[Option.map_some];rw[adX h hn,adZ hk ho (h.step n hn)];cases hp:Fb key' m o (next g' n) with
   |none=>rfl |some o1=>exact ahG h (Tq hp ho (h.step n hn))
theorem Qy(h:NS g g' f Q):∀{r:List (Nd S')},(∀x∈r,Q x)->∀n,Q n->H6 key (next g) (full g) (r.map (Du f)) (key (Du f n))=H6 key' (next g') (full g') r (key' n)
 |[],_,_,_=>rfl |a::r,hr,n,hn=>by
  have ha:=hr a cu;have hr':=fun x hx=>hr x (dw a hx);rw[jk,H6,H6];by_cases e:key' a=key' n
  ·rw[if_pos e,if_pos ((hk a n ha hn).2 e),adY h,adX h ha,List.any_map]
   congr 1;rw[wo,o9,o9];constructor
   ·intro ⟨t,ht,q⟩
    exact ⟨t,ht,by rw[<-Qy h hr' t (h.step a ha t ht)];exact q⟩
   ·intro ⟨t,ht,q⟩
    exact ⟨t,ht,(Qy h hr' t (h.step a ha t ht)).trans q⟩
  ·rw[if_neg e,if_neg (fun q=>e ((hk a n ha hn).1 q))]
   exact Qy h hr' n hn
theorem ajB(h:NS g g' f Q){s:S'}(hs:Q (start s))(m:Nat):EH g key (f s) m=(EH g' key' s m).map (mG (Du f)):=by
 unfold EH;have:=ahG hk h (m:=m) (fu:=m+1) (i:=0) (o:=[start s]) (fun x hx=>by
  obtain rfl:x=start s:=by simpa using hx
  exact hs)
 exact this
theorem akR(h:NS g g' f Q){r:List (Nd S')}(hr:∀x∈r,Q x){n:Nd S'}(hn:Q n):UU g key (r.map (Du f)) (Du f n)=UU g' key' r n:=Qy hk h hr n hn
theorem ahH(h:NS g g' f Q){r:List (Nd S')}(hr:∀x∈r,Q x){s:S'}(hs:Q (start s)):RY g key (f s) (r.map (Du f))=RY g' key' s r:=akR hk h hr hs
theorem aci(h:NS g g' f Q){r:List (Nd S')}(hr:∀x∈r,Q x):∀fu (n:Nd S'),Q n->least g (UU g key (r.map (Du f))) fu (Du f n)=least g' (UU g' key' r) fu n
 |0,_,_=>rfl |fu+1,n,hn=>by
  rw[least,least,adY h,Ve h hn];rw[adW (p:=fun t=>UU g key (r.map (Du f)) t.2) (q:=fun t=>UU g' key' r t.2) (F:=fun t=>(t.1,Du f t.2)) fun t ht=>akR hk h hr (h.step n hn _ (dJ.2 ⟨t,ht,rfl⟩))];cases hf:(turns g' n).find? fun t=>UU g' key' r t.2 with
  |none=>rfl |some t=>
   have ht:=h.step n hn t.2 (dJ.2 ⟨t,qg hf,rfl⟩);show (if full g' n=aC then [] else t.1::least g (UU g key (r.map (Du f))) fu (Du f t.2))=_;rw[aci h hr fu t.2 ht]
theorem ajC(h:NS g g' f Q){r:List (Nd S')}(hr:∀x∈r,Q x){s:S'}(hs:Q (start s)):JD g key (f s) (r.map (Du f))=JD g' key' s r:=by
 unfold JD;rw[ahH hk h hr hs,h.n];split
 ·exact aci hk h hr _ _ hs
 ·rfl
omit hk in
end
end Go.Gm
namespace Go.Pl
open Go Go.Sx Go.Proofs Go.Gm Go.Bf
def Ii(l:List Cj)(j:Nat):Cj:=l.getD j Nc
def SE(n:Nat):List Cj->List Dd->Option (List Cj)
 |l,[]=>ay l |l,d::r=>if d.ret=0 then SE n l r else if Yb n (Ii l) d.obj d.op d.key d.val=aC then
   (if (Ey (Ii l d.obj.toNat) d.op d.key d.val).2.1=d.ret/\(Ey (Ii l d.obj.toNat) d.op d.key d.val).2.2=d.got then SE n (l.set d.obj.toNat (Ey (Ii l d.obj.toNat) d.op d.key d.val).1) r else aK) else aK
def Gw(n:Nat)(g0:SG)(l:List Cj):SG:=fun j=>if j<n then CY (Ii l j) else g0 j
def Kt(B:Ho):Game (List Cj) where
 n:=B.N
 id i:=(B.T i).id
 com i:=(B.T i).st==3||(B.T i).st==2
 abo i:=!((B.T i).st==3)
 mask i:=(B.ms i).toNat
 run l i:=SE B.k0 l (lst Dd (B.T i).k (B.T i).g)
 all:=B.lv==3
def Po(nd:Nd (List Cj)):Nat×List Cj:=(nd.placed,nd.st)
section
variable{n:Nat}{g0:SG}
theorem acj(l:List Cj):∀j,j<n->Gw n g0 l j=CY (Ii l j):=fun j hj=>if_pos hj
theorem aqi(l:List Cj):∀j,j<n->Ee n (Gw n g0 l) j=Ii l j:=akd (acj l)
theorem al8(l:List Cj)(k:Nat)(s:Cj)(hk:k<l.length)(j:Nat):Ii (l.set k s) j=if j=k then s else Ii l j:=by
 unfold Ii;rw[aY,aY,List.getElem?_set];by_cases e:k=j
 ·subst e;simp[hk]
 ·rw[if_neg e,if_neg (fun h=>e h.symm)]
theorem afg(n:Nat)(g0:SG):∀(dd:List Dd) (l:List Cj) (i:Nat),l.length=n->
  match SE n l dd with
  |some l'=>HY n (Gw n g0 l) i dd=.inr (Gw n g0 l')/\l'.length=n |none=>∃q,HY n (Gw n g0 l) i dd=.inl q
 |[],l,i,hl=>⟨rfl,hl⟩ |d::dd,l,i,hl=>by
  unfold SE HY;by_cases h0:d.ret=0
  ·rw[if_pos h0,if_pos h0]
   exact afg n g0 dd l (i+1) hl
  ·rw[if_neg h0,if_neg h0]
   have hok:TL n (Gw n g0 l) d.obj d.op d.key d.val=Yb n (Ii l) d.obj d.op d.key d.val:=ab3 (aqi l) _ _ _ _;rw[hok];by_cases h1:Yb n (Ii l) d.obj d.op d.key d.val=aC
   ·rw[if_pos h1,if_pos h1]
    obtain ⟨hi,_⟩:=ahv h1;have hi':0<=d.obj/\d.obj<n:=of_decide_eq_true hi;have hs:Ee n (Gw n g0 l) d.obj.toNat=Ii l d.obj.toNat:=aqi l _ (by omega);have hr:agZ n (Gw n g0 l) d.obj d.op d.key d.val=(Ey (Ii l d.obj.toNat) d.op d.key d.val).2.1:=by unfold agZ;rw[hs]
    have hgt:ag0 n (Gw n g0 l) d.obj d.op d.key d.val=(Ey (Ii l d.obj.toNat) d.op d.key d.val).2.2:=by unfold ag0;rw[hs]
    have hn:abl n (Gw n g0 l) d.obj d.op d.key d.val=Gw n g0 (l.set d.obj.toNat (Ey (Ii l d.obj.toNat) d.op d.key d.val).1):=by
     funext j;show (if Jz n d.obj=aC/\j=d.obj.toNat then CY (Ey (Ee n (Gw n g0 l) d.obj.toNat) d.op d.key d.val).1 else Gw n g0 l j)=if j<n then CY (Ii (l.set d.obj.toNat _) j) else g0 j;rw[hs,al8 _ _ _ (by omega)];by_cases e:j=d.obj.toNat
     ·rw[if_pos ⟨hi,e⟩,if_pos (by omega),if_pos e]
     ·rw[if_neg (fun q=>e q.2),if_neg e];rfl
    rw[hr,hgt,hn];by_cases h2:(Ey (Ii l d.obj.toNat) d.op d.key d.val).2.1=d.ret/\(Ey (Ii l d.obj.toNat) d.op d.key d.val).2.2=d.got
    ·rw[if_pos h2,if_pos h2]
     exact afg n g0 dd _ (i+1) (by rw[List.length_set];exact hl)
    ·rw[if_neg h2,if_neg h2]
     exact ⟨_,rfl⟩
   ·rw[if_neg h1,if_neg h1]
    exact ⟨_,rfl⟩
end
section
variable{lv:Int}{n:Nat}{og:Nat->List Sh}{B:UZ}
def QlP(lv:Int)(n:Nat)(og:Nat->List Sh)(B:UZ)(nd:Nd (List Cj)):Prop:=nd.st.length=n/\QnP lv n og B (Du (Gw n (Hr og)) nd)
theorem ajD(nd:Nd (List Cj))(hl:nd.st.length=n)(i:Nat):
  (Gb (Bl lv n og B)).run (Gw n (Hr og) nd.st) i=((Kt (Bl lv n og B)).run nd.st i).map (Gw n (Hr og))/\∀l',(Kt (Bl lv n og B)).run nd.st i=ay l'->l'.length=n:=by
 have h:=afg n (Hr og) (lst Dd ((Bl lv n og B).T i).k ((Bl lv n og B).T i).g) nd.st 0 hl;show (if plO n (Gw n (Hr og) nd.st) ((Bl lv n og B).T i).k ((Bl lv n og B).T i).g=aC then ay (TM n (Gw n (Hr og) nd.st) ((Bl lv n og B).T i).k ((Bl lv n og B).T i).g) else aK)=(SE n nd.st (lst Dd ((Bl lv n og B).T i).k ((Bl lv n og B).T i).g)).map (Gw n (Hr og))/\∀l',SE n nd.st (lst Dd ((Bl lv n og B).T i).k ((Bl lv n og B).T i).g)=ay l'->l'.length=n;unfold plO TM abp abq;cases hp:SE n nd.st (lst Dd ((Bl lv n og B).T i).k ((Bl lv n og B).T i).g) with
 |some l'=>
  rw[hp] at h;rw[h.1];exact ⟨rfl,fun l2 e=>by cases e;exact h.2⟩
 |none=>
  rw[hp] at h;obtain ⟨q,hq⟩:=h;rw[hq];exact ⟨rfl,fun l2 e=>by cases e⟩
theorem Xd(P:TbP n og B):NS (Gb (Bl lv n og B)) (Kt (Bl lv n og B)) (Gw n (Hr og)) (QlP lv n og B) where
 n:=rfl
 id _ _:=rfl
 com _ _:=rfl
 abo _ _:=rfl
 mask _ _:=rfl
 all:=rfl
 run nd hq i _ _:=(ajD nd hq.1 i).1
 step nd hq t ht:=by
  have hG:=TB (lv:=lv) P;have hlen:t.st.length=n:=by
   unfold next turns at ht;obtain ⟨x,hx,rfl⟩:=dJ.1 ht;obtain ⟨i,hi,hx⟩:=kK.1 hx;unfold GX at hx;split at hx
   ·rcases bK.1 hx with hx|hx
    ·split at hx
     ·rename_i s e1 e2
      obtain rfl:x=_:=by simpa using hx
      exact (ajD (lv:=lv) (og:=og) (B:=B) nd hq.1 i).2 s e2
     ·cases hx
    ·split at hx
     ·obtain rfl:x=_:=by simpa using hx
      exact hq.1
     ·cases hx
   ·cases hx
  refine ⟨hlen,hG.step _ hq.2 _ ?_⟩;have key:NS (Gb (Bl lv n og B)) (Kt (Bl lv n og B)) (Gw n (Hr og)) (fun x=>x=nd/\x.st.length=n)\/True:=.inr trivial;unfold next turns at ht ⊢;obtain ⟨x,hx,rfl⟩:=dJ.1 ht;obtain ⟨i,hi,hx⟩:=kK.1 hx;refine dJ.2 ⟨(x.1,Du (Gw n (Hr og)) x.2),kK.2 ⟨i,hi,?_⟩,rfl⟩;have hr:=(ajD (lv:=lv) (og:=og) (B:=B) nd hq.1 i).1;unfold GX at hx ⊢;have em:may (Gb (Bl lv n og B)) (Du (Gw n (Hr og)) nd).placed i=may (Kt (Bl lv n og B)) nd.placed i:=rfl;rw[em];have hr':(Gb (Bl lv n og B)).run (Du (Gw n (Hr og)) nd).st i=((Kt (Bl lv n og B)).run nd.st i).map (Gw n (Hr og)):=hr;rw[hr'];split at hx
  ·rename_i hm
   rw[if_pos hm];rcases bK.1 hx with hx|hx
   ·refine List.mem_append_left _ ?_
    split at hx
    ·rename_i s e1 e2
     obtain rfl:x=_:=by simpa using hx
     rw[e2];have e1':(Gb (Bl lv n og B)).com i=aC:=e1;rw[e1'];exact tC.2 rfl
    ·cases hx
   ·refine List.mem_append_right _ ?_
    split at hx
    ·rename_i hc
     obtain rfl:x=_:=by simpa using hx
     have hc':(Gb (Bl lv n og B)).abo i=aC/\((Gb (Bl lv n og B)).all=aC->(((Kt (Bl lv n og B)).run nd.st i).map (Gw n (Hr og))).isSome=aC):=⟨hc.1,fun q=>by
      have:=hc.2 q;revert this;cases (Kt (Bl lv n og B)).run nd.st i<;>simp⟩
     rw[if_pos hc'];exact tC.2 rfl
    ·cases hx
  ·cases hx
theorem al9{l l':List Cj}(h1:l.length=n)(h2:l'.length=n)(h:∀j,j<n->Ii l j=Ii l' j):l=l':=by
 apply List.ext_getElem (by omega);intro j hj hj';have:=h j (by omega);unfold Ii at this;rw[aY,aY,aV hj,aV hj'] at this;exact this
theorem ajE:∀x y,QlP lv n og B x->QlP lv n og B y->(CP n (Du (Gw n (Hr og)) x)=CP n (Du (Gw n (Hr og)) y)↔Po x=Po y):=fun x y hx hy=>by
 constructor
 ·intro h
  have e:=adU _ _ hx.2 hy.2 h;obtain ⟨p,l⟩:=x;obtain ⟨p',l'⟩:=y;have e1:p=p':=congrArg Nd.placed e;have e2:Gw n (Hr og) l=Gw n (Hr og) l':=congrArg Nd.st e;have e3:l=l':=al9 hx.1 hy.1 fun j hj=>by
   have:=congrFun e2 j;rw[acj l j hj,acj l' j hj] at this;exact Tj this
  rw[e1,e3]
 ·intro h
  obtain ⟨p,l⟩:=x;obtain ⟨p',l'⟩:=y;have h:(p,l)=(p',l'):=h;cases h;rfl
def newL(n:Nat)(og:Nat->List Sh):List Cj:=(aX n).map fun j=>newT (zY og) j
theorem afh:Gw n (Hr og) (newL n og)=Hr og:=by
 funext j;unfold Gw;split
 ·rename_i hj
  unfold Ii newL;rw[aY,gQ,sG hj];rfl
 ·rfl
theorem SH(P:TbP n og B):QlP lv n og B (je (newL n og)):=⟨by show (newL n og).length=n;unfold newL;simp,by
 have h:=(TB (lv:=lv) P).start;have e:Du (Gw n (Hr og)) (je (newL n og))=⟨0,(Bl lv n og B).g0⟩:=by
  show (⟨0,Gw n (Hr og) (newL n og)⟩:Nd SG)=⟨0,Hr og⟩;rw[afh]
 rw[e];exact h⟩
end
open Go Go.Sx Go.Proofs Go.Gm Go.Bf
def ex(k t th o p v r:Int):List Sh:=[.i .i64 k,.i .i64 t,.i .i64 th,.i .i64 o,.i .i64 p,.i .i64 0,.i .i64 v,.i .i64 r]
def Ef:Nat->List Sh:=AQ [[.i .i64 1,.i .i64 0]]
def exL:List (List Sh):=[ex 1 1 0 0 0 0 0,ex 1 2 1 0 0 0 0,ex 2 1 0 0 1 0 0,ex 3 1 0 0 0 0 3,ex 2 2 0 0 1 0 0,ex 3 2 0 0 0 0 3,ex 2 1 0 0 2 1 0,ex 3 1 0 0 0 0 1,ex 2 2 0 0 2 2 0,ex 3 2 0 0 0 0 1,ex 4 1 0 0 0 0 0,ex 5 1 0 0 0 0 0,ex 4 2 0 0 0 0 0]
def Ip:Nat->List Sh:=AQ exL
def Zv:Nat->List Sh:=zV.snoc Ip 13 (AQ [ex 5 2 0 0 0 0 0])
section
variable{n m:Nat}{g h:Nat->List Sh}{lv:Int}
theorem ajF(P:Yk n g m h)(hb:(Dk (hsS n g m h) lv).okb=aC)(mo:Int):
  rsP (hsS n g m h) lv mo=(EH (Kt (Dk (hsS n g m h) lv)) Po (newL n g) mo.toNat).map (mG (Du (Gw n (Hr g))))/\
  ∀r,EH (Kt (Dk (hsS n g m h) lv)) Po (newL n g) mo.toNat=ay r->ryB (hsS n g m h) lv mo=RY (Kt (Dk (hsS n g m h) lv)) Po (newL n g) r/\rtL (hsS n g m h) lv mo=(JD (Kt (Dk (hsS n g m h) lv)) Po (newL n g) r).map D6/\rcI (hsS n g m h) lv mo=((r.length:Nat):Int):=by
 have hT:((Bv n g m h).okb&&decide ((Bv n g m h).n<=12))=aC:=hb;rw[aH,decide_eq_true_eq] at hT;have T:=ae8 P hT.1 hT.2;have hp:=ajB (key:=CP n) (key':=Po) (ajE (lv:=lv)) (Xd T) (SH T) mo.toNat;rw[afh] at hp;have e1:rsP (hsS n g m h) lv mo=(EH (Kt (Dk (hsS n g m h) lv)) Po (newL n g) mo.toNat).map (mG (Du (Gw n (Hr g)))):=hp;refine ⟨e1,fun r hr=>?_⟩;have hr':EH (Kt (Bl lv n g (Bv n g m h))) Po (newL n g) mo.toNat=ay r:=hr;have hq:∀x∈r,QlP lv n g (Bv n g m h) x:=OY (Xd T).step hr' (fun x hx=>by
  obtain rfl:x=je (newL n g):=by simpa using hx
  exact SH T)
 have eL:rsL (hsS n g m h) lv mo=r.map (Du (Gw n (Hr g))):=by unfold rsL;rw[e1,hr];rfl
 have hy:=ahH (key:=CP n) (key':=Po) (ajE (lv:=lv)) (Xd T) hq (SH T);have hs:=ajC (key:=CP n) (key':=Po) (ajE (lv:=lv)) (Xd T) hq (SH T);rw[afh] at hy hs;refine ⟨?_,?_,?_⟩
 ·unfold ryB;rw[eL];exact hy
 ·unfold rtL;rw[eL];exact congrArg (mG D6) hs
 ·unfold rcI;rw[eL,dY]
end
theorem exH:Yk 1 Ef 13 Ip:=⟨by kernel_rfl,by kernel_rfl,by kernel_rfl,by kernel_rfl⟩
theorem aqk:Yk 1 Ef 14 Zv:=⟨by kernel_rfl,by kernel_rfl,by kernel_rfl,by kernel_rfl⟩
theorem Yn:(Dk (hsS 1 Ef 13 Ip) 1).okb=aC:=by kernel_rfl
theorem akS:(Dk (hsS 1 Ef 14 Zv) 1).okb=aC:=by kernel_rfl
theorem awM:(match EH (Kt (Dk (hsS 1 Ef 13 Ip) 1)) Po (newL 1 Ef) 100 with
  |some r=>r.length==5&&(RY (Kt (Dk (hsS 1 Ef 13 Ip) 1)) Po (newL 1 Ef) r&&decide (JD (Kt (Dk (hsS 1 Ef 13 Ip) 1)) Po (newL 1 Ef) r=[(1,aC),(2,ak)])) |none=>ak)=aC:=by kernel_rfl
theorem awN:(EH (Kt (Dk (hsS 1 Ef 13 Ip) 1)) Po (newL 1 Ef) 4).isNone=aC:=by kernel_rfl
theorem awO:(match EH (Kt (Dk (hsS 1 Ef 14 Zv) 1)) Po (newL 1 Ef) 100 with
  |some r=>r.length==3 && !RY (Kt (Dk (hsS 1 Ef 14 Zv) 1)) Po (newL 1 Ef) r |none=>ak)=aC:=by kernel_rfl
theorem awP:((turns (Kt (Dk (hsS 1 Ef 13 Ip) 1)) (je (newL 1 Ef))).map (·.1))=[(1,aC),(2,aC),(2,ak)]:=by kernel_rfl
end Go.Pl
namespace Go.Sx
def Tree.way{α:Type}:Tree α->List Bh->Option (List Bh×α)
 | .leaf a,l=>ay (l,a) | .node b t f,l=>bif b then t.way l else f.way l | .need b t,l=>bif b then t.way l else aK | .must q t,l=>t.way (q++l) | .both _ _,_=>aK | .fail,_=>aK
theorem Bh.all_append:∀{l m:List Bh},dF (l++m)->dF l/\dF m
 |[],_,h=>⟨trivial,h⟩ |_::_,_,h=>let ⟨h1,h2⟩:=Bh.all_append h.2;⟨⟨h.1,h1⟩,h2⟩
theorem Tree.NT{α:Type}{φ:α->Prop}:∀{t:Tree α} {l q:List Bh} {a:α},t.way l=ay (q,a)->dF q->φ a->t.All φ/\dF l
 | .leaf _,_,_,_,h,hq,ha=>by cases h;exact ⟨ha,hq⟩ | .node b t f,l,q,a,h,hq,ha=>by
  cases b with
  |true=>exact ⟨⟨fun _=>(Tree.NT (t:=t) h hq ha).1,fun e=>by cases e⟩,(Tree.NT (t:=t) h hq ha).2⟩ |false=>exact ⟨⟨fun e=>(by cases e),fun _=>(Tree.NT (t:=f) h hq ha).1⟩,(Tree.NT (t:=f) h hq ha).2⟩
 | .need b t,l,q,a,h,hq,ha=>by
  cases b with
  |true=>exact ⟨⟨rfl,(Tree.NT (t:=t) h hq ha).1⟩,(Tree.NT (t:=t) h hq ha).2⟩ |false=>cases h
 | .must e t,l,q,a,h,hq,ha=>by
  have h1:=Tree.NT (t:=t) (φ:=φ) h hq ha;have h2:=Bh.all_append h1.2;exact ⟨⟨h2.1,h1.1⟩,h2.2⟩
 | .both _ _,_,_,_,h,_,_=>by cases h | .fail,_,_,_,h,_,_=>by cases h
end Go.Sx
namespace Go.Pl
open Go Go.Sx
def Zw(α:Type)[Go.BF.Row α][DecidableEq α](n:Nat)(g:Nat->List Sh)(n0:Nat)(g0:Nat->List Sh):Bool:=Go.BF.okB α n g&&(fB n n0&&decide (sH α n g=sH α n0 g0))
def auU:List (List Sh):=[[.i .i64 1,.b aC],[.i .i64 2,.b ak]]
def auV:List (List Sh):=[[.i .i64 1,.b aC],[.i .i64 2,.b aC],[.i .i64 2,.b ak]]
end Go.Pl
namespace Go.Proofs
open Go Go.Sx Go.Pl
noncomputable def aql:List Sh->Tree Sh
 |[.agg [.sl 2 n o,.sl 8 m e],t,u]=>match AZ t,AZ u with
  |some lv,ay mo=>bif Zw iO n o 1 Ef&&lv==1 then
    bif Zw jl m e 13 Ip then bif mo==100 then .leaf (.Aj [.agg [.b aC,.sl 2 2 (AQ auU),.i .i64 5],.v .nilIface])
     else bif mo==4 then .leaf (.Aj [.agg [.b ak,.sl 2 0 (fun _=>[]),.i .i64 0],.er 0 329]) else .fail
    else bif Zw jl m e 14 Zv&&mo==100 then .leaf (.Aj [.agg [.b ak,.sl 2 0 (fun _=>[]),.i .i64 3],.v .nilIface]) else .fail
   else .fail
  |_,_=>.fail
 |_=>.fail
noncomputable def aqm:List Sh->Tree Sh
 |[.agg [.sl 2 n o,.sl 8 m e],t,v]=>match AZ t,DJ 2 v with
  |some lv,ay (k,_)=>bif Zw iO n o 1 Ef&&(lv==1&&(Zw jl m e 13 Ip&&fB k 0)) then .leaf (.Aj [.sl 2 3 (AQ auV),.v .nilIface]) else .fail |_,_=>.fail
 |_=>.fail
noncomputable def Xe:Nat->Option (List Sh->Tree Sh)
 |15=>ay aql |16=>ay aqm |19=>ay D19 |_=>aK
noncomputable def C11:Ctx:={C7 zV W7 Xe Ak with lits:=aC}
theorem w11:Tree.way (AP C11 Bg 900 3000 11 [.code []] (zZ 94 [] L0) [] []) []=ay ([],aO (eP aC)):=by kernel_rfl
end Go.Proofs
