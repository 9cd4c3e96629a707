/- Own work. -/
import Derived.Test.YthehnhaoiijkhaaGreatDoorM09
open Int (ofNat)
open And renaming intro->bW
open BitVec renaming ofInt->fZ,toNat_and->sW,toNat_ofNat->iY
open Bool renaming true->aC,or_eq_true->mZ,and_eq_true->aH,false->ak
open Classical renaming propDecidable->bD,byContradiction->nD
open Go.BinOp renaming or->iT,shl->ig
open Go.Fn renaming yield->oq
open Go.IntKind renaming i64->aT
open Go.Proofs.C7 renaming UK->lQ,ok->cZ
open Go.Proofs.Tryz renaming prog->aB,f120->zO,f75->rG,f118->zQ,f144->qE,f92->pF,f76->rH
open Go.Sx.Bh renaming sh->aP,val->kQ,int->aj,nat->aJ,get->aS,Le->bC
open Go.Sx.D7 renaming at_->bJ,ret->aO
open Go.Sx.It renaming inBlock->dA,code->bF
open Go.Sx.Sh renaming sl->aG,str->dn,Aj->cO,agg->bM,i->aW,er->aZ,CG->pG,pt->sU,b->eP
open Go.Sx.Tree renaming leaf->aA,need->aI,node->aF,must->aQ
open Go.Value renaming func->lJ,nilIface->bI
open Int renaming ofNat->ah,toNat_natCast->fJ
open Int.ofNat renaming inj->kT
open List renaming getD_eq_getElem?_getD->aY,getElem?_append_left->dI,range->aX,all_eq_true->dK,mem_range->dN,getElem_mem->kC,mem_cons->gY,mem_map->dJ,range_succ->pY,map_append->iL,map_congr_left->jM,mem_append->bK,mem_cons_self->cu,mem_cons_of_mem->dw,mem_of_getElem?->bT,mem_iff_getElem->mD,getElem?_eq_getElem->aV,getElem?_eq_some_iff->aU,pairwise_singleton->lD,pairwise_iff_getElem->jA,countP_append->sV,mem_flatMap->kK
open List.Pairwise renaming nil->pI
open Nat renaming mul_le_mul_right->dP,lt_or_ge->oP,shiftLeft_eq->lZ,one_mul->iF,or_lt_two_pow->oW,pow_lt_pow_right->jw,lt_of_le_of_lt->uq,mod_eq_of_lt->iC,min_eq_left->qx,shiftRight_eq_div_pow->qp,and_comm->yT,lt_of_lt_of_le->lu,pow_le_pow_right->mO,testBit_lt_two_pow->qW,zero_testBit->vX,beq->fB
open Option renaming some->ay,none->aK
namespace Go.Pl
open Go Go.Sx
def Ey(s:Cj)(op k v:Int):Cj×Int×Int:=
 if op=1\/op=4 then (s,3,s.num)
 else if op=2 then ({s with num:=v},1,0)
 else if op=3 then ({s with num:=JL s.num v},1,0)
 else if op=5 then ({s with q:=s.q++[v]},1,0)
 else if op=6 then ({s with q:=s.q.tail},TT s.q.length,s.q.headD 0)
 else if op=7 then ({s with ps:=EP s.ps k v},1,0)
 else if op=8 then (s,Lr s.ps k,KN s.ps k)
 else if op=9 then ({s with ps:=FN s.ps k},Lr s.ps k,KN s.ps k)
 else (s,0,0)
def newT(o:Nat->Oj)(j:Nat):Cj:=⟨(o j).kind,(o j).init,[],[]⟩
def noT:Nat->List Sh:=fun _=>[]
end Go.Pl
namespace Go.Proofs
open Go Go.Sx Go.Pl
theorem ODs:∀g F,GV g=ay F->Aq aB (AY W7) g F:=fun g F h=>by
 unfold GV at h;split at h
 ·cases h;exact O66
 ·cases h;exact O67
 ·cases h;exact O68
 ·cases h;exact O69
 ·cases h;exact O94
 ·cases h;exact O95
 ·cases h;exact O96
 ·cases h;exact O97
 ·cases h;exact O99
 ·cases h;exact avs
 ·cases h;exact avv
 ·cases h;exact avw
 ·cases h
theorem TV(stop:Nat->List Nat->Bool):Bz aB (C7 zV W7 GV stop):=lQ ODs fun g h=>by
 unfold GV at h;split at h;all_goals first|(cases h;done) |kernel_rfl
def F42:List Sh->Tree Sh
 |[.agg [.i .i64 x,.i .i64 y,s2,s3],t,u,v]=>match DJ 1 s2,DJ 2 s3,AZ t,AZ u,AZ v with
  |some (a,h),ay (b,l),ay op,ay k,ay v=>.need (okB Int a h) (.need (okB Pr b l) (.need (Bo (a+1) 8) (.node (Gt x op) (.leaf (.Aj [.agg (CY Nc),.i .i64 0,.i .i64 0,.er 8 329])) (.node (Ig x y op k v) (.leaf (.Aj [.agg (CY Nc),.i .i64 0,.i .i64 0,.er 15 329]))
    (.need (J6 op b l) (.leaf (.Aj [.agg (CY (Ey ⟨x,y,lst Int a h,lst Pr b l⟩ op k v).1),.i .i64 (Ey ⟨x,y,lst Int a h,lst Pr b l⟩ op k v).2.1,.i .i64 (Ey ⟨x,y,lst Int a h,lst Pr b l⟩ op k v).2.2,.v .nilIface])))))))
  |_,_,_,_,_=>.fail
 |_=>.fail
theorem aoc{α:Type}[Row α](l:List α)(a:α):∀i,i<l.length+1->FY l.length (zW (nth l)) (Row.put a) i=zW (nth (l++[a])) i:=fun i hi=>by
 unfold FY;split
 ·rename_i h1
  simp only[zW,nth];rw[aY,aY,dI h1]
 ·have:i=l.length:=by omega
  subst this;simp[zW,nth]
theorem Tn{α:Type}[Row α](o:Nat->α):zY (zW o)=o:=funext fun i=>Nb o i
section
variable{H0:Mem}{w0:World}{φ:Sh->Prop}
theorem avz{x y op k v:Int}{q:List Int}{ps:List Pr}(hr:Bo (q.length+1) 8=aC)(hop:op=1\/op=2\/op=3\/op=4\/op=5\/op=6\/op=7\/op=8\/op=9)(hm:J6 op ps.length (zW (nth ps))=aC)(hkey:Em k=aC)
  (hφ:φ (.Aj [.agg (CY (Ey ⟨x,y,q,ps⟩ op k v).1),.i .i64 (Ey ⟨x,y,q,ps⟩ op k v).2.1,.i .i64 (Ey ⟨x,y,q,ps⟩ op k v).2.2,.v .nilIface])) :
  Bc aB (C7 zV W7 GV Am) (K0 H0 w0) 120 Nk (L42 x y q.length ps.length (zW (nth q)) (zW (nth ps)) op k v) [] emp (up φ):=by
 have lit (n:Int) (h:Bc aB (C7 zV W7 GV Am) (K0 H0 w0) 120 Nk (TU x y q.length ps.length (zW (nth q)) (zW (nth ps)) n k v) [] emp (up φ)):Bc aB (C7 zV W7 GV Am) (K0 H0 w0) 120 Nk (L42 x y q.length ps.length (zW (nth q)) (zW (nth ps)) n k v) [] emp (up φ):=
  alx _ (fun H E vs hd=>agP 1 rfl hd) h
 have fin (s':Cj) (r g:Int) (e:Ey ⟨x,y,q,ps⟩ op k v=(s',r,g)) (c:List Sh) (hc:Nu c (CY s')):up φ (.Aj [.agg c,.i .i64 r,.i .i64 g,.v .nilIface]):=
  BH (s':=.Aj [.agg (CY (Ey ⟨x,y,q,ps⟩ op k v).1),.i .i64 (Ey ⟨x,y,q,ps⟩ op k v).2.1,.i .i64 (Ey ⟨x,y,q,ps⟩ op k v).2.2,.v .nilIface]) (by rw[e];exact ⟨hc,rfl,rfl,rfl,trivial⟩) hφ
 rcases hop with rfl|rfl|rfl|rfl|rfl|rfl|rfl|rfl|rfl
 ·refine lit 1 (G9 (cZ _ _) (TV _) (hold:=Bg) (m:=300) (n:=400) (ts:=[]) ?_)
  rw[asX zV W7 x y q.length ps.length (zW (nth q)) (zW (nth ps)) k v];have:=fin _ _ _ rfl [.i .i64 x,.i .i64 y,.sl 1 q.length (zW (nth q)),.sl 2 ps.length (zW (nth ps))] (by simp[Ey,CY,Wk,Nu,len]);repeat' (first|exact trivial|exact rfl|exact this|refine bW ?_ ?_)
 ·refine lit 2 (G9 (cZ _ _) (TV _) (hold:=Bg) (m:=300) (n:=400) (ts:=[]) ?_)
  rw[asY zV W7 x y q.length ps.length (zW (nth q)) (zW (nth ps)) k v];have:=fin _ _ _ rfl [.i .i64 x,.i .i64 v,.sl 1 q.length (zW (nth q)),.sl 2 ps.length (zW (nth ps))] (by simp[Ey,CY,Wk,Nu,len]);repeat' (first|exact trivial|exact rfl|exact this|refine bW ?_ ?_)
 ·refine lit 3 (G9 (cZ _ _) (TV _) (hold:=Bg) (m:=300) (n:=400) (ts:=[]) ?_)
  rw[asZ zV W7 x y q.length ps.length (zW (nth q)) (zW (nth ps)) k v];have:=fin _ _ _ rfl [.i .i64 x,.i .i64 (JL y v),.sl 1 q.length (zW (nth q)),.sl 2 ps.length (zW (nth ps))] (by simp[Ey,CY,Wk,Nu,len]);repeat' (first|exact trivial|exact rfl|exact this|refine bW ?_ ?_)
 ·refine lit 4 (G9 (cZ _ _) (TV _) (hold:=Bg) (m:=300) (n:=400) (ts:=[]) ?_)
  rw[as1 zV W7 x y q.length ps.length (zW (nth q)) (zW (nth ps)) k v];have:=fin _ _ _ rfl [.i .i64 x,.i .i64 y,.sl 1 q.length (zW (nth q)),.sl 2 ps.length (zW (nth ps))] (by simp[Ey,CY,Wk,Nu,len]);repeat' (first|exact trivial|exact rfl|exact this|refine bW ?_ ?_)
 ·refine lit 5 (G9 (cZ _ _) (TV _) (hold:=Bg) (m:=300) (n:=400) (ts:=[]) ?_)
  rw[as2 zV W7 x y q.length ps.length (zW (nth q)) (zW (nth ps)) k v];have:=fin _ _ _ rfl [.i .i64 x,.i .i64 y,.sl 1 (q.length+1) (FY q.length (zW (nth q)) [.i .i64 v]),.sl 2 ps.length (zW (nth ps))] ⟨rfl,rfl,.inr ⟨rfl,by simp[Ey,len],aoc q v⟩,.inr ⟨rfl,rfl,fun _ _=>rfl⟩,trivial⟩;repeat' (first|exact trivial|exact hr|exact rfl|exact this|refine bW ?_ ?_)
 ·refine lit 6 (G9 (cZ _ _) (TV _) (hold:=Bg) (m:=300) (n:=400) (ts:=[]) ?_)
  rw[as3 zV W7 x y q.length ps.length (zW (nth q)) (zW (nth ps)) k v,Tn];have hh:Qi q.length (nth q)=q.headD 0:=by cases q<;>rfl
  rw[hh];have:=fin _ _ _ rfl [.i .i64 x,.i .i64 y,.sl 1 (Qh q.length) (NM (zW (nth q))),.sl 2 ps.length (zW (nth ps))] ⟨rfl,rfl,.inr ⟨rfl,by simp[Ey,len,Qh],fun j hj=>by
   show zW (nth q) (1+j)=zW (nth q.tail) j;simp only[zW,nth];cases q with
   |nil=>rfl |cons z r=>simp[Nat.add_comm 1 j]⟩,.inr ⟨rfl,rfl,fun _ _=>rfl⟩,trivial⟩
  repeat' (first|exact trivial|exact D5 _ _|exact rfl|exact this|refine bW ?_ ?_)
 all_goals
  have hm2:(!decide (Lm _=4)||(Hf ps.length (zW (nth ps))&&Bo (ps.length+1) 16))=aC:=hm;have hm3:Hf ps.length (zW (nth ps))=aC/\Bo (ps.length+1) 16=aC:=by
   rw[show decide (Lm _=4)=aC from rfl] at hm2;simpa using hm2
  obtain ⟨m1,m2⟩:=hm3;have el:lst Pr ps.length (zW (nth ps))=ps:=KI ps
 ·refine lit 7 (G9 (cZ _ _) (TV _) (hold:=Bg) (m:=300) (n:=400) (ts:=[]) ?_)
  rw[as4 zV W7 x y q.length ps.length (zW (nth q)) (nth ps) k v,el];have:=fin _ _ _ rfl [.i .i64 x,.i .i64 y,.sl 1 q.length (zW (nth q)),.sl 2 (len (EP ps k v)) (zW (nth (EP ps k v)))] (by simp[Ey,CY,Wk,Nu,len]);repeat' (first|exact trivial|exact m1|exact m2|exact hkey|exact rfl|exact this|refine bW ?_ ?_)
 ·refine lit 8 (G9 (cZ _ _) (TV _) (hold:=Bg) (m:=300) (n:=400) (ts:=[]) ?_)
  rw[as5 zV W7 x y q.length ps.length (zW (nth q)) (nth ps) k v,el];have:=fin _ _ _ rfl [.i .i64 x,.i .i64 y,.sl 1 q.length (zW (nth q)),.sl 2 ps.length (zW (nth ps))] (by simp[Ey,CY,Wk,Nu,len]);repeat' (first|exact trivial|exact m1|exact m2|exact hkey|exact rfl|exact this|refine bW ?_ ?_)
 ·refine lit 9 (G9 (cZ _ _) (TV _) (hold:=Bg) (m:=300) (n:=400) (ts:=[]) ?_)
  rw[as6 zV W7 x y q.length ps.length (zW (nth q)) (nth ps) k v,el];have:=fin _ _ _ rfl [.i .i64 x,.i .i64 y,.sl 1 q.length (zW (nth q)),.sl 2 (len (FN ps k)) (zW (nth (FN ps k)))] (by simp[Ey,CY,Wk,Nu,len]);repeat' (first|exact trivial|exact m1|exact m2|exact hkey|exact rfl|exact this|refine bW ?_ ?_)
end
theorem agR{op:Int}(h0:Lm op≠0):op=1\/op=2\/op=3\/op=4\/op=5\/op=6\/op=7\/op=8\/op=9:=by
 unfold Lm at h0;repeat' split at h0
 all_goals first|omega|simp_all
theorem O42:Aq aB (AY W7) 120 F42:=by
 refine FM (C:=C7 zV W7 GV Am) (cZ _ _) (fn:=zO) (by kernel_rfl) (by kernel_rfl) fun H w AX args φ hrep h=>?_
 have hn:zO.ntmps=88:=by kernel_rfl
 unfold F42 at h;split at h
 ·rename_i x y s2 s3 t u v
  split at h
  ·rename_i a hh b l op k vv hs2 hs3 ht hu hv
   obtain ⟨h1,h2,h3,he,hb⟩:=h;have hml:J6 op b l=aC->J6 op (lst Pr b l).length (zW (nth (lst Pr b l)))=aC:=fun hq=>by
    unfold J6 Hf at hq ⊢;rw[KI,E5,D5];simp only[mZ,aH] at hq ⊢;rcases hq with hq|hq
    ·exact .inl hq
    ·exact .inr ⟨⟨⟨trivial,hq.1.1.2⟩,hq.1.2⟩,hq.2⟩
   match args,hrep with
   |[v0,v1,v2,v3],⟨r0,r1,r2,r3,_⟩=>
    refine ⟨[.agg [.i .i64 x,.i .i64 y,.sl 1 (lst Int a hh).length (zW (nth (lst Int a hh))),.sl 2 (lst Pr b l).length (zW (nth (lst Pr b l)))],.i .i64 op,.i .i64 k,.i .i64 vv],⟨Hw r0 (fun u hu=>KC (BD hs2 hu) h1) (fun u hu=>KC (BD hs3 hu) h2),Ei ht r1,Ei hu r2,Ei hv r3,trivial⟩,L0,?_⟩;have h3:Bo ((lst Int a hh).length+1) 8=aC:=by rw[E5];exact h3
    have hb:Gt x op=ak->(Ig x y op k vv=aC->φ (.Aj [.agg (CY Nc),.i .i64 0,.i .i64 0,.er 15 329]))/\(Ig x y op k vv=ak->J6 op (lst Pr b l).length (zW (nth (lst Pr b l)))=aC/\φ (.Aj [.agg (CY (Ey ⟨x,y,lst Int a hh,lst Pr b l⟩ op k vv).1),.i .i64 (Ey ⟨x,y,lst Int a hh,lst Pr b l⟩ op k vv).2.1,.i .i64 (Ey ⟨x,y,lst Int a hh,lst Pr b l⟩ op k vv).2.2,.v .nilIface])):=fun e=>⟨(hb e).1,fun e2=>⟨hml ((hb e).2 e2).1,((hb e).2 e2).2⟩⟩;clear hml;generalize lst Int a hh=q at *;generalize lst Pr b l=ps at *;have e1 (e:Gt x op=aC):up φ (.Aj [.agg [.i .i64 (ah 0),.i .i64 (ah 0),.sl 0 0 fun _=>[],.sl 0 0 fun _=>[]],.i .i64 (ah 0),.i .i64 (ah 0),.er 8 329]):=
     BH (s':=.Aj [.agg (CY Nc),.i .i64 0,.i .i64 0,.er 8 329]) ⟨⟨rfl,rfl,.inl ⟨rfl,rfl⟩,.inl ⟨rfl,rfl⟩,trivial⟩,rfl,rfl,rfl,trivial⟩ (he e)
    have e3 (e:Gt x op=ak) (e2:Ig x y op k vv=aC):up φ (.Aj [.agg [.i .i64 (ah 0),.i .i64 (ah 0),.sl 0 0 fun _=>[],.sl 0 0 fun _=>[]],.i .i64 (ah 0),.i .i64 (ah 0),.er 15 329]):=
     BH (s':=.Aj [.agg (CY Nc),.i .i64 0,.i .i64 0,.er 15 329]) ⟨⟨rfl,rfl,.inl ⟨rfl,rfl⟩,.inl ⟨rfl,rfl⟩,trivial⟩,rfl,rfl,rfl,trivial⟩ ((hb e).1 e2)
    have go (e:Gt x op=ak) (e2:Ig x y op k vv=ak):∃t:Ns,([⟨120,Nk,L42 x y q.length ps.length (zW (nth q)) (zW (nth ps)) op k vv,[]⟩]:List Ns)[0]?=ay t/\Bc aB (C7 zV W7 GV Am) (K0 H w) t.g t.td t.c t.stk emp (up φ):=
     ⟨_,rfl,avz h3 (agR (by
      simp[Gt] at e;rw[e.2];exact e.1)) ((hb e).2 e2).1 (by
       simp[Ig] at e2;unfold Em;exact decide_eq_true (by omega)) ((hb e).2 e2).2⟩
    refine agj (cZ _ _) (TV _) (pause:=agQ) (m:=300) (n:=400) (ts:=[⟨120,Nk,L42 x y q.length ps.length (zW (nth q)) (zW (nth ps)) op k vv,[]⟩]) ?_;rw[hn,a42 zV W7 x y q.length ps.length (zW (nth q)) (zW (nth ps)) op k vv];have q0:ah 0=0:=rfl;have q3:ah 3=3:=rfl;have qk:ah 1000=1000:=rfl;have q4:ah 1000000000=1000000000:=rfl;have q6:Int.negSucc 999999999=-1000000000:=rfl;have qa:zV.add .i64 y vv=JL y vv:=rfl;rw[q0] at e1 e3;simp only[Ap,BP,Aa,q0,q3,qk,q4,q6,qa];clear he hb h3 hn;repeat' (first|exact trivial|exact rfl|(intro _) |refine bW ?_ ?_)
    all_goals first
     |exact e1 (by simp_all [Gt])
     |exact e3 (by simp_all [Gt]) (by simp_all [Ig])
     |exact go (by simp_all [Gt]) (by simp_all [Ig])
  ·exact h.elim
 ·exact h.elim
open Go Go.Sx Go.Pl
theorem OCs:∀g F,Qj g=ay F->Aq aB (AY W7) g F:=fun g F h=>by
 unfold Qj at h;split at h
 ·cases h;exact O33
 ·cases h;exact O35
 ·cases h;exact O41
 ·cases h;exact O49
 ·cases h;exact O50
 ·cases h;exact O54
 ·cases h;exact O56
 ·cases h
theorem aod(stop:Nat->List Nat->Bool):Bz aB (C7 zV W7 Qj stop):=lQ OCs fun g h=>by
 unfold Qj at h;split at h;all_goals first|(cases h;done) |kernel_rfl
def F25:List Sh->Tree Sh
 |[s0]=>match DJ 2 s0 with
  |some (n,g)=>.need (okB Oj n g) (.need (Qd n (zY g)) (.node (RI n) (.leaf (.Aj [.agg [.sl 4 0 noT],.er 6 329])) (.node (Nh n (zY g)) (.leaf (.Aj [.agg [.sl 4 n (BX (newT (zY g)))],.v .nilIface])) (.leaf (.Aj [.agg [.sl 4 0 noT],.CG 109 (.pt [.i .i64 (KL n (zY g)),.er 7 329])]))))) |none=>.fail
 |_=>.fail
theorem aly{n j:Nat}{g:Nat->List Sh}{r:List Sh}(h:j<n):FY n g r j=g j:=if_pos h
theorem adx{n:Nat}{g:Nat->List Sh}{r:List Sh}:FY n g r n=r:=if_neg (by omega)
section
variable{H0:Mem}{w0:World}{φ:Sh->Prop}
theorem akm{n:Nat}{o:Nat->Oj}(hn:n<=8)(hk:∀j,j<n->CQ (o j).kind=aC)(hT:∀j,j<n->EM (o j).kind (o j).init=ak)(hφ:φ (.Aj [.agg [.sl 4 n (BX (newT o))],.v .nilIface])):
  ∀r k (gg:Nat->List Sh),k+r=n->(∀j,j<k->gg j=CY (newT o j))->Bc aB (C7 zV W7 Qj Am) (K0 H0 w0) 75 YV (WE n o (k:Int) k gg ak) [] emp (up φ)
 |r,k,gg,hkr,hg=>by
  refine Gq (fn:=rG) (tb:=akl) (by kernel_rfl) (by kernel_rfl) ?_;refine G9 (cZ _ _) (aod _) (hold:=Bg) (m:=300) (n:=400) (ts:=[⟨75,YV,WE n o (k+1:Nat) (k+1) (FY k gg (CY (newT o k))) ak,[]⟩]) ?_;rw[b25 zV W7 n o k (k+1:Nat) k (k+1) gg (FY k gg (CY (newT o k)))];simp only[Aa,Bj,CJ,Df,GU,fJ];refine ⟨fun h=>?_,fun h=>?_⟩
  ·have hlt:k<n:=by simp at h;omega
   refine ⟨by simp;omega,hk k hlt,fun hb=>(by rw[hT k hlt] at hb;cases hb),fun _=>⟨room_le (by omega) (by omega),⟨rfl,rfl,?_,rfl,trivial⟩,_,rfl,?_⟩⟩
   ·simp only[Bh.ok];rw[BL (by omega) (by omega)];rfl
   ·match r,hkr with
    |0,hkr=>omega |r+1,hkr=>
     refine akm hn hk hT hφ r (k+1) _ (by omega) fun j hj=>?_
     by_cases e:j=k
     ·subst e;exact adx
     ·rw[aly (by omega)];exact hg j (by omega)
  ·have:k=n:=by simp at h;omega
   subst this;exact BH (s':=.Aj [.agg [.sl 4 k (BX (newT o))],.v .nilIface]) ⟨⟨.inr ⟨rfl,rfl,hg⟩,trivial⟩,rfl,trivial⟩ hφ
end
theorem O25:Aq aB (AY W7) 75 F25:=by
 refine FM (C:=C7 zV W7 Qj Am) (cZ _ _) (fn:=rG) (by kernel_rfl) (by kernel_rfl) fun H w AX args φ hrep h=>?_
 have hn:rG.ntmps=38:=by kernel_rfl
 unfold F25 at h;split at h
 ·rename_i s0
  split at h
  ·rename_i n g hs0
   obtain ⟨h1,h2,hbig,hsm⟩:=h;have hsm:RI n=ak->(Nh n (zY g)=aC->φ (.Aj [.agg [.sl 4 n (BX (newT (zY g)))],.v .nilIface]))/\(Nh n (zY g)=ak->φ (.Aj [.agg [.sl 4 0 noT],.CG 109 (.pt [.i .i64 (KL n (zY g)),.er 7 329])])):=hsm;match args,hrep with
   |[v],⟨hv,_⟩=>
    refine ⟨[.sl 2 n (zW (zY (α:=Oj) g))],⟨DV (BD hs0 hv) h1,trivial⟩,L0,?_⟩;generalize zY (α:=Oj) g=o at *;refine G9 (cZ _ _) (aod _) (hold:=Bg) (m:=300) (n:=400) (ts:=[⟨75,YV,WE n o (0:Nat) 0 noT aC,[]⟩]) ?_;rw[hn,a25 zV W7 n o (0:Nat) 0 noT,Tn];refine ⟨D5 _ _,h2,fun e=>BH (s':=.Aj [.agg [.sl 4 0 noT],.er 6 329]) ⟨⟨.inl ⟨rfl,rfl⟩,trivial⟩,rfl,trivial⟩ (hbig e),fun e=>?_⟩;obtain ⟨q1,q2⟩:=hsm e;have hn8:n<=8:=by simp[RI] at e;omega
    refine ⟨fun e=>⟨⟨rfl,rfl,rfl,trivial⟩,_,rfl,?_⟩,fun e=>BH (s':=.Aj [.agg [.sl 4 0 noT],.CG 109 (.pt [.i .i64 (KL n o),.er 7 329])]) ⟨⟨.inl ⟨rfl,rfl⟩,trivial⟩,rfl,trivial⟩ (q2 e)⟩;have hT:∀j,j<n->EM (o j).kind (o j).init=ak:=fun j hj=>by simpa using Ie e j hj
    refine Gq (fn:=rG) (tb:=akl) (by kernel_rfl) (by kernel_rfl) ?_;refine G9 (cZ _ _) (aod _) (hold:=Bg) (m:=300) (n:=400) (ts:=[⟨75,YV,WE n o (1:Nat) 1 (FY 0 (fun _=>[]) (CY (newT o 0))) ak,[]⟩]) ?_;rw[c25 zV W7 n o (0:Nat) (1:Nat) 0 1 noT (FY 0 (fun _=>[]) (CY (newT o 0)))];simp only[Aa,Bj,CJ,Df,GU,fJ];refine ⟨fun h=>?_,fun h=>?_⟩
    ·have hlt:0<n:=by simp at h;omega
     refine ⟨by simp;omega,Ie h2 0 hlt,fun hb=>(by rw[hT 0 hlt] at hb;cases hb),fun _=>⟨room_le (by omega) (by omega),⟨rfl,rfl,?_,rfl,trivial⟩,_,rfl,?_⟩⟩
     ·simp only[Bh.ok];rw[BL (by omega) (by omega)];rfl
     ·refine akm hn8 (Ie h2) hT (q1 e) (n - 1) 1 _ (by omega) fun j hj=>?_
      obtain rfl:j=0:=by omega
      exact adx
    ·have:n=0:=by simp at h;omega
     subst this;exact BH (s':=.Aj [.agg [.sl 4 0 (BX (newT o))],.v .nilIface]) ⟨⟨.inl ⟨rfl,rfl⟩,trivial⟩,rfl,trivial⟩ (q1 e)
  ·exact h.elim
 ·exact h.elim
end Go.Proofs
namespace Go.Pl
open Go Go.Sx
structure Lk7 where
 key:Cj->List UInt8
 join:Nat->(Nat->List Sh)->List UInt8->List UInt8
def sQ(x y:Int)(a:Nat)(h:Nat->List Sh)(b:Nat)(l:Nat->List Sh):Cj:=⟨x,y,lst Int a h,lst Pr b l⟩
def YW(x y:Int)(a:Nat)(h:Nat->List Sh)(b:Nat)(l:Nat->List Sh):Bool:=
 okB Int a h&&okB Pr b l&&CQ x&&CQ y&&anM a (zY h)&&arW b (zY l)&&decide (a<=100000/\b<=100000)
def abg(n:Nat)(g:Nat->List Sh)(sep:List UInt8):Bool:=okB (List UInt8) n g&&Bo n 16&&Ik (Dj (lst (List UInt8) n g) sep)
end Go.Pl
namespace Go.Proofs
open Go Go.Sx Go.Pl
def G35(L:Lk7):List Sh->Tree Sh
 |[.agg [.i .i64 x,.i .i64 y,s2,s3]]=>match DJ 1 s2,DJ 2 s3 with
  |some (a,h),ay (b,l)=>.need (YW x y a h b l) (.leaf (.str (L.key (sQ x y a h b l)))) |_,_=>.fail
 |_=>.fail
def G56(L:Lk7):List Sh->Tree Sh
 |[s0,.str sep]=>match DJ 1 s0 with
  |some (n,g)=>.need (abg n g sep) (.leaf (.str (L.join n g sep))) |none=>.fail
 |_=>.fail
def F64:List Sh->Tree Sh
 |[.agg [s0]]=>match DJ 4 s0 with
  |some (n,g)=>.need (Bo n 64) (.leaf (.sl 4 n g)) |none=>.fail
 |_=>.fail
def KZ(L:Lk7):Nat->Option (List Sh->Tree Sh)
 |116=>ay (G35 L) |117=>ay (G56 L) |118=>ay F64 |_=>aK
def agS:List Nat:=[0,1,0,1,1]
def k32:List It:=[dA 0,bF [1,1,1]]
def ar1(j:Nat)(gg:Nat->List Sh):Bool->SV×List (Nat×SB)
 |true=>(.Aw,[]) |false=>(.gs 2,[(2,.own 9 1 j gg)])
def ar2(n:Nat)(d:Nat->Cj)(j:Nat)(gg:Nat->List Sh)(v:Bool):List (Nat×SB):=[(0,.box [(ar1 j gg v).1] 236),(1,.box [.sh (.sl 4 n (BX d))] 100)]++(ar1 j gg v).2
def ar4:List SV:=Gs 17 [(3,.ptr 0 0),(7,.fn 144 [.ptr 1 0])]
def L32(n:Nat)(d:Nat->Cj):Core:={tm:=ar4,hp:=ar2 n d 0 (fun _=>[]) aC,nx:=2,lim:=L0,tc:=[]}
def Zo(l:Nat):List Fw:=[⟨92,aK,k32,ar4,ay (l,agS,.ready)⟩]
def TW:List It:=[bF [0,1],dA 0]
def akn:List It:=bF [0,0,1]::TW
def avA:Bool->Nat
 |true=>2 |false=>3
def L63(n:Nat)(d:Nat->Cj)(l:Nat)(k:Int)(j:Nat)(gg:Nat->List Sh)(v:Bool):Core:=
 {tm:=Gs 20 [(0,.val (yv l)),(7,.sh (.sl 4 n (BX d))),(8,.sym .i64 (n:Int)),(9,.sym .i64 k)],hp:=ar2 n d j gg v,nx:=avA v,lim:=L0,tc:=[]}
theorem a32(A:Prim)(W:Wd)(L:Lk7)(n:Nat)(d:Nat->Cj):agt (C7 A W (KZ L) Am) KH 300 800 92 aK [.code []] (zZ 17 [.agg [.sl 4 n (BX d)]] L0) [] [⟨92,aK,.code agS::k32,L32 n d,[]⟩]=aA (bJ 0 [aP (aG 4 n (BX d)) (aG 4 n (BX d))]):=by kernel_rfl
theorem t32(A:Prim)(W:Wd)(L:Lk7)(n:Nat)(d:Nat->Cj)(l:Nat)(k:Int)(j:Nat)(gg:Nat->List Sh):agt (C7 A W (KZ L) Am) KH 300 800 144 aK [.code []] {L32 n d with tm:=(.val (yv l)::[.ptr 1 0])++List.replicate (20 - (1+1)) .any} (Zo l) [⟨144,aK,TW,L63 n d l k j gg aC,Zo l⟩]=aI (Bo n 64) (aA (bJ 0 [kQ (lJ (oq l) {toList:=[]} {toList:=[]}) (lJ (oq l) {toList:=[]} {toList:=[]}),aP (aG 4 n (BX d)) (aG 4 n (BX d)),aj (A.Az n) (ah n),aj (ah 0) k,aP (aG 4 n (BX d)) (aG 4 n (BX d)),aJ l l])):=by kernel_rfl
noncomputable def agT(A:Prim)(L:Lk7)(n:Nat)(d:Nat->Cj)(k:Int):List Bh:=[aj k k,aj (d (A.toN k)).kind (d (A.toN k)).kind,aj (d (A.toN k)).num (d (A.toN k)).num,aP (aG 1 (len (d (A.toN k)).q) (zW (nth (d (A.toN k)).q))) (aG 1 (len (d (A.toN k)).q) (zW (nth (d (A.toN k)).q))),aP (aG 2 (len (d (A.toN k)).ps) (zW (nth (d (A.toN k)).ps))) (aG 2 (len (d (A.toN k)).ps) (zW (nth (d (A.toN k)).ps))),aP (aG 4 n (BX d)) (aG 4 n (BX d)),aj (d (A.toN k)).kind (d (A.toN k)).kind,aj (d (A.toN k)).num (d (A.toN k)).num,aP (aG 1 (len (d (A.toN k)).q) (zW (nth (d (A.toN k)).q))) (aG 1 (len (d (A.toN k)).q) (zW (nth (d (A.toN k)).q))),aP (aG 2 (len (d (A.toN k)).ps) (zW (nth (d (A.toN k)).ps))) (aG 2 (len (d (A.toN k)).ps) (zW (nth (d (A.toN k)).ps))),aj (d (A.toN k)).kind (d (A.toN k)).kind,aj (d (A.toN k)).num (d (A.toN k)).num,aP (aG 1 (len (d (A.toN k)).q) (zW (nth (d (A.toN k)).q))) (aG 1 (len (d (A.toN k)).q) (zW (nth (d (A.toN k)).q))),aP (aG 2 (len (d (A.toN k)).ps) (zW (nth (d (A.toN k)).ps))) (aG 2 (len (d (A.toN k)).ps) (zW (nth (d (A.toN k)).ps))),aP (dn (L.key (sQ (d (A.toN k)).kind (d (A.toN k)).num (len (d (A.toN k)).q) (zW (nth (d (A.toN k)).q)) (len (d (A.toN k)).ps) (zW (nth (d (A.toN k)).ps))))) (dn (L.key (sQ (d (A.toN k)).kind (d (A.toN k)).num (len (d (A.toN k)).q) (zW (nth (d (A.toN k)).q)) (len (d (A.toN k)).ps) (zW (nth (d (A.toN k)).ps))))),aP (dn (L.key (sQ (d (A.toN k)).kind (d (A.toN k)).num (len (d (A.toN k)).q) (zW (nth (d (A.toN k)).q)) (len (d (A.toN k)).ps) (zW (nth (d (A.toN k)).ps))))) (dn (L.key (sQ (d (A.toN k)).kind (d (A.toN k)).num (len (d (A.toN k)).q) (zW (nth (d (A.toN k)).q)) (len (d (A.toN k)).ps) (zW (nth (d (A.toN k)).ps)))))]
theorem avC(A:Prim)(W:Wd)(L:Lk7)(n:Nat)(d:Nat->Cj)(l:Nat)(k k':Int)(j j':Nat)(gg H7:Nat->List Sh):agt (C7 A W (KZ L) Am) KH 300 800 144 aK akn (L63 n d l k j gg aC) (Zo l) [⟨144,aK,TW,L63 n d l k' j' H7 ak,Zo l⟩]=aF (A.lt k (ah n)) (aI (A.inB k n) (aQ [aJ l l] (aQ [aJ l l] (aI (YW (d (A.toN k)).kind (d (A.toN k)).num (len (d (A.toN k)).q) (zW (nth (d (A.toN k)).q)) (len (d (A.toN k)).ps) (zW (nth (d (A.toN k)).ps))) (aI (YW (d (A.toN k)).kind (d (A.toN k)).num (len (d (A.toN k)).q) (zW (nth (d (A.toN k)).q)) (len (d (A.toN k)).ps) (zW (nth (d (A.toN k)).ps))) (aQ (agT A L n d k) (aQ (agT A L n d k) (aQ [aJ l l] (aA (bJ 0 [kQ (lJ (oq l) {toList:=[]} {toList:=[]}) (lJ (oq l) {toList:=[]} {toList:=[]}),aP (aG 4 n (BX d)) (aG 4 n (BX d)),aj (ah n) (ah n),aj (A.add .i64 k (ah 1)) k',aP (aG 4 n (BX d)) (aG 4 n (BX d)),aJ 1 j',aS 1 (AQ [[dn (L.key (sQ (d (A.toN k)).kind (d (A.toN k)).num (len (d (A.toN k)).q) (zW (nth (d (A.toN k)).q)) (len (d (A.toN k)).ps) (zW (nth (d (A.toN k)).ps))))]]) H7,aJ l l])))))))))) (aI (abg 0 (fun (x:Nat)=>[]) [59,32]) (aA (aO (dn (L.join 0 (fun (x:Nat)=>[]) [59,32]))))):=by kernel_rfl
noncomputable def agU(A:Prim)(L:Lk7)(n:Nat)(d:Nat->Cj)(k:Int)(j:Nat)(gg:Nat->List Sh):List Bh:=[aj k k,aj (d (A.toN k)).kind (d (A.toN k)).kind,aj (d (A.toN k)).num (d (A.toN k)).num,aP (aG 1 (len (d (A.toN k)).q) (zW (nth (d (A.toN k)).q))) (aG 1 (len (d (A.toN k)).q) (zW (nth (d (A.toN k)).q))),aP (aG 2 (len (d (A.toN k)).ps) (zW (nth (d (A.toN k)).ps))) (aG 2 (len (d (A.toN k)).ps) (zW (nth (d (A.toN k)).ps))),aP (aG 4 n (BX d)) (aG 4 n (BX d)),aj (d (A.toN k)).kind (d (A.toN k)).kind,aj (d (A.toN k)).num (d (A.toN k)).num,aP (aG 1 (len (d (A.toN k)).q) (zW (nth (d (A.toN k)).q))) (aG 1 (len (d (A.toN k)).q) (zW (nth (d (A.toN k)).q))),aP (aG 2 (len (d (A.toN k)).ps) (zW (nth (d (A.toN k)).ps))) (aG 2 (len (d (A.toN k)).ps) (zW (nth (d (A.toN k)).ps))),aj (d (A.toN k)).kind (d (A.toN k)).kind,aj (d (A.toN k)).num (d (A.toN k)).num,aP (aG 1 (len (d (A.toN k)).q) (zW (nth (d (A.toN k)).q))) (aG 1 (len (d (A.toN k)).q) (zW (nth (d (A.toN k)).q))),aP (aG 2 (len (d (A.toN k)).ps) (zW (nth (d (A.toN k)).ps))) (aG 2 (len (d (A.toN k)).ps) (zW (nth (d (A.toN k)).ps))),aP (dn (L.key (sQ (d (A.toN k)).kind (d (A.toN k)).num (len (d (A.toN k)).q) (zW (nth (d (A.toN k)).q)) (len (d (A.toN k)).ps) (zW (nth (d (A.toN k)).ps))))) (dn (L.key (sQ (d (A.toN k)).kind (d (A.toN k)).num (len (d (A.toN k)).q) (zW (nth (d (A.toN k)).q)) (len (d (A.toN k)).ps) (zW (nth (d (A.toN k)).ps))))),aJ (A.addN j 1) (A.addN j 1),bC (A.snoc gg j (AQ [[dn (L.key (sQ (d (A.toN k)).kind (d (A.toN k)).num (len (d (A.toN k)).q) (zW (nth (d (A.toN k)).q)) (len (d (A.toN k)).ps) (zW (nth (d (A.toN k)).ps))))]])) (A.snoc gg j (AQ [[dn (L.key (sQ (d (A.toN k)).kind (d (A.toN k)).num (len (d (A.toN k)).q) (zW (nth (d (A.toN k)).q)) (len (d (A.toN k)).ps) (zW (nth (d (A.toN k)).ps))))]]))]
theorem avD(A:Prim)(W:Wd)(L:Lk7)(n:Nat)(d:Nat->Cj)(l:Nat)(k k':Int)(j j':Nat)(gg H7:Nat->List Sh):agt (C7 A W (KZ L) Am) KH 300 800 144 aK akn (L63 n d l k j gg ak) (Zo l) [⟨144,aK,TW,L63 n d l k' j' H7 ak,Zo l⟩]=aF (A.lt k (ah n)) (aI (A.inB k n) (aQ [aJ l l] (aQ [aJ l l] (aI (YW (d (A.toN k)).kind (d (A.toN k)).num (len (d (A.toN k)).q) (zW (nth (d (A.toN k)).q)) (len (d (A.toN k)).ps) (zW (nth (d (A.toN k)).ps))) (aI (A.room (A.addN j 1) 16) (aI (YW (d (A.toN k)).kind (d (A.toN k)).num (len (d (A.toN k)).q) (zW (nth (d (A.toN k)).q)) (len (d (A.toN k)).ps) (zW (nth (d (A.toN k)).ps))) (aI (A.room (A.addN j 1) 16) (aI (A.room (A.addN j 1) 16) (aQ (agU A L n d k j gg) (aQ (agU A L n d k j gg) (aQ [aJ l l] (aA (bJ 0 [kQ (lJ (oq l) {toList:=[]} {toList:=[]}) (lJ (oq l) {toList:=[]} {toList:=[]}),aP (aG 4 n (BX d)) (aG 4 n (BX d)),aj (ah n) (ah n),aj (A.add .i64 k (ah 1)) k',aP (aG 4 n (BX d)) (aG 4 n (BX d)),aJ (A.addN j 1) j',aS (A.addN j 1) (A.snoc gg j (AQ [[dn (L.key (sQ (d (A.toN k)).kind (d (A.toN k)).num (len (d (A.toN k)).q) (zW (nth (d (A.toN k)).q)) (len (d (A.toN k)).ps) (zW (nth (d (A.toN k)).ps))))]])) H7,aJ l l]))))))))))))) (aI (abg j gg [59,32]) (aA (aO (dn (L.join j gg [59,32]))))):=by kernel_rfl
end Go.Proofs
namespace Go.Pl
open Go Go.Sx Go.Proofs
def WG(s:Cj):Bool:=CQ s.kind&&CQ s.num&&s.q.all CQ&&s.ps.all (fun p=>CQ p.key&&CQ p.val)&&decide (s.q.length<=100000/\s.ps.length<=100000)
def keysB(n:Nat)(d:Nat->Cj):Bool:=decide (n<=1000)&&(aX n).all fun j=>WG (d j)
def ady(l:List Cj):List UInt8:=Dj (l.map keyS) [59,32]
def LK:Lk7 where
 key:=keyS
 join n g sep:=Dj (lst (List UInt8) n g) sep
theorem agV{s:Cj}(h:WG s=aC):YW s.kind s.num (len s.q) (zW (nth s.q)) (len s.ps) (zW (nth s.ps))=aC:=by
 unfold WG at h;simp only[aH,decide_eq_true_eq] at h;obtain ⟨⟨⟨⟨h1,h2⟩,h3⟩,h4⟩,h5⟩:=h;unfold YW;simp only[aH,decide_eq_true_eq];refine ⟨⟨⟨⟨⟨⟨D5 _ _,D5 _ _⟩,h1⟩,h2⟩,?_⟩,?_⟩,h5⟩
 ·rw[Tn]
  refine dK.2 fun j hj=>?_
  have hj:j<s.q.length:=dN.1 hj;have e:nth s.q j=s.q[j]:=by simp[nth,hj]
  rw[e];exact dK.1 h3 _ (kC hj)
 ·rw[Tn]
  refine dK.2 fun j hj=>?_
  have hj:j<s.ps.length:=dN.1 hj;have e:nth s.ps j=s.ps[j]:=by simp[nth,hj]
  rw[e];exact dK.1 h4 _ (kC hj)
theorem aiN(s:Cj):sQ s.kind s.num (len s.q) (zW (nth s.q)) (len s.ps) (zW (nth s.ps))=s:=by
 show (⟨s.kind,s.num,lst Int s.q.length (zW (nth s.q)),lst Pr s.ps.length (zW (nth s.ps))⟩:Cj)=s;rw[KI,KI]
theorem agW{s:Cj}(h:WG s=aC):(JA s).length<=100001/\∀x∈JA s,x.length<=50:=by
 unfold WG at h;simp only[aH,decide_eq_true_eq] at h;obtain ⟨⟨⟨⟨h1,h2⟩,h3⟩,h4⟩,h5⟩:=h;unfold JA;refine ⟨?_,fun x hx=>?_⟩
 ·simp only[List.length_cons]
  repeat' split
  all_goals (simp;try omega)
 ·rcases gY.1 hx with rfl|hx
  ·exact abb _
  ·split at hx
   ·simp at hx
    subst hx;have:=Jh h2;omega
   ·split at hx
    ·obtain ⟨y,hy,rfl⟩:=dJ.1 hx
     have:=Jh (dK.1 h3 y hy);omega
    ·split at hx
     ·obtain ⟨y,hy,rfl⟩:=dJ.1 hx
      have h6:=dK.1 h4 y hy;simp only[aH] at h6;exact adu h6.1 h6.2
     ·simp at hx
theorem alz{s:Cj}(h:WG s=aC):(keyS s).length<=6000000:=by
 obtain ⟨h1,h2⟩:=agW h;have h3:=XY (JA s) [32] h2;have h4:(JA s).length*(50+[(32:UInt8)].length)<=100001*51:=dP _ h1;unfold keyS;omega
theorem agX{l:List Cj}(hl:l.length<=1000)(h:∀s∈l,WG s=aC):Ik (Dj (l.map keyS) [59,32])=aC:=by
 have h3:=XY (l.map keyS) [59,32] (m:=6000000) fun x hx=>by
  obtain ⟨s,hs,rfl⟩:=dJ.1 hx;exact alz (h s hs)
 have h4:(l.map keyS).length*(6000000+[(59:UInt8),32].length)<=1000*6000002:=dP _ (by simpa using hl);exact decide_eq_true (by omega)
end Go.Pl
namespace Go.Proofs
open Go Go.Sx Go.Pl
theorem avE:Aq aB (AY W7) 116 (G35 LK):=O35.mono fun H AX args φ hr h=>by
 unfold G35 at h;split at h
 ·split at h
  ·rename_i s2 s3 a hh b l hs2 hs3
   obtain ⟨h1,hφ⟩:=h;simp only[YW,aH] at h1;obtain ⟨⟨⟨⟨⟨⟨q1,q2⟩,q3⟩,q4⟩,q5⟩,q6⟩,q7⟩:=h1;simp only[F35,hs2,hs3];exact ⟨q1,q2,q3,q4,q5,q6,q7,hφ⟩
  ·exact h.elim
 ·exact h.elim
theorem avF:Aq aB (AY W7) 117 (G56 LK):=fun H w AX args φ on hg hr h=>by
 unfold G56 at h;split at h
 ·rename_i s0 sep
  split at h
  ·rename_i n g hs
   obtain ⟨h1,hφ⟩:=h;simp only[abg,aH] at h1;match args,hr with
   |[v,u],⟨hv,hu,_⟩=>exact O56 H w [.sl 1 n g,.str sep] [v,u] φ on hg ⟨BD hs hv,hu,trivial⟩ ⟨h1.1.1,h1.1.2,h1.2,hφ⟩
  ·exact h.elim
 ·exact h.elim
theorem O64:Aq aB (AY W7) 118 F64:=by
 refine DT (C:=C7 zV W7 Dp Am) (cZ _ _) (Lp _) (m:=300) (n:=400) (L:=L0) (fn:=zQ) (by kernel_rfl) (by kernel_rfl) fun H w AX args φ hrep h=>?_
 have hn:zQ.ntmps=10:=by kernel_rfl
 unfold F64 at h;split at h
 ·rename_i s0
  split at h
  ·rename_i n g hs
   obtain ⟨h1,hφ⟩:=h;match args,hrep with
   |[v],⟨hv,_⟩=>
    refine ⟨[.agg [.sl 4 n g]],⟨Md hv fun u hu=>BD hs hu,trivial⟩,?_⟩;rw[hn,a64 zV W7 n g,Qa,Qb,aa6];exact ⟨le0 n,h1,h1,BH (s':=.sl 4 n g) (.inr ⟨rfl,rfl,fun _ _=>rfl⟩) hφ⟩
  ·exact h.elim
 ·exact h.elim
theorem OKs:∀g F,KZ LK g=ay F->Aq aB (AY W7) g F:=fun g F h=>by
 unfold KZ at h;split at h
 ·cases h;exact avE
 ·cases h;exact avF
 ·cases h;exact O64
 ·cases h
theorem agY(stop:Nat->List Nat->Bool):Bz aB (C7 zV W7 (KZ LK) stop):=lQ OKs fun g h=>by
 unfold KZ at h;split at h;all_goals first|(cases h;done) |kernel_rfl
theorem nd7:Ry Tryz.fns=aC:=by kernel_rfl
noncomputable def F32:List Sh->Tree Sh
 |[.agg [s0]]=>match DJ 4 s0 with
  |some (n,g)=>.need (stB n g) (.need (keysB n (Ee n g)) (.leaf (.str (ady ((aX n).map (Ee n g)))))) |none=>.fail
 |_=>.fail
section
variable{H0:Mem}{w0:World}{φ:Sh->Prop}{n:Nat}{d:Nat->Cj}
theorem ako(hn:n<=1000)(hd:∀j,j<n->WG (d j)=aC)(hφ:φ (.str (ady ((aX n).map d)))){l:Nat}:∀r k,k+r=n->0<k->
  FB aB (C7 zV W7 (KZ LK) Am) (K0 H0 w0) 144 aK TW (L63 n d l (k:Int) k (zW (nth (((aX k).map d).map keyS))) ak) (Zo l) φ
 |r,k,hkr,h0=>by
  refine YT (fn:=qE) (tb:=akn) (by kernel_rfl) (by kernel_rfl) ?_;refine NI (cZ _ _) (agY _) nd7 (pause:=KH) (m:=300) (n:=800) (ts:=[⟨144,aK,TW,L63 n d l ((k+1:Nat):Int) (k+1) (zW (nth (((aX (k+1)).map d).map keyS))) ak,Zo l⟩]) ?_;refine (congrArg (Ti _) (avD zV W7 LK n d l k (k+1:Nat) k (k+1) (zW (nth (((aX k).map d).map keyS))) (zW (nth (((aX (k+1)).map d).map keyS))))).mpr ?_;rw[MX];have hlen:(((aX k).map d).map keyS).length=k:=by simp
  simp only[Aa,Bj,CJ,Df,GU,fJ,aa7];rw[aiN (d k)];refine ⟨fun h=>?_,fun h=>?_⟩
  ·have hlt:k<n:=by simp at h;omega
   have hk:=agV (hd k hlt);have hr:zV.room (k+1) 16=aC:=room_le (by omega) (by omega);have hin:decide (0<=(k:Int)/\(k:Int)<(n:Int))=aC:=by simp;omega
   have hw:aT.wrap ((k:Int)+1)=((k+1:Nat):Int):=by rw[BL (by omega) (by omega)];rfl
   have hs:∀i,i<k+1->zV.snoc (zW (nth (((aX k).map d).map keyS))) k (AQ [[.str (keyS (d k))]]) i=zW (nth (((aX (k+1)).map d).map keyS)) i:=fun i hi=>by
    have:=OT (((aX k).map d).map keyS) (keyS (d k)) (r:=[[.str (keyS (d k))]]) rfl i (by rw[hlen];exact hi);rw[hlen] at this;rw[this,pY,iL,iL];rfl
   have next:∃t:OQ,([⟨144,aK,TW,L63 n d l ((k+1:Nat):Int) (k+1) (zW (nth (((aX (k+1)).map d).map keyS))) ak,Zo l⟩]:List OQ)[0]?=ay t/\FB aB (C7 zV W7 (KZ LK) Am) (K0 H0 w0) t.g t.r t.td t.c t.stk φ:=by
    match r,hkr with
    |0,hkr=>omega |r+1,hkr=>exact ⟨_,rfl,ako hn hd hφ r (k+1) (by omega) (by omega)⟩
   repeat' (first|exact trivial|exact next|exact hk|exact hr|exact hin|exact hw|exact hs|exact rfl|refine bW ?_ ?_)
  ·have hk:k=n:=by simp at h;omega
   subst hk;have e:lst (List UInt8) k (zW (nth (((aX k).map d).map keyS)))=((aX k).map d).map keyS:=aeL _ hlen;have hsh:Ik (Dj (((aX k).map d).map keyS) [59,32])=aC:=agX (by simpa using hn) fun s hs=>by
    obtain ⟨j,hj,rfl⟩:=dJ.1 hs;exact hd j (dN.1 hj)
   refine ⟨?_,?_⟩
   ·simp only[abg,aH]
    exact ⟨⟨D5 _ _,room_le (by omega) (by omega)⟩,by rw[e];exact hsh⟩
   ·show φ (.str (Dj (lst (List UInt8) k (zW (nth (((aX k).map d).map keyS)))) [59,32]))
    rw[e];exact hφ
end
theorem O32:Aq aB (AY W7) 92 F32:=by
 refine aqT (C:=C7 zV W7 (KZ LK) Am) (cZ _ _) (fn:=pF) (by kernel_rfl) (by kernel_rfl) fun H w AX args φ hrep h=>?_
 have hn:pF.ntmps=17:=by kernel_rfl
 unfold F32 at h;split at h
 ·rename_i s0
  split at h
  ·rename_i n g hs
   obtain ⟨h1,h2,hφ⟩:=h;match args,hrep with
   |[v],⟨hv,_⟩=>
    refine ⟨[.agg [.sl 4 n (BX (Ee n g))]],⟨Md hv fun u hu=>Ep (BD hs hu) (Qc h1),trivial⟩,L0,?_⟩;generalize Ee n g=d at *;have hφ:φ (.str (ady ((aX n).map d))):=hφ;simp only[keysB,aH,decide_eq_true_eq] at h2;obtain ⟨h2,h3⟩:=h2;have hd:=Ie h3;refine NI (cZ _ _) (agY _) nd7 (pause:=KH) (m:=300) (n:=800) (ts:=[⟨92,aK,.code agS::k32,L32 n d,[]⟩]) ?_;rw[hn,a32 zV W7 LK n d,MX];refine ⟨⟨rfl,trivial⟩,_,rfl,?_⟩;refine aeF (cZ _ _) (agY _) (fn:=pF) (EW:=qE) (g2:=144) (caps:=[.ptr 1 0]) (by kernel_rfl) (x:=.tmp 7) (ps:=#[8,9]) (ca:=AA (Ae pF) (0::agS)) (cb:=AA (Ae pF) (1::agS)) (by kernel_rfl) (by kernel_rfl) (by kernel_rfl) (by kernel_rfl) fun l=>?_
    have hn63:qE.ntmps=20:=by kernel_rfl
    rw[hn63];refine NI (cZ _ _) (agY _) nd7 (pause:=KH) (m:=300) (n:=800) (ts:=[⟨144,aK,TW,L63 n d l ((0:Nat):Int) 0 noT aC,Zo l⟩]) ?_;refine (congrArg (Ti _) (t32 zV W7 LK n d l ((0:Nat):Int) 0 noT)).mpr ?_;rw[MX];refine ⟨room_le (by omega) (by omega),?_,_,rfl,?_⟩
    ·repeat' (first|exact trivial|exact rfl|exact fun _ _=>rfl|refine bW ?_ ?_)
    refine YT (fn:=qE) (tb:=akn) (by kernel_rfl) (by kernel_rfl) ?_;refine NI (cZ _ _) (agY _) nd7 (pause:=KH) (m:=300) (n:=800) (ts:=[⟨144,aK,TW,L63 n d l ((1:Nat):Int) 1 (zW (nth (((aX 1).map d).map keyS))) ak,Zo l⟩]) ?_;refine (congrArg (Ti _) (avC zV W7 LK n d l ((0:Nat):Int) ((1:Nat):Int) 0 1 noT (zW (nth (((aX 1).map d).map keyS))))).mpr ?_;rw[MX];simp only[Aa,Bj,CJ,Df,GU,fJ];rw[aiN (d 0)];refine ⟨fun h=>?_,fun h=>?_⟩
    ·have hlt:0<n:=by simp at h;omega
     have hk:=agV (hd 0 hlt);have hin:decide (0<=((0:Nat):Int)/\((0:Nat):Int)<(n:Int))=aC:=by simp;omega
     have hw:aT.wrap (((0:Nat):Int)+1)=((1:Nat):Int):=by rw[BL (by omega) (by omega)];rfl
     have hs:∀i,i<1->AQ [[.str (keyS (d 0))]] i=zW (nth (((aX 1).map d).map keyS)) i:=fun i hi=>by
      obtain rfl:i=0:=by omega
      rfl
     have next:∃t:OQ,([⟨144,aK,TW,L63 n d l ((1:Nat):Int) 1 (zW (nth (((aX 1).map d).map keyS))) ak,Zo l⟩]:List OQ)[0]?=ay t/\FB aB (C7 zV W7 (KZ LK) Am) (K0 H w) t.g t.r t.td t.c t.stk φ:=
      ⟨_,rfl,ako h2 hd hφ (n - 1) 1 (by omega) (by omega)⟩
     repeat' (first|exact trivial|exact next|exact hk|exact hin|exact hw|exact hs|exact rfl|refine bW ?_ ?_)
    ·have:n=0:=by simp at h;omega
     subst this;refine ⟨rfl,hφ⟩
  ·exact h.elim
 ·exact h.elim
end Go.Proofs
namespace Go.Pl
open Go Go.Sx
structure Lb7 where
 op:Cj->Int->Int->Int->Cj
 r:Cj->Int->Int->Int->Int
 g:Cj->Int->Int->Int->Int
 key:Cj->List UInt8
 join:List (List UInt8)->List UInt8->List UInt8
 at_:Nat->(Nat->List Sh)->Int->Cj
def abj(a:Nat):Bool:=Bo (a+1) 8
end Go.Pl
namespace Go.Proofs
open Go Go.Sx Go.Pl
noncomputable def G33(L:Lb7):List Sh->Tree Sh
 |[.agg [s0],t]=>match DJ 4 s0,AZ t with
  |some (n,g),ay i=>.need (stB n g) (.leaf (.Aj [.agg [.i .i64 (L.at_ n g i).kind,.i .i64 (L.at_ n g i).num,.sl 1 (len (L.at_ n g i).q) (zW (nth (L.at_ n g i).q)),.sl 2 (len (L.at_ n g i).ps) (zW (nth (L.at_ n g i).ps))],.b (Jz n i)])) |_,_=>.fail
 |_=>.fail
def G42(L:Lb7):List Sh->Tree Sh
 |[.agg [.i .i64 x,.i .i64 y,s2,s3],t,u,v]=>match DJ 1 s2,DJ 2 s3,AZ t,AZ u,AZ v with
  |some (a,h),ay (b,l),ay op,ay k,ay v=>.need (okB Int a h) (.need (okB Pr b l) (.need (abj a) (.node (Gt x op) (.leaf (.Aj [.agg [.i .i64 0,.i .i64 0,.sl 1 0 noI,.sl 2 0 noP],.i .i64 0,.i .i64 0,.er 8 329])) (.node (Ig x y op k v) (.leaf (.Aj [.agg [.i .i64 0,.i .i64 0,.sl 1 0 noI,.sl 2 0 noP],.i .i64 0,.i .i64 0,.er 15 329]))
    (.need (J6 op b l) (.leaf (.Aj [.agg [.i .i64 (L.op (sQ x y a h b l) op k v).kind,.i .i64 (L.op (sQ x y a h b l) op k v).num,.sl 1 (len (L.op (sQ x y a h b l) op k v).q) (zW (nth (L.op (sQ x y a h b l) op k v).q)),.sl 2 (len (L.op (sQ x y a h b l) op k v).ps) (zW (nth (L.op (sQ x y a h b l) op k v).ps))],.i .i64 (L.r (sQ x y a h b l) op k v),.i .i64 (L.g (sQ x y a h b l) op k v),.v .nilIface])))))))
  |_,_,_,_,_=>.fail
 |_=>.fail
noncomputable def Ya(L:Lb7):Nat->Option (List Sh->Tree Sh)
 |119=>ay (G33 L) |120=>ay (G42 L) |121=>ay F54 |_=>aK
theorem a29(A:Prim)(W:Wd)(L:Lb7)(n:Nat)(d:Nat->Cj)(i op k v:Int):AP (C7 A W (Ya L) Am) Bg 300 400 97 [.code []] (zZ 52 [.agg [.sl 4 n (BX d)],.i .i64 i,.i .i64 op,.i .i64 k,.i .i64 v] L0) [] []=aI (stB n (BX d)) (aF (A.nt (Jz n i)) (aA (aO (cO [bM [aG 0 0 fun (x:Nat)=>[]],aW .i64 (ah 0),aW .i64 (ah 0),aZ 7 329]))) (aI (okB Int (len (L.at_ n (BX d) i).q) (zW (nth (L.at_ n (BX d) i).q))) (aI (okB Pr (len (L.at_ n (BX d) i).ps) (zW (nth (L.at_ n (BX d) i).ps))) (aI (abj (len (L.at_ n (BX d) i).q)) (aF (Gt (L.at_ n (BX d) i).kind op) (aA (aO (cO [bM [aG 0 0 fun (x:Nat)=>[]],aW .i64 (ah 0),aW .i64 (ah 0),aZ 8 329]))) (aF (Ig (L.at_ n (BX d) i).kind (L.at_ n (BX d) i).num op k v) (aA (aO (cO [bM [aG 0 0 fun (x:Nat)=>[]],aW .i64 (ah 0),aW .i64 (ah 0),aZ 15 329]))) (aI (J6 op (len (L.at_ n (BX d) i).ps) (zW (nth (L.at_ n (BX d) i).ps))) (aI (Bo n 64) (aI (stB n (BX d)) (aA (aO (cO [bM [aG 4 n (RH n (BX d) i [aW .i64 (L.op (sQ (L.at_ n (BX d) i).kind (L.at_ n (BX d) i).num (len (L.at_ n (BX d) i).q) (zW (nth (L.at_ n (BX d) i).q)) (len (L.at_ n (BX d) i).ps) (zW (nth (L.at_ n (BX d) i).ps))) op k v).kind,aW .i64 (L.op (sQ (L.at_ n (BX d) i).kind (L.at_ n (BX d) i).num (len (L.at_ n (BX d) i).q) (zW (nth (L.at_ n (BX d) i).q)) (len (L.at_ n (BX d) i).ps) (zW (nth (L.at_ n (BX d) i).ps))) op k v).num,aG 1 (len (L.op (sQ (L.at_ n (BX d) i).kind (L.at_ n (BX d) i).num (len (L.at_ n (BX d) i).q) (zW (nth (L.at_ n (BX d) i).q)) (len (L.at_ n (BX d) i).ps) (zW (nth (L.at_ n (BX d) i).ps))) op k v).q) (zW (nth (L.op (sQ (L.at_ n (BX d) i).kind (L.at_ n (BX d) i).num (len (L.at_ n (BX d) i).q) (zW (nth (L.at_ n (BX d) i).q)) (len (L.at_ n (BX d) i).ps) (zW (nth (L.at_ n (BX d) i).ps))) op k v).q)),aG 2 (len (L.op (sQ (L.at_ n (BX d) i).kind (L.at_ n (BX d) i).num (len (L.at_ n (BX d) i).q) (zW (nth (L.at_ n (BX d) i).q)) (len (L.at_ n (BX d) i).ps) (zW (nth (L.at_ n (BX d) i).ps))) op k v).ps) (zW (nth (L.op (sQ (L.at_ n (BX d) i).kind (L.at_ n (BX d) i).num (len (L.at_ n (BX d) i).q) (zW (nth (L.at_ n (BX d) i).q)) (len (L.at_ n (BX d) i).ps) (zW (nth (L.at_ n (BX d) i).ps))) op k v).ps))])],aW .i64 (L.r (sQ (L.at_ n (BX d) i).kind (L.at_ n (BX d) i).num (len (L.at_ n (BX d) i).q) (zW (nth (L.at_ n (BX d) i).q)) (len (L.at_ n (BX d) i).ps) (zW (nth (L.at_ n (BX d) i).ps))) op k v),aW .i64 (L.g (sQ (L.at_ n (BX d) i).kind (L.at_ n (BX d) i).num (len (L.at_ n (BX d) i).q) (zW (nth (L.at_ n (BX d) i).q)) (len (L.at_ n (BX d) i).ps) (zW (nth (L.at_ n (BX d) i).ps))) op k v),Sh.v bI])))))))))))):=by kernel_rfl
end Go.Proofs
namespace Go.Pl
open Go Go.Sx Go.Proofs
noncomputable def L7:Lb7 where
 op s o k v:=(Ey s o k v).1
 r s o k v:=(Ey s o k v).2.1
 g s o k v:=(Ey s o k v).2.2
 key:=keyS
 join:=Dj
 at_ n g i:=atT n (Ee n g) i
end Go.Pl
namespace Go.Proofs
open Go Go.Sx Go.Pl
theorem avI:Aq aB (AY W7) 119 (G33 L7):=O33
theorem avJ:Aq aB (AY W7) 120 (G42 L7):=O42
theorem OEs:∀g F,Ya L7 g=ay F->Aq aB (AY W7) g F:=fun g F h=>by
 unfold Ya at h;split at h
 ·cases h;exact avI
 ·cases h;exact avJ
 ·cases h;exact O54
 ·cases h
theorem avK(stop:Nat->List Nat->Bool):Bz aB (C7 zV W7 (Ya L7) stop):=lQ OEs fun g h=>by
 unfold Ya at h;split at h;all_goals first|(cases h;done) |kernel_rfl
noncomputable def F29:List Sh->Tree Sh
 |[.agg [s0],t,u,v,w]=>match DJ 4 s0,AZ t,AZ u,AZ v,AZ w with
  |some (n,g),ay i,ay op,ay k,ay v=>.need (stB n g) (.need (Bo n 64) (.node (Jz n i) (.need (abj (Ee n g i.toNat).q.length) (.node (Gt (Ee n g i.toNat).kind op) (.leaf (.Aj [.agg [.sl 4 0 noT],.i .i64 0,.i .i64 0,.er 8 329])) (.node (Ig (Ee n g i.toNat).kind (Ee n g i.toNat).num op k v) (.leaf (.Aj [.agg [.sl 4 0 noT],.i .i64 0,.i .i64 0,.er 15 329]))
    (.need (J6 op (len (Ee n g i.toNat).ps) (zW (nth (Ee n g i.toNat).ps))) (.leaf (.Aj [.agg [.sl 4 n (RH n g i (CY (Ey (Ee n g i.toNat) op k v).1))],.i .i64 (Ey (Ee n g i.toNat) op k v).2.1,.i .i64 (Ey (Ee n g i.toNat) op k v).2.2,.v .nilIface]))))))
   (.leaf (.Aj [.agg [.sl 4 0 noT],.i .i64 0,.i .i64 0,.er 7 329]))))
  |_,_,_,_,_=>.fail
 |_=>.fail
theorem O29:Aq aB (AY W7) 97 F29:=by
 refine DT (C:=C7 zV W7 (Ya L7) Am) (cZ _ _) (avK _) (m:=300) (n:=400) (L:=L0) (fn:=Tryz.f97) (by kernel_rfl) (by kernel_rfl) fun H w AX args φ hrep h=>?_
 have hn:Tryz.f97.ntmps=52:=by kernel_rfl
 unfold F29 at h;split at h
 ·rename_i s0 t u v ww
  split at h
  ·rename_i n g i op k vv hs ht hu hv hw
   obtain ⟨h1,h2,hin,hout⟩:=h;have hout:Jz n i=ak->φ (.Aj [.agg [.sl 4 0 noT],.i .i64 0,.i .i64 0,.er 7 329]):=hout;match args,hrep with
   |[v0,v1,v2,v3,v4],⟨r0,r1,r2,r3,r4,_⟩=>
    refine ⟨[.agg [.sl 4 n (BX (Ee n g))],.i .i64 i,.i .i64 op,.i .i64 k,.i .i64 vv],⟨Md r0 fun u hu=>Ep (BD hs hu) (Qc h1),Ei ht r1,Ei hu r2,Ei hv r3,Ei hw r4,trivial⟩,?_⟩;have hrow:=Qc h1;have her (T:Nat) (g0:Nat) (hp:φ (.Aj [.agg [.sl 4 0 noT],.i .i64 0,.i .i64 0,.er g0 329])):up φ (.Aj [.agg [.sl 0 0 fun _=>[]],.i .i64 (ah 0),.i .i64 (ah 0),.er g0 329]):=
     BH (s':=.Aj [.agg [.sl 4 0 noT],.i .i64 0,.i .i64 0,.er g0 329]) ⟨⟨.inl ⟨rfl,rfl⟩,trivial⟩,rfl,rfl,rfl,trivial⟩ hp
    rw[hn,a29 zV W7 L7 n (Ee n g) i op k vv];have e1:L7.at_ n (BX (Ee n g)) i=atT n (Ee n (BX (Ee n g))) i:=rfl;rw[e1];refine ⟨aa8 n _,fun e=>her 0 7 (hout (by simpa[BP] using e)),fun e=>?_⟩;have e:Jz n i=aC:=by simpa[BP] using e
    obtain ⟨q1,q3,q4⟩:=hin e;have hlt:i.toNat<n:=by simp[Jz] at e;omega
    have e2:atT n (Ee n (BX (Ee n g))) i=Ee n g i.toNat:=by simp[atT,e,anH i.toNat hlt]
    rw[e2,aiN];have q4:Gt (Ee n g i.toNat).kind op=ak->(Ig (Ee n g i.toNat).kind (Ee n g i.toNat).num op k vv=aC->φ (.Aj [.agg [.sl 4 0 noT],.i .i64 0,.i .i64 0,.er 15 329]))/\(Ig (Ee n g i.toNat).kind (Ee n g i.toNat).num op k vv=ak->J6 op (len (Ee n g i.toNat).ps) (zW (nth (Ee n g i.toNat).ps))=aC/\φ (.Aj [.agg [.sl 4 n (RH n g i (CY (Ey (Ee n g i.toNat) op k vv).1))],.i .i64 (Ey (Ee n g i.toNat) op k vv).2.1,.i .i64 (Ey (Ee n g i.toNat) op k vv).2.2,.v .nilIface])):=q4;refine ⟨D5 _ _,D5 _ _,q1,fun e=>her 0 8 (q3 e),fun e=>⟨fun e'=>her 0 15 ((q4 e).1 e'),fun e'=>⟨((q4 e).2 e').1,h2,aa8 n _,BH (s':=.Aj [.agg [.sl 4 n (RH n g i (CY (Ey (Ee n g i.toNat) op k vv).1))],.i .i64 (Ey (Ee n g i.toNat) op k vv).2.1,.i .i64 (Ey (Ee n g i.toNat) op k vv).2.2,.v .nilIface]) ⟨⟨.inr ⟨rfl,rfl,fun j hj=>?_⟩,trivial⟩,rfl,rfl,rfl,trivial⟩ ((q4 e).2 e').2⟩⟩⟩;unfold RH;split
    ·rfl
    ·exact (hrow j hj).symm
  ·exact h.elim
 ·exact h.elim
end Go.Proofs
namespace Go.Pl
open Go Go.Sx
structure D8 where
 id:Int
 th:Int
 st:Int
 bg:Int
 en:Int
 tr:Int
 k:Nat
 g:Nat->List Sh
instance:Inhabited D8:=⟨⟨0,0,0,0,0,0,0,fun _=>[]⟩⟩
instance:Row D8 where
 put t:=[.i .i64 t.id,.i .i64 t.th,.i .i64 t.st,.i .i64 t.bg,.i .i64 t.en,.i .i64 t.tr,.sl 8 t.k t.g]
 get l:=match l with
  |[.i .i64 a,.i .i64 b,.i .i64 c,.i .i64 d,.i .i64 e,.i .i64 f,.sl 8 k g]=>ay ⟨a,b,c,d,e,f,k,g⟩ |_=>aK
 Dl l a h:=by
  split at h
  ·cases h;rfl
  ·cases h
 get_put a:=rfl
 Jk:=default
structure Dd where
 obj:Int
 op:Int
 key:Int
 val:Int
 ret:Int
 got:Int
 at_:Int
 back:Int
 deriving DecidableEq,Inhabited
instance:Row Dd where
 put d:=[.i .i64 d.obj,.i .i64 d.op,.i .i64 d.key,.i .i64 d.val,.i .i64 d.ret,.i .i64 d.got,.i .i64 d.at_,.i .i64 d.back]
 get l:=match l with
  |[.i .i64 a,.i .i64 b,.i .i64 c,.i .i64 d,.i .i64 e,.i .i64 f,.i .i64 g,.i .i64 h]=>ay ⟨a,b,c,d,e,f,g,h⟩ |_=>aK
 Dl l a h:=by
  split at h
  ·cases h;rfl
  ·cases h
 get_put a:=rfl
 Jk:=default
structure UR where
 placed:Int
 n:Nat
 g:Nat->List Sh
instance:Inhabited UR:=⟨⟨0,0,fun _=>[]⟩⟩
instance:Row UR where
 put x:=[.i .i64 x.placed,.sl 4 x.n x.g]
 get l:=match l with
  |[.i .i64 a,.sl 4 n g]=>ay ⟨a,n,g⟩ |_=>aK
 Dl l a h:=by
  split at h
  ·cases h;rfl
  ·cases h
 get_put a:=rfl
 Jk:=default
structure Jl where
 tx:Int
 com:Bool
 placed:Int
 n:Nat
 g:Nat->List Sh
instance:Inhabited Jl:=⟨⟨0,ak,0,0,fun _=>[]⟩⟩
instance:Row Jl where
 put x:=[.i .i64 x.tx,.b x.com,.i .i64 x.placed,.sl 4 x.n x.g]
 get l:=match l with
  |[.i .i64 t,.b c,.i .i64 a,.sl 4 n g]=>ay ⟨t,c,a,n,g⟩ |_=>aK
 Dl l a h:=by
  split at h
  ·cases h;rfl
  ·cases h
 get_put a:=rfl
 Jk:=default
def Yb(n:Nat)(d:Nat->Cj)(i op k v:Int):Bool:=Jz n i && !Gt (d i.toNat).kind op && !Ig (d i.toNat).kind (d i.toNat).num op k v
def erN(n:Nat)(d:Nat->Cj)(i op k v:Int):Nat:=if Jz n i=aC then (if Gt (d i.toNat).kind op=aC then 8 else 15) else 7
def abk(n:Nat)(d:Nat->Cj)(i op:Int):Bool:=!Jz n i||(Go.Pl.abj (d i.toNat).q.length&&J6 op (len (d i.toNat).ps) (zW (nth (d i.toNat).ps)))
noncomputable def TL(n:Nat)(g:Nat->List Sh)(i op k v:Int):Bool:=Yb n (Ee n g) i op k v
noncomputable def adz(n:Nat)(g:Nat->List Sh)(i op:Int):Bool:=stB n g&&(Bo n 64&&abk n (Ee n g) i op)
noncomputable def erG(n:Nat)(g:Nat->List Sh)(i op k v:Int):Nat:=erN n (Ee n g) i op k v
noncomputable def abl(n:Nat)(g:Nat->List Sh)(i op k v:Int):Nat->List Sh:=RH n g i (CY (Ey (Ee n g i.toNat) op k v).1)
noncomputable def agZ(n:Nat)(g:Nat->List Sh)(i op k v:Int):Int:=(Ey (Ee n g i.toNat) op k v).2.1
noncomputable def ag0(n:Nat)(g:Nat->List Sh)(i op k v:Int):Int:=(Ey (Ee n g i.toNat) op k v).2.2
end Go.Pl
namespace Go.Proofs
open Go Go.Sx Go.Pl
noncomputable def D29:List Sh->Tree Sh
 |[.agg [s0],t,u,v,w]=>match DJ 4 s0,AZ t,AZ u,AZ v,AZ w with
  |some (n,g),ay i,ay op,ay k,ay v=>.need (adz n g i op) (.node (TL n g i op k v)
   (.leaf (.Aj [.agg [.sl 4 n (abl n g i op k v)],.i .i64 (agZ n g i op k v),.i .i64 (ag0 n g i op k v),.v .nilIface]))
   (.leaf (.Aj [.agg [.sl 4 0 noT],.i .i64 0,.i .i64 0,.er (erG n g i op k v) 329])))
  |_,_,_,_,_=>.fail
 |_=>.fail
noncomputable def Qk:Nat->Option (List Sh->Tree Sh)
 |97=>ay D29 |_=>aK
def YX:List It:=[bF [0,1,0,1],dA 0,bF [1,1]]
def aoh:List It:=bF [0,0,1,0,1]::YX
def YZ(n:Nat)(g:Nat->List Sh)(m:Nat)(dd:Nat->Dd)(i:Int):Core:={tm:=Gs 54 [(2,.ptr 0 0),(4,.ptr 1 0),(12,.sh (.sl 8 m (zW dd))),(13,.sym .i64 (m:Int)),(14,.sym .i64 i)],hp:=[(0,.box [.sh (.sl 4 n g)] 100),(1,.box [.Aw] 100)],nx:=2,lim:=L0,tc:=[]}
end Go.Proofs
namespace Go.Sx
@[irreducible] def Cb (ψ:D7->Prop) (t:Tree D7):Prop:=t.All ψ
theorem Ql(ψ:D7->Prop)(t:Tree D7):Cb ψ t=t.All ψ:=by unfold Cb;rfl
theorem ED{P:Program}{C:Ctx}{H0:Mem}{w0:World}(hC:A8 P C)(hF:Bz P C){m n g:Nat}{td:List It}{c:Core}{stk:List Fr}{ts:List Ns}{R:Hp->Prop}{φ:Sh->Prop}{hold:Nat->Bool}
  (h:Cb (Jw P C (K0 H0 w0) ts R φ) (AP C hold m n g td c stk ts)):Bc P C (K0 H0 w0) g td c stk R φ:=G9 hC hF (by rw[Ql] at h;exact h)
end Go.Sx
namespace Go.Pl
end Go.Pl
namespace Go.Proofs
open Go Go.Sx Go.Pl
theorem aoi{P:Program}{gls:List (Nat×Sh)}{g:Nat}{F G:List Sh->Tree Sh}(hF:Aq P gls g F)(h:∀(AX:List Sh) (φ:Sh->Prop),(G AX).All φ->∃s':Sh,φ s'/\(F AX).All fun s=>Wk s s'):Aq P gls g G:=by
 intro H w AX args φ hon hg hr hφ;obtain ⟨s',h1,h2⟩:=h AX φ hφ;refine (hF H w AX args _ hon hg hr h2).mono fun e w' ⟨v,s,H',he,hs,r⟩=>?_;obtain ⟨H2,r2⟩:=r.wk hs;exact ⟨v,s',H2,he,h1,r2⟩
theorem aoj{st n:Nat}{g:Nat->List Sh}:Wk (.sl st n g) (.sl st n g):=.inr ⟨rfl,rfl,fun _ _=>rfl⟩
theorem add1{j:Nat}(h:j<=100000):zV.add .i64 (j:Int) (ah 1)=((j+1:Nat):Int):=by
 show aT.wrap ((j:Int)+1)=_;rw[BL (by omega) (by omega)];rfl
end Go.Proofs
namespace Go.Sx
def Bh.dg:Bh->Bh
 | .int a _=>.int a a | .nat a _=>.nat a a | .bool a _=>.bool a a | .str a _=>.str a a | .val a _=>.val a a | .sh a _=>.sh a a | .get n g _=>.get n g g | .Le g _=>.Le g g | .mp M _=>.mp M M | .mg M _=>.mg M M
theorem akp:∀l:List Bh,Bh.all (l.map Bh.dg)
 |[]=>trivial |e::l=>⟨by cases e<;>first|rfl|exact fun _ _=>rfl,akp l⟩
def Tree.dg{α:Type}:Tree α->Tree α
 | .leaf a=>.leaf a | .node b t f=>.node b t.dg f.dg | .need b t=>.need b t.dg | .must l t=>.must (l.map Bh.dg) t.dg | .both t f=>.both t.dg f.dg | .fail=>.fail
def Tree.WH{α:Type}(φ:α->Prop):Tree α->Prop
 | .leaf a=>φ a | .node b t f=>(b=aC->t.WH φ)/\(b=ak->f.WH φ) | .need b t=>b=aC/\t.WH φ | .must _ t=>t.WH φ | .both t f=>t.WH φ/\f.WH φ | .fail=>False
theorem Tree.abm{α:Type}{φ:α->Prop}:∀{t:Tree α},t.WH φ->t.dg.All φ
 | .leaf _,h=>h | .node _ _ _,h=>⟨fun e=>Tree.abm (h.1 e),fun e=>Tree.abm (h.2 e)⟩ | .need _ _,h=>⟨h.1,Tree.abm h.2⟩ | .must l _,h=>⟨akp l,Tree.abm h⟩ | .both _ _,h=>⟨Tree.abm h.1,Tree.abm h.2⟩ | .fail,h=>h
theorem Gf{P:Prop}{ψ:D7->Prop}{t:Tree D7}(k:P)(e:P=t.All ψ):Cb ψ t:=by
 rw[Ql,<-e];exact k
theorem aok{P:Prop}{ψ:D7->Prop}{t:Tree D7}(h:t.dg=t)(k:P)(e:P=t.WH ψ):Cb ψ t:=by
 rw[Ql,<-h];exact Tree.abm (e ▸ k:t.WH ψ)
theorem an{a b:Prop}(x:a)(y:b):a/\b:=⟨x,y⟩
end Go.Sx
namespace Go.Proofs
open Go Go.Sx Go.Pl
theorem aol(A:Prim)(W:Wd)(n:Nat)(g:Nat->List Sh)(m:Nat)(dd:Nat->Dd)(i':Int){ψ:D7->Prop}(y1:ψ (bJ 0 [aP (aG 8 m (zW dd)) (aG 8 m (zW dd)),aj (A.Az m) (ah m),aj (ah 0) i',aP (aG 4 n g) (aG 4 n g)])):Cb ψ (AP (C7 A W Qk Am) Bg 300 400 76 [.code []] (zZ 54 [.agg [.sl 4 n g],.sl 8 m (zW dd)] L0) [] [⟨76,YX,YZ n g m dd i',[]⟩]):=by
 exact Gf y1 (by kernel_rfl)
theorem abn(A:Prim)(W:Wd)(n:Nat)(g g':Nat->List Sh)(m:Nat)(dd:Nat->Dd)(i i':Int){ψ:D7->Prop}{c0 c1 c2 c3 c4:Bool}(e0:A.lt i (ah m)=c0)(e1:A.eq (dd (A.toN i)).ret (ah 0)=c1)(e2:TL n g (dd (A.toN i)).obj (dd (A.toN i)).op (dd (A.toN i)).key (dd (A.toN i)).val=c2)(e3:A.nt (A.eq (agZ n g (dd (A.toN i)).obj (dd (A.toN i)).op (dd (A.toN i)).key (dd (A.toN i)).val) (dd (A.toN i)).ret)=c3)(e4:A.nt (A.eq (ag0 n g (dd (A.toN i)).obj (dd (A.toN i)).op (dd (A.toN i)).key (dd (A.toN i)).val) (dd (A.toN i)).got)=c4)(h1:c0=aC->(A.inB i m)=aC)(h2:c0=aC->c1=ak->(adz n g (dd (A.toN i)).obj (dd (A.toN i)).op)=aC)(y1:c0=aC->c1=aC->ψ (bJ 0 [aP (aG 8 m (zW dd)) (aG 8 m (zW dd)),aj (ah m) (ah m),aj (A.add .i64 i (ah 1)) i',aP (aG 4 n g) (aG 4 n g')]))(y2:c0=aC->c1=ak->c2=aC->c3=aC->ψ (aO (cO [bM [aG 0 0 fun _=>[]],pG 109 (sU [aW .i64 i,aZ 13 329])])))(y3:c0=aC->c1=ak->c2=aC->c3=ak->c4=aC->ψ (aO (cO [bM [aG 0 0 fun _=>[]],pG 109 (sU [aW .i64 i,aZ 13 329])])))(y4:c0=aC->c1=ak->c2=aC->c3=ak->c4=ak->ψ (bJ 0 [aP (aG 8 m (zW dd)) (aG 8 m (zW dd)),aj (ah m) (ah m),aj (A.add .i64 i (ah 1)) i',aP (aG 4 n (abl n g (dd (A.toN i)).obj (dd (A.toN i)).op (dd (A.toN i)).key (dd (A.toN i)).val)) (aG 4 n g')]))(y5:c0=aC->c1=ak->c2=ak->ψ (aO (cO [bM [aG 0 0 fun _=>[]],pG 109 (sU [aW .i64 i,aZ (erG n g (dd (A.toN i)).obj (dd (A.toN i)).op (dd (A.toN i)).key (dd (A.toN i)).val) 329])])))(y6:c0=ak->ψ (aO (cO [bM [aG 4 n g],Sh.v bI]))):Cb ψ (AP (C7 A W Qk Am) Bg 300 400 76 aoh (YZ n g m dd i) [] [⟨76,YX,YZ n g' m dd i',[]⟩]):=by
 subst e0 e1 e2 e3 e4;exact Gf (an (fun q0=>an (h1 q0) (an (y1 q0) (fun q1=>an (h2 q0 q1) (an (fun q2=>an (y2 q0 q1 q2) (fun q3=>an (y3 q0 q1 q2 q3) (y4 q0 q1 q2 q3))) (y5 q0 q1))))) y6) (by kernel_rfl)
end Go.Proofs
namespace Go.Pl
open Go Go.Sx Go.Proofs
noncomputable def HY(n:Nat):(Nat->List Sh)->Nat->List Dd->(Nat×Nat) ⊕ (Nat->List Sh)
 |g,_,[]=>.inr g |g,i,d::l=>if d.ret=0 then HY n g (i+1) l else if TL n g d.obj d.op d.key d.val=aC then
   (if agZ n g d.obj d.op d.key d.val=d.ret/\ag0 n g d.obj d.op d.key d.val=d.got then HY n (abl n g d.obj d.op d.key d.val) (i+1) l else .inl (i,13)) else .inl (i,erG n g d.obj d.op d.key d.val)
noncomputable def TY(n:Nat):(Nat->List Sh)->List Dd->Prop
 |_,[]=>True |g,d::l=>if d.ret=0 then TY n g l else adz n g d.obj d.op=aC/\(TL n g d.obj d.op d.key d.val=aC->TY n (abl n g d.obj d.op d.key d.val) l)
end Go.Pl
namespace Go.Proofs
open Go Go.Sx Go.Pl
noncomputable def aom(φ:Sh->Prop)(n:Nat):(Nat×Nat) ⊕ (Nat->List Sh)->Prop
 | .inr g=>φ (.Aj [.agg [.sl 4 n g],.v .nilIface]) | .inl (i,e)=>φ (.Aj [.agg [.sl 4 0 noT],.CG 109 (.pt [.i .i64 (i:Nat),.er e 329])])
theorem aeQ(OD:Aq aB (AY W7) 97 D29)(stop:Nat->List Nat->Bool):Bz aB (C7 zV W7 Qk stop):=lQ (fun g F h=>by
 unfold Qk at h;split at h
 ·cases h;exact OD
 ·cases h) fun g h=>by
 unfold Qk at h;split at h;all_goals first|(cases h;done) |kernel_rfl
section
variable{H0:Mem}{w0:World}{φ:Sh->Prop}{n m:Nat}{dd:Nat->Dd}
theorem aeR(OD:Aq aB (AY W7) 97 D29)(hm:m<=100000):∀r i g,i+r=m->TY n g ((aX r).map fun j=>dd (i+j))->aom φ n (HY n g i ((aX r).map fun j=>dd (i+j)))->
  Bc aB (C7 zV W7 Qk Am) (K0 H0 w0) 76 YX (YZ n g m dd (i:Nat)) [] emp (up φ)
 |0,i,g,hi,hf,hφ=>by
  refine Gq (fn:=rH) (tb:=aoh) (by kernel_rfl) (by kernel_rfl) ?_;refine ED (cZ _ _) (aeQ OD _) (hold:=Bg) (m:=300) (n:=400) (ts:=[⟨76,YX,YZ n g m dd 0,[]⟩]) ?_;have lt {P:Prop} (h:zV.lt (i:Int) (ah m)=aC):P:=by simp[Aa] at h;omega
  have hφ:φ (.Aj [.agg [.sl 4 n g],.v .nilIface]):=hφ;exact abn zV W7 n g g m dd i 0 rfl rfl rfl rfl rfl (fun q=>lt q) (fun q=>lt q) (fun q=>lt q) (fun q=>lt q) (fun q=>lt q) (fun q=>lt q) (fun q=>lt q) (fun _=>BH (s':=.Aj [.agg [.sl 4 n g],.v .nilIface]) ⟨⟨aoj,trivial⟩,rfl,trivial⟩ hφ)
 |r+1,i,g,hi,hf,hφ=>by
  refine Gq (fn:=rH) (tb:=aoh) (by kernel_rfl) (by kernel_rfl) ?_;have w1:zV.add .i64 (i:Int) (ah 1)=((i+1:Nat):Int):=add1 (by omega);have no {P:Prop} (h:zV.lt (i:Int) (ah m)=ak):P:=by simp[Aa] at h;omega
  have inb (h:zV.lt (i:Int) (ah m)=aC):zV.inB (i:Int) m=aC:=by simp[Bj];omega
  have el:(aX (r+1)).map (fun j=>dd (i+j))=dd i::(aX r).map fun j=>dd (i+1+j):=by
   rw[List.range_succ_eq_map,List.map_cons,List.map_map];congr 1;refine jM fun j _=>?_
   show dd (i+(j+1))=dd (i+1+j);rw[show i+(j+1)=i+1+j by omega]
  rw[el] at hf hφ;have bad (e:Nat) (h:φ (.Aj [.agg [.sl 4 0 noT],.CG 109 (.pt [.i .i64 (i:Nat),.er e 329])])):up φ (.Aj [.agg [.sl 0 0 fun _=>[]],.CG 109 (.pt [.i .i64 (i:Nat),.er e 329])]):=
   BH (s':=.Aj [.agg [.sl 4 0 noT],.CG 109 (.pt [.i .i64 (i:Nat),.er e 329])]) ⟨⟨.inl ⟨rfl,rfl⟩,trivial⟩,rfl,trivial⟩ h
  by_cases h0:(dd i).ret=0
  ·have hf:TY n g ((aX r).map fun j=>dd (i+1+j)):=by unfold TY at hf;rwa[if_pos h0] at hf
   have hφ:aom φ n (HY n g (i+1) ((aX r).map fun j=>dd (i+1+j))):=by unfold HY at hφ;rwa[if_pos h0] at hφ
   have nx:=aeR OD hm r (i+1) g (by omega) hf hφ;refine ED (cZ _ _) (aeQ OD _) (hold:=Bg) (m:=300) (n:=400) (ts:=[⟨76,YX,YZ n g m dd ((i+1:Nat):Int),[]⟩]) ?_;have c1 {P:Prop} (h:zV.eq (dd i).ret (ah 0)=ak):P:=by rw[h0] at h;simp[Ap] at h
   exact abn zV W7 n g g m dd i _ rfl rfl rfl rfl rfl inb (fun _ q=>c1 q) (fun _ _=>⟨⟨rfl,rfl,w1,rfl,trivial⟩,_,rfl,nx⟩) (fun _ q=>c1 q) (fun _ q=>c1 q) (fun _ q=>c1 q) (fun _ q=>c1 q) (fun q=>no q)
  ·have c1 {P:Prop} (h:zV.eq (dd i).ret (ah 0)=aC):P:=(h0 (by simpa[Ap] using h)).elim
   unfold TY at hf;rw[if_neg h0] at hf;unfold HY at hφ;rw[if_neg h0] at hφ;refine ED (cZ _ _) (aeQ OD _) (hold:=Bg) (m:=300) (n:=400) (ts:=[⟨76,YX,YZ n (abl n g (dd i).obj (dd i).op (dd i).key (dd i).val) m dd ((i+1:Nat):Int),[]⟩]) ?_;have nte {a b:Int} (h:zV.nt (zV.eq a b)=aC):a≠b:=by simpa[BP,Ap] using h
   have nfe {a b:Int} (h:zV.nt (zV.eq a b)=ak):a=b:=by simpa[BP,Ap] using h
   refine abn zV W7 n g _ m dd i _ rfl rfl rfl rfl rfl inb (fun _ _=>hf.1) (fun _ q=>c1 q) ?_ ?_ ?_ ?_ (fun q=>no q)
   ·intro _ _ q2 q3
    have q2:TL n g (dd i).obj (dd i).op (dd i).key (dd i).val=aC:=q2;rw[if_pos q2,if_neg fun e=>nte q3 e.1] at hφ
    exact bad 13 hφ
   ·intro _ _ q2 _ q4
    have q2:TL n g (dd i).obj (dd i).op (dd i).key (dd i).val=aC:=q2;rw[if_pos q2,if_neg fun e=>nte q4 e.2] at hφ
    exact bad 13 hφ
   ·intro _ _ q2 q3 q4
    have q2:TL n g (dd i).obj (dd i).op (dd i).key (dd i).val=aC:=q2;rw[if_pos q2,if_pos ⟨nfe q3,nfe q4⟩] at hφ;exact ⟨⟨rfl,rfl,w1,rfl,trivial⟩,_,rfl,aeR OD hm r (i+1) _ (by omega) (hf.2 q2) hφ⟩
   ·intro _ _ q2
    have q2:TL n g (dd i).obj (dd i).op (dd i).key (dd i).val=ak:=q2;rw[if_neg (by rw[q2];simp)] at hφ;exact bad _ hφ
end
open Go Go.Sx Go.Pl
theorem ar5:Aq aB (AY W7) 97 D29:=O29.mono fun H AX args φ hr h=>by
 unfold D29 at h;split at h
 ·split at h
  ·rename_i n g i op k v e0 e1 e2 e3 e4
   obtain ⟨h1,h2,h3⟩:=h;unfold adz at h1;rw[aH,aH] at h1;obtain ⟨a1,a2,a3⟩:=h1;unfold F29;simp only[e0,e1,e2,e3,e4];have no (e:Nat) (q:TL n g i op k v=ak) (q2:erG n g i op k v=e):φ (.Aj [.agg [.sl 4 0 noT],.i .i64 0,.i .i64 0,.er e 329]):=by
    have:=h3 q;rw[q2] at this;exact this
   refine ⟨a1,a2,fun q=>?_,fun q=>no 7 ?_ ?_⟩
   ·have b3:abj (Ee n g i.toNat).q.length=aC/\J6 op (len (Ee n g i.toNat).ps) (zW (nth (Ee n g i.toNat).ps))=aC:=by
     unfold abk at a3;rw[q] at a3;simpa using a3
    refine ⟨b3.1,fun b=>no 8 ?_ ?_,fun b=>⟨fun c=>no 15 ?_ ?_,fun c=>⟨b3.2,h2 ?_⟩⟩⟩
    ·unfold TL Yb;rw[b];simp
    ·unfold erG erN;rw[if_pos q,if_pos b]
    ·unfold TL Yb;rw[c];simp
    ·unfold erG erN;rw[if_pos q,if_neg (by rw[b];simp)]
    ·unfold TL Yb;rw[q,b,c];rfl
   ·unfold TL Yb;rw[q];rfl
   ·unfold erG erN;rw[if_neg (by rw[q];simp)]
  ·exact h.elim
 ·exact h.elim
noncomputable def akq(n:Nat)(g:Nat->List Sh)(l:List Dd):Bool:=@decide (TY n g l) (bD _)
noncomputable def abp(n:Nat)(g:Nat->List Sh)(l:List Dd):Bool:=match HY n g 0 l with
 | .inr _=>aC | .inl _=>ak
noncomputable def abq(n:Nat)(g:Nat->List Sh)(l:List Dd):Nat->List Sh:=match HY n g 0 l with
 | .inr g=>g | .inl _=>noT
noncomputable def aiP(n:Nat)(g:Nat->List Sh)(l:List Dd):Nat:=match HY n g 0 l with
 | .inr _=>0 | .inl (i,_)=>i
noncomputable def aiQ(n:Nat)(g:Nat->List Sh)(l:List Dd):Nat:=match HY n g 0 l with
 | .inr _=>0 | .inl (_,e)=>e
noncomputable def F76:List Sh->Tree Sh
 |[.agg [s0],s1]=>match DJ 4 s0,DJ 8 s1 with
  |some (n,g),ay (m,h)=>.need (okB Dd m h) (.need (decide (m<=100000)) (.need (akq n g (lst Dd m h)) (.node (abp n g (lst Dd m h))
   (.leaf (.Aj [.agg [.sl 4 n (abq n g (lst Dd m h))],.v .nilIface]))
   (.leaf (.Aj [.agg [.sl 4 0 noT],.CG 109 (.pt [.i .i64 (aiP n g (lst Dd m h)),.er (aiQ n g (lst Dd m h)) 329])])))))
  |_,_=>.fail
 |_=>.fail
theorem O76:Aq aB (AY W7) 76 F76:=by
 refine FM (C:=C7 zV W7 Qk Am) (cZ _ _) (fn:=rH) (by kernel_rfl) (by kernel_rfl) fun H w AX args φ hrep h=>?_
 have hn:rH.ntmps=54:=by kernel_rfl
 unfold F76 at h;split at h
 ·rename_i s0 s1
  split at h
  ·rename_i n g m hh e0 e1
   obtain ⟨h1,h2,h3,h4,h5⟩:=h;have h2:=of_decide_eq_true h2;have h3:TY n g (lst Dd m hh):=@of_decide_eq_true _ (bD _) h3;match args,hrep with
   |[v,u],⟨rv,ru,_⟩=>
    have rv':Rep H (.agg [.sl 4 n g]) v:=by
     cases rv with
     |agg _ vs hl hr=>
      refine .agg _ _ hl fun j s' v' q1 q2=>?_
      match j,q1 with
      |0,q1=>cases q1;exact BD e0 (hr 0 _ _ rfl q2) |j+1,q1=>cases q1
    refine ⟨[.agg [.sl 4 n g],.sl 8 m (zW (zY (α:=Dd) hh))],⟨rv',DV (BD e1 ru) h1,trivial⟩,L0,?_⟩;have hres:aom φ n (HY n g 0 (lst Dd m hh)):=by
     unfold abp abq aiP aiQ at *;cases hp:HY n g 0 (lst Dd m hh) with
     |inr g'=>rw[hp] at h4;exact h4 rfl |inl q=>
      obtain ⟨i,e⟩:=q;rw[hp] at h5;exact h5 rfl
    have el:lst Dd m hh=(aX m).map fun j=>zY (α:=Dd) hh (0+j):=by
     unfold lst;refine jM fun j _=>?_
     rw[Nat.zero_add]
    rw[el] at h3 hres;refine ED (cZ _ _) (aeQ ar5 _) (hold:=Bg) (m:=300) (n:=400) (ts:=[⟨76,YX,YZ n g m (zY (α:=Dd) hh) ((0:Nat):Int),[]⟩]) ?_;rw[hn];exact aol zV W7 n g m (zY (α:=Dd) hh) _ ⟨⟨rfl,rfl,rfl,rfl,trivial⟩,_,rfl,aeR ar5 h2 m 0 g (by omega) h3 hres⟩
  ·exact h.elim
 ·exact h.elim
end Go.Proofs
namespace Go.Pl
open Go Go.Sx Go.Proofs
noncomputable def plN(n:Nat)(g:Nat->List Sh)(m:Nat)(h:Nat->List Sh):Bool:=okB Dd m h&&(decide (m<=100000)&&akq n g (lst Dd m h))
noncomputable def plO(n:Nat)(g:Nat->List Sh)(m:Nat)(h:Nat->List Sh):Bool:=abp n g (lst Dd m h)
noncomputable def TM(n:Nat)(g:Nat->List Sh)(m:Nat)(h:Nat->List Sh):Nat->List Sh:=abq n g (lst Dd m h)
noncomputable def plP(n:Nat)(g:Nat->List Sh)(m:Nat)(h:Nat->List Sh):Int:=aiP n g (lst Dd m h)
noncomputable def plE(n:Nat)(g:Nat->List Sh)(m:Nat)(h:Nat->List Sh):Nat:=aiQ n g (lst Dd m h)
end Go.Pl
namespace Go.Proofs
open Go Go.Sx Go.Pl
noncomputable def D76:List Sh->Tree Sh
 |[.agg [s0],s1]=>match DJ 4 s0,DJ 8 s1 with
  |some (n,g),ay (m,h)=>.need (plN n g m h) (.node (plO n g m h)
   (.leaf (.Aj [.agg [.sl 4 n (TM n g m h)],.v .nilIface]))
   (.leaf (.Aj [.agg [.sl 4 0 noT],.CG 109 (.pt [.i .i64 (plP n g m h),.er (plE n g m h) 329])])))
  |_,_=>.fail
 |_=>.fail
noncomputable def NP:Nat->Option (List Sh->Tree Sh)
 |76=>ay D76 |_=>aK
def BJ(lv:Int)(N:Nat)(T:Nat->D8)(N':Nat)(mk:Nat->Int)(k0:Nat)(g0:Nat->List Sh):List Sh:=[.i .i64 lv,.sl 7 N (zW T),.sl 1 N' (zW mk),.sl 4 k0 g0]
def WI:List It:=[bF [0,1,0,1,1],dA 0,bF [1,1,1]]
def akr:List It:=bF [0,0,1,0,1,1]::WI
def Y0(lv:Int)(N:Nat)(T:Nat->D8)(N':Nat)(mk:Nat->Int)(k0:Nat)(g0:Nat->List Sh)(p:Int)(n:Nat)(g:Nat->List Sh)(m:Nat)(R:Nat->Jl)(i:Int):Core:={tm:=Gs 104 [(0,.Gl 4 1 (fun _=>BJ lv N T N' mk k0 g0) 0 0),(3,.ptr 0 0),(5,.gs 1),(15,.sh (.sl 7 N (zW T))),(16,.sym .i64 (N:Int)),(17,.sym .i64 i)],hp:=[(0,.box [.sym .i64 p,.sh (.sl 4 n g)] 104),(1,.own 108 4 m (zW R))],nx:=2,lim:=L0,tc:=[]}
end Go.Proofs
namespace Go.Bf
section
variable{α κ:Type}[DecidableEq κ](key:α->κ)(next:α->List α)
def JB(o:List α)(k:κ):Bool:=o.any fun n=>decide (key n=k)
def Hl(m:Nat)(o:List α)(n:α):Option (List α):=if JB key o (key n)=aC then ay o else if o.length=m then aK else ay (o++[n])
def Fb(m:Nat):List α->List α->Option (List α)
 |o,[]=>ay o |o,n::l=>match Hl key m o n with
  |none=>aK |some o'=>Fb m o' l
def LM(m:Nat):Nat->List α->Nat->Option (List α)
 |0,o,_=>ay o |f+1,o,i=>match o[i]? with
  |none=>ay o |some n=>match Fb key m o (next n) with
   |none=>aK |some o'=>LM m f o' (i+1)
variable{key next}
theorem alA{m:Nat}{o o':List α}{n:α}(h:Hl key m o n=ay o'):∃t,o'=o++t/\t.length<=1/\(o.length<=m->o'.length<=m):=by
 unfold Hl at h;split at h
 ·cases h;exact ⟨[],by simp,by simp,fun h=>h⟩
 ·split at h
  ·cases h
  ·cases h;exact ⟨[n],rfl,by simp,fun h=>by simp;omega⟩
theorem OX{m:Nat}:∀{l o o':List α},Fb key m o l=ay o'->∃t,o'=o++t/\(o.length<=m->o'.length<=m)
 |[],o,o',h=>by cases h;exact ⟨[],by simp,fun h=>h⟩ |n::l,o,o',h=>by
  simp only[Fb] at h;cases hp:Hl key m o n with
  |none=>rw[hp] at h;cases h |some o1=>
   rw[hp] at h;obtain ⟨t,rfl,_,h1⟩:=alA hp;obtain ⟨t',rfl,h2⟩:=OX h;exact ⟨t++t',by simp,fun q=>h2 (h1 q)⟩
theorem abr{m:Nat}:∀{f i:Nat} {o r:List α},LM key next m f o i=ay r->∃t,r=o++t/\(o.length<=m->r.length<=m)
 |0,_,o,r,h=>by cases h;exact ⟨[],by simp,fun h=>h⟩ |f+1,i,o,r,h=>by
  simp only[LM] at h;cases hi:o[i]? with
  |none=>rw[hi] at h;cases h;exact ⟨[],by simp,fun h=>h⟩ |some n=>
   rw[hi] at h;simp only at h;cases hp:Fb key m o (next n) with
   |none=>rw[hp] at h;cases h |some o1=>
    rw[hp] at h;obtain ⟨t,rfl,h1⟩:=OX hp;obtain ⟨t',rfl,h2⟩:=abr h;exact ⟨t++t',by simp,fun q=>h2 (h1 q)⟩
end
section
variable{α κ:Type}[DecidableEq κ]{key:α->κ}{next:α->List α}
theorem JC{o:List α}{k:κ}:JB key o k=aC↔∃n∈o,key n=k:=by simp[JB]
theorem ag1{o t:List α}{k:κ}(h:JB key o k=aC):JB key (o++t) k=aC:=by
 obtain ⟨n,hn,e⟩:=JC.1 h;exact JC.2 ⟨n,List.mem_append_left _ hn,e⟩
theorem alB{m:Nat}{o o':List α}{n:α}(h:Hl key m o n=ay o'):JB key o' (key n)=aC:=by
 unfold Hl at h;split at h
 ·cases h;assumption
 ·split at h
  ·cases h
  ·cases h;exact JC.2 ⟨n,by simp,rfl⟩
theorem adA{m:Nat}:∀{l o o':List α},Fb key m o l=ay o'->∀n∈l,JB key o' (key n)=aC
 |[],_,_,_,_,h=>by cases h |n::l,o,o',h,x,hx=>by
  simp only[Fb] at h;cases hp:Hl key m o n with
  |none=>rw[hp] at h;cases h |some o1=>
   rw[hp] at h;rcases gY.1 hx with rfl|hx
   ·obtain ⟨t,rfl,_⟩:=OX h
    exact ag1 (alB hp)
   ·exact adA h x hx
theorem adB{m:Nat}{o o':List α}{n:α}{P:α->Prop}(h:Hl key m o n=ay o')(ho:∀x∈o,P x)(hn:P n):∀x∈o',P x:=by
 unfold Hl at h;split at h
 ·cases h;exact ho
 ·split at h
  ·cases h
  ·cases h
   intro x hx;rcases bK.1 hx with hx|hx
   ·exact ho x hx
   ·obtain rfl:x=n:=by simpa using hx
    exact hn
theorem Tq{m:Nat}{P:α->Prop}:∀{l o o':List α},Fb key m o l=ay o'->(∀x∈o,P x)->(∀x∈l,P x)->∀x∈o',P x
 |[],_,_,h,ho,_=>by cases h;exact ho |n::l,o,o',h,ho,hl=>by
  simp only[Fb] at h;cases hp:Hl key m o n with
  |none=>rw[hp] at h;cases h |some o1=>
   rw[hp] at h;exact Tq h (adB hp ho (hl n cu)) fun x hx=>hl x (dw _ hx)
theorem OY{m:Nat}{P:α->Prop}(hP:∀n,P n->∀t∈next n,P t):∀{f i:Nat} {o r:List α},LM key next m f o i=ay r->(∀x∈o,P x)->∀x∈r,P x
 |0,_,_,_,h,ho=>by cases h;exact ho |f+1,i,o,r,h,ho=>by
  simp only[LM] at h;cases hi:o[i]? with
  |none=>rw[hi] at h;cases h;exact ho |some n=>
   rw[hi] at h;simp only at h;cases hp:Fb key m o (next n) with
   |none=>rw[hp] at h;cases h |some o1=>
    rw[hp] at h;exact OY hP h (Tq hp ho (hP n (ho n (bT hi))))
theorem RX{m:Nat}:∀{f i:Nat} {o r:List α},LM key next m f o i=ay r->r.length<i+f->(∀j n,j<i->o[j]?=ay n->∀t∈next n,JB key o (key t)=aC)->∀n∈r,∀t∈next n,JB key r (key t)=aC
 |0,i,o,r,h,hl,hc=>by
  cases h;intro n hn t ht;obtain ⟨j,hj,e⟩:=mD.1 hn;exact hc j n (by omega) (by rw[aV hj,e]) t ht
 |f+1,i,o,r,h,hl,hc=>by
  simp only[LM] at h;cases hi:o[i]? with
  |none=>
   rw[hi] at h;cases h;have hle:o.length<=i:=List.getElem?_eq_none_iff.1 hi;intro n hn t ht;obtain ⟨j,hj,e⟩:=mD.1 hn;exact hc j n (by omega) (by rw[aV hj,e]) t ht
  |some n=>
   rw[hi] at h;simp only at h;cases hp:Fb key m o (next n) with
   |none=>rw[hp] at h;cases h |some o1=>
    rw[hp] at h;obtain ⟨t',e,_⟩:=OX hp;refine RX h (by omega) fun j x hj hx t ht=>?_
    have hil:i<o.length:=(aU.1 hi).1;have hx':o[j]?=ay x:=by
     rw[e,dI (by omega)] at hx;exact hx
    rcases oP j i with h1|h1
    ·rw[e];exact ag1 (hc j x h1 hx' t ht)
    ·obtain rfl:j=i:=by omega
     rw[hi] at hx';cases hx';exact adA hp t ht
theorem aiR{m:Nat}{o o':List α}{n:α}(h:Hl key m o n=ay o')(ho:(o.map key).Nodup):(o'.map key).Nodup:=by
 unfold Hl at h;split at h
 ·cases h;exact ho
 ·rename_i q
  split at h
  ·cases h
  ·cases h
   rw[iL,List.nodup_append];refine ⟨ho,by simp,fun a ha b hb e=>?_⟩;obtain rfl:b=key n:=by simpa using hb
   obtain ⟨x,hx,rfl⟩:=dJ.1 ha;exact q (JC.2 ⟨x,hx,e⟩)
theorem Y1{m:Nat}:∀{l o o':List α},Fb key m o l=ay o'->(o.map key).Nodup->(o'.map key).Nodup
 |[],_,_,h,ho=>by cases h;exact ho |n::l,o,o',h,ho=>by
  simp only[Fb] at h;cases hp:Hl key m o n with
  |none=>rw[hp] at h;cases h |some o1=>
   rw[hp] at h;exact Y1 h (aiR hp ho)
theorem abt{m:Nat}:∀{f i:Nat} {o r:List α},LM key next m f o i=ay r->(o.map key).Nodup->(r.map key).Nodup
 |0,_,_,_,h,ho=>by cases h;exact ho |f+1,i,o,r,h,ho=>by
  simp only[LM] at h;cases hi:o[i]? with
  |none=>rw[hi] at h;cases h;exact ho |some n=>
   rw[hi] at h;simp only at h;cases hp:Fb key m o (next n) with
   |none=>rw[hp] at h;cases h |some o1=>
    rw[hp] at h;exact abt h (Y1 hp ho)
def Lay(rk:α->Nat)(b:Nat)(o:List α):Prop:=o.Pairwise (fun x y=>rk x<=rk y)/\∀x∈o,rk x<=b
theorem aoo{m b:Nat}{rk:α->Nat}{o o':List α}{n:α}(h:Hl key m o n=ay o')(ho:Lay rk b o)(hn:rk n=b):Lay rk b o':=by
 unfold Hl at h;split at h
 ·cases h;exact ho
 ·split at h
  ·cases h
  ·cases h
   refine ⟨List.pairwise_append.2 ⟨ho.1,lD _ _,fun x hx y hy=>?_⟩,fun x hx=>?_⟩
   ·obtain rfl:y=n:=by simpa using hy
    rw[hn];exact ho.2 x hx
   ·rcases bK.1 hx with hx|hx
    ·exact ho.2 x hx
    ·obtain rfl:x=n:=by simpa using hx
     omega
theorem adC{m b:Nat}{rk:α->Nat}:∀{l o o':List α},Fb key m o l=ay o'->Lay rk b o->(∀x∈l,rk x=b)->Lay rk b o'
 |[],_,_,h,ho,_=>by cases h;exact ho |n::l,o,o',h,ho,hl=>by
  simp only[Fb] at h;cases hp:Hl key m o n with
  |none=>rw[hp] at h;cases h |some o1=>
   rw[hp] at h;exact adC h (aoo hp ho (hl n cu)) fun x hx=>hl x (dw _ hx)
theorem ag2{m:Nat}{rk:α->Nat}(hr:∀n,∀t∈next n,rk t=rk n+1):∀{f i:Nat} {o r:List α},LM key next m f o i=ay r->(∀n,o[i]?=ay n->Lay rk (rk n+1) o)->o.Pairwise (fun x y=>rk x<=rk y)->r.Pairwise fun x y=>rk x<=rk y
 |0,_,_,_,h,_,ho=>by cases h;exact ho |f+1,i,o,r,h,hL,ho=>by
  simp only[LM] at h;cases hi:o[i]? with
  |none=>rw[hi] at h;cases h;exact ho |some n=>
   rw[hi] at h;simp only at h;cases hp:Fb key m o (next n) with
   |none=>rw[hp] at h;cases h |some o1=>
    rw[hp] at h;have h1:=adC hp (hL n hi) fun x hx=>hr n x hx
    refine ag2 hr h (fun n' hn'=>⟨h1.1,fun x hx=>?_⟩) h1.1;obtain ⟨t,e,_⟩:=OX hp;have hil:=(aU.1 hi).1;have hn:o1[i]?=ay n:=by rw[e,dI hil];exact hi
    have hle:rk n<=rk n':=by
     obtain ⟨q1,e1⟩:=aU.1 hn;obtain ⟨q2,e2⟩:=aU.1 hn';have:=jA.1 h1.1 i (i+1) q1 q2 (by omega);rw[e1,e2] at this;exact this
    have:=h1.2 x hx;omega
def H6(key:α->κ)(next:α->List α)(full:α->Bool):List α->κ->Bool
 |[],_=>ak |n::l,k=>if key n=k then full n||(next n).any (fun t=>H6 key next full l (key t)) else H6 key next full l k
inductive Y2(next:α->List α)(full:α->Bool):α->Prop
 |here {n:α}:full n=aC->Y2 next full n
 |step {n t:α}:t∈next n->Y2 next full t->Y2 next full n
theorem abu{full:α->Bool}{Q:α->Prop}(hQ:∀n,Q n->∀t∈next n,Q t)(hk:∀x y,Q x->Q y->key x=key y->x=y):∀{l:List α},(∀x∈l,Q x)->(l.map key).Nodup->
  (∀(i:Nat) n,l[i]?=ay n->∀t∈next n,∃(j:Nat) (x:α),i<j/\l[j]?=ay x/\key x=key t)->∀n∈l,(H6 key next full l (key n)=aC↔Y2 next full n)
 |[],_,_,_,n,hn=>by cases hn |a::l,hq,hd,hf,n,hn=>by
  have hd':=List.nodup_cons.1 (by simpa using hd:(key a::l.map key).Nodup);have ih:=abu (l:=l) (full:=full) hQ hk (fun x hx=>hq x (dw _ hx)) hd'.2 (fun i n hi t ht=>by
   obtain ⟨j,x,h1,h2,h3⟩:=hf (i+1) n (by simpa using hi) t ht;cases j with
   |zero=>omega |succ j=>exact ⟨j,x,by omega,by simpa using h2,h3⟩)
  have tail:∀t∈next a,(H6 key next full l (key t)=aC↔Y2 next full t):=fun t ht=>by
   obtain ⟨j,x,h1,h2,h3⟩:=hf 0 a rfl t ht;cases j with
   |zero=>omega |succ j=>
    have hx:x∈l:=bT (by simpa using h2);have e:x=t:=hk x t (hq x (dw _ hx)) (hQ a (hq a cu) t ht) h3;rw[<-e];exact ih x hx
  by_cases e:key a=key n
  ·have:a=n:=hk a n (hq a cu) (hq n hn) e
   subst this;unfold H6;rw[if_pos rfl,mZ,List.any_eq_true];constructor
   ·rintro (h|⟨t,ht,h⟩)
    ·exact .here h
    ·exact .step ht ((tail t ht).1 h)
   ·intro h
    cases h with
    |here h=>exact .inl h |step ht h=>exact .inr ⟨_,ht,(tail _ ht).2 h⟩
  ·unfold H6
   rw[if_neg e];rcases gY.1 hn with rfl|hn
   ·exact (e rfl).elim
   ·exact ih n hn
theorem behind{m f:Nat}{rk:α->Nat}{Q:α->Prop}{a r:List α}(hQ:∀n,Q n->∀t∈next n,Q t)(hk:∀x y,Q x->Q y->key x=key y->x=y)(hr:∀n,∀t∈next n,rk t=rk n+1)
  (h:LM key next m f a 0=ay r) (hl:r.length<f) (ha:∀x∈a,Q x) (h1:a.length<=1):∀(i:Nat) n,r[i]?=ay n->∀t∈next n,∃(j:Nat) (x:α),i<j/\r[j]?=ay x/\key x=key t:=by
 have hq:=OY hQ h ha;have hc:=RX h (by omega) (fun j n hj=>by omega);have hs:=ag2 hr h (fun n hn=>⟨by
   match a,h1 with
   |[],_=>exact pI |[x],_=>exact lD _ _,fun x hx=>by
   match a,h1,hn,hx with
   |[y],_,hn,hx=>
    obtain rfl:x=y:=by simpa using hx
    have hn:x=n:=by simpa using hn
    subst hn;omega⟩) (by
   match a,h1 with
   |[],_=>exact pI |[x],_=>exact lD _ _)
 intro i n hi t ht;obtain ⟨x,hx,e⟩:=JC.1 (hc n (bT hi) t ht);obtain ⟨j,hj,ej⟩:=mD.1 hx;have hxt:x=t:=hk x t (hq x hx) (hQ n (hq n (bT hi)) t ht) e;refine ⟨j,x,?_,by rw[aV hj,ej],e⟩;have hrk:=hr n t ht;obtain ⟨q1,e1⟩:=aU.1 hi;refine nD fun hn=>?_
 rcases oP j i with q|q
 ·have:=jA.1 hs j i hj q1 q
  rw[ej,e1,hxt] at this;omega
 ·obtain rfl:j=i:=by omega
  rw[e1] at ej;rw[ej,hxt] at hrk;omega
end
end Go.Bf
namespace Go.Gm
open Go.Bf
structure Nd(S:Type)where
 placed:Nat
 st:S
structure Game(S:Type)where
 n:Nat
 id:Nat->Int
 com:Nat->Bool
 abo:Nat->Bool
 mask:Nat->Nat
 run:S->Nat->Option S
 all:Bool
section
variable{S:Type}(g:Game S)
def may(p i:Nat):Bool:=!p.testBit i&&(aX g.n).all fun j=>!(g.mask i).testBit j||p.testBit j
def GX(nd:Nd S)(i:Nat):List ((Int×Bool)×Nd S):=
 if may g nd.placed i=aC then
  (match g.com i,g.run nd.st i with
   |true,ay s=>[((g.id i,aC),⟨nd.placed|||1<<<i,s⟩)] |_,_=>[]) ++
  (if g.abo i=aC/\(g.all=aC->(g.run nd.st i).isSome=aC) then [((g.id i,ak),⟨nd.placed|||1<<<i,nd.st⟩)] else [])
 else []
def turns(nd:Nd S):List ((Int×Bool)×Nd S):=(aX g.n).flatMap (GX g nd)
def next(nd:Nd S):List (Nd S):=(turns g nd).map (·.2)
def rk(nd:Nd S):Nat:=(aX g.n).countP fun i=>nd.placed.testBit i
def full(nd:Nd S):Bool:=decide (nd.placed=2^g.n - 1)
variable{g}
theorem aq8(p i j:Nat):(p|||1<<<i).testBit j=(p.testBit j||decide (i=j)):=by
 rw[Nat.testBit_or,lZ,iF,Nat.testBit_two_pow]
theorem adD{nd:Nd S}{i:Nat}{t:(Int×Bool)×Nd S}(h:t∈GX g nd i):nd.placed.testBit i=ak/\t.1.1=g.id i/\t.2.placed=nd.placed|||1<<<i:=by
 unfold GX at h;split at h
 ·rename_i hm
  have hb:nd.placed.testBit i=ak:=by
   unfold may at hm;rw[aH] at hm;simpa using hm.1
  rcases bK.1 h with h|h
  ·split at h
   ·obtain rfl:t=_:=by simpa using h
    exact ⟨hb,rfl,rfl⟩
   ·cases h
  ·split at h
   ·obtain rfl:t=_:=by simpa using h
    exact ⟨hb,rfl,rfl⟩
   ·cases h
 ·cases h
theorem Y3{p:Nat->Bool}{i:Nat}:∀n,i<n->p i=ak->(aX n).countP (fun j=>p j||decide (i=j))=(aX n).countP p+1
 |0,h,_=>by omega |n+1,h,hp=>by
  rw[pY,sV,sV];by_cases e:i=n
  ·subst e
   have:(aX i).countP (fun j=>p j||decide (i=j))=(aX i).countP p:=by
    refine List.countP_congr fun j hj=>?_
    have:j<i:=dN.1 hj;have:decide (i=j)=ak:=decide_eq_false (by omega);simp[this]
   rw[this];simp[hp]
  ·have ih:=Y3 (p:=p) (i:=i) n (by omega) hp
   rw[ih];have:decide (i=n)=ak:=decide_eq_false e;simp[List.countP_cons,this];omega
theorem abv{nd:Nd S}:∀t∈next g nd,rk g t=rk g nd+1:=fun t ht=>by
 unfold next turns at ht;obtain ⟨x,hx,rfl⟩:=dJ.1 ht;obtain ⟨i,hi,hx⟩:=kK.1 hx;obtain ⟨h1,_,h2⟩:=adD hx;unfold rk;rw[h2];simp only[aq8];exact Y3 g.n (dN.1 hi) h1
theorem lt_next{nd:Nd S}(h:nd.placed<2^g.n):∀t∈next g nd,t.placed<2^g.n:=fun t ht=>by
 unfold next turns at ht;obtain ⟨x,hx,rfl⟩:=dJ.1 ht;obtain ⟨i,hi,hx⟩:=kK.1 hx;obtain ⟨_,_,h2⟩:=adD hx;rw[h2];refine oW h ?_;rw[lZ,iF];exact jw (by decide) (dN.1 hi)
def least(g:Game S)(ld:Nd S->Bool):Nat->Nd S->List (Int×Bool)
 |0,_=>[] |f+1,nd=>if full g nd=aC then [] else match (turns g nd).find? fun t=>ld t.2 with
  |none=>[] |some t=>t.1::least g ld f t.2
def walk(g:Game S):Nd S->List (Int×Bool)->Option (Nd S)
 |nd,[]=>ay nd |nd,s::l=>match (turns g nd).find? fun t=>t.1==s with
  |none=>aK |some t=>walk g t.2 l
theorem aiS{nd:Nd S}(h:Y2 (next g) (full g) nd)(hn:full g nd=ak):∃t∈turns g nd,Y2 (next g) (full g) t.2:=by
 cases h with
 |here h=>rw[hn] at h;cases h |step ht h=>
  obtain ⟨t,q,rfl⟩:=dJ.1 ht;exact ⟨t,q,h⟩
end
open Go.Bf
section
variable{S κ:Type}[DecidableEq κ](g:Game S)(key:Nd S->κ)
def start(s:S):Nd S:=⟨0,s⟩
def EH(s:S)(m:Nat):Option (List (Nd S)):=LM key (next g) m (m+1) [start s] 0
def UU(r:List (Nd S))(nd:Nd S):Bool:=H6 key (next g) (full g) r (key nd)
def RY(s:S)(r:List (Nd S)):Bool:=UU g key r (start s)
def JD(s:S)(r:List (Nd S)):List (Int×Bool):=if RY g key s r=aC then least g (UU g key r) (g.n+1) (start s) else []
variable{g key}
theorem UW{s:S}{m:Nat}(hm:1<=m){r:List (Nd S)}(h:EH g key s m=ay r):1<=r.length/\r.length<=m:=by
 obtain ⟨t,e,hl⟩:=abr h;exact ⟨by rw[e];simp,hl (by simpa using hm)⟩
theorem aq9{s:S}{m:Nat}(hm:1<=m){r:List (Nd S)}(h:EH g key s m=ay r){Q:Nd S->Prop}(hQ:∀n,Q n->∀t∈next g n,Q t)(hk:∀x y,Q x->Q y->key x=key y->x=y)(hs:Q (start s)):
  ∀n∈r,(UU g key r n=aC↔Y2 (next g) (full g) n):=by
 have hl:=(UW hm h).2;have ha:∀x∈[start s],Q x:=fun x hx=>by
  obtain rfl:x=start s:=by simpa using hx
  exact hs
 exact abu hQ hk (OY hQ h ha) (abt h (by simp)) (behind hQ hk (fun n t ht=>abv t ht) h (by omega) ha (by simp))
theorem alC{s:S}{m:Nat}{r:List (Nd S)}(h:EH g key s m=ay r):start s∈r:=by
 obtain ⟨t,e,_⟩:=abr h;rw[e];simp
theorem alD{s:S}{m:Nat}(hm:1<=m){r:List (Nd S)}(h:EH g key s m=ay r){Q:Nd S->Prop}(hQ:∀n,Q n->∀t∈next g n,Q t)(hk:∀x y,Q x->Q y->key x=key y->x=y)(hs:Q (start s)):∀n∈r,∀t∈next g n,t∈r:=by
 have hl:=(UW hm h).2;have ha:∀x∈[start s],Q x:=fun x hx=>by
  obtain rfl:x=start s:=by simpa using hx
  exact hs
 have hq:=OY hQ h ha;have hc:=RX h (by omega) (fun j n hj=>by omega);intro n hn t ht;obtain ⟨x,hx,e⟩:=JC.1 (hc n hn t ht);rw[<-hk x t (hq x hx) (hQ n (hq n hn) t ht) e];exact hx
end
end Go.Gm
namespace Go.Pl
open Go Go.Sx
theorem J7(p:Nat):fZ 64 (p:Int)=BitVec.ofNat 64 p:=BitVec.ofInt_natCast 64 p
theorem OZ{p:Nat}(h:p<2^63):aT.wrap (p:Int)=(p:Int):=BL (by omega) (by omega)
theorem aks{p q n:Nat}(h:p<2^n):p&&&q<2^n:=uq Nat.and_le_left h
theorem aop{p q:Nat}(hp:p<2^63)(hq:q<2^63):zV.bin .and .i64 (p:Int) (q:Int)=((p&&&q:Nat):Int):=by
 show aT.wrap ((fZ 64 (p:Int)&&&fZ 64 (q:Int)).toNat:Int)=_;rw[J7,J7,sW,iY,iY,iC (by omega),iC (by omega)];exact OZ (aks hp)
theorem ara{p q:Nat}(hp:p<2^63)(hq:q<2^63):zV.bin .or .i64 (p:Int) (q:Int)=((p|||q:Nat):Int):=by
 show aT.wrap ((fZ 64 (p:Int)|||fZ 64 (q:Int)).toNat:Int)=_;rw[J7,J7,BitVec.toNat_or,iY,iY,iC (by omega),iC (by omega)];exact OZ (oW hp hq)
theorem ag3{p q:Nat}(hp:p<2^63)(hq:q<2^63):zV.bin .andNot .i64 (p:Int) (q:Int)=((p&&&(2^64 - 1 - q):Nat):Int):=by
 show aT.wrap ((fZ 64 (p:Int)&&&~~~ fZ 64 (q:Int)).toNat:Int)=_;rw[J7,J7,sW,BitVec.toNat_not,iY,iY,iC (by omega),iC (by omega)];exact OZ (aks hp)
theorem ag4{i:Nat}(h:i<63):zV.bin .shl .i64 (ah 1) (i:Int)=((2^i:Nat):Int):=by
 show aT.wrap ((1:Int)*2^(min (i:Int).toNat 64))=_;rw[fJ,qx (by omega),Int.one_mul];have:((2:Int)^i)=((2^i:Nat):Int):=by push_cast;rfl
 rw[this];exact OZ (jw (by decide) h)
theorem aoq{p i:Nat}(h:i<=64):zV.bin .shr .i64 (p:Int) (i:Int)=((p>>>i:Nat):Int):=by
 show Int.fdiv (p:Int) (2^(min (i:Int).toNat 64))=_;rw[fJ,qx h];have:((2:Int)^i)=((2^i:Nat):Int):=by push_cast;rfl
 rw[this,Int.fdiv_eq_ediv_of_nonneg _ (Int.natCast_nonneg _),<-Int.natCast_ediv,qp]
theorem arb(p i:Nat):p>>>i<=p:=by rw[qp];exact Nat.div_le_self _ _
theorem ard{p i:Nat}(hp:p<2^63)(hi:i<=64):zV.eq (zV.bin .and .i64 (zV.bin .shr .i64 (p:Int) (i:Int)) (ah 1)) (ah 1)=p.testBit i:=by
 rw[aoq hi];have h:=aop (p:=p>>>i) (q:=1) (uq (arb p i) hp) (by decide);have h:zV.bin .and .i64 ((p>>>i:Nat):Int) (ah 1)=((p>>>i&&&1:Nat):Int):=h;rw[h,Ap];unfold Nat.testBit;rw[yT];have h1:1&&&p>>>i=p>>>i % 2:=by rw[yT];exact Nat.and_one_is_mod _
 rw[h1];rcases Nat.mod_two_eq_zero_or_one (p>>>i) with e|e<;>rw[e]<;>rfl
theorem alE{m p N:Nat}(hm:m<2^N)(hN:N<=62)(hp:p<2^63):zV.nt (zV.eq (zV.bin .andNot .i64 (m:Int) (p:Int)) (ah 0))=!((aX N).all fun j=>!m.testBit j||p.testBit j):=by
 have hm':m<2^63:=lu hm (mO (by decide) (by omega));rw[ag3 hm' hp,BP,Ap];congr 1;have key:∀j,(m&&&(2^64 - 1 - p)).testBit j=(m.testBit j && !p.testBit j):=fun j=>by
  rw[Nat.testBit_and];by_cases hj:j<N
  ·rw[show 2^64 - 1 - p=2^64 - (p+1) by omega,Nat.testBit_two_pow_sub_succ (by omega),decide_eq_true (by omega:j<64)];rfl
  ·have:m.testBit j=ak:=qW (lu hm (mO (by decide) (by omega)))
   rw[this];rfl
 cases ha:(aX N).all fun j=>!m.testBit j||p.testBit j with
 |true=>
  rw[dK] at ha;have:m&&&(2^64 - 1 - p)=0:=Nat.eq_of_testBit_eq fun j=>by
   rw[key,vX];by_cases hj:j<N
   ·have:=ha j (dN.2 hj)
    revert this;cases m.testBit j<;>cases p.testBit j<;>simp
   ·have:m.testBit j=ak:=qW (lu hm (mO (by decide) (by omega)))
    rw[this];rfl
  rw[this];rfl
 |false=>
  have:m&&&(2^64 - 1 - p)≠0:=fun e=>by
   have:((aX N).all fun j=>!m.testBit j||p.testBit j)=aC:=by
    rw[dK];intro j hj;have:=key j;rw[e,vX] at this;revert this;cases m.testBit j<;>cases p.testBit j<;>simp
   rw[this] at ha;cases ha
  have h2:(((m&&&(2^64 - 1 - p):Nat):Int)==ah 0)=ak:=by
   rw[beq_eq_false_iff_ne];intro e;exact this (kT e)
  exact h2
theorem or_eq{p i:Nat}(hp:p<2^63)(hi:i<63):zV.bin .or .i64 (p:Int) (zV.bin .shl .i64 (ah 1) (i:Int))=((p|||1<<<i:Nat):Int):=by
 rw[ag4 hi,ara hp (jw (by decide) hi),lZ,iF]
theorem aor{N:Nat}(hN:N<=62):zV.sub .i64 (zV.bin .shl .i64 (ah 1) (N:Int)) (ah 1)=((2^N - 1:Nat):Int):=by
 rw[ag4 (by omega),L9];have h1:1<=2^N:=Nat.one_le_two_pow;have h2:2^N<2^63:=jw (by decide) (by omega);have:((2^N:Nat):Int) - ah 1=((2^N - 1:Nat):Int):=by
  rw[Int.natCast_sub h1];rfl
 rw[this];exact OZ (by omega)
open Go Go.Sx Go.Proofs Go.Gm
noncomputable def TN(lv:Int)(N:Nat)(T:Nat->D8)(mk:Nat->Int)(n:Nat):Game (Nat->List Sh) where
 n:=N
 id i:=(T i).id
 com i:=(T i).st==3||(T i).st==2
 abo i:=!((T i).st==3)
 mask i:=(mk i).toNat
 run g i:=if plO n g (T i).k (T i).g=aC then ay (TM n g (T i).k (T i).g) else aK
 all:=lv==3
def Gu(n:Nat)(t:(Int×Bool)×Nd (Nat->List Sh)):Jl:=⟨t.1.1,t.1.2,(t.2.placed:Nat),n,t.2.st⟩
structure TuP(lv:Int)(N:Nat)(T:Nat->D8)(N':Nat)(mk:Nat->Int)(p:Int)(n:Nat)(g:Nat->List Sh):Prop where
 le:N<=62
 eq:N=N'
 pos:0<=p
 lt:p<2^62
 mpos:∀i,i<N->0<=mk i
 mlt:∀i,i<N->(mk i).toNat<2^N
 fit:∀i,i<N->may (TN lv N T mk n) p.toNat i=aC->plN n g (T i).k (T i).g=aC
noncomputable def tuL(lv:Int)(N:Nat)(T:Nat->D8)(mk:Nat->Int)(p:Int)(n:Nat)(g:Nat->List Sh):List Jl:=(turns (TN lv N T mk n) ⟨p.toNat,g⟩).map (Gu n)
noncomputable def tuB(lv:Int)(N:Nat)(T':Nat->List Sh)(N':Nat)(mk':Nat->List Sh)(p:Int)(st n:Nat)(g:Nat->List Sh):Bool:=
 okB D8 N T'&&(okB Int N' mk'&&((fB st 4||fB n 0)&&@decide (TuP lv N (zY T') N' (zY mk') p n g) (bD _)))
noncomputable def Ol(lv:Int)(N:Nat)(T':Nat->List Sh)(mk':Nat->List Sh)(p:Int)(n:Nat)(g:Nat->List Sh):Nat:=(tuL lv N (zY T') (zY mk') p n g).length
noncomputable def Zp(lv:Int)(N:Nat)(T':Nat->List Sh)(mk':Nat->List Sh)(p:Int)(n:Nat)(g:Nat->List Sh):Nat->Jl:=nth (tuL lv N (zY T') (zY mk') p n g)
theorem GY{α:Type}[Row α](o:Nat->α):zY (zW o)=o:=funext fun i=>Nb o i
end Go.Pl
namespace Go.Proofs
open Go Go.Sx Go.Pl Go.Gm
noncomputable def D41:List Sh->Tree Sh
 |[.pt [.i .i64 lv,s1,s2,s3],.agg [t,.sl st n g]]=>match DJ 7 s1,DJ 1 s2,DJ 4 s3,AZ t with
  |some (N,T'),ay (N',mk'),ay _,ay p=>.need (tuB lv N T' N' mk' p st n g) (.leaf (.sl 4 (Ol lv N T' mk' p n g) (zW (Zp lv N T' mk' p n g)))) |_,_,_,_=>.fail
 |_=>.fail
open Go Go.Sx Go.Pl
theorem aiT(A:Prim)(W:Wd)(lv:Int)(N:Nat)(T:Nat->D8)(N':Nat)(mk:Nat->Int)(k0:Nat)(g0:Nat->List Sh)(p:Int)(n:Nat)(g:Nat->List Sh)(m:Nat)(R:Nat->Jl)(i':Int){ψ:D7->Prop}(y1:ψ (bJ 0 [aJ 1 1,bC (fun (x:Nat)=>BJ lv N T N' mk k0 g0) fun (x:Nat)=>BJ lv N T N' mk k0 g0,aJ 0 0,aP (aG 7 N (zW T)) (aG 7 N (zW T)),aj (A.Az N) (ah N),aj (ah 0) i',aj p p,aP (aG 4 n g) (aG 4 n g),aJ m 0])):Cb ψ (AP (C7 A W NP Am) Bg 300 400 41 [.code []] (zZ 104 [.pt (BJ lv N T N' mk k0 g0),.agg [.i .i64 p,.sl 4 n g]] L0) [] [⟨41,WI,Y0 lv N T N' mk k0 g0 p n g m R i',[]⟩]):=by
 exact Gf y1 (by kernel_rfl)
theorem abx(A:Prim)(W:Wd)(lv:Int)(N:Nat)(T:Nat->D8)(N':Nat)(mk:Nat->Int)(k0:Nat)(g0:Nat->List Sh)(p:Int)(n:Nat)(g:Nat->List Sh)(m m':Nat)(R R':Nat->Jl)(i i':Int){ψ:D7->Prop}{c0 c1 c2 c3 c4 c5 c6 c7:Bool}(e0:A.lt i (ah N)=c0)(e1:A.eq (A.bin BinOp.and aT (A.bin BinOp.shr aT p i) (ah 1)) (ah 1)=c1)(e2:A.nt (A.eq (A.bin BinOp.andNot aT (mk (A.toN i)) p) (ah 0))=c2)(e3:plO n g (T (A.toN i)).k (T (A.toN i)).g=c3)(e4:A.eq (T (A.toN i)).st (ah 3)=c4)(e5:A.nt (A.eq (T (A.toN i)).st (ah 3))=c5)(e6:A.nt (A.eq lv (ah 3))=c6)(e7:A.eq (T (A.toN i)).st (ah 2)=c7)(h1:c0=aC->(A.inB i N)=aC)(h2:c0=aC->(A.le (ah 0) i)=aC)(h3:c0=aC->c1=ak->(A.inB i N')=aC)(h4:c0=aC->c1=ak->c2=ak->(plN n g (T (A.toN i)).k (T (A.toN i)).g)=aC)(h5:c0=aC->c1=ak->c2=ak->c3=aC->c4=aC->(A.room (A.addN m 1) 48)=aC)(h6:c0=aC->c1=ak->c2=ak->c3=aC->c4=aC->c5=aC->c6=aC->(A.room (A.addN (A.addN m 1) 1) 48)=aC)(h7:c0=aC->c1=ak->c2=ak->c3=aC->c4=aC->c5=aC->c6=ak->(A.room (A.addN (A.addN m 1) 1) 48)=aC)(h8:c0=aC->c1=ak->c2=ak->c3=aC->c4=ak->c7=aC->(A.room (A.addN m 1) 48)=aC)(h9:c0=aC->c1=ak->c2=ak->c3=aC->c4=ak->c7=aC->c5=aC->c6=aC->(A.room (A.addN (A.addN m 1) 1) 48)=aC)(h10:c0=aC->c1=ak->c2=ak->c3=aC->c4=ak->c7=aC->c5=aC->c6=ak->(A.room (A.addN (A.addN m 1) 1) 48)=aC)(h11:c0=aC->c1=ak->c2=ak->c3=aC->c4=ak->c7=ak->c5=aC->c6=aC->(A.room (A.addN m 1) 48)=aC)(h12:c0=aC->c1=ak->c2=ak->c3=aC->c4=ak->c7=ak->c5=aC->c6=ak->(A.room (A.addN m 1) 48)=aC)(h13:c0=aC->c1=ak->c2=ak->c3=ak->c4=aC->c5=aC->c6=aC->(A.room (A.addN m 1) 48)=aC)(h14:c0=aC->c1=ak->c2=ak->c3=ak->c4=ak->c7=aC->c5=aC->c6=aC->(A.room (A.addN m 1) 48)=aC)(h15:c0=aC->c1=ak->c2=ak->c3=ak->c4=ak->c7=ak->c5=aC->c6=aC->(A.room (A.addN m 1) 48)=aC)(y1:c0=aC->c1=aC->ψ (bJ 0 [aJ 1 1,bC (fun (x:Nat)=>BJ lv N T N' mk k0 g0) fun (x:Nat)=>BJ lv N T N' mk k0 g0,aJ 0 0,aP (aG 7 N (zW T)) (aG 7 N (zW T)),aj (ah N) (ah N),aj (A.add .i64 i (ah 1)) i',aj p p,aP (aG 4 n g) (aG 4 n g),aJ m m',aS m (zW R) (zW R')]))(y2:c0=aC->c1=ak->c2=aC->ψ (bJ 0 [aJ 1 1,bC (fun (x:Nat)=>BJ lv N T N' mk k0 g0) fun (x:Nat)=>BJ lv N T N' mk k0 g0,aJ 0 0,aP (aG 7 N (zW T)) (aG 7 N (zW T)),aj (ah N) (ah N),aj (A.add .i64 i (ah 1)) i',aj p p,aP (aG 4 n g) (aG 4 n g),aJ m m',aS m (zW R) (zW R')]))(y3:c0=aC->c1=ak->c2=ak->c3=aC->c4=aC->c5=aC->c6=aC->ψ (bJ 0 [aJ 1 1,bC (fun (x:Nat)=>BJ lv N T N' mk k0 g0) fun (x:Nat)=>BJ lv N T N' mk k0 g0,aJ 0 0,aP (aG 7 N (zW T)) (aG 7 N (zW T)),aj (ah N) (ah N),aj (A.add .i64 i (ah 1)) i',aj p p,aP (aG 4 n g) (aG 4 n g),aJ (A.addN (A.addN m 1) 1) m',aS (A.addN (A.addN m 1) 1) (A.snoc (A.snoc (zW R) m (AQ [[aW .i64 (T (A.toN i)).id,eP aC,aW .i64 (A.bin iT aT p (A.bin ig aT (ah 1) i)),aG 4 n (TM n g (T (A.toN i)).k (T (A.toN i)).g)]])) (A.addN m 1) (AQ [[aW .i64 (T (A.toN i)).id,eP ak,aW .i64 (A.bin iT aT p (A.bin ig aT (ah 1) i)),aG 4 n g]])) (zW R')]))(y4:c0=aC->c1=ak->c2=ak->c3=aC->c4=aC->c5=aC->c6=ak->ψ (bJ 0 [aJ 1 1,bC (fun (x:Nat)=>BJ lv N T N' mk k0 g0) fun (x:Nat)=>BJ lv N T N' mk k0 g0,aJ 0 0,aP (aG 7 N (zW T)) (aG 7 N (zW T)),aj (ah N) (ah N),aj (A.add .i64 i (ah 1)) i',aj p p,aP (aG 4 n g) (aG 4 n g),aJ (A.addN (A.addN m 1) 1) m',aS (A.addN (A.addN m 1) 1) (A.snoc (A.snoc (zW R) m (AQ [[aW .i64 (T (A.toN i)).id,eP aC,aW .i64 (A.bin iT aT p (A.bin ig aT (ah 1) i)),aG 4 n (TM n g (T (A.toN i)).k (T (A.toN i)).g)]])) (A.addN m 1) (AQ [[aW .i64 (T (A.toN i)).id,eP ak,aW .i64 (A.bin iT aT p (A.bin ig aT (ah 1) i)),aG 4 n g]])) (zW R')]))(y5:c0=aC->c1=ak->c2=ak->c3=aC->c4=aC->c5=ak->ψ (bJ 0 [aJ 1 1,bC (fun (x:Nat)=>BJ lv N T N' mk k0 g0) fun (x:Nat)=>BJ lv N T N' mk k0 g0,aJ 0 0,aP (aG 7 N (zW T)) (aG 7 N (zW T)),aj (ah N) (ah N),aj (A.add .i64 i (ah 1)) i',aj p p,aP (aG 4 n g) (aG 4 n g),aJ (A.addN m 1) m',aS (A.addN m 1) (A.snoc (zW R) m (AQ [[aW .i64 (T (A.toN i)).id,eP aC,aW .i64 (A.bin iT aT p (A.bin ig aT (ah 1) i)),aG 4 n (TM n g (T (A.toN i)).k (T (A.toN i)).g)]])) (zW R')]))(y6:c0=aC->c1=ak->c2=ak->c3=aC->c4=ak->c7=aC->c5=aC->c6=aC->ψ (bJ 0 [aJ 1 1,bC (fun (x:Nat)=>BJ lv N T N' mk k0 g0) fun (x:Nat)=>BJ lv N T N' mk k0 g0,aJ 0 0,aP (aG 7 N (zW T)) (aG 7 N (zW T)),aj (ah N) (ah N),aj (A.add .i64 i (ah 1)) i',aj p p,aP (aG 4 n g) (aG 4 n g),aJ (A.addN (A.addN m 1) 1) m',aS (A.addN (A.addN m 1) 1) (A.snoc (A.snoc (zW R) m (AQ [[aW .i64 (T (A.toN i)).id,eP aC,aW .i64 (A.bin iT aT p (A.bin ig aT (ah 1) i)),aG 4 n (TM n g (T (A.toN i)).k (T (A.toN i)).g)]])) (A.addN m 1) (AQ [[aW .i64 (T (A.toN i)).id,eP ak,aW .i64 (A.bin iT aT p (A.bin ig aT (ah 1) i)),aG 4 n g]])) (zW R')]))(y7:c0=aC->c1=ak->c2=ak->c3=aC->c4=ak->c7=aC->c5=aC->c6=ak->ψ (bJ 0 [aJ 1 1,bC (fun (x:Nat)=>BJ lv N T N' mk k0 g0) fun (x:Nat)=>BJ lv N T N' mk k0 g0,aJ 0 0,aP (aG 7 N (zW T)) (aG 7 N (zW T)),aj (ah N) (ah N),aj (A.add .i64 i (ah 1)) i',aj p p,aP (aG 4 n g) (aG 4 n g),aJ (A.addN (A.addN m 1) 1) m',aS (A.addN (A.addN m 1) 1) (A.snoc (A.snoc (zW R) m (AQ [[aW .i64 (T (A.toN i)).id,eP aC,aW .i64 (A.bin iT aT p (A.bin ig aT (ah 1) i)),aG 4 n (TM n g (T (A.toN i)).k (T (A.toN i)).g)]])) (A.addN m 1) (AQ [[aW .i64 (T (A.toN i)).id,eP ak,aW .i64 (A.bin iT aT p (A.bin ig aT (ah 1) i)),aG 4 n g]])) (zW R')]))(y8:c0=aC->c1=ak->c2=ak->c3=aC->c4=ak->c7=aC->c5=ak->ψ (bJ 0 [aJ 1 1,bC (fun (x:Nat)=>BJ lv N T N' mk k0 g0) fun (x:Nat)=>BJ lv N T N' mk k0 g0,aJ 0 0,aP (aG 7 N (zW T)) (aG 7 N (zW T)),aj (ah N) (ah N),aj (A.add .i64 i (ah 1)) i',aj p p,aP (aG 4 n g) (aG 4 n g),aJ (A.addN m 1) m',aS (A.addN m 1) (A.snoc (zW R) m (AQ [[aW .i64 (T (A.toN i)).id,eP aC,aW .i64 (A.bin iT aT p (A.bin ig aT (ah 1) i)),aG 4 n (TM n g (T (A.toN i)).k (T (A.toN i)).g)]])) (zW R')]))(y9:c0=aC->c1=ak->c2=ak->c3=aC->c4=ak->c7=ak->c5=aC->c6=aC->ψ (bJ 0 [aJ 1 1,bC (fun (x:Nat)=>BJ lv N T N' mk k0 g0) fun (x:Nat)=>BJ lv N T N' mk k0 g0,aJ 0 0,aP (aG 7 N (zW T)) (aG 7 N (zW T)),aj (ah N) (ah N),aj (A.add .i64 i (ah 1)) i',aj p p,aP (aG 4 n g) (aG 4 n g),aJ (A.addN m 1) m',aS (A.addN m 1) (A.snoc (zW R) m (AQ [[aW .i64 (T (A.toN i)).id,eP ak,aW .i64 (A.bin iT aT p (A.bin ig aT (ah 1) i)),aG 4 n g]])) (zW R')]))(y10:c0=aC->c1=ak->c2=ak->c3=aC->c4=ak->c7=ak->c5=aC->c6=ak->ψ (bJ 0 [aJ 1 1,bC (fun (x:Nat)=>BJ lv N T N' mk k0 g0) fun (x:Nat)=>BJ lv N T N' mk k0 g0,aJ 0 0,aP (aG 7 N (zW T)) (aG 7 N (zW T)),aj (ah N) (ah N),aj (A.add .i64 i (ah 1)) i',aj p p,aP (aG 4 n g) (aG 4 n g),aJ (A.addN m 1) m',aS (A.addN m 1) (A.snoc (zW R) m (AQ [[aW .i64 (T (A.toN i)).id,eP ak,aW .i64 (A.bin iT aT p (A.bin ig aT (ah 1) i)),aG 4 n g]])) (zW R')]))(y11:c0=aC->c1=ak->c2=ak->c3=aC->c4=ak->c7=ak->c5=ak->ψ (bJ 0 [aJ 1 1,bC (fun (x:Nat)=>BJ lv N T N' mk k0 g0) fun (x:Nat)=>BJ lv N T N' mk k0 g0,aJ 0 0,aP (aG 7 N (zW T)) (aG 7 N (zW T)),aj (ah N) (ah N),aj (A.add .i64 i (ah 1)) i',aj p p,aP (aG 4 n g) (aG 4 n g),aJ m m',aS m (zW R) (zW R')]))(y12:c0=aC->c1=ak->c2=ak->c3=ak->c4=aC->c5=aC->c6=aC->ψ (bJ 0 [aJ 1 1,bC (fun (x:Nat)=>BJ lv N T N' mk k0 g0) fun (x:Nat)=>BJ lv N T N' mk k0 g0,aJ 0 0,aP (aG 7 N (zW T)) (aG 7 N (zW T)),aj (ah N) (ah N),aj (A.add .i64 i (ah 1)) i',aj p p,aP (aG 4 n g) (aG 4 n g),aJ (A.addN m 1) m',aS (A.addN m 1) (A.snoc (zW R) m (AQ [[aW .i64 (T (A.toN i)).id,eP ak,aW .i64 (A.bin iT aT p (A.bin ig aT (ah 1) i)),aG 4 n g]])) (zW R')]))(y13:c0=aC->c1=ak->c2=ak->c3=ak->c4=aC->c5=aC->c6=ak->ψ (bJ 0 [aJ 1 1,bC (fun (x:Nat)=>BJ lv N T N' mk k0 g0) fun (x:Nat)=>BJ lv N T N' mk k0 g0,aJ 0 0,aP (aG 7 N (zW T)) (aG 7 N (zW T)),aj (ah N) (ah N),aj (A.add .i64 i (ah 1)) i',aj p p,aP (aG 4 n g) (aG 4 n g),aJ m m',aS m (zW R) (zW R')]))(y14:c0=aC->c1=ak->c2=ak->c3=ak->c4=aC->c5=ak->ψ (bJ 0 [aJ 1 1,bC (fun (x:Nat)=>BJ lv N T N' mk k0 g0) fun (x:Nat)=>BJ lv N T N' mk k0 g0,aJ 0 0,aP (aG 7 N (zW T)) (aG 7 N (zW T)),aj (ah N) (ah N),aj (A.add .i64 i (ah 1)) i',aj p p,aP (aG 4 n g) (aG 4 n g),aJ m m',aS m (zW R) (zW R')]))(y15:c0=aC->c1=ak->c2=ak->c3=ak->c4=ak->c7=aC->c5=aC->c6=aC->ψ (bJ 0 [aJ 1 1,bC (fun (x:Nat)=>BJ lv N T N' mk k0 g0) fun (x:Nat)=>BJ lv N T N' mk k0 g0,aJ 0 0,aP (aG 7 N (zW T)) (aG 7 N (zW T)),aj (ah N) (ah N),aj (A.add .i64 i (ah 1)) i',aj p p,aP (aG 4 n g) (aG 4 n g),aJ (A.addN m 1) m',aS (A.addN m 1) (A.snoc (zW R) m (AQ [[aW .i64 (T (A.toN i)).id,eP ak,aW .i64 (A.bin iT aT p (A.bin ig aT (ah 1) i)),aG 4 n g]])) (zW R')]))(y16:c0=aC->c1=ak->c2=ak->c3=ak->c4=ak->c7=aC->c5=aC->c6=ak->ψ (bJ 0 [aJ 1 1,bC (fun (x:Nat)=>BJ lv N T N' mk k0 g0) fun (x:Nat)=>BJ lv N T N' mk k0 g0,aJ 0 0,aP (aG 7 N (zW T)) (aG 7 N (zW T)),aj (ah N) (ah N),aj (A.add .i64 i (ah 1)) i',aj p p,aP (aG 4 n g) (aG 4 n g),aJ m m',aS m (zW R) (zW R')]))(y17:c0=aC->c1=ak->c2=ak->c3=ak->c4=ak->c7=aC->c5=ak->ψ (bJ 0 [aJ 1 1,bC (fun (x:Nat)=>BJ lv N T N' mk k0 g0) fun (x:Nat)=>BJ lv N T N' mk k0 g0,aJ 0 0,aP (aG 7 N (zW T)) (aG 7 N (zW T)),aj (ah N) (ah N),aj (A.add .i64 i (ah 1)) i',aj p p,aP (aG 4 n g) (aG 4 n g),aJ m m',aS m (zW R) (zW R')]))(y18:c0=aC->c1=ak->c2=ak->c3=ak->c4=ak->c7=ak->c5=aC->c6=aC->ψ (bJ 0 [aJ 1 1,bC (fun (x:Nat)=>BJ lv N T N' mk k0 g0) fun (x:Nat)=>BJ lv N T N' mk k0 g0,aJ 0 0,aP (aG 7 N (zW T)) (aG 7 N (zW T)),aj (ah N) (ah N),aj (A.add .i64 i (ah 1)) i',aj p p,aP (aG 4 n g) (aG 4 n g),aJ (A.addN m 1) m',aS (A.addN m 1) (A.snoc (zW R) m (AQ [[aW .i64 (T (A.toN i)).id,eP ak,aW .i64 (A.bin iT aT p (A.bin ig aT (ah 1) i)),aG 4 n g]])) (zW R')]))(y19:c0=aC->c1=ak->c2=ak->c3=ak->c4=ak->c7=ak->c5=aC->c6=ak->ψ (bJ 0 [aJ 1 1,bC (fun (x:Nat)=>BJ lv N T N' mk k0 g0) fun (x:Nat)=>BJ lv N T N' mk k0 g0,aJ 0 0,aP (aG 7 N (zW T)) (aG 7 N (zW T)),aj (ah N) (ah N),aj (A.add .i64 i (ah 1)) i',aj p p,aP (aG 4 n g) (aG 4 n g),aJ m m',aS m (zW R) (zW R')]))(y20:c0=aC->c1=ak->c2=ak->c3=ak->c4=ak->c7=ak->c5=ak->ψ (bJ 0 [aJ 1 1,bC (fun (x:Nat)=>BJ lv N T N' mk k0 g0) fun (x:Nat)=>BJ lv N T N' mk k0 g0,aJ 0 0,aP (aG 7 N (zW T)) (aG 7 N (zW T)),aj (ah N) (ah N),aj (A.add .i64 i (ah 1)) i',aj p p,aP (aG 4 n g) (aG 4 n g),aJ m m',aS m (zW R) (zW R')]))(y21:c0=ak->ψ (aO (Sh.os 108 4 m (zW R)))):Cb ψ (AP (C7 A W NP Am) Bg 300 400 41 akr (Y0 lv N T N' mk k0 g0 p n g m R i) [] [⟨41,WI,Y0 lv N T N' mk k0 g0 p n g m' R' i',[]⟩]):=by
 subst e0 e1 e2 e3 e4 e5 e6 e7;exact Gf (an (fun q0=>an (h1 q0) (an (h2 q0) (an (y1 q0) (fun q1=>an (h3 q0 q1) (an (y2 q0 q1) (fun q2=>an (h4 q0 q1 q2) (an (fun q3=>an (h2 q0) (an (fun q4=>an (h5 q0 q1 q2 q3 q4) (an (fun q5=>an (fun q6=>an (h6 q0 q1 q2 q3 q4 q5 q6) (y3 q0 q1 q2 q3 q4 q5 q6)) (fun q6=>an (h7 q0 q1 q2 q3 q4 q5 q6) (y4 q0 q1 q2 q3 q4 q5 q6))) (y5 q0 q1 q2 q3 q4))) (fun q4=>an (fun q5=>an (h8 q0 q1 q2 q3 q4 q5) (an (fun q6=>an (fun q7=>an (h9 q0 q1 q2 q3 q4 q5 q6 q7) (y6 q0 q1 q2 q3 q4 q5 q6 q7)) (fun q7=>an (h10 q0 q1 q2 q3 q4 q5 q6 q7) (y7 q0 q1 q2 q3 q4 q5 q6 q7))) (y8 q0 q1 q2 q3 q4 q5))) (fun q5=>an (fun q6=>an (fun q7=>an (h11 q0 q1 q2 q3 q4 q5 q6 q7) (y9 q0 q1 q2 q3 q4 q5 q6 q7)) (fun q7=>an (h12 q0 q1 q2 q3 q4 q5 q6 q7) (y10 q0 q1 q2 q3 q4 q5 q6 q7))) (y11 q0 q1 q2 q3 q4 q5))))) (fun q3=>an (h2 q0) (an (fun q4=>an (fun q5=>an (fun q6=>an (h13 q0 q1 q2 q3 q4 q5 q6) (y12 q0 q1 q2 q3 q4 q5 q6)) (y13 q0 q1 q2 q3 q4 q5)) (y14 q0 q1 q2 q3 q4)) (fun q4=>an (fun q5=>an (fun q6=>an (fun q7=>an (h14 q0 q1 q2 q3 q4 q5 q6 q7) (y15 q0 q1 q2 q3 q4 q5 q6 q7)) (y16 q0 q1 q2 q3 q4 q5 q6)) (y17 q0 q1 q2 q3 q4 q5)) (fun q5=>an (fun q6=>an (fun q7=>an (h15 q0 q1 q2 q3 q4 q5 q6 q7) (y18 q0 q1 q2 q3 q4 q5 q6 q7)) (y19 q0 q1 q2 q3 q4 q5 q6)) (y20 q0 q1 q2 q3 q4 q5)))))))))))) y21) (by kernel_rfl)
end Go.Proofs
