/- Own work. -/
import Derived.Test.YthehnhaoiijkhaaGreatDoorS09
open Int (ofNat)
open And renaming intro->bY
open BitVec renaming ofInt->gu,toNat_and->um,toNat_ofNat->je
open Bool renaming true->aF,or_eq_true->nJ,and_eq_true->aJ,false->aA
open Classical renaming propDecidable->bG,byContradiction->nO
open Go.BinOp renaming or->iW,shl->iC
open Go.Fn renaming yield->oM
open Go.IntKind renaming i64->aW
open Go.Proofs.C7 renaming Um->nU,ok->dn
open Go.Proofs.Tryz renaming prog->aB,f120->Ak,f75->rZ,f118->Am,f144->qY,f92->qh,f76->su
open Go.Sx.BQ renaming sh->aP,val->kX,int->ak,nat->aK,get->aV,L9->bF
open Go.Sx.Eo renaming at_->bJ,ret->aU
open Go.Sx.It renaming inBlock->dh,code->bD
open Go.Sx.Sh renaming sl->aH,str->dA,Ba->cZ,agg->bU,i->aZ,er->bC,Dv->qj,pt->tZ,b->gq
open Go.Sx.Tree renaming leaf->aC,need->aI,node->aG,must->aT
open Go.Value renaming func->lV,nilIface->bM
open Int renaming ofNat->ah,toNat_natCast->fK
open Int.ofNat renaming inj->kZ
open List renaming getD_eq_getElem?_getD->aX,getElem?_append_left->dM,range->aY,all_eq_true->dN,mem_range->dD,getElem_mem->kJ,mem_cons->ig,mem_map->dL,range_succ->qG,map_append->iO,map_congr_left->lF,mem_append->bK,mem_cons_self->cO,mem_cons_of_mem->dB,mem_of_getElem?->bP,mem_iff_getElem->mV,getElem?_eq_getElem->aS,getElem?_eq_some_iff->aQ,pairwise_singleton->lN,pairwise_iff_getElem->jE,countP_append->uh,mem_flatMap->ji,find?_eq_none->uj,find?_some->oV,mem_of_find?_eq_some->lg
open List.Pairwise renaming nil->qm
open Nat renaming mul_le_mul_right->dR,lt_or_ge->pK,shiftLeft_eq->mO,one_mul->iI,or_lt_two_pow->pW,pow_lt_pow_right->jC,testBit_two_pow_sub_one->qo,eq_of_testBit_eq->tH,testBit_lt_two_pow->l7,lt_of_lt_of_le->jT,pow_le_pow_right->kK,lt_of_le_of_lt->uP,mod_eq_of_lt->iG,min_eq_left->qV,shiftRight_eq_div_pow->qP,and_comm->zB,zero_testBit->wM,beq->fC
open Option renaming some->ay,none->aN
namespace Go.Pl
open Go Go.Sx
def EY(s:Di)(op k v:Int):Di×Int×Int:=
 if op=1\/op=4 then (s,3,s.num)
 else if op=2 then ({s with num:=v},1,0)
 else if op=3 then ({s with num:=Kv s.num v},1,0)
 else if op=5 then ({s with q:=s.q++[v]},1,0)
 else if op=6 then ({s with q:=s.q.tail},UA s.q.length,s.q.headD 0)
 else if op=7 then ({s with ps:=Fz s.ps k v},1,0)
 else if op=8 then (s,MG s.ps k,Lr s.ps k)
 else if op=9 then ({s with ps:=Gq s.ps k},MG s.ps k,Lr s.ps k)
 else (s,0,0)
def newT(o:Nat->Oj)(j:Nat):Di:=⟨(o j).kind,(o j).init,[],[]⟩
def noT:Nat->List Sh:=fun _=>[]
end Go.Pl
namespace Go.Proofs
open Go Go.Sx Go.Pl
theorem ODs:∀g F,HY g=ay F->Bh aB (BG W7) g F:=fun g F h=>by
 unfold HY at h;split at h
 ·cases h;exact O66
 ·cases h;exact O67
 ·cases h;exact O68
 ·cases h;exact O69
 ·cases h;exact O94
 ·cases h;exact O95
 ·cases h;exact O96
 ·cases h;exact O97
 ·cases h;exact O99
 ·cases h;exact awi
 ·cases h;exact awl
 ·cases h;exact awm
 ·cases h
theorem UD(stop:Nat->List Nat->Bool):Cb aB (C7 Aw W7 HY stop):=nU ODs fun g h=>by
 unfold HY at h;split at h;all_goals first|(cases h;done) |kernel_rfl
def F42:List Sh->Tree Sh
 |[.agg [.i .i64 x,.i .i64 y,s2,s3],t,u,v]=>match Ej 1 s2,Ej 2 s3,BH t,BH u,BH v with
  |some (a,h),ay (b,l),ay op,ay k,ay v=>.need (okB Int a h) (.need (okB Pr b l) (.need (BU (a+1) 8) (.node (G8 x op) (.leaf (.Ba [.agg (Dy NQ),.i .i64 0,.i .i64 0,.er 8 329])) (.node (IL x y op k v) (.leaf (.Ba [.agg (Dy NQ),.i .i64 0,.i .i64 0,.er 15 329]))
    (.need (KL op b l) (.leaf (.Ba [.agg (Dy (EY ⟨x,y,lst Int a h,lst Pr b l⟩ op k v).1),.i .i64 (EY ⟨x,y,lst Int a h,lst Pr b l⟩ op k v).2.1,.i .i64 (EY ⟨x,y,lst Int a h,lst Pr b l⟩ op k v).2.2,.v .nilIface])))))))
  |_,_,_,_,_=>.fail
 |_=>.fail
theorem aoT{α:Type}[Row α](l:List α)(a:α):∀i,i<l.length+1->GH l.length (Az (nth l)) (Row.put a) i=Az (nth (l++[a])) i:=fun i hi=>by
 unfold GH;split
 ·rename_i h1
  simp only[Az,nth];rw[aX,aX,dM h1]
 ·have:i=l.length:=by omega
  subst this;simp[Az,nth]
theorem TW{α:Type}[Row α](o:Nat->α):AB (Az o)=o:=funext fun i=>NP o i
section
variable{H0:Mem}{w0:World}{φ:Sh->Prop}
theorem awp{x y op k v:Int}{q:List Int}{ps:List Pr}(hr:BU (q.length+1) 8=aF)(hop:op=1\/op=2\/op=3\/op=4\/op=5\/op=6\/op=7\/op=8\/op=9)(hm:KL op ps.length (Az (nth ps))=aF)(hkey:EM k=aF)
  (hφ:φ (.Ba [.agg (Dy (EY ⟨x,y,q,ps⟩ op k v).1),.i .i64 (EY ⟨x,y,q,ps⟩ op k v).2.1,.i .i64 (EY ⟨x,y,q,ps⟩ op k v).2.2,.v .nilIface])) :
  BK aB (C7 Aw W7 HY Bc) (K0 H0 w0) 120 NT (L42 x y q.length ps.length (Az (nth q)) (Az (nth ps)) op k v) [] emp (up φ):=by
 have lit (n:Int) (h:BK aB (C7 Aw W7 HY Bc) (K0 H0 w0) 120 NT (UC x y q.length ps.length (Az (nth q)) (Az (nth ps)) n k v) [] emp (up φ)):BK aB (C7 Aw W7 HY Bc) (K0 H0 w0) 120 NT (L42 x y q.length ps.length (Az (nth q)) (Az (nth ps)) n k v) [] emp (up φ):=
  amg _ (fun H E vs hd=>ahv 1 rfl hd) h
 have fin (s':Di) (r g:Int) (e:EY ⟨x,y,q,ps⟩ op k v=(s',r,g)) (c:List Sh) (hc:N7 c (Dy s')):up φ (.Ba [.agg c,.i .i64 r,.i .i64 g,.v .nilIface]):=
  Cj (s':=.Ba [.agg (Dy (EY ⟨x,y,q,ps⟩ op k v).1),.i .i64 (EY ⟨x,y,q,ps⟩ op k v).2.1,.i .i64 (EY ⟨x,y,q,ps⟩ op k v).2.2,.v .nilIface]) (by rw[e];exact ⟨hc,rfl,rfl,rfl,trivial⟩) hφ
 rcases hop with rfl|rfl|rfl|rfl|rfl|rfl|rfl|rfl|rfl
 ·refine lit 1 (Ic (dn _ _) (UD _) (hold:=BN) (m:=300) (n:=400) (ts:=[]) ?_)
  rw[atS Aw W7 x y q.length ps.length (Az (nth q)) (Az (nth ps)) k v];have:=fin _ _ _ rfl [.i .i64 x,.i .i64 y,.sl 1 q.length (Az (nth q)),.sl 2 ps.length (Az (nth ps))] (by simp[Dy,Wk,N7,len]);repeat' (first|exact trivial|exact rfl|exact this|refine bY ?_ ?_)
 ·refine lit 2 (Ic (dn _ _) (UD _) (hold:=BN) (m:=300) (n:=400) (ts:=[]) ?_)
  rw[atU Aw W7 x y q.length ps.length (Az (nth q)) (Az (nth ps)) k v];have:=fin _ _ _ rfl [.i .i64 x,.i .i64 v,.sl 1 q.length (Az (nth q)),.sl 2 ps.length (Az (nth ps))] (by simp[Dy,Wk,N7,len]);repeat' (first|exact trivial|exact rfl|exact this|refine bY ?_ ?_)
 ·refine lit 3 (Ic (dn _ _) (UD _) (hold:=BN) (m:=300) (n:=400) (ts:=[]) ?_)
  rw[atV Aw W7 x y q.length ps.length (Az (nth q)) (Az (nth ps)) k v];have:=fin _ _ _ rfl [.i .i64 x,.i .i64 (Kv y v),.sl 1 q.length (Az (nth q)),.sl 2 ps.length (Az (nth ps))] (by simp[Dy,Wk,N7,len]);repeat' (first|exact trivial|exact rfl|exact this|refine bY ?_ ?_)
 ·refine lit 4 (Ic (dn _ _) (UD _) (hold:=BN) (m:=300) (n:=400) (ts:=[]) ?_)
  rw[atW Aw W7 x y q.length ps.length (Az (nth q)) (Az (nth ps)) k v];have:=fin _ _ _ rfl [.i .i64 x,.i .i64 y,.sl 1 q.length (Az (nth q)),.sl 2 ps.length (Az (nth ps))] (by simp[Dy,Wk,N7,len]);repeat' (first|exact trivial|exact rfl|exact this|refine bY ?_ ?_)
 ·refine lit 5 (Ic (dn _ _) (UD _) (hold:=BN) (m:=300) (n:=400) (ts:=[]) ?_)
  rw[atX Aw W7 x y q.length ps.length (Az (nth q)) (Az (nth ps)) k v];have:=fin _ _ _ rfl [.i .i64 x,.i .i64 y,.sl 1 (q.length+1) (GH q.length (Az (nth q)) [.i .i64 v]),.sl 2 ps.length (Az (nth ps))] ⟨rfl,rfl,.inr ⟨rfl,by simp[len],aoT q v⟩,.inr ⟨rfl,rfl,fun _ _=>rfl⟩,trivial⟩;repeat' (first|exact trivial|exact hr|exact rfl|exact this|refine bY ?_ ?_)
 ·refine lit 6 (Ic (dn _ _) (UD _) (hold:=BN) (m:=300) (n:=400) (ts:=[]) ?_)
  rw[atY Aw W7 x y q.length ps.length (Az (nth q)) (Az (nth ps)) k v,TW];have hh:QJ q.length (nth q)=q.headD 0:=by cases q<;>rfl
  rw[hh];have:=fin _ _ _ rfl [.i .i64 x,.i .i64 y,.sl 1 (QI q.length) (Oq (Az (nth q))),.sl 2 ps.length (Az (nth ps))] ⟨rfl,rfl,.inr ⟨rfl,by simp[len,QI],fun j hj=>by
   show Az (nth q) (1+j)=Az (nth q.tail) j;simp only[Az,nth];cases q with
   |nil=>rfl |cons z r=>simp[Nat.add_comm 1 j]⟩,.inr ⟨rfl,rfl,fun _ _=>rfl⟩,trivial⟩
  repeat' (first|exact trivial|exact Eh _ _|exact rfl|exact this|refine bY ?_ ?_)
 all_goals
  have hm2:(!decide (MC _=4)||(Ig ps.length (Az (nth ps))&&BU (ps.length+1) 16))=aF:=hm;have hm3:Ig ps.length (Az (nth ps))=aF/\BU (ps.length+1) 16=aF:=by
   rw[show decide (MC _=4)=aF from rfl] at hm2;simpa using hm2
  obtain ⟨m1,m2⟩:=hm3;have el:lst Pr ps.length (Az (nth ps))=ps:=Ll ps
 ·refine lit 7 (Ic (dn _ _) (UD _) (hold:=BN) (m:=300) (n:=400) (ts:=[]) ?_)
  rw[atZ Aw W7 x y q.length ps.length (Az (nth q)) (nth ps) k v,el];have:=fin _ _ _ rfl [.i .i64 x,.i .i64 y,.sl 1 q.length (Az (nth q)),.sl 2 (len (Fz ps k v)) (Az (nth (Fz ps k v)))] (by simp[Dy,Wk,N7,len]);repeat' (first|exact trivial|exact m1|exact m2|exact hkey|exact rfl|exact this|refine bY ?_ ?_)
 ·refine lit 8 (Ic (dn _ _) (UD _) (hold:=BN) (m:=300) (n:=400) (ts:=[]) ?_)
  rw[at1 Aw W7 x y q.length ps.length (Az (nth q)) (nth ps) k v,el];have:=fin _ _ _ rfl [.i .i64 x,.i .i64 y,.sl 1 q.length (Az (nth q)),.sl 2 ps.length (Az (nth ps))] (by simp[Dy,Wk,N7,len]);repeat' (first|exact trivial|exact m1|exact m2|exact hkey|exact rfl|exact this|refine bY ?_ ?_)
 ·refine lit 9 (Ic (dn _ _) (UD _) (hold:=BN) (m:=300) (n:=400) (ts:=[]) ?_)
  rw[at6 Aw W7 x y q.length ps.length (Az (nth q)) (nth ps) k v,el];have:=fin _ _ _ rfl [.i .i64 x,.i .i64 y,.sl 1 q.length (Az (nth q)),.sl 2 (len (Gq ps k)) (Az (nth (Gq ps k)))] (by simp[Dy,Wk,N7,len]);repeat' (first|exact trivial|exact m1|exact m2|exact hkey|exact rfl|exact this|refine bY ?_ ?_)
end
theorem ahx{op:Int}(h0:MC op≠0):op=1\/op=2\/op=3\/op=4\/op=5\/op=6\/op=7\/op=8\/op=9:=by
 unfold MC at h0;repeat' split at h0
 all_goals first|omega|simp_all
theorem O42:Bh aB (BG W7) 120 F42:=by
 refine FX (C:=C7 Aw W7 HY Bc) (dn _ _) (fn:=Ak) (by kernel_rfl) (by kernel_rfl) fun H w BI args φ hrep h=>?_
 have hn:Ak.ntmps=88:=by kernel_rfl
 unfold F42 at h;split at h
 ·rename_i x y s2 s3 t u v
  split at h
  ·rename_i a hh b l op k vv hs2 hs3 ht hu hv
   obtain ⟨h1,h2,h3,he,hb⟩:=h;have hml:KL op b l=aF->KL op (lst Pr b l).length (Az (nth (lst Pr b l)))=aF:=fun hq=>by
    unfold KL Ig at hq ⊢;rw[Ll,FQ,Eh];simp only[nJ,aJ] at hq ⊢;rcases hq with hq|hq
    ·exact .inl hq
    ·exact .inr ⟨⟨⟨trivial,hq.1.1.2⟩,hq.1.2⟩,hq.2⟩
   match args,hrep with
   |[v0,v1,v2,v3],⟨r0,r1,r2,r3,_⟩=>
    refine ⟨[.agg [.i .i64 x,.i .i64 y,.sl 1 (lst Int a hh).length (Az (nth (lst Int a hh))),.sl 2 (lst Pr b l).length (Az (nth (lst Pr b l)))],.i .i64 op,.i .i64 k,.i .i64 vv],⟨Ip r0 (fun u hu=>La (Ce hs2 hu) h1) (fun u hu=>La (Ce hs3 hu) h2),EH ht r1,EH hu r2,EH hv r3,trivial⟩,L0,?_⟩;have h3:BU ((lst Int a hh).length+1) 8=aF:=by rw[FQ];exact h3
    have hb:G8 x op=aA->(IL x y op k vv=aF->φ (.Ba [.agg (Dy NQ),.i .i64 0,.i .i64 0,.er 15 329]))/\(IL x y op k vv=aA->KL op (lst Pr b l).length (Az (nth (lst Pr b l)))=aF/\φ (.Ba [.agg (Dy (EY ⟨x,y,lst Int a hh,lst Pr b l⟩ op k vv).1),.i .i64 (EY ⟨x,y,lst Int a hh,lst Pr b l⟩ op k vv).2.1,.i .i64 (EY ⟨x,y,lst Int a hh,lst Pr b l⟩ op k vv).2.2,.v .nilIface])):=fun e=>⟨(hb e).1,fun e2=>⟨hml ((hb e).2 e2).1,((hb e).2 e2).2⟩⟩;clear hml;generalize lst Int a hh=q at *;generalize lst Pr b l=ps at *;have e1 (e:G8 x op=aF):up φ (.Ba [.agg [.i .i64 (ah 0),.i .i64 (ah 0),.sl 0 0 fun _=>[],.sl 0 0 fun _=>[]],.i .i64 (ah 0),.i .i64 (ah 0),.er 8 329]):=
     Cj (s':=.Ba [.agg (Dy NQ),.i .i64 0,.i .i64 0,.er 8 329]) ⟨⟨rfl,rfl,.inl ⟨rfl,rfl⟩,.inl ⟨rfl,rfl⟩,trivial⟩,rfl,rfl,rfl,trivial⟩ (he e)
    have e3 (e:G8 x op=aA) (e2:IL x y op k vv=aF):up φ (.Ba [.agg [.i .i64 (ah 0),.i .i64 (ah 0),.sl 0 0 fun _=>[],.sl 0 0 fun _=>[]],.i .i64 (ah 0),.i .i64 (ah 0),.er 15 329]):=
     Cj (s':=.Ba [.agg (Dy NQ),.i .i64 0,.i .i64 0,.er 15 329]) ⟨⟨rfl,rfl,.inl ⟨rfl,rfl⟩,.inl ⟨rfl,rfl⟩,trivial⟩,rfl,rfl,rfl,trivial⟩ ((hb e).1 e2)
    have go (e:G8 x op=aA) (e2:IL x y op k vv=aA):∃t:NG,([⟨120,NT,L42 x y q.length ps.length (Az (nth q)) (Az (nth ps)) op k vv,[]⟩]:List NG)[0]?=ay t/\BK aB (C7 Aw W7 HY Bc) (K0 H w) t.g t.td t.c t.stk emp (up φ):=
     ⟨_,rfl,awp h3 (ahx (by
      simp[G8] at e;rw[e.2];exact e.1)) ((hb e).2 e2).1 (by
       simp[IL] at e2;unfold EM;exact decide_eq_true (by omega)) ((hb e).2 e2).2⟩
    refine ag1 (dn _ _) (UD _) (pause:=ahw) (m:=300) (n:=400) (ts:=[⟨120,NT,L42 x y q.length ps.length (Az (nth q)) (Az (nth ps)) op k vv,[]⟩]) ?_;rw[hn,a42 Aw W7 x y q.length ps.length (Az (nth q)) (Az (nth ps)) op k vv];have q0:ah 0=0:=rfl;have q3:ah 3=3:=rfl;have qk:ah 1000=1000:=rfl;have q4:ah 1000000000=1000000000:=rfl;have q6:Int.negSucc 999999999=-1000000000:=rfl;have qa:Aw.add .i64 y vv=Kv y vv:=rfl;rw[q0] at e1 e3;simp only[Bd,CU,AO,q0,q3,qk,q4,q6,qa];clear he hb h3 hn;repeat' (first|exact trivial|exact rfl|(intro _) |refine bY ?_ ?_)
    all_goals first
     |exact e1 (by simp_all [G8])
     |exact e3 (by simp_all [G8]) (by simp_all [IL])
     |exact go (by simp_all [G8]) (by simp_all [IL])
  ·exact h.elim
 ·exact h.elim
open Go Go.Sx Go.Pl
theorem OCs:∀g F,QK g=ay F->Bh aB (BG W7) g F:=fun g F h=>by
 unfold QK at h;split at h
 ·cases h;exact O33
 ·cases h;exact O35
 ·cases h;exact O41
 ·cases h;exact O49
 ·cases h;exact O50
 ·cases h;exact O54
 ·cases h;exact O56
 ·cases h
theorem aoU(stop:Nat->List Nat->Bool):Cb aB (C7 Aw W7 QK stop):=nU OCs fun g h=>by
 unfold QK at h;split at h;all_goals first|(cases h;done) |kernel_rfl
def F25:List Sh->Tree Sh
 |[s0]=>match Ej 2 s0 with
  |some (n,g)=>.need (okB Oj n g) (.need (QF n (AB g)) (.node (SL n) (.leaf (.Ba [.agg [.sl 4 0 noT],.er 6 329])) (.node (NR n (AB g)) (.leaf (.Ba [.agg [.sl 4 n (CY (newT (AB g)))],.v .nilIface])) (.leaf (.Ba [.agg [.sl 4 0 noT],.Dv 109 (.pt [.i .i64 (Lp n (AB g)),.er 7 329])]))))) |none=>.fail
 |_=>.fail
theorem amh{n j:Nat}{g:Nat->List Sh}{r:List Sh}(h:j<n):GH n g r j=g j:=if_pos h
theorem aeb{n:Nat}{g:Nat->List Sh}{r:List Sh}:GH n g r n=r:=if_neg (by omega)
section
variable{H0:Mem}{w0:World}{φ:Sh->Prop}
theorem ak4{n:Nat}{o:Nat->Oj}(hn:n<=8)(hk:∀j,j<n->Dq (o j).kind=aF)(hT:∀j,j<n->Fp (o j).kind (o j).init=aA)(hφ:φ (.Ba [.agg [.sl 4 n (CY (newT o))],.v .nilIface])):
  ∀r k (gg:Nat->List Sh),k+r=n->(∀j,j<k->gg j=Dy (newT o j))->BK aB (C7 Aw W7 QK Bc) (K0 H0 w0) 75 Zq (Xl n o (k:Int) k gg aA) [] emp (up φ)
 |r,k,gg,hkr,hg=>by
  refine FW (fn:=rZ) (tb:=ak3) (by kernel_rfl) (by kernel_rfl) ?_;refine Ic (dn _ _) (aoU _) (hold:=BN) (m:=300) (n:=400) (ts:=[⟨75,Zq,Xl n o (k+1:Nat) (k+1) (GH k gg (Dy (newT o k))) aA,[]⟩]) ?_;rw[b25 Aw W7 n o k (k+1:Nat) k (k+1) gg (GH k gg (Dy (newT o k)))];simp only[AO,BO,Dn,DR,Hz,fK];refine ⟨fun h=>?_,fun h=>?_⟩
  ·have hlt:k<n:=by simp at h;omega
   refine ⟨by simp;omega,hk k hlt,fun hb=>(by rw[hT k hlt] at hb;cases hb),fun _=>⟨room_le (by omega) (by omega),⟨rfl,rfl,?_,rfl,trivial⟩,_,rfl,?_⟩⟩
   ·simp only[BQ.ok];rw[CO (by omega) (by omega)];rfl
   ·match r,hkr with
    |0,hkr=>omega |r+1,hkr=>
     refine ak4 hn hk hT hφ r (k+1) _ (by omega) fun j hj=>?_
     by_cases e:j=k
     ·subst e;exact aeb
     ·rw[amh (by omega)];exact hg j (by omega)
  ·have:k=n:=by simp at h;omega
   subst this;exact Cj (s':=.Ba [.agg [.sl 4 k (CY (newT o))],.v .nilIface]) ⟨⟨.inr ⟨rfl,rfl,hg⟩,trivial⟩,rfl,trivial⟩ hφ
end
theorem O25:Bh aB (BG W7) 75 F25:=by
 refine FX (C:=C7 Aw W7 QK Bc) (dn _ _) (fn:=rZ) (by kernel_rfl) (by kernel_rfl) fun H w BI args φ hrep h=>?_
 have hn:rZ.ntmps=38:=by kernel_rfl
 unfold F25 at h;split at h
 ·rename_i s0
  split at h
  ·rename_i n g hs0
   obtain ⟨h1,h2,hbig,hsm⟩:=h;have hsm:SL n=aA->(NR n (AB g)=aF->φ (.Ba [.agg [.sl 4 n (CY (newT (AB g)))],.v .nilIface]))/\(NR n (AB g)=aA->φ (.Ba [.agg [.sl 4 0 noT],.Dv 109 (.pt [.i .i64 (Lp n (AB g)),.er 7 329])])):=hsm;match args,hrep with
   |[v],⟨hv,_⟩=>
    refine ⟨[.sl 2 n (Az (AB (α:=Oj) g))],⟨EK (Ce hs0 hv) h1,trivial⟩,L0,?_⟩;generalize AB (α:=Oj) g=o at *;refine Ic (dn _ _) (aoU _) (hold:=BN) (m:=300) (n:=400) (ts:=[⟨75,Zq,Xl n o (0:Nat) 0 noT aF,[]⟩]) ?_;rw[hn,a25 Aw W7 n o (0:Nat) 0 noT,TW];refine ⟨Eh _ _,h2,fun e=>Cj (s':=.Ba [.agg [.sl 4 0 noT],.er 6 329]) ⟨⟨.inl ⟨rfl,rfl⟩,trivial⟩,rfl,trivial⟩ (hbig e),fun e=>?_⟩;obtain ⟨q1,q2⟩:=hsm e;have hn8:n<=8:=by simp[SL] at e;omega
    refine ⟨fun e=>⟨⟨rfl,rfl,rfl,trivial⟩,_,rfl,?_⟩,fun e=>Cj (s':=.Ba [.agg [.sl 4 0 noT],.Dv 109 (.pt [.i .i64 (Lp n o),.er 7 329])]) ⟨⟨.inl ⟨rfl,rfl⟩,trivial⟩,rfl,trivial⟩ (q2 e)⟩;have hT:∀j,j<n->Fp (o j).kind (o j).init=aA:=fun j hj=>by simpa using IK e j hj
    refine FW (fn:=rZ) (tb:=ak3) (by kernel_rfl) (by kernel_rfl) ?_;refine Ic (dn _ _) (aoU _) (hold:=BN) (m:=300) (n:=400) (ts:=[⟨75,Zq,Xl n o (1:Nat) 1 (GH 0 (fun _=>[]) (Dy (newT o 0))) aA,[]⟩]) ?_;rw[c25 Aw W7 n o (0:Nat) (1:Nat) 0 1 noT (GH 0 (fun _=>[]) (Dy (newT o 0)))];simp only[AO,BO,Dn,DR,Hz,fK];refine ⟨fun h=>?_,fun h=>?_⟩
    ·have hlt:0<n:=by simp at h;omega
     refine ⟨by simp;omega,IK h2 0 hlt,fun hb=>(by rw[hT 0 hlt] at hb;cases hb),fun _=>⟨room_le (by omega) (by omega),⟨rfl,rfl,?_,rfl,trivial⟩,_,rfl,?_⟩⟩
     ·simp only[BQ.ok];rw[CO (by omega) (by omega)];rfl
     ·refine ak4 hn8 (IK h2) hT (q1 e) (n - 1) 1 _ (by omega) fun j hj=>?_
      obtain rfl:j=0:=by omega
      exact aeb
    ·have:n=0:=by simp at h;omega
     subst this;exact Cj (s':=.Ba [.agg [.sl 4 0 (CY (newT o))],.v .nilIface]) ⟨⟨.inl ⟨rfl,rfl⟩,trivial⟩,rfl,trivial⟩ (q1 e)
  ·exact h.elim
 ·exact h.elim
end Go.Proofs
namespace Go.Pl
open Go Go.Sx
structure Lk7 where
 key:Di->List UInt8
 join:Nat->(Nat->List Sh)->List UInt8->List UInt8
def sQ(x y:Int)(a:Nat)(h:Nat->List Sh)(b:Nat)(l:Nat->List Sh):Di:=⟨x,y,lst Int a h,lst Pr b l⟩
def Zr(x y:Int)(a:Nat)(h:Nat->List Sh)(b:Nat)(l:Nat->List Sh):Bool:=
 okB Int a h&&okB Pr b l&&Dq x&&Dq y&&aot a (AB h)&&asT b (AB l)&&decide (a<=100000/\b<=100000)
def abS(n:Nat)(g:Nat->List Sh)(sep:List UInt8):Bool:=okB (List UInt8) n g&&BU n 16&&IV (DV (lst (List UInt8) n g) sep)
end Go.Pl
namespace Go.Proofs
open Go Go.Sx Go.Pl
def G35(L:Lk7):List Sh->Tree Sh
 |[.agg [.i .i64 x,.i .i64 y,s2,s3]]=>match Ej 1 s2,Ej 2 s3 with
  |some (a,h),ay (b,l)=>.need (Zr x y a h b l) (.leaf (.str (L.key (sQ x y a h b l)))) |_,_=>.fail
 |_=>.fail
def G56(L:Lk7):List Sh->Tree Sh
 |[s0,.str sep]=>match Ej 1 s0 with
  |some (n,g)=>.need (abS n g sep) (.leaf (.str (L.join n g sep))) |none=>.fail
 |_=>.fail
def F64:List Sh->Tree Sh
 |[.agg [s0]]=>match Ej 4 s0 with
  |some (n,g)=>.need (BU n 64) (.leaf (.sl 4 n g)) |none=>.fail
 |_=>.fail
def LW(L:Lk7):Nat->Option (List Sh->Tree Sh)
 |116=>ay (G35 L) |117=>ay (G56 L) |118=>ay F64 |_=>aN
def ahy:List Nat:=[0,1,0,1,1]
def k32:List It:=[dh 0,bD [1,1,1]]
def asY(j:Nat)(gg:Nat->List Sh):Bool->SV×List (Nat×SB)
 |true=>(.Bj,[]) |false=>(.gs 2,[(2,.own 9 1 j gg)])
def asZ(n:Nat)(d:Nat->Di)(j:Nat)(gg:Nat->List Sh)(v:Bool):List (Nat×SB):=[(0,.box [(asY j gg v).1] 236),(1,.box [.sh (.sl 4 n (CY d))] 100)]++(asY j gg v).2
def as1:List SV:=F8 17 [(3,.ptr 0 0),(7,.fn 144 [.ptr 1 0])]
def L32(n:Nat)(d:Nat->Di):Core:={tm:=as1,hp:=asZ n d 0 (fun _=>[]) aF,nx:=2,lim:=L0,tc:=[]}
def Z4(l:Nat):List Fw:=[⟨92,aN,k32,as1,ay (l,ahy,.ready)⟩]
def UE:List It:=[bD [0,1],dh 0]
def ak5:List It:=bD [0,0,1]::UE
def awq:Bool->Nat
 |true=>2 |false=>3
def L63(n:Nat)(d:Nat->Di)(l:Nat)(k:Int)(j:Nat)(gg:Nat->List Sh)(v:Bool):Core:=
 {tm:=F8 20 [(0,.val (yv l)),(7,.sh (.sl 4 n (CY d))),(8,.sym .i64 (n:Int)),(9,.sym .i64 k)],hp:=asZ n d j gg v,nx:=awq v,lim:=L0,tc:=[]}
theorem a32(A:Prim)(W:Wd)(L:Lk7)(n:Nat)(d:Nat->Di):ag9 (C7 A W (LW L) Bc) Lj 300 800 92 aN [.code []] (AL 17 [.agg [.sl 4 n (CY d)]] L0) [] [⟨92,aN,.code ahy::k32,L32 n d,[]⟩]=aC (bJ 0 [aP (aH 4 n (CY d)) (aH 4 n (CY d))]):=by kernel_rfl
theorem t32(A:Prim)(W:Wd)(L:Lk7)(n:Nat)(d:Nat->Di)(l:Nat)(k:Int)(j:Nat)(gg:Nat->List Sh):ag9 (C7 A W (LW L) Bc) Lj 300 800 144 aN [.code []] {L32 n d with tm:=(.val (yv l)::[.ptr 1 0])++List.replicate (20 - (1+1)) .any} (Z4 l) [⟨144,aN,UE,L63 n d l k j gg aF,Z4 l⟩]=aI (BU n 64) (aC (bJ 0 [kX (lV (oM l) {toList:=[]} {toList:=[]}) (lV (oM l) {toList:=[]} {toList:=[]}),aP (aH 4 n (CY d)) (aH 4 n (CY d)),ak (A.Bl n) (ah n),ak (ah 0) k,aP (aH 4 n (CY d)) (aH 4 n (CY d)),aK l l])):=by kernel_rfl
noncomputable def ahz(A:Prim)(L:Lk7)(n:Nat)(d:Nat->Di)(k:Int):List BQ:=[ak k k,ak (d (A.toN k)).kind (d (A.toN k)).kind,ak (d (A.toN k)).num (d (A.toN k)).num,aP (aH 1 (len (d (A.toN k)).q) (Az (nth (d (A.toN k)).q))) (aH 1 (len (d (A.toN k)).q) (Az (nth (d (A.toN k)).q))),aP (aH 2 (len (d (A.toN k)).ps) (Az (nth (d (A.toN k)).ps))) (aH 2 (len (d (A.toN k)).ps) (Az (nth (d (A.toN k)).ps))),aP (aH 4 n (CY d)) (aH 4 n (CY d)),ak (d (A.toN k)).kind (d (A.toN k)).kind,ak (d (A.toN k)).num (d (A.toN k)).num,aP (aH 1 (len (d (A.toN k)).q) (Az (nth (d (A.toN k)).q))) (aH 1 (len (d (A.toN k)).q) (Az (nth (d (A.toN k)).q))),aP (aH 2 (len (d (A.toN k)).ps) (Az (nth (d (A.toN k)).ps))) (aH 2 (len (d (A.toN k)).ps) (Az (nth (d (A.toN k)).ps))),ak (d (A.toN k)).kind (d (A.toN k)).kind,ak (d (A.toN k)).num (d (A.toN k)).num,aP (aH 1 (len (d (A.toN k)).q) (Az (nth (d (A.toN k)).q))) (aH 1 (len (d (A.toN k)).q) (Az (nth (d (A.toN k)).q))),aP (aH 2 (len (d (A.toN k)).ps) (Az (nth (d (A.toN k)).ps))) (aH 2 (len (d (A.toN k)).ps) (Az (nth (d (A.toN k)).ps))),aP (dA (L.key (sQ (d (A.toN k)).kind (d (A.toN k)).num (len (d (A.toN k)).q) (Az (nth (d (A.toN k)).q)) (len (d (A.toN k)).ps) (Az (nth (d (A.toN k)).ps))))) (dA (L.key (sQ (d (A.toN k)).kind (d (A.toN k)).num (len (d (A.toN k)).q) (Az (nth (d (A.toN k)).q)) (len (d (A.toN k)).ps) (Az (nth (d (A.toN k)).ps))))),aP (dA (L.key (sQ (d (A.toN k)).kind (d (A.toN k)).num (len (d (A.toN k)).q) (Az (nth (d (A.toN k)).q)) (len (d (A.toN k)).ps) (Az (nth (d (A.toN k)).ps))))) (dA (L.key (sQ (d (A.toN k)).kind (d (A.toN k)).num (len (d (A.toN k)).q) (Az (nth (d (A.toN k)).q)) (len (d (A.toN k)).ps) (Az (nth (d (A.toN k)).ps)))))]
theorem awr(A:Prim)(W:Wd)(L:Lk7)(n:Nat)(d:Nat->Di)(l:Nat)(k k':Int)(j j':Nat)(gg Iy:Nat->List Sh):ag9 (C7 A W (LW L) Bc) Lj 300 800 144 aN ak5 (L63 n d l k j gg aF) (Z4 l) [⟨144,aN,UE,L63 n d l k' j' Iy aA,Z4 l⟩]=aG (A.lt k (ah n)) (aI (A.inB k n) (aT [aK l l] (aT [aK l l] (aI (Zr (d (A.toN k)).kind (d (A.toN k)).num (len (d (A.toN k)).q) (Az (nth (d (A.toN k)).q)) (len (d (A.toN k)).ps) (Az (nth (d (A.toN k)).ps))) (aI (Zr (d (A.toN k)).kind (d (A.toN k)).num (len (d (A.toN k)).q) (Az (nth (d (A.toN k)).q)) (len (d (A.toN k)).ps) (Az (nth (d (A.toN k)).ps))) (aT (ahz A L n d k) (aT (ahz A L n d k) (aT [aK l l] (aC (bJ 0 [kX (lV (oM l) {toList:=[]} {toList:=[]}) (lV (oM l) {toList:=[]} {toList:=[]}),aP (aH 4 n (CY d)) (aH 4 n (CY d)),ak (ah n) (ah n),ak (A.add .i64 k (ah 1)) k',aP (aH 4 n (CY d)) (aH 4 n (CY d)),aK 1 j',aV 1 (BD [[dA (L.key (sQ (d (A.toN k)).kind (d (A.toN k)).num (len (d (A.toN k)).q) (Az (nth (d (A.toN k)).q)) (len (d (A.toN k)).ps) (Az (nth (d (A.toN k)).ps))))]]) Iy,aK l l])))))))))) (aI (abS 0 (fun _=>[]) [59,32]) (aC (aU (dA (L.join 0 (fun _=>[]) [59,32]))))):=by kernel_rfl
noncomputable def ahA(A:Prim)(L:Lk7)(n:Nat)(d:Nat->Di)(k:Int)(j:Nat)(gg:Nat->List Sh):List BQ:=[ak k k,ak (d (A.toN k)).kind (d (A.toN k)).kind,ak (d (A.toN k)).num (d (A.toN k)).num,aP (aH 1 (len (d (A.toN k)).q) (Az (nth (d (A.toN k)).q))) (aH 1 (len (d (A.toN k)).q) (Az (nth (d (A.toN k)).q))),aP (aH 2 (len (d (A.toN k)).ps) (Az (nth (d (A.toN k)).ps))) (aH 2 (len (d (A.toN k)).ps) (Az (nth (d (A.toN k)).ps))),aP (aH 4 n (CY d)) (aH 4 n (CY d)),ak (d (A.toN k)).kind (d (A.toN k)).kind,ak (d (A.toN k)).num (d (A.toN k)).num,aP (aH 1 (len (d (A.toN k)).q) (Az (nth (d (A.toN k)).q))) (aH 1 (len (d (A.toN k)).q) (Az (nth (d (A.toN k)).q))),aP (aH 2 (len (d (A.toN k)).ps) (Az (nth (d (A.toN k)).ps))) (aH 2 (len (d (A.toN k)).ps) (Az (nth (d (A.toN k)).ps))),ak (d (A.toN k)).kind (d (A.toN k)).kind,ak (d (A.toN k)).num (d (A.toN k)).num,aP (aH 1 (len (d (A.toN k)).q) (Az (nth (d (A.toN k)).q))) (aH 1 (len (d (A.toN k)).q) (Az (nth (d (A.toN k)).q))),aP (aH 2 (len (d (A.toN k)).ps) (Az (nth (d (A.toN k)).ps))) (aH 2 (len (d (A.toN k)).ps) (Az (nth (d (A.toN k)).ps))),aP (dA (L.key (sQ (d (A.toN k)).kind (d (A.toN k)).num (len (d (A.toN k)).q) (Az (nth (d (A.toN k)).q)) (len (d (A.toN k)).ps) (Az (nth (d (A.toN k)).ps))))) (dA (L.key (sQ (d (A.toN k)).kind (d (A.toN k)).num (len (d (A.toN k)).q) (Az (nth (d (A.toN k)).q)) (len (d (A.toN k)).ps) (Az (nth (d (A.toN k)).ps))))),aK (A.addN j 1) (A.addN j 1),bF (A.snoc gg j (BD [[dA (L.key (sQ (d (A.toN k)).kind (d (A.toN k)).num (len (d (A.toN k)).q) (Az (nth (d (A.toN k)).q)) (len (d (A.toN k)).ps) (Az (nth (d (A.toN k)).ps))))]])) (A.snoc gg j (BD [[dA (L.key (sQ (d (A.toN k)).kind (d (A.toN k)).num (len (d (A.toN k)).q) (Az (nth (d (A.toN k)).q)) (len (d (A.toN k)).ps) (Az (nth (d (A.toN k)).ps))))]]))]
theorem awt(A:Prim)(W:Wd)(L:Lk7)(n:Nat)(d:Nat->Di)(l:Nat)(k k':Int)(j j':Nat)(gg Iy:Nat->List Sh):ag9 (C7 A W (LW L) Bc) Lj 300 800 144 aN ak5 (L63 n d l k j gg aA) (Z4 l) [⟨144,aN,UE,L63 n d l k' j' Iy aA,Z4 l⟩]=aG (A.lt k (ah n)) (aI (A.inB k n) (aT [aK l l] (aT [aK l l] (aI (Zr (d (A.toN k)).kind (d (A.toN k)).num (len (d (A.toN k)).q) (Az (nth (d (A.toN k)).q)) (len (d (A.toN k)).ps) (Az (nth (d (A.toN k)).ps))) (aI (A.room (A.addN j 1) 16) (aI (Zr (d (A.toN k)).kind (d (A.toN k)).num (len (d (A.toN k)).q) (Az (nth (d (A.toN k)).q)) (len (d (A.toN k)).ps) (Az (nth (d (A.toN k)).ps))) (aI (A.room (A.addN j 1) 16) (aI (A.room (A.addN j 1) 16) (aT (ahA A L n d k j gg) (aT (ahA A L n d k j gg) (aT [aK l l] (aC (bJ 0 [kX (lV (oM l) {toList:=[]} {toList:=[]}) (lV (oM l) {toList:=[]} {toList:=[]}),aP (aH 4 n (CY d)) (aH 4 n (CY d)),ak (ah n) (ah n),ak (A.add .i64 k (ah 1)) k',aP (aH 4 n (CY d)) (aH 4 n (CY d)),aK (A.addN j 1) j',aV (A.addN j 1) (A.snoc gg j (BD [[dA (L.key (sQ (d (A.toN k)).kind (d (A.toN k)).num (len (d (A.toN k)).q) (Az (nth (d (A.toN k)).q)) (len (d (A.toN k)).ps) (Az (nth (d (A.toN k)).ps))))]])) Iy,aK l l]))))))))))))) (aI (abS j gg [59,32]) (aC (aU (dA (L.join j gg [59,32]))))):=by kernel_rfl
end Go.Proofs
namespace Go.Pl
open Go Go.Sx Go.Proofs
def Xm(s:Di):Bool:=Dq s.kind&&Dq s.num&&s.q.all Dq&&s.ps.all (fun p=>Dq p.key&&Dq p.val)&&decide (s.q.length<=100000/\s.ps.length<=100000)
def keysB(n:Nat)(d:Nat->Di):Bool:=decide (n<=1000)&&(aY n).all fun j=>Xm (d j)
def aec(l:List Di):List UInt8:=DV (l.map keyS) [59,32]
def LK:Lk7 where
 key:=keyS
 join n g sep:=DV (lst (List UInt8) n g) sep
theorem ahB{s:Di}(h:Xm s=aF):Zr s.kind s.num (len s.q) (Az (nth s.q)) (len s.ps) (Az (nth s.ps))=aF:=by
 unfold Xm at h;simp only[aJ,decide_eq_true_eq] at h;obtain ⟨⟨⟨⟨h1,h2⟩,h3⟩,h4⟩,h5⟩:=h;unfold Zr;simp only[aJ,decide_eq_true_eq];refine ⟨⟨⟨⟨⟨⟨Eh _ _,Eh _ _⟩,h1⟩,h2⟩,?_⟩,?_⟩,h5⟩
 ·rw[TW]
  refine dN.2 fun j hj=>?_
  have hj:j<s.q.length:=dD.1 hj;have e:nth s.q j=s.q[j]:=by simp[nth,hj]
  rw[e];exact dN.1 h3 _ (kJ hj)
 ·rw[TW]
  refine dN.2 fun j hj=>?_
  have hj:j<s.ps.length:=dD.1 hj;have e:nth s.ps j=s.ps[j]:=by simp[nth,hj]
  rw[e];exact dN.1 h4 _ (kJ hj)
theorem ajy(s:Di):sQ s.kind s.num (len s.q) (Az (nth s.q)) (len s.ps) (Az (nth s.ps))=s:=by
 show (⟨s.kind,s.num,lst Int s.q.length (Az (nth s.q)),lst Pr s.ps.length (Az (nth s.ps))⟩:Di)=s;rw[Ll,Ll]
theorem ahC{s:Di}(h:Xm s=aF):(J4 s).length<=100001/\∀x∈J4 s,x.length<=50:=by
 unfold Xm at h;simp only[aJ,decide_eq_true_eq] at h;obtain ⟨⟨⟨⟨h1,h2⟩,h3⟩,h4⟩,h5⟩:=h;unfold J4;refine ⟨?_,fun x hx=>?_⟩
 ·simp only[List.length_cons]
  repeat' split
  all_goals (simp;try omega)
 ·rcases ig.1 hx with rfl|hx
  ·exact abO _
  ·split at hx
   ·simp at hx
    subst hx;have:=JG h2;omega
   ·split at hx
    ·obtain ⟨y,hy,rfl⟩:=dL.1 hx
     have:=JG (dN.1 h3 y hy);omega
    ·split at hx
     ·obtain ⟨y,hy,rfl⟩:=dL.1 hx
      have h6:=dN.1 h4 y hy;simp only[aJ] at h6;exact ad8 h6.1 h6.2
     ·simp at hx
theorem ami{s:Di}(h:Xm s=aF):(keyS s).length<=6000000:=by
 obtain ⟨h1,h2⟩:=ahC h;have h3:=Yq (J4 s) [32] h2;have h4:(J4 s).length*(50+[(32:UInt8)].length)<=100001*51:=dR _ h1;unfold keyS;omega
theorem ahD{l:List Di}(hl:l.length<=1000)(h:∀s∈l,Xm s=aF):IV (DV (l.map keyS) [59,32])=aF:=by
 have h3:=Yq (l.map keyS) [59,32] (m:=6000000) fun x hx=>by
  obtain ⟨s,hs,rfl⟩:=dL.1 hx;exact ami (h s hs)
 have h4:(l.map keyS).length*(6000000+[(59:UInt8),32].length)<=1000*6000002:=dR _ (by simpa using hl);exact decide_eq_true (by omega)
end Go.Pl
namespace Go.Proofs
open Go Go.Sx Go.Pl
theorem awu:Bh aB (BG W7) 116 (G35 LK):=O35.mono fun H BI args φ hr h=>by
 unfold G35 at h;split at h
 ·split at h
  ·rename_i s2 s3 a hh b l hs2 hs3
   obtain ⟨h1,hφ⟩:=h;simp only[Zr,aJ] at h1;obtain ⟨⟨⟨⟨⟨⟨q1,q2⟩,q3⟩,q4⟩,q5⟩,q6⟩,q7⟩:=h1;simp only[F35,hs2,hs3];exact ⟨q1,q2,q3,q4,q5,q6,q7,hφ⟩
  ·exact h.elim
 ·exact h.elim
theorem awv:Bh aB (BG W7) 117 (G56 LK):=fun H w BI args φ on hg hr h=>by
 unfold G56 at h;split at h
 ·rename_i s0 sep
  split at h
  ·rename_i n g hs
   obtain ⟨h1,hφ⟩:=h;simp only[abS,aJ] at h1;match args,hr with
   |[v,u],⟨hv,hu,_⟩=>exact O56 H w [.sl 1 n g,.str sep] [v,u] φ on hg ⟨Ce hs hv,hu,trivial⟩ ⟨h1.1.1,h1.1.2,h1.2,hφ⟩
  ·exact h.elim
 ·exact h.elim
theorem O64:Bh aB (BG W7) 118 F64:=by
 refine Ei (C:=C7 Aw W7 DX Bc) (dn _ _) (MF _) (m:=300) (n:=400) (L:=L0) (fn:=Am) (by kernel_rfl) (by kernel_rfl) fun H w BI args φ hrep h=>?_
 have hn:Am.ntmps=10:=by kernel_rfl
 unfold F64 at h;split at h
 ·rename_i s0
  split at h
  ·rename_i n g hs
   obtain ⟨h1,hφ⟩:=h;match args,hrep with
   |[v],⟨hv,_⟩=>
    refine ⟨[.agg [.sl 4 n g]],⟨Nb hv fun u hu=>Ce hs hu,trivial⟩,?_⟩;rw[hn,a64 Aw W7 n g,QC,QD,abK];exact ⟨le0 n,h1,h1,Cj (s':=.sl 4 n g) (.inr ⟨rfl,rfl,fun _ _=>rfl⟩) hφ⟩
  ·exact h.elim
 ·exact h.elim
theorem OKs:∀g F,LW LK g=ay F->Bh aB (BG W7) g F:=fun g F h=>by
 unfold LW at h;split at h
 ·cases h;exact awu
 ·cases h;exact awv
 ·cases h;exact O64
 ·cases h
theorem ahE(stop:Nat->List Nat->Bool):Cb aB (C7 Aw W7 (LW LK) stop):=nU OKs fun g h=>by
 unfold LW at h;split at h;all_goals first|(cases h;done) |kernel_rfl
theorem nd7:SC Tryz.fns=aF:=by kernel_rfl
noncomputable def F32:List Sh->Tree Sh
 |[.agg [s0]]=>match Ej 4 s0 with
  |some (n,g)=>.need (stB n g) (.need (keysB n (EG n g)) (.leaf (.str (aec ((aY n).map (EG n g)))))) |none=>.fail
 |_=>.fail
section
variable{H0:Mem}{w0:World}{φ:Sh->Prop}{n:Nat}{d:Nat->Di}
theorem ak6(hn:n<=1000)(hd:∀j,j<n->Xm (d j)=aF)(hφ:φ (.str (aec ((aY n).map d)))){l:Nat}:∀r k,k+r=n->0<k->
  Gg aB (C7 Aw W7 (LW LK) Bc) (K0 H0 w0) 144 aN UE (L63 n d l (k:Int) k (Az (nth (((aY k).map d).map keyS))) aA) (Z4 l) φ
 |r,k,hkr,h0=>by
  refine Zo (fn:=qY) (tb:=ak5) (by kernel_rfl) (by kernel_rfl) ?_;refine Ol (dn _ _) (ahE _) nd7 (pause:=Lj) (m:=300) (n:=800) (ts:=[⟨144,aN,UE,L63 n d l ((k+1:Nat):Int) (k+1) (Az (nth (((aY (k+1)).map d).map keyS))) aA,Z4 l⟩]) ?_;refine (congrArg (TT _) (awt Aw W7 LK n d l k (k+1:Nat) k (k+1) (Az (nth (((aY k).map d).map keyS))) (Az (nth (((aY (k+1)).map d).map keyS))))).mpr ?_;rw[NK];have hlen:(((aY k).map d).map keyS).length=k:=by simp
  simp only[AO,BO,Dn,DR,Hz,fK,abL];rw[ajy (d k)];refine ⟨fun h=>?_,fun h=>?_⟩
  ·have hlt:k<n:=by simp at h;omega
   have hk:=ahB (hd k hlt);have hr:Aw.room (k+1) 16=aF:=room_le (by omega) (by omega);have hin:decide (0<=(k:Int)/\(k:Int)<(n:Int))=aF:=by simp;omega
   have hw:aW.wrap ((k:Int)+1)=((k+1:Nat):Int):=by rw[CO (by omega) (by omega)];rfl
   have hs:∀i,i<k+1->Aw.snoc (Az (nth (((aY k).map d).map keyS))) k (BD [[.str (keyS (d k))]]) i=Az (nth (((aY (k+1)).map d).map keyS)) i:=fun i hi=>by
    have:=PE (((aY k).map d).map keyS) (keyS (d k)) (r:=[[.str (keyS (d k))]]) rfl i (by rw[hlen];exact hi);rw[hlen] at this;rw[this,qG,iO,iO];rfl
   have next:∃t:Pz,([⟨144,aN,UE,L63 n d l ((k+1:Nat):Int) (k+1) (Az (nth (((aY (k+1)).map d).map keyS))) aA,Z4 l⟩]:List Pz)[0]?=ay t/\Gg aB (C7 Aw W7 (LW LK) Bc) (K0 H0 w0) t.g t.r t.td t.c t.stk φ:=by
    match r,hkr with
    |0,hkr=>omega |r+1,hkr=>exact ⟨_,rfl,ak6 hn hd hφ r (k+1) (by omega) (by omega)⟩
   repeat' (first|exact trivial|exact next|exact hk|exact hr|exact hin|exact hw|exact hs|exact rfl|refine bY ?_ ?_)
  ·have hk:k=n:=by simp at h;omega
   subst hk;have e:lst (List UInt8) k (Az (nth (((aY k).map d).map keyS)))=((aY k).map d).map keyS:=afo _ hlen;have hsh:IV (DV (((aY k).map d).map keyS) [59,32])=aF:=ahD (by simpa using hn) fun s hs=>by
    obtain ⟨j,hj,rfl⟩:=dL.1 hs;exact hd j (dD.1 hj)
   refine ⟨?_,?_⟩
   ·simp only[abS,aJ]
    exact ⟨⟨Eh _ _,room_le (by omega) (by omega)⟩,by rw[e];exact hsh⟩
   ·show φ (.str (DV (lst (List UInt8) k (Az (nth (((aY k).map d).map keyS)))) [59,32]))
    rw[e];exact hφ
end
theorem O32:Bh aB (BG W7) 92 F32:=by
 refine arM (C:=C7 Aw W7 (LW LK) Bc) (dn _ _) (fn:=qh) (by kernel_rfl) (by kernel_rfl) fun H w BI args φ hrep h=>?_
 have hn:qh.ntmps=17:=by kernel_rfl
 unfold F32 at h;split at h
 ·rename_i s0
  split at h
  ·rename_i n g hs
   obtain ⟨h1,h2,hφ⟩:=h;match args,hrep with
   |[v],⟨hv,_⟩=>
    refine ⟨[.agg [.sl 4 n (CY (EG n g))]],⟨Nb hv fun u hu=>ER (Ce hs hu) (QE h1),trivial⟩,L0,?_⟩;generalize EG n g=d at *;have hφ:φ (.str (aec ((aY n).map d))):=hφ;simp only[keysB,aJ,decide_eq_true_eq] at h2;obtain ⟨h2,h3⟩:=h2;have hd:=IK h3;refine Ol (dn _ _) (ahE _) nd7 (pause:=Lj) (m:=300) (n:=800) (ts:=[⟨92,aN,.code ahy::k32,L32 n d,[]⟩]) ?_;rw[hn,a32 Aw W7 LK n d,NK];refine ⟨⟨rfl,trivial⟩,_,rfl,?_⟩;refine afi (dn _ _) (ahE _) (fn:=qh) (FI:=qY) (g2:=144) (caps:=[.ptr 1 0]) (by kernel_rfl) (x:=.tmp 7) (ps:=#[8,9]) (ca:=Bo (AU qh) (0::ahy)) (cb:=Bo (AU qh) (1::ahy)) (by kernel_rfl) (by kernel_rfl) (by kernel_rfl) (by kernel_rfl) fun l=>?_
    have hn63:qY.ntmps=20:=by kernel_rfl
    rw[hn63];refine Ol (dn _ _) (ahE _) nd7 (pause:=Lj) (m:=300) (n:=800) (ts:=[⟨144,aN,UE,L63 n d l ((0:Nat):Int) 0 noT aF,Z4 l⟩]) ?_;refine (congrArg (TT _) (t32 Aw W7 LK n d l ((0:Nat):Int) 0 noT)).mpr ?_;rw[NK];refine ⟨room_le (by omega) (by omega),?_,_,rfl,?_⟩
    ·repeat' (first|exact trivial|exact rfl|exact fun _ _=>rfl|refine bY ?_ ?_)
    refine Zo (fn:=qY) (tb:=ak5) (by kernel_rfl) (by kernel_rfl) ?_;refine Ol (dn _ _) (ahE _) nd7 (pause:=Lj) (m:=300) (n:=800) (ts:=[⟨144,aN,UE,L63 n d l ((1:Nat):Int) 1 (Az (nth (((aY 1).map d).map keyS))) aA,Z4 l⟩]) ?_;refine (congrArg (TT _) (awr Aw W7 LK n d l ((0:Nat):Int) ((1:Nat):Int) 0 1 noT (Az (nth (((aY 1).map d).map keyS))))).mpr ?_;rw[NK];simp only[AO,BO,Dn,DR,Hz,fK];rw[ajy (d 0)];refine ⟨fun h=>?_,fun h=>?_⟩
    ·have hlt:0<n:=by simp at h;omega
     have hk:=ahB (hd 0 hlt);have hin:decide (0<=((0:Nat):Int)/\((0:Nat):Int)<(n:Int))=aF:=by simp;omega
     have hw:aW.wrap (((0:Nat):Int)+1)=((1:Nat):Int):=by rw[CO (by omega) (by omega)];rfl
     have hs:∀i,i<1->BD [[.str (keyS (d 0))]] i=Az (nth (((aY 1).map d).map keyS)) i:=fun i hi=>by
      obtain rfl:i=0:=by omega
      rfl
     have next:∃t:Pz,([⟨144,aN,UE,L63 n d l ((1:Nat):Int) 1 (Az (nth (((aY 1).map d).map keyS))) aA,Z4 l⟩]:List Pz)[0]?=ay t/\Gg aB (C7 Aw W7 (LW LK) Bc) (K0 H w) t.g t.r t.td t.c t.stk φ:=
      ⟨_,rfl,ak6 h2 hd hφ (n - 1) 1 (by omega) (by omega)⟩
     repeat' (first|exact trivial|exact next|exact hk|exact hin|exact hw|exact hs|exact rfl|refine bY ?_ ?_)
    ·have:n=0:=by simp at h;omega
     subst this;refine ⟨rfl,hφ⟩
  ·exact h.elim
 ·exact h.elim
end Go.Proofs
namespace Go.Pl
open Go Go.Sx
structure Lb7 where
 op:Di->Int->Int->Int->Di
 r:Di->Int->Int->Int->Int
 g:Di->Int->Int->Int->Int
 key:Di->List UInt8
 join:List (List UInt8)->List UInt8->List UInt8
 at_:Nat->(Nat->List Sh)->Int->Di
def abU(a:Nat):Bool:=BU (a+1) 8
end Go.Pl
namespace Go.Proofs
open Go Go.Sx Go.Pl
noncomputable def G33(L:Lb7):List Sh->Tree Sh
 |[.agg [s0],t]=>match Ej 4 s0,BH t with
  |some (n,g),ay i=>.need (stB n g) (.leaf (.Ba [.agg [.i .i64 (L.at_ n g i).kind,.i .i64 (L.at_ n g i).num,.sl 1 (len (L.at_ n g i).q) (Az (nth (L.at_ n g i).q)),.sl 2 (len (L.at_ n g i).ps) (Az (nth (L.at_ n g i).ps))],.b (J3 n i)])) |_,_=>.fail
 |_=>.fail
def G42(L:Lb7):List Sh->Tree Sh
 |[.agg [.i .i64 x,.i .i64 y,s2,s3],t,u,v]=>match Ej 1 s2,Ej 2 s3,BH t,BH u,BH v with
  |some (a,h),ay (b,l),ay op,ay k,ay v=>.need (okB Int a h) (.need (okB Pr b l) (.need (abU a) (.node (G8 x op) (.leaf (.Ba [.agg [.i .i64 0,.i .i64 0,.sl 1 0 noI,.sl 2 0 noP],.i .i64 0,.i .i64 0,.er 8 329])) (.node (IL x y op k v) (.leaf (.Ba [.agg [.i .i64 0,.i .i64 0,.sl 1 0 noI,.sl 2 0 noP],.i .i64 0,.i .i64 0,.er 15 329]))
    (.need (KL op b l) (.leaf (.Ba [.agg [.i .i64 (L.op (sQ x y a h b l) op k v).kind,.i .i64 (L.op (sQ x y a h b l) op k v).num,.sl 1 (len (L.op (sQ x y a h b l) op k v).q) (Az (nth (L.op (sQ x y a h b l) op k v).q)),.sl 2 (len (L.op (sQ x y a h b l) op k v).ps) (Az (nth (L.op (sQ x y a h b l) op k v).ps))],.i .i64 (L.r (sQ x y a h b l) op k v),.i .i64 (L.g (sQ x y a h b l) op k v),.v .nilIface])))))))
  |_,_,_,_,_=>.fail
 |_=>.fail
noncomputable def YB(L:Lb7):Nat->Option (List Sh->Tree Sh)
 |119=>ay (G33 L) |120=>ay (G42 L) |121=>ay F54 |_=>aN
theorem a29(A:Prim)(W:Wd)(L:Lb7)(n:Nat)(d:Nat->Di)(i op k v:Int):BA (C7 A W (YB L) Bc) BN 300 400 97 [.code []] (AL 52 [.agg [.sl 4 n (CY d)],.i .i64 i,.i .i64 op,.i .i64 k,.i .i64 v] L0) [] []=aI (stB n (CY d)) (aG (A.nt (J3 n i)) (aC (aU (cZ [bU [aH 0 0 fun _=>[]],aZ .i64 (ah 0),aZ .i64 (ah 0),bC 7 329]))) (aI (okB Int (len (L.at_ n (CY d) i).q) (Az (nth (L.at_ n (CY d) i).q))) (aI (okB Pr (len (L.at_ n (CY d) i).ps) (Az (nth (L.at_ n (CY d) i).ps))) (aI (abU (len (L.at_ n (CY d) i).q)) (aG (G8 (L.at_ n (CY d) i).kind op) (aC (aU (cZ [bU [aH 0 0 fun _=>[]],aZ .i64 (ah 0),aZ .i64 (ah 0),bC 8 329]))) (aG (IL (L.at_ n (CY d) i).kind (L.at_ n (CY d) i).num op k v) (aC (aU (cZ [bU [aH 0 0 fun _=>[]],aZ .i64 (ah 0),aZ .i64 (ah 0),bC 15 329]))) (aI (KL op (len (L.at_ n (CY d) i).ps) (Az (nth (L.at_ n (CY d) i).ps))) (aI (BU n 64) (aI (stB n (CY d)) (aC (aU (cZ [bU [aH 4 n (SK n (CY d) i [aZ .i64 (L.op (sQ (L.at_ n (CY d) i).kind (L.at_ n (CY d) i).num (len (L.at_ n (CY d) i).q) (Az (nth (L.at_ n (CY d) i).q)) (len (L.at_ n (CY d) i).ps) (Az (nth (L.at_ n (CY d) i).ps))) op k v).kind,aZ .i64 (L.op (sQ (L.at_ n (CY d) i).kind (L.at_ n (CY d) i).num (len (L.at_ n (CY d) i).q) (Az (nth (L.at_ n (CY d) i).q)) (len (L.at_ n (CY d) i).ps) (Az (nth (L.at_ n (CY d) i).ps))) op k v).num,aH 1 (len (L.op (sQ (L.at_ n (CY d) i).kind (L.at_ n (CY d) i).num (len (L.at_ n (CY d) i).q) (Az (nth (L.at_ n (CY d) i).q)) (len (L.at_ n (CY d) i).ps) (Az (nth (L.at_ n (CY d) i).ps))) op k v).q) (Az (nth (L.op (sQ (L.at_ n (CY d) i).kind (L.at_ n (CY d) i).num (len (L.at_ n (CY d) i).q) (Az (nth (L.at_ n (CY d) i).q)) (len (L.at_ n (CY d) i).ps) (Az (nth (L.at_ n (CY d) i).ps))) op k v).q)),aH 2 (len (L.op (sQ (L.at_ n (CY d) i).kind (L.at_ n (CY d) i).num (len (L.at_ n (CY d) i).q) (Az (nth (L.at_ n (CY d) i).q)) (len (L.at_ n (CY d) i).ps) (Az (nth (L.at_ n (CY d) i).ps))) op k v).ps) (Az (nth (L.op (sQ (L.at_ n (CY d) i).kind (L.at_ n (CY d) i).num (len (L.at_ n (CY d) i).q) (Az (nth (L.at_ n (CY d) i).q)) (len (L.at_ n (CY d) i).ps) (Az (nth (L.at_ n (CY d) i).ps))) op k v).ps))])],aZ .i64 (L.r (sQ (L.at_ n (CY d) i).kind (L.at_ n (CY d) i).num (len (L.at_ n (CY d) i).q) (Az (nth (L.at_ n (CY d) i).q)) (len (L.at_ n (CY d) i).ps) (Az (nth (L.at_ n (CY d) i).ps))) op k v),aZ .i64 (L.g (sQ (L.at_ n (CY d) i).kind (L.at_ n (CY d) i).num (len (L.at_ n (CY d) i).q) (Az (nth (L.at_ n (CY d) i).q)) (len (L.at_ n (CY d) i).ps) (Az (nth (L.at_ n (CY d) i).ps))) op k v),Sh.v bM])))))))))))):=by kernel_rfl
end Go.Proofs
namespace Go.Pl
open Go Go.Sx Go.Proofs
noncomputable def L7:Lb7 where
 op s o k v:=(EY s o k v).1
 r s o k v:=(EY s o k v).2.1
 g s o k v:=(EY s o k v).2.2
 key:=keyS
 join:=DV
 at_ n g i:=atT n (EG n g) i
end Go.Pl
namespace Go.Proofs
open Go Go.Sx Go.Pl
theorem awy:Bh aB (BG W7) 119 (G33 L7):=O33
theorem awz:Bh aB (BG W7) 120 (G42 L7):=O42
theorem OEs:∀g F,YB L7 g=ay F->Bh aB (BG W7) g F:=fun g F h=>by
 unfold YB at h;split at h
 ·cases h;exact awy
 ·cases h;exact awz
 ·cases h;exact O54
 ·cases h
theorem awC(stop:Nat->List Nat->Bool):Cb aB (C7 Aw W7 (YB L7) stop):=nU OEs fun g h=>by
 unfold YB at h;split at h;all_goals first|(cases h;done) |kernel_rfl
noncomputable def F29:List Sh->Tree Sh
 |[.agg [s0],t,u,v,w]=>match Ej 4 s0,BH t,BH u,BH v,BH w with
  |some (n,g),ay i,ay op,ay k,ay v=>.need (stB n g) (.need (BU n 64) (.node (J3 n i) (.need (abU (EG n g i.toNat).q.length) (.node (G8 (EG n g i.toNat).kind op) (.leaf (.Ba [.agg [.sl 4 0 noT],.i .i64 0,.i .i64 0,.er 8 329])) (.node (IL (EG n g i.toNat).kind (EG n g i.toNat).num op k v) (.leaf (.Ba [.agg [.sl 4 0 noT],.i .i64 0,.i .i64 0,.er 15 329]))
    (.need (KL op (len (EG n g i.toNat).ps) (Az (nth (EG n g i.toNat).ps))) (.leaf (.Ba [.agg [.sl 4 n (SK n g i (Dy (EY (EG n g i.toNat) op k v).1))],.i .i64 (EY (EG n g i.toNat) op k v).2.1,.i .i64 (EY (EG n g i.toNat) op k v).2.2,.v .nilIface]))))))
   (.leaf (.Ba [.agg [.sl 4 0 noT],.i .i64 0,.i .i64 0,.er 7 329]))))
  |_,_,_,_,_=>.fail
 |_=>.fail
theorem O29:Bh aB (BG W7) 97 F29:=by
 refine Ei (C:=C7 Aw W7 (YB L7) Bc) (dn _ _) (awC _) (m:=300) (n:=400) (L:=L0) (fn:=Tryz.f97) (by kernel_rfl) (by kernel_rfl) fun H w BI args φ hrep h=>?_
 have hn:Tryz.f97.ntmps=52:=by kernel_rfl
 unfold F29 at h;split at h
 ·rename_i s0 t u v ww
  split at h
  ·rename_i n g i op k vv hs ht hu hv hw
   obtain ⟨h1,h2,hin,hout⟩:=h;have hout:J3 n i=aA->φ (.Ba [.agg [.sl 4 0 noT],.i .i64 0,.i .i64 0,.er 7 329]):=hout;match args,hrep with
   |[v0,v1,v2,v3,v4],⟨r0,r1,r2,r3,r4,_⟩=>
    refine ⟨[.agg [.sl 4 n (CY (EG n g))],.i .i64 i,.i .i64 op,.i .i64 k,.i .i64 vv],⟨Nb r0 fun u hu=>ER (Ce hs hu) (QE h1),EH ht r1,EH hu r2,EH hv r3,EH hw r4,trivial⟩,?_⟩;have hrow:=QE h1;have her (T:Nat) (g0:Nat) (hp:φ (.Ba [.agg [.sl 4 0 noT],.i .i64 0,.i .i64 0,.er g0 329])):up φ (.Ba [.agg [.sl 0 0 fun _=>[]],.i .i64 (ah 0),.i .i64 (ah 0),.er g0 329]):=
     Cj (s':=.Ba [.agg [.sl 4 0 noT],.i .i64 0,.i .i64 0,.er g0 329]) ⟨⟨.inl ⟨rfl,rfl⟩,trivial⟩,rfl,rfl,rfl,trivial⟩ hp
    rw[hn,a29 Aw W7 L7 n (EG n g) i op k vv];have e1:L7.at_ n (CY (EG n g)) i=atT n (EG n (CY (EG n g))) i:=rfl;rw[e1];refine ⟨abM n _,fun e=>her 0 7 (hout (by simpa[CU] using e)),fun e=>?_⟩;have e:J3 n i=aF:=by simpa[CU] using e
    obtain ⟨q1,q3,q4⟩:=hin e;have hlt:i.toNat<n:=by simp[J3] at e;omega
    have e2:atT n (EG n (CY (EG n g))) i=EG n g i.toNat:=by simp[atT,e,aoo i.toNat hlt]
    rw[e2,ajy];have q4:G8 (EG n g i.toNat).kind op=aA->(IL (EG n g i.toNat).kind (EG n g i.toNat).num op k vv=aF->φ (.Ba [.agg [.sl 4 0 noT],.i .i64 0,.i .i64 0,.er 15 329]))/\(IL (EG n g i.toNat).kind (EG n g i.toNat).num op k vv=aA->KL op (len (EG n g i.toNat).ps) (Az (nth (EG n g i.toNat).ps))=aF/\φ (.Ba [.agg [.sl 4 n (SK n g i (Dy (EY (EG n g i.toNat) op k vv).1))],.i .i64 (EY (EG n g i.toNat) op k vv).2.1,.i .i64 (EY (EG n g i.toNat) op k vv).2.2,.v .nilIface])):=q4;refine ⟨Eh _ _,Eh _ _,q1,fun e=>her 0 8 (q3 e),fun e=>⟨fun e'=>her 0 15 ((q4 e).1 e'),fun e'=>⟨((q4 e).2 e').1,h2,abM n _,Cj (s':=.Ba [.agg [.sl 4 n (SK n g i (Dy (EY (EG n g i.toNat) op k vv).1))],.i .i64 (EY (EG n g i.toNat) op k vv).2.1,.i .i64 (EY (EG n g i.toNat) op k vv).2.2,.v .nilIface]) ⟨⟨.inr ⟨rfl,rfl,fun j hj=>?_⟩,trivial⟩,rfl,rfl,rfl,trivial⟩ ((q4 e).2 e').2⟩⟩⟩;unfold SK;split
    ·rfl
    ·exact (hrow j hj).symm
  ·exact h.elim
 ·exact h.elim
end Go.Proofs
namespace Go.Pl
open Go Go.Sx
structure En where
 id:Int
 th:Int
 st:Int
 bg:Int
 en:Int
 tr:Int
 k:Nat
 g:Nat->List Sh
instance:Inhabited En:=⟨⟨0,0,0,0,0,0,0,fun _=>[]⟩⟩
instance:Row En where
 put t:=[.i .i64 t.id,.i .i64 t.th,.i .i64 t.st,.i .i64 t.bg,.i .i64 t.en,.i .i64 t.tr,.sl 8 t.k t.g]
 get l:=match l with
  |[.i .i64 a,.i .i64 b,.i .i64 c,.i .i64 d,.i .i64 e,.i .i64 f,.sl 8 k g]=>ay ⟨a,b,c,d,e,f,k,g⟩ |_=>aN
 DJ l a h:=by
  split at h
  ·cases h;rfl
  ·cases h
 get_put a:=rfl
 JJ:=default
structure Dd where
 obj:Int
 op:Int
 key:Int
 val:Int
 ret:Int
 got:Int
 at_:Int
 back:Int
 deriving DecidableEq,Inhabited
instance:Row Dd where
 put d:=[.i .i64 d.obj,.i .i64 d.op,.i .i64 d.key,.i .i64 d.val,.i .i64 d.ret,.i .i64 d.got,.i .i64 d.at_,.i .i64 d.back]
 get l:=match l with
  |[.i .i64 a,.i .i64 b,.i .i64 c,.i .i64 d,.i .i64 e,.i .i64 f,.i .i64 g,.i .i64 h]=>ay ⟨a,b,c,d,e,f,g,h⟩ |_=>aN
 DJ l a h:=by
  split at h
  ·cases h;rfl
  ·cases h
 get_put a:=rfl
 JJ:=default
structure Vp where
 placed:Int
 n:Nat
 g:Nat->List Sh
instance:Inhabited Vp:=⟨⟨0,0,fun _=>[]⟩⟩
instance:Row Vp where
 put x:=[.i .i64 x.placed,.sl 4 x.n x.g]
 get l:=match l with
  |[.i .i64 a,.sl 4 n g]=>ay ⟨a,n,g⟩ |_=>aN
 DJ l a h:=by
  split at h
  ·cases h;rfl
  ·cases h
 get_put a:=rfl
 JJ:=default
structure JK where
 tx:Int
 com:Bool
 placed:Int
 n:Nat
 g:Nat->List Sh
instance:Inhabited JK:=⟨⟨0,aA,0,0,fun _=>[]⟩⟩
instance:Row JK where
 put x:=[.i .i64 x.tx,.b x.com,.i .i64 x.placed,.sl 4 x.n x.g]
 get l:=match l with
  |[.i .i64 t,.b c,.i .i64 a,.sl 4 n g]=>ay ⟨t,c,a,n,g⟩ |_=>aN
 DJ l a h:=by
  split at h
  ·cases h;rfl
  ·cases h
 get_put a:=rfl
 JJ:=default
def YC(n:Nat)(d:Nat->Di)(i op k v:Int):Bool:=J3 n i && !G8 (d i.toNat).kind op && !IL (d i.toNat).kind (d i.toNat).num op k v
def erN(n:Nat)(d:Nat->Di)(i op k v:Int):Nat:=if J3 n i=aF then (if G8 (d i.toNat).kind op=aF then 8 else 15) else 7
def abV(n:Nat)(d:Nat->Di)(i op:Int):Bool:=!J3 n i||(Go.Pl.abU (d i.toNat).q.length&&KL op (len (d i.toNat).ps) (Az (nth (d i.toNat).ps)))
noncomputable def Un(n:Nat)(g:Nat->List Sh)(i op k v:Int):Bool:=YC n (EG n g) i op k v
noncomputable def aed(n:Nat)(g:Nat->List Sh)(i op:Int):Bool:=stB n g&&(BU n 64&&abV n (EG n g) i op)
noncomputable def erG(n:Nat)(g:Nat->List Sh)(i op k v:Int):Nat:=erN n (EG n g) i op k v
noncomputable def abW(n:Nat)(g:Nat->List Sh)(i op k v:Int):Nat->List Sh:=SK n g i (Dy (EY (EG n g i.toNat) op k v).1)
noncomputable def ahF(n:Nat)(g:Nat->List Sh)(i op k v:Int):Int:=(EY (EG n g i.toNat) op k v).2.1
noncomputable def ahG(n:Nat)(g:Nat->List Sh)(i op k v:Int):Int:=(EY (EG n g i.toNat) op k v).2.2
end Go.Pl
namespace Go.Proofs
open Go Go.Sx Go.Pl
noncomputable def D29:List Sh->Tree Sh
 |[.agg [s0],t,u,v,w]=>match Ej 4 s0,BH t,BH u,BH v,BH w with
  |some (n,g),ay i,ay op,ay k,ay v=>.need (aed n g i op) (.node (Un n g i op k v)
   (.leaf (.Ba [.agg [.sl 4 n (abW n g i op k v)],.i .i64 (ahF n g i op k v),.i .i64 (ahG n g i op k v),.v .nilIface]))
   (.leaf (.Ba [.agg [.sl 4 0 noT],.i .i64 0,.i .i64 0,.er (erG n g i op k v) 329])))
  |_,_,_,_,_=>.fail
 |_=>.fail
noncomputable def QL:Nat->Option (List Sh->Tree Sh)
 |97=>ay D29 |_=>aN
def Zt:List It:=[bD [0,1,0,1],dh 0,bD [1,1]]
def aoY:List It:=bD [0,0,1,0,1]::Zt
def Zu(n:Nat)(g:Nat->List Sh)(m:Nat)(dd:Nat->Dd)(i:Int):Core:={tm:=F8 54 [(2,.ptr 0 0),(4,.ptr 1 0),(12,.sh (.sl 8 m (Az dd))),(13,.sym .i64 (m:Int)),(14,.sym .i64 i)],hp:=[(0,.box [.sh (.sl 4 n g)] 100),(1,.box [.Bj] 100)],nx:=2,lim:=L0,tc:=[]}
end Go.Proofs
namespace Go.Sx
@[irreducible] def CZ (ψ:Eo->Prop) (t:Tree Eo):Prop:=t.All ψ
theorem QM(ψ:Eo->Prop)(t:Tree Eo):CZ ψ t=t.All ψ:=by unfold CZ;rfl
theorem EP{P:Program}{C:Ctx}{H0:Mem}{w0:World}(hC:BL P C)(hF:Cb P C){m n g:Nat}{td:List It}{c:Core}{stk:List Fr}{ts:List NG}{R:Hp->Prop}{φ:Sh->Prop}{hold:Nat->Bool}
  (h:CZ (Jq P C (K0 H0 w0) ts R φ) (BA C hold m n g td c stk ts)):BK P C (K0 H0 w0) g td c stk R φ:=Ic hC hF (by rw[QM] at h;exact h)
end Go.Sx
namespace Go.Pl
end Go.Pl
namespace Go.Proofs
open Go Go.Sx Go.Pl
theorem abX{P:Program}{gls:List (Nat×Sh)}{g:Nat}{F G:List Sh->Tree Sh}(hF:Bh P gls g F)(h:∀(BI:List Sh) (φ:Sh->Prop),(G BI).All φ->∃s':Sh,φ s'/\(F BI).All fun s=>Wk s s'):Bh P gls g G:=by
 intro H w BI args φ hon hg hr hφ;obtain ⟨s',h1,h2⟩:=h BI φ hφ;refine (hF H w BI args _ hon hg hr h2).mono fun e w' ⟨v,s,H',he,hs,r⟩=>?_;obtain ⟨H2,r2⟩:=r.wk hs;exact ⟨v,s',H2,he,h1,r2⟩
theorem ajA{st n:Nat}{g:Nat->List Sh}:Wk (.sl st n g) (.sl st n g):=.inr ⟨rfl,rfl,fun _ _=>rfl⟩
theorem add1{j:Nat}(h:j<=100000):Aw.add .i64 (j:Int) (ah 1)=((j+1:Nat):Int):=by
 show aW.wrap ((j:Int)+1)=_;rw[CO (by omega) (by omega)];rfl
end Go.Proofs
namespace Go.Sx
def BQ.dg:BQ->BQ
 | .int a _=>.int a a | .nat a _=>.nat a a | .bool a _=>.bool a a | .str a _=>.str a a | .val a _=>.val a a | .sh a _=>.sh a a | .get n g _=>.get n g g | .L9 g _=>.L9 g g | .mp M _=>.mp M M | .mg M _=>.mg M M
theorem ak7:∀l:List BQ,BQ.all (l.map BQ.dg)
 |[]=>trivial |e::l=>⟨by cases e<;>first|rfl|exact fun _ _=>rfl,ak7 l⟩
def Tree.dg{α:Type}:Tree α->Tree α
 | .leaf a=>.leaf a | .node b t f=>.node b t.dg f.dg | .need b t=>.need b t.dg | .must l t=>.must (l.map BQ.dg) t.dg | .both t f=>.both t.dg f.dg | .fail=>.fail
def Tree.Xn{α:Type}(φ:α->Prop):Tree α->Prop
 | .leaf a=>φ a | .node b t f=>(b=aF->t.Xn φ)/\(b=aA->f.Xn φ) | .need b t=>b=aF/\t.Xn φ | .must _ t=>t.Xn φ | .both t f=>t.Xn φ/\f.Xn φ | .fail=>False
theorem Tree.abY{α:Type}{φ:α->Prop}:∀{t:Tree α},t.Xn φ->t.dg.All φ
 | .leaf _,h=>h | .node _ _ _,h=>⟨fun e=>Tree.abY (h.1 e),fun e=>Tree.abY (h.2 e)⟩ | .need _ _,h=>⟨h.1,Tree.abY h.2⟩ | .must l _,h=>⟨ak7 l,Tree.abY h⟩ | .both _ _,h=>⟨Tree.abY h.1,Tree.abY h.2⟩ | .fail,h=>h
theorem FK{P:Prop}{ψ:Eo->Prop}{t:Tree Eo}(k:P)(e:P=t.All ψ):CZ ψ t:=by
 rw[QM,<-e];exact k
theorem aoZ{P:Prop}{ψ:Eo->Prop}{t:Tree Eo}(h:t.dg=t)(k:P)(e:P=t.Xn ψ):CZ ψ t:=by
 rw[QM,<-h];exact Tree.abY (e ▸ k:t.Xn ψ)
theorem nd(c:Bool){p q:Prop}(x:c=aF->p)(y:c=aA->q):(c=aF->p)/\(c=aA->q):=⟨x,y⟩
theorem an{a b:Prop}(x:a)(y:b):a/\b:=⟨x,y⟩
end Go.Sx
namespace Go.Proofs
open Go Go.Sx Go.Pl
theorem ao0(A:Prim)(W:Wd)(n:Nat)(g:Nat->List Sh)(m:Nat)(dd:Nat->Dd)(i':Int){ψ:Eo->Prop}(y1:ψ (bJ 0 [aP (aH 8 m (Az dd)) (aH 8 m (Az dd)),ak (A.Bl m) (ah m),ak (ah 0) i',aP (aH 4 n g) (aH 4 n g)])):CZ ψ (BA (C7 A W QL Bc) BN 300 400 76 [.code []] (AL 54 [.agg [.sl 4 n g],.sl 8 m (Az dd)] L0) [] [⟨76,Zt,Zu n g m dd i',[]⟩]):=by
 exact FK y1 (by kernel_rfl)
theorem abZ(A:Prim)(W:Wd)(n:Nat)(g g':Nat->List Sh)(m:Nat)(dd:Nat->Dd)(i i':Int){ψ:Eo->Prop}{c0 c1 c2 c3 c4:Bool}(e0:A.lt i (ah m)=c0)(e1:A.eq (dd (A.toN i)).ret (ah 0)=c1)(e2:Un n g (dd (A.toN i)).obj (dd (A.toN i)).op (dd (A.toN i)).key (dd (A.toN i)).val=c2)(e3:A.nt (A.eq (ahF n g (dd (A.toN i)).obj (dd (A.toN i)).op (dd (A.toN i)).key (dd (A.toN i)).val) (dd (A.toN i)).ret)=c3)(e4:A.nt (A.eq (ahG n g (dd (A.toN i)).obj (dd (A.toN i)).op (dd (A.toN i)).key (dd (A.toN i)).val) (dd (A.toN i)).got)=c4)(h1:c0=aF->(A.inB i m)=aF)(h2:c0=aF->c1=aA->(aed n g (dd (A.toN i)).obj (dd (A.toN i)).op)=aF)(y1:c0=aF->c1=aF->ψ (bJ 0 [aP (aH 8 m (Az dd)) (aH 8 m (Az dd)),ak (ah m) (ah m),ak (A.add .i64 i (ah 1)) i',aP (aH 4 n g) (aH 4 n g')]))(y2:c0=aF->c1=aA->c2=aF->c3=aF->ψ (aU (cZ [bU [aH 0 0 fun _=>[]],qj 109 (tZ [aZ .i64 i,bC 13 329])])))(y3:c0=aF->c1=aA->c2=aF->c3=aA->c4=aF->ψ (aU (cZ [bU [aH 0 0 fun _=>[]],qj 109 (tZ [aZ .i64 i,bC 13 329])])))(y4:c0=aF->c1=aA->c2=aF->c3=aA->c4=aA->ψ (bJ 0 [aP (aH 8 m (Az dd)) (aH 8 m (Az dd)),ak (ah m) (ah m),ak (A.add .i64 i (ah 1)) i',aP (aH 4 n (abW n g (dd (A.toN i)).obj (dd (A.toN i)).op (dd (A.toN i)).key (dd (A.toN i)).val)) (aH 4 n g')]))(y5:c0=aF->c1=aA->c2=aA->ψ (aU (cZ [bU [aH 0 0 fun _=>[]],qj 109 (tZ [aZ .i64 i,bC (erG n g (dd (A.toN i)).obj (dd (A.toN i)).op (dd (A.toN i)).key (dd (A.toN i)).val) 329])])))(y6:c0=aA->ψ (aU (cZ [bU [aH 4 n g],Sh.v bM]))):CZ ψ (BA (C7 A W QL Bc) BN 300 400 76 aoY (Zu n g m dd i) [] [⟨76,Zt,Zu n g' m dd i',[]⟩]):=by
 subst e0 e1 e2 e3 e4;exact FK (an (fun q0=>an (h1 q0) (an (y1 q0) (fun q1=>an (h2 q0 q1) (an (fun q2=>an (y2 q0 q1 q2) (fun q3=>an (y3 q0 q1 q2 q3) (y4 q0 q1 q2 q3))) (y5 q0 q1))))) y6) (by kernel_rfl)
end Go.Proofs
namespace Go.Pl
open Go Go.Sx Go.Proofs
noncomputable def Iu(n:Nat):(Nat->List Sh)->Nat->List Dd->(Nat×Nat) ⊕ (Nat->List Sh)
 |g,_,[]=>.inr g |g,i,d::l=>if d.ret=0 then Iu n g (i+1) l else if Un n g d.obj d.op d.key d.val=aF then
   (if ahF n g d.obj d.op d.key d.val=d.ret/\ahG n g d.obj d.op d.key d.val=d.got then Iu n (abW n g d.obj d.op d.key d.val) (i+1) l else .inl (i,13)) else .inl (i,erG n g d.obj d.op d.key d.val)
noncomputable def UF(n:Nat):(Nat->List Sh)->List Dd->Prop
 |_,[]=>True |g,d::l=>if d.ret=0 then UF n g l else aed n g d.obj d.op=aF/\(Un n g d.obj d.op d.key d.val=aF->UF n (abW n g d.obj d.op d.key d.val) l)
end Go.Pl
namespace Go.Proofs
open Go Go.Sx Go.Pl
noncomputable def ao1(φ:Sh->Prop)(n:Nat):(Nat×Nat) ⊕ (Nat->List Sh)->Prop
 | .inr g=>φ (.Ba [.agg [.sl 4 n g],.v .nilIface]) | .inl (i,e)=>φ (.Ba [.agg [.sl 4 0 noT],.Dv 109 (.pt [.i .i64 (i:Nat),.er e 329])])
theorem aft(OD:Bh aB (BG W7) 97 D29)(stop:Nat->List Nat->Bool):Cb aB (C7 Aw W7 QL stop):=nU (fun g F h=>by
 unfold QL at h;split at h
 ·cases h;exact OD
 ·cases h) fun g h=>by
 unfold QL at h;split at h;all_goals first|(cases h;done) |kernel_rfl
section
variable{H0:Mem}{w0:World}{φ:Sh->Prop}{n m:Nat}{dd:Nat->Dd}
theorem afu(OD:Bh aB (BG W7) 97 D29)(hm:m<=100000):∀r i g,i+r=m->UF n g ((aY r).map fun j=>dd (i+j))->ao1 φ n (Iu n g i ((aY r).map fun j=>dd (i+j)))->
  BK aB (C7 Aw W7 QL Bc) (K0 H0 w0) 76 Zt (Zu n g m dd (i:Nat)) [] emp (up φ)
 |0,i,g,hi,hf,hφ=>by
  refine FW (fn:=su) (tb:=aoY) (by kernel_rfl) (by kernel_rfl) ?_;refine EP (dn _ _) (aft OD _) (hold:=BN) (m:=300) (n:=400) (ts:=[⟨76,Zt,Zu n g m dd 0,[]⟩]) ?_;have lt {P:Prop} (h:Aw.lt (i:Int) (ah m)=aF):P:=by simp[AO] at h;omega
  have hφ:φ (.Ba [.agg [.sl 4 n g],.v .nilIface]):=hφ;exact abZ Aw W7 n g g m dd i 0 rfl rfl rfl rfl rfl (fun q=>lt q) (fun q=>lt q) (fun q=>lt q) (fun q=>lt q) (fun q=>lt q) (fun q=>lt q) (fun q=>lt q) (fun _=>Cj (s':=.Ba [.agg [.sl 4 n g],.v .nilIface]) ⟨⟨ajA,trivial⟩,rfl,trivial⟩ hφ)
 |r+1,i,g,hi,hf,hφ=>by
  refine FW (fn:=su) (tb:=aoY) (by kernel_rfl) (by kernel_rfl) ?_;have w1:Aw.add .i64 (i:Int) (ah 1)=((i+1:Nat):Int):=add1 (by omega);have no {P:Prop} (h:Aw.lt (i:Int) (ah m)=aA):P:=by simp[AO] at h;omega
  have inb (h:Aw.lt (i:Int) (ah m)=aF):Aw.inB (i:Int) m=aF:=by simp[BO];omega
  have el:(aY (r+1)).map (fun j=>dd (i+j))=dd i::(aY r).map fun j=>dd (i+1+j):=by
   rw[List.range_succ_eq_map,List.map_cons,List.map_map];congr 1;refine lF fun j _=>?_
   show dd (i+(j+1))=dd (i+1+j);rw[show i+(j+1)=i+1+j by omega]
  rw[el] at hf hφ;have bad (e:Nat) (h:φ (.Ba [.agg [.sl 4 0 noT],.Dv 109 (.pt [.i .i64 (i:Nat),.er e 329])])):up φ (.Ba [.agg [.sl 0 0 fun _=>[]],.Dv 109 (.pt [.i .i64 (i:Nat),.er e 329])]):=
   Cj (s':=.Ba [.agg [.sl 4 0 noT],.Dv 109 (.pt [.i .i64 (i:Nat),.er e 329])]) ⟨⟨.inl ⟨rfl,rfl⟩,trivial⟩,rfl,trivial⟩ h
  by_cases h0:(dd i).ret=0
  ·have hf:UF n g ((aY r).map fun j=>dd (i+1+j)):=by unfold UF at hf;rwa[if_pos h0] at hf
   have hφ:ao1 φ n (Iu n g (i+1) ((aY r).map fun j=>dd (i+1+j))):=by unfold Iu at hφ;rwa[if_pos h0] at hφ
   have nx:=afu OD hm r (i+1) g (by omega) hf hφ;refine EP (dn _ _) (aft OD _) (hold:=BN) (m:=300) (n:=400) (ts:=[⟨76,Zt,Zu n g m dd ((i+1:Nat):Int),[]⟩]) ?_;have c1 {P:Prop} (h:Aw.eq (dd i).ret (ah 0)=aA):P:=by rw[h0] at h;simp[Bd] at h
   exact abZ Aw W7 n g g m dd i _ rfl rfl rfl rfl rfl inb (fun _ q=>c1 q) (fun _ _=>⟨⟨rfl,rfl,w1,rfl,trivial⟩,_,rfl,nx⟩) (fun _ q=>c1 q) (fun _ q=>c1 q) (fun _ q=>c1 q) (fun _ q=>c1 q) (fun q=>no q)
  ·have c1 {P:Prop} (h:Aw.eq (dd i).ret (ah 0)=aF):P:=(h0 (by simpa[Bd] using h)).elim
   unfold UF at hf;rw[if_neg h0] at hf;unfold Iu at hφ;rw[if_neg h0] at hφ;refine EP (dn _ _) (aft OD _) (hold:=BN) (m:=300) (n:=400) (ts:=[⟨76,Zt,Zu n (abW n g (dd i).obj (dd i).op (dd i).key (dd i).val) m dd ((i+1:Nat):Int),[]⟩]) ?_;have nte {a b:Int} (h:Aw.nt (Aw.eq a b)=aF):a≠b:=by simpa[CU,Bd] using h
   have nfe {a b:Int} (h:Aw.nt (Aw.eq a b)=aA):a=b:=by simpa[CU,Bd] using h
   refine abZ Aw W7 n g _ m dd i _ rfl rfl rfl rfl rfl inb (fun _ _=>hf.1) (fun _ q=>c1 q) ?_ ?_ ?_ ?_ (fun q=>no q)
   ·intro _ _ q2 q3
    have q2:Un n g (dd i).obj (dd i).op (dd i).key (dd i).val=aF:=q2;rw[if_pos q2,if_neg fun e=>nte q3 e.1] at hφ
    exact bad 13 hφ
   ·intro _ _ q2 _ q4
    have q2:Un n g (dd i).obj (dd i).op (dd i).key (dd i).val=aF:=q2;rw[if_pos q2,if_neg fun e=>nte q4 e.2] at hφ
    exact bad 13 hφ
   ·intro _ _ q2 q3 q4
    have q2:Un n g (dd i).obj (dd i).op (dd i).key (dd i).val=aF:=q2;rw[if_pos q2,if_pos ⟨nfe q3,nfe q4⟩] at hφ;exact ⟨⟨rfl,rfl,w1,rfl,trivial⟩,_,rfl,afu OD hm r (i+1) _ (by omega) (hf.2 q2) hφ⟩
   ·intro _ _ q2
    have q2:Un n g (dd i).obj (dd i).op (dd i).key (dd i).val=aA:=q2;rw[if_neg (by rw[q2];simp)] at hφ;exact bad _ hφ
end
open Go Go.Sx Go.Pl
theorem as2:Bh aB (BG W7) 97 D29:=O29.mono fun H BI args φ hr h=>by
 unfold D29 at h;split at h
 ·split at h
  ·rename_i n g i op k v e0 e1 e2 e3 e4
   obtain ⟨h1,h2,h3⟩:=h;unfold aed at h1;rw[aJ,aJ] at h1;obtain ⟨a1,a2,a3⟩:=h1;unfold F29;simp only[e0,e1,e2,e3,e4];have no (e:Nat) (q:Un n g i op k v=aA) (q2:erG n g i op k v=e):φ (.Ba [.agg [.sl 4 0 noT],.i .i64 0,.i .i64 0,.er e 329]):=by
    have:=h3 q;rw[q2] at this;exact this
   refine ⟨a1,a2,fun q=>?_,fun q=>no 7 ?_ ?_⟩
   ·have b3:abU (EG n g i.toNat).q.length=aF/\KL op (len (EG n g i.toNat).ps) (Az (nth (EG n g i.toNat).ps))=aF:=by
     unfold abV at a3;rw[q] at a3;simpa using a3
    refine ⟨b3.1,fun b=>no 8 ?_ ?_,fun b=>⟨fun c=>no 15 ?_ ?_,fun c=>⟨b3.2,h2 ?_⟩⟩⟩
    ·unfold Un YC;rw[b];simp
    ·unfold erG erN;rw[if_pos q,if_pos b]
    ·unfold Un YC;rw[c];simp
    ·unfold erG erN;rw[if_pos q,if_neg (by rw[b];simp)]
    ·unfold Un YC;rw[q,b,c];rfl
   ·unfold Un YC;rw[q];rfl
   ·unfold erG erN;rw[if_neg (by rw[q];simp)]
  ·exact h.elim
 ·exact h.elim
noncomputable def ak8(n:Nat)(g:Nat->List Sh)(l:List Dd):Bool:=@decide (UF n g l) (bG _)
noncomputable def ab1(n:Nat)(g:Nat->List Sh)(l:List Dd):Bool:=match Iu n g 0 l with
 | .inr _=>aF | .inl _=>aA
noncomputable def ab2(n:Nat)(g:Nat->List Sh)(l:List Dd):Nat->List Sh:=match Iu n g 0 l with
 | .inr g=>g | .inl _=>noT
noncomputable def ajB(n:Nat)(g:Nat->List Sh)(l:List Dd):Nat:=match Iu n g 0 l with
 | .inr _=>0 | .inl (i,_)=>i
noncomputable def ajC(n:Nat)(g:Nat->List Sh)(l:List Dd):Nat:=match Iu n g 0 l with
 | .inr _=>0 | .inl (_,e)=>e
noncomputable def F76:List Sh->Tree Sh
 |[.agg [s0],s1]=>match Ej 4 s0,Ej 8 s1 with
  |some (n,g),ay (m,h)=>.need (okB Dd m h) (.need (decide (m<=100000)) (.need (ak8 n g (lst Dd m h)) (.node (ab1 n g (lst Dd m h))
   (.leaf (.Ba [.agg [.sl 4 n (ab2 n g (lst Dd m h))],.v .nilIface]))
   (.leaf (.Ba [.agg [.sl 4 0 noT],.Dv 109 (.pt [.i .i64 (ajB n g (lst Dd m h)),.er (ajC n g (lst Dd m h)) 329])])))))
  |_,_=>.fail
 |_=>.fail
theorem O76:Bh aB (BG W7) 76 F76:=by
 refine FX (C:=C7 Aw W7 QL Bc) (dn _ _) (fn:=su) (by kernel_rfl) (by kernel_rfl) fun H w BI args φ hrep h=>?_
 have hn:su.ntmps=54:=by kernel_rfl
 unfold F76 at h;split at h
 ·rename_i s0 s1
  split at h
  ·rename_i n g m hh e0 e1
   obtain ⟨h1,h2,h3,h4,h5⟩:=h;have h2:=of_decide_eq_true h2;have h3:UF n g (lst Dd m hh):=@of_decide_eq_true _ (bG _) h3;match args,hrep with
   |[v,u],⟨rv,ru,_⟩=>
    have rv':Rep H (.agg [.sl 4 n g]) v:=by
     cases rv with
     |agg _ vs hl hr=>
      refine .agg _ _ hl fun j s' v' q1 q2=>?_
      match j,q1 with
      |0,q1=>cases q1;exact Ce e0 (hr 0 _ _ rfl q2) |j+1,q1=>cases q1
    refine ⟨[.agg [.sl 4 n g],.sl 8 m (Az (AB (α:=Dd) hh))],⟨rv',EK (Ce e1 ru) h1,trivial⟩,L0,?_⟩;have hres:ao1 φ n (Iu n g 0 (lst Dd m hh)):=by
     unfold ab1 ab2 ajB ajC at *;cases hp:Iu n g 0 (lst Dd m hh) with
     |inr g'=>rw[hp] at h4;exact h4 rfl |inl q=>
      obtain ⟨i,e⟩:=q;rw[hp] at h5;exact h5 rfl
    have el:lst Dd m hh=(aY m).map fun j=>AB (α:=Dd) hh (0+j):=by
     unfold lst;refine lF fun j _=>?_
     rw[Nat.zero_add]
    rw[el] at h3 hres;refine EP (dn _ _) (aft as2 _) (hold:=BN) (m:=300) (n:=400) (ts:=[⟨76,Zt,Zu n g m (AB (α:=Dd) hh) ((0:Nat):Int),[]⟩]) ?_;rw[hn];exact ao0 Aw W7 n g m (AB (α:=Dd) hh) _ ⟨⟨rfl,rfl,rfl,rfl,trivial⟩,_,rfl,afu as2 h2 m 0 g (by omega) h3 hres⟩
  ·exact h.elim
 ·exact h.elim
end Go.Proofs
namespace Go.Pl
open Go Go.Sx Go.Proofs
noncomputable def plN(n:Nat)(g:Nat->List Sh)(m:Nat)(h:Nat->List Sh):Bool:=okB Dd m h&&(decide (m<=100000)&&ak8 n g (lst Dd m h))
noncomputable def plO(n:Nat)(g:Nat->List Sh)(m:Nat)(h:Nat->List Sh):Bool:=ab1 n g (lst Dd m h)
noncomputable def Uo(n:Nat)(g:Nat->List Sh)(m:Nat)(h:Nat->List Sh):Nat->List Sh:=ab2 n g (lst Dd m h)
noncomputable def plP(n:Nat)(g:Nat->List Sh)(m:Nat)(h:Nat->List Sh):Int:=ajB n g (lst Dd m h)
noncomputable def plE(n:Nat)(g:Nat->List Sh)(m:Nat)(h:Nat->List Sh):Nat:=ajC n g (lst Dd m h)
end Go.Pl
namespace Go.Proofs
open Go Go.Sx Go.Pl
noncomputable def D76:List Sh->Tree Sh
 |[.agg [s0],s1]=>match Ej 4 s0,Ej 8 s1 with
  |some (n,g),ay (m,h)=>.need (plN n g m h) (.node (plO n g m h)
   (.leaf (.Ba [.agg [.sl 4 n (Uo n g m h)],.v .nilIface]))
   (.leaf (.Ba [.agg [.sl 4 0 noT],.Dv 109 (.pt [.i .i64 (plP n g m h),.er (plE n g m h) 329])])))
  |_,_=>.fail
 |_=>.fail
noncomputable def Ot:Nat->Option (List Sh->Tree Sh)
 |76=>ay D76 |_=>aN
def CG(lv:Int)(N:Nat)(T:Nat->En)(N':Nat)(mk:Nat->Int)(k0:Nat)(g0:Nat->List Sh):List Sh:=[.i .i64 lv,.sl 7 N (Az T),.sl 1 N' (Az mk),.sl 4 k0 g0]
def Xo:List It:=[bD [0,1,0,1,1],dh 0,bD [1,1,1]]
def ak9:List It:=bD [0,0,1,0,1,1]::Xo
def Zv(lv:Int)(N:Nat)(T:Nat->En)(N':Nat)(mk:Nat->Int)(k0:Nat)(g0:Nat->List Sh)(p:Int)(n:Nat)(g:Nat->List Sh)(m:Nat)(R:Nat->JK)(i:Int):Core:={tm:=F8 104 [(0,.G5 4 1 (fun _=>CG lv N T N' mk k0 g0) 0 0),(3,.ptr 0 0),(5,.gs 1),(15,.sh (.sl 7 N (Az T))),(16,.sym .i64 (N:Int)),(17,.sym .i64 i)],hp:=[(0,.box [.sym .i64 p,.sh (.sl 4 n g)] 104),(1,.own 108 4 m (Az R))],nx:=2,lim:=L0,tc:=[]}
end Go.Proofs
namespace Go.Bf
section
variable{α κ:Type}[DecidableEq κ](key:α->κ)(next:α->List α)
def J5(o:List α)(k:κ):Bool:=o.any fun n=>decide (key n=k)
def Ii(m:Nat)(o:List α)(n:α):Option (List α):=if J5 key o (key n)=aF then ay o else if o.length=m then aN else ay (o++[n])
def FY(m:Nat):List α->List α->Option (List α)
 |o,[]=>ay o |o,n::l=>match Ii key m o n with
  |none=>aN |some o'=>FY m o' l
def MN(m:Nat):Nat->List α->Nat->Option (List α)
 |0,o,_=>ay o |f+1,o,i=>match o[i]? with
  |none=>ay o |some n=>match FY key m o (next n) with
   |none=>aN |some o'=>MN m f o' (i+1)
variable{key next}
theorem amj{m:Nat}{o o':List α}{n:α}(h:Ii key m o n=ay o'):∃t,o'=o++t/\t.length<=1/\(o.length<=m->o'.length<=m):=by
 unfold Ii at h;split at h
 ·cases h;exact ⟨[],by simp,by simp,fun h=>h⟩
 ·split at h
  ·cases h
  ·cases h;exact ⟨[n],rfl,by simp,fun h=>by simp;omega⟩
theorem PL{m:Nat}:∀{l o o':List α},FY key m o l=ay o'->∃t,o'=o++t/\(o.length<=m->o'.length<=m)
 |[],o,o',h=>by cases h;exact ⟨[],by simp,fun h=>h⟩ |n::l,o,o',h=>by
  simp only[FY] at h;cases hp:Ii key m o n with
  |none=>rw[hp] at h;cases h |some o1=>
   rw[hp] at h;obtain ⟨t,rfl,_,h1⟩:=amj hp;obtain ⟨t',rfl,h2⟩:=PL h;exact ⟨t++t',by simp,fun q=>h2 (h1 q)⟩
theorem ab3{m:Nat}:∀{f i:Nat} {o r:List α},MN key next m f o i=ay r->∃t,r=o++t/\(o.length<=m->r.length<=m)
 |0,_,o,r,h=>by cases h;exact ⟨[],by simp,fun h=>h⟩ |f+1,i,o,r,h=>by
  simp only[MN] at h;cases hi:o[i]? with
  |none=>rw[hi] at h;cases h;exact ⟨[],by simp,fun h=>h⟩ |some n=>
   rw[hi] at h;simp only at h;cases hp:FY key m o (next n) with
   |none=>rw[hp] at h;cases h |some o1=>
    rw[hp] at h;obtain ⟨t,rfl,h1⟩:=PL hp;obtain ⟨t',rfl,h2⟩:=ab3 h;exact ⟨t++t',by simp,fun q=>h2 (h1 q)⟩
end
section
variable{α κ:Type}[DecidableEq κ]{key:α->κ}{next:α->List α}
theorem J6{o:List α}{k:κ}:J5 key o k=aF↔∃n∈o,key n=k:=by simp[J5]
theorem ahH{o t:List α}{k:κ}(h:J5 key o k=aF):J5 key (o++t) k=aF:=by
 obtain ⟨n,hn,e⟩:=J6.1 h;exact J6.2 ⟨n,List.mem_append_left _ hn,e⟩
theorem amk{m:Nat}{o o':List α}{n:α}(h:Ii key m o n=ay o'):J5 key o' (key n)=aF:=by
 unfold Ii at h;split at h
 ·cases h;assumption
 ·split at h
  ·cases h
  ·cases h;exact J6.2 ⟨n,by simp,rfl⟩
theorem aee{m:Nat}:∀{l o o':List α},FY key m o l=ay o'->∀n∈l,J5 key o' (key n)=aF
 |[],_,_,_,_,h=>by cases h |n::l,o,o',h,x,hx=>by
  simp only[FY] at h;cases hp:Ii key m o n with
  |none=>rw[hp] at h;cases h |some o1=>
   rw[hp] at h;rcases ig.1 hx with rfl|hx
   ·obtain ⟨t,rfl,_⟩:=PL h
    exact ahH (amk hp)
   ·exact aee h x hx
theorem aef{m:Nat}{o o':List α}{n:α}{P:α->Prop}(h:Ii key m o n=ay o')(ho:∀x∈o,P x)(hn:P n):∀x∈o',P x:=by
 unfold Ii at h;split at h
 ·cases h;exact ho
 ·split at h
  ·cases h
  ·cases h
   intro x hx;rcases bK.1 hx with hx|hx
   ·exact ho x hx
   ·obtain rfl:x=n:=by simpa using hx
    exact hn
theorem TY{m:Nat}{P:α->Prop}:∀{l o o':List α},FY key m o l=ay o'->(∀x∈o,P x)->(∀x∈l,P x)->∀x∈o',P x
 |[],_,_,h,ho,_=>by cases h;exact ho |n::l,o,o',h,ho,hl=>by
  simp only[FY] at h;cases hp:Ii key m o n with
  |none=>rw[hp] at h;cases h |some o1=>
   rw[hp] at h;exact TY h (aef hp ho (hl n cO)) fun x hx=>hl x (dB _ hx)
theorem PN{m:Nat}{P:α->Prop}(hP:∀n,P n->∀t∈next n,P t):∀{f i:Nat} {o r:List α},MN key next m f o i=ay r->(∀x∈o,P x)->∀x∈r,P x
 |0,_,_,_,h,ho=>by cases h;exact ho |f+1,i,o,r,h,ho=>by
  simp only[MN] at h;cases hi:o[i]? with
  |none=>rw[hi] at h;cases h;exact ho |some n=>
   rw[hi] at h;simp only at h;cases hp:FY key m o (next n) with
   |none=>rw[hp] at h;cases h |some o1=>
    rw[hp] at h;exact PN hP h (TY hp ho (hP n (ho n (bP hi))))
theorem Td{m:Nat}:∀{f i:Nat} {o r:List α},MN key next m f o i=ay r->r.length<i+f->(∀j n,j<i->o[j]?=ay n->∀t∈next n,J5 key o (key t)=aF)->∀n∈r,∀t∈next n,J5 key r (key t)=aF
 |0,i,o,r,h,hl,hc=>by
  cases h;intro n hn t ht;obtain ⟨j,hj,e⟩:=mV.1 hn;exact hc j n (by omega) (by rw[aS hj,e]) t ht
 |f+1,i,o,r,h,hl,hc=>by
  simp only[MN] at h;cases hi:o[i]? with
  |none=>
   rw[hi] at h;cases h;have hle:o.length<=i:=List.getElem?_eq_none_iff.1 hi;intro n hn t ht;obtain ⟨j,hj,e⟩:=mV.1 hn;exact hc j n (by omega) (by rw[aS hj,e]) t ht
  |some n=>
   rw[hi] at h;simp only at h;cases hp:FY key m o (next n) with
   |none=>rw[hp] at h;cases h |some o1=>
    rw[hp] at h;obtain ⟨t',e,_⟩:=PL hp;refine Td h (by omega) fun j x hj hx t ht=>?_
    have hil:i<o.length:=(aQ.1 hi).1;have hx':o[j]?=ay x:=by
     rw[e,dM (by omega)] at hx;exact hx
    rcases pK j i with h1|h1
    ·rw[e];exact ahH (hc j x h1 hx' t ht)
    ·obtain rfl:j=i:=by omega
     rw[hi] at hx';cases hx';exact aee hp t ht
theorem ajD{m:Nat}{o o':List α}{n:α}(h:Ii key m o n=ay o')(ho:(o.map key).Nodup):(o'.map key).Nodup:=by
 unfold Ii at h;split at h
 ·cases h;exact ho
 ·rename_i q
  split at h
  ·cases h
  ·cases h
   rw[iO,List.nodup_append];refine ⟨ho,by simp,fun a ha b hb e=>?_⟩;obtain rfl:b=key n:=by simpa using hb
   obtain ⟨x,hx,rfl⟩:=dL.1 ha;exact q (J6.2 ⟨x,hx,e⟩)
theorem Zw{m:Nat}:∀{l o o':List α},FY key m o l=ay o'->(o.map key).Nodup->(o'.map key).Nodup
 |[],_,_,h,ho=>by cases h;exact ho |n::l,o,o',h,ho=>by
  simp only[FY] at h;cases hp:Ii key m o n with
  |none=>rw[hp] at h;cases h |some o1=>
   rw[hp] at h;exact Zw h (ajD hp ho)
theorem ab4{m:Nat}:∀{f i:Nat} {o r:List α},MN key next m f o i=ay r->(o.map key).Nodup->(r.map key).Nodup
 |0,_,_,_,h,ho=>by cases h;exact ho |f+1,i,o,r,h,ho=>by
  simp only[MN] at h;cases hi:o[i]? with
  |none=>rw[hi] at h;cases h;exact ho |some n=>
   rw[hi] at h;simp only at h;cases hp:FY key m o (next n) with
   |none=>rw[hp] at h;cases h |some o1=>
    rw[hp] at h;exact ab4 h (Zw hp ho)
def Lay(rk:α->Nat)(b:Nat)(o:List α):Prop:=o.Pairwise (fun x y=>rk x<=rk y)/\∀x∈o,rk x<=b
theorem ao3{m b:Nat}{rk:α->Nat}{o o':List α}{n:α}(h:Ii key m o n=ay o')(ho:Lay rk b o)(hn:rk n=b):Lay rk b o':=by
 unfold Ii at h;split at h
 ·cases h;exact ho
 ·split at h
  ·cases h
  ·cases h
   refine ⟨List.pairwise_append.2 ⟨ho.1,lN _ _,fun x hx y hy=>?_⟩,fun x hx=>?_⟩
   ·obtain rfl:y=n:=by simpa using hy
    rw[hn];exact ho.2 x hx
   ·rcases bK.1 hx with hx|hx
    ·exact ho.2 x hx
    ·obtain rfl:x=n:=by simpa using hx
     omega
theorem aeg{m b:Nat}{rk:α->Nat}:∀{l o o':List α},FY key m o l=ay o'->Lay rk b o->(∀x∈l,rk x=b)->Lay rk b o'
 |[],_,_,h,ho,_=>by cases h;exact ho |n::l,o,o',h,ho,hl=>by
  simp only[FY] at h;cases hp:Ii key m o n with
  |none=>rw[hp] at h;cases h |some o1=>
   rw[hp] at h;exact aeg h (ao3 hp ho (hl n cO)) fun x hx=>hl x (dB _ hx)
theorem ahI{m:Nat}{rk:α->Nat}(hr:∀n,∀t∈next n,rk t=rk n+1):∀{f i:Nat} {o r:List α},MN key next m f o i=ay r->(∀n,o[i]?=ay n->Lay rk (rk n+1) o)->o.Pairwise (fun x y=>rk x<=rk y)->r.Pairwise fun x y=>rk x<=rk y
 |0,_,_,_,h,_,ho=>by cases h;exact ho |f+1,i,o,r,h,hL,ho=>by
  simp only[MN] at h;cases hi:o[i]? with
  |none=>rw[hi] at h;cases h;exact ho |some n=>
   rw[hi] at h;simp only at h;cases hp:FY key m o (next n) with
   |none=>rw[hp] at h;cases h |some o1=>
    rw[hp] at h;have h1:=aeg hp (hL n hi) fun x hx=>hr n x hx
    refine ahI hr h (fun n' hn'=>⟨h1.1,fun x hx=>?_⟩) h1.1;obtain ⟨t,e,_⟩:=PL hp;have hil:=(aQ.1 hi).1;have hn:o1[i]?=ay n:=by rw[e,dM hil];exact hi
    have hle:rk n<=rk n':=by
     obtain ⟨q1,e1⟩:=aQ.1 hn;obtain ⟨q2,e2⟩:=aQ.1 hn';have:=jE.1 h1.1 i (i+1) q1 q2 (by omega);rw[e1,e2] at this;exact this
    have:=h1.2 x hx;omega
def Iw(key:α->κ)(next:α->List α)(full:α->Bool):List α->κ->Bool
 |[],_=>aA |n::l,k=>if key n=k then full n||(next n).any (fun t=>Iw key next full l (key t)) else Iw key next full l k
inductive Tf(next:α->List α)(full:α->Bool):α->Prop
 |here {n:α}:full n=aF->Tf next full n
 |step {n t:α}:t∈next n->Tf next full t->Tf next full n
theorem ab5{full:α->Bool}{Q:α->Prop}(hQ:∀n,Q n->∀t∈next n,Q t)(hk:∀x y,Q x->Q y->key x=key y->x=y):∀{l:List α},(∀x∈l,Q x)->(l.map key).Nodup->
  (∀(i:Nat) n,l[i]?=ay n->∀t∈next n,∃(j:Nat) (x:α),i<j/\l[j]?=ay x/\key x=key t)->∀n∈l,(Iw key next full l (key n)=aF↔Tf next full n)
 |[],_,_,_,n,hn=>by cases hn |a::l,hq,hd,hf,n,hn=>by
  have hd':=List.nodup_cons.1 (by simpa using hd:(key a::l.map key).Nodup);have ih:=ab5 (l:=l) (full:=full) hQ hk (fun x hx=>hq x (dB _ hx)) hd'.2 (fun i n hi t ht=>by
   obtain ⟨j,x,h1,h2,h3⟩:=hf (i+1) n (by simpa using hi) t ht;cases j with
   |zero=>omega |succ j=>exact ⟨j,x,by omega,by simpa using h2,h3⟩)
  have tail:∀t∈next a,(Iw key next full l (key t)=aF↔Tf next full t):=fun t ht=>by
   obtain ⟨j,x,h1,h2,h3⟩:=hf 0 a rfl t ht;cases j with
   |zero=>omega |succ j=>
    have hx:x∈l:=bP (by simpa using h2);have e:x=t:=hk x t (hq x (dB _ hx)) (hQ a (hq a cO) t ht) h3;rw[<-e];exact ih x hx
  by_cases e:key a=key n
  ·have:a=n:=hk a n (hq a cO) (hq n hn) e
   subst this;unfold Iw;rw[if_pos rfl,nJ,List.any_eq_true];constructor
   ·rintro (h|⟨t,ht,h⟩)
    ·exact .here h
    ·exact .step ht ((tail t ht).1 h)
   ·intro h
    cases h with
    |here h=>exact .inl h |step ht h=>exact .inr ⟨_,ht,(tail _ ht).2 h⟩
  ·unfold Iw
   rw[if_neg e];rcases ig.1 hn with rfl|hn
   ·exact (e rfl).elim
   ·exact ih n hn
theorem behind{m f:Nat}{rk:α->Nat}{Q:α->Prop}{a r:List α}(hQ:∀n,Q n->∀t∈next n,Q t)(hk:∀x y,Q x->Q y->key x=key y->x=y)(hr:∀n,∀t∈next n,rk t=rk n+1)
  (h:MN key next m f a 0=ay r) (hl:r.length<f) (ha:∀x∈a,Q x) (h1:a.length<=1):∀(i:Nat) n,r[i]?=ay n->∀t∈next n,∃(j:Nat) (x:α),i<j/\r[j]?=ay x/\key x=key t:=by
 have hq:=PN hQ h ha;have hc:=Td h (by omega) (fun j n hj=>by omega);have hs:=ahI hr h (fun n hn=>⟨by
   match a,h1 with
   |[],_=>exact qm |[x],_=>exact lN _ _,fun x hx=>by
   match a,h1,hn,hx with
   |[y],_,hn,hx=>
    obtain rfl:x=y:=by simpa using hx
    have hn:x=n:=by simpa using hn
    subst hn;omega⟩) (by
   match a,h1 with
   |[],_=>exact qm |[x],_=>exact lN _ _)
 intro i n hi t ht;obtain ⟨x,hx,e⟩:=J6.1 (hc n (bP hi) t ht);obtain ⟨j,hj,ej⟩:=mV.1 hx;have hxt:x=t:=hk x t (hq x hx) (hQ n (hq n (bP hi)) t ht) e;refine ⟨j,x,?_,by rw[aS hj,ej],e⟩;have hrk:=hr n t ht;obtain ⟨q1,e1⟩:=aQ.1 hi;refine nO fun hn=>?_
 rcases pK j i with q|q
 ·have:=jE.1 hs j i hj q1 q
  rw[ej,e1,hxt] at this;omega
 ·obtain rfl:j=i:=by omega
  rw[e1] at ej;rw[ej,hxt] at hrk;omega
end
end Go.Bf
namespace Go.Gm
open Go.Bf
structure Nd(S:Type)where
 placed:Nat
 st:S
structure Game(S:Type)where
 n:Nat
 id:Nat->Int
 com:Nat->Bool
 YD:Nat->Bool
 mask:Nat->Nat
 run:S->Nat->Option S
 all:Bool
section
variable{S:Type}(g:Game S)
def may(p i:Nat):Bool:=!p.testBit i&&(aY g.n).all fun j=>!(g.mask i).testBit j||p.testBit j
def GI(nd:Nd S)(i:Nat):List ((Int×Bool)×Nd S):=
 if may g nd.placed i=aF then
  (match g.com i,g.run nd.st i with
   |true,ay s=>[((g.id i,aF),⟨nd.placed|||1<<<i,s⟩)] |_,_=>[]) ++
  (if g.YD i=aF/\(g.all=aF->(g.run nd.st i).isSome=aF) then [((g.id i,aA),⟨nd.placed|||1<<<i,nd.st⟩)] else [])
 else []
def turns(nd:Nd S):List ((Int×Bool)×Nd S):=(aY g.n).flatMap (GI g nd)
def next(nd:Nd S):List (Nd S):=(turns g nd).map (·.2)
def rk(nd:Nd S):Nat:=(aY g.n).countP fun i=>nd.placed.testBit i
def full(nd:Nd S):Bool:=decide (nd.placed=2^g.n - 1)
variable{g}
theorem ar1(p i j:Nat):(p|||1<<<i).testBit j=(p.testBit j||decide (i=j)):=by
 rw[Nat.testBit_or,mO,iI,Nat.testBit_two_pow]
theorem Ua{nd:Nd S}{i:Nat}{t:(Int×Bool)×Nd S}(h:t∈GI g nd i):nd.placed.testBit i=aA/\t.1.1=g.id i/\t.2.placed=nd.placed|||1<<<i:=by
 unfold GI at h;split at h
 ·rename_i hm
  have hb:nd.placed.testBit i=aA:=by
   unfold may at hm;rw[aJ] at hm;simpa using hm.1
  rcases bK.1 h with h|h
  ·split at h
   ·obtain rfl:t=_:=by simpa using h
    exact ⟨hb,rfl,rfl⟩
   ·cases h
  ·split at h
   ·obtain rfl:t=_:=by simpa using h
    exact ⟨hb,rfl,rfl⟩
   ·cases h
 ·cases h
theorem Zx{p:Nat->Bool}{i:Nat}:∀n,i<n->p i=aA->(aY n).countP (fun j=>p j||decide (i=j))=(aY n).countP p+1
 |0,h,_=>by omega |n+1,h,hp=>by
  rw[qG,uh,uh];by_cases e:i=n
  ·subst e
   have:(aY i).countP (fun j=>p j||decide (i=j))=(aY i).countP p:=by
    refine List.countP_congr fun j hj=>?_
    have:j<i:=dD.1 hj;have:decide (i=j)=aA:=decide_eq_false (by omega);simp[this]
   rw[this];simp[hp]
  ·have ih:=Zx (p:=p) (i:=i) n (by omega) hp
   rw[ih];have:decide (i=n)=aA:=decide_eq_false e;simp[List.countP_cons,this];omega
theorem Xp{nd:Nd S}:∀t∈next g nd,rk g t=rk g nd+1:=fun t ht=>by
 unfold next turns at ht;obtain ⟨x,hx,rfl⟩:=dL.1 ht;obtain ⟨i,hi,hx⟩:=ji.1 hx;obtain ⟨h1,_,h2⟩:=Ua hx;unfold rk;rw[h2];simp only[ar1];exact Zx g.n (dD.1 hi) h1
theorem lt_next{nd:Nd S}(h:nd.placed<2^g.n):∀t∈next g nd,t.placed<2^g.n:=fun t ht=>by
 unfold next turns at ht;obtain ⟨x,hx,rfl⟩:=dL.1 ht;obtain ⟨i,hi,hx⟩:=ji.1 hx;obtain ⟨_,_,h2⟩:=Ua hx;rw[h2];refine pW h ?_;rw[mO,iI];exact jC (by decide) (dD.1 hi)
theorem aeh{nd:Nd S}(h:nd.placed<2^g.n):full g nd=aF↔∀i,i<g.n->nd.placed.testBit i=aF:=by
 unfold full;rw[decide_eq_true_eq];constructor
 ·intro e i hi
  rw[e,qo];exact decide_eq_true hi
 ·intro e
  refine tH fun i=>?_
  rw[qo];by_cases hi:i<g.n
  ·rw[e i hi,decide_eq_true hi]
  ·rw[decide_eq_false hi]
   exact l7 (jT h (kK (by decide) (by omega)))
theorem ao4{nd:Nd S}(h:nd.placed<2^g.n)(hf:full g nd=aF):rk g nd=g.n:=by
 have:=(aeh h).1 hf;unfold rk;have e:(aY g.n).countP (fun i=>nd.placed.testBit i)=(aY g.n).length:=List.countP_eq_length.2 fun i hi=>this i (dD.1 hi);rw[e,List.length_range]
def least(g:Game S)(ld:Nd S->Bool):Nat->Nd S->List (Int×Bool)
 |0,_=>[] |f+1,nd=>if full g nd=aF then [] else match (turns g nd).find? fun t=>ld t.2 with
  |none=>[] |some t=>t.1::least g ld f t.2
def walk(g:Game S):Nd S->List (Int×Bool)->Option (Nd S)
 |nd,[]=>ay nd |nd,s::l=>match (turns g nd).find? fun t=>t.1==s with
  |none=>aN |some t=>walk g t.2 l
theorem aml(hid:∀i j,i<g.n->j<g.n->g.id i=g.id j->i=j){nd:Nd S}{t t':(Int×Bool)×Nd S}(h:t∈turns g nd)(h':t'∈turns g nd)(e:t.1=t'.1):t=t':=by
 unfold turns at h h';obtain ⟨i,hi,hx⟩:=ji.1 h;obtain ⟨j,hj,hy⟩:=ji.1 h';have e1:=(Ua hx).2.1;have e2:=(Ua hy).2.1;have:i=j:=hid i j (dD.1 hi) (dD.1 hj) (by rw[<-e1,<-e2,e]);subst this;unfold GI at hx hy;split at hx
 ·rename_i hm
  rw[if_pos hm] at hy;rcases bK.1 hx with hx|hx<;>rcases bK.1 hy with hy|hy
  ·split at hx
   ·rename_i s e3 e4
    rw[e3,e4] at hy;simp at hx hy;rw[hx,hy]
   ·cases hx
  ·split at hx
   ·split at hy
    ·simp at hx hy
     rw[hx,hy] at e;cases e
    ·cases hy
   ·cases hx
  ·split at hx
   ·split at hy
    ·simp at hx hy
     rw[hx,hy] at e;cases e
    ·cases hy
   ·cases hx
  ·split at hx
   ·rename_i q
    rw[if_pos q] at hy;simp at hx hy;rw[hx,hy]
   ·cases hx
 ·cases hx
theorem walk_turn(hid:∀i j,i<g.n->j<g.n->g.id i=g.id j->i=j){nd:Nd S}{t:(Int×Bool)×Nd S}(h:t∈turns g nd)(l:List (Int×Bool)):walk g nd (t.1::l)=walk g t.2 l:=by
 rw[walk];cases hf:(turns g nd).find? fun x=>x.1==t.1 with
 |none=>
  have:=uj.1 hf t h;simp at this
 |some x=>
  have h1:=oV hf;have h2:=lg hf;have:x=t:=aml hid h2 h (by simpa using h1);rw[this]
theorem aei:∀(l l':List (Int×Bool)) (nd:Nd S),walk g nd (l++l')=(walk g nd l).bind fun nd'=>walk g nd' l'
 |[],l',nd=>rfl |s::l,l',nd=>by
  rw[List.cons_append,walk,walk];cases (turns g nd).find? fun t=>t.1==s with
  |none=>rfl |some t=>exact aei l l' t.2
theorem ab6{l:List (Int×Bool)}{nd nd':Nd S}(h:walk g nd l=ay nd')(i:Nat):∃m,walk g nd (l.take i)=ay m/\∀s,l[i]?=ay s->∃t∈turns g m,t.1=s:=by
 have e:=aei (g:=g) (l.take i) (l.drop i) nd;rw[List.take_append_drop,h] at e;cases hm:walk g nd (l.take i) with
 |none=>rw[hm] at e;cases e |some m=>
  rw[hm] at e;refine ⟨m,rfl,fun s hs=>?_⟩;obtain ⟨hi,hs⟩:=aQ.1 hs;have e:ay nd'=walk g m (l.drop i):=e;rw[List.drop_eq_getElem_cons hi,hs,walk] at e;cases hf:(turns g m).find? fun t=>t.1==s with
  |none=>rw[hf] at e;cases e |some t=>
   have h1:=oV hf;exact ⟨t,lg hf,by simpa using h1⟩
theorem ab7{nd:Nd S}(h:Tf (next g) (full g) nd)(hn:full g nd=aA):∃t∈turns g nd,Tf (next g) (full g) t.2:=by
 cases h with
 |here h=>rw[hn] at h;cases h |step ht h=>
  obtain ⟨t,q,rfl⟩:=dL.1 ht;exact ⟨t,q,h⟩
theorem aej(hid:∀i j,i<g.n->j<g.n->g.id i=g.id j->i=j){ld:Nd S->Bool}{P:Nd S->Prop}(hP:∀nd,P nd->∀t∈next g nd,P t)(hl:∀nd,P nd->(ld nd=aF↔Tf (next g) (full g) nd)):
  ∀(f:Nat) (nd:Nd S),P nd->nd.placed<2^g.n->Tf (next g) (full g) nd->g.n<rk g nd+f->∃nd',walk g nd (least g ld f nd)=ay nd'/\full g nd'=aF/\nd'.placed<2^g.n/\(least g ld f nd).length+rk g nd=g.n
 |0,nd,hp,hlt,he,hf=>by
  have:rk g nd<=g.n:=by
   unfold rk;have:=List.countP_le_length (p:=fun i=>nd.placed.testBit i) (l:=aY g.n);simpa using this
  omega
 |f+1,nd,hp,hlt,he,hf=>by
  cases hfull:full g nd with
  |true=>
   have e:least g ld (f+1) nd=[]:=by rw[least,if_pos hfull]
   rw[e];exact ⟨nd,rfl,hfull,hlt,by simpa using ao4 hlt hfull⟩
  |false=>
   obtain ⟨t,ht,hte⟩:=ab7 he hfull;have hld:ld t.2=aF:=(hl t.2 (hP nd hp t.2 (dL.2 ⟨t,ht,rfl⟩))).2 hte;cases hx:(turns g nd).find? fun t=>ld t.2 with
   |none=>
    have:=uj.1 hx t ht;exact (this hld).elim
   |some x=>
    have h1:=oV hx;have h2:=lg hx;have hn:x.2∈next g nd:=dL.2 ⟨x,h2,rfl⟩;have hpx:=hP nd hp _ hn;have hr:=Xp _ hn;have e:least g ld (f+1) nd=x.1::least g ld f x.2:=by rw[least,if_neg (by rw[hfull];simp),hx]
    obtain ⟨nd',q1,q2,q3,q4⟩:=aej hid hP hl f x.2 hpx (lt_next hlt _ hn) ((hl _ hpx).1 h1) (by omega);rw[e];exact ⟨nd',by rw[walk_turn hid h2];exact q1,q2,q3,by simp;omega⟩
end
open Go.Bf
section
variable{S κ:Type}[DecidableEq κ](g:Game S)(key:Nd S->κ)
def start(s:S):Nd S:=⟨0,s⟩
def EU(s:S)(m:Nat):Option (List (Nd S)):=MN key (next g) m (m+1) [start s] 0
def Ti(r:List (Nd S))(nd:Nd S):Bool:=Iw key (next g) (full g) r (key nd)
def PO(s:S)(r:List (Nd S)):Bool:=Ti g key r (start s)
def Gs(s:S)(r:List (Nd S)):List (Int×Bool):=if PO g key s r=aF then least g (Ti g key r) (g.n+1) (start s) else []
variable{g key}
theorem Vq{s:S}{m:Nat}(hm:1<=m){r:List (Nd S)}(h:EU g key s m=ay r):1<=r.length/\r.length<=m:=by
 obtain ⟨t,e,hl⟩:=ab3 h;exact ⟨by rw[e];simp,hl (by simpa using hm)⟩
theorem afw{s:S}{m:Nat}(hm:1<=m){r:List (Nd S)}(h:EU g key s m=ay r){Q:Nd S->Prop}(hQ:∀n,Q n->∀t∈next g n,Q t)(hk:∀x y,Q x->Q y->key x=key y->x=y)(hs:Q (start s)):
  ∀n∈r,(Ti g key r n=aF↔Tf (next g) (full g) n):=by
 have hl:=(Vq hm h).2;have ha:∀x∈[start s],Q x:=fun x hx=>by
  obtain rfl:x=start s:=by simpa using hx
  exact hs
 exact ab5 hQ hk (PN hQ h ha) (ab4 h (by simp)) (behind hQ hk (fun n t ht=>Xp t ht) h (by omega) ha (by simp))
theorem YE{s:S}{m:Nat}{r:List (Nd S)}(h:EU g key s m=ay r):start s∈r:=by
 obtain ⟨t,e,_⟩:=ab3 h;rw[e];simp
theorem start_lt(s:S):(start s).placed<2^g.n:=Nat.pos_of_ne_zero (by simp)
theorem aek{s:S}{m:Nat}(hm:1<=m){r:List (Nd S)}(h:EU g key s m=ay r){Q:Nd S->Prop}(hQ:∀n,Q n->∀t∈next g n,Q t)(hk:∀x y,Q x->Q y->key x=key y->x=y)(hs:Q (start s)):∀n∈r,∀t∈next g n,t∈r:=by
 have hl:=(Vq hm h).2;have ha:∀x∈[start s],Q x:=fun x hx=>by
  obtain rfl:x=start s:=by simpa using hx
  exact hs
 have hq:=PN hQ h ha;have hc:=Td h (by omega) (fun j n hj=>by omega);intro n hn t ht;obtain ⟨x,hx,e⟩:=J6.1 (hc n hn t ht);rw[<-hk x t (hq x hx) (hQ n (hq n hn) t ht) e];exact hx
theorem ao5{s:S}{m:Nat}(hm:1<=m){r:List (Nd S)}(h:EU g key s m=ay r){Q:Nd S->Prop}(hQ:∀n,Q n->∀t∈next g n,Q t)(hk:∀x y,Q x->Q y->key x=key y->x=y)(hs:Q (start s)):PO g key s r=aF↔Tf (next g) (full g) (start s):=
 afw hm h hQ hk hs _ (YE h)
theorem amm(hid:∀i j,i<g.n->j<g.n->g.id i=g.id j->i=j){s:S}{m:Nat}(hm:1<=m){r:List (Nd S)}(h:EU g key s m=ay r){Q:Nd S->Prop}(hQ:∀n,Q n->∀t∈next g n,Q t)(hk:∀x y,Q x->Q y->key x=key y->x=y)(hs:Q (start s))(hy:PO g key s r=aF):
  ∃nd',walk g (start s) (Gs g key s r)=ay nd'/\full g nd'=aF/\nd'.placed<2^g.n/\(Gs g key s r).length=g.n:=by
 have e:Gs g key s r=least g (Ti g key r) (g.n+1) (start s):=if_pos hy;rw[e];have h0:rk g (start s)=0:=by
  unfold rk start;rw[List.countP_eq_zero];intro i _;simp
 obtain ⟨nd',q1,q2,q3,q4⟩:=aej (g:=g) hid (P:=fun nd=>nd∈r) (ld:=Ti g key r) (fun nd hn t ht=>aek hm h hQ hk hs nd hn t ht) (fun nd hn=>afw hm h hQ hk hs nd hn) (g.n+1) (start s) (YE h) (start_lt s) ((ao5 hm h hQ hk hs).1 hy) (by omega);exact ⟨nd',q1,q2,q3,by omega⟩
end
end Go.Gm
namespace Go.Pl
open Go Go.Sx
theorem KN(p:Nat):gu 64 (p:Int)=BitVec.ofNat 64 p:=BitVec.ofInt_natCast 64 p
theorem PS{p:Nat}(h:p<2^63):aW.wrap (p:Int)=(p:Int):=CO (by omega) (by omega)
theorem ala{p q n:Nat}(h:p<2^n):p&&&q<2^n:=uP Nat.and_le_left h
theorem ao6{p q:Nat}(hp:p<2^63)(hq:q<2^63):Aw.bin .and .i64 (p:Int) (q:Int)=((p&&&q:Nat):Int):=by
 show aW.wrap ((gu 64 (p:Int)&&&gu 64 (q:Int)).toNat:Int)=_;rw[KN,KN,um,je,je,iG (by omega),iG (by omega)];exact PS (ala hp)
theorem ar2{p q:Nat}(hp:p<2^63)(hq:q<2^63):Aw.bin .or .i64 (p:Int) (q:Int)=((p|||q:Nat):Int):=by
 show aW.wrap ((gu 64 (p:Int)|||gu 64 (q:Int)).toNat:Int)=_;rw[KN,KN,BitVec.toNat_or,je,je,iG (by omega),iG (by omega)];exact PS (pW hp hq)
theorem ahJ{p q:Nat}(hp:p<2^63)(hq:q<2^63):Aw.bin .andNot .i64 (p:Int) (q:Int)=((p&&&(2^64 - 1 - q):Nat):Int):=by
 show aW.wrap ((gu 64 (p:Int)&&&~~~ gu 64 (q:Int)).toNat:Int)=_;rw[KN,KN,um,BitVec.toNat_not,je,je,iG (by omega),iG (by omega)];exact PS (ala hp)
theorem ahK{i:Nat}(h:i<63):Aw.bin .shl .i64 (ah 1) (i:Int)=((2^i:Nat):Int):=by
 show aW.wrap ((1:Int)*2^(min (i:Int).toNat 64))=_;rw[fK,qV (by omega),Int.one_mul];have:((2:Int)^i)=((2^i:Nat):Int):=by push_cast;rfl
 rw[this];exact PS (jC (by decide) h)
theorem ao7{p i:Nat}(h:i<=64):Aw.bin .shr .i64 (p:Int) (i:Int)=((p>>>i:Nat):Int):=by
 show Int.fdiv (p:Int) (2^(min (i:Int).toNat 64))=_;rw[fK,qV h];have:((2:Int)^i)=((2^i:Nat):Int):=by push_cast;rfl
 rw[this,Int.fdiv_eq_ediv_of_nonneg _ (Int.natCast_nonneg _),<-Int.natCast_ediv,qP]
theorem ar4(p i:Nat):p>>>i<=p:=by rw[qP];exact Nat.div_le_self _ _
theorem ar5{p i:Nat}(hp:p<2^63)(hi:i<=64):Aw.eq (Aw.bin .and .i64 (Aw.bin .shr .i64 (p:Int) (i:Int)) (ah 1)) (ah 1)=p.testBit i:=by
 rw[ao7 hi];have h:=ao6 (p:=p>>>i) (q:=1) (uP (ar4 p i) hp) (by decide);have h:Aw.bin .and .i64 ((p>>>i:Nat):Int) (ah 1)=((p>>>i&&&1:Nat):Int):=h;rw[h,Bd];unfold Nat.testBit;rw[zB];have h1:1&&&p>>>i=p>>>i % 2:=by rw[zB];exact Nat.and_one_is_mod _
 rw[h1];rcases Nat.mod_two_eq_zero_or_one (p>>>i) with e|e<;>rw[e]<;>rfl
theorem amn{m p N:Nat}(hm:m<2^N)(hN:N<=62)(hp:p<2^63):Aw.nt (Aw.eq (Aw.bin .andNot .i64 (m:Int) (p:Int)) (ah 0))=!((aY N).all fun j=>!m.testBit j||p.testBit j):=by
 have hm':m<2^63:=jT hm (kK (by decide) (by omega));rw[ahJ hm' hp,CU,Bd];congr 1;have key:∀j,(m&&&(2^64 - 1 - p)).testBit j=(m.testBit j && !p.testBit j):=fun j=>by
  rw[Nat.testBit_and];by_cases hj:j<N
  ·rw[show 2^64 - 1 - p=2^64 - (p+1) by omega,Nat.testBit_two_pow_sub_succ (by omega),decide_eq_true (by omega:j<64)];rfl
  ·have:m.testBit j=aA:=l7 (jT hm (kK (by decide) (by omega)))
   rw[this];rfl
 cases ha:(aY N).all fun j=>!m.testBit j||p.testBit j with
 |true=>
  rw[dN] at ha;have:m&&&(2^64 - 1 - p)=0:=tH fun j=>by
   rw[key,wM];by_cases hj:j<N
   ·have:=ha j (dD.2 hj)
    revert this;cases m.testBit j<;>cases p.testBit j<;>simp
   ·have:m.testBit j=aA:=l7 (jT hm (kK (by decide) (by omega)))
    rw[this];rfl
  rw[this];rfl
 |false=>
  have:m&&&(2^64 - 1 - p)≠0:=fun e=>by
   have:((aY N).all fun j=>!m.testBit j||p.testBit j)=aF:=by
    rw[dN];intro j hj;have:=key j;rw[e,wM] at this;revert this;cases m.testBit j<;>cases p.testBit j<;>simp
   rw[this] at ha;cases ha
  have h2:(((m&&&(2^64 - 1 - p):Nat):Int)==ah 0)=aA:=by
   rw[beq_eq_false_iff_ne];intro e;exact this (kZ e)
  exact h2
theorem or_eq{p i:Nat}(hp:p<2^63)(hi:i<63):Aw.bin .or .i64 (p:Int) (Aw.bin .shl .i64 (ah 1) (i:Int))=((p|||1<<<i:Nat):Int):=by
 rw[ahK hi,ar2 hp (jC (by decide) hi),mO,iI]
theorem ao8{N:Nat}(hN:N<=62):Aw.sub .i64 (Aw.bin .shl .i64 (ah 1) (N:Int)) (ah 1)=((2^N - 1:Nat):Int):=by
 rw[ahK (by omega),MZ];have h1:1<=2^N:=Nat.one_le_two_pow;have h2:2^N<2^63:=jC (by decide) (by omega);have:((2^N:Nat):Int) - ah 1=((2^N - 1:Nat):Int):=by
  rw[Int.natCast_sub h1];rfl
 rw[this];exact PS (by omega)
open Go Go.Sx Go.Proofs Go.Gm
noncomputable def Ur(lv:Int)(N:Nat)(T:Nat->En)(mk:Nat->Int)(n:Nat):Game (Nat->List Sh) where
 n:=N
 id i:=(T i).id
 com i:=(T i).st==3||(T i).st==2
 YD i:=!((T i).st==3)
 mask i:=(mk i).toNat
 run g i:=if plO n g (T i).k (T i).g=aF then ay (Uo n g (T i).k (T i).g) else aN
 all:=lv==3
def G9(n:Nat)(t:(Int×Bool)×Nd (Nat->List Sh)):JK:=⟨t.1.1,t.1.2,(t.2.placed:Nat),n,t.2.st⟩
structure TuP(lv:Int)(N:Nat)(T:Nat->En)(N':Nat)(mk:Nat->Int)(p:Int)(n:Nat)(g:Nat->List Sh):Prop where
 le:N<=62
 eq:N=N'
 pos:0<=p
 lt:p<2^62
 mpos:∀i,i<N->0<=mk i
 mlt:∀i,i<N->(mk i).toNat<2^N
 fit:∀i,i<N->may (Ur lv N T mk n) p.toNat i=aF->plN n g (T i).k (T i).g=aF
noncomputable def tuL(lv:Int)(N:Nat)(T:Nat->En)(mk:Nat->Int)(p:Int)(n:Nat)(g:Nat->List Sh):List JK:=(turns (Ur lv N T mk n) ⟨p.toNat,g⟩).map (G9 n)
noncomputable def tuB(lv:Int)(N:Nat)(T':Nat->List Sh)(N':Nat)(mk':Nat->List Sh)(p:Int)(st n:Nat)(g:Nat->List Sh):Bool:=
 okB En N T'&&(okB Int N' mk'&&((fC st 4||fC n 0)&&@decide (TuP lv N (AB T') N' (AB mk') p n g) (bG _)))
noncomputable def OV(lv:Int)(N:Nat)(T':Nat->List Sh)(mk':Nat->List Sh)(p:Int)(n:Nat)(g:Nat->List Sh):Nat:=(tuL lv N (AB T') (AB mk') p n g).length
noncomputable def Z5(lv:Int)(N:Nat)(T':Nat->List Sh)(mk':Nat->List Sh)(p:Int)(n:Nat)(g:Nat->List Sh):Nat->JK:=nth (tuL lv N (AB T') (AB mk') p n g)
theorem H6{α:Type}[Row α](o:Nat->α):AB (Az o)=o:=funext fun i=>NP o i
end Go.Pl
namespace Go.Proofs
open Go Go.Sx Go.Pl Go.Gm
noncomputable def D41:List Sh->Tree Sh
 |[.pt [.i .i64 lv,s1,s2,s3],.agg [t,.sl st n g]]=>match Ej 7 s1,Ej 1 s2,Ej 4 s3,BH t with
  |some (N,T'),ay (N',mk'),ay _,ay p=>.need (tuB lv N T' N' mk' p st n g) (.leaf (.sl 4 (OV lv N T' mk' p n g) (Az (Z5 lv N T' mk' p n g)))) |_,_,_,_=>.fail
 |_=>.fail
open Go Go.Sx Go.Pl
theorem ajE(A:Prim)(W:Wd)(lv:Int)(N:Nat)(T:Nat->En)(N':Nat)(mk:Nat->Int)(k0:Nat)(g0:Nat->List Sh)(p:Int)(n:Nat)(g:Nat->List Sh)(m:Nat)(R:Nat->JK)(i':Int){ψ:Eo->Prop}(y1:ψ (bJ 0 [aK 1 1,bF (fun (x:Nat)=>CG lv N T N' mk k0 g0) fun (x:Nat)=>CG lv N T N' mk k0 g0,aK 0 0,aP (aH 7 N (Az T)) (aH 7 N (Az T)),ak (A.Bl N) (ah N),ak (ah 0) i',ak p p,aP (aH 4 n g) (aH 4 n g),aK m 0])):CZ ψ (BA (C7 A W Ot Bc) BN 300 400 41 [.code []] (AL 104 [.pt (CG lv N T N' mk k0 g0),.agg [.i .i64 p,.sl 4 n g]] L0) [] [⟨41,Xo,Zv lv N T N' mk k0 g0 p n g m R i',[]⟩]):=by
 exact FK y1 (by kernel_rfl)
theorem ab9(A:Prim)(W:Wd)(lv:Int)(N:Nat)(T:Nat->En)(N':Nat)(mk:Nat->Int)(k0:Nat)(g0:Nat->List Sh)(p:Int)(n:Nat)(g:Nat->List Sh)(m m':Nat)(R R':Nat->JK)(i i':Int){ψ:Eo->Prop}{c0 c1 c2 c3 c4 c5 c6 c7:Bool}(e0:A.lt i (ah N)=c0)(e1:A.eq (A.bin BinOp.and aW (A.bin BinOp.shr aW p i) (ah 1)) (ah 1)=c1)(e2:A.nt (A.eq (A.bin BinOp.andNot aW (mk (A.toN i)) p) (ah 0))=c2)(e3:plO n g (T (A.toN i)).k (T (A.toN i)).g=c3)(e4:A.eq (T (A.toN i)).st (ah 3)=c4)(e5:A.nt (A.eq (T (A.toN i)).st (ah 3))=c5)(e6:A.nt (A.eq lv (ah 3))=c6)(e7:A.eq (T (A.toN i)).st (ah 2)=c7)(h1:c0=aF->(A.inB i N)=aF)(h2:c0=aF->(A.le (ah 0) i)=aF)(h3:c0=aF->c1=aA->(A.inB i N')=aF)(h4:c0=aF->c1=aA->c2=aA->(plN n g (T (A.toN i)).k (T (A.toN i)).g)=aF)(h5:c0=aF->c1=aA->c2=aA->c3=aF->c4=aF->(A.room (A.addN m 1) 48)=aF)(h6:c0=aF->c1=aA->c2=aA->c3=aF->c4=aF->c5=aF->c6=aF->(A.room (A.addN (A.addN m 1) 1) 48)=aF)(h7:c0=aF->c1=aA->c2=aA->c3=aF->c4=aF->c5=aF->c6=aA->(A.room (A.addN (A.addN m 1) 1) 48)=aF)(h8:c0=aF->c1=aA->c2=aA->c3=aF->c4=aA->c7=aF->(A.room (A.addN m 1) 48)=aF)(h9:c0=aF->c1=aA->c2=aA->c3=aF->c4=aA->c7=aF->c5=aF->c6=aF->(A.room (A.addN (A.addN m 1) 1) 48)=aF)(h10:c0=aF->c1=aA->c2=aA->c3=aF->c4=aA->c7=aF->c5=aF->c6=aA->(A.room (A.addN (A.addN m 1) 1) 48)=aF)(h11:c0=aF->c1=aA->c2=aA->c3=aF->c4=aA->c7=aA->c5=aF->c6=aF->(A.room (A.addN m 1) 48)=aF)(h12:c0=aF->c1=aA->c2=aA->c3=aF->c4=aA->c7=aA->c5=aF->c6=aA->(A.room (A.addN m 1) 48)=aF)(h13:c0=aF->c1=aA->c2=aA->c3=aA->c4=aF->c5=aF->c6=aF->(A.room (A.addN m 1) 48)=aF)(h14:c0=aF->c1=aA->c2=aA->c3=aA->c4=aA->c7=aF->c5=aF->c6=aF->(A.room (A.addN m 1) 48)=aF)(h15:c0=aF->c1=aA->c2=aA->c3=aA->c4=aA->c7=aA->c5=aF->c6=aF->(A.room (A.addN m 1) 48)=aF)(y1:c0=aF->c1=aF->ψ (bJ 0 [aK 1 1,bF (fun (x:Nat)=>CG lv N T N' mk k0 g0) fun (x:Nat)=>CG lv N T N' mk k0 g0,aK 0 0,aP (aH 7 N (Az T)) (aH 7 N (Az T)),ak (ah N) (ah N),ak (A.add .i64 i (ah 1)) i',ak p p,aP (aH 4 n g) (aH 4 n g),aK m m',aV m (Az R) (Az R')]))(y2:c0=aF->c1=aA->c2=aF->ψ (bJ 0 [aK 1 1,bF (fun (x:Nat)=>CG lv N T N' mk k0 g0) fun (x:Nat)=>CG lv N T N' mk k0 g0,aK 0 0,aP (aH 7 N (Az T)) (aH 7 N (Az T)),ak (ah N) (ah N),ak (A.add .i64 i (ah 1)) i',ak p p,aP (aH 4 n g) (aH 4 n g),aK m m',aV m (Az R) (Az R')]))(y3:c0=aF->c1=aA->c2=aA->c3=aF->c4=aF->c5=aF->c6=aF->ψ (bJ 0 [aK 1 1,bF (fun (x:Nat)=>CG lv N T N' mk k0 g0) fun (x:Nat)=>CG lv N T N' mk k0 g0,aK 0 0,aP (aH 7 N (Az T)) (aH 7 N (Az T)),ak (ah N) (ah N),ak (A.add .i64 i (ah 1)) i',ak p p,aP (aH 4 n g) (aH 4 n g),aK (A.addN (A.addN m 1) 1) m',aV (A.addN (A.addN m 1) 1) (A.snoc (A.snoc (Az R) m (BD [[aZ .i64 (T (A.toN i)).id,gq aF,aZ .i64 (A.bin iW aW p (A.bin iC aW (ah 1) i)),aH 4 n (Uo n g (T (A.toN i)).k (T (A.toN i)).g)]])) (A.addN m 1) (BD [[aZ .i64 (T (A.toN i)).id,gq aA,aZ .i64 (A.bin iW aW p (A.bin iC aW (ah 1) i)),aH 4 n g]])) (Az R')]))(y4:c0=aF->c1=aA->c2=aA->c3=aF->c4=aF->c5=aF->c6=aA->ψ (bJ 0 [aK 1 1,bF (fun (x:Nat)=>CG lv N T N' mk k0 g0) fun (x:Nat)=>CG lv N T N' mk k0 g0,aK 0 0,aP (aH 7 N (Az T)) (aH 7 N (Az T)),ak (ah N) (ah N),ak (A.add .i64 i (ah 1)) i',ak p p,aP (aH 4 n g) (aH 4 n g),aK (A.addN (A.addN m 1) 1) m',aV (A.addN (A.addN m 1) 1) (A.snoc (A.snoc (Az R) m (BD [[aZ .i64 (T (A.toN i)).id,gq aF,aZ .i64 (A.bin iW aW p (A.bin iC aW (ah 1) i)),aH 4 n (Uo n g (T (A.toN i)).k (T (A.toN i)).g)]])) (A.addN m 1) (BD [[aZ .i64 (T (A.toN i)).id,gq aA,aZ .i64 (A.bin iW aW p (A.bin iC aW (ah 1) i)),aH 4 n g]])) (Az R')]))(y5:c0=aF->c1=aA->c2=aA->c3=aF->c4=aF->c5=aA->ψ (bJ 0 [aK 1 1,bF (fun (x:Nat)=>CG lv N T N' mk k0 g0) fun (x:Nat)=>CG lv N T N' mk k0 g0,aK 0 0,aP (aH 7 N (Az T)) (aH 7 N (Az T)),ak (ah N) (ah N),ak (A.add .i64 i (ah 1)) i',ak p p,aP (aH 4 n g) (aH 4 n g),aK (A.addN m 1) m',aV (A.addN m 1) (A.snoc (Az R) m (BD [[aZ .i64 (T (A.toN i)).id,gq aF,aZ .i64 (A.bin iW aW p (A.bin iC aW (ah 1) i)),aH 4 n (Uo n g (T (A.toN i)).k (T (A.toN i)).g)]])) (Az R')]))(y6:c0=aF->c1=aA->c2=aA->c3=aF->c4=aA->c7=aF->c5=aF->c6=aF->ψ (bJ 0 [aK 1 1,bF (fun (x:Nat)=>CG lv N T N' mk k0 g0) fun (x:Nat)=>CG lv N T N' mk k0 g0,aK 0 0,aP (aH 7 N (Az T)) (aH 7 N (Az T)),ak (ah N) (ah N),ak (A.add .i64 i (ah 1)) i',ak p p,aP (aH 4 n g) (aH 4 n g),aK (A.addN (A.addN m 1) 1) m',aV (A.addN (A.addN m 1) 1) (A.snoc (A.snoc (Az R) m (BD [[aZ .i64 (T (A.toN i)).id,gq aF,aZ .i64 (A.bin iW aW p (A.bin iC aW (ah 1) i)),aH 4 n (Uo n g (T (A.toN i)).k (T (A.toN i)).g)]])) (A.addN m 1) (BD [[aZ .i64 (T (A.toN i)).id,gq aA,aZ .i64 (A.bin iW aW p (A.bin iC aW (ah 1) i)),aH 4 n g]])) (Az R')]))(y7:c0=aF->c1=aA->c2=aA->c3=aF->c4=aA->c7=aF->c5=aF->c6=aA->ψ (bJ 0 [aK 1 1,bF (fun (x:Nat)=>CG lv N T N' mk k0 g0) fun (x:Nat)=>CG lv N T N' mk k0 g0,aK 0 0,aP (aH 7 N (Az T)) (aH 7 N (Az T)),ak (ah N) (ah N),ak (A.add .i64 i (ah 1)) i',ak p p,aP (aH 4 n g) (aH 4 n g),aK (A.addN (A.addN m 1) 1) m',aV (A.addN (A.addN m 1) 1) (A.snoc (A.snoc (Az R) m (BD [[aZ .i64 (T (A.toN i)).id,gq aF,aZ .i64 (A.bin iW aW p (A.bin iC aW (ah 1) i)),aH 4 n (Uo n g (T (A.toN i)).k (T (A.toN i)).g)]])) (A.addN m 1) (BD [[aZ .i64 (T (A.toN i)).id,gq aA,aZ .i64 (A.bin iW aW p (A.bin iC aW (ah 1) i)),aH 4 n g]])) (Az R')]))(y8:c0=aF->c1=aA->c2=aA->c3=aF->c4=aA->c7=aF->c5=aA->ψ (bJ 0 [aK 1 1,bF (fun (x:Nat)=>CG lv N T N' mk k0 g0) fun (x:Nat)=>CG lv N T N' mk k0 g0,aK 0 0,aP (aH 7 N (Az T)) (aH 7 N (Az T)),ak (ah N) (ah N),ak (A.add .i64 i (ah 1)) i',ak p p,aP (aH 4 n g) (aH 4 n g),aK (A.addN m 1) m',aV (A.addN m 1) (A.snoc (Az R) m (BD [[aZ .i64 (T (A.toN i)).id,gq aF,aZ .i64 (A.bin iW aW p (A.bin iC aW (ah 1) i)),aH 4 n (Uo n g (T (A.toN i)).k (T (A.toN i)).g)]])) (Az R')]))(y9:c0=aF->c1=aA->c2=aA->c3=aF->c4=aA->c7=aA->c5=aF->c6=aF->ψ (bJ 0 [aK 1 1,bF (fun (x:Nat)=>CG lv N T N' mk k0 g0) fun (x:Nat)=>CG lv N T N' mk k0 g0,aK 0 0,aP (aH 7 N (Az T)) (aH 7 N (Az T)),ak (ah N) (ah N),ak (A.add .i64 i (ah 1)) i',ak p p,aP (aH 4 n g) (aH 4 n g),aK (A.addN m 1) m',aV (A.addN m 1) (A.snoc (Az R) m (BD [[aZ .i64 (T (A.toN i)).id,gq aA,aZ .i64 (A.bin iW aW p (A.bin iC aW (ah 1) i)),aH 4 n g]])) (Az R')]))(y10:c0=aF->c1=aA->c2=aA->c3=aF->c4=aA->c7=aA->c5=aF->c6=aA->ψ (bJ 0 [aK 1 1,bF (fun (x:Nat)=>CG lv N T N' mk k0 g0) fun (x:Nat)=>CG lv N T N' mk k0 g0,aK 0 0,aP (aH 7 N (Az T)) (aH 7 N (Az T)),ak (ah N) (ah N),ak (A.add .i64 i (ah 1)) i',ak p p,aP (aH 4 n g) (aH 4 n g),aK (A.addN m 1) m',aV (A.addN m 1) (A.snoc (Az R) m (BD [[aZ .i64 (T (A.toN i)).id,gq aA,aZ .i64 (A.bin iW aW p (A.bin iC aW (ah 1) i)),aH 4 n g]])) (Az R')]))(y11:c0=aF->c1=aA->c2=aA->c3=aF->c4=aA->c7=aA->c5=aA->ψ (bJ 0 [aK 1 1,bF (fun (x:Nat)=>CG lv N T N' mk k0 g0) fun (x:Nat)=>CG lv N T N' mk k0 g0,aK 0 0,aP (aH 7 N (Az T)) (aH 7 N (Az T)),ak (ah N) (ah N),ak (A.add .i64 i (ah 1)) i',ak p p,aP (aH 4 n g) (aH 4 n g),aK m m',aV m (Az R) (Az R')]))(y12:c0=aF->c1=aA->c2=aA->c3=aA->c4=aF->c5=aF->c6=aF->ψ (bJ 0 [aK 1 1,bF (fun (x:Nat)=>CG lv N T N' mk k0 g0) fun (x:Nat)=>CG lv N T N' mk k0 g0,aK 0 0,aP (aH 7 N (Az T)) (aH 7 N (Az T)),ak (ah N) (ah N),ak (A.add .i64 i (ah 1)) i',ak p p,aP (aH 4 n g) (aH 4 n g),aK (A.addN m 1) m',aV (A.addN m 1) (A.snoc (Az R) m (BD [[aZ .i64 (T (A.toN i)).id,gq aA,aZ .i64 (A.bin iW aW p (A.bin iC aW (ah 1) i)),aH 4 n g]])) (Az R')]))(y13:c0=aF->c1=aA->c2=aA->c3=aA->c4=aF->c5=aF->c6=aA->ψ (bJ 0 [aK 1 1,bF (fun (x:Nat)=>CG lv N T N' mk k0 g0) fun (x:Nat)=>CG lv N T N' mk k0 g0,aK 0 0,aP (aH 7 N (Az T)) (aH 7 N (Az T)),ak (ah N) (ah N),ak (A.add .i64 i (ah 1)) i',ak p p,aP (aH 4 n g) (aH 4 n g),aK m m',aV m (Az R) (Az R')]))(y14:c0=aF->c1=aA->c2=aA->c3=aA->c4=aF->c5=aA->ψ (bJ 0 [aK 1 1,bF (fun (x:Nat)=>CG lv N T N' mk k0 g0) fun (x:Nat)=>CG lv N T N' mk k0 g0,aK 0 0,aP (aH 7 N (Az T)) (aH 7 N (Az T)),ak (ah N) (ah N),ak (A.add .i64 i (ah 1)) i',ak p p,aP (aH 4 n g) (aH 4 n g),aK m m',aV m (Az R) (Az R')]))(y15:c0=aF->c1=aA->c2=aA->c3=aA->c4=aA->c7=aF->c5=aF->c6=aF->ψ (bJ 0 [aK 1 1,bF (fun (x:Nat)=>CG lv N T N' mk k0 g0) fun (x:Nat)=>CG lv N T N' mk k0 g0,aK 0 0,aP (aH 7 N (Az T)) (aH 7 N (Az T)),ak (ah N) (ah N),ak (A.add .i64 i (ah 1)) i',ak p p,aP (aH 4 n g) (aH 4 n g),aK (A.addN m 1) m',aV (A.addN m 1) (A.snoc (Az R) m (BD [[aZ .i64 (T (A.toN i)).id,gq aA,aZ .i64 (A.bin iW aW p (A.bin iC aW (ah 1) i)),aH 4 n g]])) (Az R')]))(y16:c0=aF->c1=aA->c2=aA->c3=aA->c4=aA->c7=aF->c5=aF->c6=aA->ψ (bJ 0 [aK 1 1,bF (fun (x:Nat)=>CG lv N T N' mk k0 g0) fun (x:Nat)=>CG lv N T N' mk k0 g0,aK 0 0,aP (aH 7 N (Az T)) (aH 7 N (Az T)),ak (ah N) (ah N),ak (A.add .i64 i (ah 1)) i',ak p p,aP (aH 4 n g) (aH 4 n g),aK m m',aV m (Az R) (Az R')]))(y17:c0=aF->c1=aA->c2=aA->c3=aA->c4=aA->c7=aF->c5=aA->ψ (bJ 0 [aK 1 1,bF (fun (x:Nat)=>CG lv N T N' mk k0 g0) fun (x:Nat)=>CG lv N T N' mk k0 g0,aK 0 0,aP (aH 7 N (Az T)) (aH 7 N (Az T)),ak (ah N) (ah N),ak (A.add .i64 i (ah 1)) i',ak p p,aP (aH 4 n g) (aH 4 n g),aK m m',aV m (Az R) (Az R')]))(y18:c0=aF->c1=aA->c2=aA->c3=aA->c4=aA->c7=aA->c5=aF->c6=aF->ψ (bJ 0 [aK 1 1,bF (fun (x:Nat)=>CG lv N T N' mk k0 g0) fun (x:Nat)=>CG lv N T N' mk k0 g0,aK 0 0,aP (aH 7 N (Az T)) (aH 7 N (Az T)),ak (ah N) (ah N),ak (A.add .i64 i (ah 1)) i',ak p p,aP (aH 4 n g) (aH 4 n g),aK (A.addN m 1) m',aV (A.addN m 1) (A.snoc (Az R) m (BD [[aZ .i64 (T (A.toN i)).id,gq aA,aZ .i64 (A.bin iW aW p (A.bin iC aW (ah 1) i)),aH 4 n g]])) (Az R')]))(y19:c0=aF->c1=aA->c2=aA->c3=aA->c4=aA->c7=aA->c5=aF->c6=aA->ψ (bJ 0 [aK 1 1,bF (fun (x:Nat)=>CG lv N T N' mk k0 g0) fun (x:Nat)=>CG lv N T N' mk k0 g0,aK 0 0,aP (aH 7 N (Az T)) (aH 7 N (Az T)),ak (ah N) (ah N),ak (A.add .i64 i (ah 1)) i',ak p p,aP (aH 4 n g) (aH 4 n g),aK m m',aV m (Az R) (Az R')]))(y20:c0=aF->c1=aA->c2=aA->c3=aA->c4=aA->c7=aA->c5=aA->ψ (bJ 0 [aK 1 1,bF (fun (x:Nat)=>CG lv N T N' mk k0 g0) fun (x:Nat)=>CG lv N T N' mk k0 g0,aK 0 0,aP (aH 7 N (Az T)) (aH 7 N (Az T)),ak (ah N) (ah N),ak (A.add .i64 i (ah 1)) i',ak p p,aP (aH 4 n g) (aH 4 n g),aK m m',aV m (Az R) (Az R')]))(y21:c0=aA->ψ (aU (Sh.os 108 4 m (Az R)))):CZ ψ (BA (C7 A W Ot Bc) BN 300 400 41 ak9 (Zv lv N T N' mk k0 g0 p n g m R i) [] [⟨41,Xo,Zv lv N T N' mk k0 g0 p n g m' R' i',[]⟩]):=by
 subst e0 e1 e2 e3 e4 e5 e6 e7;exact FK (an (fun q0=>an (h1 q0) (an (h2 q0) (an (y1 q0) (fun q1=>an (h3 q0 q1) (an (y2 q0 q1) (fun q2=>an (h4 q0 q1 q2) (an (fun q3=>an (h2 q0) (an (fun q4=>an (h5 q0 q1 q2 q3 q4) (an (fun q5=>an (fun q6=>an (h6 q0 q1 q2 q3 q4 q5 q6) (y3 q0 q1 q2 q3 q4 q5 q6)) (fun q6=>an (h7 q0 q1 q2 q3 q4 q5 q6) (y4 q0 q1 q2 q3 q4 q5 q6))) (y5 q0 q1 q2 q3 q4))) (fun q4=>an (fun q5=>an (h8 q0 q1 q2 q3 q4 q5) (an (fun q6=>an (fun q7=>an (h9 q0 q1 q2 q3 q4 q5 q6 q7) (y6 q0 q1 q2 q3 q4 q5 q6 q7)) (fun q7=>an (h10 q0 q1 q2 q3 q4 q5 q6 q7) (y7 q0 q1 q2 q3 q4 q5 q6 q7))) (y8 q0 q1 q2 q3 q4 q5))) (fun q5=>an (fun q6=>an (fun q7=>an (h11 q0 q1 q2 q3 q4 q5 q6 q7) (y9 q0 q1 q2 q3 q4 q5 q6 q7)) (fun q7=>an (h12 q0 q1 q2 q3 q4 q5 q6 q7) (y10 q0 q1 q2 q3 q4 q5 q6 q7))) (y11 q0 q1 q2 q3 q4 q5))))) (fun q3=>an (h2 q0) (an (fun q4=>an (fun q5=>an (fun q6=>an (h13 q0 q1 q2 q3 q4 q5 q6) (y12 q0 q1 q2 q3 q4 q5 q6)) (y13 q0 q1 q2 q3 q4 q5)) (y14 q0 q1 q2 q3 q4)) (fun q4=>an (fun q5=>an (fun q6=>an (fun q7=>an (h14 q0 q1 q2 q3 q4 q5 q6 q7) (y15 q0 q1 q2 q3 q4 q5 q6 q7)) (y16 q0 q1 q2 q3 q4 q5 q6)) (y17 q0 q1 q2 q3 q4 q5)) (fun q5=>an (fun q6=>an (fun q7=>an (h15 q0 q1 q2 q3 q4 q5 q6 q7) (y18 q0 q1 q2 q3 q4 q5 q6 q7)) (y19 q0 q1 q2 q3 q4 q5 q6)) (y20 q0 q1 q2 q3 q4 q5)))))))))))) y21) (by kernel_rfl)
end Go.Proofs
