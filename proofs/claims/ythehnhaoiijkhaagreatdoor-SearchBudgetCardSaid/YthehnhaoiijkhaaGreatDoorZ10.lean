/- Own work. -/
import Derived.Test.YthehnhaoiijkhaaGreatDoorZ09
open Int (ofNat)
open And renaming intro->bW
open BitVec renaming ofInt->gu,toNat_and->sW,toNat_ofNat->iZ
open Bool renaming true->aC,or_eq_true->nC,and_eq_true->aI,false->ak
open Classical renaming propDecidable->bM,byContradiction->jV
open Go.BinOp renaming or->iU,shl->iq
open Go.Fn renaming yield->oz
open Go.IntKind renaming i64->aN
open Go.Proofs.C7 renaming WI->lS,ok->dw
open Go.Proofs.Tryz renaming prog->aB,f120->zN,f75->rJ,f118->zO,f144->qJ,f92->pJ,f76->rM
open Go.Sx.Bj renaming sh->aQ,val->kR,int->aj,nat->aJ,get->aT,Lp->bC
open Go.Sx.D8 renaming at_->bJ,ret->aP
open Go.Sx.It renaming inBlock->dD,code->bD
open Go.Sx.Sh renaming sl->aG,str->dA,Ak->cZ,agg->bH,i->aW,er->aZ,CS->pK,pt->sU,b->eF
open Go.Sx.Tree renaming leaf->aA,need->aH,node->aF,must->aS
open Go.Value renaming func->lM,nilIface->bI
open Int renaming ofNat->ah,toNat_natCast->fK
open Int.ofNat renaming inj->kU
open List renaming getD_eq_getElem?_getD->aY,getElem?_append_left->dJ,range->aX,all_eq_true->dO,mem_range->dP,getElem_mem->kD,mem_cons->gZ,mem_map->dK,range_succ->qh,map_append->iO,map_congr_left->jO,getElem?_eq_none->jl,mem_append->bK,mem_cons_self->cO,mem_cons_of_mem->dB,mem_of_getElem?->bT,mem_iff_getElem->mF,getElem?_eq_getElem->aV,getElem?_eq_some_iff->aU,pairwise_singleton->lF,pairwise_iff_getElem->jB,countP_append->sV,mem_flatMap->kM
open List.Pairwise renaming nil->pO
open Nat renaming mul_le_mul_right->dQ,lt_or_ge->oW,shiftLeft_eq->l7,one_mul->iF,or_lt_two_pow->pq,pow_lt_pow_right->jy,lt_of_le_of_lt->uq,mod_eq_of_lt->iD,min_eq_left->qE,shiftRight_eq_div_pow->qy,and_comm->yS,lt_of_lt_of_le->lC,pow_le_pow_right->mQ,testBit_lt_two_pow->qY,zero_testBit->vV,beq->fC
open Option renaming some->ay,none->aK
open Option.some renaming inj->dh
namespace Go.Pl
open Go Go.Sx
def ED(s:Cm)(op k v:Int):Cm×Int×Int:=
 if op=1\/op=4 then (s,3,s.num)
 else if op=2 then ({s with num:=v},1,0)
 else if op=3 then ({s with num:=JQ s.num v},1,0)
 else if op=5 then ({s with q:=s.q++[v]},1,0)
 else if op=6 then ({s with q:=s.q.tail},Ug s.q.length,s.q.headD 0)
 else if op=7 then ({s with ps:=ES s.ps k v},1,0)
 else if op=8 then (s,LJ s.ps k,KQ s.ps k)
 else if op=9 then ({s with ps:=FP s.ps k},LJ s.ps k,KQ s.ps k)
 else (s,0,0)
def newT(o:Nat->Oj)(j:Nat):Cm:=⟨(o j).kind,(o j).init,[],[]⟩
def noT:Nat->List Sh:=fun _=>[]
end Go.Pl
namespace Go.Proofs
open Go Go.Sx Go.Pl
theorem ODs:∀g F,GZ g=ay F->Ar aB (AZ W7) g F:=fun g F h=>by
 unfold GZ at h;split at h
 ·cases h;exact O66
 ·cases h;exact O67
 ·cases h;exact O68
 ·cases h;exact O69
 ·cases h;exact O94
 ·cases h;exact O95
 ·cases h;exact O96
 ·cases h;exact O97
 ·cases h;exact O99
 ·cases h;exact avu
 ·cases h;exact avx
 ·cases h;exact avy
 ·cases h
theorem Ui(stop:Nat->List Nat->Bool):BA aB (C7 zW W7 GZ stop):=lS ODs fun g h=>by
 unfold GZ at h;split at h;all_goals first|(cases h;done) |kernel_rfl
def F42:List Sh->Tree Sh
 |[.agg [.i .i64 x,.i .i64 y,s2,s3],t,u,v]=>match DV 1 s2,DV 2 s3,AY t,AY u,AY v with
  |some (a,h),ay (b,l),ay op,ay k,ay v=>.need (okB Int a h) (.need (okB Pr b l) (.need (Bo (a+1) 8) (.node (Gw x op) (.leaf (.Ak [.agg (CY Nr),.i .i64 0,.i .i64 0,.er 8 329])) (.node (Ij x y op k v) (.leaf (.Ak [.agg (CY Nr),.i .i64 0,.i .i64 0,.er 15 329]))
    (.need (J9 op b l) (.leaf (.Ak [.agg (CY (ED ⟨x,y,lst Int a h,lst Pr b l⟩ op k v).1),.i .i64 (ED ⟨x,y,lst Int a h,lst Pr b l⟩ op k v).2.1,.i .i64 (ED ⟨x,y,lst Int a h,lst Pr b l⟩ op k v).2.2,.v .nilIface])))))))
  |_,_,_,_,_=>.fail
 |_=>.fail
theorem aod{α:Type}[Row α](l:List α)(a:α):∀i,i<l.length+1->F6 l.length (zX (nth l)) (Row.put a) i=zX (nth (l++[a])) i:=fun i hi=>by
 unfold F6;split
 ·rename_i h1
  simp only[zX,nth];rw[aY,aY,dJ h1]
 ·have:i=l.length:=by omega
  subst this;simp[zX,nth]
theorem TF{α:Type}[Row α](o:Nat->α):zZ (zX o)=o:=funext fun i=>Nq o i
section
variable{H0:Mem}{w0:World}{φ:Sh->Prop}
theorem avC{x y op k v:Int}{q:List Int}{ps:List Pr}(hr:Bo (q.length+1) 8=aC)(hop:op=1\/op=2\/op=3\/op=4\/op=5\/op=6\/op=7\/op=8\/op=9)(hm:J9 op ps.length (zX (nth ps))=aC)(hkey:En k=aC)
  (hφ:φ (.Ak [.agg (CY (ED ⟨x,y,q,ps⟩ op k v).1),.i .i64 (ED ⟨x,y,q,ps⟩ op k v).2.1,.i .i64 (ED ⟨x,y,q,ps⟩ op k v).2.2,.v .nilIface])) :
  Bd aB (C7 zW W7 GZ Ap) (K0 H0 w0) 120 Nv (L42 x y q.length ps.length (zX (nth q)) (zX (nth ps)) op k v) [] emp (up φ):=by
 have lit (n:Int) (h:Bd aB (C7 zW W7 GZ Ap) (K0 H0 w0) 120 Nv (Uh x y q.length ps.length (zX (nth q)) (zX (nth ps)) n k v) [] emp (up φ)):Bd aB (C7 zW W7 GZ Ap) (K0 H0 w0) 120 Nv (L42 x y q.length ps.length (zX (nth q)) (zX (nth ps)) n k v) [] emp (up φ):=
  alA _ (fun H E vs hd=>agV 1 rfl hd) h
 have fin (s':Cm) (r g:Int) (e:ED ⟨x,y,q,ps⟩ op k v=(s',r,g)) (c:List Sh) (hc:NG c (CY s')):up φ (.Ak [.agg c,.i .i64 r,.i .i64 g,.v .nilIface]):=
  BH (s':=.Ak [.agg (CY (ED ⟨x,y,q,ps⟩ op k v).1),.i .i64 (ED ⟨x,y,q,ps⟩ op k v).2.1,.i .i64 (ED ⟨x,y,q,ps⟩ op k v).2.2,.v .nilIface]) (by rw[e];exact ⟨hc,rfl,rfl,rfl,trivial⟩) hφ
 rcases hop with rfl|rfl|rfl|rfl|rfl|rfl|rfl|rfl|rfl
 ·refine lit 1 (Hl (dw _ _) (Ui _) (hold:=Bh) (m:=300) (n:=400) (ts:=[]) ?_)
  rw[as2 zW W7 x y q.length ps.length (zX (nth q)) (zX (nth ps)) k v];have:=fin _ _ _ rfl [.i .i64 x,.i .i64 y,.sl 1 q.length (zX (nth q)),.sl 2 ps.length (zX (nth ps))] (by simp[ED,CY,Wk,NG,len]);repeat' (first|exact trivial|exact rfl|exact this|refine bW ?_ ?_)
 ·refine lit 2 (Hl (dw _ _) (Ui _) (hold:=Bh) (m:=300) (n:=400) (ts:=[]) ?_)
  rw[as3 zW W7 x y q.length ps.length (zX (nth q)) (zX (nth ps)) k v];have:=fin _ _ _ rfl [.i .i64 x,.i .i64 v,.sl 1 q.length (zX (nth q)),.sl 2 ps.length (zX (nth ps))] (by simp[ED,CY,Wk,NG,len]);repeat' (first|exact trivial|exact rfl|exact this|refine bW ?_ ?_)
 ·refine lit 3 (Hl (dw _ _) (Ui _) (hold:=Bh) (m:=300) (n:=400) (ts:=[]) ?_)
  rw[as4 zW W7 x y q.length ps.length (zX (nth q)) (zX (nth ps)) k v];have:=fin _ _ _ rfl [.i .i64 x,.i .i64 (JQ y v),.sl 1 q.length (zX (nth q)),.sl 2 ps.length (zX (nth ps))] (by simp[ED,CY,Wk,NG,len]);repeat' (first|exact trivial|exact rfl|exact this|refine bW ?_ ?_)
 ·refine lit 4 (Hl (dw _ _) (Ui _) (hold:=Bh) (m:=300) (n:=400) (ts:=[]) ?_)
  rw[as5 zW W7 x y q.length ps.length (zX (nth q)) (zX (nth ps)) k v];have:=fin _ _ _ rfl [.i .i64 x,.i .i64 y,.sl 1 q.length (zX (nth q)),.sl 2 ps.length (zX (nth ps))] (by simp[ED,CY,Wk,NG,len]);repeat' (first|exact trivial|exact rfl|exact this|refine bW ?_ ?_)
 ·refine lit 5 (Hl (dw _ _) (Ui _) (hold:=Bh) (m:=300) (n:=400) (ts:=[]) ?_)
  rw[as6 zW W7 x y q.length ps.length (zX (nth q)) (zX (nth ps)) k v];have:=fin _ _ _ rfl [.i .i64 x,.i .i64 y,.sl 1 (q.length+1) (F6 q.length (zX (nth q)) [.i .i64 v]),.sl 2 ps.length (zX (nth ps))] ⟨rfl,rfl,.inr ⟨rfl,by simp[ED,len],aod q v⟩,.inr ⟨rfl,rfl,fun _ _=>rfl⟩,trivial⟩;repeat' (first|exact trivial|exact hr|exact rfl|exact this|refine bW ?_ ?_)
 ·refine lit 6 (Hl (dw _ _) (Ui _) (hold:=Bh) (m:=300) (n:=400) (ts:=[]) ?_)
  rw[as7 zW W7 x y q.length ps.length (zX (nth q)) (zX (nth ps)) k v,TF];have hh:Qq q.length (nth q)=q.headD 0:=by cases q<;>rfl
  rw[hh];have:=fin _ _ _ rfl [.i .i64 x,.i .i64 y,.sl 1 (Qp q.length) (NV (zX (nth q))),.sl 2 ps.length (zX (nth ps))] ⟨rfl,rfl,.inr ⟨rfl,by simp[ED,len,Qp],fun j hj=>by
   show zX (nth q) (1+j)=zX (nth q.tail) j;simp only[zX,nth];cases q with
   |nil=>rfl |cons z r=>simp[Nat.add_comm 1 j]⟩,.inr ⟨rfl,rfl,fun _ _=>rfl⟩,trivial⟩
  repeat' (first|exact trivial|exact Dy _ _|exact rfl|exact this|refine bW ?_ ?_)
 all_goals
  have hm2:(!decide (LG _=4)||(Hq ps.length (zX (nth ps))&&Bo (ps.length+1) 16))=aC:=hm;have hm3:Hq ps.length (zX (nth ps))=aC/\Bo (ps.length+1) 16=aC:=by
   rw[show decide (LG _=4)=aC from rfl] at hm2;simpa using hm2
  obtain ⟨m1,m2⟩:=hm3;have el:lst Pr ps.length (zX (nth ps))=ps:=KN ps
 ·refine lit 7 (Hl (dw _ _) (Ui _) (hold:=Bh) (m:=300) (n:=400) (ts:=[]) ?_)
  rw[as8 zW W7 x y q.length ps.length (zX (nth q)) (nth ps) k v,el];have:=fin _ _ _ rfl [.i .i64 x,.i .i64 y,.sl 1 q.length (zX (nth q)),.sl 2 (len (ES ps k v)) (zX (nth (ES ps k v)))] (by simp[ED,CY,Wk,NG,len]);repeat' (first|exact trivial|exact m1|exact m2|exact hkey|exact rfl|exact this|refine bW ?_ ?_)
 ·refine lit 8 (Hl (dw _ _) (Ui _) (hold:=Bh) (m:=300) (n:=400) (ts:=[]) ?_)
  rw[as9 zW W7 x y q.length ps.length (zX (nth q)) (nth ps) k v,el];have:=fin _ _ _ rfl [.i .i64 x,.i .i64 y,.sl 1 q.length (zX (nth q)),.sl 2 ps.length (zX (nth ps))] (by simp[ED,CY,Wk,NG,len]);repeat' (first|exact trivial|exact m1|exact m2|exact hkey|exact rfl|exact this|refine bW ?_ ?_)
 ·refine lit 9 (Hl (dw _ _) (Ui _) (hold:=Bh) (m:=300) (n:=400) (ts:=[]) ?_)
  rw[ata zW W7 x y q.length ps.length (zX (nth q)) (nth ps) k v,el];have:=fin _ _ _ rfl [.i .i64 x,.i .i64 y,.sl 1 q.length (zX (nth q)),.sl 2 (len (FP ps k)) (zX (nth (FP ps k)))] (by simp[ED,CY,Wk,NG,len]);repeat' (first|exact trivial|exact m1|exact m2|exact hkey|exact rfl|exact this|refine bW ?_ ?_)
end
theorem agX{op:Int}(h0:LG op≠0):op=1\/op=2\/op=3\/op=4\/op=5\/op=6\/op=7\/op=8\/op=9:=by
 unfold LG at h0;repeat' split at h0
 all_goals first|omega|simp_all
theorem O42:Ar aB (AZ W7) 120 F42:=by
 refine FN (C:=C7 zW W7 GZ Ap) (dw _ _) (fn:=zN) (by kernel_rfl) (by kernel_rfl) fun H w A8 args φ hrep h=>?_
 have hn:zN.ntmps=88:=by kernel_rfl
 unfold F42 at h;split at h
 ·rename_i x y s2 s3 t u v
  split at h
  ·rename_i a hh b l op k vv hs2 hs3 ht hu hv
   obtain ⟨h1,h2,h3,he,hb⟩:=h;have hml:J9 op b l=aC->J9 op (lst Pr b l).length (zX (nth (lst Pr b l)))=aC:=fun hq=>by
    unfold J9 Hq at hq ⊢;rw[KN,E8,Dy];simp only[nC,aI] at hq ⊢;rcases hq with hq|hq
    ·exact .inl hq
    ·exact .inr ⟨⟨⟨trivial,hq.1.1.2⟩,hq.1.2⟩,hq.2⟩
   match args,hrep with
   |[v0,v1,v2,v3],⟨r0,r1,r2,r3,_⟩=>
    refine ⟨[.agg [.i .i64 x,.i .i64 y,.sl 1 (lst Int a hh).length (zX (nth (lst Int a hh))),.sl 2 (lst Pr b l).length (zX (nth (lst Pr b l)))],.i .i64 op,.i .i64 k,.i .i64 vv],⟨Hz r0 (fun u hu=>KF (BD hs2 hu) h1) (fun u hu=>KF (BD hs3 hu) h2),Ej ht r1,Ej hu r2,Ej hv r3,trivial⟩,L0,?_⟩;have h3:Bo ((lst Int a hh).length+1) 8=aC:=by rw[E8];exact h3
    have hb:Gw x op=ak->(Ij x y op k vv=aC->φ (.Ak [.agg (CY Nr),.i .i64 0,.i .i64 0,.er 15 329]))/\(Ij x y op k vv=ak->J9 op (lst Pr b l).length (zX (nth (lst Pr b l)))=aC/\φ (.Ak [.agg (CY (ED ⟨x,y,lst Int a hh,lst Pr b l⟩ op k vv).1),.i .i64 (ED ⟨x,y,lst Int a hh,lst Pr b l⟩ op k vv).2.1,.i .i64 (ED ⟨x,y,lst Int a hh,lst Pr b l⟩ op k vv).2.2,.v .nilIface])):=fun e=>⟨(hb e).1,fun e2=>⟨hml ((hb e).2 e2).1,((hb e).2 e2).2⟩⟩;clear hml;generalize lst Int a hh=q at *;generalize lst Pr b l=ps at *;have e1 (e:Gw x op=aC):up φ (.Ak [.agg [.i .i64 (ah 0),.i .i64 (ah 0),.sl 0 0 fun _=>[],.sl 0 0 fun _=>[]],.i .i64 (ah 0),.i .i64 (ah 0),.er 8 329]):=
     BH (s':=.Ak [.agg (CY Nr),.i .i64 0,.i .i64 0,.er 8 329]) ⟨⟨rfl,rfl,.inl ⟨rfl,rfl⟩,.inl ⟨rfl,rfl⟩,trivial⟩,rfl,rfl,rfl,trivial⟩ (he e)
    have e3 (e:Gw x op=ak) (e2:Ij x y op k vv=aC):up φ (.Ak [.agg [.i .i64 (ah 0),.i .i64 (ah 0),.sl 0 0 fun _=>[],.sl 0 0 fun _=>[]],.i .i64 (ah 0),.i .i64 (ah 0),.er 15 329]):=
     BH (s':=.Ak [.agg (CY Nr),.i .i64 0,.i .i64 0,.er 15 329]) ⟨⟨rfl,rfl,.inl ⟨rfl,rfl⟩,.inl ⟨rfl,rfl⟩,trivial⟩,rfl,rfl,rfl,trivial⟩ ((hb e).1 e2)
    have go (e:Gw x op=ak) (e2:Ij x y op k vv=ak):∃t:ND,([⟨120,Nv,L42 x y q.length ps.length (zX (nth q)) (zX (nth ps)) op k vv,[]⟩]:List ND)[0]?=ay t/\Bd aB (C7 zW W7 GZ Ap) (K0 H w) t.g t.td t.c t.stk emp (up φ):=
     ⟨_,rfl,avC h3 (agX (by
      simp[Gw] at e;rw[e.2];exact e.1)) ((hb e).2 e2).1 (by
       simp[Ij] at e2;unfold En;exact decide_eq_true (by omega)) ((hb e).2 e2).2⟩
    refine agq (dw _ _) (Ui _) (pause:=agW) (m:=300) (n:=400) (ts:=[⟨120,Nv,L42 x y q.length ps.length (zX (nth q)) (zX (nth ps)) op k vv,[]⟩]) ?_;rw[hn,a42 zW W7 x y q.length ps.length (zX (nth q)) (zX (nth ps)) op k vv];have q0:ah 0=0:=rfl;have q3:ah 3=3:=rfl;have qk:ah 1000=1000:=rfl;have q4:ah 1000000000=1000000000:=rfl;have q6:Int.negSucc 999999999=-1000000000:=rfl;have qa:zW.add .i64 y vv=JQ y vv:=rfl;rw[q0] at e1 e3;simp only[Aq,BQ,Ad,q0,q3,qk,q4,q6,qa];clear he hb h3 hn;repeat' (first|exact trivial|exact rfl|(intro _) |refine bW ?_ ?_)
    all_goals first
     |exact e1 (by simp_all [Gw])
     |exact e3 (by simp_all [Gw]) (by simp_all [Ij])
     |exact go (by simp_all [Gw]) (by simp_all [Ij])
  ·exact h.elim
 ·exact h.elim
open Go Go.Sx Go.Pl
theorem OCs:∀g F,Qr g=ay F->Ar aB (AZ W7) g F:=fun g F h=>by
 unfold Qr at h;split at h
 ·cases h;exact O33
 ·cases h;exact O35
 ·cases h;exact O41
 ·cases h;exact O49
 ·cases h;exact O50
 ·cases h;exact O54
 ·cases h;exact O56
 ·cases h
theorem aoe(stop:Nat->List Nat->Bool):BA aB (C7 zW W7 Qr stop):=lS OCs fun g h=>by
 unfold Qr at h;split at h;all_goals first|(cases h;done) |kernel_rfl
def F25:List Sh->Tree Sh
 |[s0]=>match DV 2 s0 with
  |some (n,g)=>.need (okB Oj n g) (.need (Qm n (zZ g)) (.node (RU n) (.leaf (.Ak [.agg [.sl 4 0 noT],.er 6 329])) (.node (Ns n (zZ g)) (.leaf (.Ak [.agg [.sl 4 n (BZ (newT (zZ g)))],.v .nilIface])) (.leaf (.Ak [.agg [.sl 4 0 noT],.CS 109 (.pt [.i .i64 (KP n (zZ g)),.er 7 329])]))))) |none=>.fail
 |_=>.fail
theorem alB{n j:Nat}{g:Nat->List Sh}{r:List Sh}(h:j<n):F6 n g r j=g j:=if_pos h
theorem adD{n:Nat}{g:Nat->List Sh}{r:List Sh}:F6 n g r n=r:=if_neg (by omega)
section
variable{H0:Mem}{w0:World}{φ:Sh->Prop}
theorem akr{n:Nat}{o:Nat->Oj}(hn:n<=8)(hk:∀j,j<n->CQ (o j).kind=aC)(hT:∀j,j<n->EO (o j).kind (o j).init=ak)(hφ:φ (.Ak [.agg [.sl 4 n (BZ (newT o))],.v .nilIface])):
  ∀r k (gg:Nat->List Sh),k+r=n->(∀j,j<k->gg j=CY (newT o j))->Bd aB (C7 zW W7 Qr Ap) (K0 H0 w0) 75 Y3 (WQ n o (k:Int) k gg ak) [] emp (up φ)
 |r,k,gg,hkr,hg=>by
  refine Gu (fn:=rJ) (tb:=akq) (by kernel_rfl) (by kernel_rfl) ?_;refine Hl (dw _ _) (aoe _) (hold:=Bh) (m:=300) (n:=400) (ts:=[⟨75,Y3,WQ n o (k+1:Nat) (k+1) (F6 k gg (CY (newT o k))) ak,[]⟩]) ?_;rw[b25 zW W7 n o k (k+1:Nat) k (k+1) gg (F6 k gg (CY (newT o k)))];simp only[Ad,Bl,CJ,Dj,GY,fK];refine ⟨fun h=>?_,fun h=>?_⟩
  ·have hlt:k<n:=by simp at h;omega
   refine ⟨by simp;omega,hk k hlt,fun hb=>(by rw[hT k hlt] at hb;cases hb),fun _=>⟨room_le (by omega) (by omega),⟨rfl,rfl,?_,rfl,trivial⟩,_,rfl,?_⟩⟩
   ·simp only[Bj.ok];rw[BL (by omega) (by omega)];rfl
   ·match r,hkr with
    |0,hkr=>omega |r+1,hkr=>
     refine akr hn hk hT hφ r (k+1) _ (by omega) fun j hj=>?_
     by_cases e:j=k
     ·subst e;exact adD
     ·rw[alB (by omega)];exact hg j (by omega)
  ·have:k=n:=by simp at h;omega
   subst this;exact BH (s':=.Ak [.agg [.sl 4 k (BZ (newT o))],.v .nilIface]) ⟨⟨.inr ⟨rfl,rfl,hg⟩,trivial⟩,rfl,trivial⟩ hφ
end
theorem O25:Ar aB (AZ W7) 75 F25:=by
 refine FN (C:=C7 zW W7 Qr Ap) (dw _ _) (fn:=rJ) (by kernel_rfl) (by kernel_rfl) fun H w A8 args φ hrep h=>?_
 have hn:rJ.ntmps=38:=by kernel_rfl
 unfold F25 at h;split at h
 ·rename_i s0
  split at h
  ·rename_i n g hs0
   obtain ⟨h1,h2,hbig,hsm⟩:=h;have hsm:RU n=ak->(Ns n (zZ g)=aC->φ (.Ak [.agg [.sl 4 n (BZ (newT (zZ g)))],.v .nilIface]))/\(Ns n (zZ g)=ak->φ (.Ak [.agg [.sl 4 0 noT],.CS 109 (.pt [.i .i64 (KP n (zZ g)),.er 7 329])])):=hsm;match args,hrep with
   |[v],⟨hv,_⟩=>
    refine ⟨[.sl 2 n (zX (zZ (α:=Oj) g))],⟨Ei (BD hs0 hv) h1,trivial⟩,L0,?_⟩;generalize zZ (α:=Oj) g=o at *;refine Hl (dw _ _) (aoe _) (hold:=Bh) (m:=300) (n:=400) (ts:=[⟨75,Y3,WQ n o (0:Nat) 0 noT aC,[]⟩]) ?_;rw[hn,a25 zW W7 n o (0:Nat) 0 noT,TF];refine ⟨Dy _ _,h2,fun e=>BH (s':=.Ak [.agg [.sl 4 0 noT],.er 6 329]) ⟨⟨.inl ⟨rfl,rfl⟩,trivial⟩,rfl,trivial⟩ (hbig e),fun e=>?_⟩;obtain ⟨q1,q2⟩:=hsm e;have hn8:n<=8:=by simp[RU] at e;omega
    refine ⟨fun e=>⟨⟨rfl,rfl,rfl,trivial⟩,_,rfl,?_⟩,fun e=>BH (s':=.Ak [.agg [.sl 4 0 noT],.CS 109 (.pt [.i .i64 (KP n o),.er 7 329])]) ⟨⟨.inl ⟨rfl,rfl⟩,trivial⟩,rfl,trivial⟩ (q2 e)⟩;have hT:∀j,j<n->EO (o j).kind (o j).init=ak:=fun j hj=>by simpa using Ii e j hj
    refine Gu (fn:=rJ) (tb:=akq) (by kernel_rfl) (by kernel_rfl) ?_;refine Hl (dw _ _) (aoe _) (hold:=Bh) (m:=300) (n:=400) (ts:=[⟨75,Y3,WQ n o (1:Nat) 1 (F6 0 (fun _=>[]) (CY (newT o 0))) ak,[]⟩]) ?_;rw[c25 zW W7 n o (0:Nat) (1:Nat) 0 1 noT (F6 0 (fun _=>[]) (CY (newT o 0)))];simp only[Ad,Bl,CJ,Dj,GY,fK];refine ⟨fun h=>?_,fun h=>?_⟩
    ·have hlt:0<n:=by simp at h;omega
     refine ⟨by simp;omega,Ii h2 0 hlt,fun hb=>(by rw[hT 0 hlt] at hb;cases hb),fun _=>⟨room_le (by omega) (by omega),⟨rfl,rfl,?_,rfl,trivial⟩,_,rfl,?_⟩⟩
     ·simp only[Bj.ok];rw[BL (by omega) (by omega)];rfl
     ·refine akr hn8 (Ii h2) hT (q1 e) (n - 1) 1 _ (by omega) fun j hj=>?_
      obtain rfl:j=0:=by omega
      exact adD
    ·have:n=0:=by simp at h;omega
     subst this;exact BH (s':=.Ak [.agg [.sl 4 0 (BZ (newT o))],.v .nilIface]) ⟨⟨.inl ⟨rfl,rfl⟩,trivial⟩,rfl,trivial⟩ (q1 e)
  ·exact h.elim
 ·exact h.elim
end Go.Proofs
namespace Go.Pl
open Go Go.Sx
structure Lk7 where
 key:Cm->List UInt8
 join:Nat->(Nat->List Sh)->List UInt8->List UInt8
def sQ(x y:Int)(a:Nat)(h:Nat->List Sh)(b:Nat)(l:Nat->List Sh):Cm:=⟨x,y,lst Int a h,lst Pr b l⟩
def Y4(x y:Int)(a:Nat)(h:Nat->List Sh)(b:Nat)(l:Nat->List Sh):Bool:=
 okB Int a h&&okB Pr b l&&CQ x&&CQ y&&anN a (zZ h)&&ar4 b (zZ l)&&decide (a<=100000/\b<=100000)
def abp(n:Nat)(g:Nat->List Sh)(sep:List UInt8):Bool:=okB (List UInt8) n g&&Bo n 16&&Io (Dn (lst (List UInt8) n g) sep)
end Go.Pl
namespace Go.Proofs
open Go Go.Sx Go.Pl
def G35(L:Lk7):List Sh->Tree Sh
 |[.agg [.i .i64 x,.i .i64 y,s2,s3]]=>match DV 1 s2,DV 2 s3 with
  |some (a,h),ay (b,l)=>.need (Y4 x y a h b l) (.leaf (.str (L.key (sQ x y a h b l)))) |_,_=>.fail
 |_=>.fail
def G56(L:Lk7):List Sh->Tree Sh
 |[s0,.str sep]=>match DV 1 s0 with
  |some (n,g)=>.need (abp n g sep) (.leaf (.str (L.join n g sep))) |none=>.fail
 |_=>.fail
def F64:List Sh->Tree Sh
 |[.agg [s0]]=>match DV 4 s0 with
  |some (n,g)=>.need (Bo n 64) (.leaf (.sl 4 n g)) |none=>.fail
 |_=>.fail
def Ld(L:Lk7):Nat->Option (List Sh->Tree Sh)
 |116=>ay (G35 L) |117=>ay (G56 L) |118=>ay F64 |_=>aK
def agY:List Nat:=[0,1,0,1,1]
def k32:List It:=[dD 0,bD [1,1,1]]
def ar9(j:Nat)(gg:Nat->List Sh):Bool->SV×List (Nat×SB)
 |true=>(.Aw,[]) |false=>(.gs 2,[(2,.own 9 1 j gg)])
def asa(n:Nat)(d:Nat->Cm)(j:Nat)(gg:Nat->List Sh)(v:Bool):List (Nat×SB):=[(0,.box [(ar9 j gg v).1] 236),(1,.box [.sh (.sl 4 n (BZ d))] 100)]++(ar9 j gg v).2
def asb:List SV:=Gv 17 [(3,.ptr 0 0),(7,.fn 144 [.ptr 1 0])]
def L32(n:Nat)(d:Nat->Cm):Core:={tm:=asb,hp:=asa n d 0 (fun _=>[]) aC,nx:=2,lim:=L0,tc:=[]}
def Zx(l:Nat):List Fw:=[⟨92,aK,k32,asb,ay (l,agY,.ready)⟩]
def Uj:List It:=[bD [0,1],dD 0]
def aks:List It:=bD [0,0,1]::Uj
def avD:Bool->Nat
 |true=>2 |false=>3
def L63(n:Nat)(d:Nat->Cm)(l:Nat)(k:Int)(j:Nat)(gg:Nat->List Sh)(v:Bool):Core:=
 {tm:=Gv 20 [(0,.val (yv l)),(7,.sh (.sl 4 n (BZ d))),(8,.sym .i64 (n:Int)),(9,.sym .i64 k)],hp:=asa n d j gg v,nx:=avD v,lim:=L0,tc:=[]}
theorem a32(A:Prim)(W:Wd)(L:Lk7)(n:Nat)(d:Nat->Cm):agz (C7 A W (Ld L) Ap) KL 300 800 92 aK [.code []] (Aa 17 [.agg [.sl 4 n (BZ d)]] L0) [] [⟨92,aK,.code agY::k32,L32 n d,[]⟩]=aA (bJ 0 [aQ (aG 4 n (BZ d)) (aG 4 n (BZ d))]):=by kernel_rfl
theorem t32(A:Prim)(W:Wd)(L:Lk7)(n:Nat)(d:Nat->Cm)(l:Nat)(k:Int)(j:Nat)(gg:Nat->List Sh):agz (C7 A W (Ld L) Ap) KL 300 800 144 aK [.code []] {L32 n d with tm:=(.val (yv l)::[.ptr 1 0])++List.replicate (20 - (1+1)) .any} (Zx l) [⟨144,aK,Uj,L63 n d l k j gg aC,Zx l⟩]=aH (Bo n 64) (aA (bJ 0 [kR (lM (oz l) {toList:=[]} {toList:=[]}) (lM (oz l) {toList:=[]} {toList:=[]}),aQ (aG 4 n (BZ d)) (aG 4 n (BZ d)),aj (A.AO n) (ah n),aj (ah 0) k,aQ (aG 4 n (BZ d)) (aG 4 n (BZ d)),aJ l l])):=by kernel_rfl
noncomputable def agZ(A:Prim)(L:Lk7)(n:Nat)(d:Nat->Cm)(k:Int):List Bj:=[aj k k,aj (d (A.toN k)).kind (d (A.toN k)).kind,aj (d (A.toN k)).num (d (A.toN k)).num,aQ (aG 1 (len (d (A.toN k)).q) (zX (nth (d (A.toN k)).q))) (aG 1 (len (d (A.toN k)).q) (zX (nth (d (A.toN k)).q))),aQ (aG 2 (len (d (A.toN k)).ps) (zX (nth (d (A.toN k)).ps))) (aG 2 (len (d (A.toN k)).ps) (zX (nth (d (A.toN k)).ps))),aQ (aG 4 n (BZ d)) (aG 4 n (BZ d)),aj (d (A.toN k)).kind (d (A.toN k)).kind,aj (d (A.toN k)).num (d (A.toN k)).num,aQ (aG 1 (len (d (A.toN k)).q) (zX (nth (d (A.toN k)).q))) (aG 1 (len (d (A.toN k)).q) (zX (nth (d (A.toN k)).q))),aQ (aG 2 (len (d (A.toN k)).ps) (zX (nth (d (A.toN k)).ps))) (aG 2 (len (d (A.toN k)).ps) (zX (nth (d (A.toN k)).ps))),aj (d (A.toN k)).kind (d (A.toN k)).kind,aj (d (A.toN k)).num (d (A.toN k)).num,aQ (aG 1 (len (d (A.toN k)).q) (zX (nth (d (A.toN k)).q))) (aG 1 (len (d (A.toN k)).q) (zX (nth (d (A.toN k)).q))),aQ (aG 2 (len (d (A.toN k)).ps) (zX (nth (d (A.toN k)).ps))) (aG 2 (len (d (A.toN k)).ps) (zX (nth (d (A.toN k)).ps))),aQ (dA (L.key (sQ (d (A.toN k)).kind (d (A.toN k)).num (len (d (A.toN k)).q) (zX (nth (d (A.toN k)).q)) (len (d (A.toN k)).ps) (zX (nth (d (A.toN k)).ps))))) (dA (L.key (sQ (d (A.toN k)).kind (d (A.toN k)).num (len (d (A.toN k)).q) (zX (nth (d (A.toN k)).q)) (len (d (A.toN k)).ps) (zX (nth (d (A.toN k)).ps))))),aQ (dA (L.key (sQ (d (A.toN k)).kind (d (A.toN k)).num (len (d (A.toN k)).q) (zX (nth (d (A.toN k)).q)) (len (d (A.toN k)).ps) (zX (nth (d (A.toN k)).ps))))) (dA (L.key (sQ (d (A.toN k)).kind (d (A.toN k)).num (len (d (A.toN k)).q) (zX (nth (d (A.toN k)).q)) (len (d (A.toN k)).ps) (zX (nth (d (A.toN k)).ps)))))]
theorem avE(A:Prim)(W:Wd)(L:Lk7)(n:Nat)(d:Nat->Cm)(l:Nat)(k k':Int)(j j':Nat)(gg H9:Nat->List Sh):agz (C7 A W (Ld L) Ap) KL 300 800 144 aK aks (L63 n d l k j gg aC) (Zx l) [⟨144,aK,Uj,L63 n d l k' j' H9 ak,Zx l⟩]=aF (A.lt k (ah n)) (aH (A.inB k n) (aS [aJ l l] (aS [aJ l l] (aH (Y4 (d (A.toN k)).kind (d (A.toN k)).num (len (d (A.toN k)).q) (zX (nth (d (A.toN k)).q)) (len (d (A.toN k)).ps) (zX (nth (d (A.toN k)).ps))) (aH (Y4 (d (A.toN k)).kind (d (A.toN k)).num (len (d (A.toN k)).q) (zX (nth (d (A.toN k)).q)) (len (d (A.toN k)).ps) (zX (nth (d (A.toN k)).ps))) (aS (agZ A L n d k) (aS (agZ A L n d k) (aS [aJ l l] (aA (bJ 0 [kR (lM (oz l) {toList:=[]} {toList:=[]}) (lM (oz l) {toList:=[]} {toList:=[]}),aQ (aG 4 n (BZ d)) (aG 4 n (BZ d)),aj (ah n) (ah n),aj (A.add .i64 k (ah 1)) k',aQ (aG 4 n (BZ d)) (aG 4 n (BZ d)),aJ 1 j',aT 1 (AU [[dA (L.key (sQ (d (A.toN k)).kind (d (A.toN k)).num (len (d (A.toN k)).q) (zX (nth (d (A.toN k)).q)) (len (d (A.toN k)).ps) (zX (nth (d (A.toN k)).ps))))]]) H9,aJ l l])))))))))) (aH (abp 0 (fun (x:Nat)=>[]) [59,32]) (aA (aP (dA (L.join 0 (fun (x:Nat)=>[]) [59,32]))))):=by kernel_rfl
noncomputable def ag0(A:Prim)(L:Lk7)(n:Nat)(d:Nat->Cm)(k:Int)(j:Nat)(gg:Nat->List Sh):List Bj:=[aj k k,aj (d (A.toN k)).kind (d (A.toN k)).kind,aj (d (A.toN k)).num (d (A.toN k)).num,aQ (aG 1 (len (d (A.toN k)).q) (zX (nth (d (A.toN k)).q))) (aG 1 (len (d (A.toN k)).q) (zX (nth (d (A.toN k)).q))),aQ (aG 2 (len (d (A.toN k)).ps) (zX (nth (d (A.toN k)).ps))) (aG 2 (len (d (A.toN k)).ps) (zX (nth (d (A.toN k)).ps))),aQ (aG 4 n (BZ d)) (aG 4 n (BZ d)),aj (d (A.toN k)).kind (d (A.toN k)).kind,aj (d (A.toN k)).num (d (A.toN k)).num,aQ (aG 1 (len (d (A.toN k)).q) (zX (nth (d (A.toN k)).q))) (aG 1 (len (d (A.toN k)).q) (zX (nth (d (A.toN k)).q))),aQ (aG 2 (len (d (A.toN k)).ps) (zX (nth (d (A.toN k)).ps))) (aG 2 (len (d (A.toN k)).ps) (zX (nth (d (A.toN k)).ps))),aj (d (A.toN k)).kind (d (A.toN k)).kind,aj (d (A.toN k)).num (d (A.toN k)).num,aQ (aG 1 (len (d (A.toN k)).q) (zX (nth (d (A.toN k)).q))) (aG 1 (len (d (A.toN k)).q) (zX (nth (d (A.toN k)).q))),aQ (aG 2 (len (d (A.toN k)).ps) (zX (nth (d (A.toN k)).ps))) (aG 2 (len (d (A.toN k)).ps) (zX (nth (d (A.toN k)).ps))),aQ (dA (L.key (sQ (d (A.toN k)).kind (d (A.toN k)).num (len (d (A.toN k)).q) (zX (nth (d (A.toN k)).q)) (len (d (A.toN k)).ps) (zX (nth (d (A.toN k)).ps))))) (dA (L.key (sQ (d (A.toN k)).kind (d (A.toN k)).num (len (d (A.toN k)).q) (zX (nth (d (A.toN k)).q)) (len (d (A.toN k)).ps) (zX (nth (d (A.toN k)).ps))))),aJ (A.addN j 1) (A.addN j 1),bC (A.snoc gg j (AU [[dA (L.key (sQ (d (A.toN k)).kind (d (A.toN k)).num (len (d (A.toN k)).q) (zX (nth (d (A.toN k)).q)) (len (d (A.toN k)).ps) (zX (nth (d (A.toN k)).ps))))]])) (A.snoc gg j (AU [[dA (L.key (sQ (d (A.toN k)).kind (d (A.toN k)).num (len (d (A.toN k)).q) (zX (nth (d (A.toN k)).q)) (len (d (A.toN k)).ps) (zX (nth (d (A.toN k)).ps))))]]))]
theorem avF(A:Prim)(W:Wd)(L:Lk7)(n:Nat)(d:Nat->Cm)(l:Nat)(k k':Int)(j j':Nat)(gg H9:Nat->List Sh):agz (C7 A W (Ld L) Ap) KL 300 800 144 aK aks (L63 n d l k j gg ak) (Zx l) [⟨144,aK,Uj,L63 n d l k' j' H9 ak,Zx l⟩]=aF (A.lt k (ah n)) (aH (A.inB k n) (aS [aJ l l] (aS [aJ l l] (aH (Y4 (d (A.toN k)).kind (d (A.toN k)).num (len (d (A.toN k)).q) (zX (nth (d (A.toN k)).q)) (len (d (A.toN k)).ps) (zX (nth (d (A.toN k)).ps))) (aH (A.room (A.addN j 1) 16) (aH (Y4 (d (A.toN k)).kind (d (A.toN k)).num (len (d (A.toN k)).q) (zX (nth (d (A.toN k)).q)) (len (d (A.toN k)).ps) (zX (nth (d (A.toN k)).ps))) (aH (A.room (A.addN j 1) 16) (aH (A.room (A.addN j 1) 16) (aS (ag0 A L n d k j gg) (aS (ag0 A L n d k j gg) (aS [aJ l l] (aA (bJ 0 [kR (lM (oz l) {toList:=[]} {toList:=[]}) (lM (oz l) {toList:=[]} {toList:=[]}),aQ (aG 4 n (BZ d)) (aG 4 n (BZ d)),aj (ah n) (ah n),aj (A.add .i64 k (ah 1)) k',aQ (aG 4 n (BZ d)) (aG 4 n (BZ d)),aJ (A.addN j 1) j',aT (A.addN j 1) (A.snoc gg j (AU [[dA (L.key (sQ (d (A.toN k)).kind (d (A.toN k)).num (len (d (A.toN k)).q) (zX (nth (d (A.toN k)).q)) (len (d (A.toN k)).ps) (zX (nth (d (A.toN k)).ps))))]])) H9,aJ l l]))))))))))))) (aH (abp j gg [59,32]) (aA (aP (dA (L.join j gg [59,32]))))):=by kernel_rfl
end Go.Proofs
namespace Go.Pl
open Go Go.Sx Go.Proofs
def WR(s:Cm):Bool:=CQ s.kind&&CQ s.num&&s.q.all CQ&&s.ps.all (fun p=>CQ p.key&&CQ p.val)&&decide (s.q.length<=100000/\s.ps.length<=100000)
def keysB(n:Nat)(d:Nat->Cm):Bool:=decide (n<=1000)&&(aX n).all fun j=>WR (d j)
def adE(l:List Cm):List UInt8:=Dn (l.map keyS) [59,32]
def LK:Lk7 where
 key:=keyS
 join n g sep:=Dn (lst (List UInt8) n g) sep
theorem ag1{s:Cm}(h:WR s=aC):Y4 s.kind s.num (len s.q) (zX (nth s.q)) (len s.ps) (zX (nth s.ps))=aC:=by
 unfold WR at h;simp only[aI,decide_eq_true_eq] at h;obtain ⟨⟨⟨⟨h1,h2⟩,h3⟩,h4⟩,h5⟩:=h;unfold Y4;simp only[aI,decide_eq_true_eq];refine ⟨⟨⟨⟨⟨⟨Dy _ _,Dy _ _⟩,h1⟩,h2⟩,?_⟩,?_⟩,h5⟩
 ·rw[TF]
  refine dO.2 fun j hj=>?_
  have hj:j<s.q.length:=dP.1 hj;have e:nth s.q j=s.q[j]:=by simp[nth,hj]
  rw[e];exact dO.1 h3 _ (kD hj)
 ·rw[TF]
  refine dO.2 fun j hj=>?_
  have hj:j<s.ps.length:=dP.1 hj;have e:nth s.ps j=s.ps[j]:=by simp[nth,hj]
  rw[e];exact dO.1 h4 _ (kD hj)
theorem aiQ(s:Cm):sQ s.kind s.num (len s.q) (zX (nth s.q)) (len s.ps) (zX (nth s.ps))=s:=by
 show (⟨s.kind,s.num,lst Int s.q.length (zX (nth s.q)),lst Pr s.ps.length (zX (nth s.ps))⟩:Cm)=s;rw[KN,KN]
theorem ag2{s:Cm}(h:WR s=aC):(JD s).length<=100001/\∀x∈JD s,x.length<=50:=by
 unfold WR at h;simp only[aI,decide_eq_true_eq] at h;obtain ⟨⟨⟨⟨h1,h2⟩,h3⟩,h4⟩,h5⟩:=h;unfold JD;refine ⟨?_,fun x hx=>?_⟩
 ·simp only[List.length_cons]
  repeat' split
  all_goals (simp;try omega)
 ·rcases gZ.1 hx with rfl|hx
  ·exact abk _
  ·split at hx
   ·simp at hx
    subst hx;have:=Jj h2;omega
   ·split at hx
    ·obtain ⟨y,hy,rfl⟩:=dK.1 hx
     have:=Jj (dO.1 h3 y hy);omega
    ·split at hx
     ·obtain ⟨y,hy,rfl⟩:=dK.1 hx
      have h6:=dO.1 h4 y hy;simp only[aI] at h6;exact adA h6.1 h6.2
     ·simp at hx
theorem alC{s:Cm}(h:WR s=aC):(keyS s).length<=6000000:=by
 obtain ⟨h1,h2⟩:=ag2 h;have h3:=X8 (JD s) [32] h2;have h4:(JD s).length*(50+[(32:UInt8)].length)<=100001*51:=dQ _ h1;unfold keyS;omega
theorem ag3{l:List Cm}(hl:l.length<=1000)(h:∀s∈l,WR s=aC):Io (Dn (l.map keyS) [59,32])=aC:=by
 have h3:=X8 (l.map keyS) [59,32] (m:=6000000) fun x hx=>by
  obtain ⟨s,hs,rfl⟩:=dK.1 hx;exact alC (h s hs)
 have h4:(l.map keyS).length*(6000000+[(59:UInt8),32].length)<=1000*6000002:=dQ _ (by simpa using hl);exact decide_eq_true (by omega)
end Go.Pl
namespace Go.Proofs
open Go Go.Sx Go.Pl
theorem avG:Ar aB (AZ W7) 116 (G35 LK):=O35.mono fun H A8 args φ hr h=>by
 unfold G35 at h;split at h
 ·split at h
  ·rename_i s2 s3 a hh b l hs2 hs3
   obtain ⟨h1,hφ⟩:=h;simp only[Y4,aI] at h1;obtain ⟨⟨⟨⟨⟨⟨q1,q2⟩,q3⟩,q4⟩,q5⟩,q6⟩,q7⟩:=h1;simp only[F35,hs2,hs3];exact ⟨q1,q2,q3,q4,q5,q6,q7,hφ⟩
  ·exact h.elim
 ·exact h.elim
theorem avH:Ar aB (AZ W7) 117 (G56 LK):=fun H w A8 args φ on hg hr h=>by
 unfold G56 at h;split at h
 ·rename_i s0 sep
  split at h
  ·rename_i n g hs
   obtain ⟨h1,hφ⟩:=h;simp only[abp,aI] at h1;match args,hr with
   |[v,u],⟨hv,hu,_⟩=>exact O56 H w [.sl 1 n g,.str sep] [v,u] φ on hg ⟨BD hs hv,hu,trivial⟩ ⟨h1.1.1,h1.1.2,h1.2,hφ⟩
  ·exact h.elim
 ·exact h.elim
theorem O64:Ar aB (AZ W7) 118 F64:=by
 refine DU (C:=C7 zW W7 Dt Ap) (dw _ _) (LH _) (m:=300) (n:=400) (L:=L0) (fn:=zO) (by kernel_rfl) (by kernel_rfl) fun H w A8 args φ hrep h=>?_
 have hn:zO.ntmps=10:=by kernel_rfl
 unfold F64 at h;split at h
 ·rename_i s0
  split at h
  ·rename_i n g hs
   obtain ⟨h1,hφ⟩:=h;match args,hrep with
   |[v],⟨hv,_⟩=>
    refine ⟨[.agg [.sl 4 n g]],⟨MG hv fun u hu=>BD hs hu,trivial⟩,?_⟩;rw[hn,a64 zW W7 n g,Qj,Qk,abf];exact ⟨le0 n,h1,h1,BH (s':=.sl 4 n g) (.inr ⟨rfl,rfl,fun _ _=>rfl⟩) hφ⟩
  ·exact h.elim
 ·exact h.elim
theorem OKs:∀g F,Ld LK g=ay F->Ar aB (AZ W7) g F:=fun g F h=>by
 unfold Ld at h;split at h
 ·cases h;exact avG
 ·cases h;exact avH
 ·cases h;exact O64
 ·cases h
theorem ag4(stop:Nat->List Nat->Bool):BA aB (C7 zW W7 (Ld LK) stop):=lS OKs fun g h=>by
 unfold Ld at h;split at h;all_goals first|(cases h;done) |kernel_rfl
theorem nd7:RI Tryz.fns=aC:=by kernel_rfl
noncomputable def F32:List Sh->Tree Sh
 |[.agg [s0]]=>match DV 4 s0 with
  |some (n,g)=>.need (stB n g) (.need (keysB n (Ee n g)) (.leaf (.str (adE ((aX n).map (Ee n g)))))) |none=>.fail
 |_=>.fail
section
variable{H0:Mem}{w0:World}{φ:Sh->Prop}{n:Nat}{d:Nat->Cm}
theorem akt(hn:n<=1000)(hd:∀j,j<n->WR (d j)=aC)(hφ:φ (.str (adE ((aX n).map d)))){l:Nat}:∀r k,k+r=n->0<k->
  FB aB (C7 zW W7 (Ld LK) Ap) (K0 H0 w0) 144 aK Uj (L63 n d l (k:Int) k (zX (nth (((aX k).map d).map keyS))) ak) (Zx l) φ
 |r,k,hkr,h0=>by
  refine Y1 (fn:=qJ) (tb:=aks) (by kernel_rfl) (by kernel_rfl) ?_;refine NS (dw _ _) (ag4 _) nd7 (pause:=KL) (m:=300) (n:=800) (ts:=[⟨144,aK,Uj,L63 n d l ((k+1:Nat):Int) (k+1) (zX (nth (((aX (k+1)).map d).map keyS))) ak,Zx l⟩]) ?_;refine (congrArg (TA _) (avF zW W7 LK n d l k (k+1:Nat) k (k+1) (zX (nth (((aX k).map d).map keyS))) (zX (nth (((aX (k+1)).map d).map keyS))))).mpr ?_;rw[Nk];have hlen:(((aX k).map d).map keyS).length=k:=by simp
  simp only[Ad,Bl,CJ,Dj,GY,fK,abg];rw[aiQ (d k)];refine ⟨fun h=>?_,fun h=>?_⟩
  ·have hlt:k<n:=by simp at h;omega
   have hk:=ag1 (hd k hlt);have hr:zW.room (k+1) 16=aC:=room_le (by omega) (by omega);have hin:decide (0<=(k:Int)/\(k:Int)<(n:Int))=aC:=by simp;omega
   have hw:aN.wrap ((k:Int)+1)=((k+1:Nat):Int):=by rw[BL (by omega) (by omega)];rfl
   have hs:∀i,i<k+1->zW.snoc (zX (nth (((aX k).map d).map keyS))) k (AU [[.str (keyS (d k))]]) i=zX (nth (((aX (k+1)).map d).map keyS)) i:=fun i hi=>by
    have:=O1 (((aX k).map d).map keyS) (keyS (d k)) (r:=[[.str (keyS (d k))]]) rfl i (by rw[hlen];exact hi);rw[hlen] at this;rw[this,qh,iO,iO];rfl
   have next:∃t:OZ,([⟨144,aK,Uj,L63 n d l ((k+1:Nat):Int) (k+1) (zX (nth (((aX (k+1)).map d).map keyS))) ak,Zx l⟩]:List OZ)[0]?=ay t/\FB aB (C7 zW W7 (Ld LK) Ap) (K0 H0 w0) t.g t.r t.td t.c t.stk φ:=by
    match r,hkr with
    |0,hkr=>omega |r+1,hkr=>exact ⟨_,rfl,akt hn hd hφ r (k+1) (by omega) (by omega)⟩
   repeat' (first|exact trivial|exact next|exact hk|exact hr|exact hin|exact hw|exact hs|exact rfl|refine bW ?_ ?_)
  ·have hk:k=n:=by simp at h;omega
   subst hk;have e:lst (List UInt8) k (zX (nth (((aX k).map d).map keyS)))=((aX k).map d).map keyS:=aeS _ hlen;have hsh:Io (Dn (((aX k).map d).map keyS) [59,32])=aC:=ag3 (by simpa using hn) fun s hs=>by
    obtain ⟨j,hj,rfl⟩:=dK.1 hs;exact hd j (dP.1 hj)
   refine ⟨?_,?_⟩
   ·simp only[abp,aI]
    exact ⟨⟨Dy _ _,room_le (by omega) (by omega)⟩,by rw[e];exact hsh⟩
   ·show φ (.str (Dn (lst (List UInt8) k (zX (nth (((aX k).map d).map keyS)))) [59,32]))
    rw[e];exact hφ
end
theorem O32:Ar aB (AZ W7) 92 F32:=by
 refine aqX (C:=C7 zW W7 (Ld LK) Ap) (dw _ _) (fn:=pJ) (by kernel_rfl) (by kernel_rfl) fun H w A8 args φ hrep h=>?_
 have hn:pJ.ntmps=17:=by kernel_rfl
 unfold F32 at h;split at h
 ·rename_i s0
  split at h
  ·rename_i n g hs
   obtain ⟨h1,h2,hφ⟩:=h;match args,hrep with
   |[v],⟨hv,_⟩=>
    refine ⟨[.agg [.sl 4 n (BZ (Ee n g))]],⟨MG hv fun u hu=>Es (BD hs hu) (Ql h1),trivial⟩,L0,?_⟩;generalize Ee n g=d at *;have hφ:φ (.str (adE ((aX n).map d))):=hφ;simp only[keysB,aI,decide_eq_true_eq] at h2;obtain ⟨h2,h3⟩:=h2;have hd:=Ii h3;refine NS (dw _ _) (ag4 _) nd7 (pause:=KL) (m:=300) (n:=800) (ts:=[⟨92,aK,.code agY::k32,L32 n d,[]⟩]) ?_;rw[hn,a32 zW W7 LK n d,Nk];refine ⟨⟨rfl,trivial⟩,_,rfl,?_⟩;refine aeM (dw _ _) (ag4 _) (fn:=pJ) (EY:=qJ) (g2:=144) (caps:=[.ptr 1 0]) (by kernel_rfl) (x:=.tmp 7) (ps:=#[8,9]) (ca:=AA (Af pJ) (0::agY)) (cb:=AA (Af pJ) (1::agY)) (by kernel_rfl) (by kernel_rfl) (by kernel_rfl) (by kernel_rfl) fun l=>?_
    have hn63:qJ.ntmps=20:=by kernel_rfl
    rw[hn63];refine NS (dw _ _) (ag4 _) nd7 (pause:=KL) (m:=300) (n:=800) (ts:=[⟨144,aK,Uj,L63 n d l ((0:Nat):Int) 0 noT aC,Zx l⟩]) ?_;refine (congrArg (TA _) (t32 zW W7 LK n d l ((0:Nat):Int) 0 noT)).mpr ?_;rw[Nk];refine ⟨room_le (by omega) (by omega),?_,_,rfl,?_⟩
    ·repeat' (first|exact trivial|exact rfl|exact fun _ _=>rfl|refine bW ?_ ?_)
    refine Y1 (fn:=qJ) (tb:=aks) (by kernel_rfl) (by kernel_rfl) ?_;refine NS (dw _ _) (ag4 _) nd7 (pause:=KL) (m:=300) (n:=800) (ts:=[⟨144,aK,Uj,L63 n d l ((1:Nat):Int) 1 (zX (nth (((aX 1).map d).map keyS))) ak,Zx l⟩]) ?_;refine (congrArg (TA _) (avE zW W7 LK n d l ((0:Nat):Int) ((1:Nat):Int) 0 1 noT (zX (nth (((aX 1).map d).map keyS))))).mpr ?_;rw[Nk];simp only[Ad,Bl,CJ,Dj,GY,fK];rw[aiQ (d 0)];refine ⟨fun h=>?_,fun h=>?_⟩
    ·have hlt:0<n:=by simp at h;omega
     have hk:=ag1 (hd 0 hlt);have hin:decide (0<=((0:Nat):Int)/\((0:Nat):Int)<(n:Int))=aC:=by simp;omega
     have hw:aN.wrap (((0:Nat):Int)+1)=((1:Nat):Int):=by rw[BL (by omega) (by omega)];rfl
     have hs:∀i,i<1->AU [[.str (keyS (d 0))]] i=zX (nth (((aX 1).map d).map keyS)) i:=fun i hi=>by
      obtain rfl:i=0:=by omega
      rfl
     have next:∃t:OZ,([⟨144,aK,Uj,L63 n d l ((1:Nat):Int) 1 (zX (nth (((aX 1).map d).map keyS))) ak,Zx l⟩]:List OZ)[0]?=ay t/\FB aB (C7 zW W7 (Ld LK) Ap) (K0 H w) t.g t.r t.td t.c t.stk φ:=
      ⟨_,rfl,akt h2 hd hφ (n - 1) 1 (by omega) (by omega)⟩
     repeat' (first|exact trivial|exact next|exact hk|exact hin|exact hw|exact hs|exact rfl|refine bW ?_ ?_)
    ·have:n=0:=by simp at h;omega
     subst this;refine ⟨rfl,hφ⟩
  ·exact h.elim
 ·exact h.elim
end Go.Proofs
namespace Go.Pl
open Go Go.Sx
structure Lb7 where
 op:Cm->Int->Int->Int->Cm
 r:Cm->Int->Int->Int->Int
 g:Cm->Int->Int->Int->Int
 key:Cm->List UInt8
 join:List (List UInt8)->List UInt8->List UInt8
 at_:Nat->(Nat->List Sh)->Int->Cm
def abr(a:Nat):Bool:=Bo (a+1) 8
end Go.Pl
namespace Go.Proofs
open Go Go.Sx Go.Pl
noncomputable def G33(L:Lb7):List Sh->Tree Sh
 |[.agg [s0],t]=>match DV 4 s0,AY t with
  |some (n,g),ay i=>.need (stB n g) (.leaf (.Ak [.agg [.i .i64 (L.at_ n g i).kind,.i .i64 (L.at_ n g i).num,.sl 1 (len (L.at_ n g i).q) (zX (nth (L.at_ n g i).q)),.sl 2 (len (L.at_ n g i).ps) (zX (nth (L.at_ n g i).ps))],.b (JC n i)])) |_,_=>.fail
 |_=>.fail
def G42(L:Lb7):List Sh->Tree Sh
 |[.agg [.i .i64 x,.i .i64 y,s2,s3],t,u,v]=>match DV 1 s2,DV 2 s3,AY t,AY u,AY v with
  |some (a,h),ay (b,l),ay op,ay k,ay v=>.need (okB Int a h) (.need (okB Pr b l) (.need (abr a) (.node (Gw x op) (.leaf (.Ak [.agg [.i .i64 0,.i .i64 0,.sl 1 0 noI,.sl 2 0 noP],.i .i64 0,.i .i64 0,.er 8 329])) (.node (Ij x y op k v) (.leaf (.Ak [.agg [.i .i64 0,.i .i64 0,.sl 1 0 noI,.sl 2 0 noP],.i .i64 0,.i .i64 0,.er 15 329]))
    (.need (J9 op b l) (.leaf (.Ak [.agg [.i .i64 (L.op (sQ x y a h b l) op k v).kind,.i .i64 (L.op (sQ x y a h b l) op k v).num,.sl 1 (len (L.op (sQ x y a h b l) op k v).q) (zX (nth (L.op (sQ x y a h b l) op k v).q)),.sl 2 (len (L.op (sQ x y a h b l) op k v).ps) (zX (nth (L.op (sQ x y a h b l) op k v).ps))],.i .i64 (L.r (sQ x y a h b l) op k v),.i .i64 (L.g (sQ x y a h b l) op k v),.v .nilIface])))))))
  |_,_,_,_,_=>.fail
 |_=>.fail
noncomputable def Yi(L:Lb7):Nat->Option (List Sh->Tree Sh)
 |119=>ay (G33 L) |120=>ay (G42 L) |121=>ay F54 |_=>aK
theorem a29(A:Prim)(W:Wd)(L:Lb7)(n:Nat)(d:Nat->Cm)(i op k v:Int):AQ (C7 A W (Yi L) Ap) Bh 300 400 97 [.code []] (Aa 52 [.agg [.sl 4 n (BZ d)],.i .i64 i,.i .i64 op,.i .i64 k,.i .i64 v] L0) [] []=aH (stB n (BZ d)) (aF (A.nt (JC n i)) (aA (aP (cZ [bH [aG 0 0 fun (x:Nat)=>[]],aW .i64 (ah 0),aW .i64 (ah 0),aZ 7 329]))) (aH (okB Int (len (L.at_ n (BZ d) i).q) (zX (nth (L.at_ n (BZ d) i).q))) (aH (okB Pr (len (L.at_ n (BZ d) i).ps) (zX (nth (L.at_ n (BZ d) i).ps))) (aH (abr (len (L.at_ n (BZ d) i).q)) (aF (Gw (L.at_ n (BZ d) i).kind op) (aA (aP (cZ [bH [aG 0 0 fun (x:Nat)=>[]],aW .i64 (ah 0),aW .i64 (ah 0),aZ 8 329]))) (aF (Ij (L.at_ n (BZ d) i).kind (L.at_ n (BZ d) i).num op k v) (aA (aP (cZ [bH [aG 0 0 fun (x:Nat)=>[]],aW .i64 (ah 0),aW .i64 (ah 0),aZ 15 329]))) (aH (J9 op (len (L.at_ n (BZ d) i).ps) (zX (nth (L.at_ n (BZ d) i).ps))) (aH (Bo n 64) (aH (stB n (BZ d)) (aA (aP (cZ [bH [aG 4 n (RS n (BZ d) i [aW .i64 (L.op (sQ (L.at_ n (BZ d) i).kind (L.at_ n (BZ d) i).num (len (L.at_ n (BZ d) i).q) (zX (nth (L.at_ n (BZ d) i).q)) (len (L.at_ n (BZ d) i).ps) (zX (nth (L.at_ n (BZ d) i).ps))) op k v).kind,aW .i64 (L.op (sQ (L.at_ n (BZ d) i).kind (L.at_ n (BZ d) i).num (len (L.at_ n (BZ d) i).q) (zX (nth (L.at_ n (BZ d) i).q)) (len (L.at_ n (BZ d) i).ps) (zX (nth (L.at_ n (BZ d) i).ps))) op k v).num,aG 1 (len (L.op (sQ (L.at_ n (BZ d) i).kind (L.at_ n (BZ d) i).num (len (L.at_ n (BZ d) i).q) (zX (nth (L.at_ n (BZ d) i).q)) (len (L.at_ n (BZ d) i).ps) (zX (nth (L.at_ n (BZ d) i).ps))) op k v).q) (zX (nth (L.op (sQ (L.at_ n (BZ d) i).kind (L.at_ n (BZ d) i).num (len (L.at_ n (BZ d) i).q) (zX (nth (L.at_ n (BZ d) i).q)) (len (L.at_ n (BZ d) i).ps) (zX (nth (L.at_ n (BZ d) i).ps))) op k v).q)),aG 2 (len (L.op (sQ (L.at_ n (BZ d) i).kind (L.at_ n (BZ d) i).num (len (L.at_ n (BZ d) i).q) (zX (nth (L.at_ n (BZ d) i).q)) (len (L.at_ n (BZ d) i).ps) (zX (nth (L.at_ n (BZ d) i).ps))) op k v).ps) (zX (nth (L.op (sQ (L.at_ n (BZ d) i).kind (L.at_ n (BZ d) i).num (len (L.at_ n (BZ d) i).q) (zX (nth (L.at_ n (BZ d) i).q)) (len (L.at_ n (BZ d) i).ps) (zX (nth (L.at_ n (BZ d) i).ps))) op k v).ps))])],aW .i64 (L.r (sQ (L.at_ n (BZ d) i).kind (L.at_ n (BZ d) i).num (len (L.at_ n (BZ d) i).q) (zX (nth (L.at_ n (BZ d) i).q)) (len (L.at_ n (BZ d) i).ps) (zX (nth (L.at_ n (BZ d) i).ps))) op k v),aW .i64 (L.g (sQ (L.at_ n (BZ d) i).kind (L.at_ n (BZ d) i).num (len (L.at_ n (BZ d) i).q) (zX (nth (L.at_ n (BZ d) i).q)) (len (L.at_ n (BZ d) i).ps) (zX (nth (L.at_ n (BZ d) i).ps))) op k v),Sh.v bI])))))))))))):=by kernel_rfl
end Go.Proofs
namespace Go.Pl
open Go Go.Sx Go.Proofs
noncomputable def L7:Lb7 where
 op s o k v:=(ED s o k v).1
 r s o k v:=(ED s o k v).2.1
 g s o k v:=(ED s o k v).2.2
 key:=keyS
 join:=Dn
 at_ n g i:=atT n (Ee n g) i
end Go.Pl
namespace Go.Proofs
open Go Go.Sx Go.Pl
theorem avK:Ar aB (AZ W7) 119 (G33 L7):=O33
theorem avL:Ar aB (AZ W7) 120 (G42 L7):=O42
theorem OEs:∀g F,Yi L7 g=ay F->Ar aB (AZ W7) g F:=fun g F h=>by
 unfold Yi at h;split at h
 ·cases h;exact avK
 ·cases h;exact avL
 ·cases h;exact O54
 ·cases h
theorem avM(stop:Nat->List Nat->Bool):BA aB (C7 zW W7 (Yi L7) stop):=lS OEs fun g h=>by
 unfold Yi at h;split at h;all_goals first|(cases h;done) |kernel_rfl
noncomputable def F29:List Sh->Tree Sh
 |[.agg [s0],t,u,v,w]=>match DV 4 s0,AY t,AY u,AY v,AY w with
  |some (n,g),ay i,ay op,ay k,ay v=>.need (stB n g) (.need (Bo n 64) (.node (JC n i) (.need (abr (Ee n g i.toNat).q.length) (.node (Gw (Ee n g i.toNat).kind op) (.leaf (.Ak [.agg [.sl 4 0 noT],.i .i64 0,.i .i64 0,.er 8 329])) (.node (Ij (Ee n g i.toNat).kind (Ee n g i.toNat).num op k v) (.leaf (.Ak [.agg [.sl 4 0 noT],.i .i64 0,.i .i64 0,.er 15 329]))
    (.need (J9 op (len (Ee n g i.toNat).ps) (zX (nth (Ee n g i.toNat).ps))) (.leaf (.Ak [.agg [.sl 4 n (RS n g i (CY (ED (Ee n g i.toNat) op k v).1))],.i .i64 (ED (Ee n g i.toNat) op k v).2.1,.i .i64 (ED (Ee n g i.toNat) op k v).2.2,.v .nilIface]))))))
   (.leaf (.Ak [.agg [.sl 4 0 noT],.i .i64 0,.i .i64 0,.er 7 329]))))
  |_,_,_,_,_=>.fail
 |_=>.fail
theorem O29:Ar aB (AZ W7) 97 F29:=by
 refine DU (C:=C7 zW W7 (Yi L7) Ap) (dw _ _) (avM _) (m:=300) (n:=400) (L:=L0) (fn:=Tryz.f97) (by kernel_rfl) (by kernel_rfl) fun H w A8 args φ hrep h=>?_
 have hn:Tryz.f97.ntmps=52:=by kernel_rfl
 unfold F29 at h;split at h
 ·rename_i s0 t u v ww
  split at h
  ·rename_i n g i op k vv hs ht hu hv hw
   obtain ⟨h1,h2,hin,hout⟩:=h;have hout:JC n i=ak->φ (.Ak [.agg [.sl 4 0 noT],.i .i64 0,.i .i64 0,.er 7 329]):=hout;match args,hrep with
   |[v0,v1,v2,v3,v4],⟨r0,r1,r2,r3,r4,_⟩=>
    refine ⟨[.agg [.sl 4 n (BZ (Ee n g))],.i .i64 i,.i .i64 op,.i .i64 k,.i .i64 vv],⟨MG r0 fun u hu=>Es (BD hs hu) (Ql h1),Ej ht r1,Ej hu r2,Ej hv r3,Ej hw r4,trivial⟩,?_⟩;have hrow:=Ql h1;have her (T:Nat) (g0:Nat) (hp:φ (.Ak [.agg [.sl 4 0 noT],.i .i64 0,.i .i64 0,.er g0 329])):up φ (.Ak [.agg [.sl 0 0 fun _=>[]],.i .i64 (ah 0),.i .i64 (ah 0),.er g0 329]):=
     BH (s':=.Ak [.agg [.sl 4 0 noT],.i .i64 0,.i .i64 0,.er g0 329]) ⟨⟨.inl ⟨rfl,rfl⟩,trivial⟩,rfl,rfl,rfl,trivial⟩ hp
    rw[hn,a29 zW W7 L7 n (Ee n g) i op k vv];have e1:L7.at_ n (BZ (Ee n g)) i=atT n (Ee n (BZ (Ee n g))) i:=rfl;rw[e1];refine ⟨abh n _,fun e=>her 0 7 (hout (by simpa[BQ] using e)),fun e=>?_⟩;have e:JC n i=aC:=by simpa[BQ] using e
    obtain ⟨q1,q3,q4⟩:=hin e;have hlt:i.toNat<n:=by simp[JC] at e;omega
    have e2:atT n (Ee n (BZ (Ee n g))) i=Ee n g i.toNat:=by simp[atT,e,anI i.toNat hlt]
    rw[e2,aiQ];have q4:Gw (Ee n g i.toNat).kind op=ak->(Ij (Ee n g i.toNat).kind (Ee n g i.toNat).num op k vv=aC->φ (.Ak [.agg [.sl 4 0 noT],.i .i64 0,.i .i64 0,.er 15 329]))/\(Ij (Ee n g i.toNat).kind (Ee n g i.toNat).num op k vv=ak->J9 op (len (Ee n g i.toNat).ps) (zX (nth (Ee n g i.toNat).ps))=aC/\φ (.Ak [.agg [.sl 4 n (RS n g i (CY (ED (Ee n g i.toNat) op k vv).1))],.i .i64 (ED (Ee n g i.toNat) op k vv).2.1,.i .i64 (ED (Ee n g i.toNat) op k vv).2.2,.v .nilIface])):=q4;refine ⟨Dy _ _,Dy _ _,q1,fun e=>her 0 8 (q3 e),fun e=>⟨fun e'=>her 0 15 ((q4 e).1 e'),fun e'=>⟨((q4 e).2 e').1,h2,abh n _,BH (s':=.Ak [.agg [.sl 4 n (RS n g i (CY (ED (Ee n g i.toNat) op k vv).1))],.i .i64 (ED (Ee n g i.toNat) op k vv).2.1,.i .i64 (ED (Ee n g i.toNat) op k vv).2.2,.v .nilIface]) ⟨⟨.inr ⟨rfl,rfl,fun j hj=>?_⟩,trivial⟩,rfl,rfl,rfl,trivial⟩ ((q4 e).2 e').2⟩⟩⟩;unfold RS;split
    ·rfl
    ·exact (hrow j hj).symm
  ·exact h.elim
 ·exact h.elim
end Go.Proofs
namespace Go.Pl
open Go Go.Sx
structure Ef where
 id:Int
 th:Int
 st:Int
 bg:Int
 en:Int
 tr:Int
 k:Nat
 g:Nat->List Sh
instance:Inhabited Ef:=⟨⟨0,0,0,0,0,0,0,fun _=>[]⟩⟩
instance:Row Ef where
 put t:=[.i .i64 t.id,.i .i64 t.th,.i .i64 t.st,.i .i64 t.bg,.i .i64 t.en,.i .i64 t.tr,.sl 8 t.k t.g]
 get l:=match l with
  |[.i .i64 a,.i .i64 b,.i .i64 c,.i .i64 d,.i .i64 e,.i .i64 f,.sl 8 k g]=>ay ⟨a,b,c,d,e,f,k,g⟩ |_=>aK
 Dp l a h:=by
  split at h
  ·cases h;rfl
  ·cases h
 get_put a:=rfl
 Jm:=default
structure Dd where
 obj:Int
 op:Int
 key:Int
 val:Int
 ret:Int
 got:Int
 at_:Int
 back:Int
 deriving DecidableEq,Inhabited
instance:Row Dd where
 put d:=[.i .i64 d.obj,.i .i64 d.op,.i .i64 d.key,.i .i64 d.val,.i .i64 d.ret,.i .i64 d.got,.i .i64 d.at_,.i .i64 d.back]
 get l:=match l with
  |[.i .i64 a,.i .i64 b,.i .i64 c,.i .i64 d,.i .i64 e,.i .i64 f,.i .i64 g,.i .i64 h]=>ay ⟨a,b,c,d,e,f,g,h⟩ |_=>aK
 Dp l a h:=by
  split at h
  ·cases h;rfl
  ·cases h
 get_put a:=rfl
 Jm:=default
structure U5 where
 placed:Int
 n:Nat
 g:Nat->List Sh
instance:Inhabited U5:=⟨⟨0,0,fun _=>[]⟩⟩
instance:Row U5 where
 put x:=[.i .i64 x.placed,.sl 4 x.n x.g]
 get l:=match l with
  |[.i .i64 a,.sl 4 n g]=>ay ⟨a,n,g⟩ |_=>aK
 Dp l a h:=by
  split at h
  ·cases h;rfl
  ·cases h
 get_put a:=rfl
 Jm:=default
structure Jo where
 tx:Int
 com:Bool
 placed:Int
 n:Nat
 g:Nat->List Sh
instance:Inhabited Jo:=⟨⟨0,ak,0,0,fun _=>[]⟩⟩
instance:Row Jo where
 put x:=[.i .i64 x.tx,.b x.com,.i .i64 x.placed,.sl 4 x.n x.g]
 get l:=match l with
  |[.i .i64 t,.b c,.i .i64 a,.sl 4 n g]=>ay ⟨t,c,a,n,g⟩ |_=>aK
 Dp l a h:=by
  split at h
  ·cases h;rfl
  ·cases h
 get_put a:=rfl
 Jm:=default
def Yj(n:Nat)(d:Nat->Cm)(i op k v:Int):Bool:=JC n i && !Gw (d i.toNat).kind op && !Ij (d i.toNat).kind (d i.toNat).num op k v
def erN(n:Nat)(d:Nat->Cm)(i op k v:Int):Nat:=if JC n i=aC then (if Gw (d i.toNat).kind op=aC then 8 else 15) else 7
def abt(n:Nat)(d:Nat->Cm)(i op:Int):Bool:=!JC n i||(Go.Pl.abr (d i.toNat).q.length&&J9 op (len (d i.toNat).ps) (zX (nth (d i.toNat).ps)))
noncomputable def TU(n:Nat)(g:Nat->List Sh)(i op k v:Int):Bool:=Yj n (Ee n g) i op k v
noncomputable def adF(n:Nat)(g:Nat->List Sh)(i op:Int):Bool:=stB n g&&(Bo n 64&&abt n (Ee n g) i op)
noncomputable def erG(n:Nat)(g:Nat->List Sh)(i op k v:Int):Nat:=erN n (Ee n g) i op k v
noncomputable def abu(n:Nat)(g:Nat->List Sh)(i op k v:Int):Nat->List Sh:=RS n g i (CY (ED (Ee n g i.toNat) op k v).1)
noncomputable def ag5(n:Nat)(g:Nat->List Sh)(i op k v:Int):Int:=(ED (Ee n g i.toNat) op k v).2.1
noncomputable def ag6(n:Nat)(g:Nat->List Sh)(i op k v:Int):Int:=(ED (Ee n g i.toNat) op k v).2.2
end Go.Pl
namespace Go.Proofs
open Go Go.Sx Go.Pl
noncomputable def D29:List Sh->Tree Sh
 |[.agg [s0],t,u,v,w]=>match DV 4 s0,AY t,AY u,AY v,AY w with
  |some (n,g),ay i,ay op,ay k,ay v=>.need (adF n g i op) (.node (TU n g i op k v)
   (.leaf (.Ak [.agg [.sl 4 n (abu n g i op k v)],.i .i64 (ag5 n g i op k v),.i .i64 (ag6 n g i op k v),.v .nilIface]))
   (.leaf (.Ak [.agg [.sl 4 0 noT],.i .i64 0,.i .i64 0,.er (erG n g i op k v) 329])))
  |_,_,_,_,_=>.fail
 |_=>.fail
noncomputable def Qs:Nat->Option (List Sh->Tree Sh)
 |97=>ay D29 |_=>aK
def Y5:List It:=[bD [0,1,0,1],dD 0,bD [1,1]]
def aoi:List It:=bD [0,0,1,0,1]::Y5
def Y6(n:Nat)(g:Nat->List Sh)(m:Nat)(dd:Nat->Dd)(i:Int):Core:={tm:=Gv 54 [(2,.ptr 0 0),(4,.ptr 1 0),(12,.sh (.sl 8 m (zX dd))),(13,.sym .i64 (m:Int)),(14,.sym .i64 i)],hp:=[(0,.box [.sh (.sl 4 n g)] 100),(1,.box [.Aw] 100)],nx:=2,lim:=L0,tc:=[]}
end Go.Proofs
namespace Go.Sx
@[irreducible] def Cc (ψ:D8->Prop) (t:Tree D8):Prop:=t.All ψ
theorem Qu(ψ:D8->Prop)(t:Tree D8):Cc ψ t=t.All ψ:=by unfold Cc;rfl
theorem EJ{P:Program}{C:Ctx}{H0:Mem}{w0:World}(hC:Ba P C)(hF:BA P C){m n g:Nat}{td:List It}{c:Core}{stk:List Fr}{ts:List ND}{R:Hp->Prop}{φ:Sh->Prop}{hold:Nat->Bool}
  (h:Cc (Jz P C (K0 H0 w0) ts R φ) (AQ C hold m n g td c stk ts)):Bd P C (K0 H0 w0) g td c stk R φ:=Hl hC hF (by rw[Qu] at h;exact h)
end Go.Sx
namespace Go.Pl
end Go.Pl
namespace Go.Proofs
open Go Go.Sx Go.Pl
theorem aoj{P:Program}{gls:List (Nat×Sh)}{g:Nat}{F G:List Sh->Tree Sh}(hF:Ar P gls g F)(h:∀(A8:List Sh) (φ:Sh->Prop),(G A8).All φ->∃s':Sh,φ s'/\(F A8).All fun s=>Wk s s'):Ar P gls g G:=by
 intro H w A8 args φ hon hg hr hφ;obtain ⟨s',h1,h2⟩:=h A8 φ hφ;refine (hF H w A8 args _ hon hg hr h2).mono fun e w' ⟨v,s,H',he,hs,r⟩=>?_;obtain ⟨H2,r2⟩:=r.wk hs;exact ⟨v,s',H2,he,h1,r2⟩
theorem aok{st n:Nat}{g:Nat->List Sh}:Wk (.sl st n g) (.sl st n g):=.inr ⟨rfl,rfl,fun _ _=>rfl⟩
theorem add1{j:Nat}(h:j<=100000):zW.add .i64 (j:Int) (ah 1)=((j+1:Nat):Int):=by
 show aN.wrap ((j:Int)+1)=_;rw[BL (by omega) (by omega)];rfl
end Go.Proofs
namespace Go.Sx
def Bj.dg:Bj->Bj
 | .int a _=>.int a a | .nat a _=>.nat a a | .bool a _=>.bool a a | .str a _=>.str a a | .val a _=>.val a a | .sh a _=>.sh a a | .get n g _=>.get n g g | .Lp g _=>.Lp g g | .mp M _=>.mp M M | .mg M _=>.mg M M
theorem aku:∀l:List Bj,Bj.all (l.map Bj.dg)
 |[]=>trivial |e::l=>⟨by cases e<;>first|rfl|exact fun _ _=>rfl,aku l⟩
def Tree.dg{α:Type}:Tree α->Tree α
 | .leaf a=>.leaf a | .node b t f=>.node b t.dg f.dg | .need b t=>.need b t.dg | .must l t=>.must (l.map Bj.dg) t.dg | .both t f=>.both t.dg f.dg | .fail=>.fail
def Tree.WS{α:Type}(φ:α->Prop):Tree α->Prop
 | .leaf a=>φ a | .node b t f=>(b=aC->t.WS φ)/\(b=ak->f.WS φ) | .need b t=>b=aC/\t.WS φ | .must _ t=>t.WS φ | .both t f=>t.WS φ/\f.WS φ | .fail=>False
theorem Tree.abv{α:Type}{φ:α->Prop}:∀{t:Tree α},t.WS φ->t.dg.All φ
 | .leaf _,h=>h | .node _ _ _,h=>⟨fun e=>Tree.abv (h.1 e),fun e=>Tree.abv (h.2 e)⟩ | .need _ _,h=>⟨h.1,Tree.abv h.2⟩ | .must l _,h=>⟨aku l,Tree.abv h⟩ | .both _ _,h=>⟨Tree.abv h.1,Tree.abv h.2⟩ | .fail,h=>h
theorem Gh{P:Prop}{ψ:D8->Prop}{t:Tree D8}(k:P)(e:P=t.All ψ):Cc ψ t:=by
 rw[Qu,<-e];exact k
theorem aol{P:Prop}{ψ:D8->Prop}{t:Tree D8}(h:t.dg=t)(k:P)(e:P=t.WS ψ):Cc ψ t:=by
 rw[Qu,<-h];exact Tree.abv (e ▸ k:t.WS ψ)
theorem an{a b:Prop}(x:a)(y:b):a/\b:=⟨x,y⟩
end Go.Sx
namespace Go.Proofs
open Go Go.Sx Go.Pl
theorem aom(A:Prim)(W:Wd)(n:Nat)(g:Nat->List Sh)(m:Nat)(dd:Nat->Dd)(i':Int){ψ:D8->Prop}(y1:ψ (bJ 0 [aQ (aG 8 m (zX dd)) (aG 8 m (zX dd)),aj (A.AO m) (ah m),aj (ah 0) i',aQ (aG 4 n g) (aG 4 n g)])):Cc ψ (AQ (C7 A W Qs Ap) Bh 300 400 76 [.code []] (Aa 54 [.agg [.sl 4 n g],.sl 8 m (zX dd)] L0) [] [⟨76,Y5,Y6 n g m dd i',[]⟩]):=by
 exact Gh y1 (by kernel_rfl)
theorem abw(A:Prim)(W:Wd)(n:Nat)(g g':Nat->List Sh)(m:Nat)(dd:Nat->Dd)(i i':Int){ψ:D8->Prop}{c0 c1 c2 c3 c4:Bool}(e0:A.lt i (ah m)=c0)(e1:A.eq (dd (A.toN i)).ret (ah 0)=c1)(e2:TU n g (dd (A.toN i)).obj (dd (A.toN i)).op (dd (A.toN i)).key (dd (A.toN i)).val=c2)(e3:A.nt (A.eq (ag5 n g (dd (A.toN i)).obj (dd (A.toN i)).op (dd (A.toN i)).key (dd (A.toN i)).val) (dd (A.toN i)).ret)=c3)(e4:A.nt (A.eq (ag6 n g (dd (A.toN i)).obj (dd (A.toN i)).op (dd (A.toN i)).key (dd (A.toN i)).val) (dd (A.toN i)).got)=c4)(h1:c0=aC->(A.inB i m)=aC)(h2:c0=aC->c1=ak->(adF n g (dd (A.toN i)).obj (dd (A.toN i)).op)=aC)(y1:c0=aC->c1=aC->ψ (bJ 0 [aQ (aG 8 m (zX dd)) (aG 8 m (zX dd)),aj (ah m) (ah m),aj (A.add .i64 i (ah 1)) i',aQ (aG 4 n g) (aG 4 n g')]))(y2:c0=aC->c1=ak->c2=aC->c3=aC->ψ (aP (cZ [bH [aG 0 0 fun _=>[]],pK 109 (sU [aW .i64 i,aZ 13 329])])))(y3:c0=aC->c1=ak->c2=aC->c3=ak->c4=aC->ψ (aP (cZ [bH [aG 0 0 fun _=>[]],pK 109 (sU [aW .i64 i,aZ 13 329])])))(y4:c0=aC->c1=ak->c2=aC->c3=ak->c4=ak->ψ (bJ 0 [aQ (aG 8 m (zX dd)) (aG 8 m (zX dd)),aj (ah m) (ah m),aj (A.add .i64 i (ah 1)) i',aQ (aG 4 n (abu n g (dd (A.toN i)).obj (dd (A.toN i)).op (dd (A.toN i)).key (dd (A.toN i)).val)) (aG 4 n g')]))(y5:c0=aC->c1=ak->c2=ak->ψ (aP (cZ [bH [aG 0 0 fun _=>[]],pK 109 (sU [aW .i64 i,aZ (erG n g (dd (A.toN i)).obj (dd (A.toN i)).op (dd (A.toN i)).key (dd (A.toN i)).val) 329])])))(y6:c0=ak->ψ (aP (cZ [bH [aG 4 n g],Sh.v bI]))):Cc ψ (AQ (C7 A W Qs Ap) Bh 300 400 76 aoi (Y6 n g m dd i) [] [⟨76,Y5,Y6 n g' m dd i',[]⟩]):=by
 subst e0 e1 e2 e3 e4;exact Gh (an (fun q0=>an (h1 q0) (an (y1 q0) (fun q1=>an (h2 q0 q1) (an (fun q2=>an (y2 q0 q1 q2) (fun q3=>an (y3 q0 q1 q2 q3) (y4 q0 q1 q2 q3))) (y5 q0 q1))))) y6) (by kernel_rfl)
end Go.Proofs
namespace Go.Pl
open Go Go.Sx Go.Proofs
noncomputable def H7(n:Nat):(Nat->List Sh)->Nat->List Dd->(Nat×Nat) ⊕ (Nat->List Sh)
 |g,_,[]=>.inr g |g,i,d::l=>if d.ret=0 then H7 n g (i+1) l else if TU n g d.obj d.op d.key d.val=aC then
   (if ag5 n g d.obj d.op d.key d.val=d.ret/\ag6 n g d.obj d.op d.key d.val=d.got then H7 n (abu n g d.obj d.op d.key d.val) (i+1) l else .inl (i,13)) else .inl (i,erG n g d.obj d.op d.key d.val)
noncomputable def Uk(n:Nat):(Nat->List Sh)->List Dd->Prop
 |_,[]=>True |g,d::l=>if d.ret=0 then Uk n g l else adF n g d.obj d.op=aC/\(TU n g d.obj d.op d.key d.val=aC->Uk n (abu n g d.obj d.op d.key d.val) l)
end Go.Pl
namespace Go.Proofs
open Go Go.Sx Go.Pl
noncomputable def aon(φ:Sh->Prop)(n:Nat):(Nat×Nat) ⊕ (Nat->List Sh)->Prop
 | .inr g=>φ (.Ak [.agg [.sl 4 n g],.v .nilIface]) | .inl (i,e)=>φ (.Ak [.agg [.sl 4 0 noT],.CS 109 (.pt [.i .i64 (i:Nat),.er e 329])])
theorem aeX(OD:Ar aB (AZ W7) 97 D29)(stop:Nat->List Nat->Bool):BA aB (C7 zW W7 Qs stop):=lS (fun g F h=>by
 unfold Qs at h;split at h
 ·cases h;exact OD
 ·cases h) fun g h=>by
 unfold Qs at h;split at h;all_goals first|(cases h;done) |kernel_rfl
section
variable{H0:Mem}{w0:World}{φ:Sh->Prop}{n m:Nat}{dd:Nat->Dd}
theorem aeY(OD:Ar aB (AZ W7) 97 D29)(hm:m<=100000):∀r i g,i+r=m->Uk n g ((aX r).map fun j=>dd (i+j))->aon φ n (H7 n g i ((aX r).map fun j=>dd (i+j)))->
  Bd aB (C7 zW W7 Qs Ap) (K0 H0 w0) 76 Y5 (Y6 n g m dd (i:Nat)) [] emp (up φ)
 |0,i,g,hi,hf,hφ=>by
  refine Gu (fn:=rM) (tb:=aoi) (by kernel_rfl) (by kernel_rfl) ?_;refine EJ (dw _ _) (aeX OD _) (hold:=Bh) (m:=300) (n:=400) (ts:=[⟨76,Y5,Y6 n g m dd 0,[]⟩]) ?_;have lt {P:Prop} (h:zW.lt (i:Int) (ah m)=aC):P:=by simp[Ad] at h;omega
  have hφ:φ (.Ak [.agg [.sl 4 n g],.v .nilIface]):=hφ;exact abw zW W7 n g g m dd i 0 rfl rfl rfl rfl rfl (fun q=>lt q) (fun q=>lt q) (fun q=>lt q) (fun q=>lt q) (fun q=>lt q) (fun q=>lt q) (fun q=>lt q) (fun _=>BH (s':=.Ak [.agg [.sl 4 n g],.v .nilIface]) ⟨⟨aok,trivial⟩,rfl,trivial⟩ hφ)
 |r+1,i,g,hi,hf,hφ=>by
  refine Gu (fn:=rM) (tb:=aoi) (by kernel_rfl) (by kernel_rfl) ?_;have w1:zW.add .i64 (i:Int) (ah 1)=((i+1:Nat):Int):=add1 (by omega);have no {P:Prop} (h:zW.lt (i:Int) (ah m)=ak):P:=by simp[Ad] at h;omega
  have inb (h:zW.lt (i:Int) (ah m)=aC):zW.inB (i:Int) m=aC:=by simp[Bl];omega
  have el:(aX (r+1)).map (fun j=>dd (i+j))=dd i::(aX r).map fun j=>dd (i+1+j):=by
   rw[List.range_succ_eq_map,List.map_cons,List.map_map];congr 1;refine jO fun j _=>?_
   show dd (i+(j+1))=dd (i+1+j);rw[show i+(j+1)=i+1+j by omega]
  rw[el] at hf hφ;have bad (e:Nat) (h:φ (.Ak [.agg [.sl 4 0 noT],.CS 109 (.pt [.i .i64 (i:Nat),.er e 329])])):up φ (.Ak [.agg [.sl 0 0 fun _=>[]],.CS 109 (.pt [.i .i64 (i:Nat),.er e 329])]):=
   BH (s':=.Ak [.agg [.sl 4 0 noT],.CS 109 (.pt [.i .i64 (i:Nat),.er e 329])]) ⟨⟨.inl ⟨rfl,rfl⟩,trivial⟩,rfl,trivial⟩ h
  by_cases h0:(dd i).ret=0
  ·have hf:Uk n g ((aX r).map fun j=>dd (i+1+j)):=by unfold Uk at hf;rwa[if_pos h0] at hf
   have hφ:aon φ n (H7 n g (i+1) ((aX r).map fun j=>dd (i+1+j))):=by unfold H7 at hφ;rwa[if_pos h0] at hφ
   have nx:=aeY OD hm r (i+1) g (by omega) hf hφ;refine EJ (dw _ _) (aeX OD _) (hold:=Bh) (m:=300) (n:=400) (ts:=[⟨76,Y5,Y6 n g m dd ((i+1:Nat):Int),[]⟩]) ?_;have c1 {P:Prop} (h:zW.eq (dd i).ret (ah 0)=ak):P:=by rw[h0] at h;simp[Aq] at h
   exact abw zW W7 n g g m dd i _ rfl rfl rfl rfl rfl inb (fun _ q=>c1 q) (fun _ _=>⟨⟨rfl,rfl,w1,rfl,trivial⟩,_,rfl,nx⟩) (fun _ q=>c1 q) (fun _ q=>c1 q) (fun _ q=>c1 q) (fun _ q=>c1 q) (fun q=>no q)
  ·have c1 {P:Prop} (h:zW.eq (dd i).ret (ah 0)=aC):P:=(h0 (by simpa[Aq] using h)).elim
   unfold Uk at hf;rw[if_neg h0] at hf;unfold H7 at hφ;rw[if_neg h0] at hφ;refine EJ (dw _ _) (aeX OD _) (hold:=Bh) (m:=300) (n:=400) (ts:=[⟨76,Y5,Y6 n (abu n g (dd i).obj (dd i).op (dd i).key (dd i).val) m dd ((i+1:Nat):Int),[]⟩]) ?_;have nte {a b:Int} (h:zW.nt (zW.eq a b)=aC):a≠b:=by simpa[BQ,Aq] using h
   have nfe {a b:Int} (h:zW.nt (zW.eq a b)=ak):a=b:=by simpa[BQ,Aq] using h
   refine abw zW W7 n g _ m dd i _ rfl rfl rfl rfl rfl inb (fun _ _=>hf.1) (fun _ q=>c1 q) ?_ ?_ ?_ ?_ (fun q=>no q)
   ·intro _ _ q2 q3
    have q2:TU n g (dd i).obj (dd i).op (dd i).key (dd i).val=aC:=q2;rw[if_pos q2,if_neg fun e=>nte q3 e.1] at hφ
    exact bad 13 hφ
   ·intro _ _ q2 _ q4
    have q2:TU n g (dd i).obj (dd i).op (dd i).key (dd i).val=aC:=q2;rw[if_pos q2,if_neg fun e=>nte q4 e.2] at hφ
    exact bad 13 hφ
   ·intro _ _ q2 q3 q4
    have q2:TU n g (dd i).obj (dd i).op (dd i).key (dd i).val=aC:=q2;rw[if_pos q2,if_pos ⟨nfe q3,nfe q4⟩] at hφ;exact ⟨⟨rfl,rfl,w1,rfl,trivial⟩,_,rfl,aeY OD hm r (i+1) _ (by omega) (hf.2 q2) hφ⟩
   ·intro _ _ q2
    have q2:TU n g (dd i).obj (dd i).op (dd i).key (dd i).val=ak:=q2;rw[if_neg (by rw[q2];simp)] at hφ;exact bad _ hφ
end
open Go Go.Sx Go.Pl
theorem asc:Ar aB (AZ W7) 97 D29:=O29.mono fun H A8 args φ hr h=>by
 unfold D29 at h;split at h
 ·split at h
  ·rename_i n g i op k v e0 e1 e2 e3 e4
   obtain ⟨h1,h2,h3⟩:=h;unfold adF at h1;rw[aI,aI] at h1;obtain ⟨a1,a2,a3⟩:=h1;unfold F29;simp only[e0,e1,e2,e3,e4];have no (e:Nat) (q:TU n g i op k v=ak) (q2:erG n g i op k v=e):φ (.Ak [.agg [.sl 4 0 noT],.i .i64 0,.i .i64 0,.er e 329]):=by
    have:=h3 q;rw[q2] at this;exact this
   refine ⟨a1,a2,fun q=>?_,fun q=>no 7 ?_ ?_⟩
   ·have b3:abr (Ee n g i.toNat).q.length=aC/\J9 op (len (Ee n g i.toNat).ps) (zX (nth (Ee n g i.toNat).ps))=aC:=by
     unfold abt at a3;rw[q] at a3;simpa using a3
    refine ⟨b3.1,fun b=>no 8 ?_ ?_,fun b=>⟨fun c=>no 15 ?_ ?_,fun c=>⟨b3.2,h2 ?_⟩⟩⟩
    ·unfold TU Yj;rw[b];simp
    ·unfold erG erN;rw[if_pos q,if_pos b]
    ·unfold TU Yj;rw[c];simp
    ·unfold erG erN;rw[if_pos q,if_neg (by rw[b];simp)]
    ·unfold TU Yj;rw[q,b,c];rfl
   ·unfold TU Yj;rw[q];rfl
   ·unfold erG erN;rw[if_neg (by rw[q];simp)]
  ·exact h.elim
 ·exact h.elim
noncomputable def akv(n:Nat)(g:Nat->List Sh)(l:List Dd):Bool:=@decide (Uk n g l) (bM _)
noncomputable def abx(n:Nat)(g:Nat->List Sh)(l:List Dd):Bool:=match H7 n g 0 l with
 | .inr _=>aC | .inl _=>ak
noncomputable def aby(n:Nat)(g:Nat->List Sh)(l:List Dd):Nat->List Sh:=match H7 n g 0 l with
 | .inr g=>g | .inl _=>noT
noncomputable def aiS(n:Nat)(g:Nat->List Sh)(l:List Dd):Nat:=match H7 n g 0 l with
 | .inr _=>0 | .inl (i,_)=>i
noncomputable def aiT(n:Nat)(g:Nat->List Sh)(l:List Dd):Nat:=match H7 n g 0 l with
 | .inr _=>0 | .inl (_,e)=>e
noncomputable def F76:List Sh->Tree Sh
 |[.agg [s0],s1]=>match DV 4 s0,DV 8 s1 with
  |some (n,g),ay (m,h)=>.need (okB Dd m h) (.need (decide (m<=100000)) (.need (akv n g (lst Dd m h)) (.node (abx n g (lst Dd m h))
   (.leaf (.Ak [.agg [.sl 4 n (aby n g (lst Dd m h))],.v .nilIface]))
   (.leaf (.Ak [.agg [.sl 4 0 noT],.CS 109 (.pt [.i .i64 (aiS n g (lst Dd m h)),.er (aiT n g (lst Dd m h)) 329])])))))
  |_,_=>.fail
 |_=>.fail
theorem O76:Ar aB (AZ W7) 76 F76:=by
 refine FN (C:=C7 zW W7 Qs Ap) (dw _ _) (fn:=rM) (by kernel_rfl) (by kernel_rfl) fun H w A8 args φ hrep h=>?_
 have hn:rM.ntmps=54:=by kernel_rfl
 unfold F76 at h;split at h
 ·rename_i s0 s1
  split at h
  ·rename_i n g m hh e0 e1
   obtain ⟨h1,h2,h3,h4,h5⟩:=h;have h2:=of_decide_eq_true h2;have h3:Uk n g (lst Dd m hh):=@of_decide_eq_true _ (bM _) h3;match args,hrep with
   |[v,u],⟨rv,ru,_⟩=>
    have rv':Rep H (.agg [.sl 4 n g]) v:=by
     cases rv with
     |agg _ vs hl hr=>
      refine .agg _ _ hl fun j s' v' q1 q2=>?_
      match j,q1 with
      |0,q1=>cases q1;exact BD e0 (hr 0 _ _ rfl q2) |j+1,q1=>cases q1
    refine ⟨[.agg [.sl 4 n g],.sl 8 m (zX (zZ (α:=Dd) hh))],⟨rv',Ei (BD e1 ru) h1,trivial⟩,L0,?_⟩;have hres:aon φ n (H7 n g 0 (lst Dd m hh)):=by
     unfold abx aby aiS aiT at *;cases hp:H7 n g 0 (lst Dd m hh) with
     |inr g'=>rw[hp] at h4;exact h4 rfl |inl q=>
      obtain ⟨i,e⟩:=q;rw[hp] at h5;exact h5 rfl
    have el:lst Dd m hh=(aX m).map fun j=>zZ (α:=Dd) hh (0+j):=by
     unfold lst;refine jO fun j _=>?_
     rw[Nat.zero_add]
    rw[el] at h3 hres;refine EJ (dw _ _) (aeX asc _) (hold:=Bh) (m:=300) (n:=400) (ts:=[⟨76,Y5,Y6 n g m (zZ (α:=Dd) hh) ((0:Nat):Int),[]⟩]) ?_;rw[hn];exact aom zW W7 n g m (zZ (α:=Dd) hh) _ ⟨⟨rfl,rfl,rfl,rfl,trivial⟩,_,rfl,aeY asc h2 m 0 g (by omega) h3 hres⟩
  ·exact h.elim
 ·exact h.elim
end Go.Proofs
namespace Go.Pl
open Go Go.Sx Go.Proofs
noncomputable def plN(n:Nat)(g:Nat->List Sh)(m:Nat)(h:Nat->List Sh):Bool:=okB Dd m h&&(decide (m<=100000)&&akv n g (lst Dd m h))
noncomputable def plO(n:Nat)(g:Nat->List Sh)(m:Nat)(h:Nat->List Sh):Bool:=abx n g (lst Dd m h)
noncomputable def TV(n:Nat)(g:Nat->List Sh)(m:Nat)(h:Nat->List Sh):Nat->List Sh:=aby n g (lst Dd m h)
noncomputable def plP(n:Nat)(g:Nat->List Sh)(m:Nat)(h:Nat->List Sh):Int:=aiS n g (lst Dd m h)
noncomputable def plE(n:Nat)(g:Nat->List Sh)(m:Nat)(h:Nat->List Sh):Nat:=aiT n g (lst Dd m h)
end Go.Pl
namespace Go.Proofs
open Go Go.Sx Go.Pl
noncomputable def D76:List Sh->Tree Sh
 |[.agg [s0],s1]=>match DV 4 s0,DV 8 s1 with
  |some (n,g),ay (m,h)=>.need (plN n g m h) (.node (plO n g m h)
   (.leaf (.Ak [.agg [.sl 4 n (TV n g m h)],.v .nilIface]))
   (.leaf (.Ak [.agg [.sl 4 0 noT],.CS 109 (.pt [.i .i64 (plP n g m h),.er (plE n g m h) 329])])))
  |_,_=>.fail
 |_=>.fail
noncomputable def NW:Nat->Option (List Sh->Tree Sh)
 |76=>ay D76 |_=>aK
def BK(lv:Int)(N:Nat)(T:Nat->Ef)(N':Nat)(mk:Nat->Int)(k0:Nat)(g0:Nat->List Sh):List Sh:=[.i .i64 lv,.sl 7 N (zX T),.sl 1 N' (zX mk),.sl 4 k0 g0]
def WT:List It:=[bD [0,1,0,1,1],dD 0,bD [1,1,1]]
def akw:List It:=bD [0,0,1,0,1,1]::WT
def Y7(lv:Int)(N:Nat)(T:Nat->Ef)(N':Nat)(mk:Nat->Int)(k0:Nat)(g0:Nat->List Sh)(p:Int)(n:Nat)(g:Nat->List Sh)(m:Nat)(R:Nat->Jo)(i:Int):Core:={tm:=Gv 104 [(0,.Gq 4 1 (fun _=>BK lv N T N' mk k0 g0) 0 0),(3,.ptr 0 0),(5,.gs 1),(15,.sh (.sl 7 N (zX T))),(16,.sym .i64 (N:Int)),(17,.sym .i64 i)],hp:=[(0,.box [.sym .i64 p,.sh (.sl 4 n g)] 104),(1,.own 108 4 m (zX R))],nx:=2,lim:=L0,tc:=[]}
end Go.Proofs
namespace Go.Bf
section
variable{α κ:Type}[DecidableEq κ](key:α->κ)(next:α->List α)
def JE(o:List α)(k:κ):Bool:=o.any fun n=>decide (key n=k)
def FQ(m:Nat)(o:List α)(n:α):Option (List α):=if JE key o (key n)=aC then ay o else if o.length=m then aK else ay (o++[n])
def Ez(m:Nat):List α->List α->Option (List α)
 |o,[]=>ay o |o,n::l=>match FQ key m o n with
  |none=>aK |some o'=>Ez m o' l
def Gj(m:Nat):Nat->List α->Nat->Option (List α)
 |0,o,_=>ay o |f+1,o,i=>match o[i]? with
  |none=>ay o |some n=>match Ez key m o (next n) with
   |none=>aK |some o'=>Gj m f o' (i+1)
variable{key next}
theorem alD{m:Nat}{o o':List α}{n:α}(h:FQ key m o n=ay o'):∃t,o'=o++t/\t.length<=1/\(o.length<=m->o'.length<=m):=by
 unfold FQ at h;split at h
 ·cases h;exact ⟨[],by simp,by simp,fun h=>h⟩
 ·split at h
  ·cases h
  ·cases h;exact ⟨[n],rfl,by simp,fun h=>by simp;omega⟩
theorem MH{m:Nat}:∀{l o o':List α},Ez key m o l=ay o'->∃t,o'=o++t/\(o.length<=m->o'.length<=m)
 |[],o,o',h=>by cases h;exact ⟨[],by simp,fun h=>h⟩ |n::l,o,o',h=>by
  simp only[Ez] at h;cases hp:FQ key m o n with
  |none=>rw[hp] at h;cases h |some o1=>
   rw[hp] at h;obtain ⟨t,rfl,_,h1⟩:=alD hp;obtain ⟨t',rfl,h2⟩:=MH h;exact ⟨t++t',by simp,fun q=>h2 (h1 q)⟩
theorem Sm{m:Nat}:∀{f i:Nat} {o r:List α},Gj key next m f o i=ay r->∃t,r=o++t/\(o.length<=m->r.length<=m)
 |0,_,o,r,h=>by cases h;exact ⟨[],by simp,fun h=>h⟩ |f+1,i,o,r,h=>by
  simp only[Gj] at h;cases hi:o[i]? with
  |none=>rw[hi] at h;cases h;exact ⟨[],by simp,fun h=>h⟩ |some n=>
   rw[hi] at h;simp only at h;cases hp:Ez key m o (next n) with
   |none=>rw[hp] at h;cases h |some o1=>
    rw[hp] at h;obtain ⟨t,rfl,h1⟩:=MH hp;obtain ⟨t',rfl,h2⟩:=Sm h;exact ⟨t++t',by simp,fun q=>h2 (h1 q)⟩
theorem ard{m m':Nat}{o o':List α}{n:α}(h:FQ key m o n=ay o')(hm:o'.length<=m'):FQ key m' o n=ay o':=by
 unfold FQ at h ⊢;split at h
 ·rename_i q;rw[if_pos q];exact h
 ·rename_i q
  rw[if_neg q];split at h
  ·cases h
  ·cases h
   rw[if_neg];simp at hm;omega
theorem akx{m m':Nat}:∀{l o o':List α},Ez key m o l=ay o'->o'.length<=m'->Ez key m' o l=ay o'
 |[],_,_,h,_=>h |n::l,o,o',h,hm=>by
  simp only[Ez] at h ⊢;cases hp:FQ key m o n with
  |none=>rw[hp] at h;cases h |some o1=>
   rw[hp] at h;obtain ⟨t,e,_⟩:=MH h;have:o1.length<=m':=by rw[e] at hm;simp at hm;omega
   rw[ard hp this];exact akx h hm
theorem aop{m m':Nat}:∀{f i:Nat} {o r:List α},Gj key next m f o i=ay r->r.length<=m'->Gj key next m' f o i=ay r
 |0,_,_,_,h,_=>h |f+1,i,o,r,h,hm=>by
  simp only[Gj] at h ⊢;cases hi:o[i]? with
  |none=>rw[hi] at h;exact h |some n=>
   rw[hi] at h;simp only at h ⊢;cases hp:Ez key m o (next n) with
   |none=>rw[hp] at h;cases h |some o1=>
    rw[hp] at h;obtain ⟨t,e,_⟩:=Sm h;have:o1.length<=m':=by rw[e] at hm;simp at hm;omega
    rw[akx hp this];exact aop h hm
theorem aoq{m:Nat}:∀{f f' i:Nat} {o r:List α},Gj key next m f o i=ay r->r.length<i+f->f<=f'->Gj key next m f' o i=ay r
 |0,f',i,o,r,h,hl,hf=>by
  cases h;cases f' with
  |zero=>rfl |succ f'=>
   simp only[Gj];rw[jl (by omega)]
 |f+1,0,i,o,r,h,hl,hf=>by omega |f+1,f'+1,i,o,r,h,hl,hf=>by
  simp only[Gj] at h ⊢;cases hi:o[i]? with
  |none=>rw[hi] at h;exact h |some n=>
   rw[hi] at h;simp only at h ⊢;cases hp:Ez key m o (next n) with
   |none=>rw[hp] at h;cases h |some o1=>
    rw[hp] at h;simp only at h ⊢;exact aoq h (by omega) (by omega)
end
section
variable{α κ:Type}[DecidableEq κ]{key:α->κ}{next:α->List α}
theorem JF{o:List α}{k:κ}:JE key o k=aC↔∃n∈o,key n=k:=by simp[JE]
theorem ag7{o t:List α}{k:κ}(h:JE key o k=aC):JE key (o++t) k=aC:=by
 obtain ⟨n,hn,e⟩:=JF.1 h;exact JF.2 ⟨n,List.mem_append_left _ hn,e⟩
theorem alE{m:Nat}{o o':List α}{n:α}(h:FQ key m o n=ay o'):JE key o' (key n)=aC:=by
 unfold FQ at h;split at h
 ·cases h;assumption
 ·split at h
  ·cases h
  ·cases h;exact JF.2 ⟨n,by simp,rfl⟩
theorem adG{m:Nat}:∀{l o o':List α},Ez key m o l=ay o'->∀n∈l,JE key o' (key n)=aC
 |[],_,_,_,_,h=>by cases h |n::l,o,o',h,x,hx=>by
  simp only[Ez] at h;cases hp:FQ key m o n with
  |none=>rw[hp] at h;cases h |some o1=>
   rw[hp] at h;rcases gZ.1 hx with rfl|hx
   ·obtain ⟨t,rfl,_⟩:=MH h
    exact ag7 (alE hp)
   ·exact adG h x hx
theorem adH{m:Nat}{o o':List α}{n:α}{P:α->Prop}(h:FQ key m o n=ay o')(ho:∀x∈o,P x)(hn:P n):∀x∈o',P x:=by
 unfold FQ at h;split at h
 ·cases h;exact ho
 ·split at h
  ·cases h
  ·cases h
   intro x hx;rcases bK.1 hx with hx|hx
   ·exact ho x hx
   ·obtain rfl:x=n:=by simpa using hx
    exact hn
theorem TG{m:Nat}{P:α->Prop}:∀{l o o':List α},Ez key m o l=ay o'->(∀x∈o,P x)->(∀x∈l,P x)->∀x∈o',P x
 |[],_,_,h,ho,_=>by cases h;exact ho |n::l,o,o',h,ho,hl=>by
  simp only[Ez] at h;cases hp:FQ key m o n with
  |none=>rw[hp] at h;cases h |some o1=>
   rw[hp] at h;exact TG h (adH hp ho (hl n cO)) fun x hx=>hl x (dB _ hx)
theorem O8{m:Nat}{P:α->Prop}(hP:∀n,P n->∀t∈next n,P t):∀{f i:Nat} {o r:List α},Gj key next m f o i=ay r->(∀x∈o,P x)->∀x∈r,P x
 |0,_,_,_,h,ho=>by cases h;exact ho |f+1,i,o,r,h,ho=>by
  simp only[Gj] at h;cases hi:o[i]? with
  |none=>rw[hi] at h;cases h;exact ho |some n=>
   rw[hi] at h;simp only at h;cases hp:Ez key m o (next n) with
   |none=>rw[hp] at h;cases h |some o1=>
    rw[hp] at h;exact O8 hP h (TG hp ho (hP n (ho n (bT hi))))
theorem Sr{m:Nat}:∀{f i:Nat} {o r:List α},Gj key next m f o i=ay r->r.length<i+f->(∀j n,j<i->o[j]?=ay n->∀t∈next n,JE key o (key t)=aC)->∀n∈r,∀t∈next n,JE key r (key t)=aC
 |0,i,o,r,h,hl,hc=>by
  cases h;intro n hn t ht;obtain ⟨j,hj,e⟩:=mF.1 hn;exact hc j n (by omega) (by rw[aV hj,e]) t ht
 |f+1,i,o,r,h,hl,hc=>by
  simp only[Gj] at h;cases hi:o[i]? with
  |none=>
   rw[hi] at h;cases h;have hle:o.length<=i:=List.getElem?_eq_none_iff.1 hi;intro n hn t ht;obtain ⟨j,hj,e⟩:=mF.1 hn;exact hc j n (by omega) (by rw[aV hj,e]) t ht
  |some n=>
   rw[hi] at h;simp only at h;cases hp:Ez key m o (next n) with
   |none=>rw[hp] at h;cases h |some o1=>
    rw[hp] at h;obtain ⟨t',e,_⟩:=MH hp;refine Sr h (by omega) fun j x hj hx t ht=>?_
    have hil:i<o.length:=(aU.1 hi).1;have hx':o[j]?=ay x:=by
     rw[e,dJ (by omega)] at hx;exact hx
    rcases oW j i with h1|h1
    ·rw[e];exact ag7 (hc j x h1 hx' t ht)
    ·obtain rfl:j=i:=by omega
     rw[hi] at hx';cases hx';exact adG hp t ht
theorem aiU{m:Nat}{o o':List α}{n:α}(h:FQ key m o n=ay o')(ho:(o.map key).Nodup):(o'.map key).Nodup:=by
 unfold FQ at h;split at h
 ·cases h;exact ho
 ·rename_i q
  split at h
  ·cases h
  ·cases h
   rw[iO,List.nodup_append];refine ⟨ho,by simp,fun a ha b hb e=>?_⟩;obtain rfl:b=key n:=by simpa using hb
   obtain ⟨x,hx,rfl⟩:=dK.1 ha;exact q (JF.2 ⟨x,hx,e⟩)
theorem Y8{m:Nat}:∀{l o o':List α},Ez key m o l=ay o'->(o.map key).Nodup->(o'.map key).Nodup
 |[],_,_,h,ho=>by cases h;exact ho |n::l,o,o',h,ho=>by
  simp only[Ez] at h;cases hp:FQ key m o n with
  |none=>rw[hp] at h;cases h |some o1=>
   rw[hp] at h;exact Y8 h (aiU hp ho)
theorem abz{m:Nat}:∀{f i:Nat} {o r:List α},Gj key next m f o i=ay r->(o.map key).Nodup->(r.map key).Nodup
 |0,_,_,_,h,ho=>by cases h;exact ho |f+1,i,o,r,h,ho=>by
  simp only[Gj] at h;cases hi:o[i]? with
  |none=>rw[hi] at h;cases h;exact ho |some n=>
   rw[hi] at h;simp only at h;cases hp:Ez key m o (next n) with
   |none=>rw[hp] at h;cases h |some o1=>
    rw[hp] at h;exact abz h (Y8 hp ho)
def Lay(rk:α->Nat)(b:Nat)(o:List α):Prop:=o.Pairwise (fun x y=>rk x<=rk y)/\∀x∈o,rk x<=b
theorem aor{m b:Nat}{rk:α->Nat}{o o':List α}{n:α}(h:FQ key m o n=ay o')(ho:Lay rk b o)(hn:rk n=b):Lay rk b o':=by
 unfold FQ at h;split at h
 ·cases h;exact ho
 ·split at h
  ·cases h
  ·cases h
   refine ⟨List.pairwise_append.2 ⟨ho.1,lF _ _,fun x hx y hy=>?_⟩,fun x hx=>?_⟩
   ·obtain rfl:y=n:=by simpa using hy
    rw[hn];exact ho.2 x hx
   ·rcases bK.1 hx with hx|hx
    ·exact ho.2 x hx
    ·obtain rfl:x=n:=by simpa using hx
     omega
theorem adI{m b:Nat}{rk:α->Nat}:∀{l o o':List α},Ez key m o l=ay o'->Lay rk b o->(∀x∈l,rk x=b)->Lay rk b o'
 |[],_,_,h,ho,_=>by cases h;exact ho |n::l,o,o',h,ho,hl=>by
  simp only[Ez] at h;cases hp:FQ key m o n with
  |none=>rw[hp] at h;cases h |some o1=>
   rw[hp] at h;exact adI h (aor hp ho (hl n cO)) fun x hx=>hl x (dB _ hx)
theorem ag8{m:Nat}{rk:α->Nat}(hr:∀n,∀t∈next n,rk t=rk n+1):∀{f i:Nat} {o r:List α},Gj key next m f o i=ay r->(∀n,o[i]?=ay n->Lay rk (rk n+1) o)->o.Pairwise (fun x y=>rk x<=rk y)->r.Pairwise fun x y=>rk x<=rk y
 |0,_,_,_,h,_,ho=>by cases h;exact ho |f+1,i,o,r,h,hL,ho=>by
  simp only[Gj] at h;cases hi:o[i]? with
  |none=>rw[hi] at h;cases h;exact ho |some n=>
   rw[hi] at h;simp only at h;cases hp:Ez key m o (next n) with
   |none=>rw[hp] at h;cases h |some o1=>
    rw[hp] at h;have h1:=adI hp (hL n hi) fun x hx=>hr n x hx
    refine ag8 hr h (fun n' hn'=>⟨h1.1,fun x hx=>?_⟩) h1.1;obtain ⟨t,e,_⟩:=MH hp;have hil:=(aU.1 hi).1;have hn:o1[i]?=ay n:=by rw[e,dJ hil];exact hi
    have hle:rk n<=rk n':=by
     obtain ⟨q1,e1⟩:=aU.1 hn;obtain ⟨q2,e2⟩:=aU.1 hn';have:=jB.1 h1.1 i (i+1) q1 q2 (by omega);rw[e1,e2] at this;exact this
    have:=h1.2 x hx;omega
def H8(key:α->κ)(next:α->List α)(full:α->Bool):List α->κ->Bool
 |[],_=>ak |n::l,k=>if key n=k then full n||(next n).any (fun t=>H8 key next full l (key t)) else H8 key next full l k
inductive Y9(next:α->List α)(full:α->Bool):α->Prop
 |here {n:α}:full n=aC->Y9 next full n
 |step {n t:α}:t∈next n->Y9 next full t->Y9 next full n
theorem abA{full:α->Bool}{Q:α->Prop}(hQ:∀n,Q n->∀t∈next n,Q t)(hk:∀x y,Q x->Q y->key x=key y->x=y):∀{l:List α},(∀x∈l,Q x)->(l.map key).Nodup->
  (∀(i:Nat) n,l[i]?=ay n->∀t∈next n,∃(j:Nat) (x:α),i<j/\l[j]?=ay x/\key x=key t)->∀n∈l,(H8 key next full l (key n)=aC↔Y9 next full n)
 |[],_,_,_,n,hn=>by cases hn |a::l,hq,hd,hf,n,hn=>by
  have hd':=List.nodup_cons.1 (by simpa using hd:(key a::l.map key).Nodup);have ih:=abA (l:=l) (full:=full) hQ hk (fun x hx=>hq x (dB _ hx)) hd'.2 (fun i n hi t ht=>by
   obtain ⟨j,x,h1,h2,h3⟩:=hf (i+1) n (by simpa using hi) t ht;cases j with
   |zero=>omega |succ j=>exact ⟨j,x,by omega,by simpa using h2,h3⟩)
  have tail:∀t∈next a,(H8 key next full l (key t)=aC↔Y9 next full t):=fun t ht=>by
   obtain ⟨j,x,h1,h2,h3⟩:=hf 0 a rfl t ht;cases j with
   |zero=>omega |succ j=>
    have hx:x∈l:=bT (by simpa using h2);have e:x=t:=hk x t (hq x (dB _ hx)) (hQ a (hq a cO) t ht) h3;rw[<-e];exact ih x hx
  by_cases e:key a=key n
  ·have:a=n:=hk a n (hq a cO) (hq n hn) e
   subst this;unfold H8;rw[if_pos rfl,nC,List.any_eq_true];constructor
   ·rintro (h|⟨t,ht,h⟩)
    ·exact .here h
    ·exact .step ht ((tail t ht).1 h)
   ·intro h
    cases h with
    |here h=>exact .inl h |step ht h=>exact .inr ⟨_,ht,(tail _ ht).2 h⟩
  ·unfold H8
   rw[if_neg e];rcases gZ.1 hn with rfl|hn
   ·exact (e rfl).elim
   ·exact ih n hn
theorem behind{m f:Nat}{rk:α->Nat}{Q:α->Prop}{a r:List α}(hQ:∀n,Q n->∀t∈next n,Q t)(hk:∀x y,Q x->Q y->key x=key y->x=y)(hr:∀n,∀t∈next n,rk t=rk n+1)
  (h:Gj key next m f a 0=ay r) (hl:r.length<f) (ha:∀x∈a,Q x) (h1:a.length<=1):∀(i:Nat) n,r[i]?=ay n->∀t∈next n,∃(j:Nat) (x:α),i<j/\r[j]?=ay x/\key x=key t:=by
 have hq:=O8 hQ h ha;have hc:=Sr h (by omega) (fun j n hj=>by omega);have hs:=ag8 hr h (fun n hn=>⟨by
   match a,h1 with
   |[],_=>exact pO |[x],_=>exact lF _ _,fun x hx=>by
   match a,h1,hn,hx with
   |[y],_,hn,hx=>
    obtain rfl:x=y:=by simpa using hx
    have hn:x=n:=by simpa using hn
    subst hn;omega⟩) (by
   match a,h1 with
   |[],_=>exact pO |[x],_=>exact lF _ _)
 intro i n hi t ht;obtain ⟨x,hx,e⟩:=JF.1 (hc n (bT hi) t ht);obtain ⟨j,hj,ej⟩:=mF.1 hx;have hxt:x=t:=hk x t (hq x hx) (hQ n (hq n (bT hi)) t ht) e;refine ⟨j,x,?_,by rw[aV hj,ej],e⟩;have hrk:=hr n t ht;obtain ⟨q1,e1⟩:=aU.1 hi;refine jV fun hn=>?_
 rcases oW j i with q|q
 ·have:=jB.1 hs j i hj q1 q
  rw[ej,e1,hxt] at this;omega
 ·obtain rfl:j=i:=by omega
  rw[e1] at ej;rw[ej,hxt] at hrk;omega
end
end Go.Bf
namespace Go.Gm
open Go.Bf
structure Nd(S:Type)where
 placed:Nat
 st:S
structure Game(S:Type)where
 n:Nat
 id:Nat->Int
 com:Nat->Bool
 abo:Nat->Bool
 mask:Nat->Nat
 run:S->Nat->Option S
 all:Bool
section
variable{S:Type}(g:Game S)
def may(p i:Nat):Bool:=!p.testBit i&&(aX g.n).all fun j=>!(g.mask i).testBit j||p.testBit j
def G5(nd:Nd S)(i:Nat):List ((Int×Bool)×Nd S):=
 if may g nd.placed i=aC then
  (match g.com i,g.run nd.st i with
   |true,ay s=>[((g.id i,aC),⟨nd.placed|||1<<<i,s⟩)] |_,_=>[]) ++
  (if g.abo i=aC/\(g.all=aC->(g.run nd.st i).isSome=aC) then [((g.id i,ak),⟨nd.placed|||1<<<i,nd.st⟩)] else [])
 else []
def turns(nd:Nd S):List ((Int×Bool)×Nd S):=(aX g.n).flatMap (G5 g nd)
def next(nd:Nd S):List (Nd S):=(turns g nd).map (·.2)
def rk(nd:Nd S):Nat:=(aX g.n).countP fun i=>nd.placed.testBit i
def full(nd:Nd S):Bool:=decide (nd.placed=2^g.n - 1)
variable{g}
theorem arf(p i j:Nat):(p|||1<<<i).testBit j=(p.testBit j||decide (i=j)):=by
 rw[Nat.testBit_or,l7,iF,Nat.testBit_two_pow]
theorem adJ{nd:Nd S}{i:Nat}{t:(Int×Bool)×Nd S}(h:t∈G5 g nd i):nd.placed.testBit i=ak/\t.1.1=g.id i/\t.2.placed=nd.placed|||1<<<i:=by
 unfold G5 at h;split at h
 ·rename_i hm
  have hb:nd.placed.testBit i=ak:=by
   unfold may at hm;rw[aI] at hm;simpa using hm.1
  rcases bK.1 h with h|h
  ·split at h
   ·obtain rfl:t=_:=by simpa using h
    exact ⟨hb,rfl,rfl⟩
   ·cases h
  ·split at h
   ·obtain rfl:t=_:=by simpa using h
    exact ⟨hb,rfl,rfl⟩
   ·cases h
 ·cases h
theorem Za{p:Nat->Bool}{i:Nat}:∀n,i<n->p i=ak->(aX n).countP (fun j=>p j||decide (i=j))=(aX n).countP p+1
 |0,h,_=>by omega |n+1,h,hp=>by
  rw[qh,sV,sV];by_cases e:i=n
  ·subst e
   have:(aX i).countP (fun j=>p j||decide (i=j))=(aX i).countP p:=by
    refine List.countP_congr fun j hj=>?_
    have:j<i:=dP.1 hj;have:decide (i=j)=ak:=decide_eq_false (by omega);simp[this]
   rw[this];simp[hp]
  ·have ih:=Za (p:=p) (i:=i) n (by omega) hp
   rw[ih];have:decide (i=n)=ak:=decide_eq_false e;simp[List.countP_cons,this];omega
theorem abB{nd:Nd S}:∀t∈next g nd,rk g t=rk g nd+1:=fun t ht=>by
 unfold next turns at ht;obtain ⟨x,hx,rfl⟩:=dK.1 ht;obtain ⟨i,hi,hx⟩:=kM.1 hx;obtain ⟨h1,_,h2⟩:=adJ hx;unfold rk;rw[h2];simp only[arf];exact Za g.n (dP.1 hi) h1
theorem lt_next{nd:Nd S}(h:nd.placed<2^g.n):∀t∈next g nd,t.placed<2^g.n:=fun t ht=>by
 unfold next turns at ht;obtain ⟨x,hx,rfl⟩:=dK.1 ht;obtain ⟨i,hi,hx⟩:=kM.1 hx;obtain ⟨_,_,h2⟩:=adJ hx;rw[h2];refine pq h ?_;rw[l7,iF];exact jy (by decide) (dP.1 hi)
def least(g:Game S)(ld:Nd S->Bool):Nat->Nd S->List (Int×Bool)
 |0,_=>[] |f+1,nd=>if full g nd=aC then [] else match (turns g nd).find? fun t=>ld t.2 with
  |none=>[] |some t=>t.1::least g ld f t.2
def walk(g:Game S):Nd S->List (Int×Bool)->Option (Nd S)
 |nd,[]=>ay nd |nd,s::l=>match (turns g nd).find? fun t=>t.1==s with
  |none=>aK |some t=>walk g t.2 l
theorem aiV{nd:Nd S}(h:Y9 (next g) (full g) nd)(hn:full g nd=ak):∃t∈turns g nd,Y9 (next g) (full g) t.2:=by
 cases h with
 |here h=>rw[hn] at h;cases h |step ht h=>
  obtain ⟨t,q,rfl⟩:=dK.1 ht;exact ⟨t,q,h⟩
end
open Go.Bf
section
variable{S κ:Type}[DecidableEq κ](g:Game S)(key:Nd S->κ)
def start(s:S):Nd S:=⟨0,s⟩
def DK(s:S)(m:Nat):Option (List (Nd S)):=Gj key (next g) m (m+1) [start s] 0
def TW(r:List (Nd S))(nd:Nd S):Bool:=H8 key (next g) (full g) r (key nd)
def Sv(s:S)(r:List (Nd S)):Bool:=TW g key r (start s)
def IW(s:S)(r:List (Nd S)):List (Int×Bool):=if Sv g key s r=aC then least g (TW g key r) (g.n+1) (start s) else []
variable{g key}
theorem Ko{s:S}{m:Nat}(hm:1<=m){r:List (Nd S)}(h:DK g key s m=ay r):1<=r.length/\r.length<=m:=by
 obtain ⟨t,e,hl⟩:=Sm h;exact ⟨by rw[e];simp,hl (by simpa using hm)⟩
theorem aos{s:S}{m f:Nat}{r:List (Nd S)}(h:Gj key (next g) m f [start s] 0=ay r)(hl:r.length<f):∀f',r.length<f'->Gj key (next g) m f' [start s] 0=ay r:=fun f' hf=>by
 rcases Nat.le_total f f' with q|q
 ·exact aoq h (by omega) q
 ·cases h2:Gj key (next g) m f' [start s] 0 with
  |some r'=>
   have hr':∃x,Gj key (next g) m f' [start s] 0=ay x:=⟨r',h2⟩;have key':∀(f f' i:Nat) (o r1 r2:List (Nd S)),Gj key (next g) m f o i=ay r1->Gj key (next g) m f' o i=ay r2->r1.length<i+f'->f'<=f->r2=r1:=by
    intro f;induction f with
    |zero=>
     intro f' i o r1 r2 a b c d;obtain rfl:f'=0:=by omega
     have a:ay o=ay r1:=a;have b:ay o=ay r2:=b;rw[a] at b;exact (dh b).symm
    |succ f ih=>
     intro f' i o r1 r2 a b c d;cases f' with
     |zero=>
      have b:ay o=ay r2:=b;obtain rfl:=dh b;obtain ⟨t,e,_⟩:=Sm a;have c2:o.length<=i:=by rw[e] at c;simp at c;omega
      simp only[Gj,jl c2] at a;exact dh a
     |succ f'=>
      simp only[Gj] at a b;cases hi:o[i]? with
      |none=>
       rw[hi] at a b;have a:ay o=ay r1:=a;have b:ay o=ay r2:=b;rw[a] at b;exact (dh b).symm
      |some n=>
       rw[hi] at a b;simp only at a b;cases hp:Ez key m o (next g n) with
       |none=>rw[hp] at a;cases a |some o1=>
        rw[hp] at a b;exact ih f' (i+1) o1 r1 r2 a b (by omega) (by omega)
   rw[key' f f' 0 _ r r' h h2 (by omega) q]
  |none=>
   exfalso;have key':∀(f f' i:Nat) (o r:List (Nd S)),Gj key (next g) m f o i=ay r->Gj key (next g) m f' o i=aK->f'<=f->False:=by
    intro f;induction f with
    |zero=>
     intro f' i o r a b d;obtain rfl:f'=0:=by omega
     cases b
    |succ f ih=>
     intro f' i o r a b d;cases f' with
     |zero=>cases b |succ f'=>
      simp only[Gj] at a b;cases hi:o[i]? with
      |none=>rw[hi] at b;cases b |some n=>
       rw[hi] at a b;simp only at a b;cases hp:Ez key m o (next g n) with
       |none=>rw[hp] at a;cases a |some o1=>
        rw[hp] at a b;exact ih f' (i+1) o1 r a b (by omega)
   exact key' f f' 0 _ r h h2 q
theorem ag9{s:S}{m m':Nat}{r:List (Nd S)}(h:DK g key s m=ay r)(hm:1<=m)(hl:r.length<=m'):DK g key s m'=ay r:=by
 have h1:=(Ko hm h).2;have h2:=aop h hl;exact aos h2 (by omega) (m'+1) (by omega)
theorem ae0{s:S}{m k:Nat}(hm:1<=m){r:List (Nd S)}(h:DK g key s m=ay r):DK g key s (m+k)=ay r:=ag9 h hm (by have:=(Ko hm h).2;omega)
theorem ae1{s:S}{m k:Nat}(hm:1<=m){r:List (Nd S)}(h:DK g key s m=aK)(h':DK g key s (m+k)=ay r):m<r.length:=jV fun q=>by
 rw[ag9 h' (by omega) (by omega)] at h;cases h
theorem arh{s:S}{m:Nat}(hm:1<=m){r:List (Nd S)}(h:DK g key s m=ay r){Q:Nd S->Prop}(hQ:∀n,Q n->∀t∈next g n,Q t)(hk:∀x y,Q x->Q y->key x=key y->x=y)(hs:Q (start s)):
  ∀n∈r,(TW g key r n=aC↔Y9 (next g) (full g) n):=by
 have hl:=(Ko hm h).2;have ha:∀x∈[start s],Q x:=fun x hx=>by
  obtain rfl:x=start s:=by simpa using hx
  exact hs
 exact abA hQ hk (O8 hQ h ha) (abz h (by simp)) (behind hQ hk (fun n t ht=>abB t ht) h (by omega) ha (by simp))
theorem alF{s:S}{m:Nat}{r:List (Nd S)}(h:DK g key s m=ay r):start s∈r:=by
 obtain ⟨t,e,_⟩:=Sm h;rw[e];simp
theorem alG{s:S}{m:Nat}(hm:1<=m){r:List (Nd S)}(h:DK g key s m=ay r){Q:Nd S->Prop}(hQ:∀n,Q n->∀t∈next g n,Q t)(hk:∀x y,Q x->Q y->key x=key y->x=y)(hs:Q (start s)):∀n∈r,∀t∈next g n,t∈r:=by
 have hl:=(Ko hm h).2;have ha:∀x∈[start s],Q x:=fun x hx=>by
  obtain rfl:x=start s:=by simpa using hx
  exact hs
 have hq:=O8 hQ h ha;have hc:=Sr h (by omega) (fun j n hj=>by omega);intro n hn t ht;obtain ⟨x,hx,e⟩:=JF.1 (hc n hn t ht);rw[<-hk x t (hq x hx) (hQ n (hq n hn) t ht) e];exact hx
end
end Go.Gm
namespace Go.Pl
open Go Go.Sx
theorem Kq(p:Nat):gu 64 (p:Int)=BitVec.ofNat 64 p:=BitVec.ofInt_natCast 64 p
theorem O9{p:Nat}(h:p<2^63):aN.wrap (p:Int)=(p:Int):=BL (by omega) (by omega)
theorem aky{p q n:Nat}(h:p<2^n):p&&&q<2^n:=uq Nat.and_le_left h
theorem aot{p q:Nat}(hp:p<2^63)(hq:q<2^63):zW.bin .and .i64 (p:Int) (q:Int)=((p&&&q:Nat):Int):=by
 show aN.wrap ((gu 64 (p:Int)&&&gu 64 (q:Int)).toNat:Int)=_;rw[Kq,Kq,sW,iZ,iZ,iD (by omega),iD (by omega)];exact O9 (aky hp)
theorem ari{p q:Nat}(hp:p<2^63)(hq:q<2^63):zW.bin .or .i64 (p:Int) (q:Int)=((p|||q:Nat):Int):=by
 show aN.wrap ((gu 64 (p:Int)|||gu 64 (q:Int)).toNat:Int)=_;rw[Kq,Kq,BitVec.toNat_or,iZ,iZ,iD (by omega),iD (by omega)];exact O9 (pq hp hq)
theorem aha{p q:Nat}(hp:p<2^63)(hq:q<2^63):zW.bin .andNot .i64 (p:Int) (q:Int)=((p&&&(2^64 - 1 - q):Nat):Int):=by
 show aN.wrap ((gu 64 (p:Int)&&&~~~ gu 64 (q:Int)).toNat:Int)=_;rw[Kq,Kq,sW,BitVec.toNat_not,iZ,iZ,iD (by omega),iD (by omega)];exact O9 (aky hp)
theorem ahb{i:Nat}(h:i<63):zW.bin .shl .i64 (ah 1) (i:Int)=((2^i:Nat):Int):=by
 show aN.wrap ((1:Int)*2^(min (i:Int).toNat 64))=_;rw[fK,qE (by omega),Int.one_mul];have:((2:Int)^i)=((2^i:Nat):Int):=by push_cast;rfl
 rw[this];exact O9 (jy (by decide) h)
theorem aou{p i:Nat}(h:i<=64):zW.bin .shr .i64 (p:Int) (i:Int)=((p>>>i:Nat):Int):=by
 show Int.fdiv (p:Int) (2^(min (i:Int).toNat 64))=_;rw[fK,qE h];have:((2:Int)^i)=((2^i:Nat):Int):=by push_cast;rfl
 rw[this,Int.fdiv_eq_ediv_of_nonneg _ (Int.natCast_nonneg _),<-Int.natCast_ediv,qy]
theorem arj(p i:Nat):p>>>i<=p:=by rw[qy];exact Nat.div_le_self _ _
theorem ark{p i:Nat}(hp:p<2^63)(hi:i<=64):zW.eq (zW.bin .and .i64 (zW.bin .shr .i64 (p:Int) (i:Int)) (ah 1)) (ah 1)=p.testBit i:=by
 rw[aou hi];have h:=aot (p:=p>>>i) (q:=1) (uq (arj p i) hp) (by decide);have h:zW.bin .and .i64 ((p>>>i:Nat):Int) (ah 1)=((p>>>i&&&1:Nat):Int):=h;rw[h,Aq];unfold Nat.testBit;rw[yS];have h1:1&&&p>>>i=p>>>i % 2:=by rw[yS];exact Nat.and_one_is_mod _
 rw[h1];rcases Nat.mod_two_eq_zero_or_one (p>>>i) with e|e<;>rw[e]<;>rfl
theorem alH{m p N:Nat}(hm:m<2^N)(hN:N<=62)(hp:p<2^63):zW.nt (zW.eq (zW.bin .andNot .i64 (m:Int) (p:Int)) (ah 0))=!((aX N).all fun j=>!m.testBit j||p.testBit j):=by
 have hm':m<2^63:=lC hm (mQ (by decide) (by omega));rw[aha hm' hp,BQ,Aq];congr 1;have key:∀j,(m&&&(2^64 - 1 - p)).testBit j=(m.testBit j && !p.testBit j):=fun j=>by
  rw[Nat.testBit_and];by_cases hj:j<N
  ·rw[show 2^64 - 1 - p=2^64 - (p+1) by omega,Nat.testBit_two_pow_sub_succ (by omega),decide_eq_true (by omega:j<64)];rfl
  ·have:m.testBit j=ak:=qY (lC hm (mQ (by decide) (by omega)))
   rw[this];rfl
 cases ha:(aX N).all fun j=>!m.testBit j||p.testBit j with
 |true=>
  rw[dO] at ha;have:m&&&(2^64 - 1 - p)=0:=Nat.eq_of_testBit_eq fun j=>by
   rw[key,vV];by_cases hj:j<N
   ·have:=ha j (dP.2 hj)
    revert this;cases m.testBit j<;>cases p.testBit j<;>simp
   ·have:m.testBit j=ak:=qY (lC hm (mQ (by decide) (by omega)))
    rw[this];rfl
  rw[this];rfl
 |false=>
  have:m&&&(2^64 - 1 - p)≠0:=fun e=>by
   have:((aX N).all fun j=>!m.testBit j||p.testBit j)=aC:=by
    rw[dO];intro j hj;have:=key j;rw[e,vV] at this;revert this;cases m.testBit j<;>cases p.testBit j<;>simp
   rw[this] at ha;cases ha
  have h2:(((m&&&(2^64 - 1 - p):Nat):Int)==ah 0)=ak:=by
   rw[beq_eq_false_iff_ne];intro e;exact this (kU e)
  exact h2
theorem or_eq{p i:Nat}(hp:p<2^63)(hi:i<63):zW.bin .or .i64 (p:Int) (zW.bin .shl .i64 (ah 1) (i:Int))=((p|||1<<<i:Nat):Int):=by
 rw[ahb hi,ari hp (jy (by decide) hi),l7,iF]
theorem aov{N:Nat}(hN:N<=62):zW.sub .i64 (zW.bin .shl .i64 (ah 1) (N:Int)) (ah 1)=((2^N - 1:Nat):Int):=by
 rw[ahb (by omega),MC];have h1:1<=2^N:=Nat.one_le_two_pow;have h2:2^N<2^63:=jy (by decide) (by omega);have:((2^N:Nat):Int) - ah 1=((2^N - 1:Nat):Int):=by
  rw[Int.natCast_sub h1];rfl
 rw[this];exact O9 (by omega)
open Go Go.Sx Go.Proofs Go.Gm
noncomputable def TY(lv:Int)(N:Nat)(T:Nat->Ef)(mk:Nat->Int)(n:Nat):Game (Nat->List Sh) where
 n:=N
 id i:=(T i).id
 com i:=(T i).st==3||(T i).st==2
 abo i:=!((T i).st==3)
 mask i:=(mk i).toNat
 run g i:=if plO n g (T i).k (T i).g=aC then ay (TV n g (T i).k (T i).g) else aK
 all:=lv==3
def Gx(n:Nat)(t:(Int×Bool)×Nd (Nat->List Sh)):Jo:=⟨t.1.1,t.1.2,(t.2.placed:Nat),n,t.2.st⟩
structure TuP(lv:Int)(N:Nat)(T:Nat->Ef)(N':Nat)(mk:Nat->Int)(p:Int)(n:Nat)(g:Nat->List Sh):Prop where
 le:N<=62
 eq:N=N'
 pos:0<=p
 lt:p<2^62
 mpos:∀i,i<N->0<=mk i
 mlt:∀i,i<N->(mk i).toNat<2^N
 fit:∀i,i<N->may (TY lv N T mk n) p.toNat i=aC->plN n g (T i).k (T i).g=aC
noncomputable def tuL(lv:Int)(N:Nat)(T:Nat->Ef)(mk:Nat->Int)(p:Int)(n:Nat)(g:Nat->List Sh):List Jo:=(turns (TY lv N T mk n) ⟨p.toNat,g⟩).map (Gx n)
noncomputable def tuB(lv:Int)(N:Nat)(T':Nat->List Sh)(N':Nat)(mk':Nat->List Sh)(p:Int)(st n:Nat)(g:Nat->List Sh):Bool:=
 okB Ef N T'&&(okB Int N' mk'&&((fC st 4||fC n 0)&&@decide (TuP lv N (zZ T') N' (zZ mk') p n g) (bM _)))
noncomputable def Ox(lv:Int)(N:Nat)(T':Nat->List Sh)(mk':Nat->List Sh)(p:Int)(n:Nat)(g:Nat->List Sh):Nat:=(tuL lv N (zZ T') (zZ mk') p n g).length
noncomputable def Zy(lv:Int)(N:Nat)(T':Nat->List Sh)(mk':Nat->List Sh)(p:Int)(n:Nat)(g:Nat->List Sh):Nat->Jo:=nth (tuL lv N (zZ T') (zZ mk') p n g)
theorem G6{α:Type}[Row α](o:Nat->α):zZ (zX o)=o:=funext fun i=>Nq o i
end Go.Pl
namespace Go.Proofs
open Go Go.Sx Go.Pl Go.Gm
noncomputable def D41:List Sh->Tree Sh
 |[.pt [.i .i64 lv,s1,s2,s3],.agg [t,.sl st n g]]=>match DV 7 s1,DV 1 s2,DV 4 s3,AY t with
  |some (N,T'),ay (N',mk'),ay _,ay p=>.need (tuB lv N T' N' mk' p st n g) (.leaf (.sl 4 (Ox lv N T' mk' p n g) (zX (Zy lv N T' mk' p n g)))) |_,_,_,_=>.fail
 |_=>.fail
open Go Go.Sx Go.Pl
theorem aiW(A:Prim)(W:Wd)(lv:Int)(N:Nat)(T:Nat->Ef)(N':Nat)(mk:Nat->Int)(k0:Nat)(g0:Nat->List Sh)(p:Int)(n:Nat)(g:Nat->List Sh)(m:Nat)(R:Nat->Jo)(i':Int){ψ:D8->Prop}(y1:ψ (bJ 0 [aJ 1 1,bC (fun (x:Nat)=>BK lv N T N' mk k0 g0) fun (x:Nat)=>BK lv N T N' mk k0 g0,aJ 0 0,aQ (aG 7 N (zX T)) (aG 7 N (zX T)),aj (A.AO N) (ah N),aj (ah 0) i',aj p p,aQ (aG 4 n g) (aG 4 n g),aJ m 0])):Cc ψ (AQ (C7 A W NW Ap) Bh 300 400 41 [.code []] (Aa 104 [.pt (BK lv N T N' mk k0 g0),.agg [.i .i64 p,.sl 4 n g]] L0) [] [⟨41,WT,Y7 lv N T N' mk k0 g0 p n g m R i',[]⟩]):=by
 exact Gh y1 (by kernel_rfl)
theorem abD(A:Prim)(W:Wd)(lv:Int)(N:Nat)(T:Nat->Ef)(N':Nat)(mk:Nat->Int)(k0:Nat)(g0:Nat->List Sh)(p:Int)(n:Nat)(g:Nat->List Sh)(m m':Nat)(R R':Nat->Jo)(i i':Int){ψ:D8->Prop}{c0 c1 c2 c3 c4 c5 c6 c7:Bool}(e0:A.lt i (ah N)=c0)(e1:A.eq (A.bin BinOp.and aN (A.bin BinOp.shr aN p i) (ah 1)) (ah 1)=c1)(e2:A.nt (A.eq (A.bin BinOp.andNot aN (mk (A.toN i)) p) (ah 0))=c2)(e3:plO n g (T (A.toN i)).k (T (A.toN i)).g=c3)(e4:A.eq (T (A.toN i)).st (ah 3)=c4)(e5:A.nt (A.eq (T (A.toN i)).st (ah 3))=c5)(e6:A.nt (A.eq lv (ah 3))=c6)(e7:A.eq (T (A.toN i)).st (ah 2)=c7)(h1:c0=aC->(A.inB i N)=aC)(h2:c0=aC->(A.le (ah 0) i)=aC)(h3:c0=aC->c1=ak->(A.inB i N')=aC)(h4:c0=aC->c1=ak->c2=ak->(plN n g (T (A.toN i)).k (T (A.toN i)).g)=aC)(h5:c0=aC->c1=ak->c2=ak->c3=aC->c4=aC->(A.room (A.addN m 1) 48)=aC)(h6:c0=aC->c1=ak->c2=ak->c3=aC->c4=aC->c5=aC->c6=aC->(A.room (A.addN (A.addN m 1) 1) 48)=aC)(h7:c0=aC->c1=ak->c2=ak->c3=aC->c4=aC->c5=aC->c6=ak->(A.room (A.addN (A.addN m 1) 1) 48)=aC)(h8:c0=aC->c1=ak->c2=ak->c3=aC->c4=ak->c7=aC->(A.room (A.addN m 1) 48)=aC)(h9:c0=aC->c1=ak->c2=ak->c3=aC->c4=ak->c7=aC->c5=aC->c6=aC->(A.room (A.addN (A.addN m 1) 1) 48)=aC)(h10:c0=aC->c1=ak->c2=ak->c3=aC->c4=ak->c7=aC->c5=aC->c6=ak->(A.room (A.addN (A.addN m 1) 1) 48)=aC)(h11:c0=aC->c1=ak->c2=ak->c3=aC->c4=ak->c7=ak->c5=aC->c6=aC->(A.room (A.addN m 1) 48)=aC)(h12:c0=aC->c1=ak->c2=ak->c3=aC->c4=ak->c7=ak->c5=aC->c6=ak->(A.room (A.addN m 1) 48)=aC)(h13:c0=aC->c1=ak->c2=ak->c3=ak->c4=aC->c5=aC->c6=aC->(A.room (A.addN m 1) 48)=aC)(h14:c0=aC->c1=ak->c2=ak->c3=ak->c4=ak->c7=aC->c5=aC->c6=aC->(A.room (A.addN m 1) 48)=aC)(h15:c0=aC->c1=ak->c2=ak->c3=ak->c4=ak->c7=ak->c5=aC->c6=aC->(A.room (A.addN m 1) 48)=aC)(y1:c0=aC->c1=aC->ψ (bJ 0 [aJ 1 1,bC (fun (x:Nat)=>BK lv N T N' mk k0 g0) fun (x:Nat)=>BK lv N T N' mk k0 g0,aJ 0 0,aQ (aG 7 N (zX T)) (aG 7 N (zX T)),aj (ah N) (ah N),aj (A.add .i64 i (ah 1)) i',aj p p,aQ (aG 4 n g) (aG 4 n g),aJ m m',aT m (zX R) (zX R')]))(y2:c0=aC->c1=ak->c2=aC->ψ (bJ 0 [aJ 1 1,bC (fun (x:Nat)=>BK lv N T N' mk k0 g0) fun (x:Nat)=>BK lv N T N' mk k0 g0,aJ 0 0,aQ (aG 7 N (zX T)) (aG 7 N (zX T)),aj (ah N) (ah N),aj (A.add .i64 i (ah 1)) i',aj p p,aQ (aG 4 n g) (aG 4 n g),aJ m m',aT m (zX R) (zX R')]))(y3:c0=aC->c1=ak->c2=ak->c3=aC->c4=aC->c5=aC->c6=aC->ψ (bJ 0 [aJ 1 1,bC (fun (x:Nat)=>BK lv N T N' mk k0 g0) fun (x:Nat)=>BK lv N T N' mk k0 g0,aJ 0 0,aQ (aG 7 N (zX T)) (aG 7 N (zX T)),aj (ah N) (ah N),aj (A.add .i64 i (ah 1)) i',aj p p,aQ (aG 4 n g) (aG 4 n g),aJ (A.addN (A.addN m 1) 1) m',aT (A.addN (A.addN m 1) 1) (A.snoc (A.snoc (zX R) m (AU [[aW .i64 (T (A.toN i)).id,eF aC,aW .i64 (A.bin iU aN p (A.bin iq aN (ah 1) i)),aG 4 n (TV n g (T (A.toN i)).k (T (A.toN i)).g)]])) (A.addN m 1) (AU [[aW .i64 (T (A.toN i)).id,eF ak,aW .i64 (A.bin iU aN p (A.bin iq aN (ah 1) i)),aG 4 n g]])) (zX R')]))(y4:c0=aC->c1=ak->c2=ak->c3=aC->c4=aC->c5=aC->c6=ak->ψ (bJ 0 [aJ 1 1,bC (fun (x:Nat)=>BK lv N T N' mk k0 g0) fun (x:Nat)=>BK lv N T N' mk k0 g0,aJ 0 0,aQ (aG 7 N (zX T)) (aG 7 N (zX T)),aj (ah N) (ah N),aj (A.add .i64 i (ah 1)) i',aj p p,aQ (aG 4 n g) (aG 4 n g),aJ (A.addN (A.addN m 1) 1) m',aT (A.addN (A.addN m 1) 1) (A.snoc (A.snoc (zX R) m (AU [[aW .i64 (T (A.toN i)).id,eF aC,aW .i64 (A.bin iU aN p (A.bin iq aN (ah 1) i)),aG 4 n (TV n g (T (A.toN i)).k (T (A.toN i)).g)]])) (A.addN m 1) (AU [[aW .i64 (T (A.toN i)).id,eF ak,aW .i64 (A.bin iU aN p (A.bin iq aN (ah 1) i)),aG 4 n g]])) (zX R')]))(y5:c0=aC->c1=ak->c2=ak->c3=aC->c4=aC->c5=ak->ψ (bJ 0 [aJ 1 1,bC (fun (x:Nat)=>BK lv N T N' mk k0 g0) fun (x:Nat)=>BK lv N T N' mk k0 g0,aJ 0 0,aQ (aG 7 N (zX T)) (aG 7 N (zX T)),aj (ah N) (ah N),aj (A.add .i64 i (ah 1)) i',aj p p,aQ (aG 4 n g) (aG 4 n g),aJ (A.addN m 1) m',aT (A.addN m 1) (A.snoc (zX R) m (AU [[aW .i64 (T (A.toN i)).id,eF aC,aW .i64 (A.bin iU aN p (A.bin iq aN (ah 1) i)),aG 4 n (TV n g (T (A.toN i)).k (T (A.toN i)).g)]])) (zX R')]))(y6:c0=aC->c1=ak->c2=ak->c3=aC->c4=ak->c7=aC->c5=aC->c6=aC->ψ (bJ 0 [aJ 1 1,bC (fun (x:Nat)=>BK lv N T N' mk k0 g0) fun (x:Nat)=>BK lv N T N' mk k0 g0,aJ 0 0,aQ (aG 7 N (zX T)) (aG 7 N (zX T)),aj (ah N) (ah N),aj (A.add .i64 i (ah 1)) i',aj p p,aQ (aG 4 n g) (aG 4 n g),aJ (A.addN (A.addN m 1) 1) m',aT (A.addN (A.addN m 1) 1) (A.snoc (A.snoc (zX R) m (AU [[aW .i64 (T (A.toN i)).id,eF aC,aW .i64 (A.bin iU aN p (A.bin iq aN (ah 1) i)),aG 4 n (TV n g (T (A.toN i)).k (T (A.toN i)).g)]])) (A.addN m 1) (AU [[aW .i64 (T (A.toN i)).id,eF ak,aW .i64 (A.bin iU aN p (A.bin iq aN (ah 1) i)),aG 4 n g]])) (zX R')]))(y7:c0=aC->c1=ak->c2=ak->c3=aC->c4=ak->c7=aC->c5=aC->c6=ak->ψ (bJ 0 [aJ 1 1,bC (fun (x:Nat)=>BK lv N T N' mk k0 g0) fun (x:Nat)=>BK lv N T N' mk k0 g0,aJ 0 0,aQ (aG 7 N (zX T)) (aG 7 N (zX T)),aj (ah N) (ah N),aj (A.add .i64 i (ah 1)) i',aj p p,aQ (aG 4 n g) (aG 4 n g),aJ (A.addN (A.addN m 1) 1) m',aT (A.addN (A.addN m 1) 1) (A.snoc (A.snoc (zX R) m (AU [[aW .i64 (T (A.toN i)).id,eF aC,aW .i64 (A.bin iU aN p (A.bin iq aN (ah 1) i)),aG 4 n (TV n g (T (A.toN i)).k (T (A.toN i)).g)]])) (A.addN m 1) (AU [[aW .i64 (T (A.toN i)).id,eF ak,aW .i64 (A.bin iU aN p (A.bin iq aN (ah 1) i)),aG 4 n g]])) (zX R')]))(y8:c0=aC->c1=ak->c2=ak->c3=aC->c4=ak->c7=aC->c5=ak->ψ (bJ 0 [aJ 1 1,bC (fun (x:Nat)=>BK lv N T N' mk k0 g0) fun (x:Nat)=>BK lv N T N' mk k0 g0,aJ 0 0,aQ (aG 7 N (zX T)) (aG 7 N (zX T)),aj (ah N) (ah N),aj (A.add .i64 i (ah 1)) i',aj p p,aQ (aG 4 n g) (aG 4 n g),aJ (A.addN m 1) m',aT (A.addN m 1) (A.snoc (zX R) m (AU [[aW .i64 (T (A.toN i)).id,eF aC,aW .i64 (A.bin iU aN p (A.bin iq aN (ah 1) i)),aG 4 n (TV n g (T (A.toN i)).k (T (A.toN i)).g)]])) (zX R')]))(y9:c0=aC->c1=ak->c2=ak->c3=aC->c4=ak->c7=ak->c5=aC->c6=aC->ψ (bJ 0 [aJ 1 1,bC (fun (x:Nat)=>BK lv N T N' mk k0 g0) fun (x:Nat)=>BK lv N T N' mk k0 g0,aJ 0 0,aQ (aG 7 N (zX T)) (aG 7 N (zX T)),aj (ah N) (ah N),aj (A.add .i64 i (ah 1)) i',aj p p,aQ (aG 4 n g) (aG 4 n g),aJ (A.addN m 1) m',aT (A.addN m 1) (A.snoc (zX R) m (AU [[aW .i64 (T (A.toN i)).id,eF ak,aW .i64 (A.bin iU aN p (A.bin iq aN (ah 1) i)),aG 4 n g]])) (zX R')]))(y10:c0=aC->c1=ak->c2=ak->c3=aC->c4=ak->c7=ak->c5=aC->c6=ak->ψ (bJ 0 [aJ 1 1,bC (fun (x:Nat)=>BK lv N T N' mk k0 g0) fun (x:Nat)=>BK lv N T N' mk k0 g0,aJ 0 0,aQ (aG 7 N (zX T)) (aG 7 N (zX T)),aj (ah N) (ah N),aj (A.add .i64 i (ah 1)) i',aj p p,aQ (aG 4 n g) (aG 4 n g),aJ (A.addN m 1) m',aT (A.addN m 1) (A.snoc (zX R) m (AU [[aW .i64 (T (A.toN i)).id,eF ak,aW .i64 (A.bin iU aN p (A.bin iq aN (ah 1) i)),aG 4 n g]])) (zX R')]))(y11:c0=aC->c1=ak->c2=ak->c3=aC->c4=ak->c7=ak->c5=ak->ψ (bJ 0 [aJ 1 1,bC (fun (x:Nat)=>BK lv N T N' mk k0 g0) fun (x:Nat)=>BK lv N T N' mk k0 g0,aJ 0 0,aQ (aG 7 N (zX T)) (aG 7 N (zX T)),aj (ah N) (ah N),aj (A.add .i64 i (ah 1)) i',aj p p,aQ (aG 4 n g) (aG 4 n g),aJ m m',aT m (zX R) (zX R')]))(y12:c0=aC->c1=ak->c2=ak->c3=ak->c4=aC->c5=aC->c6=aC->ψ (bJ 0 [aJ 1 1,bC (fun (x:Nat)=>BK lv N T N' mk k0 g0) fun (x:Nat)=>BK lv N T N' mk k0 g0,aJ 0 0,aQ (aG 7 N (zX T)) (aG 7 N (zX T)),aj (ah N) (ah N),aj (A.add .i64 i (ah 1)) i',aj p p,aQ (aG 4 n g) (aG 4 n g),aJ (A.addN m 1) m',aT (A.addN m 1) (A.snoc (zX R) m (AU [[aW .i64 (T (A.toN i)).id,eF ak,aW .i64 (A.bin iU aN p (A.bin iq aN (ah 1) i)),aG 4 n g]])) (zX R')]))(y13:c0=aC->c1=ak->c2=ak->c3=ak->c4=aC->c5=aC->c6=ak->ψ (bJ 0 [aJ 1 1,bC (fun (x:Nat)=>BK lv N T N' mk k0 g0) fun (x:Nat)=>BK lv N T N' mk k0 g0,aJ 0 0,aQ (aG 7 N (zX T)) (aG 7 N (zX T)),aj (ah N) (ah N),aj (A.add .i64 i (ah 1)) i',aj p p,aQ (aG 4 n g) (aG 4 n g),aJ m m',aT m (zX R) (zX R')]))(y14:c0=aC->c1=ak->c2=ak->c3=ak->c4=aC->c5=ak->ψ (bJ 0 [aJ 1 1,bC (fun (x:Nat)=>BK lv N T N' mk k0 g0) fun (x:Nat)=>BK lv N T N' mk k0 g0,aJ 0 0,aQ (aG 7 N (zX T)) (aG 7 N (zX T)),aj (ah N) (ah N),aj (A.add .i64 i (ah 1)) i',aj p p,aQ (aG 4 n g) (aG 4 n g),aJ m m',aT m (zX R) (zX R')]))(y15:c0=aC->c1=ak->c2=ak->c3=ak->c4=ak->c7=aC->c5=aC->c6=aC->ψ (bJ 0 [aJ 1 1,bC (fun (x:Nat)=>BK lv N T N' mk k0 g0) fun (x:Nat)=>BK lv N T N' mk k0 g0,aJ 0 0,aQ (aG 7 N (zX T)) (aG 7 N (zX T)),aj (ah N) (ah N),aj (A.add .i64 i (ah 1)) i',aj p p,aQ (aG 4 n g) (aG 4 n g),aJ (A.addN m 1) m',aT (A.addN m 1) (A.snoc (zX R) m (AU [[aW .i64 (T (A.toN i)).id,eF ak,aW .i64 (A.bin iU aN p (A.bin iq aN (ah 1) i)),aG 4 n g]])) (zX R')]))(y16:c0=aC->c1=ak->c2=ak->c3=ak->c4=ak->c7=aC->c5=aC->c6=ak->ψ (bJ 0 [aJ 1 1,bC (fun (x:Nat)=>BK lv N T N' mk k0 g0) fun (x:Nat)=>BK lv N T N' mk k0 g0,aJ 0 0,aQ (aG 7 N (zX T)) (aG 7 N (zX T)),aj (ah N) (ah N),aj (A.add .i64 i (ah 1)) i',aj p p,aQ (aG 4 n g) (aG 4 n g),aJ m m',aT m (zX R) (zX R')]))(y17:c0=aC->c1=ak->c2=ak->c3=ak->c4=ak->c7=aC->c5=ak->ψ (bJ 0 [aJ 1 1,bC (fun (x:Nat)=>BK lv N T N' mk k0 g0) fun (x:Nat)=>BK lv N T N' mk k0 g0,aJ 0 0,aQ (aG 7 N (zX T)) (aG 7 N (zX T)),aj (ah N) (ah N),aj (A.add .i64 i (ah 1)) i',aj p p,aQ (aG 4 n g) (aG 4 n g),aJ m m',aT m (zX R) (zX R')]))(y18:c0=aC->c1=ak->c2=ak->c3=ak->c4=ak->c7=ak->c5=aC->c6=aC->ψ (bJ 0 [aJ 1 1,bC (fun (x:Nat)=>BK lv N T N' mk k0 g0) fun (x:Nat)=>BK lv N T N' mk k0 g0,aJ 0 0,aQ (aG 7 N (zX T)) (aG 7 N (zX T)),aj (ah N) (ah N),aj (A.add .i64 i (ah 1)) i',aj p p,aQ (aG 4 n g) (aG 4 n g),aJ (A.addN m 1) m',aT (A.addN m 1) (A.snoc (zX R) m (AU [[aW .i64 (T (A.toN i)).id,eF ak,aW .i64 (A.bin iU aN p (A.bin iq aN (ah 1) i)),aG 4 n g]])) (zX R')]))(y19:c0=aC->c1=ak->c2=ak->c3=ak->c4=ak->c7=ak->c5=aC->c6=ak->ψ (bJ 0 [aJ 1 1,bC (fun (x:Nat)=>BK lv N T N' mk k0 g0) fun (x:Nat)=>BK lv N T N' mk k0 g0,aJ 0 0,aQ (aG 7 N (zX T)) (aG 7 N (zX T)),aj (ah N) (ah N),aj (A.add .i64 i (ah 1)) i',aj p p,aQ (aG 4 n g) (aG 4 n g),aJ m m',aT m (zX R) (zX R')]))(y20:c0=aC->c1=ak->c2=ak->c3=ak->c4=ak->c7=ak->c5=ak->ψ (bJ 0 [aJ 1 1,bC (fun (x:Nat)=>BK lv N T N' mk k0 g0) fun (x:Nat)=>BK lv N T N' mk k0 g0,aJ 0 0,aQ (aG 7 N (zX T)) (aG 7 N (zX T)),aj (ah N) (ah N),aj (A.add .i64 i (ah 1)) i',aj p p,aQ (aG 4 n g) (aG 4 n g),aJ m m',aT m (zX R) (zX R')]))(y21:c0=ak->ψ (aP (Sh.os 108 4 m (zX R)))):Cc ψ (AQ (C7 A W NW Ap) Bh 300 400 41 akw (Y7 lv N T N' mk k0 g0 p n g m R i) [] [⟨41,WT,Y7 lv N T N' mk k0 g0 p n g m' R' i',[]⟩]):=by
 subst e0 e1 e2 e3 e4 e5 e6 e7;exact Gh (an (fun q0=>an (h1 q0) (an (h2 q0) (an (y1 q0) (fun q1=>an (h3 q0 q1) (an (y2 q0 q1) (fun q2=>an (h4 q0 q1 q2) (an (fun q3=>an (h2 q0) (an (fun q4=>an (h5 q0 q1 q2 q3 q4) (an (fun q5=>an (fun q6=>an (h6 q0 q1 q2 q3 q4 q5 q6) (y3 q0 q1 q2 q3 q4 q5 q6)) (fun q6=>an (h7 q0 q1 q2 q3 q4 q5 q6) (y4 q0 q1 q2 q3 q4 q5 q6))) (y5 q0 q1 q2 q3 q4))) (fun q4=>an (fun q5=>an (h8 q0 q1 q2 q3 q4 q5) (an (fun q6=>an (fun q7=>an (h9 q0 q1 q2 q3 q4 q5 q6 q7) (y6 q0 q1 q2 q3 q4 q5 q6 q7)) (fun q7=>an (h10 q0 q1 q2 q3 q4 q5 q6 q7) (y7 q0 q1 q2 q3 q4 q5 q6 q7))) (y8 q0 q1 q2 q3 q4 q5))) (fun q5=>an (fun q6=>an (fun q7=>an (h11 q0 q1 q2 q3 q4 q5 q6 q7) (y9 q0 q1 q2 q3 q4 q5 q6 q7)) (fun q7=>an (h12 q0 q1 q2 q3 q4 q5 q6 q7) (y10 q0 q1 q2 q3 q4 q5 q6 q7))) (y11 q0 q1 q2 q3 q4 q5))))) (fun q3=>an (h2 q0) (an (fun q4=>an (fun q5=>an (fun q6=>an (h13 q0 q1 q2 q3 q4 q5 q6) (y12 q0 q1 q2 q3 q4 q5 q6)) (y13 q0 q1 q2 q3 q4 q5)) (y14 q0 q1 q2 q3 q4)) (fun q4=>an (fun q5=>an (fun q6=>an (fun q7=>an (h14 q0 q1 q2 q3 q4 q5 q6 q7) (y15 q0 q1 q2 q3 q4 q5 q6 q7)) (y16 q0 q1 q2 q3 q4 q5 q6)) (y17 q0 q1 q2 q3 q4 q5)) (fun q5=>an (fun q6=>an (fun q7=>an (h15 q0 q1 q2 q3 q4 q5 q6 q7) (y18 q0 q1 q2 q3 q4 q5 q6 q7)) (y19 q0 q1 q2 q3 q4 q5 q6)) (y20 q0 q1 q2 q3 q4 q5)))))))))))) y21) (by kernel_rfl)
end Go.Proofs
