/- Own work. -/
import Derived.Test.YthehnhaoiijkhaaGreatDoorL09
open Int (ofNat)
open And renaming intro->bP
open BitVec renaming ofInt->gG,toNat_and->tZ,toNat_ofNat->jg
open Bool renaming true->aC,or_eq_true->nI,and_eq_true->aI,false->ay
open Classical renaming propDecidable->bG,byContradiction->nN
open Go.BinOp renaming or->jc,shl->iE
open Go.Fn renaming yield->oL
open Go.IntKind renaming i64->aW
open Go.Proofs.C7 renaming Vo->nT,ok->dD
open Go.Proofs.Tryz renaming prog->aA,f120->Ad,f75->rZ,f118->Ae,f144->qZ,f92->qg,f76->su
open Go.Sx.BK renaming sh->aO,val->jO,int->aj,nat->aJ,get->aU,Mc->bF
open Go.Sx.ED renaming at_->bK,ret->aT
open Go.Sx.It renaming inBlock->dw,code->bD
open Go.Sx.Sh renaming sl->aG,str->dB,AQ->cZ,agg->cO,i->aY,er->bf,C9->mQ,pt->pR,b->gU
open Go.Sx.Tree renaming leaf->aB,need->aH,node->aF,must->aQ
open Go.Value renaming func->lW,nilIface->bJ
open Int renaming ofNat->ah,toNat_natCast->fU
open Int.ofNat renaming inj->lq
open List renaming getD_eq_getElem?_getD->aX,getElem?_append_left->dN,range->aZ,all_eq_true->dF,mem_range->dh,getElem_mem->kN,mem_cons->iy,mem_map->dJ,range_succ->qG,map_append->iR,map_congr_left->jV,mem_append->bI,mem_cons_self->bZ,mem_cons_of_mem->dA,mem_of_getElem?->bT,mem_iff_getElem->mV,getElem?_eq_getElem->aS,getElem?_eq_some_iff->aV,pairwise_singleton->lN,pairwise_iff_getElem->jF,countP_append->tY,mem_flatMap->iV
open List.Pairwise renaming nil->qh
open Nat renaming mul_le_mul_right->dR,lt_or_ge->pG,shiftLeft_eq->mP,one_mul->iK,or_lt_two_pow->pV,pow_lt_pow_right->jD,testBit_two_pow_sub_one->qj,eq_of_testBit_eq->tC,testBit_lt_two_pow->l9,lt_of_lt_of_le->jU,pow_le_pow_right->kP,lt_of_le_of_lt->uM,mod_eq_of_lt->iI,min_eq_left->qW,shiftRight_eq_div_pow->qP,and_comm->zq,zero_testBit->wF,beq->fC
open Option renaming some->ak,none->aK
namespace Go.Pl
open Go Go.Sx
def ER(s:CY)(op k v:Int):CY×Int×Int:=
 if op=1\/op=4 then (s,3,s.num)
 else if op=2 then ({s with num:=v},1,0)
 else if op=3 then ({s with num:=Kr s.num v},1,0)
 else if op=5 then ({s with q:=s.q++[v]},1,0)
 else if op=6 then ({s with q:=s.q.tail},UD s.q.length,s.q.headD 0)
 else if op=7 then ({s with ps:=Fp s.ps k v},1,0)
 else if op=8 then (s,MH s.ps k,Lp s.ps k)
 else if op=9 then ({s with ps:=Gn s.ps k},MH s.ps k,Lp s.ps k)
 else (s,0,0)
def newT(o:Nat->Oj)(j:Nat):CY:=⟨(o j).kind,(o j).init,[],[]⟩
def noT:Nat->List Sh:=fun _=>[]
end Go.Pl
namespace Go.Proofs
open Go Go.Sx Go.Pl
theorem ODs:∀g F,Hy g=ak F->AV aA (Bq W7) g F:=fun g F h=>by
 unfold Hy at h;split at h
 ·cases h;exact O66
 ·cases h;exact O67
 ·cases h;exact O68
 ·cases h;exact O69
 ·cases h;exact O94
 ·cases h;exact O95
 ·cases h;exact O96
 ·cases h;exact O97
 ·cases h;exact O99
 ·cases h;exact av9
 ·cases h;exact awe
 ·cases h;exact awf
 ·cases h
theorem UF(stop:Nat->List Nat->Bool):BP aA (C7 Ai W7 Hy stop):=nT ODs fun g h=>by
 unfold Hy at h;split at h;all_goals first|(cases h;done) |kernel_rfl
def F42:List Sh->Tree Sh
 |[.agg [.i .i64 x,.i .i64 y,s2,s3],t,u,v]=>match D9 1 s2,D9 2 s3,BF t,BF u,BF v with
  |some (a,h),ak (b,l),ak op,ak k,ak v=>.need (okB Int a h) (.need (okB Pr b l) (.need (BM (a+1) 8) (.node (G7 x op) (.leaf (.AQ [.agg (Dp NP),.i .i64 0,.i .i64 0,.er 8 329])) (.node (IG x y op k v) (.leaf (.AQ [.agg (Dp NP),.i .i64 0,.i .i64 0,.er 15 329]))
    (.need (KJ op b l) (.leaf (.AQ [.agg (Dp (ER ⟨x,y,lst Int a h,lst Pr b l⟩ op k v).1),.i .i64 (ER ⟨x,y,lst Int a h,lst Pr b l⟩ op k v).2.1,.i .i64 (ER ⟨x,y,lst Int a h,lst Pr b l⟩ op k v).2.2,.v .nilIface])))))))
  |_,_,_,_,_=>.fail
 |_=>.fail
theorem aoD{α:Type}[Row α](l:List α)(a:α):∀i,i<l.length+1->Gw l.length (Aj (nth l)) (Row.put a) i=Aj (nth (l++[a])) i:=fun i hi=>by
 unfold Gw;split
 ·rename_i h1
  simp only[Aj,nth];rw[aX,aX,dN h1]
 ·have:i=l.length:=by omega
  subst this;simp[Aj,nth]
theorem Ug{α:Type}[Row α](o:Nat->α):Am (Aj o)=o:=funext fun i=>NK o i
section
variable{H0:Mem}{w0:World}{φ:Sh->Prop}
theorem awi{x y op k v:Int}{q:List Int}{ps:List Pr}(hr:BM (q.length+1) 8=aC)(hop:op=1\/op=2\/op=3\/op=4\/op=5\/op=6\/op=7\/op=8\/op=9)(hm:KJ op ps.length (Aj (nth ps))=aC)(hkey:EF k=aC)
  (hφ:φ (.AQ [.agg (Dp (ER ⟨x,y,q,ps⟩ op k v).1),.i .i64 (ER ⟨x,y,q,ps⟩ op k v).2.1,.i .i64 (ER ⟨x,y,q,ps⟩ op k v).2.2,.v .nilIface])) :
  Bz aA (C7 Ai W7 Hy AU) (K0 H0 w0) 120 NS (L42 x y q.length ps.length (Aj (nth q)) (Aj (nth ps)) op k v) [] emp (up φ):=by
 have lit (n:Int) (h:Bz aA (C7 Ai W7 Hy AU) (K0 H0 w0) 120 NS (UE x y q.length ps.length (Aj (nth q)) (Aj (nth ps)) n k v) [] emp (up φ)):Bz aA (C7 Ai W7 Hy AU) (K0 H0 w0) 120 NS (L42 x y q.length ps.length (Aj (nth q)) (Aj (nth ps)) n k v) [] emp (up φ):=
  alY _ (fun H E vs hd=>ag6 1 rfl hd) h
 have fin (s':CY) (r g:Int) (e:ER ⟨x,y,q,ps⟩ op k v=(s',r,g)) (c:List Sh) (hc:Oa c (Dp s')):up φ (.AQ [.agg c,.i .i64 r,.i .i64 g,.v .nilIface]):=
  BX (s':=.AQ [.agg (Dp (ER ⟨x,y,q,ps⟩ op k v).1),.i .i64 (ER ⟨x,y,q,ps⟩ op k v).2.1,.i .i64 (ER ⟨x,y,q,ps⟩ op k v).2.2,.v .nilIface]) (by rw[e];exact ⟨hc,rfl,rfl,rfl,trivial⟩) hφ
 rcases hop with rfl|rfl|rfl|rfl|rfl|rfl|rfl|rfl|rfl
 ·refine lit 1 (G5 (dD _ _) (UF _) (hold:=BL) (m:=300) (n:=400) (ts:=[]) ?_)
  rw[atD Ai W7 x y q.length ps.length (Aj (nth q)) (Aj (nth ps)) k v];have:=fin _ _ _ rfl [.i .i64 x,.i .i64 y,.sl 1 q.length (Aj (nth q)),.sl 2 ps.length (Aj (nth ps))] (by simp[Dp,Wk,Oa,len]);repeat' (first|exact trivial|exact rfl|exact this|refine bP ?_ ?_)
 ·refine lit 2 (G5 (dD _ _) (UF _) (hold:=BL) (m:=300) (n:=400) (ts:=[]) ?_)
  rw[atE Ai W7 x y q.length ps.length (Aj (nth q)) (Aj (nth ps)) k v];have:=fin _ _ _ rfl [.i .i64 x,.i .i64 v,.sl 1 q.length (Aj (nth q)),.sl 2 ps.length (Aj (nth ps))] (by simp[Dp,Wk,Oa,len]);repeat' (first|exact trivial|exact rfl|exact this|refine bP ?_ ?_)
 ·refine lit 3 (G5 (dD _ _) (UF _) (hold:=BL) (m:=300) (n:=400) (ts:=[]) ?_)
  rw[atF Ai W7 x y q.length ps.length (Aj (nth q)) (Aj (nth ps)) k v];have:=fin _ _ _ rfl [.i .i64 x,.i .i64 (Kr y v),.sl 1 q.length (Aj (nth q)),.sl 2 ps.length (Aj (nth ps))] (by simp[Dp,Wk,Oa,len]);repeat' (first|exact trivial|exact rfl|exact this|refine bP ?_ ?_)
 ·refine lit 4 (G5 (dD _ _) (UF _) (hold:=BL) (m:=300) (n:=400) (ts:=[]) ?_)
  rw[atG Ai W7 x y q.length ps.length (Aj (nth q)) (Aj (nth ps)) k v];have:=fin _ _ _ rfl [.i .i64 x,.i .i64 y,.sl 1 q.length (Aj (nth q)),.sl 2 ps.length (Aj (nth ps))] (by simp[Dp,Wk,Oa,len]);repeat' (first|exact trivial|exact rfl|exact this|refine bP ?_ ?_)
 ·refine lit 5 (G5 (dD _ _) (UF _) (hold:=BL) (m:=300) (n:=400) (ts:=[]) ?_)
  rw[atH Ai W7 x y q.length ps.length (Aj (nth q)) (Aj (nth ps)) k v];have:=fin _ _ _ rfl [.i .i64 x,.i .i64 y,.sl 1 (q.length+1) (Gw q.length (Aj (nth q)) [.i .i64 v]),.sl 2 ps.length (Aj (nth ps))] ⟨rfl,rfl,.inr ⟨rfl,by simp[len],aoD q v⟩,.inr ⟨rfl,rfl,fun _ _=>rfl⟩,trivial⟩;repeat' (first|exact trivial|exact hr|exact rfl|exact this|refine bP ?_ ?_)
 ·refine lit 6 (G5 (dD _ _) (UF _) (hold:=BL) (m:=300) (n:=400) (ts:=[]) ?_)
  rw[atI Ai W7 x y q.length ps.length (Aj (nth q)) (Aj (nth ps)) k v,Ug];have hh:QL q.length (nth q)=q.headD 0:=by cases q<;>rfl
  rw[hh];have:=fin _ _ _ rfl [.i .i64 x,.i .i64 y,.sl 1 (QK q.length) (Ox (Aj (nth q))),.sl 2 ps.length (Aj (nth ps))] ⟨rfl,rfl,.inr ⟨rfl,by simp[len,QK],fun j hj=>by
   show Aj (nth q) (1+j)=Aj (nth q.tail) j;simp only[Aj,nth];cases q with
   |nil=>rfl |cons z r=>simp[Nat.add_comm 1 j]⟩,.inr ⟨rfl,rfl,fun _ _=>rfl⟩,trivial⟩
  repeat' (first|exact trivial|exact DI _ _|exact rfl|exact this|refine bP ?_ ?_)
 all_goals
  have hm2:(!decide (MF _=4)||(Ia ps.length (Aj (nth ps))&&BM (ps.length+1) 16))=aC:=hm;have hm3:Ia ps.length (Aj (nth ps))=aC/\BM (ps.length+1) 16=aC:=by
   rw[show decide (MF _=4)=aC from rfl] at hm2;simpa using hm2
  obtain ⟨m1,m2⟩:=hm3;have el:lst Pr ps.length (Aj (nth ps))=ps:=Lj ps
 ·refine lit 7 (G5 (dD _ _) (UF _) (hold:=BL) (m:=300) (n:=400) (ts:=[]) ?_)
  rw[atJ Ai W7 x y q.length ps.length (Aj (nth q)) (nth ps) k v,el];have:=fin _ _ _ rfl [.i .i64 x,.i .i64 y,.sl 1 q.length (Aj (nth q)),.sl 2 (len (Fp ps k v)) (Aj (nth (Fp ps k v)))] (by simp[Dp,Wk,Oa,len]);repeat' (first|exact trivial|exact m1|exact m2|exact hkey|exact rfl|exact this|refine bP ?_ ?_)
 ·refine lit 8 (G5 (dD _ _) (UF _) (hold:=BL) (m:=300) (n:=400) (ts:=[]) ?_)
  rw[atK Ai W7 x y q.length ps.length (Aj (nth q)) (nth ps) k v,el];have:=fin _ _ _ rfl [.i .i64 x,.i .i64 y,.sl 1 q.length (Aj (nth q)),.sl 2 ps.length (Aj (nth ps))] (by simp[Dp,Wk,Oa,len]);repeat' (first|exact trivial|exact m1|exact m2|exact hkey|exact rfl|exact this|refine bP ?_ ?_)
 ·refine lit 9 (G5 (dD _ _) (UF _) (hold:=BL) (m:=300) (n:=400) (ts:=[]) ?_)
  rw[atL Ai W7 x y q.length ps.length (Aj (nth q)) (nth ps) k v,el];have:=fin _ _ _ rfl [.i .i64 x,.i .i64 y,.sl 1 q.length (Aj (nth q)),.sl 2 (len (Gn ps k)) (Aj (nth (Gn ps k)))] (by simp[Dp,Wk,Oa,len]);repeat' (first|exact trivial|exact m1|exact m2|exact hkey|exact rfl|exact this|refine bP ?_ ?_)
end
theorem ag8{op:Int}(h0:MF op≠0):op=1\/op=2\/op=3\/op=4\/op=5\/op=6\/op=7\/op=8\/op=9:=by
 unfold MF at h0;repeat' split at h0
 all_goals first|omega|simp_all
theorem O42:AV aA (Bq W7) 120 F42:=by
 refine FT (C:=C7 Ai W7 Hy AU) (dD _ _) (fn:=Ad) (by kernel_rfl) (by kernel_rfl) fun H w Bv args φ hrep h=>?_
 have hn:Ad.ntmps=88:=by kernel_rfl
 unfold F42 at h;split at h
 ·rename_i x y s2 s3 t u v
  split at h
  ·rename_i a hh b l op k vv hs2 hs3 ht hu hv
   obtain ⟨h1,h2,h3,he,hb⟩:=h;have hml:KJ op b l=aC->KJ op (lst Pr b l).length (Aj (nth (lst Pr b l)))=aC:=fun hq=>by
    unfold KJ Ia at hq ⊢;rw[Lj,FK,DI];simp only[nI,aI] at hq ⊢;rcases hq with hq|hq
    ·exact .inl hq
    ·exact .inr ⟨⟨⟨trivial,hq.1.1.2⟩,hq.1.2⟩,hq.2⟩
   match args,hrep with
   |[v0,v1,v2,v3],⟨r0,r1,r2,r3,_⟩=>
    refine ⟨[.agg [.i .i64 x,.i .i64 y,.sl 1 (lst Int a hh).length (Aj (nth (lst Int a hh))),.sl 2 (lst Pr b l).length (Aj (nth (lst Pr b l)))],.i .i64 op,.i .i64 k,.i .i64 vv],⟨Ij r0 (fun u hu=>KZ (BQ hs2 hu) h1) (fun u hu=>KZ (BQ hs3 hu) h2),EJ ht r1,EJ hu r2,EJ hv r3,trivial⟩,L0,?_⟩;have h3:BM ((lst Int a hh).length+1) 8=aC:=by rw[FK];exact h3
    have hb:G7 x op=ay->(IG x y op k vv=aC->φ (.AQ [.agg (Dp NP),.i .i64 0,.i .i64 0,.er 15 329]))/\(IG x y op k vv=ay->KJ op (lst Pr b l).length (Aj (nth (lst Pr b l)))=aC/\φ (.AQ [.agg (Dp (ER ⟨x,y,lst Int a hh,lst Pr b l⟩ op k vv).1),.i .i64 (ER ⟨x,y,lst Int a hh,lst Pr b l⟩ op k vv).2.1,.i .i64 (ER ⟨x,y,lst Int a hh,lst Pr b l⟩ op k vv).2.2,.v .nilIface])):=fun e=>⟨(hb e).1,fun e2=>⟨hml ((hb e).2 e2).1,((hb e).2 e2).2⟩⟩;clear hml;generalize lst Int a hh=q at *;generalize lst Pr b l=ps at *;have e1 (e:G7 x op=aC):up φ (.AQ [.agg [.i .i64 (ah 0),.i .i64 (ah 0),.sl 0 0 fun _=>[],.sl 0 0 fun _=>[]],.i .i64 (ah 0),.i .i64 (ah 0),.er 8 329]):=
     BX (s':=.AQ [.agg (Dp NP),.i .i64 0,.i .i64 0,.er 8 329]) ⟨⟨rfl,rfl,.inl ⟨rfl,rfl⟩,.inl ⟨rfl,rfl⟩,trivial⟩,rfl,rfl,rfl,trivial⟩ (he e)
    have e3 (e:G7 x op=ay) (e2:IG x y op k vv=aC):up φ (.AQ [.agg [.i .i64 (ah 0),.i .i64 (ah 0),.sl 0 0 fun _=>[],.sl 0 0 fun _=>[]],.i .i64 (ah 0),.i .i64 (ah 0),.er 15 329]):=
     BX (s':=.AQ [.agg (Dp NP),.i .i64 0,.i .i64 0,.er 15 329]) ⟨⟨rfl,rfl,.inl ⟨rfl,rfl⟩,.inl ⟨rfl,rfl⟩,trivial⟩,rfl,rfl,rfl,trivial⟩ ((hb e).1 e2)
    have go (e:G7 x op=ay) (e2:IG x y op k vv=ay):∃t:N9,([⟨120,NS,L42 x y q.length ps.length (Aj (nth q)) (Aj (nth ps)) op k vv,[]⟩]:List N9)[0]?=ak t/\Bz aA (C7 Ai W7 Hy AU) (K0 H w) t.g t.td t.c t.stk emp (up φ):=
     ⟨_,rfl,awi h3 (ag8 (by
      simp[G7] at e;rw[e.2];exact e.1)) ((hb e).2 e2).1 (by
       simp[IG] at e2;unfold EF;exact decide_eq_true (by omega)) ((hb e).2 e2).2⟩
    refine agC (dD _ _) (UF _) (pause:=ag7) (m:=300) (n:=400) (ts:=[⟨120,NS,L42 x y q.length ps.length (Aj (nth q)) (Aj (nth ps)) op k vv,[]⟩]) ?_;rw[hn,a42 Ai W7 x y q.length ps.length (Aj (nth q)) (Aj (nth ps)) op k vv];have q0:ah 0=0:=rfl;have q3:ah 3=3:=rfl;have qk:ah 1000=1000:=rfl;have q4:ah 1000000000=1000000000:=rfl;have q6:Int.negSucc 999999999=-1000000000:=rfl;have qa:Ai.add .i64 y vv=Kr y vv:=rfl;rw[q0] at e1 e3;simp only[AX,CB,Aq,q0,q3,qk,q4,q6,qa];clear he hb h3 hn;repeat' (first|exact trivial|exact rfl|(intro _) |refine bP ?_ ?_)
    all_goals first
     |exact e1 (by simp_all [G7])
     |exact e3 (by simp_all [G7]) (by simp_all [IG])
     |exact go (by simp_all [G7]) (by simp_all [IG])
  ·exact h.elim
 ·exact h.elim
open Go Go.Sx Go.Pl
theorem OCs:∀g F,QM g=ak F->AV aA (Bq W7) g F:=fun g F h=>by
 unfold QM at h;split at h
 ·cases h;exact O33
 ·cases h;exact O35
 ·cases h;exact O41
 ·cases h;exact O49
 ·cases h;exact O50
 ·cases h;exact O54
 ·cases h;exact O56
 ·cases h
theorem aoE(stop:Nat->List Nat->Bool):BP aA (C7 Ai W7 QM stop):=nT OCs fun g h=>by
 unfold QM at h;split at h;all_goals first|(cases h;done) |kernel_rfl
def F25:List Sh->Tree Sh
 |[s0]=>match D9 2 s0 with
  |some (n,g)=>.need (okB Oj n g) (.need (QH n (Am g)) (.node (S9 n) (.leaf (.AQ [.agg [.sl 4 0 noT],.er 6 329])) (.node (NQ n (Am g)) (.leaf (.AQ [.agg [.sl 4 n (CP (newT (Am g)))],.v .nilIface])) (.leaf (.AQ [.agg [.sl 4 0 noT],.C9 109 (.pt [.i .i64 (Lm n (Am g)),.er 7 329])]))))) |none=>.fail
 |_=>.fail
theorem alZ{n j:Nat}{g:Nat->List Sh}{r:List Sh}(h:j<n):Gw n g r j=g j:=if_pos h
theorem adX{n:Nat}{g:Nat->List Sh}{r:List Sh}:Gw n g r n=r:=if_neg (by omega)
section
variable{H0:Mem}{w0:World}{φ:Sh->Prop}
theorem akI{n:Nat}{o:Nat->Oj}(hn:n<=8)(hk:∀j,j<n->Di (o j).kind=aC)(hT:∀j,j<n->Fa (o j).kind (o j).init=ay)(hφ:φ (.AQ [.agg [.sl 4 n (CP (newT o))],.v .nilIface])):
  ∀r k (gg:Nat->List Sh),k+r=n->(∀j,j<k->gg j=Dp (newT o j))->Bz aA (C7 Ai W7 QM AU) (K0 H0 w0) 75 Zp (Xn n o (k:Int) k gg ay) [] emp (up φ)
 |r,k,gg,hkr,hg=>by
  refine GK (fn:=rZ) (tb:=akH) (by kernel_rfl) (by kernel_rfl) ?_;refine G5 (dD _ _) (aoE _) (hold:=BL) (m:=300) (n:=400) (ts:=[⟨75,Zp,Xn n o (k+1:Nat) (k+1) (Gw k gg (Dp (newT o k))) ay,[]⟩]) ?_;rw[b25 Ai W7 n o k (k+1:Nat) k (k+1) gg (Gw k gg (Dp (newT o k)))];simp only[Aq,BJ,CX,Dq,GR,fU];refine ⟨fun h=>?_,fun h=>?_⟩
  ·have hlt:k<n:=by simp at h;omega
   refine ⟨by simp;omega,hk k hlt,fun hb=>(by rw[hT k hlt] at hb;cases hb),fun _=>⟨room_le (by omega) (by omega),⟨rfl,rfl,?_,rfl,trivial⟩,_,rfl,?_⟩⟩
   ·simp only[BK.ok];rw[Cj (by omega) (by omega)];rfl
   ·match r,hkr with
    |0,hkr=>omega |r+1,hkr=>
     refine akI hn hk hT hφ r (k+1) _ (by omega) fun j hj=>?_
     by_cases e:j=k
     ·subst e;exact adX
     ·rw[alZ (by omega)];exact hg j (by omega)
  ·have:k=n:=by simp at h;omega
   subst this;exact BX (s':=.AQ [.agg [.sl 4 k (CP (newT o))],.v .nilIface]) ⟨⟨.inr ⟨rfl,rfl,hg⟩,trivial⟩,rfl,trivial⟩ hφ
end
theorem O25:AV aA (Bq W7) 75 F25:=by
 refine FT (C:=C7 Ai W7 QM AU) (dD _ _) (fn:=rZ) (by kernel_rfl) (by kernel_rfl) fun H w Bv args φ hrep h=>?_
 have hn:rZ.ntmps=38:=by kernel_rfl
 unfold F25 at h;split at h
 ·rename_i s0
  split at h
  ·rename_i n g hs0
   obtain ⟨h1,h2,hbig,hsm⟩:=h;have hsm:S9 n=ay->(NQ n (Am g)=aC->φ (.AQ [.agg [.sl 4 n (CP (newT (Am g)))],.v .nilIface]))/\(NQ n (Am g)=ay->φ (.AQ [.agg [.sl 4 0 noT],.C9 109 (.pt [.i .i64 (Lm n (Am g)),.er 7 329])])):=hsm;match args,hrep with
   |[v],⟨hv,_⟩=>
    refine ⟨[.sl 2 n (Aj (Am (α:=Oj) g))],⟨Ez (BQ hs0 hv) h1,trivial⟩,L0,?_⟩;generalize Am (α:=Oj) g=o at *;refine G5 (dD _ _) (aoE _) (hold:=BL) (m:=300) (n:=400) (ts:=[⟨75,Zp,Xn n o (0:Nat) 0 noT aC,[]⟩]) ?_;rw[hn,a25 Ai W7 n o (0:Nat) 0 noT,Ug];refine ⟨DI _ _,h2,fun e=>BX (s':=.AQ [.agg [.sl 4 0 noT],.er 6 329]) ⟨⟨.inl ⟨rfl,rfl⟩,trivial⟩,rfl,trivial⟩ (hbig e),fun e=>?_⟩;obtain ⟨q1,q2⟩:=hsm e;have hn8:n<=8:=by simp[S9] at e;omega
    refine ⟨fun e=>⟨⟨rfl,rfl,rfl,trivial⟩,_,rfl,?_⟩,fun e=>BX (s':=.AQ [.agg [.sl 4 0 noT],.C9 109 (.pt [.i .i64 (Lm n o),.er 7 329])]) ⟨⟨.inl ⟨rfl,rfl⟩,trivial⟩,rfl,trivial⟩ (q2 e)⟩;have hT:∀j,j<n->Fa (o j).kind (o j).init=ay:=fun j hj=>by simpa using IE e j hj
    refine GK (fn:=rZ) (tb:=akH) (by kernel_rfl) (by kernel_rfl) ?_;refine G5 (dD _ _) (aoE _) (hold:=BL) (m:=300) (n:=400) (ts:=[⟨75,Zp,Xn n o (1:Nat) 1 (Gw 0 (fun _=>[]) (Dp (newT o 0))) ay,[]⟩]) ?_;rw[c25 Ai W7 n o (0:Nat) (1:Nat) 0 1 noT (Gw 0 (fun _=>[]) (Dp (newT o 0)))];simp only[Aq,BJ,CX,Dq,GR,fU];refine ⟨fun h=>?_,fun h=>?_⟩
    ·have hlt:0<n:=by simp at h;omega
     refine ⟨by simp;omega,IE h2 0 hlt,fun hb=>(by rw[hT 0 hlt] at hb;cases hb),fun _=>⟨room_le (by omega) (by omega),⟨rfl,rfl,?_,rfl,trivial⟩,_,rfl,?_⟩⟩
     ·simp only[BK.ok];rw[Cj (by omega) (by omega)];rfl
     ·refine akI hn8 (IE h2) hT (q1 e) (n - 1) 1 _ (by omega) fun j hj=>?_
      obtain rfl:j=0:=by omega
      exact adX
    ·have:n=0:=by simp at h;omega
     subst this;exact BX (s':=.AQ [.agg [.sl 4 0 (CP (newT o))],.v .nilIface]) ⟨⟨.inl ⟨rfl,rfl⟩,trivial⟩,rfl,trivial⟩ (q1 e)
  ·exact h.elim
 ·exact h.elim
end Go.Proofs
namespace Go.Pl
open Go Go.Sx
structure Lk7 where
 key:CY->List UInt8
 join:Nat->(Nat->List Sh)->List UInt8->List UInt8
def sQ(x y:Int)(a:Nat)(h:Nat->List Sh)(b:Nat)(l:Nat->List Sh):CY:=⟨x,y,lst Int a h,lst Pr b l⟩
def Zq(x y:Int)(a:Nat)(h:Nat->List Sh)(b:Nat)(l:Nat->List Sh):Bool:=
 okB Int a h&&okB Pr b l&&Di x&&Di y&&aod a (Am h)&&asB b (Am l)&&decide (a<=100000/\b<=100000)
def abM(n:Nat)(g:Nat->List Sh)(sep:List UInt8):Bool:=okB (List UInt8) n g&&BM n 16&&IK (DC (lst (List UInt8) n g) sep)
end Go.Pl
namespace Go.Proofs
open Go Go.Sx Go.Pl
def G35(L:Lk7):List Sh->Tree Sh
 |[.agg [.i .i64 x,.i .i64 y,s2,s3]]=>match D9 1 s2,D9 2 s3 with
  |some (a,h),ak (b,l)=>.need (Zq x y a h b l) (.leaf (.str (L.key (sQ x y a h b l)))) |_,_=>.fail
 |_=>.fail
def G56(L:Lk7):List Sh->Tree Sh
 |[s0,.str sep]=>match D9 1 s0 with
  |some (n,g)=>.need (abM n g sep) (.leaf (.str (L.join n g sep))) |none=>.fail
 |_=>.fail
def F64:List Sh->Tree Sh
 |[.agg [s0]]=>match D9 4 s0 with
  |some (n,g)=>.need (BM n 64) (.leaf (.sl 4 n g)) |none=>.fail
 |_=>.fail
def LV(L:Lk7):Nat->Option (List Sh->Tree Sh)
 |116=>ak (G35 L) |117=>ak (G56 L) |118=>ak F64 |_=>aK
def ag9:List Nat:=[0,1,0,1,1]
def k32:List It:=[dw 0,bD [1,1,1]]
def asG(j:Nat)(gg:Nat->List Sh):Bool->SV×List (Nat×SB)
 |true=>(.A8,[]) |false=>(.gs 2,[(2,.own 9 1 j gg)])
def asH(n:Nat)(d:Nat->CY)(j:Nat)(gg:Nat->List Sh)(v:Bool):List (Nat×SB):=[(0,.box [(asG j gg v).1] 236),(1,.box [.sh (.sl 4 n (CP d))] 100)]++(asG j gg v).2
def asI:List SV:=G6 17 [(3,.ptr 0 0),(7,.fn 144 [.ptr 1 0])]
def L32(n:Nat)(d:Nat->CY):Core:={tm:=asI,hp:=asH n d 0 (fun _=>[]) aC,nx:=2,lim:=L0,tc:=[]}
def ZV(l:Nat):List Fw:=[⟨92,aK,k32,asI,ak (l,ag9,.ready)⟩]
def UG:List It:=[bD [0,1],dw 0]
def akJ:List It:=bD [0,0,1]::UG
def awj:Bool->Nat
 |true=>2 |false=>3
def L63(n:Nat)(d:Nat->CY)(l:Nat)(k:Int)(j:Nat)(gg:Nat->List Sh)(v:Bool):Core:=
 {tm:=G6 20 [(0,.val (yv l)),(7,.sh (.sl 4 n (CP d))),(8,.sym .i64 (n:Int)),(9,.sym .i64 k)],hp:=asH n d j gg v,nx:=awj v,lim:=L0,tc:=[]}
theorem a32(A:Prim)(W:Wd)(L:Lk7)(n:Nat)(d:Nat->CY):agK (C7 A W (LV L) AU) Lh 300 800 92 aK [.code []] (Ap 17 [.agg [.sl 4 n (CP d)]] L0) [] [⟨92,aK,.code ag9::k32,L32 n d,[]⟩]=aB (bK 0 [aO (aG 4 n (CP d)) (aG 4 n (CP d))]):=by kernel_rfl
theorem t32(A:Prim)(W:Wd)(L:Lk7)(n:Nat)(d:Nat->CY)(l:Nat)(k:Int)(j:Nat)(gg:Nat->List Sh):agK (C7 A W (LV L) AU) Lh 300 800 144 aK [.code []] {L32 n d with tm:=(.val (yv l)::[.ptr 1 0])++List.replicate (20 - (1+1)) .any} (ZV l) [⟨144,aK,UG,L63 n d l k j gg aC,ZV l⟩]=aH (BM n 64) (aB (bK 0 [jO (lW (oL l) {toList:=[]} {toList:=[]}) (lW (oL l) {toList:=[]} {toList:=[]}),aO (aG 4 n (CP d)) (aG 4 n (CP d)),aj (A.AZ n) (ah n),aj (ah 0) k,aO (aG 4 n (CP d)) (aG 4 n (CP d)),aJ l l])):=by kernel_rfl
noncomputable def aha(A:Prim)(L:Lk7)(n:Nat)(d:Nat->CY)(k:Int):List BK:=[aj k k,aj (d (A.toN k)).kind (d (A.toN k)).kind,aj (d (A.toN k)).num (d (A.toN k)).num,aO (aG 1 (len (d (A.toN k)).q) (Aj (nth (d (A.toN k)).q))) (aG 1 (len (d (A.toN k)).q) (Aj (nth (d (A.toN k)).q))),aO (aG 2 (len (d (A.toN k)).ps) (Aj (nth (d (A.toN k)).ps))) (aG 2 (len (d (A.toN k)).ps) (Aj (nth (d (A.toN k)).ps))),aO (aG 4 n (CP d)) (aG 4 n (CP d)),aj (d (A.toN k)).kind (d (A.toN k)).kind,aj (d (A.toN k)).num (d (A.toN k)).num,aO (aG 1 (len (d (A.toN k)).q) (Aj (nth (d (A.toN k)).q))) (aG 1 (len (d (A.toN k)).q) (Aj (nth (d (A.toN k)).q))),aO (aG 2 (len (d (A.toN k)).ps) (Aj (nth (d (A.toN k)).ps))) (aG 2 (len (d (A.toN k)).ps) (Aj (nth (d (A.toN k)).ps))),aj (d (A.toN k)).kind (d (A.toN k)).kind,aj (d (A.toN k)).num (d (A.toN k)).num,aO (aG 1 (len (d (A.toN k)).q) (Aj (nth (d (A.toN k)).q))) (aG 1 (len (d (A.toN k)).q) (Aj (nth (d (A.toN k)).q))),aO (aG 2 (len (d (A.toN k)).ps) (Aj (nth (d (A.toN k)).ps))) (aG 2 (len (d (A.toN k)).ps) (Aj (nth (d (A.toN k)).ps))),aO (dB (L.key (sQ (d (A.toN k)).kind (d (A.toN k)).num (len (d (A.toN k)).q) (Aj (nth (d (A.toN k)).q)) (len (d (A.toN k)).ps) (Aj (nth (d (A.toN k)).ps))))) (dB (L.key (sQ (d (A.toN k)).kind (d (A.toN k)).num (len (d (A.toN k)).q) (Aj (nth (d (A.toN k)).q)) (len (d (A.toN k)).ps) (Aj (nth (d (A.toN k)).ps))))),aO (dB (L.key (sQ (d (A.toN k)).kind (d (A.toN k)).num (len (d (A.toN k)).q) (Aj (nth (d (A.toN k)).q)) (len (d (A.toN k)).ps) (Aj (nth (d (A.toN k)).ps))))) (dB (L.key (sQ (d (A.toN k)).kind (d (A.toN k)).num (len (d (A.toN k)).q) (Aj (nth (d (A.toN k)).q)) (len (d (A.toN k)).ps) (Aj (nth (d (A.toN k)).ps)))))]
theorem awk(A:Prim)(W:Wd)(L:Lk7)(n:Nat)(d:Nat->CY)(l:Nat)(k k':Int)(j j':Nat)(gg Iu:Nat->List Sh):agK (C7 A W (LV L) AU) Lh 300 800 144 aK akJ (L63 n d l k j gg aC) (ZV l) [⟨144,aK,UG,L63 n d l k' j' Iu ay,ZV l⟩]=aF (A.lt k (ah n)) (aH (A.inB k n) (aQ [aJ l l] (aQ [aJ l l] (aH (Zq (d (A.toN k)).kind (d (A.toN k)).num (len (d (A.toN k)).q) (Aj (nth (d (A.toN k)).q)) (len (d (A.toN k)).ps) (Aj (nth (d (A.toN k)).ps))) (aH (Zq (d (A.toN k)).kind (d (A.toN k)).num (len (d (A.toN k)).q) (Aj (nth (d (A.toN k)).q)) (len (d (A.toN k)).ps) (Aj (nth (d (A.toN k)).ps))) (aQ (aha A L n d k) (aQ (aha A L n d k) (aQ [aJ l l] (aB (bK 0 [jO (lW (oL l) {toList:=[]} {toList:=[]}) (lW (oL l) {toList:=[]} {toList:=[]}),aO (aG 4 n (CP d)) (aG 4 n (CP d)),aj (ah n) (ah n),aj (A.add .i64 k (ah 1)) k',aO (aG 4 n (CP d)) (aG 4 n (CP d)),aJ 1 j',aU 1 (Bh [[dB (L.key (sQ (d (A.toN k)).kind (d (A.toN k)).num (len (d (A.toN k)).q) (Aj (nth (d (A.toN k)).q)) (len (d (A.toN k)).ps) (Aj (nth (d (A.toN k)).ps))))]]) Iu,aJ l l])))))))))) (aH (abM 0 (fun _=>[]) [59,32]) (aB (aT (dB (L.join 0 (fun _=>[]) [59,32]))))):=by kernel_rfl
noncomputable def ahb(A:Prim)(L:Lk7)(n:Nat)(d:Nat->CY)(k:Int)(j:Nat)(gg:Nat->List Sh):List BK:=[aj k k,aj (d (A.toN k)).kind (d (A.toN k)).kind,aj (d (A.toN k)).num (d (A.toN k)).num,aO (aG 1 (len (d (A.toN k)).q) (Aj (nth (d (A.toN k)).q))) (aG 1 (len (d (A.toN k)).q) (Aj (nth (d (A.toN k)).q))),aO (aG 2 (len (d (A.toN k)).ps) (Aj (nth (d (A.toN k)).ps))) (aG 2 (len (d (A.toN k)).ps) (Aj (nth (d (A.toN k)).ps))),aO (aG 4 n (CP d)) (aG 4 n (CP d)),aj (d (A.toN k)).kind (d (A.toN k)).kind,aj (d (A.toN k)).num (d (A.toN k)).num,aO (aG 1 (len (d (A.toN k)).q) (Aj (nth (d (A.toN k)).q))) (aG 1 (len (d (A.toN k)).q) (Aj (nth (d (A.toN k)).q))),aO (aG 2 (len (d (A.toN k)).ps) (Aj (nth (d (A.toN k)).ps))) (aG 2 (len (d (A.toN k)).ps) (Aj (nth (d (A.toN k)).ps))),aj (d (A.toN k)).kind (d (A.toN k)).kind,aj (d (A.toN k)).num (d (A.toN k)).num,aO (aG 1 (len (d (A.toN k)).q) (Aj (nth (d (A.toN k)).q))) (aG 1 (len (d (A.toN k)).q) (Aj (nth (d (A.toN k)).q))),aO (aG 2 (len (d (A.toN k)).ps) (Aj (nth (d (A.toN k)).ps))) (aG 2 (len (d (A.toN k)).ps) (Aj (nth (d (A.toN k)).ps))),aO (dB (L.key (sQ (d (A.toN k)).kind (d (A.toN k)).num (len (d (A.toN k)).q) (Aj (nth (d (A.toN k)).q)) (len (d (A.toN k)).ps) (Aj (nth (d (A.toN k)).ps))))) (dB (L.key (sQ (d (A.toN k)).kind (d (A.toN k)).num (len (d (A.toN k)).q) (Aj (nth (d (A.toN k)).q)) (len (d (A.toN k)).ps) (Aj (nth (d (A.toN k)).ps))))),aJ (A.addN j 1) (A.addN j 1),bF (A.snoc gg j (Bh [[dB (L.key (sQ (d (A.toN k)).kind (d (A.toN k)).num (len (d (A.toN k)).q) (Aj (nth (d (A.toN k)).q)) (len (d (A.toN k)).ps) (Aj (nth (d (A.toN k)).ps))))]])) (A.snoc gg j (Bh [[dB (L.key (sQ (d (A.toN k)).kind (d (A.toN k)).num (len (d (A.toN k)).q) (Aj (nth (d (A.toN k)).q)) (len (d (A.toN k)).ps) (Aj (nth (d (A.toN k)).ps))))]]))]
theorem awl(A:Prim)(W:Wd)(L:Lk7)(n:Nat)(d:Nat->CY)(l:Nat)(k k':Int)(j j':Nat)(gg Iu:Nat->List Sh):agK (C7 A W (LV L) AU) Lh 300 800 144 aK akJ (L63 n d l k j gg ay) (ZV l) [⟨144,aK,UG,L63 n d l k' j' Iu ay,ZV l⟩]=aF (A.lt k (ah n)) (aH (A.inB k n) (aQ [aJ l l] (aQ [aJ l l] (aH (Zq (d (A.toN k)).kind (d (A.toN k)).num (len (d (A.toN k)).q) (Aj (nth (d (A.toN k)).q)) (len (d (A.toN k)).ps) (Aj (nth (d (A.toN k)).ps))) (aH (A.room (A.addN j 1) 16) (aH (Zq (d (A.toN k)).kind (d (A.toN k)).num (len (d (A.toN k)).q) (Aj (nth (d (A.toN k)).q)) (len (d (A.toN k)).ps) (Aj (nth (d (A.toN k)).ps))) (aH (A.room (A.addN j 1) 16) (aH (A.room (A.addN j 1) 16) (aQ (ahb A L n d k j gg) (aQ (ahb A L n d k j gg) (aQ [aJ l l] (aB (bK 0 [jO (lW (oL l) {toList:=[]} {toList:=[]}) (lW (oL l) {toList:=[]} {toList:=[]}),aO (aG 4 n (CP d)) (aG 4 n (CP d)),aj (ah n) (ah n),aj (A.add .i64 k (ah 1)) k',aO (aG 4 n (CP d)) (aG 4 n (CP d)),aJ (A.addN j 1) j',aU (A.addN j 1) (A.snoc gg j (Bh [[dB (L.key (sQ (d (A.toN k)).kind (d (A.toN k)).num (len (d (A.toN k)).q) (Aj (nth (d (A.toN k)).q)) (len (d (A.toN k)).ps) (Aj (nth (d (A.toN k)).ps))))]])) Iu,aJ l l]))))))))))))) (aH (abM j gg [59,32]) (aB (aT (dB (L.join j gg [59,32]))))):=by kernel_rfl
end Go.Proofs
namespace Go.Pl
open Go Go.Sx Go.Proofs
def Xo(s:CY):Bool:=Di s.kind&&Di s.num&&s.q.all Di&&s.ps.all (fun p=>Di p.key&&Di p.val)&&decide (s.q.length<=100000/\s.ps.length<=100000)
def keysB(n:Nat)(d:Nat->CY):Bool:=decide (n<=1000)&&(aZ n).all fun j=>Xo (d j)
def adY(l:List CY):List UInt8:=DC (l.map keyS) [59,32]
def LK:Lk7 where
 key:=keyS
 join n g sep:=DC (lst (List UInt8) n g) sep
theorem ahc{s:CY}(h:Xo s=aC):Zq s.kind s.num (len s.q) (Aj (nth s.q)) (len s.ps) (Aj (nth s.ps))=aC:=by
 unfold Xo at h;simp only[aI,decide_eq_true_eq] at h;obtain ⟨⟨⟨⟨h1,h2⟩,h3⟩,h4⟩,h5⟩:=h;unfold Zq;simp only[aI,decide_eq_true_eq];refine ⟨⟨⟨⟨⟨⟨DI _ _,DI _ _⟩,h1⟩,h2⟩,?_⟩,?_⟩,h5⟩
 ·rw[Ug]
  refine dF.2 fun j hj=>?_
  have hj:j<s.q.length:=dh.1 hj;have e:nth s.q j=s.q[j]:=by simp[nth,hj]
  rw[e];exact dF.1 h3 _ (kN hj)
 ·rw[Ug]
  refine dF.2 fun j hj=>?_
  have hj:j<s.ps.length:=dh.1 hj;have e:nth s.ps j=s.ps[j]:=by simp[nth,hj]
  rw[e];exact dF.1 h4 _ (kN hj)
theorem aja(s:CY):sQ s.kind s.num (len s.q) (Aj (nth s.q)) (len s.ps) (Aj (nth s.ps))=s:=by
 show (⟨s.kind,s.num,lst Int s.q.length (Aj (nth s.q)),lst Pr s.ps.length (Aj (nth s.ps))⟩:CY)=s;rw[Lj,Lj]
theorem ahd{s:CY}(h:Xo s=aC):(JZ s).length<=100001/\∀x∈JZ s,x.length<=50:=by
 unfold Xo at h;simp only[aI,decide_eq_true_eq] at h;obtain ⟨⟨⟨⟨h1,h2⟩,h3⟩,h4⟩,h5⟩:=h;unfold JZ;refine ⟨?_,fun x hx=>?_⟩
 ·simp only[List.length_cons]
  repeat' split
  all_goals (simp;try omega)
 ·rcases iy.1 hx with rfl|hx
  ·exact abI _
  ·split at hx
   ·simp at hx
    subst hx;have:=JD h2;omega
   ·split at hx
    ·obtain ⟨y,hy,rfl⟩:=dJ.1 hx
     have:=JD (dF.1 h3 y hy);omega
    ·split at hx
     ·obtain ⟨y,hy,rfl⟩:=dJ.1 hx
      have h6:=dF.1 h4 y hy;simp only[aI] at h6;exact adU h6.1 h6.2
     ·simp at hx
theorem al0{s:CY}(h:Xo s=aC):(keyS s).length<=6000000:=by
 obtain ⟨h1,h2⟩:=ahd h;have h3:=Yo (JZ s) [32] h2;have h4:(JZ s).length*(50+[(32:UInt8)].length)<=100001*51:=dR _ h1;unfold keyS;omega
theorem ahe{l:List CY}(hl:l.length<=1000)(h:∀s∈l,Xo s=aC):IK (DC (l.map keyS) [59,32])=aC:=by
 have h3:=Yo (l.map keyS) [59,32] (m:=6000000) fun x hx=>by
  obtain ⟨s,hs,rfl⟩:=dJ.1 hx;exact al0 (h s hs)
 have h4:(l.map keyS).length*(6000000+[(59:UInt8),32].length)<=1000*6000002:=dR _ (by simpa using hl);exact decide_eq_true (by omega)
end Go.Pl
namespace Go.Proofs
open Go Go.Sx Go.Pl
theorem awm:AV aA (Bq W7) 116 (G35 LK):=O35.mono fun H Bv args φ hr h=>by
 unfold G35 at h;split at h
 ·split at h
  ·rename_i s2 s3 a hh b l hs2 hs3
   obtain ⟨h1,hφ⟩:=h;simp only[Zq,aI] at h1;obtain ⟨⟨⟨⟨⟨⟨q1,q2⟩,q3⟩,q4⟩,q5⟩,q6⟩,q7⟩:=h1;simp only[F35,hs2,hs3];exact ⟨q1,q2,q3,q4,q5,q6,q7,hφ⟩
  ·exact h.elim
 ·exact h.elim
theorem awn:AV aA (Bq W7) 117 (G56 LK):=fun H w Bv args φ on hg hr h=>by
 unfold G56 at h;split at h
 ·rename_i s0 sep
  split at h
  ·rename_i n g hs
   obtain ⟨h1,hφ⟩:=h;simp only[abM,aI] at h1;match args,hr with
   |[v,u],⟨hv,hu,_⟩=>exact O56 H w [.sl 1 n g,.str sep] [v,u] φ on hg ⟨BQ hs hv,hu,trivial⟩ ⟨h1.1.1,h1.1.2,h1.2,hφ⟩
  ·exact h.elim
 ·exact h.elim
theorem O64:AV aA (Bq W7) 118 F64:=by
 refine D8 (C:=C7 Ai W7 DL AU) (dD _ _) (MG _) (m:=300) (n:=400) (L:=L0) (fn:=Ae) (by kernel_rfl) (by kernel_rfl) fun H w Bv args φ hrep h=>?_
 have hn:Ae.ntmps=10:=by kernel_rfl
 unfold F64 at h;split at h
 ·rename_i s0
  split at h
  ·rename_i n g hs
   obtain ⟨h1,hφ⟩:=h;match args,hrep with
   |[v],⟨hv,_⟩=>
    refine ⟨[.agg [.sl 4 n g]],⟨Nb hv fun u hu=>BQ hs hu,trivial⟩,?_⟩;rw[hn,a64 Ai W7 n g,KI,NM,SX];exact ⟨le0 n,h1,h1,BX (s':=.sl 4 n g) (.inr ⟨rfl,rfl,fun _ _=>rfl⟩) hφ⟩
  ·exact h.elim
 ·exact h.elim
theorem OKs:∀g F,LV LK g=ak F->AV aA (Bq W7) g F:=fun g F h=>by
 unfold LV at h;split at h
 ·cases h;exact awm
 ·cases h;exact awn
 ·cases h;exact O64
 ·cases h
theorem ahf(stop:Nat->List Nat->Bool):BP aA (C7 Ai W7 (LV LK) stop):=nT OKs fun g h=>by
 unfold LV at h;split at h;all_goals first|(cases h;done) |kernel_rfl
theorem nd7:SK Tryz.fns=aC:=by kernel_rfl
noncomputable def F32:List Sh->Tree Sh
 |[.agg [s0]]=>match D9 4 s0 with
  |some (n,g)=>.need (stB n g) (.need (keysB n (Et n g)) (.leaf (.str (adY ((aZ n).map (Et n g)))))) |none=>.fail
 |_=>.fail
section
variable{H0:Mem}{w0:World}{φ:Sh->Prop}{n:Nat}{d:Nat->CY}
theorem akK(hn:n<=1000)(hd:∀j,j<n->Xo (d j)=aC)(hφ:φ (.str (adY ((aZ n).map d)))){l:Nat}:∀r k,k+r=n->0<k->
  F8 aA (C7 Ai W7 (LV LK) AU) (K0 H0 w0) 144 aK UG (L63 n d l (k:Int) k (Aj (nth (((aZ k).map d).map keyS))) ay) (ZV l) φ
 |r,k,hkr,h0=>by
  refine Zn (fn:=qZ) (tb:=akJ) (by kernel_rfl) (by kernel_rfl) ?_;refine Ot (dD _ _) (ahf _) nd7 (pause:=Lh) (m:=300) (n:=800) (ts:=[⟨144,aK,UG,L63 n d l ((k+1:Nat):Int) (k+1) (Aj (nth (((aZ (k+1)).map d).map keyS))) ay,ZV l⟩]) ?_;refine (congrArg (Uc _) (awl Ai W7 LK n d l k (k+1:Nat) k (k+1) (Aj (nth (((aZ k).map d).map keyS))) (Aj (nth (((aZ (k+1)).map d).map keyS))))).mpr ?_;rw[NI];have hlen:(((aZ k).map d).map keyS).length=k:=by simp
  simp only[Aq,BJ,CX,Dq,GR,fU,abE];rw[aja (d k)];refine ⟨fun h=>?_,fun h=>?_⟩
  ·have hlt:k<n:=by simp at h;omega
   have hk:=ahc (hd k hlt);have hr:Ai.room (k+1) 16=aC:=room_le (by omega) (by omega);have hin:decide (0<=(k:Int)/\(k:Int)<(n:Int))=aC:=by simp;omega
   have hw:aW.wrap ((k:Int)+1)=((k+1:Nat):Int):=by rw[Cj (by omega) (by omega)];rfl
   have hs:∀i,i<k+1->Ai.snoc (Aj (nth (((aZ k).map d).map keyS))) k (Bh [[.str (keyS (d k))]]) i=Aj (nth (((aZ (k+1)).map d).map keyS)) i:=fun i hi=>by
    have:=PU (((aZ k).map d).map keyS) (keyS (d k)) (r:=[[.str (keyS (d k))]]) rfl i (by rw[hlen];exact hi);rw[hlen] at this;rw[this,qG,iR,iR];rfl
   have next:∃t:PO,([⟨144,aK,UG,L63 n d l ((k+1:Nat):Int) (k+1) (Aj (nth (((aZ (k+1)).map d).map keyS))) ay,ZV l⟩]:List PO)[0]?=ak t/\F8 aA (C7 Ai W7 (LV LK) AU) (K0 H0 w0) t.g t.r t.td t.c t.stk φ:=by
    match r,hkr with
    |0,hkr=>omega |r+1,hkr=>exact ⟨_,rfl,akK hn hd hφ r (k+1) (by omega) (by omega)⟩
   repeat' (first|exact trivial|exact next|exact hk|exact hr|exact hin|exact hw|exact hs|exact rfl|refine bP ?_ ?_)
  ·have hk:k=n:=by simp at h;omega
   subst hk;have e:lst (List UInt8) k (Aj (nth (((aZ k).map d).map keyS)))=((aZ k).map d).map keyS:=afc _ hlen;have hsh:IK (DC (((aZ k).map d).map keyS) [59,32])=aC:=ahe (by simpa using hn) fun s hs=>by
    obtain ⟨j,hj,rfl⟩:=dJ.1 hs;exact hd j (dh.1 hj)
   refine ⟨?_,?_⟩
   ·simp only[abM,aI]
    exact ⟨⟨DI _ _,room_le (by omega) (by omega)⟩,by rw[e];exact hsh⟩
   ·show φ (.str (DC (lst (List UInt8) k (Aj (nth (((aZ k).map d).map keyS)))) [59,32]))
    rw[e];exact hφ
end
theorem O32:AV aA (Bq W7) 92 F32:=by
 refine aru (C:=C7 Ai W7 (LV LK) AU) (dD _ _) (fn:=qg) (by kernel_rfl) (by kernel_rfl) fun H w Bv args φ hrep h=>?_
 have hn:qg.ntmps=17:=by kernel_rfl
 unfold F32 at h;split at h
 ·rename_i s0
  split at h
  ·rename_i n g hs
   obtain ⟨h1,h2,hφ⟩:=h;match args,hrep with
   |[v],⟨hv,_⟩=>
    refine ⟨[.agg [.sl 4 n (CP (Et n g))]],⟨Nb hv fun u hu=>EK (BQ hs hu) (QG h1),trivial⟩,L0,?_⟩;generalize Et n g=d at *;have hφ:φ (.str (adY ((aZ n).map d))):=hφ;simp only[keysB,aI,decide_eq_true_eq] at h2;obtain ⟨h2,h3⟩:=h2;have hd:=IE h3;refine Ot (dD _ _) (ahf _) nd7 (pause:=Lh) (m:=300) (n:=800) (ts:=[⟨92,aK,.code ag9::k32,L32 n d,[]⟩]) ?_;rw[hn,a32 Ai W7 LK n d,NI];refine ⟨⟨rfl,trivial⟩,_,rfl,?_⟩;refine ae6 (dD _ _) (ahf _) (fn:=qg) (FC:=qZ) (g2:=144) (caps:=[.ptr 1 0]) (by kernel_rfl) (x:=.tmp 7) (ps:=#[8,9]) (ca:=Ba (Az qg) (0::ag9)) (cb:=Ba (Az qg) (1::ag9)) (by kernel_rfl) (by kernel_rfl) (by kernel_rfl) (by kernel_rfl) fun l=>?_
    have hn63:qZ.ntmps=20:=by kernel_rfl
    rw[hn63];refine Ot (dD _ _) (ahf _) nd7 (pause:=Lh) (m:=300) (n:=800) (ts:=[⟨144,aK,UG,L63 n d l ((0:Nat):Int) 0 noT aC,ZV l⟩]) ?_;refine (congrArg (Uc _) (t32 Ai W7 LK n d l ((0:Nat):Int) 0 noT)).mpr ?_;rw[NI];refine ⟨room_le (by omega) (by omega),?_,_,rfl,?_⟩
    ·repeat' (first|exact trivial|exact rfl|exact fun _ _=>rfl|refine bP ?_ ?_)
    refine Zn (fn:=qZ) (tb:=akJ) (by kernel_rfl) (by kernel_rfl) ?_;refine Ot (dD _ _) (ahf _) nd7 (pause:=Lh) (m:=300) (n:=800) (ts:=[⟨144,aK,UG,L63 n d l ((1:Nat):Int) 1 (Aj (nth (((aZ 1).map d).map keyS))) ay,ZV l⟩]) ?_;refine (congrArg (Uc _) (awk Ai W7 LK n d l ((0:Nat):Int) ((1:Nat):Int) 0 1 noT (Aj (nth (((aZ 1).map d).map keyS))))).mpr ?_;rw[NI];simp only[Aq,BJ,CX,Dq,GR,fU];rw[aja (d 0)];refine ⟨fun h=>?_,fun h=>?_⟩
    ·have hlt:0<n:=by simp at h;omega
     have hk:=ahc (hd 0 hlt);have hin:decide (0<=((0:Nat):Int)/\((0:Nat):Int)<(n:Int))=aC:=by simp;omega
     have hw:aW.wrap (((0:Nat):Int)+1)=((1:Nat):Int):=by rw[Cj (by omega) (by omega)];rfl
     have hs:∀i,i<1->Bh [[.str (keyS (d 0))]] i=Aj (nth (((aZ 1).map d).map keyS)) i:=fun i hi=>by
      obtain rfl:i=0:=by omega
      rfl
     have next:∃t:PO,([⟨144,aK,UG,L63 n d l ((1:Nat):Int) 1 (Aj (nth (((aZ 1).map d).map keyS))) ay,ZV l⟩]:List PO)[0]?=ak t/\F8 aA (C7 Ai W7 (LV LK) AU) (K0 H w) t.g t.r t.td t.c t.stk φ:=
      ⟨_,rfl,akK h2 hd hφ (n - 1) 1 (by omega) (by omega)⟩
     repeat' (first|exact trivial|exact next|exact hk|exact hin|exact hw|exact hs|exact rfl|refine bP ?_ ?_)
    ·have:n=0:=by simp at h;omega
     subst this;refine ⟨rfl,hφ⟩
  ·exact h.elim
 ·exact h.elim
end Go.Proofs
namespace Go.Pl
open Go Go.Sx
structure Lb7 where
 op:CY->Int->Int->Int->CY
 r:CY->Int->Int->Int->Int
 g:CY->Int->Int->Int->Int
 key:CY->List UInt8
 join:List (List UInt8)->List UInt8->List UInt8
 at_:Nat->(Nat->List Sh)->Int->CY
def abO(a:Nat):Bool:=BM (a+1) 8
end Go.Pl
namespace Go.Proofs
open Go Go.Sx Go.Pl
noncomputable def G33(L:Lb7):List Sh->Tree Sh
 |[.agg [s0],t]=>match D9 4 s0,BF t with
  |some (n,g),ak i=>.need (stB n g) (.leaf (.AQ [.agg [.i .i64 (L.at_ n g i).kind,.i .i64 (L.at_ n g i).num,.sl 1 (len (L.at_ n g i).q) (Aj (nth (L.at_ n g i).q)),.sl 2 (len (L.at_ n g i).ps) (Aj (nth (L.at_ n g i).ps))],.b (JY n i)])) |_,_=>.fail
 |_=>.fail
def G42(L:Lb7):List Sh->Tree Sh
 |[.agg [.i .i64 x,.i .i64 y,s2,s3],t,u,v]=>match D9 1 s2,D9 2 s3,BF t,BF u,BF v with
  |some (a,h),ak (b,l),ak op,ak k,ak v=>.need (okB Int a h) (.need (okB Pr b l) (.need (abO a) (.node (G7 x op) (.leaf (.AQ [.agg [.i .i64 0,.i .i64 0,.sl 1 0 noI,.sl 2 0 noP],.i .i64 0,.i .i64 0,.er 8 329])) (.node (IG x y op k v) (.leaf (.AQ [.agg [.i .i64 0,.i .i64 0,.sl 1 0 noI,.sl 2 0 noP],.i .i64 0,.i .i64 0,.er 15 329]))
    (.need (KJ op b l) (.leaf (.AQ [.agg [.i .i64 (L.op (sQ x y a h b l) op k v).kind,.i .i64 (L.op (sQ x y a h b l) op k v).num,.sl 1 (len (L.op (sQ x y a h b l) op k v).q) (Aj (nth (L.op (sQ x y a h b l) op k v).q)),.sl 2 (len (L.op (sQ x y a h b l) op k v).ps) (Aj (nth (L.op (sQ x y a h b l) op k v).ps))],.i .i64 (L.r (sQ x y a h b l) op k v),.i .i64 (L.g (sQ x y a h b l) op k v),.v .nilIface])))))))
  |_,_,_,_,_=>.fail
 |_=>.fail
noncomputable def Yz(L:Lb7):Nat->Option (List Sh->Tree Sh)
 |119=>ak (G33 L) |120=>ak (G42 L) |121=>ak F54 |_=>aK
theorem a29(A:Prim)(W:Wd)(L:Lb7)(n:Nat)(d:Nat->CY)(i op k v:Int):Bj (C7 A W (Yz L) AU) BL 300 400 97 [.code []] (Ap 52 [.agg [.sl 4 n (CP d)],.i .i64 i,.i .i64 op,.i .i64 k,.i .i64 v] L0) [] []=aH (stB n (CP d)) (aF (A.nt (JY n i)) (aB (aT (cZ [cO [aG 0 0 fun _=>[]],aY .i64 (ah 0),aY .i64 (ah 0),bf 7 329]))) (aH (okB Int (len (L.at_ n (CP d) i).q) (Aj (nth (L.at_ n (CP d) i).q))) (aH (okB Pr (len (L.at_ n (CP d) i).ps) (Aj (nth (L.at_ n (CP d) i).ps))) (aH (abO (len (L.at_ n (CP d) i).q)) (aF (G7 (L.at_ n (CP d) i).kind op) (aB (aT (cZ [cO [aG 0 0 fun _=>[]],aY .i64 (ah 0),aY .i64 (ah 0),bf 8 329]))) (aF (IG (L.at_ n (CP d) i).kind (L.at_ n (CP d) i).num op k v) (aB (aT (cZ [cO [aG 0 0 fun _=>[]],aY .i64 (ah 0),aY .i64 (ah 0),bf 15 329]))) (aH (KJ op (len (L.at_ n (CP d) i).ps) (Aj (nth (L.at_ n (CP d) i).ps))) (aH (BM n 64) (aH (stB n (CP d)) (aB (aT (cZ [cO [aG 4 n (SY n (CP d) i [aY .i64 (L.op (sQ (L.at_ n (CP d) i).kind (L.at_ n (CP d) i).num (len (L.at_ n (CP d) i).q) (Aj (nth (L.at_ n (CP d) i).q)) (len (L.at_ n (CP d) i).ps) (Aj (nth (L.at_ n (CP d) i).ps))) op k v).kind,aY .i64 (L.op (sQ (L.at_ n (CP d) i).kind (L.at_ n (CP d) i).num (len (L.at_ n (CP d) i).q) (Aj (nth (L.at_ n (CP d) i).q)) (len (L.at_ n (CP d) i).ps) (Aj (nth (L.at_ n (CP d) i).ps))) op k v).num,aG 1 (len (L.op (sQ (L.at_ n (CP d) i).kind (L.at_ n (CP d) i).num (len (L.at_ n (CP d) i).q) (Aj (nth (L.at_ n (CP d) i).q)) (len (L.at_ n (CP d) i).ps) (Aj (nth (L.at_ n (CP d) i).ps))) op k v).q) (Aj (nth (L.op (sQ (L.at_ n (CP d) i).kind (L.at_ n (CP d) i).num (len (L.at_ n (CP d) i).q) (Aj (nth (L.at_ n (CP d) i).q)) (len (L.at_ n (CP d) i).ps) (Aj (nth (L.at_ n (CP d) i).ps))) op k v).q)),aG 2 (len (L.op (sQ (L.at_ n (CP d) i).kind (L.at_ n (CP d) i).num (len (L.at_ n (CP d) i).q) (Aj (nth (L.at_ n (CP d) i).q)) (len (L.at_ n (CP d) i).ps) (Aj (nth (L.at_ n (CP d) i).ps))) op k v).ps) (Aj (nth (L.op (sQ (L.at_ n (CP d) i).kind (L.at_ n (CP d) i).num (len (L.at_ n (CP d) i).q) (Aj (nth (L.at_ n (CP d) i).q)) (len (L.at_ n (CP d) i).ps) (Aj (nth (L.at_ n (CP d) i).ps))) op k v).ps))])],aY .i64 (L.r (sQ (L.at_ n (CP d) i).kind (L.at_ n (CP d) i).num (len (L.at_ n (CP d) i).q) (Aj (nth (L.at_ n (CP d) i).q)) (len (L.at_ n (CP d) i).ps) (Aj (nth (L.at_ n (CP d) i).ps))) op k v),aY .i64 (L.g (sQ (L.at_ n (CP d) i).kind (L.at_ n (CP d) i).num (len (L.at_ n (CP d) i).q) (Aj (nth (L.at_ n (CP d) i).q)) (len (L.at_ n (CP d) i).ps) (Aj (nth (L.at_ n (CP d) i).ps))) op k v),Sh.v bJ])))))))))))):=by kernel_rfl
end Go.Proofs
namespace Go.Pl
open Go Go.Sx Go.Proofs
noncomputable def L7:Lb7 where
 op s o k v:=(ER s o k v).1
 r s o k v:=(ER s o k v).2.1
 g s o k v:=(ER s o k v).2.2
 key:=keyS
 join:=DC
 at_ n g i:=atT n (Et n g) i
end Go.Pl
namespace Go.Proofs
open Go Go.Sx Go.Pl
theorem awq:AV aA (Bq W7) 119 (G33 L7):=O33
theorem awr:AV aA (Bq W7) 120 (G42 L7):=O42
theorem OEs:∀g F,Yz L7 g=ak F->AV aA (Bq W7) g F:=fun g F h=>by
 unfold Yz at h;split at h
 ·cases h;exact awq
 ·cases h;exact awr
 ·cases h;exact O54
 ·cases h
theorem awt(stop:Nat->List Nat->Bool):BP aA (C7 Ai W7 (Yz L7) stop):=nT OEs fun g h=>by
 unfold Yz at h;split at h;all_goals first|(cases h;done) |kernel_rfl
noncomputable def F29:List Sh->Tree Sh
 |[.agg [s0],t,u,v,w]=>match D9 4 s0,BF t,BF u,BF v,BF w with
  |some (n,g),ak i,ak op,ak k,ak v=>.need (stB n g) (.need (BM n 64) (.node (JY n i) (.need (abO (Et n g i.toNat).q.length) (.node (G7 (Et n g i.toNat).kind op) (.leaf (.AQ [.agg [.sl 4 0 noT],.i .i64 0,.i .i64 0,.er 8 329])) (.node (IG (Et n g i.toNat).kind (Et n g i.toNat).num op k v) (.leaf (.AQ [.agg [.sl 4 0 noT],.i .i64 0,.i .i64 0,.er 15 329]))
    (.need (KJ op (len (Et n g i.toNat).ps) (Aj (nth (Et n g i.toNat).ps))) (.leaf (.AQ [.agg [.sl 4 n (SY n g i (Dp (ER (Et n g i.toNat) op k v).1))],.i .i64 (ER (Et n g i.toNat) op k v).2.1,.i .i64 (ER (Et n g i.toNat) op k v).2.2,.v .nilIface]))))))
   (.leaf (.AQ [.agg [.sl 4 0 noT],.i .i64 0,.i .i64 0,.er 7 329]))))
  |_,_,_,_,_=>.fail
 |_=>.fail
theorem O29:AV aA (Bq W7) 97 F29:=by
 refine D8 (C:=C7 Ai W7 (Yz L7) AU) (dD _ _) (awt _) (m:=300) (n:=400) (L:=L0) (fn:=Tryz.f97) (by kernel_rfl) (by kernel_rfl) fun H w Bv args φ hrep h=>?_
 have hn:Tryz.f97.ntmps=52:=by kernel_rfl
 unfold F29 at h;split at h
 ·rename_i s0 t u v ww
  split at h
  ·rename_i n g i op k vv hs ht hu hv hw
   obtain ⟨h1,h2,hin,hout⟩:=h;have hout:JY n i=ay->φ (.AQ [.agg [.sl 4 0 noT],.i .i64 0,.i .i64 0,.er 7 329]):=hout;match args,hrep with
   |[v0,v1,v2,v3,v4],⟨r0,r1,r2,r3,r4,_⟩=>
    refine ⟨[.agg [.sl 4 n (CP (Et n g))],.i .i64 i,.i .i64 op,.i .i64 k,.i .i64 vv],⟨Nb r0 fun u hu=>EK (BQ hs hu) (QG h1),EJ ht r1,EJ hu r2,EJ hv r3,EJ hw r4,trivial⟩,?_⟩;have hrow:=QG h1;have her (T:Nat) (g0:Nat) (hp:φ (.AQ [.agg [.sl 4 0 noT],.i .i64 0,.i .i64 0,.er g0 329])):up φ (.AQ [.agg [.sl 0 0 fun _=>[]],.i .i64 (ah 0),.i .i64 (ah 0),.er g0 329]):=
     BX (s':=.AQ [.agg [.sl 4 0 noT],.i .i64 0,.i .i64 0,.er g0 329]) ⟨⟨.inl ⟨rfl,rfl⟩,trivial⟩,rfl,rfl,rfl,trivial⟩ hp
    rw[hn,a29 Ai W7 L7 n (Et n g) i op k vv];have e1:L7.at_ n (CP (Et n g)) i=atT n (Et n (CP (Et n g))) i:=rfl;rw[e1];refine ⟨abG n _,fun e=>her 0 7 (hout (by simpa[CB] using e)),fun e=>?_⟩;have e:JY n i=aC:=by simpa[CB] using e
    obtain ⟨q1,q3,q4⟩:=hin e;have hlt:i.toNat<n:=by simp[JY] at e;omega
    have e2:atT n (Et n (CP (Et n g))) i=Et n g i.toNat:=by simp[atT,e,an8 i.toNat hlt]
    rw[e2,aja];have q4:G7 (Et n g i.toNat).kind op=ay->(IG (Et n g i.toNat).kind (Et n g i.toNat).num op k vv=aC->φ (.AQ [.agg [.sl 4 0 noT],.i .i64 0,.i .i64 0,.er 15 329]))/\(IG (Et n g i.toNat).kind (Et n g i.toNat).num op k vv=ay->KJ op (len (Et n g i.toNat).ps) (Aj (nth (Et n g i.toNat).ps))=aC/\φ (.AQ [.agg [.sl 4 n (SY n g i (Dp (ER (Et n g i.toNat) op k vv).1))],.i .i64 (ER (Et n g i.toNat) op k vv).2.1,.i .i64 (ER (Et n g i.toNat) op k vv).2.2,.v .nilIface])):=q4;refine ⟨DI _ _,DI _ _,q1,fun e=>her 0 8 (q3 e),fun e=>⟨fun e'=>her 0 15 ((q4 e).1 e'),fun e'=>⟨((q4 e).2 e').1,h2,abG n _,BX (s':=.AQ [.agg [.sl 4 n (SY n g i (Dp (ER (Et n g i.toNat) op k vv).1))],.i .i64 (ER (Et n g i.toNat) op k vv).2.1,.i .i64 (ER (Et n g i.toNat) op k vv).2.2,.v .nilIface]) ⟨⟨.inr ⟨rfl,rfl,fun j hj=>?_⟩,trivial⟩,rfl,rfl,rfl,trivial⟩ ((q4 e).2 e').2⟩⟩⟩;unfold SY;split
    ·rfl
    ·exact (hrow j hj).symm
  ·exact h.elim
 ·exact h.elim
end Go.Proofs
namespace Go.Pl
open Go Go.Sx
structure Ee where
 id:Int
 th:Int
 st:Int
 bg:Int
 en:Int
 tr:Int
 k:Nat
 g:Nat->List Sh
instance:Inhabited Ee:=⟨⟨0,0,0,0,0,0,0,fun _=>[]⟩⟩
instance:Row Ee where
 put t:=[.i .i64 t.id,.i .i64 t.th,.i .i64 t.st,.i .i64 t.bg,.i .i64 t.en,.i .i64 t.tr,.sl 8 t.k t.g]
 get l:=match l with
  |[.i .i64 a,.i .i64 b,.i .i64 c,.i .i64 d,.i .i64 e,.i .i64 f,.sl 8 k g]=>ak ⟨a,b,c,d,e,f,k,g⟩ |_=>aK
 DF l a h:=by
  split at h
  ·cases h;rfl
  ·cases h
 get_put a:=rfl
 JI:=default
structure Dd where
 obj:Int
 op:Int
 key:Int
 val:Int
 ret:Int
 got:Int
 at_:Int
 back:Int
 deriving DecidableEq,Inhabited
instance:Row Dd where
 put d:=[.i .i64 d.obj,.i .i64 d.op,.i .i64 d.key,.i .i64 d.val,.i .i64 d.ret,.i .i64 d.got,.i .i64 d.at_,.i .i64 d.back]
 get l:=match l with
  |[.i .i64 a,.i .i64 b,.i .i64 c,.i .i64 d,.i .i64 e,.i .i64 f,.i .i64 g,.i .i64 h]=>ak ⟨a,b,c,d,e,f,g,h⟩ |_=>aK
 DF l a h:=by
  split at h
  ·cases h;rfl
  ·cases h
 get_put a:=rfl
 JI:=default
structure Vu where
 placed:Int
 n:Nat
 g:Nat->List Sh
instance:Inhabited Vu:=⟨⟨0,0,fun _=>[]⟩⟩
instance:Row Vu where
 put x:=[.i .i64 x.placed,.sl 4 x.n x.g]
 get l:=match l with
  |[.i .i64 a,.sl 4 n g]=>ak ⟨a,n,g⟩ |_=>aK
 DF l a h:=by
  split at h
  ·cases h;rfl
  ·cases h
 get_put a:=rfl
 JI:=default
structure JJ where
 tx:Int
 com:Bool
 placed:Int
 n:Nat
 g:Nat->List Sh
instance:Inhabited JJ:=⟨⟨0,ay,0,0,fun _=>[]⟩⟩
instance:Row JJ where
 put x:=[.i .i64 x.tx,.b x.com,.i .i64 x.placed,.sl 4 x.n x.g]
 get l:=match l with
  |[.i .i64 t,.b c,.i .i64 a,.sl 4 n g]=>ak ⟨t,c,a,n,g⟩ |_=>aK
 DF l a h:=by
  split at h
  ·cases h;rfl
  ·cases h
 get_put a:=rfl
 JI:=default
def YA(n:Nat)(d:Nat->CY)(i op k v:Int):Bool:=JY n i && !G7 (d i.toNat).kind op && !IG (d i.toNat).kind (d i.toNat).num op k v
def erN(n:Nat)(d:Nat->CY)(i op k v:Int):Nat:=if JY n i=aC then (if G7 (d i.toNat).kind op=aC then 8 else 15) else 7
def abP(n:Nat)(d:Nat->CY)(i op:Int):Bool:=!JY n i||(Go.Pl.abO (d i.toNat).q.length&&KJ op (len (d i.toNat).ps) (Aj (nth (d i.toNat).ps)))
noncomputable def Uu(n:Nat)(g:Nat->List Sh)(i op k v:Int):Bool:=YA n (Et n g) i op k v
noncomputable def adZ(n:Nat)(g:Nat->List Sh)(i op:Int):Bool:=stB n g&&(BM n 64&&abP n (Et n g) i op)
noncomputable def erG(n:Nat)(g:Nat->List Sh)(i op k v:Int):Nat:=erN n (Et n g) i op k v
noncomputable def abQ(n:Nat)(g:Nat->List Sh)(i op k v:Int):Nat->List Sh:=SY n g i (Dp (ER (Et n g i.toNat) op k v).1)
noncomputable def ahg(n:Nat)(g:Nat->List Sh)(i op k v:Int):Int:=(ER (Et n g i.toNat) op k v).2.1
noncomputable def ahh(n:Nat)(g:Nat->List Sh)(i op k v:Int):Int:=(ER (Et n g i.toNat) op k v).2.2
end Go.Pl
namespace Go.Proofs
open Go Go.Sx Go.Pl
noncomputable def D29:List Sh->Tree Sh
 |[.agg [s0],t,u,v,w]=>match D9 4 s0,BF t,BF u,BF v,BF w with
  |some (n,g),ak i,ak op,ak k,ak v=>.need (adZ n g i op) (.node (Uu n g i op k v)
   (.leaf (.AQ [.agg [.sl 4 n (abQ n g i op k v)],.i .i64 (ahg n g i op k v),.i .i64 (ahh n g i op k v),.v .nilIface]))
   (.leaf (.AQ [.agg [.sl 4 0 noT],.i .i64 0,.i .i64 0,.er (erG n g i op k v) 329])))
  |_,_,_,_,_=>.fail
 |_=>.fail
noncomputable def QN:Nat->Option (List Sh->Tree Sh)
 |97=>ak D29 |_=>aK
def Zr:List It:=[bD [0,1,0,1],dw 0,bD [1,1]]
def aoI:List It:=bD [0,0,1,0,1]::Zr
def Zt(n:Nat)(g:Nat->List Sh)(m:Nat)(dd:Nat->Dd)(i:Int):Core:={tm:=G6 54 [(2,.ptr 0 0),(4,.ptr 1 0),(12,.sh (.sl 8 m (Aj dd))),(13,.sym .i64 (m:Int)),(14,.sym .i64 i)],hp:=[(0,.box [.sh (.sl 4 n g)] 100),(1,.box [.A8] 100)],nx:=2,lim:=L0,tc:=[]}
end Go.Proofs
namespace Go.Sx
@[irreducible] def Df (ψ:ED->Prop) (t:Tree ED):Prop:=t.All ψ
theorem QO(ψ:ED->Prop)(t:Tree ED):Df ψ t=t.All ψ:=by unfold Df;rfl
theorem Fh{P:Program}{C:Ctx}{H0:Mem}{w0:World}(hC:BG P C)(hF:BP P C){m n g:Nat}{td:List It}{c:Core}{stk:List Fr}{ts:List N9}{R:Hp->Prop}{φ:Sh->Prop}{hold:Nat->Bool}
  (h:Df (Jo P C (K0 H0 w0) ts R φ) (Bj C hold m n g td c stk ts)):Bz P C (K0 H0 w0) g td c stk R φ:=G5 hC hF (by rw[QO] at h;exact h)
end Go.Sx
namespace Go.Pl
theorem no2{b:Bool}{P:Prop}(h:b=ay)(h2:b=aC):P:=by rw[h] at h2;cases h2
end Go.Pl
namespace Go.Proofs
open Go Go.Sx Go.Pl
theorem ahi{P:Program}{gls:List (Nat×Sh)}{g:Nat}{F G:List Sh->Tree Sh}(hF:AV P gls g F)(h:∀(Bv:List Sh) (φ:Sh->Prop),(G Bv).All φ->∃s':Sh,φ s'/\(F Bv).All fun s=>Wk s s'):AV P gls g G:=by
 intro H w Bv args φ hon hg hr hφ;obtain ⟨s',h1,h2⟩:=h Bv φ hφ;refine (hF H w Bv args _ hon hg hr h2).mono fun e w' ⟨v,s,H',he,hs,r⟩=>?_;obtain ⟨H2,r2⟩:=r.wk hs;exact ⟨v,s',H2,he,h1,r2⟩
theorem aoJ{st n:Nat}{g:Nat->List Sh}:Wk (.sl st n g) (.sl st n g):=.inr ⟨rfl,rfl,fun _ _=>rfl⟩
theorem add1{j:Nat}(h:j<=100000):Ai.add .i64 (j:Int) (ah 1)=((j+1:Nat):Int):=by
 show aW.wrap ((j:Int)+1)=_;rw[Cj (by omega) (by omega)];rfl
end Go.Proofs
namespace Go.Sx
def BK.dg:BK->BK
 | .int a _=>.int a a | .nat a _=>.nat a a | .bool a _=>.bool a a | .str a _=>.str a a | .val a _=>.val a a | .sh a _=>.sh a a | .get n g _=>.get n g g | .Mc g _=>.Mc g g | .mp M _=>.mp M M | .mg M _=>.mg M M
theorem akL:∀l:List BK,BK.all (l.map BK.dg)
 |[]=>trivial |e::l=>⟨by cases e<;>first|rfl|exact fun _ _=>rfl,akL l⟩
def Tree.dg{α:Type}:Tree α->Tree α
 | .leaf a=>.leaf a | .node b t f=>.node b t.dg f.dg | .need b t=>.need b t.dg | .must l t=>.must (l.map BK.dg) t.dg | .both t f=>.both t.dg f.dg | .fail=>.fail
def Tree.Xp{α:Type}(φ:α->Prop):Tree α->Prop
 | .leaf a=>φ a | .node b t f=>(b=aC->t.Xp φ)/\(b=ay->f.Xp φ) | .need b t=>b=aC/\t.Xp φ | .must _ t=>t.Xp φ | .both t f=>t.Xp φ/\f.Xp φ | .fail=>False
theorem Tree.abR{α:Type}{φ:α->Prop}:∀{t:Tree α},t.Xp φ->t.dg.All φ
 | .leaf _,h=>h | .node _ _ _,h=>⟨fun e=>Tree.abR (h.1 e),fun e=>Tree.abR (h.2 e)⟩ | .need _ _,h=>⟨h.1,Tree.abR h.2⟩ | .must l _,h=>⟨akL l,Tree.abR h⟩ | .both _ _,h=>⟨Tree.abR h.1,Tree.abR h.2⟩ | .fail,h=>h
theorem FU{P:Prop}{ψ:ED->Prop}{t:Tree ED}(k:P)(e:P=t.All ψ):Df ψ t:=by
 rw[QO,<-e];exact k
theorem akM{P:Prop}{ψ:ED->Prop}{t:Tree ED}(h:t.dg=t)(k:P)(e:P=t.Xp ψ):Df ψ t:=by
 rw[QO,<-h];exact Tree.abR (e ▸ k:t.Xp ψ)
theorem nd(c:Bool){p q:Prop}(x:c=aC->p)(y:c=ay->q):(c=aC->p)/\(c=ay->q):=⟨x,y⟩
theorem an{a b:Prop}(x:a)(y:b):a/\b:=⟨x,y⟩
end Go.Sx
namespace Go.Proofs
open Go Go.Sx Go.Pl
theorem aoK(A:Prim)(W:Wd)(n:Nat)(g:Nat->List Sh)(m:Nat)(dd:Nat->Dd)(i':Int){ψ:ED->Prop}(y1:ψ (bK 0 [aO (aG 8 m (Aj dd)) (aG 8 m (Aj dd)),aj (A.AZ m) (ah m),aj (ah 0) i',aO (aG 4 n g) (aG 4 n g)])):Df ψ (Bj (C7 A W QN AU) BL 300 400 76 [.code []] (Ap 54 [.agg [.sl 4 n g],.sl 8 m (Aj dd)] L0) [] [⟨76,Zr,Zt n g m dd i',[]⟩]):=by
 exact FU y1 (by kernel_rfl)
theorem abS(A:Prim)(W:Wd)(n:Nat)(g g':Nat->List Sh)(m:Nat)(dd:Nat->Dd)(i i':Int){ψ:ED->Prop}{c0 c1 c2 c3 c4:Bool}(e0:A.lt i (ah m)=c0)(e1:A.eq (dd (A.toN i)).ret (ah 0)=c1)(e2:Uu n g (dd (A.toN i)).obj (dd (A.toN i)).op (dd (A.toN i)).key (dd (A.toN i)).val=c2)(e3:A.nt (A.eq (ahg n g (dd (A.toN i)).obj (dd (A.toN i)).op (dd (A.toN i)).key (dd (A.toN i)).val) (dd (A.toN i)).ret)=c3)(e4:A.nt (A.eq (ahh n g (dd (A.toN i)).obj (dd (A.toN i)).op (dd (A.toN i)).key (dd (A.toN i)).val) (dd (A.toN i)).got)=c4)(h1:c0=aC->(A.inB i m)=aC)(h2:c0=aC->c1=ay->(adZ n g (dd (A.toN i)).obj (dd (A.toN i)).op)=aC)(y1:c0=aC->c1=aC->ψ (bK 0 [aO (aG 8 m (Aj dd)) (aG 8 m (Aj dd)),aj (ah m) (ah m),aj (A.add .i64 i (ah 1)) i',aO (aG 4 n g) (aG 4 n g')]))(y2:c0=aC->c1=ay->c2=aC->c3=aC->ψ (aT (cZ [cO [aG 0 0 fun _=>[]],mQ 109 (pR [aY .i64 i,bf 13 329])])))(y3:c0=aC->c1=ay->c2=aC->c3=ay->c4=aC->ψ (aT (cZ [cO [aG 0 0 fun _=>[]],mQ 109 (pR [aY .i64 i,bf 13 329])])))(y4:c0=aC->c1=ay->c2=aC->c3=ay->c4=ay->ψ (bK 0 [aO (aG 8 m (Aj dd)) (aG 8 m (Aj dd)),aj (ah m) (ah m),aj (A.add .i64 i (ah 1)) i',aO (aG 4 n (abQ n g (dd (A.toN i)).obj (dd (A.toN i)).op (dd (A.toN i)).key (dd (A.toN i)).val)) (aG 4 n g')]))(y5:c0=aC->c1=ay->c2=ay->ψ (aT (cZ [cO [aG 0 0 fun _=>[]],mQ 109 (pR [aY .i64 i,bf (erG n g (dd (A.toN i)).obj (dd (A.toN i)).op (dd (A.toN i)).key (dd (A.toN i)).val) 329])])))(y6:c0=ay->ψ (aT (cZ [cO [aG 4 n g],Sh.v bJ]))):Df ψ (Bj (C7 A W QN AU) BL 300 400 76 aoI (Zt n g m dd i) [] [⟨76,Zr,Zt n g' m dd i',[]⟩]):=by
 subst e0 e1 e2 e3 e4;exact FU (an (fun q0=>an (h1 q0) (an (y1 q0) (fun q1=>an (h2 q0 q1) (an (fun q2=>an (y2 q0 q1 q2) (fun q3=>an (y3 q0 q1 q2 q3) (y4 q0 q1 q2 q3))) (y5 q0 q1))))) y6) (by kernel_rfl)
end Go.Proofs
namespace Go.Pl
open Go Go.Sx Go.Proofs
noncomputable def Io(n:Nat):(Nat->List Sh)->Nat->List Dd->(Nat×Nat) ⊕ (Nat->List Sh)
 |g,_,[]=>.inr g |g,i,d::l=>if d.ret=0 then Io n g (i+1) l else if Uu n g d.obj d.op d.key d.val=aC then
   (if ahg n g d.obj d.op d.key d.val=d.ret/\ahh n g d.obj d.op d.key d.val=d.got then Io n (abQ n g d.obj d.op d.key d.val) (i+1) l else .inl (i,13)) else .inl (i,erG n g d.obj d.op d.key d.val)
noncomputable def UH(n:Nat):(Nat->List Sh)->List Dd->Prop
 |_,[]=>True |g,d::l=>if d.ret=0 then UH n g l else adZ n g d.obj d.op=aC/\(Uu n g d.obj d.op d.key d.val=aC->UH n (abQ n g d.obj d.op d.key d.val) l)
end Go.Pl
namespace Go.Proofs
open Go Go.Sx Go.Pl
noncomputable def aoL(φ:Sh->Prop)(n:Nat):(Nat×Nat) ⊕ (Nat->List Sh)->Prop
 | .inr g=>φ (.AQ [.agg [.sl 4 n g],.v .nilIface]) | .inl (i,e)=>φ (.AQ [.agg [.sl 4 0 noT],.C9 109 (.pt [.i .i64 (i:Nat),.er e 329])])
theorem afh(OD:AV aA (Bq W7) 97 D29)(stop:Nat->List Nat->Bool):BP aA (C7 Ai W7 QN stop):=nT (fun g F h=>by
 unfold QN at h;split at h
 ·cases h;exact OD
 ·cases h) fun g h=>by
 unfold QN at h;split at h;all_goals first|(cases h;done) |kernel_rfl
section
variable{H0:Mem}{w0:World}{φ:Sh->Prop}{n m:Nat}{dd:Nat->Dd}
theorem afi(OD:AV aA (Bq W7) 97 D29)(hm:m<=100000):∀r i g,i+r=m->UH n g ((aZ r).map fun j=>dd (i+j))->aoL φ n (Io n g i ((aZ r).map fun j=>dd (i+j)))->
  Bz aA (C7 Ai W7 QN AU) (K0 H0 w0) 76 Zr (Zt n g m dd (i:Nat)) [] emp (up φ)
 |0,i,g,hi,hf,hφ=>by
  refine GK (fn:=su) (tb:=aoI) (by kernel_rfl) (by kernel_rfl) ?_;refine Fh (dD _ _) (afh OD _) (hold:=BL) (m:=300) (n:=400) (ts:=[⟨76,Zr,Zt n g m dd 0,[]⟩]) ?_;have lt {P:Prop} (h:Ai.lt (i:Int) (ah m)=aC):P:=by simp[Aq] at h;omega
  have hφ:φ (.AQ [.agg [.sl 4 n g],.v .nilIface]):=hφ;exact abS Ai W7 n g g m dd i 0 rfl rfl rfl rfl rfl (fun q=>lt q) (fun q=>lt q) (fun q=>lt q) (fun q=>lt q) (fun q=>lt q) (fun q=>lt q) (fun q=>lt q) (fun _=>BX (s':=.AQ [.agg [.sl 4 n g],.v .nilIface]) ⟨⟨aoJ,trivial⟩,rfl,trivial⟩ hφ)
 |r+1,i,g,hi,hf,hφ=>by
  refine GK (fn:=su) (tb:=aoI) (by kernel_rfl) (by kernel_rfl) ?_;have w1:Ai.add .i64 (i:Int) (ah 1)=((i+1:Nat):Int):=add1 (by omega);have no {P:Prop} (h:Ai.lt (i:Int) (ah m)=ay):P:=by simp[Aq] at h;omega
  have inb (h:Ai.lt (i:Int) (ah m)=aC):Ai.inB (i:Int) m=aC:=by simp[BJ];omega
  have el:(aZ (r+1)).map (fun j=>dd (i+j))=dd i::(aZ r).map fun j=>dd (i+1+j):=by
   rw[List.range_succ_eq_map,List.map_cons,List.map_map];congr 1;refine jV fun j _=>?_
   show dd (i+(j+1))=dd (i+1+j);rw[show i+(j+1)=i+1+j by omega]
  rw[el] at hf hφ;have bad (e:Nat) (h:φ (.AQ [.agg [.sl 4 0 noT],.C9 109 (.pt [.i .i64 (i:Nat),.er e 329])])):up φ (.AQ [.agg [.sl 0 0 fun _=>[]],.C9 109 (.pt [.i .i64 (i:Nat),.er e 329])]):=
   BX (s':=.AQ [.agg [.sl 4 0 noT],.C9 109 (.pt [.i .i64 (i:Nat),.er e 329])]) ⟨⟨.inl ⟨rfl,rfl⟩,trivial⟩,rfl,trivial⟩ h
  by_cases h0:(dd i).ret=0
  ·have hf:UH n g ((aZ r).map fun j=>dd (i+1+j)):=by unfold UH at hf;rwa[if_pos h0] at hf
   have hφ:aoL φ n (Io n g (i+1) ((aZ r).map fun j=>dd (i+1+j))):=by unfold Io at hφ;rwa[if_pos h0] at hφ
   have nx:=afi OD hm r (i+1) g (by omega) hf hφ;refine Fh (dD _ _) (afh OD _) (hold:=BL) (m:=300) (n:=400) (ts:=[⟨76,Zr,Zt n g m dd ((i+1:Nat):Int),[]⟩]) ?_;have c1 {P:Prop} (h:Ai.eq (dd i).ret (ah 0)=ay):P:=by rw[h0] at h;simp[AX] at h
   exact abS Ai W7 n g g m dd i _ rfl rfl rfl rfl rfl inb (fun _ q=>c1 q) (fun _ _=>⟨⟨rfl,rfl,w1,rfl,trivial⟩,_,rfl,nx⟩) (fun _ q=>c1 q) (fun _ q=>c1 q) (fun _ q=>c1 q) (fun _ q=>c1 q) (fun q=>no q)
  ·have c1 {P:Prop} (h:Ai.eq (dd i).ret (ah 0)=aC):P:=(h0 (by simpa[AX] using h)).elim
   unfold UH at hf;rw[if_neg h0] at hf;unfold Io at hφ;rw[if_neg h0] at hφ;refine Fh (dD _ _) (afh OD _) (hold:=BL) (m:=300) (n:=400) (ts:=[⟨76,Zr,Zt n (abQ n g (dd i).obj (dd i).op (dd i).key (dd i).val) m dd ((i+1:Nat):Int),[]⟩]) ?_;have nte {a b:Int} (h:Ai.nt (Ai.eq a b)=aC):a≠b:=by simpa[CB,AX] using h
   have nfe {a b:Int} (h:Ai.nt (Ai.eq a b)=ay):a=b:=by simpa[CB,AX] using h
   refine abS Ai W7 n g _ m dd i _ rfl rfl rfl rfl rfl inb (fun _ _=>hf.1) (fun _ q=>c1 q) ?_ ?_ ?_ ?_ (fun q=>no q)
   ·intro _ _ q2 q3
    have q2:Uu n g (dd i).obj (dd i).op (dd i).key (dd i).val=aC:=q2;rw[if_pos q2,if_neg fun e=>nte q3 e.1] at hφ
    exact bad 13 hφ
   ·intro _ _ q2 _ q4
    have q2:Uu n g (dd i).obj (dd i).op (dd i).key (dd i).val=aC:=q2;rw[if_pos q2,if_neg fun e=>nte q4 e.2] at hφ
    exact bad 13 hφ
   ·intro _ _ q2 q3 q4
    have q2:Uu n g (dd i).obj (dd i).op (dd i).key (dd i).val=aC:=q2;rw[if_pos q2,if_pos ⟨nfe q3,nfe q4⟩] at hφ;exact ⟨⟨rfl,rfl,w1,rfl,trivial⟩,_,rfl,afi OD hm r (i+1) _ (by omega) (hf.2 q2) hφ⟩
   ·intro _ _ q2
    have q2:Uu n g (dd i).obj (dd i).op (dd i).key (dd i).val=ay:=q2;rw[if_neg (by rw[q2];simp)] at hφ;exact bad _ hφ
end
open Go Go.Sx Go.Pl
theorem asJ:AV aA (Bq W7) 97 D29:=O29.mono fun H Bv args φ hr h=>by
 unfold D29 at h;split at h
 ·split at h
  ·rename_i n g i op k v e0 e1 e2 e3 e4
   obtain ⟨h1,h2,h3⟩:=h;unfold adZ at h1;rw[aI,aI] at h1;obtain ⟨a1,a2,a3⟩:=h1;unfold F29;simp only[e0,e1,e2,e3,e4];have no (e:Nat) (q:Uu n g i op k v=ay) (q2:erG n g i op k v=e):φ (.AQ [.agg [.sl 4 0 noT],.i .i64 0,.i .i64 0,.er e 329]):=by
    have:=h3 q;rw[q2] at this;exact this
   refine ⟨a1,a2,fun q=>?_,fun q=>no 7 ?_ ?_⟩
   ·have b3:abO (Et n g i.toNat).q.length=aC/\KJ op (len (Et n g i.toNat).ps) (Aj (nth (Et n g i.toNat).ps))=aC:=by
     unfold abP at a3;rw[q] at a3;simpa using a3
    refine ⟨b3.1,fun b=>no 8 ?_ ?_,fun b=>⟨fun c=>no 15 ?_ ?_,fun c=>⟨b3.2,h2 ?_⟩⟩⟩
    ·unfold Uu YA;rw[b];simp
    ·unfold erG erN;rw[if_pos q,if_pos b]
    ·unfold Uu YA;rw[c];simp
    ·unfold erG erN;rw[if_pos q,if_neg (by rw[b];simp)]
    ·unfold Uu YA;rw[q,b,c];rfl
   ·unfold Uu YA;rw[q];rfl
   ·unfold erG erN;rw[if_neg (by rw[q];simp)]
  ·exact h.elim
 ·exact h.elim
noncomputable def akN(n:Nat)(g:Nat->List Sh)(l:List Dd):Bool:=@decide (UH n g l) (bG _)
noncomputable def abT(n:Nat)(g:Nat->List Sh)(l:List Dd):Bool:=match Io n g 0 l with
 | .inr _=>aC | .inl _=>ay
noncomputable def abU(n:Nat)(g:Nat->List Sh)(l:List Dd):Nat->List Sh:=match Io n g 0 l with
 | .inr g=>g | .inl _=>noT
noncomputable def ajc(n:Nat)(g:Nat->List Sh)(l:List Dd):Nat:=match Io n g 0 l with
 | .inr _=>0 | .inl (i,_)=>i
noncomputable def ajd(n:Nat)(g:Nat->List Sh)(l:List Dd):Nat:=match Io n g 0 l with
 | .inr _=>0 | .inl (_,e)=>e
noncomputable def F76:List Sh->Tree Sh
 |[.agg [s0],s1]=>match D9 4 s0,D9 8 s1 with
  |some (n,g),ak (m,h)=>.need (okB Dd m h) (.need (decide (m<=100000)) (.need (akN n g (lst Dd m h)) (.node (abT n g (lst Dd m h))
   (.leaf (.AQ [.agg [.sl 4 n (abU n g (lst Dd m h))],.v .nilIface]))
   (.leaf (.AQ [.agg [.sl 4 0 noT],.C9 109 (.pt [.i .i64 (ajc n g (lst Dd m h)),.er (ajd n g (lst Dd m h)) 329])])))))
  |_,_=>.fail
 |_=>.fail
theorem O76:AV aA (Bq W7) 76 F76:=by
 refine FT (C:=C7 Ai W7 QN AU) (dD _ _) (fn:=su) (by kernel_rfl) (by kernel_rfl) fun H w Bv args φ hrep h=>?_
 have hn:su.ntmps=54:=by kernel_rfl
 unfold F76 at h;split at h
 ·rename_i s0 s1
  split at h
  ·rename_i n g m hh e0 e1
   obtain ⟨h1,h2,h3,h4,h5⟩:=h;have h2:=of_decide_eq_true h2;have h3:UH n g (lst Dd m hh):=@of_decide_eq_true _ (bG _) h3;match args,hrep with
   |[v,u],⟨rv,ru,_⟩=>
    have rv':Rep H (.agg [.sl 4 n g]) v:=by
     cases rv with
     |agg _ vs hl hr=>
      refine .agg _ _ hl fun j s' v' q1 q2=>?_
      match j,q1 with
      |0,q1=>cases q1;exact BQ e0 (hr 0 _ _ rfl q2) |j+1,q1=>cases q1
    refine ⟨[.agg [.sl 4 n g],.sl 8 m (Aj (Am (α:=Dd) hh))],⟨rv',Ez (BQ e1 ru) h1,trivial⟩,L0,?_⟩;have hres:aoL φ n (Io n g 0 (lst Dd m hh)):=by
     unfold abT abU ajc ajd at *;cases hp:Io n g 0 (lst Dd m hh) with
     |inr g'=>rw[hp] at h4;exact h4 rfl |inl q=>
      obtain ⟨i,e⟩:=q;rw[hp] at h5;exact h5 rfl
    have el:lst Dd m hh=(aZ m).map fun j=>Am (α:=Dd) hh (0+j):=by
     unfold lst;refine jV fun j _=>?_
     rw[Nat.zero_add]
    rw[el] at h3 hres;refine Fh (dD _ _) (afh asJ _) (hold:=BL) (m:=300) (n:=400) (ts:=[⟨76,Zr,Zt n g m (Am (α:=Dd) hh) ((0:Nat):Int),[]⟩]) ?_;rw[hn];exact aoK Ai W7 n g m (Am (α:=Dd) hh) _ ⟨⟨rfl,rfl,rfl,rfl,trivial⟩,_,rfl,afi asJ h2 m 0 g (by omega) h3 hres⟩
  ·exact h.elim
 ·exact h.elim
end Go.Proofs
namespace Go.Pl
open Go Go.Sx Go.Proofs
noncomputable def plN(n:Nat)(g:Nat->List Sh)(m:Nat)(h:Nat->List Sh):Bool:=okB Dd m h&&(decide (m<=100000)&&akN n g (lst Dd m h))
noncomputable def plO(n:Nat)(g:Nat->List Sh)(m:Nat)(h:Nat->List Sh):Bool:=abT n g (lst Dd m h)
noncomputable def Tq(n:Nat)(g:Nat->List Sh)(m:Nat)(h:Nat->List Sh):Nat->List Sh:=abU n g (lst Dd m h)
noncomputable def plP(n:Nat)(g:Nat->List Sh)(m:Nat)(h:Nat->List Sh):Int:=ajc n g (lst Dd m h)
noncomputable def plE(n:Nat)(g:Nat->List Sh)(m:Nat)(h:Nat->List Sh):Nat:=ajd n g (lst Dd m h)
end Go.Pl
namespace Go.Proofs
open Go Go.Sx Go.Pl
noncomputable def D76:List Sh->Tree Sh
 |[.agg [s0],s1]=>match D9 4 s0,D9 8 s1 with
  |some (n,g),ak (m,h)=>.need (plN n g m h) (.node (plO n g m h)
   (.leaf (.AQ [.agg [.sl 4 n (Tq n g m h)],.v .nilIface]))
   (.leaf (.AQ [.agg [.sl 4 0 noT],.C9 109 (.pt [.i .i64 (plP n g m h),.er (plE n g m h) 329])])))
  |_,_=>.fail
 |_=>.fail
noncomputable def Oy:Nat->Option (List Sh->Tree Sh)
 |76=>ak D76 |_=>aK
def Cb(lv:Int)(N:Nat)(T:Nat->Ee)(N':Nat)(mk:Nat->Int)(k0:Nat)(g0:Nat->List Sh):List Sh:=[.i .i64 lv,.sl 7 N (Aj T),.sl 1 N' (Aj mk),.sl 4 k0 g0]
def Xq:List It:=[bD [0,1,0,1,1],dw 0,bD [1,1,1]]
def akO:List It:=bD [0,0,1,0,1,1]::Xq
def Zu(lv:Int)(N:Nat)(T:Nat->Ee)(N':Nat)(mk:Nat->Int)(k0:Nat)(g0:Nat->List Sh)(p:Int)(n:Nat)(g:Nat->List Sh)(m:Nat)(R:Nat->JJ)(i:Int):Core:={tm:=G6 104 [(0,.GX 4 1 (fun _=>Cb lv N T N' mk k0 g0) 0 0),(3,.ptr 0 0),(5,.gs 1),(15,.sh (.sl 7 N (Aj T))),(16,.sym .i64 (N:Int)),(17,.sym .i64 i)],hp:=[(0,.box [.sym .i64 p,.sh (.sl 4 n g)] 104),(1,.own 108 4 m (Aj R))],nx:=2,lim:=L0,tc:=[]}
end Go.Proofs
namespace Go.Bf
section
variable{α κ:Type}[DecidableEq κ](key:α->κ)(next:α->List α)
def J3(o:List α)(k:κ):Bool:=o.any fun n=>decide (key n=k)
def Ic(m:Nat)(o:List α)(n:α):Option (List α):=if J3 key o (key n)=aC then ak o else if o.length=m then aK else ak (o++[n])
def FM(m:Nat):List α->List α->Option (List α)
 |o,[]=>ak o |o,n::l=>match Ic key m o n with
  |none=>aK |some o'=>FM m o' l
def LW(m:Nat):Nat->List α->Nat->Option (List α)
 |0,o,_=>ak o |f+1,o,i=>match o[i]? with
  |none=>ak o |some n=>match FM key m o (next n) with
   |none=>aK |some o'=>LW m f o' (i+1)
variable{key next}
theorem al1{m:Nat}{o o':List α}{n:α}(h:Ic key m o n=ak o'):∃t,o'=o++t/\t.length<=1/\(o.length<=m->o'.length<=m):=by
 unfold Ic at h;split at h
 ·cases h;exact ⟨[],by simp,by simp,fun h=>h⟩
 ·split at h
  ·cases h
  ·cases h;exact ⟨[n],rfl,by simp,fun h=>by simp;omega⟩
theorem PZ{m:Nat}:∀{l o o':List α},FM key m o l=ak o'->∃t,o'=o++t/\(o.length<=m->o'.length<=m)
 |[],o,o',h=>by cases h;exact ⟨[],by simp,fun h=>h⟩ |n::l,o,o',h=>by
  simp only[FM] at h;cases hp:Ic key m o n with
  |none=>rw[hp] at h;cases h |some o1=>
   rw[hp] at h;obtain ⟨t,rfl,_,h1⟩:=al1 hp;obtain ⟨t',rfl,h2⟩:=PZ h;exact ⟨t++t',by simp,fun q=>h2 (h1 q)⟩
theorem abV{m:Nat}:∀{f i:Nat} {o r:List α},LW key next m f o i=ak r->∃t,r=o++t/\(o.length<=m->r.length<=m)
 |0,_,o,r,h=>by cases h;exact ⟨[],by simp,fun h=>h⟩ |f+1,i,o,r,h=>by
  simp only[LW] at h;cases hi:o[i]? with
  |none=>rw[hi] at h;cases h;exact ⟨[],by simp,fun h=>h⟩ |some n=>
   rw[hi] at h;simp only at h;cases hp:FM key m o (next n) with
   |none=>rw[hp] at h;cases h |some o1=>
    rw[hp] at h;obtain ⟨t,rfl,h1⟩:=PZ hp;obtain ⟨t',rfl,h2⟩:=abV h;exact ⟨t++t',by simp,fun q=>h2 (h1 q)⟩
end
section
variable{α κ:Type}[DecidableEq κ]{key:α->κ}{next:α->List α}
theorem J4{o:List α}{k:κ}:J3 key o k=aC↔∃n∈o,key n=k:=by simp[J3]
theorem ahj{o t:List α}{k:κ}(h:J3 key o k=aC):J3 key (o++t) k=aC:=by
 obtain ⟨n,hn,e⟩:=J4.1 h;exact J4.2 ⟨n,List.mem_append_left _ hn,e⟩
theorem al2{m:Nat}{o o':List α}{n:α}(h:Ic key m o n=ak o'):J3 key o' (key n)=aC:=by
 unfold Ic at h;split at h
 ·cases h;assumption
 ·split at h
  ·cases h
  ·cases h;exact J4.2 ⟨n,by simp,rfl⟩
theorem ad1{m:Nat}:∀{l o o':List α},FM key m o l=ak o'->∀n∈l,J3 key o' (key n)=aC
 |[],_,_,_,_,h=>by cases h |n::l,o,o',h,x,hx=>by
  simp only[FM] at h;cases hp:Ic key m o n with
  |none=>rw[hp] at h;cases h |some o1=>
   rw[hp] at h;rcases iy.1 hx with rfl|hx
   ·obtain ⟨t,rfl,_⟩:=PZ h
    exact ahj (al2 hp)
   ·exact ad1 h x hx
theorem ad2{m:Nat}{o o':List α}{n:α}{P:α->Prop}(h:Ic key m o n=ak o')(ho:∀x∈o,P x)(hn:P n):∀x∈o',P x:=by
 unfold Ic at h;split at h
 ·cases h;exact ho
 ·split at h
  ·cases h
  ·cases h
   intro x hx;rcases bI.1 hx with hx|hx
   ·exact ho x hx
   ·obtain rfl:x=n:=by simpa using hx
    exact hn
theorem Uh{m:Nat}{P:α->Prop}:∀{l o o':List α},FM key m o l=ak o'->(∀x∈o,P x)->(∀x∈l,P x)->∀x∈o',P x
 |[],_,_,h,ho,_=>by cases h;exact ho |n::l,o,o',h,ho,hl=>by
  simp only[FM] at h;cases hp:Ic key m o n with
  |none=>rw[hp] at h;cases h |some o1=>
   rw[hp] at h;exact Uh h (ad2 hp ho (hl n bZ)) fun x hx=>hl x (dA _ hx)
theorem NT{m:Nat}{P:α->Prop}(hP:∀n,P n->∀t∈next n,P t):∀{f i:Nat} {o r:List α},LW key next m f o i=ak r->(∀x∈o,P x)->∀x∈r,P x
 |0,_,_,_,h,ho=>by cases h;exact ho |f+1,i,o,r,h,ho=>by
  simp only[LW] at h;cases hi:o[i]? with
  |none=>rw[hi] at h;cases h;exact ho |some n=>
   rw[hi] at h;simp only at h;cases hp:FM key m o (next n) with
   |none=>rw[hp] at h;cases h |some o1=>
    rw[hp] at h;exact NT hP h (Uh hp ho (hP n (ho n (bT hi))))
theorem Tt{m:Nat}:∀{f i:Nat} {o r:List α},LW key next m f o i=ak r->r.length<i+f->(∀j n,j<i->o[j]?=ak n->∀t∈next n,J3 key o (key t)=aC)->∀n∈r,∀t∈next n,J3 key r (key t)=aC
 |0,i,o,r,h,hl,hc=>by
  cases h;intro n hn t ht;obtain ⟨j,hj,e⟩:=mV.1 hn;exact hc j n (by omega) (by rw[aS hj,e]) t ht
 |f+1,i,o,r,h,hl,hc=>by
  simp only[LW] at h;cases hi:o[i]? with
  |none=>
   rw[hi] at h;cases h;have hle:o.length<=i:=List.getElem?_eq_none_iff.1 hi;intro n hn t ht;obtain ⟨j,hj,e⟩:=mV.1 hn;exact hc j n (by omega) (by rw[aS hj,e]) t ht
  |some n=>
   rw[hi] at h;simp only at h;cases hp:FM key m o (next n) with
   |none=>rw[hp] at h;cases h |some o1=>
    rw[hp] at h;obtain ⟨t',e,_⟩:=PZ hp;refine Tt h (by omega) fun j x hj hx t ht=>?_
    have hil:i<o.length:=(aV.1 hi).1;have hx':o[j]?=ak x:=by
     rw[e,dN (by omega)] at hx;exact hx
    rcases pG j i with h1|h1
    ·rw[e];exact ahj (hc j x h1 hx' t ht)
    ·obtain rfl:j=i:=by omega
     rw[hi] at hx';cases hx';exact ad1 hp t ht
theorem aje{m:Nat}{o o':List α}{n:α}(h:Ic key m o n=ak o')(ho:(o.map key).Nodup):(o'.map key).Nodup:=by
 unfold Ic at h;split at h
 ·cases h;exact ho
 ·rename_i q
  split at h
  ·cases h
  ·cases h
   rw[iR,List.nodup_append];refine ⟨ho,by simp,fun a ha b hb e=>?_⟩;obtain rfl:b=key n:=by simpa using hb
   obtain ⟨x,hx,rfl⟩:=dJ.1 ha;exact q (J4.2 ⟨x,hx,e⟩)
theorem Zv{m:Nat}:∀{l o o':List α},FM key m o l=ak o'->(o.map key).Nodup->(o'.map key).Nodup
 |[],_,_,h,ho=>by cases h;exact ho |n::l,o,o',h,ho=>by
  simp only[FM] at h;cases hp:Ic key m o n with
  |none=>rw[hp] at h;cases h |some o1=>
   rw[hp] at h;exact Zv h (aje hp ho)
theorem Vx{m:Nat}:∀{f i:Nat} {o r:List α},LW key next m f o i=ak r->(o.map key).Nodup->(r.map key).Nodup
 |0,_,_,_,h,ho=>by cases h;exact ho |f+1,i,o,r,h,ho=>by
  simp only[LW] at h;cases hi:o[i]? with
  |none=>rw[hi] at h;cases h;exact ho |some n=>
   rw[hi] at h;simp only at h;cases hp:FM key m o (next n) with
   |none=>rw[hp] at h;cases h |some o1=>
    rw[hp] at h;exact Vx h (Zv hp ho)
def Lay(rk:α->Nat)(b:Nat)(o:List α):Prop:=o.Pairwise (fun x y=>rk x<=rk y)/\∀x∈o,rk x<=b
theorem aoN{m b:Nat}{rk:α->Nat}{o o':List α}{n:α}(h:Ic key m o n=ak o')(ho:Lay rk b o)(hn:rk n=b):Lay rk b o':=by
 unfold Ic at h;split at h
 ·cases h;exact ho
 ·split at h
  ·cases h
  ·cases h
   refine ⟨List.pairwise_append.2 ⟨ho.1,lN _ _,fun x hx y hy=>?_⟩,fun x hx=>?_⟩
   ·obtain rfl:y=n:=by simpa using hy
    rw[hn];exact ho.2 x hx
   ·rcases bI.1 hx with hx|hx
    ·exact ho.2 x hx
    ·obtain rfl:x=n:=by simpa using hx
     omega
theorem ad3{m b:Nat}{rk:α->Nat}:∀{l o o':List α},FM key m o l=ak o'->Lay rk b o->(∀x∈l,rk x=b)->Lay rk b o'
 |[],_,_,h,ho,_=>by cases h;exact ho |n::l,o,o',h,ho,hl=>by
  simp only[FM] at h;cases hp:Ic key m o n with
  |none=>rw[hp] at h;cases h |some o1=>
   rw[hp] at h;exact ad3 h (aoN hp ho (hl n bZ)) fun x hx=>hl x (dA _ hx)
theorem ahk{m:Nat}{rk:α->Nat}(hr:∀n,∀t∈next n,rk t=rk n+1):∀{f i:Nat} {o r:List α},LW key next m f o i=ak r->(∀n,o[i]?=ak n->Lay rk (rk n+1) o)->o.Pairwise (fun x y=>rk x<=rk y)->r.Pairwise fun x y=>rk x<=rk y
 |0,_,_,_,h,_,ho=>by cases h;exact ho |f+1,i,o,r,h,hL,ho=>by
  simp only[LW] at h;cases hi:o[i]? with
  |none=>rw[hi] at h;cases h;exact ho |some n=>
   rw[hi] at h;simp only at h;cases hp:FM key m o (next n) with
   |none=>rw[hp] at h;cases h |some o1=>
    rw[hp] at h;have h1:=ad3 hp (hL n hi) fun x hx=>hr n x hx
    refine ahk hr h (fun n' hn'=>⟨h1.1,fun x hx=>?_⟩) h1.1;obtain ⟨t,e,_⟩:=PZ hp;have hil:=(aV.1 hi).1;have hn:o1[i]?=ak n:=by rw[e,dN hil];exact hi
    have hle:rk n<=rk n':=by
     obtain ⟨q1,e1⟩:=aV.1 hn;obtain ⟨q2,e2⟩:=aV.1 hn';have:=jF.1 h1.1 i (i+1) q1 q2 (by omega);rw[e1,e2] at this;exact this
    have:=h1.2 x hx;omega
def Iq(key:α->κ)(next:α->List α)(full:α->Bool):List α->κ->Bool
 |[],_=>ay |n::l,k=>if key n=k then full n||(next n).any (fun t=>Iq key next full l (key t)) else Iq key next full l k
inductive NU(next:α->List α)(full:α->Bool):α->Prop
 |here {n:α}:full n=aC->NU next full n
 |step {n t:α}:t∈next n->NU next full t->NU next full n
theorem abW{full:α->Bool}{Q:α->Prop}(hQ:∀n,Q n->∀t∈next n,Q t)(hk:∀x y,Q x->Q y->key x=key y->x=y):∀{l:List α},(∀x∈l,Q x)->(l.map key).Nodup->
  (∀(i:Nat) n,l[i]?=ak n->∀t∈next n,∃(j:Nat) (x:α),i<j/\l[j]?=ak x/\key x=key t)->∀n∈l,(Iq key next full l (key n)=aC↔NU next full n)
 |[],_,_,_,n,hn=>by cases hn |a::l,hq,hd,hf,n,hn=>by
  have hd':=List.nodup_cons.1 (by simpa using hd:(key a::l.map key).Nodup);have ih:=abW (l:=l) (full:=full) hQ hk (fun x hx=>hq x (dA _ hx)) hd'.2 (fun i n hi t ht=>by
   obtain ⟨j,x,h1,h2,h3⟩:=hf (i+1) n (by simpa using hi) t ht;cases j with
   |zero=>omega |succ j=>exact ⟨j,x,by omega,by simpa using h2,h3⟩)
  have tail:∀t∈next a,(Iq key next full l (key t)=aC↔NU next full t):=fun t ht=>by
   obtain ⟨j,x,h1,h2,h3⟩:=hf 0 a rfl t ht;cases j with
   |zero=>omega |succ j=>
    have hx:x∈l:=bT (by simpa using h2);have e:x=t:=hk x t (hq x (dA _ hx)) (hQ a (hq a bZ) t ht) h3;rw[<-e];exact ih x hx
  by_cases e:key a=key n
  ·have:a=n:=hk a n (hq a bZ) (hq n hn) e
   subst this;unfold Iq;rw[if_pos rfl,nI,List.any_eq_true];constructor
   ·rintro (h|⟨t,ht,h⟩)
    ·exact .here h
    ·exact .step ht ((tail t ht).1 h)
   ·intro h
    cases h with
    |here h=>exact .inl h |step ht h=>exact .inr ⟨_,ht,(tail _ ht).2 h⟩
  ·unfold Iq
   rw[if_neg e];rcases iy.1 hn with rfl|hn
   ·exact (e rfl).elim
   ·exact ih n hn
theorem behind{m f:Nat}{rk:α->Nat}{Q:α->Prop}{a r:List α}(hQ:∀n,Q n->∀t∈next n,Q t)(hk:∀x y,Q x->Q y->key x=key y->x=y)(hr:∀n,∀t∈next n,rk t=rk n+1)
  (h:LW key next m f a 0=ak r) (hl:r.length<f) (ha:∀x∈a,Q x) (h1:a.length<=1):∀(i:Nat) n,r[i]?=ak n->∀t∈next n,∃(j:Nat) (x:α),i<j/\r[j]?=ak x/\key x=key t:=by
 have hq:=NT hQ h ha;have hc:=Tt h (by omega) (fun j n hj=>by omega);have hs:=ahk hr h (fun n hn=>⟨by
   match a,h1 with
   |[],_=>exact qh |[x],_=>exact lN _ _,fun x hx=>by
   match a,h1,hn,hx with
   |[y],_,hn,hx=>
    obtain rfl:x=y:=by simpa using hx
    have hn:x=n:=by simpa using hn
    subst hn;omega⟩) (by
   match a,h1 with
   |[],_=>exact qh |[x],_=>exact lN _ _)
 intro i n hi t ht;obtain ⟨x,hx,e⟩:=J4.1 (hc n (bT hi) t ht);obtain ⟨j,hj,ej⟩:=mV.1 hx;have hxt:x=t:=hk x t (hq x hx) (hQ n (hq n (bT hi)) t ht) e;refine ⟨j,x,?_,by rw[aS hj,ej],e⟩;have hrk:=hr n t ht;obtain ⟨q1,e1⟩:=aV.1 hi;refine nN fun hn=>?_
 rcases pG j i with q|q
 ·have:=jF.1 hs j i hj q1 q
  rw[ej,e1,hxt] at this;omega
 ·obtain rfl:j=i:=by omega
  rw[e1] at ej;rw[ej,hxt] at hrk;omega
end
end Go.Bf
namespace Go.Gm
open Go.Bf
structure Nd(S:Type)where
 placed:Nat
 st:S
structure Game(S:Type)where
 n:Nat
 id:Nat->Int
 com:Nat->Bool
 Uw:Nat->Bool
 mask:Nat->Nat
 run:S->Nat->Option S
 all:Bool
section
variable{S:Type}(g:Game S)
def may(p i:Nat):Bool:=!p.testBit i&&(aZ g.n).all fun j=>!(g.mask i).testBit j||p.testBit j
def Fg(nd:Nd S)(i:Nat):List ((Int×Bool)×Nd S):=
 if may g nd.placed i=aC then
  (match g.com i,g.run nd.st i with
   |true,ak s=>[((g.id i,aC),⟨nd.placed|||1<<<i,s⟩)] |_,_=>[]) ++
  (if g.Uw i=aC/\(g.all=aC->(g.run nd.st i).isSome=aC) then [((g.id i,ay),⟨nd.placed|||1<<<i,nd.st⟩)] else [])
 else []
def turns(nd:Nd S):List ((Int×Bool)×Nd S):=(aZ g.n).flatMap (Fg g nd)
def next(nd:Nd S):List (Nd S):=(turns g nd).map (·.2)
def rk(nd:Nd S):Nat:=(aZ g.n).countP fun i=>nd.placed.testBit i
def full(nd:Nd S):Bool:=decide (nd.placed=2^g.n - 1)
variable{g}
theorem Xr(p i j:Nat):(p|||1<<<i).testBit j=(p.testBit j||decide (i=j)):=by
 rw[Nat.testBit_or,mP,iK,Nat.testBit_two_pow]
theorem YB{nd:Nd S}{i:Nat}{t:(Int×Bool)×Nd S}(h:t∈Fg g nd i):nd.placed.testBit i=ay/\t.1.1=g.id i/\t.2.placed=nd.placed|||1<<<i:=by
 unfold Fg at h;split at h
 ·rename_i hm
  have hb:nd.placed.testBit i=ay:=by
   unfold may at hm;rw[aI] at hm;simpa using hm.1
  rcases bI.1 h with h|h
  ·split at h
   ·obtain rfl:t=_:=by simpa using h
    exact ⟨hb,rfl,rfl⟩
   ·cases h
  ·split at h
   ·obtain rfl:t=_:=by simpa using h
    exact ⟨hb,rfl,rfl⟩
   ·cases h
 ·cases h
theorem Zw{p:Nat->Bool}{i:Nat}:∀n,i<n->p i=ay->(aZ n).countP (fun j=>p j||decide (i=j))=(aZ n).countP p+1
 |0,h,_=>by omega |n+1,h,hp=>by
  rw[qG,tY,tY];by_cases e:i=n
  ·subst e
   have:(aZ i).countP (fun j=>p j||decide (i=j))=(aZ i).countP p:=by
    refine List.countP_congr fun j hj=>?_
    have:j<i:=dh.1 hj;have:decide (i=j)=ay:=decide_eq_false (by omega);simp[this]
   rw[this];simp[hp]
  ·have ih:=Zw (p:=p) (i:=i) n (by omega) hp
   rw[ih];have:decide (i=n)=ay:=decide_eq_false e;simp[List.countP_cons,this];omega
theorem abX{nd:Nd S}:∀t∈next g nd,rk g t=rk g nd+1:=fun t ht=>by
 unfold next turns at ht;obtain ⟨x,hx,rfl⟩:=dJ.1 ht;obtain ⟨i,hi,hx⟩:=iV.1 hx;obtain ⟨h1,_,h2⟩:=YB hx;unfold rk;rw[h2];simp only[Xr];exact Zw g.n (dh.1 hi) h1
theorem lt_next{nd:Nd S}(h:nd.placed<2^g.n):∀t∈next g nd,t.placed<2^g.n:=fun t ht=>by
 unfold next turns at ht;obtain ⟨x,hx,rfl⟩:=dJ.1 ht;obtain ⟨i,hi,hx⟩:=iV.1 hx;obtain ⟨_,_,h2⟩:=YB hx;rw[h2];refine pV h ?_;rw[mP,iK];exact jD (by decide) (dh.1 hi)
theorem ad4{nd:Nd S}(h:nd.placed<2^g.n):full g nd=aC↔∀i,i<g.n->nd.placed.testBit i=aC:=by
 unfold full;rw[decide_eq_true_eq];constructor
 ·intro e i hi
  rw[e,qj];exact decide_eq_true hi
 ·intro e
  refine tC fun i=>?_
  rw[qj];by_cases hi:i<g.n
  ·rw[e i hi,decide_eq_true hi]
  ·rw[decide_eq_false hi]
   exact l9 (jU h (kP (by decide) (by omega)))
def least(g:Game S)(ld:Nd S->Bool):Nat->Nd S->List (Int×Bool)
 |0,_=>[] |f+1,nd=>if full g nd=aC then [] else match (turns g nd).find? fun t=>ld t.2 with
  |none=>[] |some t=>t.1::least g ld f t.2
def walk(g:Game S):Nd S->List (Int×Bool)->Option (Nd S)
 |nd,[]=>ak nd |nd,s::l=>match (turns g nd).find? fun t=>t.1==s with
  |none=>aK |some t=>walk g t.2 l
theorem ajf{nd:Nd S}(h:NU (next g) (full g) nd)(hn:full g nd=ay):∃t∈turns g nd,NU (next g) (full g) t.2:=by
 cases h with
 |here h=>rw[hn] at h;cases h |step ht h=>
  obtain ⟨t,q,rfl⟩:=dJ.1 ht;exact ⟨t,q,h⟩
end
open Go.Bf
section
variable{S κ:Type}[DecidableEq κ](g:Game S)(key:Nd S->κ)
def start(s:S):Nd S:=⟨0,s⟩
def Dv(s:S)(m:Nat):Option (List (Nd S)):=LW key (next g) m (m+1) [start s] 0
def Vy(r:List (Nd S))(nd:Nd S):Bool:=Iq key (next g) (full g) r (key nd)
def Kt(s:S)(r:List (Nd S)):Bool:=Vy g key r (start s)
def Ir(s:S)(r:List (Nd S)):List (Int×Bool):=if Kt g key s r=aC then least g (Vy g key r) (g.n+1) (start s) else []
variable{g key}
theorem Vz{s:S}{m:Nat}(hm:1<=m){r:List (Nd S)}(h:Dv g key s m=ak r):1<=r.length/\r.length<=m:=by
 obtain ⟨t,e,hl⟩:=abV h;exact ⟨by rw[e];simp,hl (by simpa using hm)⟩
theorem akP{s:S}{m:Nat}(hm:1<=m){r:List (Nd S)}(h:Dv g key s m=ak r){Q:Nd S->Prop}(hQ:∀n,Q n->∀t∈next g n,Q t)(hk:∀x y,Q x->Q y->key x=key y->x=y)(hs:Q (start s)):
  ∀n∈r,(Vy g key r n=aC↔NU (next g) (full g) n):=by
 have hl:=(Vz hm h).2;have ha:∀x∈[start s],Q x:=fun x hx=>by
  obtain rfl:x=start s:=by simpa using hx
  exact hs
 exact abW hQ hk (NT hQ h ha) (Vx h (by simp)) (behind hQ hk (fun n t ht=>abX t ht) h (by omega) ha (by simp))
theorem YC{s:S}{m:Nat}{r:List (Nd S)}(h:Dv g key s m=ak r):start s∈r:=by
 obtain ⟨t,e,_⟩:=abV h;rw[e];simp
theorem start_lt(s:S):(start s).placed<2^g.n:=Nat.pos_of_ne_zero (by simp)
theorem ad5{s:S}{m:Nat}(hm:1<=m){r:List (Nd S)}(h:Dv g key s m=ak r){Q:Nd S->Prop}(hQ:∀n,Q n->∀t∈next g n,Q t)(hk:∀x y,Q x->Q y->key x=key y->x=y)(hs:Q (start s)):∀n∈r,∀t∈next g n,t∈r:=by
 have hl:=(Vz hm h).2;have ha:∀x∈[start s],Q x:=fun x hx=>by
  obtain rfl:x=start s:=by simpa using hx
  exact hs
 have hq:=NT hQ h ha;have hc:=Tt h (by omega) (fun j n hj=>by omega);intro n hn t ht;obtain ⟨x,hx,e⟩:=J4.1 (hc n hn t ht);rw[<-hk x t (hq x hx) (hQ n (hq n hn) t ht) e];exact hx
theorem Tv{s:S}{m:Nat}(hm:1<=m){r:List (Nd S)}(h:Dv g key s m=ak r){Q:Nd S->Prop}(hQ:∀n,Q n->∀t∈next g n,Q t)(hk:∀x y,Q x->Q y->key x=key y->x=y)(hs:Q (start s)):Kt g key s r=aC↔NU (next g) (full g) (start s):=
 akP hm h hQ hk hs _ (YC h)
end
end Go.Gm
namespace Go.Pl
open Go Go.Sx
theorem KL(p:Nat):gG 64 (p:Int)=BitVec.ofNat 64 p:=BitVec.ofInt_natCast 64 p
theorem P5{p:Nat}(h:p<2^63):aW.wrap (p:Int)=(p:Int):=Cj (by omega) (by omega)
theorem akQ{p q n:Nat}(h:p<2^n):p&&&q<2^n:=uM Nat.and_le_left h
theorem aoO{p q:Nat}(hp:p<2^63)(hq:q<2^63):Ai.bin .and .i64 (p:Int) (q:Int)=((p&&&q:Nat):Int):=by
 show aW.wrap ((gG 64 (p:Int)&&&gG 64 (q:Int)).toNat:Int)=_;rw[KL,KL,tZ,jg,jg,iI (by omega),iI (by omega)];exact P5 (akQ hp)
theorem arL{p q:Nat}(hp:p<2^63)(hq:q<2^63):Ai.bin .or .i64 (p:Int) (q:Int)=((p|||q:Nat):Int):=by
 show aW.wrap ((gG 64 (p:Int)|||gG 64 (q:Int)).toNat:Int)=_;rw[KL,KL,BitVec.toNat_or,jg,jg,iI (by omega),iI (by omega)];exact P5 (pV hp hq)
theorem ahl{p q:Nat}(hp:p<2^63)(hq:q<2^63):Ai.bin .andNot .i64 (p:Int) (q:Int)=((p&&&(2^64 - 1 - q):Nat):Int):=by
 show aW.wrap ((gG 64 (p:Int)&&&~~~ gG 64 (q:Int)).toNat:Int)=_;rw[KL,KL,tZ,BitVec.toNat_not,jg,jg,iI (by omega),iI (by omega)];exact P5 (akQ hp)
theorem ahm{i:Nat}(h:i<63):Ai.bin .shl .i64 (ah 1) (i:Int)=((2^i:Nat):Int):=by
 show aW.wrap ((1:Int)*2^(min (i:Int).toNat 64))=_;rw[fU,qW (by omega),Int.one_mul];have:((2:Int)^i)=((2^i:Nat):Int):=by push_cast;rfl
 rw[this];exact P5 (jD (by decide) h)
theorem aoP{p i:Nat}(h:i<=64):Ai.bin .shr .i64 (p:Int) (i:Int)=((p>>>i:Nat):Int):=by
 show Int.fdiv (p:Int) (2^(min (i:Int).toNat 64))=_;rw[fU,qW h];have:((2:Int)^i)=((2^i:Nat):Int):=by push_cast;rfl
 rw[this,Int.fdiv_eq_ediv_of_nonneg _ (Int.natCast_nonneg _),<-Int.natCast_ediv,qP]
theorem arM(p i:Nat):p>>>i<=p:=by rw[qP];exact Nat.div_le_self _ _
theorem arN{p i:Nat}(hp:p<2^63)(hi:i<=64):Ai.eq (Ai.bin .and .i64 (Ai.bin .shr .i64 (p:Int) (i:Int)) (ah 1)) (ah 1)=p.testBit i:=by
 rw[aoP hi];have h:=aoO (p:=p>>>i) (q:=1) (uM (arM p i) hp) (by decide);have h:Ai.bin .and .i64 ((p>>>i:Nat):Int) (ah 1)=((p>>>i&&&1:Nat):Int):=h;rw[h,AX];unfold Nat.testBit;rw[zq];have h1:1&&&p>>>i=p>>>i % 2:=by rw[zq];exact Nat.and_one_is_mod _
 rw[h1];rcases Nat.mod_two_eq_zero_or_one (p>>>i) with e|e<;>rw[e]<;>rfl
theorem al3{m p N:Nat}(hm:m<2^N)(hN:N<=62)(hp:p<2^63):Ai.nt (Ai.eq (Ai.bin .andNot .i64 (m:Int) (p:Int)) (ah 0))=!((aZ N).all fun j=>!m.testBit j||p.testBit j):=by
 have hm':m<2^63:=jU hm (kP (by decide) (by omega));rw[ahl hm' hp,CB,AX];congr 1;have key:∀j,(m&&&(2^64 - 1 - p)).testBit j=(m.testBit j && !p.testBit j):=fun j=>by
  rw[Nat.testBit_and];by_cases hj:j<N
  ·rw[show 2^64 - 1 - p=2^64 - (p+1) by omega,Nat.testBit_two_pow_sub_succ (by omega),decide_eq_true (by omega:j<64)];rfl
  ·have:m.testBit j=ay:=l9 (jU hm (kP (by decide) (by omega)))
   rw[this];rfl
 cases ha:(aZ N).all fun j=>!m.testBit j||p.testBit j with
 |true=>
  rw[dF] at ha;have:m&&&(2^64 - 1 - p)=0:=tC fun j=>by
   rw[key,wF];by_cases hj:j<N
   ·have:=ha j (dh.2 hj)
    revert this;cases m.testBit j<;>cases p.testBit j<;>simp
   ·have:m.testBit j=ay:=l9 (jU hm (kP (by decide) (by omega)))
    rw[this];rfl
  rw[this];rfl
 |false=>
  have:m&&&(2^64 - 1 - p)≠0:=fun e=>by
   have:((aZ N).all fun j=>!m.testBit j||p.testBit j)=aC:=by
    rw[dF];intro j hj;have:=key j;rw[e,wF] at this;revert this;cases m.testBit j<;>cases p.testBit j<;>simp
   rw[this] at ha;cases ha
  have h2:(((m&&&(2^64 - 1 - p):Nat):Int)==ah 0)=ay:=by
   rw[beq_eq_false_iff_ne];intro e;exact this (lq e)
  exact h2
theorem or_eq{p i:Nat}(hp:p<2^63)(hi:i<63):Ai.bin .or .i64 (p:Int) (Ai.bin .shl .i64 (ah 1) (i:Int))=((p|||1<<<i:Nat):Int):=by
 rw[ahm hi,arL hp (jD (by decide) hi),mP,iK]
theorem aoQ{N:Nat}(hN:N<=62):Ai.sub .i64 (Ai.bin .shl .i64 (ah 1) (N:Int)) (ah 1)=((2^N - 1:Nat):Int):=by
 rw[ahm (by omega),Na];have h1:1<=2^N:=Nat.one_le_two_pow;have h2:2^N<2^63:=jD (by decide) (by omega);have:((2^N:Nat):Int) - ah 1=((2^N - 1:Nat):Int):=by
  rw[Int.natCast_sub h1];rfl
 rw[this];exact P5 (by omega)
open Go Go.Sx Go.Proofs Go.Gm
noncomputable def Ux(lv:Int)(N:Nat)(T:Nat->Ee)(mk:Nat->Int)(n:Nat):Game (Nat->List Sh) where
 n:=N
 id i:=(T i).id
 com i:=(T i).st==3||(T i).st==2
 Uw i:=!((T i).st==3)
 mask i:=(mk i).toNat
 run g i:=if plO n g (T i).k (T i).g=aC then ak (Tq n g (T i).k (T i).g) else aK
 all:=lv==3
def G8(n:Nat)(t:(Int×Bool)×Nd (Nat->List Sh)):JJ:=⟨t.1.1,t.1.2,(t.2.placed:Nat),n,t.2.st⟩
structure TuP(lv:Int)(N:Nat)(T:Nat->Ee)(N':Nat)(mk:Nat->Int)(p:Int)(n:Nat)(g:Nat->List Sh):Prop where
 le:N<=62
 eq:N=N'
 pos:0<=p
 lt:p<2^62
 mpos:∀i,i<N->0<=mk i
 mlt:∀i,i<N->(mk i).toNat<2^N
 fit:∀i,i<N->may (Ux lv N T mk n) p.toNat i=aC->plN n g (T i).k (T i).g=aC
noncomputable def tuL(lv:Int)(N:Nat)(T:Nat->Ee)(mk:Nat->Int)(p:Int)(n:Nat)(g:Nat->List Sh):List JJ:=(turns (Ux lv N T mk n) ⟨p.toNat,g⟩).map (G8 n)
noncomputable def tuB(lv:Int)(N:Nat)(T':Nat->List Sh)(N':Nat)(mk':Nat->List Sh)(p:Int)(st n:Nat)(g:Nat->List Sh):Bool:=
 okB Ee N T'&&(okB Int N' mk'&&((fC st 4||fC n 0)&&@decide (TuP lv N (Am T') N' (Am mk') p n g) (bG _)))
noncomputable def OY(lv:Int)(N:Nat)(T':Nat->List Sh)(mk':Nat->List Sh)(p:Int)(n:Nat)(g:Nat->List Sh):Nat:=(tuL lv N (Am T') (Am mk') p n g).length
noncomputable def ZW(lv:Int)(N:Nat)(T':Nat->List Sh)(mk':Nat->List Sh)(p:Int)(n:Nat)(g:Nat->List Sh):Nat->JJ:=nth (tuL lv N (Am T') (Am mk') p n g)
theorem EX{α:Type}[Row α](o:Nat->α):Am (Aj o)=o:=funext fun i=>NK o i
end Go.Pl
namespace Go.Proofs
open Go Go.Sx Go.Pl Go.Gm
noncomputable def D41:List Sh->Tree Sh
 |[.pt [.i .i64 lv,s1,s2,s3],.agg [t,.sl st n g]]=>match D9 7 s1,D9 1 s2,D9 4 s3,BF t with
  |some (N,T'),ak (N',mk'),ak _,ak p=>.need (tuB lv N T' N' mk' p st n g) (.leaf (.sl 4 (OY lv N T' mk' p n g) (Aj (ZW lv N T' mk' p n g)))) |_,_,_,_=>.fail
 |_=>.fail
open Go Go.Sx Go.Pl
theorem ajg(A:Prim)(W:Wd)(lv:Int)(N:Nat)(T:Nat->Ee)(N':Nat)(mk:Nat->Int)(k0:Nat)(g0:Nat->List Sh)(p:Int)(n:Nat)(g:Nat->List Sh)(m:Nat)(R:Nat->JJ)(i':Int){ψ:ED->Prop}(y1:ψ (bK 0 [aJ 1 1,bF (fun (x:Nat)=>Cb lv N T N' mk k0 g0) fun (x:Nat)=>Cb lv N T N' mk k0 g0,aJ 0 0,aO (aG 7 N (Aj T)) (aG 7 N (Aj T)),aj (A.AZ N) (ah N),aj (ah 0) i',aj p p,aO (aG 4 n g) (aG 4 n g),aJ m 0])):Df ψ (Bj (C7 A W Oy AU) BL 300 400 41 [.code []] (Ap 104 [.pt (Cb lv N T N' mk k0 g0),.agg [.i .i64 p,.sl 4 n g]] L0) [] [⟨41,Xq,Zu lv N T N' mk k0 g0 p n g m R i',[]⟩]):=by
 exact FU y1 (by kernel_rfl)
theorem abZ(A:Prim)(W:Wd)(lv:Int)(N:Nat)(T:Nat->Ee)(N':Nat)(mk:Nat->Int)(k0:Nat)(g0:Nat->List Sh)(p:Int)(n:Nat)(g:Nat->List Sh)(m m':Nat)(R R':Nat->JJ)(i i':Int){ψ:ED->Prop}{c0 c1 c2 c3 c4 c5 c6 c7:Bool}(e0:A.lt i (ah N)=c0)(e1:A.eq (A.bin BinOp.and aW (A.bin BinOp.shr aW p i) (ah 1)) (ah 1)=c1)(e2:A.nt (A.eq (A.bin BinOp.andNot aW (mk (A.toN i)) p) (ah 0))=c2)(e3:plO n g (T (A.toN i)).k (T (A.toN i)).g=c3)(e4:A.eq (T (A.toN i)).st (ah 3)=c4)(e5:A.nt (A.eq (T (A.toN i)).st (ah 3))=c5)(e6:A.nt (A.eq lv (ah 3))=c6)(e7:A.eq (T (A.toN i)).st (ah 2)=c7)(h1:c0=aC->(A.inB i N)=aC)(h2:c0=aC->(A.le (ah 0) i)=aC)(h3:c0=aC->c1=ay->(A.inB i N')=aC)(h4:c0=aC->c1=ay->c2=ay->(plN n g (T (A.toN i)).k (T (A.toN i)).g)=aC)(h5:c0=aC->c1=ay->c2=ay->c3=aC->c4=aC->(A.room (A.addN m 1) 48)=aC)(h6:c0=aC->c1=ay->c2=ay->c3=aC->c4=aC->c5=aC->c6=aC->(A.room (A.addN (A.addN m 1) 1) 48)=aC)(h7:c0=aC->c1=ay->c2=ay->c3=aC->c4=aC->c5=aC->c6=ay->(A.room (A.addN (A.addN m 1) 1) 48)=aC)(h8:c0=aC->c1=ay->c2=ay->c3=aC->c4=ay->c7=aC->(A.room (A.addN m 1) 48)=aC)(h9:c0=aC->c1=ay->c2=ay->c3=aC->c4=ay->c7=aC->c5=aC->c6=aC->(A.room (A.addN (A.addN m 1) 1) 48)=aC)(h10:c0=aC->c1=ay->c2=ay->c3=aC->c4=ay->c7=aC->c5=aC->c6=ay->(A.room (A.addN (A.addN m 1) 1) 48)=aC)(h11:c0=aC->c1=ay->c2=ay->c3=aC->c4=ay->c7=ay->c5=aC->c6=aC->(A.room (A.addN m 1) 48)=aC)(h12:c0=aC->c1=ay->c2=ay->c3=aC->c4=ay->c7=ay->c5=aC->c6=ay->(A.room (A.addN m 1) 48)=aC)(h13:c0=aC->c1=ay->c2=ay->c3=ay->c4=aC->c5=aC->c6=aC->(A.room (A.addN m 1) 48)=aC)(h14:c0=aC->c1=ay->c2=ay->c3=ay->c4=ay->c7=aC->c5=aC->c6=aC->(A.room (A.addN m 1) 48)=aC)(h15:c0=aC->c1=ay->c2=ay->c3=ay->c4=ay->c7=ay->c5=aC->c6=aC->(A.room (A.addN m 1) 48)=aC)(y1:c0=aC->c1=aC->ψ (bK 0 [aJ 1 1,bF (fun (x:Nat)=>Cb lv N T N' mk k0 g0) fun (x:Nat)=>Cb lv N T N' mk k0 g0,aJ 0 0,aO (aG 7 N (Aj T)) (aG 7 N (Aj T)),aj (ah N) (ah N),aj (A.add .i64 i (ah 1)) i',aj p p,aO (aG 4 n g) (aG 4 n g),aJ m m',aU m (Aj R) (Aj R')]))(y2:c0=aC->c1=ay->c2=aC->ψ (bK 0 [aJ 1 1,bF (fun (x:Nat)=>Cb lv N T N' mk k0 g0) fun (x:Nat)=>Cb lv N T N' mk k0 g0,aJ 0 0,aO (aG 7 N (Aj T)) (aG 7 N (Aj T)),aj (ah N) (ah N),aj (A.add .i64 i (ah 1)) i',aj p p,aO (aG 4 n g) (aG 4 n g),aJ m m',aU m (Aj R) (Aj R')]))(y3:c0=aC->c1=ay->c2=ay->c3=aC->c4=aC->c5=aC->c6=aC->ψ (bK 0 [aJ 1 1,bF (fun (x:Nat)=>Cb lv N T N' mk k0 g0) fun (x:Nat)=>Cb lv N T N' mk k0 g0,aJ 0 0,aO (aG 7 N (Aj T)) (aG 7 N (Aj T)),aj (ah N) (ah N),aj (A.add .i64 i (ah 1)) i',aj p p,aO (aG 4 n g) (aG 4 n g),aJ (A.addN (A.addN m 1) 1) m',aU (A.addN (A.addN m 1) 1) (A.snoc (A.snoc (Aj R) m (Bh [[aY .i64 (T (A.toN i)).id,gU aC,aY .i64 (A.bin jc aW p (A.bin iE aW (ah 1) i)),aG 4 n (Tq n g (T (A.toN i)).k (T (A.toN i)).g)]])) (A.addN m 1) (Bh [[aY .i64 (T (A.toN i)).id,gU ay,aY .i64 (A.bin jc aW p (A.bin iE aW (ah 1) i)),aG 4 n g]])) (Aj R')]))(y4:c0=aC->c1=ay->c2=ay->c3=aC->c4=aC->c5=aC->c6=ay->ψ (bK 0 [aJ 1 1,bF (fun (x:Nat)=>Cb lv N T N' mk k0 g0) fun (x:Nat)=>Cb lv N T N' mk k0 g0,aJ 0 0,aO (aG 7 N (Aj T)) (aG 7 N (Aj T)),aj (ah N) (ah N),aj (A.add .i64 i (ah 1)) i',aj p p,aO (aG 4 n g) (aG 4 n g),aJ (A.addN (A.addN m 1) 1) m',aU (A.addN (A.addN m 1) 1) (A.snoc (A.snoc (Aj R) m (Bh [[aY .i64 (T (A.toN i)).id,gU aC,aY .i64 (A.bin jc aW p (A.bin iE aW (ah 1) i)),aG 4 n (Tq n g (T (A.toN i)).k (T (A.toN i)).g)]])) (A.addN m 1) (Bh [[aY .i64 (T (A.toN i)).id,gU ay,aY .i64 (A.bin jc aW p (A.bin iE aW (ah 1) i)),aG 4 n g]])) (Aj R')]))(y5:c0=aC->c1=ay->c2=ay->c3=aC->c4=aC->c5=ay->ψ (bK 0 [aJ 1 1,bF (fun (x:Nat)=>Cb lv N T N' mk k0 g0) fun (x:Nat)=>Cb lv N T N' mk k0 g0,aJ 0 0,aO (aG 7 N (Aj T)) (aG 7 N (Aj T)),aj (ah N) (ah N),aj (A.add .i64 i (ah 1)) i',aj p p,aO (aG 4 n g) (aG 4 n g),aJ (A.addN m 1) m',aU (A.addN m 1) (A.snoc (Aj R) m (Bh [[aY .i64 (T (A.toN i)).id,gU aC,aY .i64 (A.bin jc aW p (A.bin iE aW (ah 1) i)),aG 4 n (Tq n g (T (A.toN i)).k (T (A.toN i)).g)]])) (Aj R')]))(y6:c0=aC->c1=ay->c2=ay->c3=aC->c4=ay->c7=aC->c5=aC->c6=aC->ψ (bK 0 [aJ 1 1,bF (fun (x:Nat)=>Cb lv N T N' mk k0 g0) fun (x:Nat)=>Cb lv N T N' mk k0 g0,aJ 0 0,aO (aG 7 N (Aj T)) (aG 7 N (Aj T)),aj (ah N) (ah N),aj (A.add .i64 i (ah 1)) i',aj p p,aO (aG 4 n g) (aG 4 n g),aJ (A.addN (A.addN m 1) 1) m',aU (A.addN (A.addN m 1) 1) (A.snoc (A.snoc (Aj R) m (Bh [[aY .i64 (T (A.toN i)).id,gU aC,aY .i64 (A.bin jc aW p (A.bin iE aW (ah 1) i)),aG 4 n (Tq n g (T (A.toN i)).k (T (A.toN i)).g)]])) (A.addN m 1) (Bh [[aY .i64 (T (A.toN i)).id,gU ay,aY .i64 (A.bin jc aW p (A.bin iE aW (ah 1) i)),aG 4 n g]])) (Aj R')]))(y7:c0=aC->c1=ay->c2=ay->c3=aC->c4=ay->c7=aC->c5=aC->c6=ay->ψ (bK 0 [aJ 1 1,bF (fun (x:Nat)=>Cb lv N T N' mk k0 g0) fun (x:Nat)=>Cb lv N T N' mk k0 g0,aJ 0 0,aO (aG 7 N (Aj T)) (aG 7 N (Aj T)),aj (ah N) (ah N),aj (A.add .i64 i (ah 1)) i',aj p p,aO (aG 4 n g) (aG 4 n g),aJ (A.addN (A.addN m 1) 1) m',aU (A.addN (A.addN m 1) 1) (A.snoc (A.snoc (Aj R) m (Bh [[aY .i64 (T (A.toN i)).id,gU aC,aY .i64 (A.bin jc aW p (A.bin iE aW (ah 1) i)),aG 4 n (Tq n g (T (A.toN i)).k (T (A.toN i)).g)]])) (A.addN m 1) (Bh [[aY .i64 (T (A.toN i)).id,gU ay,aY .i64 (A.bin jc aW p (A.bin iE aW (ah 1) i)),aG 4 n g]])) (Aj R')]))(y8:c0=aC->c1=ay->c2=ay->c3=aC->c4=ay->c7=aC->c5=ay->ψ (bK 0 [aJ 1 1,bF (fun (x:Nat)=>Cb lv N T N' mk k0 g0) fun (x:Nat)=>Cb lv N T N' mk k0 g0,aJ 0 0,aO (aG 7 N (Aj T)) (aG 7 N (Aj T)),aj (ah N) (ah N),aj (A.add .i64 i (ah 1)) i',aj p p,aO (aG 4 n g) (aG 4 n g),aJ (A.addN m 1) m',aU (A.addN m 1) (A.snoc (Aj R) m (Bh [[aY .i64 (T (A.toN i)).id,gU aC,aY .i64 (A.bin jc aW p (A.bin iE aW (ah 1) i)),aG 4 n (Tq n g (T (A.toN i)).k (T (A.toN i)).g)]])) (Aj R')]))(y9:c0=aC->c1=ay->c2=ay->c3=aC->c4=ay->c7=ay->c5=aC->c6=aC->ψ (bK 0 [aJ 1 1,bF (fun (x:Nat)=>Cb lv N T N' mk k0 g0) fun (x:Nat)=>Cb lv N T N' mk k0 g0,aJ 0 0,aO (aG 7 N (Aj T)) (aG 7 N (Aj T)),aj (ah N) (ah N),aj (A.add .i64 i (ah 1)) i',aj p p,aO (aG 4 n g) (aG 4 n g),aJ (A.addN m 1) m',aU (A.addN m 1) (A.snoc (Aj R) m (Bh [[aY .i64 (T (A.toN i)).id,gU ay,aY .i64 (A.bin jc aW p (A.bin iE aW (ah 1) i)),aG 4 n g]])) (Aj R')]))(y10:c0=aC->c1=ay->c2=ay->c3=aC->c4=ay->c7=ay->c5=aC->c6=ay->ψ (bK 0 [aJ 1 1,bF (fun (x:Nat)=>Cb lv N T N' mk k0 g0) fun (x:Nat)=>Cb lv N T N' mk k0 g0,aJ 0 0,aO (aG 7 N (Aj T)) (aG 7 N (Aj T)),aj (ah N) (ah N),aj (A.add .i64 i (ah 1)) i',aj p p,aO (aG 4 n g) (aG 4 n g),aJ (A.addN m 1) m',aU (A.addN m 1) (A.snoc (Aj R) m (Bh [[aY .i64 (T (A.toN i)).id,gU ay,aY .i64 (A.bin jc aW p (A.bin iE aW (ah 1) i)),aG 4 n g]])) (Aj R')]))(y11:c0=aC->c1=ay->c2=ay->c3=aC->c4=ay->c7=ay->c5=ay->ψ (bK 0 [aJ 1 1,bF (fun (x:Nat)=>Cb lv N T N' mk k0 g0) fun (x:Nat)=>Cb lv N T N' mk k0 g0,aJ 0 0,aO (aG 7 N (Aj T)) (aG 7 N (Aj T)),aj (ah N) (ah N),aj (A.add .i64 i (ah 1)) i',aj p p,aO (aG 4 n g) (aG 4 n g),aJ m m',aU m (Aj R) (Aj R')]))(y12:c0=aC->c1=ay->c2=ay->c3=ay->c4=aC->c5=aC->c6=aC->ψ (bK 0 [aJ 1 1,bF (fun (x:Nat)=>Cb lv N T N' mk k0 g0) fun (x:Nat)=>Cb lv N T N' mk k0 g0,aJ 0 0,aO (aG 7 N (Aj T)) (aG 7 N (Aj T)),aj (ah N) (ah N),aj (A.add .i64 i (ah 1)) i',aj p p,aO (aG 4 n g) (aG 4 n g),aJ (A.addN m 1) m',aU (A.addN m 1) (A.snoc (Aj R) m (Bh [[aY .i64 (T (A.toN i)).id,gU ay,aY .i64 (A.bin jc aW p (A.bin iE aW (ah 1) i)),aG 4 n g]])) (Aj R')]))(y13:c0=aC->c1=ay->c2=ay->c3=ay->c4=aC->c5=aC->c6=ay->ψ (bK 0 [aJ 1 1,bF (fun (x:Nat)=>Cb lv N T N' mk k0 g0) fun (x:Nat)=>Cb lv N T N' mk k0 g0,aJ 0 0,aO (aG 7 N (Aj T)) (aG 7 N (Aj T)),aj (ah N) (ah N),aj (A.add .i64 i (ah 1)) i',aj p p,aO (aG 4 n g) (aG 4 n g),aJ m m',aU m (Aj R) (Aj R')]))(y14:c0=aC->c1=ay->c2=ay->c3=ay->c4=aC->c5=ay->ψ (bK 0 [aJ 1 1,bF (fun (x:Nat)=>Cb lv N T N' mk k0 g0) fun (x:Nat)=>Cb lv N T N' mk k0 g0,aJ 0 0,aO (aG 7 N (Aj T)) (aG 7 N (Aj T)),aj (ah N) (ah N),aj (A.add .i64 i (ah 1)) i',aj p p,aO (aG 4 n g) (aG 4 n g),aJ m m',aU m (Aj R) (Aj R')]))(y15:c0=aC->c1=ay->c2=ay->c3=ay->c4=ay->c7=aC->c5=aC->c6=aC->ψ (bK 0 [aJ 1 1,bF (fun (x:Nat)=>Cb lv N T N' mk k0 g0) fun (x:Nat)=>Cb lv N T N' mk k0 g0,aJ 0 0,aO (aG 7 N (Aj T)) (aG 7 N (Aj T)),aj (ah N) (ah N),aj (A.add .i64 i (ah 1)) i',aj p p,aO (aG 4 n g) (aG 4 n g),aJ (A.addN m 1) m',aU (A.addN m 1) (A.snoc (Aj R) m (Bh [[aY .i64 (T (A.toN i)).id,gU ay,aY .i64 (A.bin jc aW p (A.bin iE aW (ah 1) i)),aG 4 n g]])) (Aj R')]))(y16:c0=aC->c1=ay->c2=ay->c3=ay->c4=ay->c7=aC->c5=aC->c6=ay->ψ (bK 0 [aJ 1 1,bF (fun (x:Nat)=>Cb lv N T N' mk k0 g0) fun (x:Nat)=>Cb lv N T N' mk k0 g0,aJ 0 0,aO (aG 7 N (Aj T)) (aG 7 N (Aj T)),aj (ah N) (ah N),aj (A.add .i64 i (ah 1)) i',aj p p,aO (aG 4 n g) (aG 4 n g),aJ m m',aU m (Aj R) (Aj R')]))(y17:c0=aC->c1=ay->c2=ay->c3=ay->c4=ay->c7=aC->c5=ay->ψ (bK 0 [aJ 1 1,bF (fun (x:Nat)=>Cb lv N T N' mk k0 g0) fun (x:Nat)=>Cb lv N T N' mk k0 g0,aJ 0 0,aO (aG 7 N (Aj T)) (aG 7 N (Aj T)),aj (ah N) (ah N),aj (A.add .i64 i (ah 1)) i',aj p p,aO (aG 4 n g) (aG 4 n g),aJ m m',aU m (Aj R) (Aj R')]))(y18:c0=aC->c1=ay->c2=ay->c3=ay->c4=ay->c7=ay->c5=aC->c6=aC->ψ (bK 0 [aJ 1 1,bF (fun (x:Nat)=>Cb lv N T N' mk k0 g0) fun (x:Nat)=>Cb lv N T N' mk k0 g0,aJ 0 0,aO (aG 7 N (Aj T)) (aG 7 N (Aj T)),aj (ah N) (ah N),aj (A.add .i64 i (ah 1)) i',aj p p,aO (aG 4 n g) (aG 4 n g),aJ (A.addN m 1) m',aU (A.addN m 1) (A.snoc (Aj R) m (Bh [[aY .i64 (T (A.toN i)).id,gU ay,aY .i64 (A.bin jc aW p (A.bin iE aW (ah 1) i)),aG 4 n g]])) (Aj R')]))(y19:c0=aC->c1=ay->c2=ay->c3=ay->c4=ay->c7=ay->c5=aC->c6=ay->ψ (bK 0 [aJ 1 1,bF (fun (x:Nat)=>Cb lv N T N' mk k0 g0) fun (x:Nat)=>Cb lv N T N' mk k0 g0,aJ 0 0,aO (aG 7 N (Aj T)) (aG 7 N (Aj T)),aj (ah N) (ah N),aj (A.add .i64 i (ah 1)) i',aj p p,aO (aG 4 n g) (aG 4 n g),aJ m m',aU m (Aj R) (Aj R')]))(y20:c0=aC->c1=ay->c2=ay->c3=ay->c4=ay->c7=ay->c5=ay->ψ (bK 0 [aJ 1 1,bF (fun (x:Nat)=>Cb lv N T N' mk k0 g0) fun (x:Nat)=>Cb lv N T N' mk k0 g0,aJ 0 0,aO (aG 7 N (Aj T)) (aG 7 N (Aj T)),aj (ah N) (ah N),aj (A.add .i64 i (ah 1)) i',aj p p,aO (aG 4 n g) (aG 4 n g),aJ m m',aU m (Aj R) (Aj R')]))(y21:c0=ay->ψ (aT (Sh.os 108 4 m (Aj R)))):Df ψ (Bj (C7 A W Oy AU) BL 300 400 41 akO (Zu lv N T N' mk k0 g0 p n g m R i) [] [⟨41,Xq,Zu lv N T N' mk k0 g0 p n g m' R' i',[]⟩]):=by
 subst e0 e1 e2 e3 e4 e5 e6 e7;exact FU (an (fun q0=>an (h1 q0) (an (h2 q0) (an (y1 q0) (fun q1=>an (h3 q0 q1) (an (y2 q0 q1) (fun q2=>an (h4 q0 q1 q2) (an (fun q3=>an (h2 q0) (an (fun q4=>an (h5 q0 q1 q2 q3 q4) (an (fun q5=>an (fun q6=>an (h6 q0 q1 q2 q3 q4 q5 q6) (y3 q0 q1 q2 q3 q4 q5 q6)) (fun q6=>an (h7 q0 q1 q2 q3 q4 q5 q6) (y4 q0 q1 q2 q3 q4 q5 q6))) (y5 q0 q1 q2 q3 q4))) (fun q4=>an (fun q5=>an (h8 q0 q1 q2 q3 q4 q5) (an (fun q6=>an (fun q7=>an (h9 q0 q1 q2 q3 q4 q5 q6 q7) (y6 q0 q1 q2 q3 q4 q5 q6 q7)) (fun q7=>an (h10 q0 q1 q2 q3 q4 q5 q6 q7) (y7 q0 q1 q2 q3 q4 q5 q6 q7))) (y8 q0 q1 q2 q3 q4 q5))) (fun q5=>an (fun q6=>an (fun q7=>an (h11 q0 q1 q2 q3 q4 q5 q6 q7) (y9 q0 q1 q2 q3 q4 q5 q6 q7)) (fun q7=>an (h12 q0 q1 q2 q3 q4 q5 q6 q7) (y10 q0 q1 q2 q3 q4 q5 q6 q7))) (y11 q0 q1 q2 q3 q4 q5))))) (fun q3=>an (h2 q0) (an (fun q4=>an (fun q5=>an (fun q6=>an (h13 q0 q1 q2 q3 q4 q5 q6) (y12 q0 q1 q2 q3 q4 q5 q6)) (y13 q0 q1 q2 q3 q4 q5)) (y14 q0 q1 q2 q3 q4)) (fun q4=>an (fun q5=>an (fun q6=>an (fun q7=>an (h14 q0 q1 q2 q3 q4 q5 q6 q7) (y15 q0 q1 q2 q3 q4 q5 q6 q7)) (y16 q0 q1 q2 q3 q4 q5 q6)) (y17 q0 q1 q2 q3 q4 q5)) (fun q5=>an (fun q6=>an (fun q7=>an (h15 q0 q1 q2 q3 q4 q5 q6 q7) (y18 q0 q1 q2 q3 q4 q5 q6 q7)) (y19 q0 q1 q2 q3 q4 q5 q6)) (y20 q0 q1 q2 q3 q4 q5)))))))))))) y21) (by kernel_rfl)
end Go.Proofs
