/- Own work. -/
import Derived.Test.YtldllpmodnbbiaaGreatDoorP07
import Derived.Shelf.Spec.SlicesInsert
import Derived.Lib.AppendZerosOnto
import Derived.Laws.NewBlocks
open Int (ofNat)
open And renaming intro->eU
open Array renaming getElem?_eq_some_iff->bC,size_append->mG
open Bool renaming true->ay,false->aA,and_eq_true->aB
open Go renaming sizeOf->wO,heap_alloc_old->wF
open Go.Act renaming eval->rM,put->vk
open Go.Addr renaming add_lit->dL
open Go.BinOp renaming shr->oW
open Go.Builtin renaming copy_->jq,firstCells->iV,zeroCells->iH,append_->dQ
open Go.Extern.SlicesOverlaps renaming overlaps->rJ
open Go.Fn renaming yield->ny
open Go.IntKind renaming i64->bD,wrap_i64->jm,u64->jM
open Go.Lib renaming wpList_append_run->jA,run_append_grow_zeros->oV
open Go.Proofs.C7 renaming OG->ig
open Go.Proofs.Tryz renaming prog->ak,underlying222->fM,mixed_->sD,func186->lZ,ntmps186->lQ,underlying3->lg,f192->vC,f185->zM,tys->lG,func196->yN,ntmps196->xH,fnsAre_->gI,entersB_->iR,f188->zN,f183->zO,f190->zQ,f187->zS,f189->zT,f147->zU,f149->zV,f157->zW,f177->zX,f178->zY,f179->zZ,f180->Aa,f182->Ac,f137->Ad,f80->qy
open Go.Sx renaming Enters->xI
open Go.Sx.BL renaming sh->aW,int->aC,nat->aZ,Um->gQ,val->jQ,get->bY
open Go.Sx.C9 renaming at_->bU,ret->aN
open Go.Sx.It renaming code->aK,inBlock->aX
open Go.Sx.Sh renaming sl->aG,Az->bF,i->aQ,agg->bG,os->fF,er->dP,v->ni,str->dN
open Go.Sx.Tree renaming leaf->aJ,node->aP,need->aH,fail->jP,must->bT
open Go.Value renaming nilIface->cZ,func->kP
open Go.World renaming shape?->xG,frozen?->wP
open Int renaming ofNat->ah,negSucc->gZ,toNat_natCast->dA
open List renaming getElem?_take->fG,mem_of_mem_drop->jI,append_assoc->iI,size_toArray->nG,takeWhile->jU,length_cons->jk,pairwise_iff_getElem->jd,range->aU,takeWhile_prefix->qm,getElem?_append_left->gY,length_nil->oM
open Nat renaming min->ou,zero_le->fH,le_refl->bM,le_succ->vY,beq->dK
open Option renaming some->aj,none->aF
noncomputable section
namespace Go.Sx
open Go.RowKit Go.Lib
section
variable{P:Program}
theorem TF(w:World)(dT sT ty elem:TypeId)(sz g o dLen dCap:Nat)(a:Addr)(sLen sCap:Nat)(cur:Array Value)(t:TypeId)(cs:List Value)
  (hu:P.underlying dT=aj (.slice elem)) (hs:(P.info? elem).map (·.size)=aj sz)
  (hg:w.heap[g]?=aj (.cells cur t (0,0))) (hn:cs.length=ou sLen dLen*sz)
  (hsrc:∀j v,cs[j]?=aj v->w.cell? (a.add j)=aj v) (hfit:o+cs.length<=cur.size) (h1:∀v∈cs,v.oneCell'=ay) :
  (jq #[dT,sT] ty #[.slice (aj ⟨g,o,aF⟩) dLen dCap,.slice (aj a) sLen sCap]).run P w =
   .ok (goInt (ou sLen dLen)) (w.setRow g (cur.toList.take o++cs++cur.toList.drop (o+cs.length)).toArray):=by
 have hl:=run_loadCells_list (P:=P) w a cs hsrc;have hst:=run_storeCells_at P g o t cs 0 cur w hg (by omega) h1;cases hq:P.info? elem with
 |none=>grind |some i=>
  simp_all [jq,run_underlying,Builtin.lenOf,iV,sizeOf,typeInfo]
end
end Go.Sx
namespace Go.Proofs
open Go Go.Sx Go.RowKit Go.Lib
theorem info116:∃(i:TypeInfo) (z:Value),ak.info? 261=aj i/\i.size=2/\i.bytes=16/\i.zero=aj z/\z.cells.size=2/\∃cs,z=.agg cs:=by
 obtain ⟨inf,z,h1,h2,h3,h4,_,h6,h7,_⟩:=((C7.ok noSpec Ei).ty 261 ⟨.struct [(0,1,aA),(1,1,aA)],2,16,[.int .i64 0,.int .i64 0]⟩ (by kernel_rfl)).info;simp_all
set_option maxHeartbeats 4000000 in
set_option maxRecDepth 100000 in
theorem anG(w:World)(g n c i vb vc:Nat)(cur:Array Value)(cs vs:List Value)(hg:w.heap[g]?=aj (.cells cur 261 (0,0)))(Ut:Array Value)(hgb:w.heap[vb]?=aj (.cells Ut 261 (0,0)))
  (hi:i<n) (hroom:n+1<=c) (hc63:c<=9223372036854775807) (hvb:vb≠g) (hcap:cur.size=c*2) (hcs:cur.toList.take (n*2)=cs) (hvs:Ut.toList.take 2=vs) (hvl:vs.length=2) (hv2:2<=Ut.size)
  (h1c:∀v∈cs,v.oneCell'=ay) (h1v:∀v∈vs,v.oneCell'=ay) :
  Calls ak 186 #[.slice (aj ⟨g,0,aF⟩) n c,.int .i64 i,.slice (aj ⟨vb,0,aF⟩) 1 vc] w fun e w'=>
   e=.returned (.slice (aj ⟨g,0,aF⟩) (n+1) c)/\∃cur',w'.heap[g]?=aj (.cells cur' 261 (0,0))/\cur'.size=c*2/\cur'.toList.take ((n+1)*2)=cs.take (i*2)++vs++cs.drop (i*2)/\w.grownBy w' (aj g):=by
 obtain ⟨inf,z,i1,i2,i3,i4,i5,_⟩:=info116;have hsz:(ak.info? 261).map (·.size)=aj 2:=by rfl
 have hse:∀w,(wO 261).run ak w=.ok 2 w:=fun w=>by rfl
 have hov:∀lb cb,(callFunc 194 #[.slice (aj ⟨vb,0,aF⟩) 1 vc,.slice (aj ⟨g,(i+1)*2,aF⟩) lb cb]).run ak w=.ok (.value (.bool aA)) w:=fun lb cb=>by
  rw[run_callFunc_extern Tryz.func194 (by kernel_rfl) (by kernel_rfl) (by kernel_rfl) (e:=rJ #[222,222] #[4]) (by kernel_rfl),
   Lib.run_overlaps_apart w 222 4 261 fM 2 hse ⟨vb,0,aF⟩ ⟨g,(i+1)*2,aF⟩ 1 vc lb cb hvb 261 261 Ut.size cur.size (by simp[xG,hgb]) (by simp[xG,hg]) (by omega) (by simp[wP,hgb]) (by simp[wP,hgb])]
  rfl
 have hw1:bD.wrap ((i:Int)+1)=(i:Int)+1:=by rw[jm];omega
 have hw2:bD.wrap ((n:Int)+1)=(n:Int)+1:=by rw[jm];omega
 have hcl:cs.length=n*2:=by grind
 have hdl:(cs.drop (i*2)).length=(n - i)*2:=by grind
 obtain ⟨R1,hR1⟩:∃R1,R1=(cur.toList.take ((i+1)*2)++cs.drop (i*2)++cur.toList.drop ((i+1)*2+(cs.drop (i*2)).length)).toArray:=⟨_,rfl⟩;have aCz:R1.size=c*2:=by grind
 obtain ⟨R2,hR2⟩:∃R2,R2=(R1.toList.take (i*2)++vs++R1.toList.drop (i*2+vs.length)).toArray:=⟨_,rfl⟩;have hcur:∀j v,cs[j]?=aj v->cur.toList[j]?=aj v:=fun j v hj=>by
  rw[<-hcs,fG] at hj;split at hj
  ·exact hj
  ·cases hj
 have hcp1:∀(W:World),W.heap[g]?=aj (.cells cur 261 (0,0))->∀ty dc sc,(jq #[222,222] ty #[.slice (aj ⟨g,(i+1)*2,aF⟩) (n - i) dc,.slice (aj ⟨g,i*2,aF⟩) (n+1 - i) sc]).run ak W=.ok (goInt ((n - i:Nat):Int)) (W.setRow g R1):=fun W hW ty dc sc=>by
  have hmin:ou (n+1 - i) (n - i)=n - i:=by grind
  have:=TF W 222 222 ty 261 2 g ((i+1)*2) (n - i) dc ⟨g,i*2,aF⟩ (n+1 - i) sc cur 261 (cs.drop (i*2)) fM hsz hW (by omega) (fun j v hj=>by
    grind [dL,cell_of_row]) (by omega) (fun v hv=>h1c v (jI hv))
  simp_all
 have hcp2:∀(W:World),W.heap[g]?=aj (.cells R1 261 (0,0))->W.heap[vb]?=aj (.cells Ut 261 (0,0))->∀ty dc,(jq #[222,222] ty #[.slice (aj ⟨g,i*2,aF⟩) (n+1 - i) dc,.slice (aj ⟨vb,0,aF⟩) 1 vc]).run ak W=.ok (goInt 1) (W.setRow g R2):=fun W hW hW2 ty dc=>by
  have hmin:ou 1 (n+1 - i)=1:=by grind
  have:=TF W 222 222 ty 261 2 g (i*2) (n+1 - i) dc ⟨vb,0,aF⟩ 1 vc R1 261 vs fM hsz hW (by omega) (fun j v hj=>by
    grind [dL,cell_of_row]) (by omega) h1v
  simp_all
 have hfin:R2.size=c*2/\R2.toList.take ((n+1)*2)=cs.take (i*2)++vs++cs.drop (i*2):=by
  have hl1:R1.toList.length=c*2:=by omega
  refine ⟨by grind,?_⟩;have ht1:R1.toList.take (i*2)=cs.take (i*2):=by
   grind
  have hd1:R1.toList.drop (i*2+2)=cs.drop (i*2)++cur.toList.drop ((n+1)*2):=by
   rw[hR1];have e1:(cur.toList.take ((i+1)*2)).length=i*2+2:=by grind
   simp only[iI];have e3:List.drop (i*2+2) (cur.toList.take ((i+1)*2)++(cs.drop (i*2)++cur.toList.drop ((i+1)*2+(cs.drop (i*2)).length)))=cs.drop (i*2)++cur.toList.drop ((i+1)*2+(cs.drop (i*2)).length):=by
    simp_all
   rw[e3,hdl];congr 2;omega
  rw[hR2,hvl,hd1,ht1];simp only[<-iI];have e2:(cs.take (i*2)++vs++cs.drop (i*2)).length=(n+1)*2:=by
   grind
  grind
 have hgl:g<w.heap.size:=(bC.1 hg).1;have mixed:ak.follows .mixedOrders=ay:=sD;have hb1:(0:Int)<=(i:Int)+1:=by omega
 have hin:i<=n:=by omega
 have htn:((i:Int)+1).toNat=i+1:=by omega
 have hb2:¬(c=i+1):=by omega
 have hb3:(i:Int)<=(n:Int)+1:=by omega
 have hb4:¬(c=i):=by omega
 clear hcs hvs h1c h1v hcur hR1 hR2;have hc2:=hcp2 (w.drew.setRow g R1) (setRow_heap w.drew g cur R1 261 (0,0) hg) (by rw[setRow_other _ _ _ _ hvb];exact hgb) 3 (c - i);go_enter lZ,lQ
 go_wp2_with (simp only[hov])
 go_region_law_o (refine step_copy_runI rfl (.tmp 73) (.tmp 76) 222 222 rfl (.slice (aj ⟨g,(i+1)*2,aF⟩) (n - i) (c - (i+1))) (.slice (aj ⟨g,i*2,aF⟩) (n+1 - i) (c - i)) (by simp[rM,vk]) (by simp[rM,vk]) (hcp1 w.drew hg 3 (c - (i+1)) (c - i)) ?_)
 go_wp2
 go_ret
 refine ⟨rfl,R2,setRow_heap _ g R1 R2 261 (0,0) (setRow_heap w.drew g cur R1 261 (0,0) hg),hfin.1,hfin.2,⟨rfl,rfl,rfl,by simp,fun k hk hne=>?_⟩⟩;have hkg:k≠g:=fun e=>hne (by rw[e]);rw[setRow_other _ _ _ _ hkg,setRow_other _ _ _ _ hkg];rfl
set_option maxHeartbeats 4000000 in
set_option maxRecDepth 100000 in
theorem at6(w:World)(v x:Value)(n vc:Nat)(xs news:List Value)(vb:Nat)(hv:w.ownsRow 0 261 2 v n xs)(hx:x=.slice (aj ⟨vb,0,aF⟩) 1 vc)(hnews:∀j u,news[j]?=aj u->w.cell? ((⟨vb,0,aF⟩:Addr).add j)=aj u)(hl:news.length=2)(h1:∀u∈news,u.oneCell'=ay)
  (h63:n+1<=maxLen) (hbytes:(n+1)*16<=140737488355328) :
  Calls ak 186 #[v,.int .i64 n,x] w fun e w'=>∃v',e=.returned v'/\w'.ownsRow 0 261 2 v' (n+1) (xs++news)/\w.grownBy w' (Ba v)/\∀b,Ba v'=aj b->Ba v=aj b\/w.heap.size<=b:=by
 obtain ⟨inf,z,i1,i2,i3,i4,i5,_⟩:=info116;obtain ⟨v',w',hr,h2,h3,h4⟩:=U0 (P:=ak) (w:=w) 222 222 261 inf z 2 16 fM i1 i4 i2 i3 i5 (by decide) v n xs hv ⟨vb,0,aF⟩ 1 vc news (by rw[hl]) hnews h1 h63 hbytes;subst hx;have hsmall:n+1<=9223372036854775807:=by omega
 have aCA:v=.slice aF 0 0/\n=0\/∃g c,v=.slice (aj ⟨g,0,aF⟩) n c/\n<=c/\c<=9223372036854775807:=by
  (rcases hv.2 with ⟨e1,e2⟩ |⟨g,c,cur,e1,_,_,e2,e3,_⟩)<;>grind [maxLen]
 clear hv hnews h1;rcases aCA with ⟨rfl,rfl⟩ |⟨g,c,rfl,hnc,hc63⟩
 ·go_enter lZ,lQ
  go_wp2_with (at_builtin;refine jA _ rfl _ _ _ _ rfl _ _ rfl rfl _ _ hr ?_)
  go_ret
  simp_all
 ·go_enter lZ,lQ
  go_wp2_with (at_builtin;refine jA _ rfl _ _ _ _ rfl _ _ rfl rfl _ _ hr ?_)
  all_goals
   go_ret
   simp_all
set_option maxHeartbeats 4000000 in
set_option maxRecDepth 100000 in
theorem ard(w:World)(g n c i vb vc:Nat)(cur:Array Value)(cs vs:List Value)(hg:w.heap[g]?=aj (.cells cur 261 (0,0)))(Ut:Array Value)(hgb:w.heap[vb]?=aj (.cells Ut 261 (0,0)))
  (hi:i<n) (hnc:n<=c) (hroom:c<n+1) (hn63:n+1<=maxLen) (hbig:(n+1)*16<=140737488355328) (hcap:cur.size=c*2) (hcs:cur.toList.take (n*2)=cs) (hvs:Ut.toList.take 2=vs) (hvl:vs.length=2)
  (h1c:∀v∈cs,v.oneCell'=ay) (h1v:∀v∈vs,v.oneCell'=ay) :
  Calls ak 186 #[.slice (aj ⟨g,0,aF⟩) n c,.int .i64 i,.slice (aj ⟨vb,0,aF⟩) 1 vc] w fun e w'=>
   ∃G cur',e=.returned (.slice (aj ⟨w.heap.size,0,aF⟩) (n+1) G)/\w'.heap[w.heap.size]?=aj (.cells cur' 261 (0,0))/\n+1<=G/\G<=maxLen/\cur'.size=G*2/\cur'.toList.take ((n+1)*2)=cs.take (i*2)++vs++cs.drop (i*2)/\w.grownBy w' (aj g):=by
 obtain ⟨inf,z,i1,i2,i3,i4,i5,zs,hz⟩:=info116;have hsz:(ak.info? 261).map (·.size)=aj 2:=by rfl
 have hse:∀w,(wO 261).run ak w=.ok 2 w:=fun w=>by rfl
 have hsmall:n+1<=9223372036854775807:=by omega
 have hw1:bD.wrap ((i:Int)+1)=(i:Int)+1:=by rw[jm];omega
 have hw2:bD.wrap ((n:Int)+1)=(n:Int)+1:=by rw[jm];omega
 have hw3:bD.wrap ((n:Int)+1 - (i:Int))=(n:Int)+1 - (i:Int):=by rw[jm];omega
 have hcl:cs.length=n*2:=by grind
 have hdl:(cs.drop (i*2)).length=(n - i)*2:=by grind
 have htl:(cs.take (i*2)).length=i*2:=by grind
 have hcur:∀j v,cs[j]?=aj v->cur.toList[j]?=aj v:=fun j v hj=>by
  rw[<-hcs,fG] at hj;split at hj
  ·exact hj
  ·cases hj
 have hgl:g<w.heap.size:=(bC.1 hg).1;have aGq:vb<w.heap.size:=(bC.1 hgb).1;have hold:(iV inf.size i (.slice (aj ⟨g,0,aF⟩) i c)).run ak w.drew=.ok (cs.take (i*2)).toArray w.drew:=by
  rw[i2];exact run_firstCells_some w.drew 2 i ⟨g,0,aF⟩ i c (cs.take (i*2)) htl (fun j v hj=>by
   rw[dL,cell_of_row w.drew g _ cur 261 (0,0) hg];grind)
 obtain ⟨G,hG⟩:∃G,G=grownCap w (n+1) c 261:=⟨_,rfl⟩;obtain ⟨ROW,hROW⟩:∃ROW:Array Value,ROW=(cs.take (i*2)).toArray++iH z.cells (n+1 - i)++iH z.cells (G - (n+1)):=⟨_,rfl⟩;have hGn:n+1<=G:=by simp_all [grownCap_ge]
 have hGm:G<=maxLen:=by simp_all [grownCap_le_maxLen]
 have hG63:G<=9223372036854775807:=by assumption
 have hrz:∀ty,(dQ #[222,3] ty #[.slice (aj ⟨g,0,aF⟩) i c,.int .i64 ((n:Int)+1 - (i:Int))]).run ak w =
   .ok (.slice (aj ⟨w.heap.size,0,aF⟩) (n+1) G) (w.drew.alloc (.cells ROW 261)):=fun ty=>by
  have h:=oV w 222 3 ty 261 inf z .i64 .i64 fM lg i1 i4 (aj ⟨g,0,aF⟩) i c (cs.take (i*2)) hold (n+1 - i) (by omega) (by omega) (by omega) (by omega) (by grind) (by rw[i3,show i+(n+1 - i)=n+1 by omega];simp_all [growslice_fits]);grind
 have hRs:ROW.size=G*2:=by
  grind [mG,nG,size_zeroCells]
 obtain ⟨R1,hR1⟩:∃R1,R1=(ROW.toList.take (i*2)++vs++ROW.toList.drop (i*2+vs.length)).toArray:=⟨_,rfl⟩;have aCz:R1.size=G*2:=by grind
 obtain ⟨R2,hR2⟩:∃R2,R2=(R1.toList.take ((i+1)*2)++cs.drop (i*2)++R1.toList.drop ((i+1)*2+(cs.drop (i*2)).length)).toArray:=⟨_,rfl⟩;obtain ⟨W1,hW1⟩:∃W1,W1=w.drew.alloc (.cells ROW 261):=⟨_,rfl⟩;rw[<-hW1] at hrz;have aza:W1.heap[w.heap.size]?=aj (.cells ROW 261 (0,0)):=by rw[hW1];exact heap_alloc_new w.drew _
 have aGr:∀k,k<w.heap.size->W1.heap[k]?=w.heap[k]?:=fun k hk=>by rw[hW1];first|exact wF w.drew _ k hk|exact heap_alloc_old w.drew _ hk
 have hcp1:(jq #[222,222] 3 #[.slice (aj ⟨w.heap.size,i*2,aF⟩) (n+1 - i) (G - i),.slice (aj ⟨vb,0,aF⟩) 1 vc]).run ak W1=.ok (goInt 1) (W1.setRow w.heap.size R1):=by
  have hmin:ou 1 (n+1 - i)=1:=by grind
  have:=TF W1 222 222 3 261 2 w.heap.size (i*2) (n+1 - i) (G - i) ⟨vb,0,aF⟩ 1 vc ROW 261 vs fM hsz aza (by omega) (fun j v hj=>by
    grind [dL,cell_of_row]) (by omega) h1v
  simp_all
 have azb:(W1.setRow w.heap.size R1).drew.heap[w.heap.size]?=aj (.cells R1 261 (0,0)):=setRow_heap W1 w.heap.size ROW R1 261 (0,0) aza;have hcp2:(jq #[222,222] 3 #[.slice (aj ⟨w.heap.size,(i+1)*2,aF⟩) (n - i) (G - (i+1)),.slice (aj ⟨g,i*2,aF⟩) (n - i) (c - i)]).run ak (W1.setRow w.heap.size R1).drew=.ok (goInt ((n - i:Nat):Int)) ((W1.setRow w.heap.size R1).drew.setRow w.heap.size R2):=by
  have hmin:ou (n - i) (n - i)=n - i:=Nat.min_self _;have:=TF (W1.setRow w.heap.size R1).drew 222 222 3 261 2 w.heap.size ((i+1)*2) (n - i) (G - (i+1)) ⟨g,i*2,aF⟩ (n - i) (c - i) R1 261 (cs.drop (i*2)) fM hsz azb (by omega) (fun j v hj=>by
    rw[dL,cell_of_row (W1.setRow w.heap.size R1).drew g _ cur 261 (0,0) (by
     show (W1.setRow w.heap.size R1).heap[g]?=_;grind [setRow_other])]
    simp_all) (by omega) (fun v hv=>h1c v (jI hv))
  simp_all
 have hfin:R2.size=G*2/\R2.toList.take ((n+1)*2)=cs.take (i*2)++vs++cs.drop (i*2):=by
  have hl1:R1.toList.length=G*2:=by omega
  refine ⟨by grind,?_⟩;grind [Array.toList_append,iI,List.take_left',List.length_append,List.take_left]
 have mixed:ak.follows .mixedOrders=ay:=sD;have hb1:(0:Int)<=(i:Int)+1:=by omega
 have hin:i<=n:=by omega
 have htn:((i:Int)+1).toNat=i+1:=by omega
 have hb2:¬(c=i+1)\/c=i+1:=by omega
 have hb3:(i:Int)<=(n:Int)+1:=by omega
 have hb4:¬(c=i):=by omega
 have hGi:¬(G=i):=by omega
 have hGim:¬(G=i+1):=by omega
 have hz1:¬((i:Int)=(n:Int)):=by omega
 have hz3:(c:Int)<(n:Int)+1:=by omega
 have hr1:=hrz 222;have hsz1:W1.heap.size=w.heap.size+1:=by rw[hW1];simp
 have hos:W1.os=w.os/\W1.tape=w.tape/\W1.output=w.output:=by rw[hW1];exact ⟨rfl,rfl,rfl⟩
 clear hcs hvs h1c h1v hcur hR1 hR2 hROW hG hold hrz hb2 hW1;go_enter lZ,lQ
 go_wp2_with (first
  |(at_builtin;refine jA _ rfl _ _ _ _ rfl _ _ rfl rfl _ _ hr1 ?_))
 go_region_law_o (refine step_copy_runI rfl (.tmp 50) (.tmp 53) 222 222 rfl (.slice (aj ⟨w.heap.size,(i+1)*2,aF⟩) (n - i) (G - (i+1))) (.slice (aj ⟨g,i*2,aF⟩) (n - i) (c - i)) (by simp[rM,vk]) (by simp[rM,vk]) hcp2 ?_)
 go_wp2
 go_ret
 refine ⟨G,R2,rfl,setRow_heap _ w.heap.size R1 R2 261 (0,0) azb,hGn,hGm,hfin.1,hfin.2,⟨hos.1,hos.2.1,hos.2.2,?_,fun k hk hne=>?_⟩⟩
 ·simp_all
 ·have hkg:k≠w.heap.size:=by omega
  rw[setRow_other _ _ _ _ hkg];show (W1.setRow w.heap.size R1).heap[k]?=_;simp_all [setRow_other]
theorem axC:ang ak 186 261 2 16:=by
 intro w v x n i xs news hv hx hne h1 h1n hi h63 hbytes;have hl:news.length=2:=by rw[hx.1]
 rcases hx.2 with ⟨_,h0⟩ |⟨vb,vc,Ut,ex,_,hgb,hvc,hvm,hvs,hvt⟩
 ·omega
 have hb2:Ba x=aj vb:=by rw[ex];rfl
 have hcell:∀j u,news[j]?=aj u->w.cell? ((⟨vb,0,aF⟩:Addr).add j)=aj u:=fun j u hj=>by
  grind [dL,cell_of_row]
 by_cases hin:i=n
 ·subst hin
  refine (at6 w v x i vc xs news vb hv ex hcell hl h1n h63 hbytes).mono fun e w' ⟨v',e1,e2,e3,e4⟩=>⟨v',e1,?_,e3,e4⟩;rw[List.take_of_length_le (by rw[hv.1];omega),List.drop_of_length_le (by rw[hv.1];omega),List.append_nil];exact e2
 rcases hv.2 with ⟨_,h0⟩ |⟨g,c,cur,ev,_,hg,hnc,hcm,hcs,hct⟩
 ·omega
 have hb:Ba v=aj g:=by rw[ev];rfl
 have hvg:vb≠g:=fun e=>hne g hb (by rw[hb2,e]);have hlen:(xs.take (i*2)++news++xs.drop (i*2)).length=(n+1)*2:=by
  grind
 have azc:Ut.toList.take 2=news:=by omega
 by_cases hroom:n+1<=c
 ·rw[hb,ev,ex]
  refine (anG w g n c i vb vc cur xs news hg Ut hgb (by omega) hroom (by assumption) hvg hcs hct azc hl (by omega) h1 h1n).mono fun e w' ⟨e1,cur',e2,e3,e4,e5⟩=>⟨_,e1,⟨hlen,.inr ⟨g,c,cur',rfl,fH _,e2,hroom,hcm,e3,e4⟩⟩,e5,fun b hb'=>.inl hb'⟩
 ·rw[hb,ev,ex]
  refine (ard w g n c i vb vc cur xs news hg Ut hgb (by omega) hnc (by omega) h63 hbytes hcs hct azc hl h1 h1n).mono fun e w' ⟨G,cur',e1,e2,e3,e4,e5,e6,e7⟩=>⟨_,e1,⟨hlen,.inr ⟨w.heap.size,G,cur',rfl,fH _,e2,e3,e4,e5,e6⟩⟩,e7,fun b hb'=>.inr (by simp_all [Ba])⟩
end Go.Proofs
namespace Go.Pl
open Go Go.Sx
structure Lm7 where
 pos:Nat->ϝ->Int->Nat
 has:Nat->ϝ->Int->Bool
 wf:Nat->ϝ->Int->Bool
end Go.Pl
namespace Go.Proofs
open Go Go.Sx Go.Pl
def Vo:List It:=[aK [0,0,1,1,1],aX 0,aK [1,1,1,1]]
def at7:List It:=aK [0,0,0,1,1,1]::Vo
def Vp(n:Nat)(p:Nat->Pr)(key i j:Int):Core:={tm:=DF 49 [(0,.sh (.sl 2 n (Am p))),(1,.sym .i64 key),(2,.fn 193 []),(8,.sym .i64 (n:Int)),(9,.sym .i64 i),(10,.sym .i64 j)],hp:=[],nx:=0,lim:=L0,tc:=[]}
theorem aCB(A:Prim)(W:Wd)(n:Nat)(p:Nat->Pr)(key i' j':Int):BD (C7 A W noSpec Aw) Dy 300 400 192 [.code []] (BH 49 [.sl 2 n (Am p),.i .i64 key,.fn 193 []] L0) [] [⟨192,Vo,Vp n p key i' j',[]⟩]=aJ (bU 0 [aW (aG 2 n (Am p)) (aG 2 n (Am p)),aC key key,aC (A.AV n) (ah n),aC (ah 0) i',aC (A.AV n) j']):=by kernel_rfl
theorem aua(A:Prim)(W:Wd)(n:Nat)(p:Nat->Pr)(key i j i' j':Int):BD (C7 A W noSpec Aw) Dy 300 400 192 at7 (Vp n p key i j) [] [⟨192,Vo,Vp n p key i' j',[]⟩]=aP (A.lt i j) (aH (A.inB (A.conv .i64 (A.bin oW jM (A.conv .u64 (A.add .i64 i j)) (ah 1))) n) (aP (A.lt (A.sub .i64 (p (A.toN (A.conv .i64 (A.bin oW jM (A.conv .u64 (A.add .i64 i j)) (ah 1))))).key key) (ah 0)) (aJ (bU 0 [aW (aG 2 n (Am p)) (aG 2 n (Am p)),aC key key,aC (ah n) (ah n),aC (A.add .i64 (A.conv .i64 (A.bin oW jM (A.conv .u64 (A.add .i64 i j)) (ah 1))) (ah 1)) i',aC j j'])) (aJ (bU 0 [aW (aG 2 n (Am p)) (aG 2 n (Am p)),aC key key,aC (ah n) (ah n),aC i i',aC (A.conv .i64 (A.bin oW jM (A.conv .u64 (A.add .i64 i j)) (ah 1))) j'])))) (aP (A.lt i (ah n)) (aH (A.inB i n) (aJ (aN (bF [aQ .i64 i,Sh.b (A.eq (A.sub .i64 (p (A.toN i)).key key) (ah 0))])))) (aJ (aN (bF [aQ .i64 i,Sh.b aA])))):=by kernel_rfl
end Go.Proofs
namespace Go.Pl
open Go Go.Sx Go.Proofs
def TG(ps:List Pr):Bool:=decide (ps.Pairwise fun a b=>a.key<b.key)&&ps.all fun p=>decide (0<=p.key/\p.key<=1000)
def ET(key:Int):Bool:=decide (0<=key/\key<=1000)
def CZ(ps:List Pr)(key:Int):Nat:=(ps.takeWhile fun p=>decide (p.key<key)).length
def EI(ps:List Pr)(key:Int):Bool:=ps.any fun p=>p.key==key
theorem ak3:∀{ps:List Pr} {key:Int} {k:Nat},k<=ps.length->(∀t (h:t<ps.length),t<k->ps[t].key<key)->(∀t (h:t<ps.length),k<=t->key<=ps[t].key)->CZ ps key=k
 |[],key,k,hk,_,_=>by simp at hk;subst hk;rfl |a::ps,key,0,_,_,h2=>by
  have:=h2 0 (by simp) (bM _);grind [decide,decide_eq_false,CZ,jU]
 |a::ps,key,k+1,hk,h1,h2=>by
  have ha:=h1 0 (by simp) (by omega);simp only[List.getElem_cons_zero] at ha;have hd:decide (a.key<key)=ay:=ϱ ha;have ih:=ak3 (ps:=ps) (key:=key) (k:=k) (by grind) (fun t ht hlt=>h1 (t+1) (by simp;omega) (by omega)) (fun t ht hle=>h2 (t+1) (by simp;omega) (by omega));simp_all [CZ,jU,jk]
theorem ak4{ps:List Pr}{key:Int}{k:Nat}(hs:ps.Pairwise fun a b=>a.key<b.key)(h1:∀t (h:t<ps.length),t<k->ps[t].key<key)(h2:∀t (h:t<ps.length),k<=t->key<=ps[t].key):
  EI ps key=ay↔∃h:k<ps.length,ps[k].key=key:=by
 unfold EI;rw[List.any_eq_true];constructor
 ·rintro ⟨x,hx,he⟩
  obtain ⟨t,ht,rfl⟩:=List.getElem_of_mem hx;grind [jd]
 grind
theorem F7{ps:List Pr}(h:TG ps=ay):ps.Pairwise fun a b=>a.key<b.key:=by
 simp_all [TG,aB,ϑ]
theorem aub{ps:List Pr}(h:TG ps=ay){t:Nat}(ht:t<ps.length):0<=ps[t].key/\ps[t].key<=1000:=by
 simp_all [TG,aB,List.all_eq_true,List.getElem_mem,ϑ]
theorem axD{i j:Nat}(h:i+j<=1000000):Ak.conv .i64 (Ak.bin .shr .u64 (Ak.conv .u64 (Ak.add .i64 i j)) (ah 1))=(((i+j) / 2:Nat):Int):=by
 have e1:Ak.add .i64 i j=((i+j:Nat):Int):=by grind [Ef,CU]
 rw[e1];have e2:Ak.conv .u64 ((i+j:Nat):Int)=((i+j:Nat):Int):=by
  show jM.wrap _=_;rw[IntKind.wrap_u64];omega
 rw[e2];have e3:Ak.bin .shr .u64 ((i+j:Nat):Int) (ah 1)=(((i+j) / 2:Nat):Int):=by
  show Int.fdiv ((i+j:Nat):Int) (2^(min 1 64))=_;grind
 rw[e3];show bD.wrap _=_;grind [CU]
end Go.Pl
namespace Go.Proofs
open Go Go.Sx Go.Pl
def auc:ϵ
 |[.sl 2 n g,.i .i64 key,.fn 193 []]=>.need (okB Pr n g) (.need (decide (n<=100000)) (.need (TG (lst Pr n g)) (.need (ET key) (.leaf (.Az [.i .i64 (CZ (lst Pr n g) key),.b (EI (lst Pr n g) key)]))))) |_=>.fail
theorem aeb{H0:Mem}{w0:World}{n:Nat}{p:Nat->Pr}{key:Int}{φ:Sh->Prop}(hn:n<=100000)(hs:TG ((aU n).map p)=ay)(hk:ET key=ay)
  (hφ:φ (.Az [.i .i64 (CZ ((aU n).map p) key),.b (EI ((aU n).map p) key)])) :
  ∀m i j,j - i<=m->i<=j->j<=n->(∀t,t<i->(p t).key<key)->(∀t,t<n->j<=t->key<=(p t).key)->AB ak (C7 Ak W7 noSpec Aw) (K0 H0 w0) 192 Vo (Vp n p key i j) [] emp φ
 |m,i,j,hm,hij,hjn,h1,h2=>by
  have hkey:0<=key/\key<=1000:=ϑ hk;have hp:∀t,t<n->0<=(p t).key/\(p t).key<=1000:=fun t ht=>by
   have:=aub hs (t:=t) (by grind);simp_all
  have hso:=F7 hs;have hlt:∀a b,a<b->b<n->(p a).key<(p b).key:=fun a b hab hb=>by
   grind [jd]
  have sub_eq:∀t,t<n->Ak.sub .i64 (p t).key key=(p t).key - key:=fun t ht=>by
   grind [OV,CU]
  have hfin:i=j->(i<n->(p i).key=key->φ (.Az [.i .i64 i,.b ay]))/\((i<n->(p i).key≠key)->φ (.Az [.i .i64 i,.b aA])):=fun e=>by
   subst e;have hl:((aU n).map p).length=n:=by simp
   grind [aU,ak3,ak4,EI]
  have hmid:=axD (i:=i) (j:=j) (by omega);refine D6 vC at7 ?_;by_cases hlt2:i<j
  ·by_cases hcmp:(p ((i+j) / 2)).key<key
   ·refine CW EP (Ej _) 300 400 [⟨192,Vo,Vp n p key ((i+j) / 2+1:Nat) j,[]⟩] ?_
    rw[show EP=Dy from rfl,aua Ak W7 n p key i j ((i+j) / 2+1:Nat) j,hmid];refine ⟨fun _=>⟨by simp[AX];omega,fun _=>⟨⟨rfl,rfl,rfl,?_,rfl,ϖ⟩,_,rfl,?_⟩,fun h=>?_⟩,fun h=>?_⟩
    ·grind [BL.ok,Ef,I7,CU]
    ·match m,hm with
     |0,hm=>omega |m+1,hm=>
      refine aeb hn hs hk hφ m ((i+j) / 2+1) j (by omega) (by omega) hjn (fun t ht=>?_) h2;by_cases e:t=(i+j) / 2
      ·simp_all
      ·have:=hlt t ((i+j) / 2) (by omega) (by omega);omega
    ·have e:Ak.toN (((i+j) / 2:Nat):Int)=(i+j) / 2:=rfl
     grind [Ar]
    simp_all [Ar]
   ·refine CW EP (Ej _) 300 400 [⟨192,Vo,Vp n p key i ((i+j) / 2:Nat),[]⟩] ?_
    rw[show EP=Dy from rfl,aua Ak W7 n p key i j i ((i+j) / 2:Nat),hmid];refine ⟨fun _=>⟨by simp[AX];omega,fun h=>?_,fun _=>⟨⟨rfl,rfl,rfl,rfl,rfl,ϖ⟩,_,rfl,?_⟩⟩,fun h=>?_⟩
    ·have e:Ak.toN (((i+j) / 2:Nat):Int)=(i+j) / 2:=rfl
     grind [Ar]
    ·match m,hm with
     |0,hm=>omega |m+1,hm=>
      refine aeb hn hs hk hφ m i ((i+j) / 2) (by omega) (by omega) (by omega) h1 (fun t ht hle=>?_);by_cases e:t=(i+j) / 2
      ·grind
      ·have:=hlt ((i+j) / 2) t (by omega) ht;omega
    simp_all [Ar]
  ·have e:i=j:=by omega
   obtain ⟨f1,f2⟩:=hfin e;refine CW EP (Ej _) 300 400 [⟨192,Vo,Vp n p key i j,[]⟩] ?_;rw[show EP=Dy from rfl,aua Ak W7 n p key i j i j];refine ⟨fun h=>?_,fun _=>⟨fun h=>⟨?_,?_⟩,fun h=>?_⟩⟩
   ·simp_all [Ar]
   ·simp_all [Ar,AX]
   ·have hi:i<n:=by grind
    show φ _;have e1:Ak.toN (i:Int)=i:=rfl;grind [AQ]
   ·exact f2 fun hi=>by grind [Ar]
theorem aCC:AO ak (AZ W7) 192 auc:=by
 refine JA (C7 Ak W7 noSpec Aw) vC fun H w Bl args φ hrep h=>?_
 unfold auc at h;split at h
 ·rename_i n g key
  obtain ⟨h1,h2,h3,h4,hφ⟩:=h;match args,hrep with
  |[v,u1,u2],⟨hv,r1,r2,_⟩=>
   refine ⟨[.sl 2 n (Am (Ap (α:=Pr) g)),.i .i64 key,.fn 193 []],⟨CY hv h1,r1,r2,ϖ⟩,L0,?_⟩;have e:lst Pr n g=(aU n).map (Ap g):=rfl;rw[e] at h3 hφ;generalize Ap (α:=Pr) g=p at *;have h2:=ϑ h2;have hn:vC.ntmps=49:=by kernel_rfl
   refine CW EP (Ej _) 300 400 [⟨192,Vo,Vp n p key (0:Nat) n,[]⟩] ?_;rw[show EP=Dy from rfl,hn,aCB Ak W7 n p key (0:Nat) n];exact ⟨⟨rfl,rfl,rfl,rfl,rfl,ϖ⟩,_,rfl,aeb h2 h3 h4 hφ n 0 n (by omega) (fH _) (bM _) (fun t ht=>by omega) (fun t ht hle=>by omega)⟩
 ·exact h.elim
end Go.Proofs
namespace Go.Pl
open Go Go.Sx
def Cj(n:Nat)(g:ϝ)(key:Int):Int:=(CZ (lst Pr n g) key:Int)
def Iq(n:Nat)(g:ϝ)(key:Int):Bool:=EI (lst Pr n g) key
def IW(n:Nat)(g:ϝ):Bool:=okB Pr n g&&decide (n<=100000)&&TG (lst Pr n g)
def RU(n:Nat)(g:ϝ)(key:Int):Int:=if Iq n g key=ay then (Ap (α:=Pr) g (CZ (lst Pr n g) key)).val else 0
def Uu(n:Nat)(g:ϝ)(key:Int):Int:=if Iq n g key=ay then 3 else 2
def Qu(n m:Nat):Nat:=n+m
def ag4(g:ϝ)(n:Nat)(h:ϝ):ϝ:=Ak.snoc g n h
end Go.Pl
namespace Go.Proofs
open Go Go.Sx Go.Pl
def anH:ϵ
 |[.sl 2 n g,.i .i64 key,.fn 193 []]=>.need (IW n g) (.need (ET key) (.leaf (.Az [.i .i64 (Cj n g key),.b (Iq n g key)]))) |_=>.fail
def Vq:ϕ
 |192=>aj anH |_=>aF
def apq:ϵ
 |[.agg [.i .i64 _,.i .i64 _,s2,s3],.i .i64 key]=>match Dj 1 s2,Dj 2 s3 with
  |some _,aj (n,g)=>.need (IW n g) (.need (ET key) (.leaf (.Az [.i .i64 (Cj n g key),.b (Iq n g key)]))) |_,_=>.fail
 |_=>.fail
def NC:ϕ
 |185=>aj apq |186=>aj (fun _=>.fail) |_=>aF
def aud:ϵ
 |[.agg [.i .i64 _,.i .i64 _,s2,s3],.i .i64 key]=>match Dj 1 s2,Dj 2 s3 with
  |some _,aj (n,g)=>.need (IW n g) (.need (ET key) (.leaf (.Az [.i .i64 (Uu n g key),.i .i64 (RU n g key)]))) |_,_=>.fail
 |_=>.fail
def Vr:ϕ
 |196=>aj (fun _=>.fail) |_=>aF
def aue:ϵ
 |[.sl 1 2 g]=>match g 0,g 1 with
  |[.sl 2 n g1],[.sl 2 m g2]=>.need (Cc (Qu n m) 16) (.leaf (.sl 2 (Qu n m) (ag4 g1 n g2))) |_,_=>.fail
 |_=>.fail
def Gh:ϕ
 |185=>aj apq |188=>aj aud |190=>aj aue |_=>aF
theorem aCD(A:Prim)(W:Wd)(x y:Int)(a b:Nat)(h:ϝ)(p:Nat->Pr)(key:Int):BD (C7 A W Vq Aw) Dy 300 400 185 [.code []] (BH 12 [.agg [.i .i64 x,.i .i64 y,.sl 1 a h,.sl 2 b (Am p)],.i .i64 key] L0) [] []=aH (IW b (Am p)) (aH (ET key) (aJ (aN (bF [aQ .i64 (Cj b (Am p) key),Sh.b (Iq b (Am p) key)])))):=by kernel_rfl
theorem a105(A:Prim)(W:Wd)(x y:Int)(a b:Nat)(h:ϝ)(p:Nat->Pr)(key:Int):BD (C7 A W NC Aw) Dy 300 400 188 [.code []] (BH 21 [.agg [.i .i64 x,.i .i64 y,.sl 1 a h,.sl 2 b (Am p)],.i .i64 key] L0) [] []=aH (IW b (Am p)) (aH (ET key) (aP (Iq b (Am p) key) (aH (A.inB (Cj b (Am p) key) b) (aJ (aN (bF [aQ .i64 (ah 3),aQ .i64 (p (A.toN (Cj b (Am p) key))).val])))) (aJ (aN (bF [aQ .i64 (ah 2),aQ .i64 (ah 0)]))))):=by kernel_rfl
theorem aCE(A:Prim)(W:Wd)(x y:Int)(a b:Nat)(h:ϝ)(p:Nat->Pr)(key v:Int):BD (C7 A W Gh Aw) Dy 300 400 187 [.code []] (BH 20 [.agg [.i .i64 x,.i .i64 y,.sl 1 a h,.sl 2 b (Am p)],.i .i64 key,.i .i64 v] L0) [] []=aH (IW b (Am p)) (aH (ET key) (aJ (aN (bF [bG [aQ .i64 x,aQ .i64 y,aG 1 a h,aG 2 b (Am p)],aQ .i64 (Uu b (Am p) key),aQ .i64 (RU b (Am p) key)])))):=by kernel_rfl
theorem aCF(A:Prim)(W:Wd)(x y:Int)(a b:Nat)(h:ϝ)(p:Nat->Pr)(key v:Int):BD (C7i A W NC Aw) Dy 300 400 183 [.code []] (BH 38 [.agg [.i .i64 x,.i .i64 y,.sl 1 a h,.sl 2 b (Am p)],.i .i64 key,.i .i64 v] L0) [] []=aP (A.leN b 0) ((aH (IW 0 fun _=>[]) (aH (ET key) (aP (Iq 0 (fun _=>[]) key) jP (aH (A.upTo (Cj 0 (fun _=>[]) key) 0) (aH (A.room (A.addN 0 1) 16) (aJ (aN (bF [bG [aQ .i64 x,aQ .i64 y,aG 1 a h,fF 261 2 (A.addN 0 1) (A.ins (fun _=>[]) (A.toN (Cj 0 (fun _=>[]) key)) [aQ .i64 key,aQ .i64 v])],aQ .i64 (ah 1),aQ .i64 (ah 0)])))))))).both (aH (A.room (A.addN 0 b) 16) (aH (IW (A.addN 0 b) (A.snoc (Bh []) 0 (Am p))) (aH (ET key) (aP (Iq (A.addN 0 b) (A.snoc (Bh []) 0 (Am p)) key) (aH (A.inB (Cj (A.addN 0 b) (A.snoc (Bh []) 0 (Am p)) key) (A.addN 0 b)) (aJ (aN (bF [bG [aQ .i64 x,aQ .i64 y,aG 1 a h,fF 261 2 (A.addN 0 b) (A.upd (A.snoc (Bh []) 0 (Am p)) (A.toN (Cj (A.addN 0 b) (A.snoc (Bh []) 0 (Am p)) key)) 1 [aQ .i64 v])],aQ .i64 (ah 1),aQ .i64 (ah 0)])))) (aH (A.upTo (Cj (A.addN 0 b) (A.snoc (Bh []) 0 (Am p)) key) (A.addN 0 b)) (aH (A.room (A.addN (A.addN 0 b) 1) 16) (aJ (aN (bF [bG [aQ .i64 x,aQ .i64 y,aG 1 a h,fF 261 2 (A.addN (A.addN 0 b) 1) (A.ins (A.snoc (Bh []) 0 (Am p)) (A.toN (Cj (A.addN 0 b) (A.snoc (Bh []) 0 (Am p)) key)) [aQ .i64 key,aQ .i64 v])],aQ .i64 (ah 1),aQ .i64 (ah 0)])))))))))) (aH (A.room (A.addN 0 b) 16) (aH (IW (A.addN 0 b) (A.snoc (Bh []) 0 (Am p))) (aH (ET key) (aP (Iq (A.addN 0 b) (A.snoc (Bh []) 0 (Am p)) key) (aH (A.inB (Cj (A.addN 0 b) (A.snoc (Bh []) 0 (Am p)) key) (A.addN 0 b)) (aJ (aN (bF [bG [aQ .i64 x,aQ .i64 y,aG 1 a h,fF 261 2 (A.addN 0 b) (A.upd (A.snoc (Bh []) 0 (Am p)) (A.toN (Cj (A.addN 0 b) (A.snoc (Bh []) 0 (Am p)) key)) 1 [aQ .i64 v])],aQ .i64 (ah 1),aQ .i64 (ah 0)])))) (aH (A.upTo (Cj (A.addN 0 b) (A.snoc (Bh []) 0 (Am p)) key) (A.addN 0 b)) (aH (A.room (A.addN (A.addN 0 b) 1) 16) (aJ (aN (bF [bG [aQ .i64 x,aQ .i64 y,aG 1 a h,fF 261 2 (A.addN (A.addN 0 b) 1) (A.ins (A.snoc (Bh []) 0 (Am p)) (A.toN (Cj (A.addN 0 b) (A.snoc (Bh []) 0 (Am p)) key)) [aQ .i64 key,aQ .i64 v])],aQ .i64 (ah 1),aQ .i64 (ah 0)]))))))))):=by kernel_rfl
theorem a107(A:Prim)(W:Wd)(n m:Nat)(g1 g2:ϝ):BD (C7i A W Vr Ei) Dy 300 400 190 [.code []] (BH 36 [.sl 1 2 (Bh [[.sl 2 n g1],[.sl 2 m g2]])] L0) [] []=aP (A.lt (ah 0) (A.AV 2)) (aH (A.inB (ah 0) 2) (aP (A.lt (A.add .i64 (ah 0) (A.AV n)) (ah 0)) jP (aP (A.lt (ah 1) (A.AV 2)) (aH (A.inB (ah 1) 2) (aP (A.lt (A.add .i64 (A.add .i64 (ah 0) (A.AV n)) (A.AV m)) (ah 0)) jP (aP (A.lt (ah 2) (A.AV 2)) (aH (A.inB (ah 2) 2) jP) (aH (A.le (ah 0) (A.add .i64 (A.add .i64 (ah 0) (A.AV n)) (A.AV m))) (aH (A.room (A.toN (A.add .i64 (A.add .i64 (ah 0) (A.AV n)) (A.AV m))) 16) (aP (A.lt (ah 0) (A.AV 2)) (aH (A.inB (ah 0) 2) (aH (A.room (A.addN 0 n) 16) (aP (A.lt (ah 1) (A.AV 2)) (aH (A.inB (ah 1) 2) (aH (A.room (A.addN (A.addN 0 n) m) 16) (aP (A.lt (ah 2) (A.AV 2)) (aH (A.inB (ah 2) 2) jP) (aJ (aN (fF 261 2 (A.addN (A.addN 0 n) m) (A.snoc (A.snoc (fun _=>[]) 0 g1) (A.addN 0 n) g2))))))) (aJ (aN (fF 261 2 (A.addN 0 n) (A.snoc (fun _=>[]) 0 g1))))))) (aJ (aN (fF 261 2 0 fun _=>[]))))))))) (aH (A.le (ah 0) (A.add .i64 (ah 0) (A.AV n))) (aH (A.room (A.toN (A.add .i64 (ah 0) (A.AV n))) 16) (aP (A.lt (ah 0) (A.AV 2)) (aH (A.inB (ah 0) 2) (aH (A.room (A.addN 0 n) 16) (aP (A.lt (ah 1) (A.AV 2)) (aH (A.inB (ah 1) 2) (aH (A.room (A.addN (A.addN 0 n) m) 16) (aP (A.lt (ah 2) (A.AV 2)) (aH (A.inB (ah 2) 2) jP) (aJ (aN (fF 261 2 (A.addN (A.addN 0 n) m) (A.snoc (A.snoc (fun _=>[]) 0 g1) (A.addN 0 n) g2))))))) (aJ (aN (fF 261 2 (A.addN 0 n) (A.snoc (fun _=>[]) 0 g1))))))) (aJ (aN (fF 261 2 0 fun _=>[]))))))))) (aH (A.le (ah 0) (ah 0)) (aH (A.room 0 16) (aP (A.lt (ah 0) (A.AV 2)) (aH (A.inB (ah 0) 2) (aH (A.room (A.addN 0 n) 16) (aP (A.lt (ah 1) (A.AV 2)) (aH (A.inB (ah 1) 2) (aH (A.room (A.addN (A.addN 0 n) m) 16) (aP (A.lt (ah 2) (A.AV 2)) (aH (A.inB (ah 2) 2) jP) (aJ (aN (fF 261 2 (A.addN (A.addN 0 n) m) (A.snoc (A.snoc (fun _=>[]) 0 g1) (A.addN 0 n) g2))))))) (aJ (aN (fF 261 2 (A.addN 0 n) (A.snoc (fun _=>[]) 0 g1))))))) (aJ (aN (fF 261 2 0 fun _=>[])))))):=by kernel_rfl
def Vs(A:Prim)(W:Wd)(x y:Int)(a b:Nat)(h:ϝ)(p:Nat->Pr)(key:Int):List BL:=[aC x x,aC y y,aW (aG 1 a h) (aG 1 a h),aW (aG 2 b (Am p)) (aG 2 b (Am p)),aC key key,aC (Uu b (Am p) key) (Uu b (Am p) key),aC (RU b (Am p) key) (RU b (Am p) key),aC (Cj b (Am p) key) (Cj b (Am p) key),BL.bool (Iq b (Am p) key) (Iq b (Am p) key),aC x x,aC y y,aW (aG 1 a h) (aG 1 a h),aW (aG 2 (Qu (A.toN (Cj b (Am p) key)) (A.E5 b (A.toN (A.add .i64 (Cj b (Am p) key) (ah 1))))) (ag4 (Am p) (A.toN (Cj b (Am p) key)) fun (j:Nat)=>Am p ((C7 A W Gh Aw).A.addN ((C7 A W Gh Aw).A.toN ((C7 A W Gh Aw).A.add .i64 (Cj b (Am p) key) 1)) j))) (aG 2 (Qu (A.toN (Cj b (Am p) key)) (A.E5 b (A.toN (A.add .i64 (Cj b (Am p) key) (ah 1))))) (ag4 (Am p) (A.toN (Cj b (Am p) key)) fun (j:Nat)=>Am p ((C7 A W Gh Aw).A.addN ((C7 A W Gh Aw).A.toN ((C7 A W Gh Aw).A.add .i64 (Cj b (Am p) key) 1)) j))),aZ 2 2,gQ (Bh [[aG 2 (A.toN (Cj b (Am p) key)) (Am p)],[aG 2 (A.E5 b (A.toN (A.add .i64 (Cj b (Am p) key) (ah 1)))) fun (j:Nat)=>Am p (A.addN (A.toN (A.add .i64 (Cj b (Am p) key) (ah 1))) j)]]) (Bh [[aG 2 (A.toN (Cj b (Am p) key)) (Am p)],[aG 2 (A.E5 b (A.toN (A.add .i64 (Cj b (Am p) key) (ah 1)))) fun (j:Nat)=>Am p (A.addN (A.toN (A.add .i64 (Cj b (Am p) key) (ah 1))) j)]])]
theorem aCG(A:Prim)(W:Wd)(x y:Int)(a b:Nat)(h:ϝ)(p:Nat->Pr)(key v:Int):BD (C7 A W Gh Aw) Dy 600 800 189 [.code []] (BH 41 [.agg [.i .i64 x,.i .i64 y,.sl 1 a h,.sl 2 b (Am p)],.i .i64 key,.i .i64 v] L0) [] []=aH (IW b (Am p)) (aH (ET key) (aH (IW b (Am p)) (aH (ET key) (aP (Iq b (Am p) key) (aH (A.upTo (Cj b (Am p) key) b) (aH (A.upTo (A.add .i64 (Cj b (Am p) key) (ah 1)) b) (aH (Cc (Qu (A.toN (Cj b (Am p) key)) (A.E5 b (A.toN (A.add .i64 (Cj b (Am p) key) (ah 1))))) 16) (aH (A.upTo (Cj b (Am p) key) b) (aH (A.upTo (A.add .i64 (Cj b (Am p) key) (ah 1)) b) (aH (Cc (Qu (A.toN (Cj b (Am p) key)) (A.E5 b (A.toN (A.add .i64 (Cj b (Am p) key) (ah 1))))) 16) (aH (A.upTo (A.add .i64 (Cj b (Am p) key) (ah 1)) b) (aH (A.upTo (Cj b (Am p) key) b) (aH (Cc (Qu (A.toN (Cj b (Am p) key)) (A.E5 b (A.toN (A.add .i64 (Cj b (Am p) key) (ah 1))))) 16) (bT (Vs A W x y a b h p key) (bT (Vs A W x y a b h p key) (aH (A.upTo (Cj b (Am p) key) b) (aH (A.upTo (A.add .i64 (Cj b (Am p) key) (ah 1)) b) (aH (Cc (Qu (A.toN (Cj b (Am p) key)) (A.E5 b (A.toN (A.add .i64 (Cj b (Am p) key) (ah 1))))) 16) (aH (A.upTo (A.add .i64 (Cj b (Am p) key) (ah 1)) b) (aH (A.upTo (Cj b (Am p) key) b) (aH (Cc (Qu (A.toN (Cj b (Am p) key)) (A.E5 b (A.toN (A.add .i64 (Cj b (Am p) key) (ah 1))))) 16) (bT (Vs A W x y a b h p key) (aH (A.upTo (A.add .i64 (Cj b (Am p) key) (ah 1)) b) (aH (A.upTo (Cj b (Am p) key) b) (aH (Cc (Qu (A.toN (Cj b (Am p) key)) (A.E5 b (A.toN (A.add .i64 (Cj b (Am p) key) (ah 1))))) 16) (bT (Vs A W x y a b h p key) (bT (Vs A W x y a b h p key) (aJ (aN (bF [bG [aQ .i64 x,aQ .i64 y,aG 1 a h,aG 2 (Qu (A.toN (Cj b (Am p) key)) (A.E5 b (A.toN (A.add .i64 (Cj b (Am p) key) (ah 1))))) (ag4 (Am p) (A.toN (Cj b (Am p) key)) fun (j:Nat)=>Am p ((C7 A W Gh Aw).A.addN ((C7 A W Gh Aw).A.toN ((C7 A W Gh Aw).A.add .i64 (Cj b (Am p) key) 1)) j))],aQ .i64 (Uu b (Am p) key),aQ .i64 (RU b (Am p) key)])))))))))))))))))))))))))) (aJ (aN (bF [bG [aQ .i64 x,aQ .i64 y,aG 1 a h,aG 2 b (Am p)],aQ .i64 (Uu b (Am p) key),aQ .i64 (RU b (Am p) key)]))))))):=by kernel_rfl
end Go.Proofs
namespace Go.Pl
open Go Go.Sx Go.Proofs
def FU(ps:List Pr)(key v:Int):List Pr:=if EI ps key=ay then ps.set (CZ ps key) ⟨key,v⟩ else ps.take (CZ ps key)++⟨key,v⟩::ps.drop (CZ ps key)
def GU(ps:List Pr)(key:Int):List Pr:=if EI ps key=ay then ps.take (CZ ps key)++ps.drop (CZ ps key+1) else ps
def Lc(ps:List Pr)(key:Int):Int:=if EI ps key=ay then (nth ps (CZ ps key)).val else 0
def L8(ps:List Pr)(key:Int):Int:=if EI ps key=ay then 3 else 2
theorem Vt(ps:List Pr)(key:Int):CZ ps key<=ps.length:=by grind [CZ,qm]
theorem apr{α:Type}{p:α->Bool}{x:α}:∀{l:List α},x∈l.takeWhile p->p x=ay
 |[],h=>by simp at h |a::l,h=>by
  cases ha:p a with
  |false=>simp_all |true=>
   simp only[jU,ha,List.mem_cons] at h;rcases h with rfl|h
   ·exact ha
   ·exact apr h
theorem ak5(ps:List Pr)(key:Int):∀t (h:t<ps.length),t<CZ ps key->ps[t].key<key:=by
 intro t h ht;have h2:(ps.takeWhile fun p=>decide (p.key<key))[t]?=ps[t]?:=by
  have:=qm (p:=fun p:Pr=>decide (p.key<key)) (l:=ps);obtain ⟨r,hr⟩:=this;conv=>rhs;rw[<-hr]
  rw[gY ht]
 have h3:ps[t]∈ps.takeWhile fun p=>decide (p.key<key):=by
  grind
 grind [apr]
theorem ak6{ps:List Pr}{key:Int}(hs:ps.Pairwise fun a b=>a.key<b.key):∀t (h:t<ps.length),CZ ps key<=t->key<=ps[t].key:=by
 intro t h ht;have hk:CZ ps key<ps.length:=by omega
 have h0:¬ps[CZ ps key].key<key:=by
  intro hlt;have:CZ ps key<(ps.takeWhile fun p=>decide (p.key<key)).length:=by
   have key2:∀(l:List Pr),(h:(l.takeWhile fun p=>decide (p.key<key)).length<l.length)->¬(l[(l.takeWhile fun p=>decide (p.key<key)).length].key<key):=by
    intro l;induction l with
    |nil=>simp |cons a l ih=>
     grind [decide,ϱ,jU,jk,decide_eq_false,oM]
   exact (key2 ps hk hlt).elim
  simp_all [CZ]
 grind [CZ,jd]
theorem RV{ps:List Pr}{key:Int}(hs:ps.Pairwise fun a b=>a.key<b.key)(h:EI ps key=ay):∃h:CZ ps key<ps.length,ps[CZ ps key].key=key:=(ak4 hs (ak5 ps key) (ak6 hs)).1 h
theorem ak7{α:Type}[Row α]{l:List α}{j:Nat}(h:j<l.length):nth l j=l[j]:=by simp[nth,h]
theorem auf{α:Type}[Row α]{l:List α}{k j:Nat}{a:α}(_hk:k<l.length)(hj:j<l.length):nth (l.set k a) j=if j=k then a else nth l j:=by
 grind [ak7]
theorem aug{α:Type}[Row α]{l:List α}{k j:Nat}{a:α}(hk:k<=l.length)(hj:j<l.length+1):nth (l.take k++a::l.drop k) j=if j<k then nth l j else if j=k then a else nth l (j - 1):=by
 have hlen:(l.take k++a::l.drop k).length=l.length+1:=by simp;omega
 have ht:(l.take k).length=k:=by simp;omega
 unfold nth;grind
theorem auh{α:Type}[Row α]{l:List α}{k j:Nat}(hk:k<l.length)(hj:j<l.length - 1):nth (l.take k++l.drop (k+1)) j=if j<k then nth l j else nth l (j+1):=by
 have ht:(l.take k).length=k:=by simp;omega
 unfold nth;grind
theorem aiA{ps:List Pr}{key v:Int}(h:EI ps key=aA):FU ps key v=ps.take (CZ ps key)++⟨key,v⟩::ps.drop (CZ ps key):=if_neg (by rw[h];simp)
theorem aiB{ps:List Pr}{key v:Int}(h:EI ps key=ay):FU ps key v=ps.set (CZ ps key) ⟨key,v⟩:=if_pos h
theorem aiC{ps:List Pr}{key:Int}(h:EI ps key=aA):GU ps key=ps:=if_neg (by rw[h];simp)
theorem aiD{ps:List Pr}{key:Int}(h:EI ps key=ay):GU ps key=ps.take (CZ ps key)++ps.drop (CZ ps key+1):=if_pos h
theorem aec{ps:List Pr}{key v:Int}:(FU ps key v).length=if EI ps key=ay then ps.length else ps.length+1:=by
 grind [Vt,FU]
theorem ak8{ps:List Pr}{key:Int}(hs:TG ps=ay):(GU ps key).length=if EI ps key=ay then ps.length - 1 else ps.length:=by
 have:=Vt ps key;unfold GU;split
 ·rename_i h
  obtain ⟨h1,_⟩:=RV (F7 hs) h;simp;omega
 ·rfl
theorem aui{n:Nat}{g:ϝ}{key:Int}(hs:TG (lst Pr n g)=ay):RU n g key=Lc (lst Pr n g) key:=by
 unfold RU Lc Iq;split
 ·rename_i h
  obtain ⟨h1,_⟩:=RV (F7 hs) h;rw[YZ (by simpa using h1)]
 ·rfl
theorem Jq{n:Nat}{g:ϝ}:IW n g=ay↔okB Pr n g=ay/\n<=100000/\TG (lst Pr n g)=ay:=by
 grind [IW]
end Go.Pl
namespace Go.Proofs
open Go Go.Sx Go.Pl Go.Lib
theorem aAc:AO ak (AZ W7) 192 anH:=aCC.mono fun H Bl args φ hr h=>by
 unfold anH at h;split at h
 ·rename_i n g key
  obtain ⟨h1,h2,hφ⟩:=h;obtain ⟨q1,q2,q3⟩:=Jq.1 h1;simp only[auc];exact ⟨q1,ϱ q2,q3,h2,hφ⟩
 ·exact h.elim
theorem aAd:∀g F,Vq g=aj F->AO ak (AZ W7) g F:=fun g F h=>by
 grind [Vq,aAc]
theorem axE(stop:Nat->List Nat->Bool):BJ ak (C7 Ak W7 Vq stop):=ig aAd fun g h=>by
 unfold Vq at h;split at h;all_goals first|(cases h;done) |kernel_rfl
theorem Vu{H:Mem}{x y:Int}{s2 s3:Sh}{n b:Nat}{g l:ϝ}{v:Value}(hs2:Dj 1 s2=aj (n,g))(hs:Dj 2 s3=aj (b,l))(hw:okB Pr b l=ay)(r:Rep H (.agg [.i .i64 x,.i .i64 y,s2,s3]) v):
  Rep H (.agg [.i .i64 x,.i .i64 y,.sl 1 n g,.sl 2 b (Am (Ap (α:=Pr) l))]) v:=HY r (fun _ hu=>Bz hs2 hu) fun _ hu=>CY (Bz hs hu) hw
theorem Vx{b:Nat}{l:ϝ}(h:IW b l=ay):IW b (Am (Ap (α:=Pr) l))=ay/\∀key,Iq b (Am (Ap (α:=Pr) l)) key=Iq b l key/\Cj b (Am (Ap (α:=Pr) l)) key=Cj b l key:=by
 have e:lst Pr b (Am (Ap (α:=Pr) l))=lst Pr b l:=by rfl
 simp_all [Jq,Cb,Iq,Cj]
theorem azd:AO ak (AZ W7) 185 apq:=by
 refine CV (axE Aw) 300 400 L0 zM fun H w Bl args φ hrep h=>?_
 have hn:zM.ntmps=12:=by kernel_rfl
 unfold apq at h;split at h
 ·rename_i x y s2 s3 key
  split at h
  ·rename_i z b l hs2 hs
   obtain ⟨a,hh⟩:=z;obtain ⟨h1,h2,hφ⟩:=h;match args,hrep with
   |[v,u1],⟨hv,r1,_⟩=>
    obtain ⟨q1,q2⟩:=Vx h1;refine ⟨[.agg [.i .i64 x,.i .i64 y,.sl 1 a hh,.sl 2 b (Am (Ap (α:=Pr) l))],.i .i64 key],⟨Vu hs2 hs (Jq.1 h1).1 hv,r1,ϖ⟩,?_⟩;rw[hn,aCD Ak W7 x y a b hh (Ap l) key,(q2 key).1,(q2 key).2];exact ⟨q1,h2,AY (s':=.Az [.i .i64 (Cj b l key),.b (Iq b l key)]) ⟨rfl,.inl rfl,ϖ⟩ hφ⟩
  ·exact h.elim
 ·exact h.elim
theorem auj:∀g F,NC g=aj F->AO ak (AZ W7) g F:=fun g F h=>by
 unfold NC at h;split at h
 ·cases h;exact azd
 ·cases h;exact fun H w Bl args φ _ _ _ h=>h.elim
 ·cases h
theorem axF(stop:Nat->List Nat->Bool):BJ ak (C7 Ak W7 NC stop):=ig auj fun g h=>by
 unfold NC at h;split at h;all_goals first|(cases h;done) |kernel_rfl
theorem auk:lG.get 261=aj ⟨.struct [(0,1,aA),(1,1,aA)],2,16,[.int .i64 0,.int .i64 0]⟩:=by kernel_rfl
set_option maxHeartbeats 4000000 in
set_option maxRecDepth 100000 in
theorem aul:ah9 ak 196 261 2 16:=by
 intro w k hk hb;obtain ⟨inf,z,i1,i2,i3,i4,i5,zs,hz⟩:=info116;have hsmall:k<=9223372036854775807:=by omega
 have hse:∀w,(wO 261).run ak w=.ok 2 w:=fun w=>by rfl
 by_cases h0:k=0
 ·subst h0
  go_enter yN,xH
  go_wp2
  go_ret
  exact ⟨_,rfl,RD _ _ _,⟨rfl,rfl,rfl,bM _,fun _ _ _=>rfl⟩,fun b hb=>by simp[Ba] at hb⟩
 ·obtain ⟨G,hG⟩:∃G,G=grownCap w (0+k) 0 261:=⟨_,rfl⟩
  have hGn:k<=G:=by simp_all [grownCap_ge]
  have hGm:G<=maxLen:=by simp_all [grownCap_le_maxLen]
  have hG63:G<=9223372036854775807:=by assumption
  obtain ⟨ROW,hROW⟩:∃ROW:Array Value,ROW=([]:List Value).toArray++iH z.cells k++iH z.cells (G - (0+k)):=⟨_,rfl⟩;have hRs:ROW.size=G*2:=by
   grind [mG,nG,size_zeroCells,oM]
  have hr:∀ty,(dQ #[222,3] ty #[.slice aF 0 0,.int .i64 k]).run ak w=.ok (.slice (aj ⟨w.heap.size,0,aF⟩) k G) (w.drew.alloc (.cells ROW 261)):=fun ty=>by
   have h:=oV w 222 3 ty 261 inf z .i64 .i64 fM lg i1 i4 aF 0 0 [] (by rfl) k (by omega) (by omega) (by omega) (by omega) (by grind) (by rw[i3];exact growslice_fits (by omega) (by omega));simp_all
  obtain ⟨W1,hW1⟩:∃W1,W1=w.drew.alloc (.cells ROW 261):=⟨_,rfl⟩;have f1:W1.heap[w.heap.size]?=aj (.cells ROW 261 (0,0)):=by rw[hW1];exact heap_alloc_new w.drew _
  have f2:w.grownBy W1 aF:=⟨by rw[hW1];rfl,by rw[hW1];rfl,by rw[hW1];rfl,by grind,fun j hj _=>by rw[hW1];first|exact wF w.drew _ j hj|exact heap_alloc_old w.drew _ hj⟩
  have hr1:=hr 222;rw[<-hW1] at hr1;have hk0:¬((k:Int)=0):=by omega
  have hk1:(0:Int)<k:=by omega
  clear hROW hr hG hW1;go_enter yN,xH
  go_wp2_with (first
   |(at_builtin;refine jA _ rfl _ _ _ _ rfl _ _ rfl rfl _ _ hr1 ?_))
  go_ret
  exact ⟨_,rfl,⟨by simp,.inr ⟨w.heap.size,G,ROW,rfl,fH _,f1,fH _,hGm,hRs,by simp⟩⟩,f2,fun b hb=>by simp_all [Ba]⟩
theorem aAe:∀g e te,atM g=aj e->lG.get e=aj te->xI ak g/\ang ak g e te.size te.bytes:=fun g e te h ht=>by
 unfold atM at h;split at h
 ·cases h
  rw[auk] at ht;cases ht;exact ⟨FY gI iR 186 (by kernel_rfl),axC⟩
 ·cases h
theorem aAf:∀g e te,anC g=aj e->lG.get e=aj te->xI ak g/\ah9 ak g e te.size te.bytes:=fun g e te h ht=>by
 unfold anC at h;split at h
 ·cases h
  rw[auk] at ht;cases ht;exact ⟨FY gI iR 196 (by kernel_rfl),aul⟩
 ·cases h
theorem C7i.OG{spec:ϕ}{stop:Nat->List Nat->Bool}(hs:∀g F,spec g=aj F->AO ak (AZ W7) g F)(he:∀g,(spec g).isSome=ay->(Tryz.fns.get g).isSome=ay):BJ ak (C7i Ak W7 spec stop):=⟨hs,(fun g h=>by
  rcases h with h|h
  ·exact FY gI iR g (he g h)
  ·exact FY gI iR g h),aAe,aAf⟩
theorem aum(stop:Nat->List Nat->Bool):BJ ak (C7i Ak W7 NC stop):=C7i.OG auj fun g h=>by
 unfold NC at h;split at h;all_goals first|(cases h;done) |kernel_rfl
theorem Y2{b:Nat}{l:ϝ}{key:Int}(h1:IW b l=ay)(h:Iq b l key=ay):CZ (lst Pr b l) key<b:=by
 obtain ⟨_,_,h3⟩:=Jq.1 h1;obtain ⟨h4,_⟩:=RV (F7 h3) h;simpa using h4
theorem aCH:AO ak (AZ W7) 188 aud:=by
 refine CV (axF Aw) 300 400 L0 zN fun H w Bl args φ hrep h=>?_
 have hn:zN.ntmps=21:=by kernel_rfl
 unfold aud at h;split at h
 ·rename_i x y s2 s3 key
  split at h
  ·rename_i z b l hs2 hs
   obtain ⟨a,hh⟩:=z;obtain ⟨h1,h2,hφ⟩:=h;match args,hrep with
   |[v,u1],⟨hv,r1,_⟩=>
    obtain ⟨q1,q2⟩:=Vx h1;refine ⟨[.agg [.i .i64 x,.i .i64 y,.sl 1 a hh,.sl 2 b (Am (Ap (α:=Pr) l))],.i .i64 key],⟨Vu hs2 hs (Jq.1 h1).1 hv,r1,ϖ⟩,?_⟩;rw[hn,a105 Ak W7 x y a b hh (Ap l) key,(q2 key).1,(q2 key).2];have e:Ak.toN (Cj b l key)=CZ (lst Pr b l) key:=rfl;refine ⟨q1,h2,fun h=>⟨?_,AY (s':=.Az [.i .i64 (Uu b l key),.i .i64 (RU b l key)]) ⟨?_,?_,ϖ⟩ hφ⟩,fun h=>AY (s':=.Az [.i .i64 (Uu b l key),.i .i64 (RU b l key)]) ⟨?_,?_,ϖ⟩ hφ⟩
    ·simp_all [Y2,AX,Cj]
    ·show aQ _ _=_;simp[Uu,h]
    ·show aQ _ _=_;grind [RU]
    ·show aQ _ _=_;simp[Uu,h]
    ·show aQ _ _=_;simp[RU,h]
  ·exact h.elim
 ·exact h.elim
def aun:ϵ
 |[.agg [.i .i64 x,.i .i64 y,s2,s3],u,t]=>match Dj 1 s2,Dj 2 s3,Bd u,Bd t with
  |some (a,h),aj (b,l),aj key,aj _=>.need (IW b l) (.need (ET key) (.leaf (.Az [.agg [.i .i64 x,.i .i64 y,.sl 1 a h,.sl 2 b l],.i .i64 (L8 (lst Pr b l) key),.i .i64 (Lc (lst Pr b l) key)]))) |_,_,_,_=>.fail
 |_=>.fail
def auo:ϵ
 |[.agg [.i .i64 x,.i .i64 y,s2,s3],u,t]=>match Dj 1 s2,Dj 2 s3,Bd u,Bd t with
  |some (a,h),aj (b,l),aj key,aj v=>.need (IW b l) (.need (ET key) (.need (Cc (b+1) 16) (.leaf (.Az [.agg [.i .i64 x,.i .i64 y,.sl 1 a h,.sl 2 (len (FU (lst Pr b l) key v)) (Am (nth (FU (lst Pr b l) key v)))],.i .i64 1,.i .i64 0])))) |_,_,_,_=>.fail
 |_=>.fail
def aup:ϵ
 |[.agg [.i .i64 x,.i .i64 y,s2,s3],u,t]=>match Dj 1 s2,Dj 2 s3,Bd u,Bd t with
  |some (a,h),aj (b,l),aj key,aj _=>.need (IW b l) (.need (ET key) (.need (Cc (b+1) 16) (.leaf (.Az [.agg [.i .i64 x,.i .i64 y,.sl 1 a h,.sl 2 (len (GU (lst Pr b l) key)) (Am (nth (GU (lst Pr b l) key)))],.i .i64 (L8 (lst Pr b l) key),.i .i64 (Lc (lst Pr b l) key)])))) |_,_,_,_=>.fail
 |_=>.fail
theorem aCI:AO ak (AZ W7) 183 auo:=by
 refine CV (aum Aw) 300 400 L0 zO fun H w Bl args φ hrep h=>?_
 have hn:zO.ntmps=38:=by kernel_rfl
 unfold auo at h;split at h
 ·rename_i x y s2 s3 u t
  split at h
  ·rename_i a hh b l key vv hs2 hs hu ht
   obtain ⟨h1,h2,h3,hφ⟩:=h;match args,hrep with
   |[v,u1,u2],⟨hv,r1,r2,_⟩=>
    obtain ⟨q1,q2⟩:=Vx h1;obtain ⟨w1,w2,w3⟩:=Jq.1 h1;have hso:=F7 w3;refine ⟨[.agg [.i .i64 x,.i .i64 y,.sl 1 a hh,.sl 2 b (Am (Ap (α:=Pr) l))],.i .i64 key,.i .i64 vv],⟨Vu hs2 hs w1 hv,Dz hu r1,Dz ht r2,ϖ⟩,?_⟩;rw[hn,aCF Ak W7 x y a b hh (Ap l) key vv,Jp b,QX,(q2 key).1,(q2 key).2];have hll:(lst Pr b l).length=b:=FH b l;have hat:∀j (hj:j<b),nth (lst Pr b l) j=Ap (α:=Pr) l j:=fun j hj=>YZ hj
    have e:Ak.toN (Cj b l key)=CZ (lst Pr b l) key:=rfl;have aGs:CZ (lst Pr b l) key<=b:=by grind [Vt,lst]
    have hup:Ak.upTo (Cj b l key) b=ay:=by simp[EX,Cj];omega
    have r0:Ak.room b 16=ay:=Ny h3 (vY b);have fin (n':Nat) (g':ϝ) (hn':n'=len (FU (lst Pr b l) key vv)) (hg:∀j,j<n'->g' j=Am (nth (FU (lst Pr b l) key vv)) j) :
      up φ (.Az [.agg [.i .i64 x,.i .i64 y,.sl 1 a hh,.os 261 2 n' g'],.i .i64 (ah 1),.i .i64 (ah 0)]):=
     AY (s':=.Az [.agg [.i .i64 x,.i .i64 y,.sl 1 a hh,.sl 2 (len (FU (lst Pr b l) key vv)) (Am (nth (FU (lst Pr b l) key vv)))],.i .i64 1,.i .i64 0]) ⟨⟨rfl,rfl,.inr ⟨rfl,rfl,fun _ _=>rfl⟩,.inr ⟨rfl,hn',hg⟩,ϖ⟩,rfl,rfl,ϖ⟩ hφ
    have hput (hb:Iq b l key=ay):len (FU (lst Pr b l) key vv)=b:=by
     have hb:EI (lst Pr b l) key=ay:=hb;show (FU (lst Pr b l) key vv).length=b;simp_all [aec]
    have auq (hb:Iq b l key=aA):len (FU (lst Pr b l) key vv)=b+1:=by
     have hb:EI (lst Pr b l) key=aA:=hb;show (FU (lst Pr b l) key vv).length=b+1;simp_all [aec]
    have yes (hb:Iq b l key=ay):Ak.inB (Cj b l key) b=ay/\up φ (.Az [.agg [.i .i64 x,.i .i64 y,.sl 1 a hh,.os 261 2 b (Ak.upd (Am (Ap (α:=Pr) l)) (Ak.toN (Cj b l key)) 1 [.i .i64 vv])],.i .i64 (ah 1),.i .i64 (ah 0)]):=by
     have hlt:=Y2 h1 hb;refine ⟨by simp[AX,Cj];omega,fin b _ (hput hb).symm fun j hj=>?_⟩;have hb':EI (lst Pr b l) key=ay:=hb;obtain ⟨k1,k2⟩:=RV hso hb';rw[OY,e];show _=prR (nth (FU (lst Pr b l) key vv) j);rw[aiB hb',auf k1 (by omega)];by_cases ej:j=CZ (lst Pr b l) key
     ·rw[if_pos ej,if_pos ej]
      have hk:(Ap (α:=Pr) l (CZ (lst Pr b l) key)).key=key:=by simp_all [ak7]
      simp_all [Am,Row.put,prR]
     ·rw[if_neg ej,if_neg ej,hat j hj];rfl
    have no (hb:Iq b l key=aA):up φ (.Az [.agg [.i .i64 x,.i .i64 y,.sl 1 a hh,.os 261 2 (Ak.addN b 1) (Ak.ins (Am (Ap (α:=Pr) l)) (Ak.toN (Cj b l key)) [.i .i64 key,.i .i64 vv])],.i .i64 (ah 1),.i .i64 (ah 0)]):=by
     refine fin (b+1) _ (auq hb).symm fun j hj=>?_
     have hb':EI (lst Pr b l) key=aA:=hb;rw[e];show (if j<_ then _ else if j=_ then _ else _)=prR (nth (FU (lst Pr b l) key vv) j);rw[aiA hb',aug (by omega) (by omega)];split
     ·rw[hat j (by omega)];rfl
     ·split
      ·rfl
      ·rw[hat (j - 1) (by omega)];rfl
    refine ⟨fun h0=>⟨?_,?_⟩,fun _=>?_⟩
    ·
     have hb0:b=0:=by simp_all [aar]
     subst hb0;have hnil:∀g':ϝ,lst Pr 0 g'=[]:=fun _=>rfl
     have wf0:IW 0 (fun _=>[])=ay:=by rfl
     have hh0:Iq 0 (fun _=>[]) key=aA:=by rfl
     have hh1:Iq 0 l key=aA:=by rfl
     have hp0:Cj 0 (fun _=>[]) key=0:=by rfl
     refine ⟨wf0,h2,fun hx=>(by simp_all),fun _=>⟨by rw[hp0];rfl,h3,?_⟩⟩;refine fin 1 _ (auq hh1).symm fun j hj=>?_
     obtain rfl:j=0:=by omega
     rfl
    all_goals exact ⟨r0,q1,h2,fun hb=>yes hb,fun hb=>⟨hup,h3,no hb⟩⟩
  ·exact h.elim
 ·exact h.elim
theorem axG(stop:Nat->List Nat->Bool):BJ ak (C7i Ak W7 Vr stop):=C7i.OG (fun g F h=>by
  unfold Vr at h;split at h
  ·cases h;exact fun H w Bl args φ _ _ _ h=>h.elim
  ·cases h) fun g h=>by
 unfold Vr at h;split at h;all_goals first|(cases h;done) |kernel_rfl
theorem aCJ:AO ak (AZ W7) 190 aue:=by
 refine CG (C7i Ak W7 Vr Ei) zQ fun H w Bl args φ hrep h=>?_
 have hn:zQ.ntmps=36:=by kernel_rfl
 unfold aue at h;split at h
 ·rename_i g
  split at h
  ·rename_i n g1 m g2 h0 h1
   obtain ⟨hr,hφ⟩:=h;match args,hrep with
   |[v],⟨hv,_⟩=>
    refine ⟨[.sl 1 2 (Bh [[.sl 2 n g1],[.sl 2 m g2]])],⟨DT hv fun j hj=>?_,ϖ⟩,L0,UE (axG _) 300 400 [] ?_⟩
    ·have:j=0\/j=1:=by omega
     rcases this with rfl|rfl
     ·rw[h0];rfl
     ·rw[h1];rfl
    ·rw[hn,a107 Ak W7 n m g1 g2]
     have hr:Ak.room (n+m) 16=ay:=hr;obtain ⟨hr1,hr2⟩:=Fg hr;rw[maxLen_eq] at hr2;have e0:Ak.add .i64 (ah 0) (Ak.AV n)=(n:Int):=by
      rw[Ef,AL];grind [CU]
     have e1:Ak.add .i64 (n:Int) (Ak.AV m)=((n+m:Nat):Int):=by
      grind [Ef,AL,CU]
     rw[e0,e1];have ng (k:Nat):Ak.lt (k:Int) (ah 0)=aA:=by rfl
     have r0:Ak.room (Ak.addN 0 n) 16=ay:=by rw[Jp];exact Ny hr (Nat.le_add_right n m)
     have r1:Ak.room (Ak.addN (Ak.addN 0 n) m) 16=ay:=by rw[Jp];exact hr
     have le:Ak.le (ah 0) ((n+m:Nat):Int)=ay:=by rfl
     have fin:=AY (φ:=φ) (s:=.os 261 2 (Ak.addN (Ak.addN 0 n) m) (Ak.snoc (Ak.snoc (fun (x:Nat)=>[]) 0 g1) (Ak.addN 0 n) g2)) (s':=.sl 2 (Qu n m) (ag4 g1 n g2)) (.inr ⟨rfl,by rw[Jp];rfl,fun j hj=>by rw[Jp,QX];rfl⟩);exact ⟨fun _=>⟨rfl,fun h=>(by simp_all),fun _=>⟨fun _=>⟨rfl,fun h=>(by grind),fun _=>⟨fun h=>(by cases h),fun _=>⟨le,hr,fun _=>⟨rfl,r0,fun _=>⟨rfl,r1,fun h=>(by cases h),fun _=>fin hφ⟩,fun h=>(by cases h)⟩,fun h=>(by cases h)⟩⟩⟩,fun h=>(by cases h)⟩⟩,fun h=>(by cases h)⟩
  ·exact h.elim
 ·exact h.elim
end Go.Proofs
namespace Go.Pl
open Go Go.Sx Go.Proofs
def MS(op:Int)(b:Nat)(l:ϝ):Bool:=!decide (Fp op=4)||(IW b l&&Cc (b+1) 16)
end Go.Pl
namespace Go.Proofs
open Go Go.Sx Go.Pl
theorem aAg:∀g F,Gh g=aj F->AO ak (AZ W7) g F:=fun g F h=>by
 unfold Gh at h;grind [azd,aCH,aCJ]
theorem aps(stop:Nat->List Nat->Bool):BJ ak (C7 Ak W7 Gh stop):=ig aAg fun g h=>by
 unfold Gh at h;split at h;all_goals first|(cases h;done) |kernel_rfl
theorem ag5{b:Nat}{l:ϝ}(h:IW b l=ay)(key:Int):Uu b (Am (Ap (α:=Pr) l)) key=L8 (lst Pr b l) key/\RU b (Am (Ap (α:=Pr) l)) key=Lc (lst Pr b l) key:=by
 have e:lst Pr b (Am (Ap (α:=Pr) l))=lst Pr b l:=by rfl
 simp_all [Jq,Uu,L8,Iq,aui]
theorem aCK:AO ak (AZ W7) 187 aun:=by
 refine CV (aps Aw) 300 400 L0 zS fun H w Bl args φ hrep h=>?_
 have hn:zS.ntmps=20:=by kernel_rfl
 unfold aun at h;split at h
 ·rename_i x y s2 s3 u t
  split at h
  ·rename_i a hh b l key vv hs2 hs hu ht
   obtain ⟨h1,h2,hφ⟩:=h;match args,hrep with
   |[v,u1,u2],⟨hv,r1,r2,_⟩=>
    obtain ⟨q1,q2⟩:=Vx h1;obtain ⟨e1,e2⟩:=ag5 h1 key;refine ⟨[.agg [.i .i64 x,.i .i64 y,.sl 1 a hh,.sl 2 b (Am (Ap (α:=Pr) l))],.i .i64 key,.i .i64 vv],⟨Vu hs2 hs (Jq.1 h1).1 hv,Dz hu r1,Dz ht r2,ϖ⟩,?_⟩;rw[hn,aCE Ak W7 x y a b hh (Ap l) key vv,e1,e2];exact ⟨q1,h2,AY (s':=.Az [.agg [.i .i64 x,.i .i64 y,.sl 1 a hh,.sl 2 b l],.i .i64 (L8 (lst Pr b l) key),.i .i64 (Lc (lst Pr b l) key)]) ⟨⟨rfl,rfl,.inr ⟨rfl,rfl,fun _ _=>rfl⟩,.inr ⟨rfl,rfl,fun j hj=>(I5 (Jq.1 h1).1 j hj).symm⟩,ϖ⟩,rfl,rfl,ϖ⟩ hφ⟩
  ·exact h.elim
 ·exact h.elim
theorem aCL:AO ak (AZ W7) 189 aup:=by
 refine CV (aps Aw) 600 800 L0 zT fun H w Bl args φ hrep h=>?_
 have hn:zT.ntmps=41:=by kernel_rfl
 unfold aup at h;split at h
 ·rename_i x y s2 s3 u t
  split at h
  ·rename_i a hh b l key vv hs2 hs hu ht
   obtain ⟨h1,h2,h3,hφ⟩:=h;match args,hrep with
   |[v,u1,u2],⟨hv,r1,r2,_⟩=>
    obtain ⟨q1,q2⟩:=Vx h1;obtain ⟨e1,e2⟩:=ag5 h1 key;obtain ⟨w1,w2,w3⟩:=Jq.1 h1;refine ⟨[.agg [.i .i64 x,.i .i64 y,.sl 1 a hh,.sl 2 b (Am (Ap (α:=Pr) l))],.i .i64 key,.i .i64 vv],⟨Vu hs2 hs w1 hv,Dz hu r1,Dz ht r2,ϖ⟩,?_⟩;have hll:(lst Pr b l).length=b:=FH b l;have hat:∀j (hj:j<b),nth (lst Pr b l) j=Ap (α:=Pr) l j:=fun j hj=>YZ hj
    have e:Ak.toN (Cj b l key)=CZ (lst Pr b l) key:=rfl;have e1':Ak.toN (Ak.add .i64 (Cj b l key) (ah 1))=CZ (lst Pr b l) key+1:=by
     have:CZ (lst Pr b l) key<=b:=by grind [Vt,lst]
     rw[Ef];show (bD.wrap ((CZ (lst Pr b l) key:Int)+1)).toNat=_;grind [CU]
    have e1i:Iq b l key=ay->Ak.upTo (Ak.add .i64 (Cj b l key) (ah 1)) b=ay:=fun hb=>by
     have:=Y2 h1 hb;rw[Ef];show Ak.upTo (bD.wrap ((CZ (lst Pr b l) key:Int)+1)) b=ay;grind [CU,EX]
    have hup:Ak.upTo (Cj b l key) b=ay:=by
     grind [CZ,lst,Vt,EX,Cj]
    rw[hn,aCG Ak W7 x y a b hh (Ap l) key vv,e1,e2,(q2 key).1,(q2 key).2];have fin (n':Nat) (g':ϝ) (hn':n'=len (GU (lst Pr b l) key)) (hg:∀j,j<n'->g' j=Am (nth (GU (lst Pr b l) key)) j) :
      up φ (.Az [.agg [.i .i64 x,.i .i64 y,.sl 1 a hh,.sl 2 n' g'],.i .i64 (L8 (lst Pr b l) key),.i .i64 (Lc (lst Pr b l) key)]):=
     AY (s':=.Az [.agg [.i .i64 x,.i .i64 y,.sl 1 a hh,.sl 2 (len (GU (lst Pr b l) key)) (Am (nth (GU (lst Pr b l) key)))],.i .i64 (L8 (lst Pr b l) key),.i .i64 (Lc (lst Pr b l) key)]) ⟨⟨rfl,rfl,.inr ⟨rfl,rfl,fun _ _=>rfl⟩,.inr ⟨rfl,hn',hg⟩,ϖ⟩,rfl,rfl,ϖ⟩ hφ
    have hdl:len (GU (lst Pr b l) key)=if EI (lst Pr b l) key=ay then b - 1 else b:=by
     show (GU (lst Pr b l) key).length=_;rw[ak8 w3,hll]
    refine ⟨q1,h2,q1,h2,fun hb=>?_,fun hb=>?_⟩
    ·have aCM:=e1i hb
     have hlt:=Y2 h1 hb;have hb':EI (lst Pr b l) key=ay:=hb;have rr:Cc (Qu (Ak.toN (Cj b l key)) (Ak.E5 b (Ak.toN (Ak.add .i64 (Cj b l key) (ah 1))))) 16=ay:=by
      rw[e,e1',ad4];exact Ny h3 (by show CZ (lst Pr b l) key+(b - (CZ (lst Pr b l) key+1))<=b+1;omega)
     have last:up φ (.Az [.agg [.i .i64 x,.i .i64 y,.sl 1 a hh,.sl 2 (Qu (Ak.toN (Cj b l key)) (Ak.E5 b (Ak.toN (Ak.add .i64 (Cj b l key) (ah 1))))) (ag4 (Am (Ap (α:=Pr) l)) (Ak.toN (Cj b l key)) fun (j:Nat)=>Am (Ap (α:=Pr) l) (Ak.addN (Ak.toN (Ak.add .i64 (Cj b l key) 1)) j))],.i .i64 (L8 (lst Pr b l) key),.i .i64 (Lc (lst Pr b l) key)]):=by
      have e2':Ak.toN (Ak.add .i64 (Cj b l key) 1)=CZ (lst Pr b l) key+1:=e1';rw[e1',e2',e,ad4];refine fin _ _ (by rw[hdl,if_pos hb'];show CZ (lst Pr b l) key+(b - (CZ (lst Pr b l) key+1))=_;omega) fun j hj=>?_
      have hj:j<CZ (lst Pr b l) key+(b - (CZ (lst Pr b l) key+1)):=hj;obtain ⟨k1,_⟩:=RV (F7 w3) hb';show Ak.snoc _ _ _ j=prR (nth (GU (lst Pr b l) key) j);rw[aiD hb',auh k1 (by omega),Dn];split
      ·rw[hat j (by omega)];rfl
      ·rw[hat (j+1) (by omega),Dl]
       show prR (Ap l (CZ (lst Pr b l) key+1+(j - CZ (lst Pr b l) key)))=_;grind
     clear hφ fin hat;rw[hup,aCM,rr];generalize Ak.toN (Cj b l key)=n1 at *;generalize Ak.E5 b (Ak.toN (Ak.add .i64 (Cj b l key) (ah 1)))=n2 at *;repeat' (first|exact rfl|exact ϖ|exact last|refine eU ?_ ?_)
    ·have hb':EI (lst Pr b l) key=aA:=hb
     exact fin b _ (by simp_all) fun j hj=>by
      show prR (Ap l j)=prR (nth (GU (lst Pr b l) key) j);simp_all [aiC]
  ·exact h.elim
 ·exact h.elim
end Go.Proofs
namespace Go.Sx
section
variable{P:Program}{C:Ctx}{K:Kx}
theorem arf{g:Nat}{td:List It}{c:Core}{stk:List Fr}{R:Hp->Prop}{φ:Sh->Prop}(tm':List SV)(h:∀(H:Mem) (E:Env) (vs:List Value),AP H E c.tm vs->AP H E tm' vs)(hgo:AB P C K g td {c with tm:=tm'} stk R φ):AB P C K g td c stk R φ:=by
 intro H E w a items ms cs fn hfn st hi hs hx;exact hgo H E w a items ms cs fn hfn ⟨h H E _ st.den,st.hp,st.CP,st.free,st.gl,st.defers⟩ hi hs hx
theorem ak9{H:Mem}{E:Env}{k:IntKind}{n:Int}:∀(i:Nat) {l:List SV} {vs:List Value},l[i]?=aj (.sym k n)->AP H E l vs->AP H E (l.set i (.int k n)) vs
 |_,[],_,h,_=>by simp at h |_,_::_,[],_,h=>h.elim |0,x::l,v::vs,h,⟨h1,h2⟩=>by
  simp at h;subst h;exact ⟨h1,h2⟩
 |i+1,x::l,v::vs,h,⟨h1,h2⟩=>⟨h1,ak9 i (by simpa using h) h2⟩
end
end Go.Sx
namespace Go.Pl
open Go Go.Sx
def KN(a b:Int):Int:=bD.wrap (a+b)
def Qv(h:ϝ):ϝ:=fun j=>h (1+j)
def TI(a:Nat):Nat:=a - 1
def WU(a:Nat):Int:=if a=0 then 2 else 3
def TJ(a:Nat)(o:Nat->Int):Int:=if a=0 then 0 else o 0
end Go.Pl
namespace Go.Proofs
open Go Go.Sx Go.Pl
def F66:ϵ
 |[t]=>match Bd t with
  |some op=>.leaf (.i .i64 (Fp op)) |none=>.fail
 |_=>.fail
def F67:ϵ
 |[t]=>match Bd t with
  |some op=>.leaf (.b (keyed op)) |none=>.fail
 |_=>.fail
def F68:ϵ
 |[t]=>match Bd t with
  |some op=>.leaf (.b (valued op)) |none=>.fail
 |_=>.fail
def F69:ϵ
 |[t,u,v]=>match Bd t,Bd u,Bd v with
  |some k,aj x,aj y=>.leaf (.b (J5 k x y)) |_,_,_=>.fail
 |_=>.fail
def F94:ϵ
 |[.agg [.i .i64 x,.i .i64 y,s2,s3],u,t]=>match Dj 1 s2,Dj 2 s3,Bd u,Bd t with
  |some (a,h),aj (b,l),aj _,aj _=>.leaf (.Az [.agg [.i .i64 x,.i .i64 y,.sl 1 a h,.sl 2 b l],.i .i64 3,.i .i64 y]) |_,_,_,_=>.fail
 |_=>.fail
def F95:ϵ
 |[.agg [.i .i64 x,.i .i64 _,s2,s3],u,t]=>match Dj 1 s2,Dj 2 s3,Bd u,Bd t with
  |some (a,h),aj (b,l),aj _,aj v=>.leaf (.Az [.agg [.i .i64 x,.i .i64 v,.sl 1 a h,.sl 2 b l],.i .i64 1,.i .i64 0]) |_,_,_,_=>.fail
 |_=>.fail
def F96:ϵ
 |[.agg [.i .i64 x,.i .i64 y,s2,s3],u,t]=>match Dj 1 s2,Dj 2 s3,Bd u,Bd t with
  |some (a,h),aj (b,l),aj _,aj v=>.leaf (.Az [.agg [.i .i64 x,.i .i64 (KN y v),.sl 1 a h,.sl 2 b l],.i .i64 1,.i .i64 0]) |_,_,_,_=>.fail
 |_=>.fail
def F97:ϵ
 |[.agg [.i .i64 x,.i .i64 y,s2,s3],u,t]=>match Dj 1 s2,Dj 2 s3,Bd u,Bd t with
  |some (a,h),aj (b,l),aj _,aj v=>.need (Cc (a+1) 8) (.leaf (.Az [.agg [.i .i64 x,.i .i64 y,.sl 1 (a+1) (Hz a h [.i .i64 v]),.sl 2 b l],.i .i64 1,.i .i64 0])) |_,_,_,_=>.fail
 |_=>.fail
def F99:ϵ
 |[.agg [.i .i64 x,.i .i64 y,s2,s3],u,t]=>match Dj 1 s2,Dj 2 s3,Bd u,Bd t with
  |some (a,h),aj (b,l),aj _,aj _=>.need (okB Int a h) (.leaf (.Az [.agg [.i .i64 x,.i .i64 y,.sl 1 (TI a) (Qv h),.sl 2 b l],.i .i64 (WU a),.i .i64 (TJ a (Ap h))])) |_,_,_,_=>.fail
 |_=>.fail
def Iy:ϕ
 |97=>aj F66 |147=>aj F67 |149=>aj F68 |157=>aj F69 |177=>aj F94 |178=>aj F95 |179=>aj F96 |180=>aj F97 |182=>aj F99 |183=>aj auo |187=>aj aun |189=>aj aup |_=>aF
def apt:List Nat->List Nat->Bool
 |[],[]=>ay |x::l,y::r=>dK x y&&apt l r |_,_=>aA
def aur(f:Nat)(ps:List (List Nat))(g:Nat)(td:List It):Bool:=dK g f&&match td with
 | .code r::_=>ps.any (apt r) |_=>aA
def ala:Nat->List It->Bool:=aur 137 [[0,1,1,1,1]]
def L42(x y:Int)(a b:Nat)(h l:ϝ)(op k v:Int):Core:={tm:=DF 88 [(1,.sym .i64 op),(2,.sym .i64 k),(3,.sym .i64 v),(4,.ptr 0 0),(8,.ptr 1 0)],hp:=[(0,.box [.sym .i64 x,.sym .i64 y,.sh (.sl 1 a h),.sh (.sl 2 b l)] 224),(1,.box [.int .i64 0,.int .i64 0,.Bg,.Bg] 224)],nx:=2,lim:=L0,tc:=[]}
def WV(x y:Int)(a b:Nat)(h l:ϝ)(n:Int)(k v:Int):Core:={tm:=(L42 x y a b h l n k v).tm.set 1 (.int .i64 n),hp:=(L42 x y a b h l n k v).hp,nx:=2,lim:=L0,tc:=[]}
def J6:List It:=[aK [0,1,1,1,1],aK [1,1,1,1,1]]
def TK:ϕ
 |136=>aj F33 |105=>aj F35 |102=>aj F41 |75=>aj F49 |103=>aj F50 |138=>aj F54 |106=>aj F56 |_=>aF
def PS:List It:=[aK [0,1,0,1,1,1],aX 0,aK [1,1,1,1]]
def apu:List It:=aK [0,0,1,0,1,1,1]::PS
def aCN(k:Nat)(gg:ϝ):Bool->SV
 |true=>.Bg |false=>.sh (.sl 4 k gg)
def Y3(n:Nat)(o:Nat->Oj)(i:Int)(k:Nat)(gg:ϝ)(v:Bool):Core:={tm:=DF 38 [(2,.ptr 0 0),(5,.ptr 1 0),(17,.sh (.sl 2 n (Am o))),(18,.sym .i64 (n:Int)),(19,.sym .i64 i)],hp:=[(0,.box [.Bg] 153),(1,.box [aCN k gg v] 151)],nx:=2,lim:=L0,tc:=[]}
theorem a25(A:Prim)(W:Wd)(n:Nat)(o:Nat->Oj)(i':Int)(k':Nat)(Je:ϝ):BD (C7 A W TK Aw) Dy 300 400 80 [.code []] (BH 38 [.sl 2 n (Am o)] L0) [] [⟨80,PS,Y3 n o i' k' Je ay,[]⟩]=aH (okB Oj n (Am o)) (aH (TD n (Ap (Am o))) (aP (Vm n) (aJ (aN (bF [bG [aG 0 0 fun _=>[]],dP 5 322]))) (aP (PO n (Ap (Am o))) (aJ (bU 0 [aW (aG 2 n (Am o)) (aG 2 n (Am o)),aC (A.AV n) (ah n),aC (ah 0) i'])) (aJ (aN (bF [bG [aG 0 0 fun _=>[]],Sh.DK 184 (Sh.pt [aQ .i64 (ah (Nz n (Ap (Am o)))),dP 6 322])])))))):=by kernel_rfl
theorem b25(A:Prim)(W:Wd)(n:Nat)(o:Nat->Oj)(i i':Int)(k k':Nat)(gg Je:ϝ):BD (C7 A W TK Aw) Dy 300 400 80 apu (Y3 n o i k gg aA) [] [⟨80,PS,Y3 n o i' k' Je aA,[]⟩]=aP (A.lt i (ah n)) (aH (A.inB i n) (aH (DN (o (A.toN i)).kind) (aP (En (o (A.toN i)).kind (o (A.toN i)).init) (aJ (aN (bF [bG [aG 0 0 fun _=>[]],dP 6 322]))) (aH (Cc k.succ 64) (aJ (bU 0 [aW (aG 2 n (Am o)) (aG 2 n (Am o)),aC (ah n) (ah n),aC (A.add .i64 i (ah 1)) i',aW (aG 4 k.succ (Hz k gg [aQ .i64 (o (A.toN i)).kind,aQ .i64 (o (A.toN i)).init,aG 1 0 FB,aG 2 0 noP])) (aG 4 k' Je)])))))) (aJ (aN (bF [bG [aG 4 k gg],ni cZ]))):=by kernel_rfl
theorem c25(A:Prim)(W:Wd)(n:Nat)(o:Nat->Oj)(i i':Int)(k k':Nat)(gg Je:ϝ):BD (C7 A W TK Aw) Dy 300 400 80 apu (Y3 n o i k gg ay) [] [⟨80,PS,Y3 n o i' k' Je aA,[]⟩]=aP (A.lt i (ah n)) (aH (A.inB i n) (aH (DN (o (A.toN i)).kind) (aP (En (o (A.toN i)).kind (o (A.toN i)).init) (aJ (aN (bF [bG [aG 0 0 fun _=>[]],dP 6 322]))) (aH (Cc 1 64) (aJ (bU 0 [aW (aG 2 n (Am o)) (aG 2 n (Am o)),aC (ah n) (ah n),aC (A.add .i64 i (ah 1)) i',aW (aG 4 1 (Hz 0 (fun _=>[]) [aQ .i64 (o (A.toN i)).kind,aQ .i64 (o (A.toN i)).init,aG 1 0 FB,aG 2 0 noP])) (aG 4 k' Je)])))))) (aJ (aN (bF [bG [aG 0 0 fun _=>[]],ni cZ]))):=by kernel_rfl
theorem a94(A:Prim)(W:Wd)(x y:Int)(a b:Nat)(h l:ϝ)(k v:Int):BD (C7 A W G5 Aw) Dy 300 400 177 [.code []] (BH 12 [.agg [.i .i64 x,.i .i64 y,.sl 1 a h,.sl 2 b l],.i .i64 k,.i .i64 v] L0) [] []=aJ (aN (bF [bG [aQ .i64 x,aQ .i64 y,aG 1 a h,aG 2 b l],aQ .i64 (ah 3),aQ .i64 y])):=by kernel_rfl
theorem a95(A:Prim)(W:Wd)(x y:Int)(a b:Nat)(h l:ϝ)(k v:Int):BD (C7 A W G5 Aw) Dy 300 400 178 [.code []] (BH 12 [.agg [.i .i64 x,.i .i64 y,.sl 1 a h,.sl 2 b l],.i .i64 k,.i .i64 v] L0) [] []=aJ (aN (bF [bG [aQ .i64 x,aQ .i64 v,aG 1 a h,aG 2 b l],aQ .i64 (ah 1),aQ .i64 (ah 0)])):=by kernel_rfl
theorem a96(A:Prim)(W:Wd)(x y:Int)(a b:Nat)(h l:ϝ)(k v:Int):BD (C7 A W G5 Aw) Dy 300 400 179 [.code []] (BH 15 [.agg [.i .i64 x,.i .i64 y,.sl 1 a h,.sl 2 b l],.i .i64 k,.i .i64 v] L0) [] []=aJ (aN (bF [bG [aQ .i64 x,aQ .i64 (A.add .i64 y v),aG 1 a h,aG 2 b l],aQ .i64 (ah 1),aQ .i64 (ah 0)])):=by kernel_rfl
theorem a97(A:Prim)(W:Wd)(x y:Int)(a b:Nat)(h l:ϝ)(k v:Int):BD (C7 A W G5 Aw) Dy 300 400 180 [.code []] (BH 17 [.agg [.i .i64 x,.i .i64 y,.sl 1 a h,.sl 2 b l],.i .i64 k,.i .i64 v] L0) [] []=aP (A.leN a 0) ((aJ (aN (bF [bG [aQ .i64 x,aQ .i64 y,fF 3 1 1 (Bh [[aQ .i64 v]]),aG 2 b l],aQ .i64 (ah 1),aQ .i64 (ah 0)]))).both (aH (A.room (A.addN 0 a) 8) (aH (A.room (A.addN (A.addN 0 a) 1) 8) (aJ (aN (bF [bG [aQ .i64 x,aQ .i64 y,fF 3 1 (A.addN (A.addN 0 a) 1) (A.snoc (A.snoc (Bh []) 0 h) (A.addN 0 a) (Bh [[aQ .i64 v]])),aG 2 b l],aQ .i64 (ah 1),aQ .i64 (ah 0)])))))) (aH (A.room (A.addN 0 a) 8) (aH (A.room (A.addN (A.addN 0 a) 1) 8) (aJ (aN (bF [bG [aQ .i64 x,aQ .i64 y,fF 3 1 (A.addN (A.addN 0 a) 1) (A.snoc (A.snoc (Bh []) 0 h) (A.addN 0 a) (Bh [[aQ .i64 v]])),aG 2 b l],aQ .i64 (ah 1),aQ .i64 (ah 0)]))))):=by kernel_rfl
theorem a99(A:Prim)(W:Wd)(x y:Int)(a b:Nat)(o:Nat->Int)(l:ϝ)(k v:Int):BD (C7 A W G5 Aw) Dy 300 400 182 [.code []] (BH 25 [.agg [.i .i64 x,.i .i64 y,.sl 1 a (Am o),.sl 2 b l],.i .i64 k,.i .i64 v] L0) [] []=aP (A.eq (A.AV a) (ah 0)) (aJ (aN (bF [bG [aQ .i64 x,aQ .i64 y,aG 1 a (Am o),aG 2 b l],aQ .i64 (ah 2),aQ .i64 (ah 0)]))) (aH (A.inB (ah 0) a) (aH (A.upTo (ah 1) a) (aJ (aN (bF [bG [aQ .i64 x,aQ .i64 y,aG 1 (A.E5 a 1) fun (j:Nat)=>Am o (A.addN 1 j),aG 2 b l],aQ .i64 (ah 3),aQ .i64 (o 0)]))))):=by kernel_rfl
theorem a42(A:Prim)(W:Wd)(x y:Int)(a b:Nat)(h l:ϝ)(op k v:Int):ay7 (C7 A W Iy Aw) ala 300 400 137 [.code []] (BH 88 [.agg [.i .i64 x,.i .i64 y,.sl 1 a h,.sl 2 b l],.i .i64 op,.i .i64 k,.i .i64 v] L0) [] [⟨137,J6,L42 x y a b h l op k v,[]⟩]=aP (A.eq x (ah 0)) (aJ (aN (bF [bG [aQ .i64 (ah 0),aQ .i64 (ah 0),aG 0 0 fun _=>[],aG 0 0 fun _=>[]],aQ .i64 (ah 0),aQ .i64 (ah 0),dP 7 322]))) (aP (A.nt (A.eq (Fp op) x)) (aJ (aN (bF [bG [aQ .i64 (ah 0),aQ .i64 (ah 0),aG 0 0 fun _=>[],aG 0 0 fun _=>[]],aQ .i64 (ah 0),aQ .i64 (ah 0),dP 7 322]))) (aP (A.nt (A.eq k (ah 0))) (aP (A.nt (keyed op)) (aJ (aN (bF [bG [aQ .i64 (ah 0),aQ .i64 (ah 0),aG 0 0 fun _=>[],aG 0 0 fun _=>[]],aQ .i64 (ah 0),aQ .i64 (ah 0),dP 13 322]))) (aP (A.lt k (ah 0)) (aJ (aN (bF [bG [aQ .i64 (ah 0),aQ .i64 (ah 0),aG 0 0 fun _=>[],aG 0 0 fun _=>[]],aQ .i64 (ah 0),aQ .i64 (ah 0),dP 13 322]))) (aP (A.lt (ah 1000) k) (aJ (aN (bF [bG [aQ .i64 (ah 0),aQ .i64 (ah 0),aG 0 0 fun _=>[],aG 0 0 fun _=>[]],aQ .i64 (ah 0),aQ .i64 (ah 0),dP 13 322]))) (aP (A.nt (A.eq v (ah 0))) (aP (A.nt (valued op)) (aJ (aN (bF [bG [aQ .i64 (ah 0),aQ .i64 (ah 0),aG 0 0 fun _=>[],aG 0 0 fun _=>[]],aQ .i64 (ah 0),aQ .i64 (ah 0),dP 13 322]))) (aP (A.lt v (gZ 999999999)) (aJ (aN (bF [bG [aQ .i64 (ah 0),aQ .i64 (ah 0),aG 0 0 fun _=>[],aG 0 0 fun _=>[]],aQ .i64 (ah 0),aQ .i64 (ah 0),dP 13 322]))) (aP (A.lt (ah 1000000000) v) (aJ (aN (bF [bG [aQ .i64 (ah 0),aQ .i64 (ah 0),aG 0 0 fun _=>[],aG 0 0 fun _=>[]],aQ .i64 (ah 0),aQ .i64 (ah 0),dP 13 322]))) (aP (A.eq op (ah 3)) (aP (J5 x (ah 0) (A.add .i64 y v)) (aJ (aN (bF [bG [aQ .i64 (ah 0),aQ .i64 (ah 0),aG 0 0 fun _=>[],aG 0 0 fun _=>[]],aQ .i64 (ah 0),aQ .i64 (ah 0),dP 13 322]))) (aJ (bU 0 [aC op op,aC k k,aC v v,aC x x,aC y y,aW (aG 1 a h) (aG 1 a h),aW (aG 2 b l) (aG 2 b l),aC (ah 0) (ah 0),aC (ah 0) (ah 0)]))) (aJ (bU 0 [aC op op,aC k k,aC v v,aC x x,aC y y,aW (aG 1 a h) (aG 1 a h),aW (aG 2 b l) (aG 2 b l),aC (ah 0) (ah 0),aC (ah 0) (ah 0)])))))) (aP (A.lt v (gZ 999999999)) (aJ (aN (bF [bG [aQ .i64 (ah 0),aQ .i64 (ah 0),aG 0 0 fun _=>[],aG 0 0 fun _=>[]],aQ .i64 (ah 0),aQ .i64 (ah 0),dP 13 322]))) (aP (A.lt (ah 1000000000) v) (aJ (aN (bF [bG [aQ .i64 (ah 0),aQ .i64 (ah 0),aG 0 0 fun _=>[],aG 0 0 fun _=>[]],aQ .i64 (ah 0),aQ .i64 (ah 0),dP 13 322]))) (aP (A.eq op (ah 3)) (aP (J5 x (ah 0) (A.add .i64 y v)) (aJ (aN (bF [bG [aQ .i64 (ah 0),aQ .i64 (ah 0),aG 0 0 fun _=>[],aG 0 0 fun _=>[]],aQ .i64 (ah 0),aQ .i64 (ah 0),dP 13 322]))) (aJ (bU 0 [aC op op,aC k k,aC v v,aC x x,aC y y,aW (aG 1 a h) (aG 1 a h),aW (aG 2 b l) (aG 2 b l),aC (ah 0) (ah 0),aC (ah 0) (ah 0)]))) (aJ (bU 0 [aC op op,aC k k,aC v v,aC x x,aC y y,aW (aG 1 a h) (aG 1 a h),aW (aG 2 b l) (aG 2 b l),aC (ah 0) (ah 0),aC (ah 0) (ah 0)]))))))))) (aP (A.lt k (ah 0)) (aJ (aN (bF [bG [aQ .i64 (ah 0),aQ .i64 (ah 0),aG 0 0 fun _=>[],aG 0 0 fun _=>[]],aQ .i64 (ah 0),aQ .i64 (ah 0),dP 13 322]))) (aP (A.lt (ah 1000) k) (aJ (aN (bF [bG [aQ .i64 (ah 0),aQ .i64 (ah 0),aG 0 0 fun _=>[],aG 0 0 fun _=>[]],aQ .i64 (ah 0),aQ .i64 (ah 0),dP 13 322]))) (aP (A.nt (A.eq v (ah 0))) (aP (A.nt (valued op)) (aJ (aN (bF [bG [aQ .i64 (ah 0),aQ .i64 (ah 0),aG 0 0 fun _=>[],aG 0 0 fun _=>[]],aQ .i64 (ah 0),aQ .i64 (ah 0),dP 13 322]))) (aP (A.lt v (gZ 999999999)) (aJ (aN (bF [bG [aQ .i64 (ah 0),aQ .i64 (ah 0),aG 0 0 fun _=>[],aG 0 0 fun _=>[]],aQ .i64 (ah 0),aQ .i64 (ah 0),dP 13 322]))) (aP (A.lt (ah 1000000000) v) (aJ (aN (bF [bG [aQ .i64 (ah 0),aQ .i64 (ah 0),aG 0 0 fun _=>[],aG 0 0 fun _=>[]],aQ .i64 (ah 0),aQ .i64 (ah 0),dP 13 322]))) (aP (A.eq op (ah 3)) (aP (J5 x (ah 0) (A.add .i64 y v)) (aJ (aN (bF [bG [aQ .i64 (ah 0),aQ .i64 (ah 0),aG 0 0 fun _=>[],aG 0 0 fun _=>[]],aQ .i64 (ah 0),aQ .i64 (ah 0),dP 13 322]))) (aJ (bU 0 [aC op op,aC k k,aC v v,aC x x,aC y y,aW (aG 1 a h) (aG 1 a h),aW (aG 2 b l) (aG 2 b l),aC (ah 0) (ah 0),aC (ah 0) (ah 0)]))) (aJ (bU 0 [aC op op,aC k k,aC v v,aC x x,aC y y,aW (aG 1 a h) (aG 1 a h),aW (aG 2 b l) (aG 2 b l),aC (ah 0) (ah 0),aC (ah 0) (ah 0)])))))) (aP (A.lt v (gZ 999999999)) (aJ (aN (bF [bG [aQ .i64 (ah 0),aQ .i64 (ah 0),aG 0 0 fun _=>[],aG 0 0 fun _=>[]],aQ .i64 (ah 0),aQ .i64 (ah 0),dP 13 322]))) (aP (A.lt (ah 1000000000) v) (aJ (aN (bF [bG [aQ .i64 (ah 0),aQ .i64 (ah 0),aG 0 0 fun _=>[],aG 0 0 fun _=>[]],aQ .i64 (ah 0),aQ .i64 (ah 0),dP 13 322]))) (aP (A.eq op (ah 3)) (aP (J5 x (ah 0) (A.add .i64 y v)) (aJ (aN (bF [bG [aQ .i64 (ah 0),aQ .i64 (ah 0),aG 0 0 fun _=>[],aG 0 0 fun _=>[]],aQ .i64 (ah 0),aQ .i64 (ah 0),dP 13 322]))) (aJ (bU 0 [aC op op,aC k k,aC v v,aC x x,aC y y,aW (aG 1 a h) (aG 1 a h),aW (aG 2 b l) (aG 2 b l),aC (ah 0) (ah 0),aC (ah 0) (ah 0)]))) (aJ (bU 0 [aC op op,aC k k,aC v v,aC x x,aC y y,aW (aG 1 a h) (aG 1 a h),aW (aG 2 b l) (aG 2 b l),aC (ah 0) (ah 0),aC (ah 0) (ah 0)])))))))))):=by kernel_rfl
def aay(x y:Int)(a b:Nat)(h l:ϝ)(k v:Int):List BL:=[aC k k,aC v v,aC (ah 3) (ah 3),aC y y,aC x x,aC y y,aW (aG 1 a h) (aG 1 a h),aW (aG 2 b l) (aG 2 b l),aC x x,aC y y,aW (aG 1 a h) (aG 1 a h),aW (aG 2 b l) (aG 2 b l)]
theorem aAp(A:Prim)(W:Wd)(x y:Int)(a b:Nat)(h l:ϝ)(k v:Int):BD (C7 A W Iy Aw) Dy 300 400 137 J6 (WV x y a b h l 1 k v) [] []=bT (aay x y a b h l k v) (bT (aay x y a b h l k v) (bT (aay x y a b h l k v) (aJ (aN (bF [bG [aQ .i64 x,aQ .i64 y,aG 1 a h,aG 2 b l],aQ .i64 (ah 3),aQ .i64 y,ni cZ]))))):=by kernel_rfl
def aaz(x y:Int)(a b:Nat)(h l:ϝ)(k v:Int):List BL:=[aC k k,aC v v,aC (ah 1) (ah 1),aC (ah 0) (ah 0),aC x x,aC y y,aW (aG 1 a h) (aG 1 a h),aW (aG 2 b l) (aG 2 b l),aC x x,aC v v,aW (aG 1 a h) (aG 1 a h),aW (aG 2 b l) (aG 2 b l)]
theorem aAq(A:Prim)(W:Wd)(x y:Int)(a b:Nat)(h l:ϝ)(k v:Int):BD (C7 A W Iy Aw) Dy 300 400 137 J6 (WV x y a b h l 2 k v) [] []=bT (aaz x y a b h l k v) (bT (aaz x y a b h l k v) (bT (aaz x y a b h l k v) (aJ (aN (bF [bG [aQ .i64 x,aQ .i64 v,aG 1 a h,aG 2 b l],aQ .i64 (ah 1),aQ .i64 (ah 0),ni cZ]))))):=by kernel_rfl
def aaA(x y:Int)(a b:Nat)(h l:ϝ)(k v:Int):List BL:=[aC k k,aC v v,aC (ah 1) (ah 1),aC (ah 0) (ah 0),aC x x,aC y y,aW (aG 1 a h) (aG 1 a h),aW (aG 2 b l) (aG 2 b l),aC x x,aC (KN y v) (KN y v),aW (aG 1 a h) (aG 1 a h),aW (aG 2 b l) (aG 2 b l)]
theorem aAr(A:Prim)(W:Wd)(x y:Int)(a b:Nat)(h l:ϝ)(k v:Int):BD (C7 A W Iy Aw) Dy 300 400 137 J6 (WV x y a b h l 3 k v) [] []=bT (aaA x y a b h l k v) (bT (aaA x y a b h l k v) (bT (aaA x y a b h l k v) (aJ (aN (bF [bG [aQ .i64 x,aQ .i64 (KN y v),aG 1 a h,aG 2 b l],aQ .i64 (ah 1),aQ .i64 (ah 0),ni cZ]))))):=by kernel_rfl
def aaB(x y:Int)(a b:Nat)(h l:ϝ)(k v:Int):List BL:=[aC k k,aC v v,aC (ah 3) (ah 3),aC y y,aC x x,aC y y,aW (aG 1 a h) (aG 1 a h),aW (aG 2 b l) (aG 2 b l),aC x x,aC y y,aW (aG 1 a h) (aG 1 a h),aW (aG 2 b l) (aG 2 b l)]
theorem aAs(A:Prim)(W:Wd)(x y:Int)(a b:Nat)(h l:ϝ)(k v:Int):BD (C7 A W Iy Aw) Dy 300 400 137 J6 (WV x y a b h l 4 k v) [] []=bT (aaB x y a b h l k v) (bT (aaB x y a b h l k v) (bT (aaB x y a b h l k v) (aJ (aN (bF [bG [aQ .i64 x,aQ .i64 y,aG 1 a h,aG 2 b l],aQ .i64 (ah 3),aQ .i64 y,ni cZ]))))):=by kernel_rfl
def aaC(x y:Int)(a b:Nat)(h l:ϝ)(k v:Int):List BL:=[aC k k,aC v v,aC (ah 1) (ah 1),aC (ah 0) (ah 0),aC x x,aC y y,aW (aG 1 a h) (aG 1 a h),aW (aG 2 b l) (aG 2 b l),aC x x,aC y y,aW (aG 1 a.succ (Hz a h [aQ .i64 v])) (aG 1 a.succ (Hz a h [aQ .i64 v])),aW (aG 2 b l) (aG 2 b l)]
theorem aAt(A:Prim)(W:Wd)(x y:Int)(a b:Nat)(h l:ϝ)(k v:Int):BD (C7 A W Iy Aw) Dy 300 400 137 J6 (WV x y a b h l 5 k v) [] []=aH (Cc a.succ 8) (aH (Cc a.succ 8) (bT (aaC x y a b h l k v) (aH (Cc a.succ 8) (bT (aaC x y a b h l k v) (aH (Cc a.succ 8) (bT (aaC x y a b h l k v) (aJ (aN (bF [bG [aQ .i64 x,aQ .i64 y,aG 1 a.succ (Hz a h [aQ .i64 v]),aG 2 b l],aQ .i64 (ah 1),aQ .i64 (ah 0),ni cZ]))))))))):=by kernel_rfl
def aaD(x y:Int)(a b:Nat)(h l:ϝ)(k v:Int):List BL:=[aC k k,aC v v,aC (WU a) (WU a),aC (TJ a (Ap h)) (TJ a (Ap h)),aC x x,aC y y,aW (aG 1 a h) (aG 1 a h),aW (aG 2 b l) (aG 2 b l),aC x x,aC y y,aW (aG 1 (TI a) (Qv h)) (aG 1 (TI a) (Qv h)),aW (aG 2 b l) (aG 2 b l)]
theorem aAu(A:Prim)(W:Wd)(x y:Int)(a b:Nat)(h l:ϝ)(k v:Int):BD (C7 A W Iy Aw) Dy 300 400 137 J6 (WV x y a b h l 6 k v) [] []=aH (okB Int a h) (aH (okB Int a h) (bT (aaD x y a b h l k v) (aH (okB Int a h) (bT (aaD x y a b h l k v) (aH (okB Int a h) (bT (aaD x y a b h l k v) (aJ (aN (bF [bG [aQ .i64 x,aQ .i64 y,aG 1 (TI a) (Qv h),aG 2 b l],aQ .i64 (WU a),aQ .i64 (TJ a (Ap h)),ni cZ]))))))))):=by kernel_rfl
def aaE(x y:Int)(a b:Nat)(h:ϝ)(p:Nat->Pr)(k v:Int):List BL:=[aC k k,aC v v,aC (ah 1) (ah 1),aC (ah 0) (ah 0),aC x x,aC y y,aW (aG 1 a h) (aG 1 a h),aW (aG 2 b (Am p)) (aG 2 b (Am p)),aC x x,aC y y,aW (aG 1 a h) (aG 1 a h),aW (aG 2 (len (FU (lst Pr b (Am p)) k v)) (Am (nth (FU (lst Pr b (Am p)) k v)))) (aG 2 (len (FU (lst Pr b (Am p)) k v)) (Am (nth (FU (lst Pr b (Am p)) k v))))]
theorem aAv(A:Prim)(W:Wd)(x y:Int)(a b:Nat)(h:ϝ)(p:Nat->Pr)(k v:Int):BD (C7 A W Iy Aw) Dy 300 400 137 J6 (WV x y a b h (Am p) 7 k v) [] []=aH (IW b (Am p)) (aH (ET k) (aH (Cc b.succ 16) (aH (IW b (Am p)) (aH (ET k) (aH (Cc b.succ 16) (bT (aaE x y a b h p k v) (aH (IW b (Am p)) (aH (ET k) (aH (Cc b.succ 16) (bT (aaE x y a b h p k v) (aH (IW b (Am p)) (aH (ET k) (aH (Cc b.succ 16) (bT (aaE x y a b h p k v) (aJ (aN (bF [bG [aQ .i64 x,aQ .i64 y,aG 1 a h,aG 2 (len (FU (lst Pr b (Am p)) k v)) (Am (nth (FU (lst Pr b (Am p)) k v)))],aQ .i64 (ah 1),aQ .i64 (ah 0),ni cZ]))))))))))))))))):=by kernel_rfl
def aaF(x y:Int)(a b:Nat)(h:ϝ)(p:Nat->Pr)(k v:Int):List BL:=[aC k k,aC v v,aC (L8 (lst Pr b (Am p)) k) (L8 (lst Pr b (Am p)) k),aC (Lc (lst Pr b (Am p)) k) (Lc (lst Pr b (Am p)) k),aC x x,aC y y,aW (aG 1 a h) (aG 1 a h),aW (aG 2 b (Am p)) (aG 2 b (Am p)),aC x x,aC y y,aW (aG 1 a h) (aG 1 a h),aW (aG 2 b (Am p)) (aG 2 b (Am p))]
theorem aAw(A:Prim)(W:Wd)(x y:Int)(a b:Nat)(h:ϝ)(p:Nat->Pr)(k v:Int):BD (C7 A W Iy Aw) Dy 300 400 137 J6 (WV x y a b h (Am p) 8 k v) [] []=aH (IW b (Am p)) (aH (ET k) (aH (IW b (Am p)) (aH (ET k) (bT (aaF x y a b h p k v) (aH (IW b (Am p)) (aH (ET k) (bT (aaF x y a b h p k v) (aH (IW b (Am p)) (aH (ET k) (bT (aaF x y a b h p k v) (aJ (aN (bF [bG [aQ .i64 x,aQ .i64 y,aG 1 a h,aG 2 b (Am p)],aQ .i64 (L8 (lst Pr b (Am p)) k),aQ .i64 (Lc (lst Pr b (Am p)) k),ni cZ]))))))))))))):=by kernel_rfl
def aaG(x y:Int)(a b:Nat)(h:ϝ)(p:Nat->Pr)(k v:Int):List BL:=[aC k k,aC v v,aC (L8 (lst Pr b (Am p)) k) (L8 (lst Pr b (Am p)) k),aC (Lc (lst Pr b (Am p)) k) (Lc (lst Pr b (Am p)) k),aC x x,aC y y,aW (aG 1 a h) (aG 1 a h),aW (aG 2 b (Am p)) (aG 2 b (Am p)),aC x x,aC y y,aW (aG 1 a h) (aG 1 a h),aW (aG 2 (len (GU (lst Pr b (Am p)) k)) (Am (nth (GU (lst Pr b (Am p)) k)))) (aG 2 (len (GU (lst Pr b (Am p)) k)) (Am (nth (GU (lst Pr b (Am p)) k))))]
theorem aAx(A:Prim)(W:Wd)(x y:Int)(a b:Nat)(h:ϝ)(p:Nat->Pr)(k v:Int):BD (C7 A W Iy Aw) Dy 300 400 137 J6 (WV x y a b h (Am p) 9 k v) [] []=aH (IW b (Am p)) (aH (ET k) (aH (Cc b.succ 16) (aH (IW b (Am p)) (aH (ET k) (aH (Cc b.succ 16) (bT (aaG x y a b h p k v) (aH (IW b (Am p)) (aH (ET k) (aH (Cc b.succ 16) (bT (aaG x y a b h p k v) (aH (IW b (Am p)) (aH (ET k) (aH (Cc b.succ 16) (bT (aaG x y a b h p k v) (aJ (aN (bF [bG [aQ .i64 x,aQ .i64 y,aG 1 a h,aG 2 (len (GU (lst Pr b (Am p)) k)) (Am (nth (GU (lst Pr b (Am p)) k)))],aQ .i64 (L8 (lst Pr b (Am p)) k),aQ .i64 (Lc (lst Pr b (Am p)) k),ni cZ]))))))))))))))))):=by kernel_rfl
end Go.Proofs
namespace Go.Pl
open Go Go.Sx
def Iz(x op:Int):Bool:=decide (x=0) || !decide (Fp op=x)
def Jr(x y op k v:Int):Bool:=
 (!decide (k=0) && !keyed op)||decide (k<0)||decide (1000<k)||(!decide (v=0) && !valued op)||decide (v < -1000000000)||decide (1000000000<v)||(decide (op=3)&&J5 x 0 (KN y v))
end Go.Pl
namespace Go.Proofs
open Go Go.Sx Go.Pl
theorem O66:AO ak (AZ W7) 97 F66:=by
 refine CV (Ox Aw) 300 400 L0 Tryz.f97 fun H w Bl args φ hrep h=>?_
 have hn:Tryz.f97.ntmps=17:=by kernel_rfl
 unfold F66 at h;split at h
 ·rename_i t
  split at h
  ·rename_i op ht
   match args,hrep with
   |[v],⟨hv,_⟩=>
    refine ⟨[.i .i64 op],⟨Dz ht hv,ϖ⟩,?_⟩;rw[hn,a66 Ak W7 op];have key (n:Int) (e:Fp op=n):up φ (.i .i64 n):=AY (s':=.i .i64 (Fp op)) (by rw[e];rfl) h;have q1:ah 1=1:=rfl;have q2:ah 2=2:=rfl;have q3:ah 3=3:=rfl;have q4:ah 4=4:=rfl;have q5:ah 5=5:=rfl;have q6:ah 6=6:=rfl;have q7:ah 7=7:=rfl;have q8:ah 8=8:=rfl;have q9:ah 9=9:=rfl;have q0:ah 0=0:=rfl;simp only[AQ,q0,q1,q2,q3,q4,q5,q6,q7,q8,q9];(refine ⟨fun _=>key _ ?_,fun _=>⟨fun _=>key _ ?_,fun _=>⟨fun _=>key _ ?_,fun _=>⟨fun _=>key _ ?_,fun _=>⟨fun _=>key _ ?_,fun _=>⟨fun _=>key _ ?_,fun _=>⟨fun _=>key _ ?_,fun _=>⟨fun _=>key _ ?_,fun _=>⟨fun _=>key _ ?_,fun _=>key _ ?_⟩⟩⟩⟩⟩⟩⟩⟩⟩)<;>simp_all [Fp]
  ·exact h.elim
 ·exact h.elim
theorem O67:AO ak (AZ W7) 147 F67:=by
 refine CV (Ox Aw) 300 400 L0 zU fun H w Bl args φ hrep h=>?_
 have hn:zU.ntmps=13:=by kernel_rfl
 unfold F67 at h;split at h
 ·rename_i t
  split at h
  ·rename_i op ht
   match args,hrep with
   |[v],⟨hv,_⟩=>
    refine ⟨[.i .i64 op],⟨Dz ht hv,ϖ⟩,?_⟩;rw[hn,a67 Ak W7 op];have key (n:Bool) (e:keyed op=n):up φ (.b n):=AY (s':=.b (keyed op)) (by rw[e];exact .inl rfl) h;have q7:ah 7=7:=rfl;have q8:ah 8=8:=rfl;have q9:ah 9=9:=rfl;simp only[AQ,q7,q8,q9];(refine ⟨fun _=>key _ ?_,fun _=>⟨fun _=>key _ ?_,fun _=>key _ ?_⟩⟩)<;>grind [keyed]
  ·exact h.elim
 ·exact h.elim
theorem O68:AO ak (AZ W7) 149 F68:=by
 refine CV (Ox Aw) 300 400 L0 zV fun H w Bl args φ hrep h=>?_
 have hn:zV.ntmps=17:=by kernel_rfl
 unfold F68 at h;split at h
 ·rename_i t
  split at h
  ·rename_i op ht
   match args,hrep with
   |[v],⟨hv,_⟩=>
    refine ⟨[.i .i64 op],⟨Dz ht hv,ϖ⟩,?_⟩;rw[hn,a68 Ak W7 op];have key (n:Bool) (e:valued op=n):up φ (.b n):=AY (s':=.b (valued op)) (by rw[e];exact .inl rfl) h;have q2:ah 2=2:=rfl;have q3:ah 3=3:=rfl;have q5:ah 5=5:=rfl;have q7:ah 7=7:=rfl;simp only[AQ,q2,q3,q5,q7];(refine ⟨fun _=>key _ ?_,fun _=>⟨fun _=>key _ ?_,fun _=>⟨fun _=>key _ ?_,fun _=>key _ ?_⟩⟩⟩)<;>grind [valued]
  ·exact h.elim
 ·exact h.elim
theorem O69:AO ak (AZ W7) 157 F69:=by
 refine CV (Ox Aw) 300 400 L0 zW fun H w Bl args φ hrep h=>?_
 have hn:zW.ntmps=27:=by kernel_rfl
 unfold F69 at h;split at h
 ·rename_i t u v
  split at h
  ·rename_i k x y ht hu hv
   match args,hrep with
   |[v1,v2,v3],⟨r1,r2,r3,_⟩=>
    refine ⟨[.i .i64 k,.i .i64 x,.i .i64 y],⟨Dz ht r1,Dz hu r2,Dz hv r3,ϖ⟩,?_⟩;rw[hn,a69 Ak W7 k x y];have key (n:Bool) (e:J5 k x y=n):up φ (.b n):=AY (s':=.b (J5 k x y)) (by rw[e];exact .inl rfl) h;have q0:ah 0=0:=rfl;have q2:ah 2=2:=rfl;have q3:ah 1000=1000:=rfl;have q4:ah 1000000000=1000000000:=rfl;have q5:ah 1000000000000000=1000000000000000:=rfl;have q6:gZ 999999999=-1000000000:=rfl;have q7:gZ 999999999999999=-1000000000000000:=rfl;simp only[AQ,Ar,q0,q2,q3,q4,q5,q6,q7];(refine ⟨fun e=>⟨fun _=>key _ ?_,fun _=>⟨fun _=>key _ ?_,fun _=>⟨fun _=>key _ ?_,fun _=>key _ ?_⟩⟩⟩,fun e=>⟨fun _=>key _ ?_,fun _=>⟨fun _=>key _ ?_,fun _=>⟨fun _=>key _ ?_,fun _=>key _ ?_⟩⟩⟩⟩)<;>grind [J5]
  ·exact h.elim
 ·exact h.elim
theorem Js{H:Mem}{t:Sh}{v:Value}{c:Int}(h:Bd t=aj c)(r:Rep H t v):Rep H (.i .i64 c) v:=Dz h r
theorem O94:AO ak (AZ W7) 177 F94:=by
 refine CV (Ox Aw) 300 400 L0 zX fun H w Bl args φ hrep h=>?_
 have hn:zX.ntmps=12:=by kernel_rfl
 unfold F94 at h;split at h
 ·rename_i x y s2 s3 t u
  split at h
  ·rename_i a hh b l p q hs2 hs3 ht hu
   match args,hrep with
   |[v,v1,v2],⟨hv,r1,r2,_⟩=>
    refine ⟨[.agg [.i .i64 x,.i .i64 y,.sl 1 a hh,.sl 2 b l],.i .i64 p,.i .i64 q],⟨HY hv (fun u hu=>Bz hs2 hu) (fun u hu=>Bz hs3 hu),Dz ht r1,Dz hu r2,ϖ⟩,?_⟩;rw[hn,a94 Ak W7 x y a b hh l p q];exact AY (s':=.Az [.agg [.i .i64 x,.i .i64 y,.sl 1 a hh,.sl 2 b l],.i .i64 3,.i .i64 y]) (by simp[Wk,Qd]) h
  ·exact h.elim
 ·exact h.elim
theorem O95:AO ak (AZ W7) 178 F95:=by
 refine CV (Ox Aw) 300 400 L0 zY fun H w Bl args φ hrep h=>?_
 have hn:zY.ntmps=12:=by kernel_rfl
 unfold F95 at h;split at h
 ·rename_i x y s2 s3 t u
  split at h
  ·rename_i a hh b l p q hs2 hs3 ht hu
   match args,hrep with
   |[v,v1,v2],⟨hv,r1,r2,_⟩=>
    refine ⟨[.agg [.i .i64 x,.i .i64 y,.sl 1 a hh,.sl 2 b l],.i .i64 p,.i .i64 q],⟨HY hv (fun u hu=>Bz hs2 hu) (fun u hu=>Bz hs3 hu),Dz ht r1,Dz hu r2,ϖ⟩,?_⟩;rw[hn,a95 Ak W7 x y a b hh l p q];exact AY (s':=.Az [.agg [.i .i64 x,.i .i64 q,.sl 1 a hh,.sl 2 b l],.i .i64 1,.i .i64 0]) (by simp[Wk,Qd]) h
  ·exact h.elim
 ·exact h.elim
theorem O96:AO ak (AZ W7) 179 F96:=by
 refine CV (Ox Aw) 300 400 L0 zZ fun H w Bl args φ hrep h=>?_
 have hn:zZ.ntmps=15:=by kernel_rfl
 unfold F96 at h;split at h
 ·rename_i x y s2 s3 t u
  split at h
  ·rename_i a hh b l p q hs2 hs3 ht hu
   match args,hrep with
   |[v,v1,v2],⟨hv,r1,r2,_⟩=>
    refine ⟨[.agg [.i .i64 x,.i .i64 y,.sl 1 a hh,.sl 2 b l],.i .i64 p,.i .i64 q],⟨HY hv (fun u hu=>Bz hs2 hu) (fun u hu=>Bz hs3 hu),Dz ht r1,Dz hu r2,ϖ⟩,?_⟩;rw[hn,a96 Ak W7 x y a b hh l p q];exact AY (s':=.Az [.agg [.i .i64 x,.i .i64 (KN y q),.sl 1 a hh,.sl 2 b l],.i .i64 1,.i .i64 0]) (by simp[Wk,Qd];rfl) h
  ·exact h.elim
 ·exact h.elim
theorem O97:AO ak (AZ W7) 180 F97:=by
 refine CV (Ox Aw) 300 400 L0 Aa fun H w Bl args φ hrep h=>?_
 have hn:Aa.ntmps=17:=by kernel_rfl
 unfold F97 at h;split at h
 ·rename_i x y s2 s3 t u
  split at h
  ·rename_i a hh b l p q hs2 hs3 ht hu
   obtain ⟨h1,hφ⟩:=h;match args,hrep with
   |[v,v1,v2],⟨hv,r1,r2,_⟩=>
    refine ⟨[.agg [.i .i64 x,.i .i64 y,.sl 1 a hh,.sl 2 b l],.i .i64 p,.i .i64 q],⟨HY hv (fun u hu=>Bz hs2 hu) (fun u hu=>Bz hs3 hu),Dz ht r1,Dz hu r2,ϖ⟩,?_⟩;have h0:=Ny h1 (vY a);rw[hn,a97 Ak W7 x y a b hh l p q,Jp,QX,ad6];have fin:up φ (.Az [.agg [.i .i64 x,.i .i64 y,.os 3 1 (a+1) (Ak.snoc hh a (Bh [[.i .i64 q]])),.sl 2 b l],.i .i64 (ah 1),.i .i64 (ah 0)]):=
     AY (s':=.Az [.agg [.i .i64 x,.i .i64 y,.sl 1 (a+1) (Hz a hh [.i .i64 q]),.sl 2 b l],.i .i64 1,.i .i64 0]) ⟨⟨rfl,rfl,.inr ⟨rfl,rfl,ag1⟩,.inr ⟨rfl,rfl,fun _ _=>rfl⟩,ϖ⟩,rfl,rfl,ϖ⟩ hφ
    refine ⟨fun e=>⟨?_,h0,h1,fin⟩,fun _=>⟨h0,h1,fin⟩⟩;have e:a=0:=by have:=ϑ (show decide (a<=0)=ay from e);omega
    subst e;assumption
  ·exact h.elim
 ·exact h.elim
theorem O99:AO ak (AZ W7) 182 F99:=by
 refine CV (Ox Aw) 300 400 L0 Ac fun H w Bl args φ hrep h=>?_
 have hn:Ac.ntmps=25:=by kernel_rfl
 unfold F99 at h;split at h
 ·rename_i x y s2 s3 t u
  split at h
  ·rename_i a hh b l p q hs2 hs3 ht hu
   obtain ⟨h1,hφ⟩:=h;match args,hrep with
   |[v,v1,v2],⟨hv,r1,r2,_⟩=>
    refine ⟨[.agg [.i .i64 x,.i .i64 y,.sl 1 a (Am (Ap (α:=Int) hh)),.sl 2 b l],.i .i64 p,.i .i64 q],⟨HY hv (fun u hu=>CY (Bz hs2 hu) h1) (fun u hu=>Bz hs3 hu),Dz ht r1,Dz hu r2,ϖ⟩,?_⟩;have hrow:=I5 h1;generalize Ap (α:=Int) hh=o at *;have hφ:φ (.Az [.agg [.i .i64 x,.i .i64 y,.sl 1 (TI a) (Qv hh),.sl 2 b l],.i .i64 (WU a),.i .i64 (TJ a o)]):=hφ;rw[hn,a99 Ak W7 x y a b o l p q];refine ⟨fun e=>?_,fun e=>?_⟩
    ·have e:a=0:=by grind [AQ,AL]
     subst e;exact AY (s':=.Az [.agg [.i .i64 x,.i .i64 y,.sl 1 (TI 0) (Qv hh),.sl 2 b l],.i .i64 (WU 0),.i .i64 (TJ 0 o)]) ⟨⟨rfl,rfl,.inl ⟨rfl,rfl⟩,.inr ⟨rfl,rfl,fun _ _=>rfl⟩,ϖ⟩,rfl,rfl,ϖ⟩ hφ
    ·have e:¬a=0:=by grind [AQ,AL]
     refine ⟨by simp[AX];omega,by simp[EX];omega,?_⟩;refine AY (s':=.Az [.agg [.i .i64 x,.i .i64 y,.sl 1 (TI a) (Qv hh),.sl 2 b l],.i .i64 (WU a),.i .i64 (TJ a o)]) ⟨⟨rfl,rfl,.inr ⟨rfl,rfl,fun j hj=>?_⟩,.inr ⟨rfl,rfl,fun _ _=>rfl⟩,ϖ⟩,?_,?_,ϖ⟩ hφ
     ·have hj:j<a - 1:=hj
      show Am o (1+j)=hh (1+j);rw[hrow (1+j) (by omega)];rfl
     ·simp[Wk,WU,e]
     ·simp[Wk,TJ,e]
  ·exact h.elim
 ·exact h.elim
end Go.Proofs
namespace Go.Pl
open Go Go.Sx
def Ey(s:A8)(op k v:Int):A8×Int×Int:=
 if op=1\/op=4 then (s,3,s.num)
 else if op=2 then ({s with num:=v},1,0)
 else if op=3 then ({s with num:=KN s.num v},1,0)
 else if op=5 then ({s with q:=s.q++[v]},1,0)
 else if op=6 then ({s with q:=s.q.tail},WU s.q.length,s.q.headD 0)
 else if op=7 then ({s with ps:=FU s.ps k v},1,0)
 else if op=8 then (s,L8 s.ps k,Lc s.ps k)
 else if op=9 then ({s with ps:=GU s.ps k},L8 s.ps k,Lc s.ps k)
 else (s,0,0)
def newT(o:Nat->Oj)(j:Nat):A8:=⟨(o j).kind,(o j).init,[],[]⟩
def noT:ϝ:=fun _=>[]
end Go.Pl
namespace Go.Proofs
open Go Go.Sx Go.Pl
theorem ODs:∀g F,Iy g=aj F->AO ak (AZ W7) g F:=fun g F h=>by
 unfold Iy at h;split at h
 ·cases h;exact O66
 ·cases h;exact O67
 ·cases h;exact O68
 ·cases h;exact O69
 ·cases h;exact O94
 ·cases h;exact O95
 ·cases h;exact O96
 ·cases h;exact O97
 ·cases h;exact O99
 ·cases h;exact aCI
 ·cases h;exact aCK
 ·cases h;exact aCL
 ·cases h
theorem WW(stop:Nat->List Nat->Bool):BJ ak (C7 Ak W7 Iy stop):=ig ODs fun g h=>by
 unfold Iy at h;split at h;all_goals first|(cases h;done) |kernel_rfl
def F42:ϵ
 |[.agg [.i .i64 x,.i .i64 y,s2,s3],t,u,v]=>match Dj 1 s2,Dj 2 s3,Bd t,Bd u,Bd v with
  |some (a,h),aj (b,l),aj op,aj k,aj v=>.need (okB Int a h) (.need (okB Pr b l) (.need (Cc (a+1) 8) (.node (Iz x op) (.leaf (.Az [.agg (DU PN),.i .i64 0,.i .i64 0,.er 7 322])) (.node (Jr x y op k v) (.leaf (.Az [.agg (DU PN),.i .i64 0,.i .i64 0,.er 13 322]))
    (.need (MS op b l) (.leaf (.Az [.agg (DU (Ey ⟨x,y,lst Int a h,lst Pr b l⟩ op k v).1),.i .i64 (Ey ⟨x,y,lst Int a h,lst Pr b l⟩ op k v).2.1,.i .i64 (Ey ⟨x,y,lst Int a h,lst Pr b l⟩ op k v).2.2,.v .nilIface])))))))
  |_,_,_,_,_=>.fail
 |_=>.fail
theorem aus{α:Type}[Row α](l:List α)(a:α):∀i,i<l.length+1->Hz l.length (Am (nth l)) (Row.put a) i=Am (nth (l++[a])) i:=fun i hi=>by
 grind [Hz,Am,nth,gY]
theorem H6{α:Type}[Row α](o:Nat->α):Ap (Am o)=o:=funext fun i=>MQ o i
section
variable{H0:Mem}{w0:World}{φ:Sh->Prop}
theorem aCP{x y op k v:Int}{q:List Int}{ps:List Pr}(hr:Cc (q.length+1) 8=ay)(hop:op=1\/op=2\/op=3\/op=4\/op=5\/op=6\/op=7\/op=8\/op=9)(hm:MS op ps.length (Am (nth ps))=ay)(hkey:ET k=ay)
  (hφ:φ (.Az [.agg (DU (Ey ⟨x,y,q,ps⟩ op k v).1),.i .i64 (Ey ⟨x,y,q,ps⟩ op k v).2.1,.i .i64 (Ey ⟨x,y,q,ps⟩ op k v).2.2,.v .nilIface])) :
  AB ak (C7 Ak W7 Iy Aw) (K0 H0 w0) 137 J6 (L42 x y q.length ps.length (Am (nth q)) (Am (nth ps)) op k v) [] emp (up φ):=by
 have lit (n:Int) (h:AB ak (C7 Ak W7 Iy Aw) (K0 H0 w0) 137 J6 (WV x y q.length ps.length (Am (nth q)) (Am (nth ps)) n k v) [] emp (up φ)):AB ak (C7 Ak W7 Iy Aw) (K0 H0 w0) 137 J6 (L42 x y q.length ps.length (Am (nth q)) (Am (nth ps)) n k v) [] emp (up φ):=
  arf _ (fun H E vs hd=>ak9 1 rfl hd) h
 have fin (s':A8) (r g:Int) (e:Ey ⟨x,y,q,ps⟩ op k v=(s',r,g)) (c:List Sh) (hc:Qd c (DU s')):up φ (.Az [.agg c,.i .i64 r,.i .i64 g,.v .nilIface]):=
  AY (s':=.Az [.agg (DU (Ey ⟨x,y,q,ps⟩ op k v).1),.i .i64 (Ey ⟨x,y,q,ps⟩ op k v).2.1,.i .i64 (Ey ⟨x,y,q,ps⟩ op k v).2.2,.v .nilIface]) (by rw[e];exact ⟨hc,rfl,rfl,rfl,ϖ⟩) hφ
 rcases hop with rfl|rfl|rfl|rfl|rfl|rfl|rfl|rfl|rfl
 ·refine lit 1 (UE (WW _) 300 400 [] ?_)
  rw[aAp Ak W7 x y q.length ps.length (Am (nth q)) (Am (nth ps)) k v];have:=fin _ _ _ rfl [.i .i64 x,.i .i64 y,.sl 1 q.length (Am (nth q)),.sl 2 ps.length (Am (nth ps))] (by simp[DU,Wk,Qd,len]);repeat' (first|exact ϖ|exact rfl|exact this|refine eU ?_ ?_)
 ·refine lit 2 (UE (WW _) 300 400 [] ?_)
  rw[aAq Ak W7 x y q.length ps.length (Am (nth q)) (Am (nth ps)) k v];have:=fin _ _ _ rfl [.i .i64 x,.i .i64 v,.sl 1 q.length (Am (nth q)),.sl 2 ps.length (Am (nth ps))] (by simp[DU,Wk,Qd,len]);repeat' (first|exact ϖ|exact rfl|exact this|refine eU ?_ ?_)
 ·refine lit 3 (UE (WW _) 300 400 [] ?_)
  rw[aAr Ak W7 x y q.length ps.length (Am (nth q)) (Am (nth ps)) k v];have:=fin _ _ _ rfl [.i .i64 x,.i .i64 (KN y v),.sl 1 q.length (Am (nth q)),.sl 2 ps.length (Am (nth ps))] (by simp[DU,Wk,Qd,len]);repeat' (first|exact ϖ|exact rfl|exact this|refine eU ?_ ?_)
 ·refine lit 4 (UE (WW _) 300 400 [] ?_)
  rw[aAs Ak W7 x y q.length ps.length (Am (nth q)) (Am (nth ps)) k v];have:=fin _ _ _ rfl [.i .i64 x,.i .i64 y,.sl 1 q.length (Am (nth q)),.sl 2 ps.length (Am (nth ps))] (by simp[DU,Wk,Qd,len]);repeat' (first|exact ϖ|exact rfl|exact this|refine eU ?_ ?_)
 ·refine lit 5 (UE (WW _) 300 400 [] ?_)
  rw[aAt Ak W7 x y q.length ps.length (Am (nth q)) (Am (nth ps)) k v];have:=fin _ _ _ rfl [.i .i64 x,.i .i64 y,.sl 1 (q.length+1) (Hz q.length (Am (nth q)) [.i .i64 v]),.sl 2 ps.length (Am (nth ps))] ⟨rfl,rfl,.inr ⟨rfl,by simp[len],aus q v⟩,.inr ⟨rfl,rfl,fun _ _=>rfl⟩,ϖ⟩;repeat' (first|exact ϖ|exact hr|exact rfl|exact this|refine eU ?_ ?_)
 ·refine lit 6 (UE (WW _) 300 400 [] ?_)
  rw[aAu Ak W7 x y q.length ps.length (Am (nth q)) (Am (nth ps)) k v,H6];have hh:TJ q.length (nth q)=q.headD 0:=by cases q<;>rfl
  rw[hh];have:=fin _ _ _ rfl [.i .i64 x,.i .i64 y,.sl 1 (TI q.length) (Qv (Am (nth q))),.sl 2 ps.length (Am (nth ps))] ⟨rfl,rfl,.inr ⟨rfl,by simp[len,TI],fun j hj=>by
   show Am (nth q) (1+j)=Am (nth q.tail) j;simp_all [Am,nth,Nat.add_comm]⟩,.inr ⟨rfl,rfl,fun _ _=>rfl⟩,ϖ⟩
  repeat' (first|exact ϖ|exact Cb _ _|exact rfl|exact this|refine eU ?_ ?_)
 all_goals
  have hm2:(!decide (Fp _=4)||(IW ps.length (Am (nth ps))&&Cc (ps.length+1) 16))=ay:=hm;have hm3:IW ps.length (Am (nth ps))=ay/\Cc (ps.length+1) 16=ay:=by
   simp_all [Fp]
  obtain ⟨m1,m2⟩:=hm3;have el:lst Pr ps.length (Am (nth ps))=ps:=Hy ps
 ·refine lit 7 (UE (WW _) 300 400 [] ?_)
  rw[aAv Ak W7 x y q.length ps.length (Am (nth q)) (nth ps) k v,el];have:=fin _ _ _ rfl [.i .i64 x,.i .i64 y,.sl 1 q.length (Am (nth q)),.sl 2 (len (FU ps k v)) (Am (nth (FU ps k v)))] (by simp[DU,Wk,Qd,len]);repeat' (first|exact ϖ|exact m1|exact m2|exact hkey|exact rfl|exact this|refine eU ?_ ?_)
 ·refine lit 8 (UE (WW _) 300 400 [] ?_)
  rw[aAw Ak W7 x y q.length ps.length (Am (nth q)) (nth ps) k v,el];have:=fin _ _ _ rfl [.i .i64 x,.i .i64 y,.sl 1 q.length (Am (nth q)),.sl 2 ps.length (Am (nth ps))] (by simp[DU,Wk,Qd,len]);repeat' (first|exact ϖ|exact m1|exact m2|exact hkey|exact rfl|exact this|refine eU ?_ ?_)
 ·refine lit 9 (UE (WW _) 300 400 [] ?_)
  rw[aAx Ak W7 x y q.length ps.length (Am (nth q)) (nth ps) k v,el];have:=fin _ _ _ rfl [.i .i64 x,.i .i64 y,.sl 1 q.length (Am (nth q)),.sl 2 (len (GU ps k)) (Am (nth (GU ps k)))] (by simp[DU,Wk,Qd,len]);repeat' (first|exact ϖ|exact m1|exact m2|exact hkey|exact rfl|exact this|refine eU ?_ ?_)
end
theorem alb{op:Int}(h0:Fp op≠0):op=1\/op=2\/op=3\/op=4\/op=5\/op=6\/op=7\/op=8\/op=9:=by
 grind [Fp]
theorem O42:AO ak (AZ W7) 137 F42:=by
 refine CG (C7 Ak W7 Iy Aw) Ad fun H w Bl args φ hrep h=>?_
 have hn:Ad.ntmps=88:=by kernel_rfl
 unfold F42 at h;split at h
 ·rename_i x y s2 s3 t u v
  split at h
  ·rename_i a hh b l op k vv hs2 hs3 ht hu hv
   obtain ⟨h1,h2,h3,he,hb⟩:=h;have hml:MS op b l=ay->MS op (lst Pr b l).length (Am (nth (lst Pr b l)))=ay:=fun hq=>by
    unfold MS IW at hq ⊢;rw[Hy,FH,Cb];simp_all
   match args,hrep with
   |[v0,v1,v2,v3],⟨r0,r1,r2,r3,_⟩=>
    refine ⟨[.agg [.i .i64 x,.i .i64 y,.sl 1 (lst Int a hh).length (Am (nth (lst Int a hh))),.sl 2 (lst Pr b l).length (Am (nth (lst Pr b l)))],.i .i64 op,.i .i64 k,.i .i64 vv],⟨HY r0 (fun u hu=>IQ (Bz hs2 hu) h1) (fun u hu=>IQ (Bz hs3 hu) h2),Dz ht r1,Dz hu r2,Dz hv r3,ϖ⟩,L0,?_⟩;have h3:Cc ((lst Int a hh).length+1) 8=ay:=by simp_all
    have hb:Iz x op=aA->(Jr x y op k vv=ay->φ (.Az [.agg (DU PN),.i .i64 0,.i .i64 0,.er 13 322]))/\(Jr x y op k vv=aA->MS op (lst Pr b l).length (Am (nth (lst Pr b l)))=ay/\φ (.Az [.agg (DU (Ey ⟨x,y,lst Int a hh,lst Pr b l⟩ op k vv).1),.i .i64 (Ey ⟨x,y,lst Int a hh,lst Pr b l⟩ op k vv).2.1,.i .i64 (Ey ⟨x,y,lst Int a hh,lst Pr b l⟩ op k vv).2.2,.v .nilIface])):=fun e=>⟨(hb e).1,fun e2=>⟨hml ((hb e).2 e2).1,((hb e).2 e2).2⟩⟩;clear hml;generalize lst Int a hh=q at *;generalize lst Pr b l=ps at *;have e1 (e:Iz x op=ay):up φ (.Az [.agg [.i .i64 (ah 0),.i .i64 (ah 0),.sl 0 0 fun _=>[],.sl 0 0 fun _=>[]],.i .i64 (ah 0),.i .i64 (ah 0),.er 7 322]):=
     AY (s':=.Az [.agg (DU PN),.i .i64 0,.i .i64 0,.er 7 322]) ⟨⟨rfl,rfl,.inl ⟨rfl,rfl⟩,.inl ⟨rfl,rfl⟩,ϖ⟩,rfl,rfl,rfl,ϖ⟩ (he e)
    have e3 (e:Iz x op=aA) (e2:Jr x y op k vv=ay):up φ (.Az [.agg [.i .i64 (ah 0),.i .i64 (ah 0),.sl 0 0 fun _=>[],.sl 0 0 fun _=>[]],.i .i64 (ah 0),.i .i64 (ah 0),.er 13 322]):=
     AY (s':=.Az [.agg (DU PN),.i .i64 0,.i .i64 0,.er 13 322]) ⟨⟨rfl,rfl,.inl ⟨rfl,rfl⟩,.inl ⟨rfl,rfl⟩,ϖ⟩,rfl,rfl,rfl,ϖ⟩ ((hb e).1 e2)
    have go (e:Iz x op=aA) (e2:Jr x y op k vv=aA):∃t:Py,([⟨137,J6,L42 x y q.length ps.length (Am (nth q)) (Am (nth ps)) op k vv,[]⟩]:List Py)[0]?=aj t/\AB ak (C7 Ak W7 Iy Aw) (K0 H w) t.g t.td t.c t.stk emp (up φ):=
     ⟨_,rfl,aCP h3 (alb (by
      simp_all [Iz])) ((hb e).2 e2).1 (by
       simp_all [Jr,ET,ϱ]) ((hb e).2 e2).2⟩
    refine akF (C7.ok _ _) (WW _) (pause:=ala) (m:=300) (n:=400) (ts:=[⟨137,J6,L42 x y q.length ps.length (Am (nth q)) (Am (nth ps)) op k vv,[]⟩]) ?_;rw[hn,a42 Ak W7 x y q.length ps.length (Am (nth q)) (Am (nth ps)) op k vv];have q0:ah 0=0:=rfl;have q3:ah 3=3:=rfl;have qk:ah 1000=1000:=rfl;have q4:ah 1000000000=1000000000:=rfl;have q6:gZ 999999999=-1000000000:=rfl;have qa:Ak.add .i64 y vv=KN y vv:=rfl;rw[q0] at e1 e3;simp only[AQ,BG,Ar,q0,q3,qk,q4,q6,qa];clear he hb h3 hn;repeat' (first|exact ϖ|exact rfl|(intro _) |refine eU ?_ ?_)
    all_goals first
     |exact e1 (by simp_all [Iz])
     |exact e3 (by simp_all [Iz]) (by simp_all [Jr])
     |simp_all [Iz,Jr]
  ·exact h.elim
 ·exact h.elim
open Go Go.Sx Go.Pl
theorem OCs:∀g F,TK g=aj F->AO ak (AZ W7) g F:=fun g F h=>by
 unfold TK at h;split at h
 ·cases h;exact O33
 ·cases h;exact O35
 ·cases h;exact O41
 ·cases h;exact O49
 ·cases h;exact O50
 ·cases h;exact O54
 ·cases h;exact O56
 ·cases h
theorem aut(stop:Nat->List Nat->Bool):BJ ak (C7 Ak W7 TK stop):=ig OCs fun g h=>by
 unfold TK at h;split at h;all_goals first|(cases h;done) |kernel_rfl
def F25:ϵ
 |[s0]=>match Dj 2 s0 with
  |some (n,g)=>.need (okB Oj n g) (.need (TD n (Ap g)) (.node (Vm n) (.leaf (.Az [.agg [.sl 4 0 noT],.er 5 322])) (.node (PO n (Ap g)) (.leaf (.Az [.agg [.sl 4 n (Df (newT (Ap g)))],.v .nilIface])) (.leaf (.Az [.agg [.sl 4 0 noT],.DK 184 (.pt [.i .i64 (Nz n (Ap g)),.er 6 322])]))))) |none=>.fail
 |_=>.fail
theorem ari{n j:Nat}{g:ϝ}{r:List Sh}(h:j<n):Hz n g r j=g j:=if_pos h
theorem ag6{n:Nat}{g:ϝ}{r:List Sh}:Hz n g r n=r:=if_neg (by omega)
section
variable{H0:Mem}{w0:World}{φ:Sh->Prop}
theorem Y4{n:Nat}{o:Nat->Oj}(hn:n<=8)(hk:∀j,j<n->DN (o j).kind=ay)(hT:∀j,j<n->En (o j).kind (o j).init=aA)(hφ:φ (.Az [.agg [.sl 4 n (Df (newT o))],.v .nilIface])):
  ∀r k (gg:ϝ),k+r=n->(∀j,j<k->gg j=DU (newT o j))->AB ak (C7 Ak W7 TK Aw) (K0 H0 w0) 80 PS (Y3 n o (k:Int) k gg aA) [] emp (up φ)
 |r,k,gg,hkr,hg=>by
  refine D6 qy apu ?_;refine UE (aut _) 300 400 [⟨80,PS,Y3 n o (k+1:Nat) (k+1) (Hz k gg (DU (newT o k))) aA,[]⟩] ?_;rw[b25 Ak W7 n o k (k+1:Nat) k (k+1) gg (Hz k gg (DU (newT o k)))];simp only[Ar,AX,Cm,Ef,I7,dA];refine ⟨fun h=>?_,fun h=>?_⟩
  ·have hlt:k<n:=by simp_all
   refine ⟨by simp;omega,hk k hlt,fun hb=>(by simp_all),fun _=>⟨room_le (by omega) (by omega),⟨rfl,rfl,?_,rfl,ϖ⟩,_,rfl,?_⟩⟩
   ·grind [BL.ok,CU]
   ·match r,hkr with
    |0,hkr=>omega |r+1,hkr=>
     refine Y4 hn hk hT hφ r (k+1) _ (by omega) fun j hj=>?_
     grind [ag6,ari]
  ·have:k=n:=by grind
   subst this;exact AY (s':=.Az [.agg [.sl 4 k (Df (newT o))],.v .nilIface]) ⟨⟨.inr ⟨rfl,rfl,hg⟩,ϖ⟩,rfl,ϖ⟩ hφ
end
theorem O25:AO ak (AZ W7) 80 F25:=by
 refine CG (C7 Ak W7 TK Aw) qy fun H w Bl args φ hrep h=>?_
 have hn:qy.ntmps=38:=by kernel_rfl
 unfold F25 at h;split at h
 ·rename_i s0
  split at h
  ·rename_i n g hs0
   obtain ⟨h1,h2,hbig,hsm⟩:=h;have hsm:Vm n=aA->(PO n (Ap g)=ay->φ (.Az [.agg [.sl 4 n (Df (newT (Ap g)))],.v .nilIface]))/\(PO n (Ap g)=aA->φ (.Az [.agg [.sl 4 0 noT],.DK 184 (.pt [.i .i64 (Nz n (Ap g)),.er 6 322])])):=hsm;match args,hrep with
   |[v],⟨hv,_⟩=>
    refine ⟨[.sl 2 n (Am (Ap (α:=Oj) g))],⟨CY (Bz hs0 hv) h1,ϖ⟩,L0,?_⟩;generalize Ap (α:=Oj) g=o at *;refine UE (aut _) 300 400 [⟨80,PS,Y3 n o (0:Nat) 0 noT ay,[]⟩] ?_;rw[hn,a25 Ak W7 n o (0:Nat) 0 noT,H6];refine ⟨Cb _ _,h2,fun e=>AY (s':=.Az [.agg [.sl 4 0 noT],.er 5 322]) ⟨⟨.inl ⟨rfl,rfl⟩,ϖ⟩,rfl,ϖ⟩ (hbig e),fun e=>?_⟩;obtain ⟨q1,q2⟩:=hsm e;have hn8:n<=8:=by simp_all [Vm]
    refine ⟨fun e=>⟨⟨rfl,rfl,rfl,ϖ⟩,_,rfl,?_⟩,fun e=>AY (s':=.Az [.agg [.sl 4 0 noT],.DK 184 (.pt [.i .i64 (Nz n o),.er 6 322])]) ⟨⟨.inl ⟨rfl,rfl⟩,ϖ⟩,rfl,ϖ⟩ (q2 e)⟩;have hT:∀j,j<n->En (o j).kind (o j).init=aA:=fun j hj=>by simpa using G6 e j hj
    refine D6 qy apu ?_;refine UE (aut _) 300 400 [⟨80,PS,Y3 n o (1:Nat) 1 (Hz 0 (fun _=>[]) (DU (newT o 0))) aA,[]⟩] ?_;rw[c25 Ak W7 n o (0:Nat) (1:Nat) 0 1 noT (Hz 0 (fun _=>[]) (DU (newT o 0)))];simp only[Ar,AX,Cm,Ef,I7,dA];refine ⟨fun h=>?_,fun h=>?_⟩
    ·have hlt:0<n:=by simp_all
     refine ⟨by simp;omega,G6 h2 0 hlt,fun hb=>(by simp_all),fun _=>⟨room_le (by omega) (by omega),⟨rfl,rfl,?_,rfl,ϖ⟩,_,rfl,?_⟩⟩
     ·rfl
     ·refine Y4 hn8 (G6 h2) hT (q1 e) (n - 1) 1 _ (by omega) fun j hj=>?_
      obtain rfl:j=0:=by omega
      exact ag6
    ·have:n=0:=by simp_all
     subst this;exact AY (s':=.Az [.agg [.sl 4 0 (Df (newT o))],.v .nilIface]) ⟨⟨.inl ⟨rfl,rfl⟩,ϖ⟩,rfl,ϖ⟩ (q1 e)
  ·exact h.elim
 ·exact h.elim
end Go.Proofs
namespace Go.Pl
open Go Go.Sx
structure Lk7 where
 key:A8->List UInt8
 join:Nat->ϝ->List UInt8->List UInt8
def sQ(x y:Int)(a:Nat)(h:ϝ)(b:Nat)(l:ϝ):A8:=⟨x,y,lst Int a h,lst Pr b l⟩
def abI(x y:Int)(a:Nat)(h:ϝ)(b:Nat)(l:ϝ):Bool:=
 okB Int a h&&okB Pr b l&&DN x&&DN y&&atY a (Ap h)&&ay9 b (Ap l)&&decide (a<=100000/\b<=100000)
def aed(n:Nat)(g:ϝ)(sep:List UInt8):Bool:=okB (List UInt8) n g&&Cc n 16&&JD (Eb (lst (List UInt8) n g) sep)
end Go.Pl
namespace Go.Proofs
open Go Go.Sx Go.Pl
def G35(L:Lk7):ϵ
 |[.agg [.i .i64 x,.i .i64 y,s2,s3]]=>match Dj 1 s2,Dj 2 s3 with
  |some (a,h),aj (b,l)=>.need (abI x y a h b l) (.leaf (.str (L.key (sQ x y a h b l)))) |_,_=>.fail
 |_=>.fail
def G56(L:Lk7):ϵ
 |[s0,.str sep]=>match Dj 1 s0 with
  |some (n,g)=>.need (aed n g sep) (.leaf (.str (L.join n g sep))) |none=>.fail
 |_=>.fail
def F64:ϵ
 |[.agg [s0]]=>match Dj 4 s0 with
  |some (n,g)=>.need (Cc n 64) (.leaf (.sl 4 n g)) |none=>.fail
 |_=>.fail
def Oe(L:Lk7):ϕ
 |105=>aj (G35 L) |106=>aj (G56 L) |129=>aj F64 |_=>aF
def ald:List Nat:=[0,1,0,1,1]
def k32:List It:=[aX 0,aK [1,1,1]]
def aze(j:Nat)(gg:ϝ):Bool->SV×List (Nat×SB)
 |true=>(.Bg,[]) |false=>(.gs 2,[(2,.own 9 1 j gg)])
def ale(n:Nat)(d:Nat->A8)(j:Nat)(gg:ϝ)(v:Bool):List (Nat×SB):=[(0,.box [(aze j gg v).1] 229),(1,.box [.sh (.sl 4 n (Df d))] 153)]++(aze j gg v).2
def alf:List SV:=DF 17 [(3,.ptr 0 0),(7,.fn 130 [.ptr 1 0])]
def L32(n:Nat)(d:Nat->A8):Core:={tm:=alf,hp:=ale n d 0 (fun _=>[]) ay,nx:=2,lim:=L0,tc:=[]}
def UF(l:Nat):List Fw:=[⟨82,aF,k32,alf,aj (l,ald,.ready)⟩]
def WX:List It:=[aK [0,1],aX 0]
def apv:List It:=aK [0,0,1]::WX
def aCQ:Bool->Nat
 |true=>2 |false=>3
def L63(n:Nat)(d:Nat->A8)(l:Nat)(k:Int)(j:Nat)(gg:ϝ)(v:Bool):Core:=
 {tm:=DF 20 [(0,.val (yv l)),(7,.sh (.sl 4 n (Df d))),(8,.sym .i64 (n:Int)),(9,.sym .i64 k)],hp:=ale n d j gg v,nx:=aCQ v,lim:=L0,tc:=[]}
theorem a32(A:Prim)(W:Wd)(L:Lk7)(n:Nat)(d:Nat->A8):agU (C7 A W (Oe L) Aw) GR 300 800 82 aF [.code []] (BH 17 [.agg [.sl 4 n (Df d)]] L0) [] [⟨82,aF,.code ald::k32,L32 n d,[]⟩]=aJ (bU 0 [aW (aG 4 n (Df d)) (aG 4 n (Df d))]):=by kernel_rfl
theorem t32(A:Prim)(W:Wd)(L:Lk7)(n:Nat)(d:Nat->A8)(l:Nat)(k:Int)(j:Nat)(gg:ϝ):agU (C7 A W (Oe L) Aw) GR 300 800 130 aF [.code []] {L32 n d with tm:=(.val (yv l)::[.ptr 1 0])++List.replicate (20 - (1+1)) .any} (UF l) [⟨130,aF,WX,L63 n d l k j gg ay,UF l⟩]=aH (Cc n 64) (aJ (bU 0 [jQ (kP (ny l) {toList:=[]} {toList:=[]}) (kP (ny l) {toList:=[]} {toList:=[]}),aW (aG 4 n (Df d)) (aG 4 n (Df d)),aC (A.AV n) (ah n),aC (ah 0) k,aW (aG 4 n (Df d)) (aG 4 n (Df d)),aZ l l])):=by kernel_rfl
def alg(A:Prim)(L:Lk7)(n:Nat)(d:Nat->A8)(k:Int):List BL:=[aC k k,aC (d (A.toN k)).kind (d (A.toN k)).kind,aC (d (A.toN k)).num (d (A.toN k)).num,aW (aG 1 (len (d (A.toN k)).q) (Am (nth (d (A.toN k)).q))) (aG 1 (len (d (A.toN k)).q) (Am (nth (d (A.toN k)).q))),aW (aG 2 (len (d (A.toN k)).ps) (Am (nth (d (A.toN k)).ps))) (aG 2 (len (d (A.toN k)).ps) (Am (nth (d (A.toN k)).ps))),aW (aG 4 n (Df d)) (aG 4 n (Df d)),aC (d (A.toN k)).kind (d (A.toN k)).kind,aC (d (A.toN k)).num (d (A.toN k)).num,aW (aG 1 (len (d (A.toN k)).q) (Am (nth (d (A.toN k)).q))) (aG 1 (len (d (A.toN k)).q) (Am (nth (d (A.toN k)).q))),aW (aG 2 (len (d (A.toN k)).ps) (Am (nth (d (A.toN k)).ps))) (aG 2 (len (d (A.toN k)).ps) (Am (nth (d (A.toN k)).ps))),aC (d (A.toN k)).kind (d (A.toN k)).kind,aC (d (A.toN k)).num (d (A.toN k)).num,aW (aG 1 (len (d (A.toN k)).q) (Am (nth (d (A.toN k)).q))) (aG 1 (len (d (A.toN k)).q) (Am (nth (d (A.toN k)).q))),aW (aG 2 (len (d (A.toN k)).ps) (Am (nth (d (A.toN k)).ps))) (aG 2 (len (d (A.toN k)).ps) (Am (nth (d (A.toN k)).ps))),aW (dN (L.key (sQ (d (A.toN k)).kind (d (A.toN k)).num (len (d (A.toN k)).q) (Am (nth (d (A.toN k)).q)) (len (d (A.toN k)).ps) (Am (nth (d (A.toN k)).ps))))) (dN (L.key (sQ (d (A.toN k)).kind (d (A.toN k)).num (len (d (A.toN k)).q) (Am (nth (d (A.toN k)).q)) (len (d (A.toN k)).ps) (Am (nth (d (A.toN k)).ps))))),aW (dN (L.key (sQ (d (A.toN k)).kind (d (A.toN k)).num (len (d (A.toN k)).q) (Am (nth (d (A.toN k)).q)) (len (d (A.toN k)).ps) (Am (nth (d (A.toN k)).ps))))) (dN (L.key (sQ (d (A.toN k)).kind (d (A.toN k)).num (len (d (A.toN k)).q) (Am (nth (d (A.toN k)).q)) (len (d (A.toN k)).ps) (Am (nth (d (A.toN k)).ps)))))]
theorem aCR(A:Prim)(W:Wd)(L:Lk7)(n:Nat)(d:Nat->A8)(l:Nat)(k k':Int)(j j':Nat)(gg Je:ϝ):agU (C7 A W (Oe L) Aw) GR 300 800 130 aF apv (L63 n d l k j gg ay) (UF l) [⟨130,aF,WX,L63 n d l k' j' Je aA,UF l⟩]=aP (A.lt k (ah n)) (aH (A.inB k n) (bT [aZ l l] (bT [aZ l l] (aH (abI (d (A.toN k)).kind (d (A.toN k)).num (len (d (A.toN k)).q) (Am (nth (d (A.toN k)).q)) (len (d (A.toN k)).ps) (Am (nth (d (A.toN k)).ps))) (aH (abI (d (A.toN k)).kind (d (A.toN k)).num (len (d (A.toN k)).q) (Am (nth (d (A.toN k)).q)) (len (d (A.toN k)).ps) (Am (nth (d (A.toN k)).ps))) (bT (alg A L n d k) (bT (alg A L n d k) (bT [aZ l l] (aJ (bU 0 [jQ (kP (ny l) {toList:=[]} {toList:=[]}) (kP (ny l) {toList:=[]} {toList:=[]}),aW (aG 4 n (Df d)) (aG 4 n (Df d)),aC (ah n) (ah n),aC (A.add .i64 k (ah 1)) k',aW (aG 4 n (Df d)) (aG 4 n (Df d)),aZ 1 j',bY 1 (Bh [[dN (L.key (sQ (d (A.toN k)).kind (d (A.toN k)).num (len (d (A.toN k)).q) (Am (nth (d (A.toN k)).q)) (len (d (A.toN k)).ps) (Am (nth (d (A.toN k)).ps))))]]) Je,aZ l l])))))))))) (aH (aed 0 (fun _=>[]) [59,32]) (aJ (aN (dN (L.join 0 (fun _=>[]) [59,32]))))):=by kernel_rfl
def alh(A:Prim)(L:Lk7)(n:Nat)(d:Nat->A8)(k:Int)(j:Nat)(gg:ϝ):List BL:=[aC k k,aC (d (A.toN k)).kind (d (A.toN k)).kind,aC (d (A.toN k)).num (d (A.toN k)).num,aW (aG 1 (len (d (A.toN k)).q) (Am (nth (d (A.toN k)).q))) (aG 1 (len (d (A.toN k)).q) (Am (nth (d (A.toN k)).q))),aW (aG 2 (len (d (A.toN k)).ps) (Am (nth (d (A.toN k)).ps))) (aG 2 (len (d (A.toN k)).ps) (Am (nth (d (A.toN k)).ps))),aW (aG 4 n (Df d)) (aG 4 n (Df d)),aC (d (A.toN k)).kind (d (A.toN k)).kind,aC (d (A.toN k)).num (d (A.toN k)).num,aW (aG 1 (len (d (A.toN k)).q) (Am (nth (d (A.toN k)).q))) (aG 1 (len (d (A.toN k)).q) (Am (nth (d (A.toN k)).q))),aW (aG 2 (len (d (A.toN k)).ps) (Am (nth (d (A.toN k)).ps))) (aG 2 (len (d (A.toN k)).ps) (Am (nth (d (A.toN k)).ps))),aC (d (A.toN k)).kind (d (A.toN k)).kind,aC (d (A.toN k)).num (d (A.toN k)).num,aW (aG 1 (len (d (A.toN k)).q) (Am (nth (d (A.toN k)).q))) (aG 1 (len (d (A.toN k)).q) (Am (nth (d (A.toN k)).q))),aW (aG 2 (len (d (A.toN k)).ps) (Am (nth (d (A.toN k)).ps))) (aG 2 (len (d (A.toN k)).ps) (Am (nth (d (A.toN k)).ps))),aW (dN (L.key (sQ (d (A.toN k)).kind (d (A.toN k)).num (len (d (A.toN k)).q) (Am (nth (d (A.toN k)).q)) (len (d (A.toN k)).ps) (Am (nth (d (A.toN k)).ps))))) (dN (L.key (sQ (d (A.toN k)).kind (d (A.toN k)).num (len (d (A.toN k)).q) (Am (nth (d (A.toN k)).q)) (len (d (A.toN k)).ps) (Am (nth (d (A.toN k)).ps))))),aZ (A.addN j 1) (A.addN j 1),gQ (A.snoc gg j (Bh [[dN (L.key (sQ (d (A.toN k)).kind (d (A.toN k)).num (len (d (A.toN k)).q) (Am (nth (d (A.toN k)).q)) (len (d (A.toN k)).ps) (Am (nth (d (A.toN k)).ps))))]])) (A.snoc gg j (Bh [[dN (L.key (sQ (d (A.toN k)).kind (d (A.toN k)).num (len (d (A.toN k)).q) (Am (nth (d (A.toN k)).q)) (len (d (A.toN k)).ps) (Am (nth (d (A.toN k)).ps))))]]))]
theorem aCS(A:Prim)(W:Wd)(L:Lk7)(n:Nat)(d:Nat->A8)(l:Nat)(k k':Int)(j j':Nat)(gg Je:ϝ):agU (C7 A W (Oe L) Aw) GR 300 800 130 aF apv (L63 n d l k j gg aA) (UF l) [⟨130,aF,WX,L63 n d l k' j' Je aA,UF l⟩]=aP (A.lt k (ah n)) (aH (A.inB k n) (bT [aZ l l] (bT [aZ l l] (aH (abI (d (A.toN k)).kind (d (A.toN k)).num (len (d (A.toN k)).q) (Am (nth (d (A.toN k)).q)) (len (d (A.toN k)).ps) (Am (nth (d (A.toN k)).ps))) (aH (A.room (A.addN j 1) 16) (aH (abI (d (A.toN k)).kind (d (A.toN k)).num (len (d (A.toN k)).q) (Am (nth (d (A.toN k)).q)) (len (d (A.toN k)).ps) (Am (nth (d (A.toN k)).ps))) (aH (A.room (A.addN j 1) 16) (aH (A.room (A.addN j 1) 16) (bT (alh A L n d k j gg) (bT (alh A L n d k j gg) (bT [aZ l l] (aJ (bU 0 [jQ (kP (ny l) {toList:=[]} {toList:=[]}) (kP (ny l) {toList:=[]} {toList:=[]}),aW (aG 4 n (Df d)) (aG 4 n (Df d)),aC (ah n) (ah n),aC (A.add .i64 k (ah 1)) k',aW (aG 4 n (Df d)) (aG 4 n (Df d)),aZ (A.addN j 1) j',bY (A.addN j 1) (A.snoc gg j (Bh [[dN (L.key (sQ (d (A.toN k)).kind (d (A.toN k)).num (len (d (A.toN k)).q) (Am (nth (d (A.toN k)).q)) (len (d (A.toN k)).ps) (Am (nth (d (A.toN k)).ps))))]])) Je,aZ l l]))))))))))))) (aH (aed j gg [59,32]) (aJ (aN (dN (L.join j gg [59,32]))))):=by kernel_rfl
end Go.Proofs
