/- Own work. -/
import Derived.Test.YthehnhaoiijkhaaGreatDoorF07
import Derived.Shelf.Spec.SlicesInsert
import Derived.Lib.AppendZerosOnto
import Derived.Laws.NewBlocks
open Int (ofNat)
open And renaming intro->dh
open Array renaming getElem?_eq_some_iff->bK,size_append->mD
open Bool renaming true->aC,false->ay,and_eq_true->aG
open Go renaming sizeOf->vV,heap_alloc_old->vI
open Go.Act renaming eval->qW,put->uD
open Go.Addr renaming add_lit->dW
open Go.BinOp renaming shr->oW
open Go.Builtin renaming copy_->jl,firstCells->iP,zeroCells->iG,append_->eG
open Go.Extern.SlicesOverlaps renaming overlaps->qV
open Go.Fn renaming yield->mY
open Go.IntKind renaming i64->aU,wrap_i64->gZ,u64->kN
open Go.Lib renaming wpList_append_run->jr,run_append_grow_zeros->oV
open Go.Proofs.C7 renaming ok->bY,O5->kS
open Go.Proofs.XZ renaming ok->yY
open Go.Proofs.Tryz renaming prog->aA,underlying209->fV,mixed_->rJ,func182->lW,ntmps182->lJ,underlying3->nV,f204->uF,f181->yV,tys->lu,func208->xO,ntmps208->wF,fnsAre_->iH,entersB_->jg,f184->yX,f179->yZ,f186->zf,f183->zh,f185->zi,f102->lS,f151->zk,f152->zl,f153->zn,f173->zo,f174->zq,f175->zu,f176->zx,f178->zy,f120->zA,f75->qm
open Go.Sx renaming Enters->wG
open Go.Sx.AQ renaming sh->aP,int->aj,nat->aJ,Nz->aZ,val->jH,get->aQ
open Go.Sx.DF renaming at_->bJ,ret->aS
open Go.Sx.It renaming code->bF,inBlock->bZ
open Go.Sx.Sh renaming sl->aI,zQ->bT,i->aT,agg->bP,os->iK,er->aW,v->iW,str->bU
open Go.Sx.Tree renaming leaf->aB,node->aF,need->aH,fail->cO,must->aO
open Go.Value renaming nilIface->bG,func->kH
open Go.World renaming shape?->wE,frozen?->vW
open Int renaming ofNat->ah,negSucc->dZ,toNat_natCast->fB
open List renaming getElem?_take->dO,mem_of_mem_drop->jC,append_assoc->iT,size_toArray->nD,getElem_cons_zero->pJ,takeWhile->kX,length_cons->jf,pairwise_iff_getElem->iV,range->aY,takeWhile_prefix->pX,getElem?_append_left->oL,length_nil->oK
open Nat renaming min->oh,zero_le->fK,le_refl->bV,le_succ->uY,beq->dQ
open Option renaming some->ak,none->aK
namespace Go.Sx
open Go.RowKit Go.Lib
section
variable{P:Program}
theorem Qk(w:World)(dT sT ty elem:TypeId)(sz g o dLen dCap:Nat)(a:Addr)(sLen sCap:Nat)(cur:Array Value)(t:TypeId)(cs:List Value)
  (hu:P.underlying dT=ak (.slice elem)) (hs:(P.info? elem).map (·.size)=ak sz)
  (hg:w.heap[g]?=ak (.cells cur t (0,0))) (hn:cs.length=oh sLen dLen*sz)
  (hsrc:∀j v,cs[j]?=ak v->w.cell? (a.add j)=ak v) (hfit:o+cs.length<=cur.size) (h1:∀v∈cs,v.oneCell'=aC) :
  (jl #[dT,sT] ty #[.slice (ak ⟨g,o,aK⟩) dLen dCap,.slice (ak a) sLen sCap]).run P w =
   .ok (goInt (oh sLen dLen)) (w.setRow g (cur.toList.take o++cs++cur.toList.drop (o+cs.length)).toArray):=by
 have hl:=run_loadCells_list (P:=P) w a cs hsrc;have hst:=run_storeCells_at P g o t cs 0 cur w hg (by omega) h1;cases hq:P.info? elem with
 |none=>grind |some i=>
  simp_all [jl,run_underlying,Builtin.lenOf,iP,sizeOf,typeInfo]
end
end Go.Sx
namespace Go.Proofs
open Go Go.Sx Go.RowKit Go.Lib
theorem info116:∃(i:TypeInfo) (z:Value),aA.info? 272=ak i/\i.size=2/\i.bytes=16/\i.zero=ak z/\z.cells.size=2/\∃cs,z=.agg cs:=by
 obtain ⟨inf,z,h1,h2,h3,h4,_,h6,h7,_⟩:=((bY noSpec zV).ty 272 ⟨.struct [(0,1,ay),(1,1,ay)],2,16,[.int .i64 0,.int .i64 0]⟩ (by kernel_rfl)).info;simp_all
set_option maxHeartbeats 4000000 in
set_option maxRecDepth 100000 in
theorem ai4(w:World)(g n c i vb vc:Nat)(cur:Array Value)(cs vs:List Value)(hg:w.heap[g]?=ak (.cells cur 272 (0,0)))(QI:Array Value)(hgb:w.heap[vb]?=ak (.cells QI 272 (0,0)))
  (hi:i<n) (hroom:n+1<=c) (hc63:c<=9223372036854775807) (hvb:vb≠g) (hcap:cur.size=c*2) (hcs:cur.toList.take (n*2)=cs) (hvs:QI.toList.take 2=vs) (hvl:vs.length=2) (hv2:2<=QI.size)
  (h1c:∀v∈cs,v.oneCell'=aC) (h1v:∀v∈vs,v.oneCell'=aC) :
  Calls aA 182 #[.slice (ak ⟨g,0,aK⟩) n c,.int .i64 i,.slice (ak ⟨vb,0,aK⟩) 1 vc] w fun e w'=>
   e=.returned (.slice (ak ⟨g,0,aK⟩) (n+1) c)/\∃cur',w'.heap[g]?=ak (.cells cur' 272 (0,0))/\cur'.size=c*2/\cur'.toList.take ((n+1)*2)=cs.take (i*2)++vs++cs.drop (i*2)/\w.grownBy w' (ak g):=by
 obtain ⟨inf,z,i1,i2,i3,i4,i5,_⟩:=info116;have hsz:(aA.info? 272).map (·.size)=ak 2:=by rfl
 have hse:∀w,(vV 272).run aA w=.ok 2 w:=fun w=>by rfl
 have hov:∀lb cb,(callFunc 206 #[.slice (ak ⟨vb,0,aK⟩) 1 vc,.slice (ak ⟨g,(i+1)*2,aK⟩) lb cb]).run aA w=.ok (.value (.bool ay)) w:=fun lb cb=>by
  rw[run_callFunc_extern Tryz.func206 (by kernel_rfl) (by kernel_rfl) (by kernel_rfl) (e:=qV #[209,209] #[4]) (by kernel_rfl),
   Lib.run_overlaps_apart w 209 4 272 fV 2 hse ⟨vb,0,aK⟩ ⟨g,(i+1)*2,aK⟩ 1 vc lb cb hvb 272 272 QI.size cur.size (by simp[wE,hgb]) (by simp[wE,hg]) (by omega) (by simp[vW,hgb]) (by simp[vW,hgb])]
  rfl
 have hw1:aU.wrap ((i:Int)+1)=(i:Int)+1:=by rw[gZ];omega
 have hw2:aU.wrap ((n:Int)+1)=(n:Int)+1:=by rw[gZ];omega
 have hcl:cs.length=n*2:=by grind
 have hdl:(cs.drop (i*2)).length=(n - i)*2:=by grind
 obtain ⟨R1,hR1⟩:∃R1,R1=(cur.toList.take ((i+1)*2)++cs.drop (i*2)++cur.toList.drop ((i+1)*2+(cs.drop (i*2)).length)).toArray:=⟨_,rfl⟩;have awu:R1.size=c*2:=by grind
 obtain ⟨R2,hR2⟩:∃R2,R2=(R1.toList.take (i*2)++vs++R1.toList.drop (i*2+vs.length)).toArray:=⟨_,rfl⟩;have hcur:∀j v,cs[j]?=ak v->cur.toList[j]?=ak v:=fun j v hj=>by
  rw[<-hcs,dO] at hj;split at hj
  ·exact hj
  ·cases hj
 have hcp1:∀(W:World),W.heap[g]?=ak (.cells cur 272 (0,0))->∀ty dc sc,(jl #[209,209] ty #[.slice (ak ⟨g,(i+1)*2,aK⟩) (n - i) dc,.slice (ak ⟨g,i*2,aK⟩) (n+1 - i) sc]).run aA W=.ok (goInt ((n - i:Nat):Int)) (W.setRow g R1):=fun W hW ty dc sc=>by
  have hmin:oh (n+1 - i) (n - i)=n - i:=by grind
  have:=Qk W 209 209 ty 272 2 g ((i+1)*2) (n - i) dc ⟨g,i*2,aK⟩ (n+1 - i) sc cur 272 (cs.drop (i*2)) fV hsz hW (by omega) (fun j v hj=>by
    grind [dW,cell_of_row]) (by omega) (fun v hv=>h1c v (jC hv))
  simp_all
 have hcp2:∀(W:World),W.heap[g]?=ak (.cells R1 272 (0,0))->W.heap[vb]?=ak (.cells QI 272 (0,0))->∀ty dc,(jl #[209,209] ty #[.slice (ak ⟨g,i*2,aK⟩) (n+1 - i) dc,.slice (ak ⟨vb,0,aK⟩) 1 vc]).run aA W=.ok (goInt 1) (W.setRow g R2):=fun W hW hW2 ty dc=>by
  have hmin:oh 1 (n+1 - i)=1:=by grind
  have:=Qk W 209 209 ty 272 2 g (i*2) (n+1 - i) dc ⟨vb,0,aK⟩ 1 vc R1 272 vs fV hsz hW (by omega) (fun j v hj=>by
    grind [dW,cell_of_row]) (by omega) h1v
  simp_all
 have hfin:R2.size=c*2/\R2.toList.take ((n+1)*2)=cs.take (i*2)++vs++cs.drop (i*2):=by
  have hl1:R1.toList.length=c*2:=by omega
  refine ⟨by grind,?_⟩;have ht1:R1.toList.take (i*2)=cs.take (i*2):=by
   grind
  have hd1:R1.toList.drop (i*2+2)=cs.drop (i*2)++cur.toList.drop ((n+1)*2):=by
   rw[hR1];have e1:(cur.toList.take ((i+1)*2)).length=i*2+2:=by grind
   simp only[iT];have e3:List.drop (i*2+2) (cur.toList.take ((i+1)*2)++(cs.drop (i*2)++cur.toList.drop ((i+1)*2+(cs.drop (i*2)).length)))=cs.drop (i*2)++cur.toList.drop ((i+1)*2+(cs.drop (i*2)).length):=by
    simp_all
   rw[e3,hdl];congr 2;omega
  rw[hR2,hvl,hd1,ht1];simp only[<-iT];have e2:(cs.take (i*2)++vs++cs.drop (i*2)).length=(n+1)*2:=by
   grind
  grind
 have hgl:g<w.heap.size:=(bK.1 hg).1;have mixed:aA.follows .mixedOrders=aC:=rJ;have hb1:(0:Int)<=(i:Int)+1:=by omega
 have hin:i<=n:=by omega
 have htn:((i:Int)+1).toNat=i+1:=by omega
 have hb2:¬(c=i+1):=by omega
 have hb3:(i:Int)<=(n:Int)+1:=by omega
 have hb4:¬(c=i):=by omega
 clear hcs hvs h1c h1v hcur hR1 hR2;have hc2:=hcp2 (w.drew.setRow g R1) (setRow_heap w.drew g cur R1 272 (0,0) hg) (by rw[setRow_other _ _ _ _ hvb];exact hgb) 3 (c - i);go_enter lW,lJ
 go_wp2_with (simp only[hov])
 go_region_law_o (refine step_copy_runI rfl (.tmp 73) (.tmp 76) 209 209 rfl (.slice (ak ⟨g,(i+1)*2,aK⟩) (n - i) (c - (i+1))) (.slice (ak ⟨g,i*2,aK⟩) (n+1 - i) (c - i)) (by simp[qW,uD]) (by simp[qW,uD]) (hcp1 w.drew hg 3 (c - (i+1)) (c - i)) ?_)
 go_wp2
 go_ret
 refine ⟨rfl,R2,setRow_heap _ g R1 R2 272 (0,0) (setRow_heap w.drew g cur R1 272 (0,0) hg),hfin.1,hfin.2,⟨rfl,rfl,rfl,by simp,fun k hk hne=>?_⟩⟩;have hkg:k≠g:=fun e=>hne (by rw[e]);rw[setRow_other _ _ _ _ hkg,setRow_other _ _ _ _ hkg];rfl
set_option maxHeartbeats 4000000 in
set_option maxRecDepth 100000 in
theorem aop(w:World)(v x:Value)(n vc:Nat)(xs news:List Value)(vb:Nat)(hv:w.ownsRow 0 272 2 v n xs)(hx:x=.slice (ak ⟨vb,0,aK⟩) 1 vc)(hnews:∀j u,news[j]?=ak u->w.cell? ((⟨vb,0,aK⟩:Addr).add j)=ak u)(hl:news.length=2)(h1:∀u∈news,u.oneCell'=aC)
  (h63:n+1<=maxLen) (hbytes:(n+1)*16<=140737488355328) :
  Calls aA 182 #[v,.int .i64 n,x] w fun e w'=>∃v',e=.returned v'/\w'.ownsRow 0 272 2 v' (n+1) (xs++news)/\w.grownBy w' (zT v)/\∀b,zT v'=ak b->zT v=ak b\/w.heap.size<=b:=by
 obtain ⟨inf,z,i1,i2,i3,i4,i5,_⟩:=info116;obtain ⟨v',w',hr,h2,h3,h4⟩:=Rh (P:=aA) (w:=w) 209 209 272 inf z 2 16 fV i1 i4 i2 i3 i5 (by decide) v n xs hv ⟨vb,0,aK⟩ 1 vc news (by rw[hl]) hnews h1 h63 hbytes;subst hx;have hsmall:n+1<=9223372036854775807:=by omega
 have awv:v=.slice aK 0 0/\n=0\/∃g c,v=.slice (ak ⟨g,0,aK⟩) n c/\n<=c/\c<=9223372036854775807:=by
  (rcases hv.2 with ⟨e1,e2⟩ |⟨g,c,cur,e1,_,_,e2,e3,_⟩)<;>grind [maxLen]
 clear hv hnews h1;rcases awv with ⟨rfl,rfl⟩ |⟨g,c,rfl,hnc,hc63⟩
 ·go_enter lW,lJ
  go_wp2_with (at_builtin;refine jr _ rfl _ _ _ _ rfl _ _ rfl rfl _ _ hr ?_)
  go_ret
  simp_all
 ·go_enter lW,lJ
  go_wp2_with (at_builtin;refine jr _ rfl _ _ _ _ rfl _ _ rfl rfl _ _ hr ?_)
  all_goals
   go_ret
   simp_all
set_option maxHeartbeats 4000000 in
set_option maxRecDepth 100000 in
theorem al0(w:World)(g n c i vb vc:Nat)(cur:Array Value)(cs vs:List Value)(hg:w.heap[g]?=ak (.cells cur 272 (0,0)))(QI:Array Value)(hgb:w.heap[vb]?=ak (.cells QI 272 (0,0)))
  (hi:i<n) (hnc:n<=c) (hroom:c<n+1) (hn63:n+1<=maxLen) (hbig:(n+1)*16<=140737488355328) (hcap:cur.size=c*2) (hcs:cur.toList.take (n*2)=cs) (hvs:QI.toList.take 2=vs) (hvl:vs.length=2)
  (h1c:∀v∈cs,v.oneCell'=aC) (h1v:∀v∈vs,v.oneCell'=aC) :
  Calls aA 182 #[.slice (ak ⟨g,0,aK⟩) n c,.int .i64 i,.slice (ak ⟨vb,0,aK⟩) 1 vc] w fun e w'=>
   ∃G cur',e=.returned (.slice (ak ⟨w.heap.size,0,aK⟩) (n+1) G)/\w'.heap[w.heap.size]?=ak (.cells cur' 272 (0,0))/\n+1<=G/\G<=maxLen/\cur'.size=G*2/\cur'.toList.take ((n+1)*2)=cs.take (i*2)++vs++cs.drop (i*2)/\w.grownBy w' (ak g):=by
 obtain ⟨inf,z,i1,i2,i3,i4,i5,zs,hz⟩:=info116;have hsz:(aA.info? 272).map (·.size)=ak 2:=by rfl
 have hse:∀w,(vV 272).run aA w=.ok 2 w:=fun w=>by rfl
 have hsmall:n+1<=9223372036854775807:=by omega
 have hw1:aU.wrap ((i:Int)+1)=(i:Int)+1:=by rw[gZ];omega
 have hw2:aU.wrap ((n:Int)+1)=(n:Int)+1:=by rw[gZ];omega
 have hw3:aU.wrap ((n:Int)+1 - (i:Int))=(n:Int)+1 - (i:Int):=by rw[gZ];omega
 have hcl:cs.length=n*2:=by grind
 have hdl:(cs.drop (i*2)).length=(n - i)*2:=by grind
 have htl:(cs.take (i*2)).length=i*2:=by grind
 have hcur:∀j v,cs[j]?=ak v->cur.toList[j]?=ak v:=fun j v hj=>by
  rw[<-hcs,dO] at hj;split at hj
  ·exact hj
  ·cases hj
 have hgl:g<w.heap.size:=(bK.1 hg).1;have aAd:vb<w.heap.size:=(bK.1 hgb).1;have hold:(iP inf.size i (.slice (ak ⟨g,0,aK⟩) i c)).run aA w.drew=.ok (cs.take (i*2)).toArray w.drew:=by
  rw[i2];exact run_firstCells_some w.drew 2 i ⟨g,0,aK⟩ i c (cs.take (i*2)) htl (fun j v hj=>by
   rw[dW,cell_of_row w.drew g _ cur 272 (0,0) hg];grind)
 obtain ⟨G,hG⟩:∃G,G=grownCap w (n+1) c 272:=⟨_,rfl⟩;obtain ⟨ROW,hROW⟩:∃ROW:Array Value,ROW=(cs.take (i*2)).toArray++iG z.cells (n+1 - i)++iG z.cells (G - (n+1)):=⟨_,rfl⟩;have hGn:n+1<=G:=by simp_all [grownCap_ge]
 have hGm:G<=maxLen:=by simp_all [grownCap_le_maxLen]
 have hG63:G<=9223372036854775807:=by assumption
 have hrz:∀ty,(eG #[209,3] ty #[.slice (ak ⟨g,0,aK⟩) i c,.int .i64 ((n:Int)+1 - (i:Int))]).run aA w =
   .ok (.slice (ak ⟨w.heap.size,0,aK⟩) (n+1) G) (w.drew.alloc (.cells ROW 272)):=fun ty=>by
  have h:=oV w 209 3 ty 272 inf z .i64 .i64 fV nV i1 i4 (ak ⟨g,0,aK⟩) i c (cs.take (i*2)) hold (n+1 - i) (by omega) (by omega) (by omega) (by omega) (by grind) (by rw[i3,show i+(n+1 - i)=n+1 by omega];simp_all [growslice_fits]);grind
 have hRs:ROW.size=G*2:=by
  grind [mD,nD,size_zeroCells]
 obtain ⟨R1,hR1⟩:∃R1,R1=(ROW.toList.take (i*2)++vs++ROW.toList.drop (i*2+vs.length)).toArray:=⟨_,rfl⟩;have awu:R1.size=G*2:=by grind
 obtain ⟨R2,hR2⟩:∃R2,R2=(R1.toList.take ((i+1)*2)++cs.drop (i*2)++R1.toList.drop ((i+1)*2+(cs.drop (i*2)).length)).toArray:=⟨_,rfl⟩;obtain ⟨W1,hW1⟩:∃W1,W1=w.drew.alloc (.cells ROW 272):=⟨_,rfl⟩;rw[<-hW1] at hrz;have as5:W1.heap[w.heap.size]?=ak (.cells ROW 272 (0,0)):=by rw[hW1];exact heap_alloc_new w.drew _
 have aAe:∀k,k<w.heap.size->W1.heap[k]?=w.heap[k]?:=fun k hk=>by rw[hW1];first|exact vI w.drew _ k hk|exact heap_alloc_old w.drew _ hk
 have hcp1:(jl #[209,209] 3 #[.slice (ak ⟨w.heap.size,i*2,aK⟩) (n+1 - i) (G - i),.slice (ak ⟨vb,0,aK⟩) 1 vc]).run aA W1=.ok (goInt 1) (W1.setRow w.heap.size R1):=by
  have hmin:oh 1 (n+1 - i)=1:=by grind
  have:=Qk W1 209 209 3 272 2 w.heap.size (i*2) (n+1 - i) (G - i) ⟨vb,0,aK⟩ 1 vc ROW 272 vs fV hsz as5 (by omega) (fun j v hj=>by
    grind [dW,cell_of_row]) (by omega) h1v
  simp_all
 have as6:(W1.setRow w.heap.size R1).drew.heap[w.heap.size]?=ak (.cells R1 272 (0,0)):=setRow_heap W1 w.heap.size ROW R1 272 (0,0) as5;have hcp2:(jl #[209,209] 3 #[.slice (ak ⟨w.heap.size,(i+1)*2,aK⟩) (n - i) (G - (i+1)),.slice (ak ⟨g,i*2,aK⟩) (n - i) (c - i)]).run aA (W1.setRow w.heap.size R1).drew=.ok (goInt ((n - i:Nat):Int)) ((W1.setRow w.heap.size R1).drew.setRow w.heap.size R2):=by
  have hmin:oh (n - i) (n - i)=n - i:=Nat.min_self _;have:=Qk (W1.setRow w.heap.size R1).drew 209 209 3 272 2 w.heap.size ((i+1)*2) (n - i) (G - (i+1)) ⟨g,i*2,aK⟩ (n - i) (c - i) R1 272 (cs.drop (i*2)) fV hsz as6 (by omega) (fun j v hj=>by
    rw[dW,cell_of_row (W1.setRow w.heap.size R1).drew g _ cur 272 (0,0) (by
     show (W1.setRow w.heap.size R1).heap[g]?=_;grind [setRow_other])]
    simp_all) (by omega) (fun v hv=>h1c v (jC hv))
  simp_all
 have hfin:R2.size=G*2/\R2.toList.take ((n+1)*2)=cs.take (i*2)++vs++cs.drop (i*2):=by
  have hl1:R1.toList.length=G*2:=by omega
  refine ⟨by grind,?_⟩;grind [Array.toList_append,iT,List.take_left',List.length_append,List.take_left]
 have mixed:aA.follows .mixedOrders=aC:=rJ;have hb1:(0:Int)<=(i:Int)+1:=by omega
 have hin:i<=n:=by omega
 have htn:((i:Int)+1).toNat=i+1:=by omega
 have hb2:¬(c=i+1)\/c=i+1:=by omega
 have hb3:(i:Int)<=(n:Int)+1:=by omega
 have hb4:¬(c=i):=by omega
 have hGi:¬(G=i):=by omega
 have hGim:¬(G=i+1):=by omega
 have hz1:¬((i:Int)=(n:Int)):=by omega
 have hz3:(c:Int)<(n:Int)+1:=by omega
 have hr1:=hrz 209;have hsz1:W1.heap.size=w.heap.size+1:=by rw[hW1];simp
 have hos:W1.os=w.os/\W1.tape=w.tape/\W1.output=w.output:=by rw[hW1];exact ⟨rfl,rfl,rfl⟩
 clear hcs hvs h1c h1v hcur hR1 hR2 hROW hG hold hrz hb2 hW1;go_enter lW,lJ
 go_wp2_with (first
  |(at_builtin;refine jr _ rfl _ _ _ _ rfl _ _ rfl rfl _ _ hr1 ?_))
 go_region_law_o (refine step_copy_runI rfl (.tmp 50) (.tmp 53) 209 209 rfl (.slice (ak ⟨w.heap.size,(i+1)*2,aK⟩) (n - i) (G - (i+1))) (.slice (ak ⟨g,i*2,aK⟩) (n - i) (c - i)) (by simp[qW,uD]) (by simp[qW,uD]) hcp2 ?_)
 go_wp2
 go_ret
 refine ⟨G,R2,rfl,setRow_heap _ w.heap.size R1 R2 272 (0,0) as6,hGn,hGm,hfin.1,hfin.2,⟨hos.1,hos.2.1,hos.2.2,?_,fun k hk hne=>?_⟩⟩
 ·simp_all
 ·have hkg:k≠w.heap.size:=by omega
  rw[setRow_other _ _ _ _ hkg];show (W1.setRow w.heap.size R1).heap[k]?=_;simp_all [setRow_other]
theorem arW:aiF aA 182 272 2 16:=by
 intro w v x n i xs news hv hx hne h1 h1n hi h63 hbytes;have hl:news.length=2:=by rw[hx.1]
 rcases hx.2 with ⟨_,h0⟩ |⟨vb,vc,QI,ex,_,hgb,hvc,hvm,hvs,hvt⟩
 ·omega
 have hb2:zT x=ak vb:=by rw[ex];rfl
 have hcell:∀j u,news[j]?=ak u->w.cell? ((⟨vb,0,aK⟩:Addr).add j)=ak u:=fun j u hj=>by
  grind [dW,cell_of_row]
 by_cases hin:i=n
 ·subst hin
  refine (aop w v x i vc xs news vb hv ex hcell hl h1n h63 hbytes).mono fun e w' ⟨v',e1,e2,e3,e4⟩=>⟨v',e1,?_,e3,e4⟩;rw[List.take_of_length_le (by rw[hv.1];omega),List.drop_of_length_le (by rw[hv.1];omega),List.append_nil];exact e2
 rcases hv.2 with ⟨_,h0⟩ |⟨g,c,cur,ev,_,hg,hnc,hcm,hcs,hct⟩
 ·omega
 have hb:zT v=ak g:=by rw[ev];rfl
 have hvg:vb≠g:=fun e=>hne g hb (by rw[hb2,e]);have hlen:(xs.take (i*2)++news++xs.drop (i*2)).length=(n+1)*2:=by
  grind
 have as7:QI.toList.take 2=news:=by omega
 by_cases hroom:n+1<=c
 ·rw[hb,ev,ex]
  refine (ai4 w g n c i vb vc cur xs news hg QI hgb (by omega) hroom (by assumption) hvg hcs hct as7 hl (by omega) h1 h1n).mono fun e w' ⟨e1,cur',e2,e3,e4,e5⟩=>⟨_,e1,⟨hlen,.inr ⟨g,c,cur',rfl,fK _,e2,hroom,hcm,e3,e4⟩⟩,e5,fun b hb'=>.inl hb'⟩
 ·rw[hb,ev,ex]
  refine (al0 w g n c i vb vc cur xs news hg QI hgb (by omega) hnc (by omega) h63 hbytes hcs hct as7 hl h1 h1n).mono fun e w' ⟨G,cur',e1,e2,e3,e4,e5,e6,e7⟩=>⟨_,e1,⟨hlen,.inr ⟨w.heap.size,G,cur',rfl,fK _,e2,e3,e4,e5,e6⟩⟩,e7,fun b hb'=>.inr (by simp_all [zT])⟩
end Go.Proofs
namespace Go.Pl
open Go Go.Sx
structure Lm7 where
 pos:Nat->(Nat->List Sh)->Int->Nat
 has:Nat->(Nat->List Sh)->Int->Bool
 wf:Nat->(Nat->List Sh)->Int->Bool
end Go.Pl
namespace Go.Proofs
open Go Go.Sx Go.Pl
def RQ:List It:=[bF [0,0,1,1,1],bZ 0,bF [1,1,1,1]]
def aoq:List It:=bF [0,0,0,1,1,1]::RQ
def RS(n:Nat)(p:Nat->Pr)(key i j:Int):Core:={tm:=FT 49 [(0,.sh (.sl 2 n (zH p))),(1,.sym .i64 key),(2,.fn 205 []),(8,.sym .i64 (n:Int)),(9,.sym .i64 i),(10,.sym .i64 j)],hp:=[],nx:=0,lim:=L0,tc:=[]}
theorem aww(A:Prim)(W:Wd)(n:Nat)(p:Nat->Pr)(key i' j':Int):AA (C7 A W noSpec zW) AX 300 400 204 [.code []] (zL 49 [.sl 2 n (zH p),.i .i64 key,.fn 205 []] L0) [] [⟨204,RQ,RS n p key i' j',[]⟩]=aB (bJ 0 [aP (aI 2 n (zH p)) (aI 2 n (zH p)),aj key key,aj (A.Aa n) (ah n),aj (ah 0) i',aj (A.Aa n) j']):=by kernel_rfl
theorem aor(A:Prim)(W:Wd)(n:Nat)(p:Nat->Pr)(key i j i' j':Int):AA (C7 A W noSpec zW) AX 300 400 204 aoq (RS n p key i j) [] [⟨204,RQ,RS n p key i' j',[]⟩]=aF (A.lt i j) (aH (A.inB (A.conv .i64 (A.bin oW kN (A.conv .u64 (A.add .i64 i j)) (ah 1))) n) (aF (A.lt (A.sub .i64 (p (A.toN (A.conv .i64 (A.bin oW kN (A.conv .u64 (A.add .i64 i j)) (ah 1))))).key key) (ah 0)) (aB (bJ 0 [aP (aI 2 n (zH p)) (aI 2 n (zH p)),aj key key,aj (ah n) (ah n),aj (A.add .i64 (A.conv .i64 (A.bin oW kN (A.conv .u64 (A.add .i64 i j)) (ah 1))) (ah 1)) i',aj j j'])) (aB (bJ 0 [aP (aI 2 n (zH p)) (aI 2 n (zH p)),aj key key,aj (ah n) (ah n),aj i i',aj (A.conv .i64 (A.bin oW kN (A.conv .u64 (A.add .i64 i j)) (ah 1))) j'])))) (aF (A.lt i (ah n)) (aH (A.inB i n) (aB (aS (bT [aT .i64 i,Sh.b (A.eq (A.sub .i64 (p (A.toN i)).key key) (ah 0))])))) (aB (aS (bT [aT .i64 i,Sh.b ay])))):=by kernel_rfl
end Go.Proofs
namespace Go.Pl
open Go Go.Sx Go.Proofs
def Ql(ps:List Pr):Bool:=decide (ps.Pairwise fun a b=>a.key<b.key)&&ps.all fun p=>decide (0<=p.key/\p.key<=1000)
def DV(key:Int):Bool:=decide (0<=key/\key<=1000)
def BG(ps:List Pr)(key:Int):Nat:=(ps.takeWhile fun p=>decide (p.key<key)).length
def Eb(ps:List Pr)(key:Int):Bool:=ps.any fun p=>p.key==key
theorem agZ:∀{ps:List Pr} {key:Int} {k:Nat},k<=ps.length->(∀t (h:t<ps.length),t<k->ps[t].key<key)->(∀t (h:t<ps.length),k<=t->key<=ps[t].key)->BG ps key=k
 |[],key,k,hk,_,_=>by simp at hk;subst hk;rfl |a::ps,key,0,_,_,h2=>by
  have:=h2 0 (by simp) (bV _);grind [decide,decide_eq_false,BG,kX]
 |a::ps,key,k+1,hk,h1,h2=>by
  have ha:=h1 0 (by simp) (by omega);simp only[pJ] at ha;have hd:decide (a.key<key)=aC:=decide_eq_true ha;have ih:=agZ (ps:=ps) (key:=key) (k:=k) (by grind) (fun t ht hlt=>h1 (t+1) (by simp;omega) (by omega)) (fun t ht hle=>h2 (t+1) (by simp;omega) (by omega));simp_all [BG,kX,jf]
theorem ag0{ps:List Pr}{key:Int}{k:Nat}(hs:ps.Pairwise fun a b=>a.key<b.key)(h1:∀t (h:t<ps.length),t<k->ps[t].key<key)(h2:∀t (h:t<ps.length),k<=t->key<=ps[t].key):
  Eb ps key=aC↔∃h:k<ps.length,ps[k].key=key:=by
 unfold Eb;rw[List.any_eq_true];constructor
 ·rintro ⟨x,hx,he⟩
  obtain ⟨t,ht,rfl⟩:=List.getElem_of_mem hx;grind [iV]
 grind
theorem F8{ps:List Pr}(h:Ql ps=aC):ps.Pairwise fun a b=>a.key<b.key:=by
 simp_all [Ql,aG,of_decide_eq_true]
theorem aos{ps:List Pr}(h:Ql ps=aC){t:Nat}(ht:t<ps.length):0<=ps[t].key/\ps[t].key<=1000:=by
 simp_all [Ql,aG,List.all_eq_true,List.getElem_mem,of_decide_eq_true]
theorem arX{i j:Nat}(h:i+j<=1000000):zG.conv .i64 (zG.bin .shr .u64 (zG.conv .u64 (zG.add .i64 i j)) (ah 1))=(((i+j) / 2:Nat):Int):=by
 have e1:zG.add .i64 i j=((i+j:Nat):Int):=by grind [CB,BF]
 rw[e1];have e2:zG.conv .u64 ((i+j:Nat):Int)=((i+j:Nat):Int):=by
  show kN.wrap _=_;rw[IntKind.wrap_u64];omega
 rw[e2];have e3:zG.bin .shr .u64 ((i+j:Nat):Int) (ah 1)=(((i+j) / 2:Nat):Int):=by
  show Int.fdiv ((i+j:Nat):Int) (2^(min 1 64))=_;grind
 rw[e3];show aU.wrap _=_;grind [BF]
end Go.Pl
namespace Go.Proofs
open Go Go.Sx Go.Pl
def aot:List Sh->Tree Sh
 |[.sl 2 n g,.i .i64 key,.fn 205 []]=>.need (okB Pr n g) (.need (decide (n<=100000)) (.need (Ql (lst Pr n g)) (.need (DV key) (.leaf (.zQ [.i .i64 (BG (lst Pr n g) key),.b (Eb (lst Pr n g) key)]))))) |_=>.fail
theorem abl{H0:Mem}{w0:World}{n:Nat}{p:Nat->Pr}{key:Int}{φ:Sh->Prop}(hn:n<=100000)(hs:Ql ((aY n).map p)=aC)(hk:DV key=aC)
  (hφ:φ (.zQ [.i .i64 (BG ((aY n).map p) key),.b (Eb ((aY n).map p) key)])) :
  ∀m i j,j - i<=m->i<=j->j<=n->(∀t,t<i->(p t).key<key)->(∀t,t<n->j<=t->key<=(p t).key)->Aw aA (C7 zG W7 noSpec zW) (K0 H0 w0) 204 RQ (RS n p key i j) [] emp φ
 |m,i,j,hm,hij,hjn,h1,h2=>by
  have hkey:0<=key/\key<=1000:=of_decide_eq_true hk;have hp:∀t,t<n->0<=(p t).key/\(p t).key<=1000:=fun t ht=>by
   have:=aos hs (t:=t) (by grind);simp_all
  have hso:=F8 hs;have hlt:∀a b,a<b->b<n->(p a).key<(p b).key:=fun a b hab hb=>by
   grind [iV]
  have sub_eq:∀t,t<n->zG.sub .i64 (p t).key key=(p t).key - key:=fun t ht=>by
   grind [L9,BF]
  have hfin:i=j->(i<n->(p i).key=key->φ (.zQ [.i .i64 i,.b aC]))/\((i<n->(p i).key≠key)->φ (.zQ [.i .i64 i,.b ay])):=fun e=>by
   subst e;have hl:((aY n).map p).length=n:=by simp
   grind [aY,agZ,ag0,Eb]
  have hmid:=arX (i:=i) (j:=j) (by omega);refine G6 (fn:=uF) (tb:=aoq) (by kernel_rfl) (by kernel_rfl) ?_;by_cases hlt2:i<j
  ·by_cases hcmp:(p ((i+j) / 2)).key<key
   ·refine Gv (bY _ _) (Kv _) (hold:=Dh) (m:=300) (n:=400) (ts:=[⟨204,RQ,RS n p key ((i+j) / 2+1:Nat) j,[]⟩]) ?_
    rw[show Dh=AX from rfl,aor zG W7 n p key i j ((i+j) / 2+1:Nat) j,hmid];refine ⟨fun _=>⟨by simp[AY];omega,fun _=>⟨⟨rfl,rfl,rfl,?_,rfl,trivial⟩,_,rfl,?_⟩,fun h=>?_⟩,fun h=>?_⟩
    ·grind [AQ.ok,CB,Gl,BF]
    ·match m,hm with
     |0,hm=>omega |m+1,hm=>
      refine abl hn hs hk hφ m ((i+j) / 2+1) j (by omega) (by omega) hjn (fun t ht=>?_) h2;by_cases e:t=(i+j) / 2
      ·simp_all
      ·have:=hlt t ((i+j) / 2) (by omega) (by omega);omega
    ·have e:zG.toN (((i+j) / 2:Nat):Int)=(i+j) / 2:=rfl
     grind [zN]
    simp_all [zN]
   ·refine Gv (bY _ _) (Kv _) (hold:=Dh) (m:=300) (n:=400) (ts:=[⟨204,RQ,RS n p key i ((i+j) / 2:Nat),[]⟩]) ?_
    rw[show Dh=AX from rfl,aor zG W7 n p key i j i ((i+j) / 2:Nat),hmid];refine ⟨fun _=>⟨by simp[AY];omega,fun h=>?_,fun _=>⟨⟨rfl,rfl,rfl,rfl,rfl,trivial⟩,_,rfl,?_⟩⟩,fun h=>?_⟩
    ·have e:zG.toN (((i+j) / 2:Nat):Int)=(i+j) / 2:=rfl
     grind [zN]
    ·match m,hm with
     |0,hm=>omega |m+1,hm=>
      refine abl hn hs hk hφ m i ((i+j) / 2) (by omega) (by omega) (by omega) h1 (fun t ht hle=>?_);by_cases e:t=(i+j) / 2
      ·grind
      ·have:=hlt ((i+j) / 2) t (by omega) ht;omega
    simp_all [zN]
  ·have e:i=j:=by omega
   obtain ⟨f1,f2⟩:=hfin e;refine Gv (bY _ _) (Kv _) (hold:=Dh) (m:=300) (n:=400) (ts:=[⟨204,RQ,RS n p key i j,[]⟩]) ?_;rw[show Dh=AX from rfl,aor zG W7 n p key i j i j];refine ⟨fun h=>?_,fun _=>⟨fun h=>⟨?_,?_⟩,fun h=>?_⟩⟩
   ·simp_all [zN]
   ·simp_all [zN,AY]
   ·have hi:i<n:=by grind
    show φ _;have e1:zG.toN (i:Int)=i:=rfl;grind [Ac]
   ·exact f2 fun hi=>by grind [zN]
theorem awx:zZ aA (Ar W7) 204 aot:=by
 refine J8 (C:=C7 zG W7 noSpec zW) (bY _ _) (fn:=uF) (by kernel_rfl) (by kernel_rfl) fun H w Aq args φ hrep h=>?_
 unfold aot at h;split at h
 ·rename_i n g key
  obtain ⟨h1,h2,h3,h4,hφ⟩:=h;match args,hrep with
  |[v,u1,u2],⟨hv,r1,r2,_⟩=>
   refine ⟨[.sl 2 n (zH (zJ (α:=Pr) g)),.i .i64 key,.fn 205 []],⟨Ed hv h1,r1,r2,trivial⟩,L0,?_⟩;have e:lst Pr n g=(aY n).map (zJ g):=rfl;rw[e] at h3 hφ;generalize zJ (α:=Pr) g=p at *;have h2:=of_decide_eq_true h2;have hn:uF.ntmps=49:=by kernel_rfl
   refine Gv (bY _ _) (Kv _) (hold:=Dh) (m:=300) (n:=400) (ts:=[⟨204,RQ,RS n p key (0:Nat) n,[]⟩]) ?_;rw[show Dh=AX from rfl,hn,aww zG W7 n p key (0:Nat) n];exact ⟨⟨rfl,rfl,rfl,rfl,rfl,trivial⟩,_,rfl,abl h2 h3 h4 hφ n 0 n (by omega) (fK _) (bV _) (fun t ht=>by omega) (fun t ht hle=>by omega)⟩
 ·exact h.elim
end Go.Proofs
namespace Go.Pl
open Go Go.Sx
def A8(n:Nat)(g:Nat->List Sh)(key:Int):Int:=(BG (lst Pr n g) key:Int)
def Gf(n:Nat)(g:Nat->List Sh)(key:Int):Bool:=Eb (lst Pr n g) key
def GU(n:Nat)(g:Nat->List Sh):Bool:=okB Pr n g&&decide (n<=100000)&&Ql (lst Pr n g)
def O8(n:Nat)(g:Nat->List Sh)(key:Int):Int:=if Gf n g key=aC then (zJ (α:=Pr) g (BG (lst Pr n g) key)).val else 0
def QJ(n:Nat)(g:Nat->List Sh)(key:Int):Int:=if Gf n g key=aC then 3 else 2
def NS(n m:Nat):Nat:=n+m
def adw(g:Nat->List Sh)(n:Nat)(h:Nat->List Sh):Nat->List Sh:=zG.snoc g n h
end Go.Pl
namespace Go.Proofs
open Go Go.Sx Go.Pl
def ai5:List Sh->Tree Sh
 |[.sl 2 n g,.i .i64 key,.fn 205 []]=>.need (GU n g) (.need (DV key) (.leaf (.zQ [.i .i64 (A8 n g key),.b (Gf n g key)]))) |_=>.fail
def Pg:Nat->Option (List Sh->Tree Sh)
 |204=>ak ai5 |_=>aK
def akG:List Sh->Tree Sh
 |[.agg [.i .i64 _,.i .i64 _,s2,s3],.i .i64 key]=>match DI 1 s2,DI 2 s3 with
  |some _,ak (n,g)=>.need (GU n g) (.need (DV key) (.leaf (.zQ [.i .i64 (A8 n g key),.b (Gf n g key)]))) |_,_=>.fail
 |_=>.fail
def Io:Nat->Option (List Sh->Tree Sh)
 |181=>ak akG |182=>ak (fun _=>.fail) |_=>aK
def aou:List Sh->Tree Sh
 |[.agg [.i .i64 _,.i .i64 _,s2,s3],.i .i64 key]=>match DI 1 s2,DI 2 s3 with
  |some _,ak (n,g)=>.need (GU n g) (.need (DV key) (.leaf (.zQ [.i .i64 (QJ n g key),.i .i64 (O8 n g key)]))) |_,_=>.fail
 |_=>.fail
def RU:Nat->Option (List Sh->Tree Sh)
 |208=>ak (fun _=>.fail) |_=>aK
def aov:List Sh->Tree Sh
 |[.sl 1 2 g]=>match g 0,g 1 with
  |[.sl 2 n g1],[.sl 2 m g2]=>.need (AV (NS n m) 16) (.leaf (.sl 2 (NS n m) (adw g1 n g2))) |_,_=>.fail
 |_=>.fail
def Eo:Nat->Option (List Sh->Tree Sh)
 |181=>ak akG |184=>ak aou |186=>ak aov |_=>aK
theorem awy(A:Prim)(W:Wd)(x y:Int)(a b:Nat)(h:Nat->List Sh)(p:Nat->Pr)(key:Int):AA (C7 A W Pg zW) AX 300 400 181 [.code []] (zL 12 [.agg [.i .i64 x,.i .i64 y,.sl 1 a h,.sl 2 b (zH p)],.i .i64 key] L0) [] []=aH (GU b (zH p)) (aH (DV key) (aB (aS (bT [aT .i64 (A8 b (zH p) key),Sh.b (Gf b (zH p) key)])))):=by kernel_rfl
theorem a105(A:Prim)(W:Wd)(x y:Int)(a b:Nat)(h:Nat->List Sh)(p:Nat->Pr)(key:Int):AA (C7 A W Io zW) AX 300 400 184 [.code []] (zL 21 [.agg [.i .i64 x,.i .i64 y,.sl 1 a h,.sl 2 b (zH p)],.i .i64 key] L0) [] []=aH (GU b (zH p)) (aH (DV key) (aF (Gf b (zH p) key) (aH (A.inB (A8 b (zH p) key) b) (aB (aS (bT [aT .i64 (ah 3),aT .i64 (p (A.toN (A8 b (zH p) key))).val])))) (aB (aS (bT [aT .i64 (ah 2),aT .i64 (ah 0)]))))):=by kernel_rfl
theorem awz(A:Prim)(W:Wd)(x y:Int)(a b:Nat)(h:Nat->List Sh)(p:Nat->Pr)(key v:Int):AA (C7 A W Eo zW) AX 300 400 183 [.code []] (zL 20 [.agg [.i .i64 x,.i .i64 y,.sl 1 a h,.sl 2 b (zH p)],.i .i64 key,.i .i64 v] L0) [] []=aH (GU b (zH p)) (aH (DV key) (aB (aS (bT [bP [aT .i64 x,aT .i64 y,aI 1 a h,aI 2 b (zH p)],aT .i64 (QJ b (zH p) key),aT .i64 (O8 b (zH p) key)])))):=by kernel_rfl
theorem awC(A:Prim)(W:Wd)(x y:Int)(a b:Nat)(h:Nat->List Sh)(p:Nat->Pr)(key v:Int):AA (XZ A W Io zW) AX 300 400 179 [.code []] (zL 38 [.agg [.i .i64 x,.i .i64 y,.sl 1 a h,.sl 2 b (zH p)],.i .i64 key,.i .i64 v] L0) [] []=aF (A.Z8 b 0) ((aH (GU 0 fun _=>[]) (aH (DV key) (aF (Gf 0 (fun _=>[]) key) cO (aH (A.upTo (A8 0 (fun _=>[]) key) 0) (aH (A.room (A.addN 0 1) 16) (aB (aS (bT [bP [aT .i64 x,aT .i64 y,aI 1 a h,iK 272 2 (A.addN 0 1) (A.ins (fun _=>[]) (A.toN (A8 0 (fun _=>[]) key)) [aT .i64 key,aT .i64 v])],aT .i64 (ah 1),aT .i64 (ah 0)])))))))).both (aH (A.room (A.addN 0 b) 16) (aH (GU (A.addN 0 b) (A.snoc (Af []) 0 (zH p))) (aH (DV key) (aF (Gf (A.addN 0 b) (A.snoc (Af []) 0 (zH p)) key) (aH (A.inB (A8 (A.addN 0 b) (A.snoc (Af []) 0 (zH p)) key) (A.addN 0 b)) (aB (aS (bT [bP [aT .i64 x,aT .i64 y,aI 1 a h,iK 272 2 (A.addN 0 b) (A.upd (A.snoc (Af []) 0 (zH p)) (A.toN (A8 (A.addN 0 b) (A.snoc (Af []) 0 (zH p)) key)) 1 [aT .i64 v])],aT .i64 (ah 1),aT .i64 (ah 0)])))) (aH (A.upTo (A8 (A.addN 0 b) (A.snoc (Af []) 0 (zH p)) key) (A.addN 0 b)) (aH (A.room (A.addN (A.addN 0 b) 1) 16) (aB (aS (bT [bP [aT .i64 x,aT .i64 y,aI 1 a h,iK 272 2 (A.addN (A.addN 0 b) 1) (A.ins (A.snoc (Af []) 0 (zH p)) (A.toN (A8 (A.addN 0 b) (A.snoc (Af []) 0 (zH p)) key)) [aT .i64 key,aT .i64 v])],aT .i64 (ah 1),aT .i64 (ah 0)])))))))))) (aH (A.room (A.addN 0 b) 16) (aH (GU (A.addN 0 b) (A.snoc (Af []) 0 (zH p))) (aH (DV key) (aF (Gf (A.addN 0 b) (A.snoc (Af []) 0 (zH p)) key) (aH (A.inB (A8 (A.addN 0 b) (A.snoc (Af []) 0 (zH p)) key) (A.addN 0 b)) (aB (aS (bT [bP [aT .i64 x,aT .i64 y,aI 1 a h,iK 272 2 (A.addN 0 b) (A.upd (A.snoc (Af []) 0 (zH p)) (A.toN (A8 (A.addN 0 b) (A.snoc (Af []) 0 (zH p)) key)) 1 [aT .i64 v])],aT .i64 (ah 1),aT .i64 (ah 0)])))) (aH (A.upTo (A8 (A.addN 0 b) (A.snoc (Af []) 0 (zH p)) key) (A.addN 0 b)) (aH (A.room (A.addN (A.addN 0 b) 1) 16) (aB (aS (bT [bP [aT .i64 x,aT .i64 y,aI 1 a h,iK 272 2 (A.addN (A.addN 0 b) 1) (A.ins (A.snoc (Af []) 0 (zH p)) (A.toN (A8 (A.addN 0 b) (A.snoc (Af []) 0 (zH p)) key)) [aT .i64 key,aT .i64 v])],aT .i64 (ah 1),aT .i64 (ah 0)]))))))))):=by kernel_rfl
theorem a107(A:Prim)(W:Wd)(n m:Nat)(g1 g2:Nat->List Sh):AA (XZ A W RU zV) AX 300 400 186 [.code []] (zL 36 [.sl 1 2 (Af [[.sl 2 n g1],[.sl 2 m g2]])] L0) [] []=aF (A.lt (ah 0) (A.Aa 2)) (aH (A.inB (ah 0) 2) (aF (A.lt (A.add .i64 (ah 0) (A.Aa n)) (ah 0)) cO (aF (A.lt (ah 1) (A.Aa 2)) (aH (A.inB (ah 1) 2) (aF (A.lt (A.add .i64 (A.add .i64 (ah 0) (A.Aa n)) (A.Aa m)) (ah 0)) cO (aF (A.lt (ah 2) (A.Aa 2)) (aH (A.inB (ah 2) 2) cO) (aH (A.le (ah 0) (A.add .i64 (A.add .i64 (ah 0) (A.Aa n)) (A.Aa m))) (aH (A.room (A.toN (A.add .i64 (A.add .i64 (ah 0) (A.Aa n)) (A.Aa m))) 16) (aF (A.lt (ah 0) (A.Aa 2)) (aH (A.inB (ah 0) 2) (aH (A.room (A.addN 0 n) 16) (aF (A.lt (ah 1) (A.Aa 2)) (aH (A.inB (ah 1) 2) (aH (A.room (A.addN (A.addN 0 n) m) 16) (aF (A.lt (ah 2) (A.Aa 2)) (aH (A.inB (ah 2) 2) cO) (aB (aS (iK 272 2 (A.addN (A.addN 0 n) m) (A.snoc (A.snoc (fun _=>[]) 0 g1) (A.addN 0 n) g2))))))) (aB (aS (iK 272 2 (A.addN 0 n) (A.snoc (fun _=>[]) 0 g1))))))) (aB (aS (iK 272 2 0 fun _=>[]))))))))) (aH (A.le (ah 0) (A.add .i64 (ah 0) (A.Aa n))) (aH (A.room (A.toN (A.add .i64 (ah 0) (A.Aa n))) 16) (aF (A.lt (ah 0) (A.Aa 2)) (aH (A.inB (ah 0) 2) (aH (A.room (A.addN 0 n) 16) (aF (A.lt (ah 1) (A.Aa 2)) (aH (A.inB (ah 1) 2) (aH (A.room (A.addN (A.addN 0 n) m) 16) (aF (A.lt (ah 2) (A.Aa 2)) (aH (A.inB (ah 2) 2) cO) (aB (aS (iK 272 2 (A.addN (A.addN 0 n) m) (A.snoc (A.snoc (fun _=>[]) 0 g1) (A.addN 0 n) g2))))))) (aB (aS (iK 272 2 (A.addN 0 n) (A.snoc (fun _=>[]) 0 g1))))))) (aB (aS (iK 272 2 0 fun _=>[]))))))))) (aH (A.le (ah 0) (ah 0)) (aH (A.room 0 16) (aF (A.lt (ah 0) (A.Aa 2)) (aH (A.inB (ah 0) 2) (aH (A.room (A.addN 0 n) 16) (aF (A.lt (ah 1) (A.Aa 2)) (aH (A.inB (ah 1) 2) (aH (A.room (A.addN (A.addN 0 n) m) 16) (aF (A.lt (ah 2) (A.Aa 2)) (aH (A.inB (ah 2) 2) cO) (aB (aS (iK 272 2 (A.addN (A.addN 0 n) m) (A.snoc (A.snoc (fun _=>[]) 0 g1) (A.addN 0 n) g2))))))) (aB (aS (iK 272 2 (A.addN 0 n) (A.snoc (fun _=>[]) 0 g1))))))) (aB (aS (iK 272 2 0 fun _=>[])))))):=by kernel_rfl
noncomputable def RV(A:Prim)(W:Wd)(x y:Int)(a b:Nat)(h:Nat->List Sh)(p:Nat->Pr)(key:Int):List AQ:=[aj x x,aj y y,aP (aI 1 a h) (aI 1 a h),aP (aI 2 b (zH p)) (aI 2 b (zH p)),aj key key,aj (QJ b (zH p) key) (QJ b (zH p) key),aj (O8 b (zH p) key) (O8 b (zH p) key),aj (A8 b (zH p) key) (A8 b (zH p) key),AQ.bool (Gf b (zH p) key) (Gf b (zH p) key),aj x x,aj y y,aP (aI 1 a h) (aI 1 a h),aP (aI 2 (NS (A.toN (A8 b (zH p) key)) (A.Jb b (A.toN (A.add .i64 (A8 b (zH p) key) (ah 1))))) (adw (zH p) (A.toN (A8 b (zH p) key)) fun (j:Nat)=>zH p ((C7 A W Eo zW).A.addN ((C7 A W Eo zW).A.toN ((C7 A W Eo zW).A.add .i64 (A8 b (zH p) key) 1)) j))) (aI 2 (NS (A.toN (A8 b (zH p) key)) (A.Jb b (A.toN (A.add .i64 (A8 b (zH p) key) (ah 1))))) (adw (zH p) (A.toN (A8 b (zH p) key)) fun (j:Nat)=>zH p ((C7 A W Eo zW).A.addN ((C7 A W Eo zW).A.toN ((C7 A W Eo zW).A.add .i64 (A8 b (zH p) key) 1)) j))),aJ 2 2,aZ (Af [[aI 2 (A.toN (A8 b (zH p) key)) (zH p)],[aI 2 (A.Jb b (A.toN (A.add .i64 (A8 b (zH p) key) (ah 1)))) fun (j:Nat)=>zH p (A.addN (A.toN (A.add .i64 (A8 b (zH p) key) (ah 1))) j)]]) (Af [[aI 2 (A.toN (A8 b (zH p) key)) (zH p)],[aI 2 (A.Jb b (A.toN (A.add .i64 (A8 b (zH p) key) (ah 1)))) fun (j:Nat)=>zH p (A.addN (A.toN (A.add .i64 (A8 b (zH p) key) (ah 1))) j)]])]
theorem awD(A:Prim)(W:Wd)(x y:Int)(a b:Nat)(h:Nat->List Sh)(p:Nat->Pr)(key v:Int):AA (C7 A W Eo zW) AX 600 800 185 [.code []] (zL 41 [.agg [.i .i64 x,.i .i64 y,.sl 1 a h,.sl 2 b (zH p)],.i .i64 key,.i .i64 v] L0) [] []=aH (GU b (zH p)) (aH (DV key) (aH (GU b (zH p)) (aH (DV key) (aF (Gf b (zH p) key) (aH (A.upTo (A8 b (zH p) key) b) (aH (A.upTo (A.add .i64 (A8 b (zH p) key) (ah 1)) b) (aH (AV (NS (A.toN (A8 b (zH p) key)) (A.Jb b (A.toN (A.add .i64 (A8 b (zH p) key) (ah 1))))) 16) (aH (A.upTo (A8 b (zH p) key) b) (aH (A.upTo (A.add .i64 (A8 b (zH p) key) (ah 1)) b) (aH (AV (NS (A.toN (A8 b (zH p) key)) (A.Jb b (A.toN (A.add .i64 (A8 b (zH p) key) (ah 1))))) 16) (aH (A.upTo (A.add .i64 (A8 b (zH p) key) (ah 1)) b) (aH (A.upTo (A8 b (zH p) key) b) (aH (AV (NS (A.toN (A8 b (zH p) key)) (A.Jb b (A.toN (A.add .i64 (A8 b (zH p) key) (ah 1))))) 16) (aO (RV A W x y a b h p key) (aO (RV A W x y a b h p key) (aH (A.upTo (A8 b (zH p) key) b) (aH (A.upTo (A.add .i64 (A8 b (zH p) key) (ah 1)) b) (aH (AV (NS (A.toN (A8 b (zH p) key)) (A.Jb b (A.toN (A.add .i64 (A8 b (zH p) key) (ah 1))))) 16) (aH (A.upTo (A.add .i64 (A8 b (zH p) key) (ah 1)) b) (aH (A.upTo (A8 b (zH p) key) b) (aH (AV (NS (A.toN (A8 b (zH p) key)) (A.Jb b (A.toN (A.add .i64 (A8 b (zH p) key) (ah 1))))) 16) (aO (RV A W x y a b h p key) (aH (A.upTo (A.add .i64 (A8 b (zH p) key) (ah 1)) b) (aH (A.upTo (A8 b (zH p) key) b) (aH (AV (NS (A.toN (A8 b (zH p) key)) (A.Jb b (A.toN (A.add .i64 (A8 b (zH p) key) (ah 1))))) 16) (aO (RV A W x y a b h p key) (aO (RV A W x y a b h p key) (aB (aS (bT [bP [aT .i64 x,aT .i64 y,aI 1 a h,aI 2 (NS (A.toN (A8 b (zH p) key)) (A.Jb b (A.toN (A.add .i64 (A8 b (zH p) key) (ah 1))))) (adw (zH p) (A.toN (A8 b (zH p) key)) fun (j:Nat)=>zH p ((C7 A W Eo zW).A.addN ((C7 A W Eo zW).A.toN ((C7 A W Eo zW).A.add .i64 (A8 b (zH p) key) 1)) j))],aT .i64 (QJ b (zH p) key),aT .i64 (O8 b (zH p) key)])))))))))))))))))))))))))) (aB (aS (bT [bP [aT .i64 x,aT .i64 y,aI 1 a h,aI 2 b (zH p)],aT .i64 (QJ b (zH p) key),aT .i64 (O8 b (zH p) key)]))))))):=by kernel_rfl
end Go.Proofs
namespace Go.Pl
open Go Go.Sx Go.Proofs
def Et(ps:List Pr)(key v:Int):List Pr:=if Eb ps key=aC then ps.set (BG ps key) ⟨key,v⟩ else ps.take (BG ps key)++⟨key,v⟩::ps.drop (BG ps key)
def Fb(ps:List Pr)(key:Int):List Pr:=if Eb ps key=aC then ps.take (BG ps key)++ps.drop (BG ps key+1) else ps
def KA(ps:List Pr)(key:Int):Int:=if Eb ps key=aC then (nth ps (BG ps key)).val else 0
def KZ(ps:List Pr)(key:Int):Int:=if Eb ps key=aC then 3 else 2
theorem RX(ps:List Pr)(key:Int):BG ps key<=ps.length:=by grind [BG,pX]
theorem akH{α:Type}{p:α->Bool}{x:α}:∀{l:List α},x∈l.takeWhile p->p x=aC
 |[],h=>by simp at h |a::l,h=>by
  cases ha:p a with
  |false=>simp_all |true=>
   simp only[kX,ha,List.mem_cons] at h;rcases h with rfl|h
   ·exact ha
   ·exact akH h
theorem ag1(ps:List Pr)(key:Int):∀t (h:t<ps.length),t<BG ps key->ps[t].key<key:=by
 intro t h ht;have h2:(ps.takeWhile fun p=>decide (p.key<key))[t]?=ps[t]?:=by
  have:=pX (p:=fun p:Pr=>decide (p.key<key)) (l:=ps);obtain ⟨r,hr⟩:=this;conv=>rhs;rw[<-hr]
  rw[oL ht]
 have h3:ps[t]∈ps.takeWhile fun p=>decide (p.key<key):=by
  grind
 grind [akH]
theorem ag2{ps:List Pr}{key:Int}(hs:ps.Pairwise fun a b=>a.key<b.key):∀t (h:t<ps.length),BG ps key<=t->key<=ps[t].key:=by
 intro t h ht;have hk:BG ps key<ps.length:=by omega
 have h0:¬ps[BG ps key].key<key:=by
  intro hlt;have:BG ps key<(ps.takeWhile fun p=>decide (p.key<key)).length:=by
   have key2:∀(l:List Pr),(h:(l.takeWhile fun p=>decide (p.key<key)).length<l.length)->¬(l[(l.takeWhile fun p=>decide (p.key<key)).length].key<key):=by
    intro l;induction l with
    |nil=>simp |cons a l ih=>
     grind [decide,decide_eq_true,kX,jf,decide_eq_false,oK]
   exact (key2 ps hk hlt).elim
  simp_all [BG]
 grind [BG,iV]
theorem Ph{ps:List Pr}{key:Int}(hs:ps.Pairwise fun a b=>a.key<b.key)(h:Eb ps key=aC):∃h:BG ps key<ps.length,ps[BG ps key].key=key:=(ag0 hs (ag1 ps key) (ag2 hs)).1 h
theorem ag3{α:Type}[Row α]{l:List α}{j:Nat}(h:j<l.length):nth l j=l[j]:=by simp[nth,h]
theorem aow{α:Type}[Row α]{l:List α}{k j:Nat}{a:α}(hk:k<l.length)(hj:j<l.length):nth (l.set k a) j=if j=k then a else nth l j:=by
 grind [ag3]
theorem aox{α:Type}[Row α]{l:List α}{k j:Nat}{a:α}(hk:k<=l.length)(hj:j<l.length+1):nth (l.take k++a::l.drop k) j=if j<k then nth l j else if j=k then a else nth l (j - 1):=by
 have hlen:(l.take k++a::l.drop k).length=l.length+1:=by simp;omega
 have ht:(l.take k).length=k:=by simp;omega
 unfold nth;grind
theorem aoy{α:Type}[Row α]{l:List α}{k j:Nat}(hk:k<l.length)(hj:j<l.length - 1):nth (l.take k++l.drop (k+1)) j=if j<k then nth l j else nth l (j+1):=by
 have ht:(l.take k).length=k:=by simp;omega
 unfold nth;grind
theorem aeO{ps:List Pr}{key v:Int}(h:Eb ps key=ay):Et ps key v=ps.take (BG ps key)++⟨key,v⟩::ps.drop (BG ps key):=if_neg (by rw[h];simp)
theorem aeP{ps:List Pr}{key v:Int}(h:Eb ps key=aC):Et ps key v=ps.set (BG ps key) ⟨key,v⟩:=if_pos h
theorem aeQ{ps:List Pr}{key:Int}(h:Eb ps key=ay):Fb ps key=ps:=if_neg (by rw[h];simp)
theorem aeR{ps:List Pr}{key:Int}(h:Eb ps key=aC):Fb ps key=ps.take (BG ps key)++ps.drop (BG ps key+1):=if_pos h
theorem abm{ps:List Pr}{key v:Int}:(Et ps key v).length=if Eb ps key=aC then ps.length else ps.length+1:=by
 grind [RX,Et]
theorem ag4{ps:List Pr}{key:Int}(hs:Ql ps=aC):(Fb ps key).length=if Eb ps key=aC then ps.length - 1 else ps.length:=by
 have:=RX ps key;unfold Fb;split
 ·rename_i h
  obtain ⟨h1,_⟩:=Ph (F8 hs) h;simp;omega
 ·rfl
theorem aoz{n:Nat}{g:Nat->List Sh}{key:Int}(hs:Ql (lst Pr n g)=aC):O8 n g key=KA (lst Pr n g) key:=by
 unfold O8 KA Gf;split
 ·rename_i h
  obtain ⟨h1,_⟩:=Ph (F8 hs) h;rw[WW (by simpa using h1)]
 ·rfl
theorem Hq{n:Nat}{g:Nat->List Sh}:GU n g=aC↔okB Pr n g=aC/\n<=100000/\Ql (lst Pr n g)=aC:=by
 grind [GU]
end Go.Pl
namespace Go.Proofs
open Go Go.Sx Go.Pl Go.Lib
theorem at6:zZ aA (Ar W7) 204 ai5:=awx.mono fun H Aq args φ hr h=>by
 unfold ai5 at h;split at h
 ·rename_i n g key
  obtain ⟨h1,h2,hφ⟩:=h;obtain ⟨q1,q2,q3⟩:=Hq.1 h1;simp only[aot];exact ⟨q1,decide_eq_true q2,q3,h2,hφ⟩
 ·exact h.elim
theorem at7:∀g F,Pg g=ak F->zZ aA (Ar W7) g F:=fun g F h=>by
 grind [Pg,at6]
theorem arY(stop:Nat->List Nat->Bool):AU aA (C7 zG W7 Pg stop):=kS at7 fun g h=>by
 unfold Pg at h;split at h;all_goals first|(cases h;done) |kernel_rfl
theorem RY{H:Mem}{x y:Int}{s2 s3:Sh}{n b:Nat}{g l:Nat->List Sh}{v:Value}(hs2:DI 1 s2=ak (n,g))(hs:DI 2 s3=ak (b,l))(hw:okB Pr b l=aC)(r:Rep H (.agg [.i .i64 x,.i .i64 y,s2,s3]) v):
  Rep H (.agg [.i .i64 x,.i .i64 y,.sl 1 n g,.sl 2 b (zH (zJ (α:=Pr) l))]) v:=GN r (fun _ hu=>Bd hs2 hu) fun _ hu=>Ed (Bd hs hu) hw
theorem RZ{b:Nat}{l:Nat->List Sh}(h:GU b l=aC):GU b (zH (zJ (α:=Pr) l))=aC/\∀key,Gf b (zH (zJ (α:=Pr) l)) key=Gf b l key/\A8 b (zH (zJ (α:=Pr) l)) key=A8 b l key:=by
 have e:lst Pr b (zH (zJ (α:=Pr) l))=lst Pr b l:=by rfl
 simp_all [Hq,Dx,Gf,A8]
theorem as8:zZ aA (Ar W7) 181 akG:=by
 refine Dl (C:=C7 zG W7 Pg zW) (bY _ _) (arY _) (m:=300) (n:=400) (L:=L0) (fn:=yV) (by kernel_rfl) (by kernel_rfl) fun H w Aq args φ hrep h=>?_
 have hn:yV.ntmps=12:=by kernel_rfl
 unfold akG at h;split at h
 ·rename_i x y s2 s3 key
  split at h
  ·rename_i z b l hs2 hs
   obtain ⟨a,hh⟩:=z;obtain ⟨h1,h2,hφ⟩:=h;match args,hrep with
   |[v,u1],⟨hv,r1,_⟩=>
    obtain ⟨q1,q2⟩:=RZ h1;refine ⟨[.agg [.i .i64 x,.i .i64 y,.sl 1 a hh,.sl 2 b (zH (zJ (α:=Pr) l))],.i .i64 key],⟨RY hs2 hs (Hq.1 h1).1 hv,r1,trivial⟩,?_⟩;rw[hn,awy zG W7 x y a b hh (zJ l) key,(q2 key).1,(q2 key).2];exact ⟨q1,h2,AB (s':=.zQ [.i .i64 (A8 b l key),.b (Gf b l key)]) ⟨rfl,.inl rfl,trivial⟩ hφ⟩
  ·exact h.elim
 ·exact h.elim
theorem aoA:∀g F,Io g=ak F->zZ aA (Ar W7) g F:=fun g F h=>by
 unfold Io at h;split at h
 ·cases h;exact as8
 ·cases h;exact fun H w Aq args φ _ _ _ h=>h.elim
 ·cases h
theorem arZ(stop:Nat->List Nat->Bool):AU aA (C7 zG W7 Io stop):=kS aoA fun g h=>by
 unfold Io at h;split at h;all_goals first|(cases h;done) |kernel_rfl
theorem aoB:lu.get 272=ak ⟨.struct [(0,1,ay),(1,1,ay)],2,16,[.int .i64 0,.int .i64 0]⟩:=by kernel_rfl
set_option maxHeartbeats 4000000 in
set_option maxRecDepth 100000 in
theorem aoC:aer aA 208 272 2 16:=by
 intro w k hk hb;obtain ⟨inf,z,i1,i2,i3,i4,i5,zs,hz⟩:=info116;have hsmall:k<=9223372036854775807:=by omega
 have hse:∀w,(vV 272).run aA w=.ok 2 w:=fun w=>by rfl
 by_cases h0:k=0
 ·subst h0
  go_enter xO,wF
  go_wp2
  go_ret
  exact ⟨_,rfl,OY _ _ _,⟨rfl,rfl,rfl,bV _,fun _ _ _=>rfl⟩,fun b hb=>by simp[zT] at hb⟩
 ·obtain ⟨G,hG⟩:∃G,G=grownCap w (0+k) 0 272:=⟨_,rfl⟩
  have hGn:k<=G:=by simp_all [grownCap_ge]
  have hGm:G<=maxLen:=by simp_all [grownCap_le_maxLen]
  have hG63:G<=9223372036854775807:=by assumption
  obtain ⟨ROW,hROW⟩:∃ROW:Array Value,ROW=([]:List Value).toArray++iG z.cells k++iG z.cells (G - (0+k)):=⟨_,rfl⟩;have hRs:ROW.size=G*2:=by
   grind [mD,nD,size_zeroCells,oK]
  have hr:∀ty,(eG #[209,3] ty #[.slice aK 0 0,.int .i64 k]).run aA w=.ok (.slice (ak ⟨w.heap.size,0,aK⟩) k G) (w.drew.alloc (.cells ROW 272)):=fun ty=>by
   have h:=oV w 209 3 ty 272 inf z .i64 .i64 fV nV i1 i4 aK 0 0 [] (by rfl) k (by omega) (by omega) (by omega) (by omega) (by grind) (by rw[i3];exact growslice_fits (by omega) (by omega));simp_all
  obtain ⟨W1,hW1⟩:∃W1,W1=w.drew.alloc (.cells ROW 272):=⟨_,rfl⟩;have f1:W1.heap[w.heap.size]?=ak (.cells ROW 272 (0,0)):=by rw[hW1];exact heap_alloc_new w.drew _
  have f2:w.grownBy W1 aK:=⟨by rw[hW1];rfl,by rw[hW1];rfl,by rw[hW1];rfl,by grind,fun j hj _=>by rw[hW1];first|exact vI w.drew _ j hj|exact heap_alloc_old w.drew _ hj⟩
  have hr1:=hr 209;rw[<-hW1] at hr1;have hk0:¬((k:Int)=0):=by omega
  have hk1:(0:Int)<k:=by omega
  clear hROW hr hG hW1;go_enter xO,wF
  go_wp2_with (first
   |(at_builtin;refine jr _ rfl _ _ _ _ rfl _ _ rfl rfl _ _ hr1 ?_))
  go_ret
  exact ⟨_,rfl,⟨by simp,.inr ⟨w.heap.size,G,ROW,rfl,fK _,f1,fK _,hGm,hRs,by simp⟩⟩,f2,fun b hb=>by simp_all [zT]⟩
theorem aua:∀g e te,aod g=ak e->lu.get e=ak te->wG aA g/\aiF aA g e te.size te.bytes:=fun g e te h ht=>by
 unfold aod at h;split at h
 ·cases h
  rw[aoB] at ht;cases ht;exact ⟨F7 iH jg 182 (by kernel_rfl),arW⟩
 ·cases h
theorem aub:∀g e te,aiZ g=ak e->lu.get e=ak te->wG aA g/\aer aA g e te.size te.bytes:=fun g e te h ht=>by
 unfold aiZ at h;split at h
 ·cases h
  rw[aoB] at ht;cases ht;exact ⟨F7 iH jg 208 (by kernel_rfl),aoC⟩
 ·cases h
theorem XZ.O5{spec:Nat->Option (List Sh->Tree Sh)}{stop:Nat->List Nat->Bool}(hs:∀g F,spec g=ak F->zZ aA (Ar W7) g F)(he:∀g,(spec g).isSome=aC->(Tryz.fns.get g).isSome=aC):AU aA (XZ zG W7 spec stop):=⟨hs,(fun g h=>by
  rcases h with h|h
  ·exact F7 iH jg g (he g h)
  ·exact F7 iH jg g h),aua,aub⟩
theorem aoD(stop:Nat->List Nat->Bool):AU aA (XZ zG W7 Io stop):=XZ.O5 aoA fun g h=>by
 unfold Io at h;split at h;all_goals first|(cases h;done) |kernel_rfl
theorem WY{b:Nat}{l:Nat->List Sh}{key:Int}(h1:GU b l=aC)(h:Gf b l key=aC):BG (lst Pr b l) key<b:=by
 obtain ⟨_,_,h3⟩:=Hq.1 h1;obtain ⟨h4,_⟩:=Ph (F8 h3) h;simpa using h4
theorem awE:zZ aA (Ar W7) 184 aou:=by
 refine Dl (C:=C7 zG W7 Io zW) (bY _ _) (arZ _) (m:=300) (n:=400) (L:=L0) (fn:=yX) (by kernel_rfl) (by kernel_rfl) fun H w Aq args φ hrep h=>?_
 have hn:yX.ntmps=21:=by kernel_rfl
 unfold aou at h;split at h
 ·rename_i x y s2 s3 key
  split at h
  ·rename_i z b l hs2 hs
   obtain ⟨a,hh⟩:=z;obtain ⟨h1,h2,hφ⟩:=h;match args,hrep with
   |[v,u1],⟨hv,r1,_⟩=>
    obtain ⟨q1,q2⟩:=RZ h1;refine ⟨[.agg [.i .i64 x,.i .i64 y,.sl 1 a hh,.sl 2 b (zH (zJ (α:=Pr) l))],.i .i64 key],⟨RY hs2 hs (Hq.1 h1).1 hv,r1,trivial⟩,?_⟩;rw[hn,a105 zG W7 x y a b hh (zJ l) key,(q2 key).1,(q2 key).2];have e:zG.toN (A8 b l key)=BG (lst Pr b l) key:=rfl;refine ⟨q1,h2,fun h=>⟨?_,AB (s':=.zQ [.i .i64 (QJ b l key),.i .i64 (O8 b l key)]) ⟨?_,?_,trivial⟩ hφ⟩,fun h=>AB (s':=.zQ [.i .i64 (QJ b l key),.i .i64 (O8 b l key)]) ⟨?_,?_,trivial⟩ hφ⟩
    ·simp_all [WY,AY,A8]
    ·show aT _ _=_;simp[QJ,h]
    ·show aT _ _=_;grind [O8]
    ·show aT _ _=_;simp[QJ,h]
    ·show aT _ _=_;simp[O8,h]
  ·exact h.elim
 ·exact h.elim
def aoE:List Sh->Tree Sh
 |[.agg [.i .i64 x,.i .i64 y,s2,s3],u,t]=>match DI 1 s2,DI 2 s3,Ak u,Ak t with
  |some (a,h),ak (b,l),ak key,ak _=>.need (GU b l) (.need (DV key) (.leaf (.zQ [.agg [.i .i64 x,.i .i64 y,.sl 1 a h,.sl 2 b l],.i .i64 (KZ (lst Pr b l) key),.i .i64 (KA (lst Pr b l) key)]))) |_,_,_,_=>.fail
 |_=>.fail
def aoF:List Sh->Tree Sh
 |[.agg [.i .i64 x,.i .i64 y,s2,s3],u,t]=>match DI 1 s2,DI 2 s3,Ak u,Ak t with
  |some (a,h),ak (b,l),ak key,ak v=>.need (GU b l) (.need (DV key) (.need (AV (b+1) 16) (.leaf (.zQ [.agg [.i .i64 x,.i .i64 y,.sl 1 a h,.sl 2 (len (Et (lst Pr b l) key v)) (zH (nth (Et (lst Pr b l) key v)))],.i .i64 1,.i .i64 0])))) |_,_,_,_=>.fail
 |_=>.fail
def aoG:List Sh->Tree Sh
 |[.agg [.i .i64 x,.i .i64 y,s2,s3],u,t]=>match DI 1 s2,DI 2 s3,Ak u,Ak t with
  |some (a,h),ak (b,l),ak key,ak _=>.need (GU b l) (.need (DV key) (.need (AV (b+1) 16) (.leaf (.zQ [.agg [.i .i64 x,.i .i64 y,.sl 1 a h,.sl 2 (len (Fb (lst Pr b l) key)) (zH (nth (Fb (lst Pr b l) key)))],.i .i64 (KZ (lst Pr b l) key),.i .i64 (KA (lst Pr b l) key)])))) |_,_,_,_=>.fail
 |_=>.fail
theorem awF:zZ aA (Ar W7) 179 aoF:=by
 refine Dl (C:=XZ zG W7 Io zW) (yY _ _) (aoD _) (m:=300) (n:=400) (L:=L0) (fn:=yZ) (by kernel_rfl) (by kernel_rfl) fun H w Aq args φ hrep h=>?_
 have hn:yZ.ntmps=38:=by kernel_rfl
 unfold aoF at h;split at h
 ·rename_i x y s2 s3 u t
  split at h
  ·rename_i a hh b l key vv hs2 hs hu ht
   obtain ⟨h1,h2,h3,hφ⟩:=h;match args,hrep with
   |[v,u1,u2],⟨hv,r1,r2,_⟩=>
    obtain ⟨q1,q2⟩:=RZ h1;obtain ⟨w1,w2,w3⟩:=Hq.1 h1;have hso:=F8 w3;refine ⟨[.agg [.i .i64 x,.i .i64 y,.sl 1 a hh,.sl 2 b (zH (zJ (α:=Pr) l))],.i .i64 key,.i .i64 vv],⟨RY hs2 hs w1 hv,Dn hu r1,Dn ht r2,trivial⟩,?_⟩;rw[hn,awC zG W7 x y a b hh (zJ l) key vv,Hg b,JQ,(q2 key).1,(q2 key).2];have hll:(lst Pr b l).length=b:=E8 b l;have hat:∀j (hj:j<b),nth (lst Pr b l) j=zJ (α:=Pr) l j:=fun j hj=>WW hj
    have e:zG.toN (A8 b l key)=BG (lst Pr b l) key:=rfl;have aAf:BG (lst Pr b l) key<=b:=by grind [RX,lst]
    have hup:zG.upTo (A8 b l key) b=aC:=by simp[IE,A8];omega
    have r0:zG.room b 16=aC:=Ky h3 (uY b);have fin (n':Nat) (g':Nat->List Sh) (hn':n'=len (Et (lst Pr b l) key vv)) (hg:∀j,j<n'->g' j=zH (nth (Et (lst Pr b l) key vv)) j) :
      up φ (.zQ [.agg [.i .i64 x,.i .i64 y,.sl 1 a hh,.os 272 2 n' g'],.i .i64 (ah 1),.i .i64 (ah 0)]):=
     AB (s':=.zQ [.agg [.i .i64 x,.i .i64 y,.sl 1 a hh,.sl 2 (len (Et (lst Pr b l) key vv)) (zH (nth (Et (lst Pr b l) key vv)))],.i .i64 1,.i .i64 0]) ⟨⟨rfl,rfl,.inr ⟨rfl,rfl,fun _ _=>rfl⟩,.inr ⟨rfl,hn',hg⟩,trivial⟩,rfl,rfl,trivial⟩ hφ
    have hput (hb:Gf b l key=aC):len (Et (lst Pr b l) key vv)=b:=by
     have hb:Eb (lst Pr b l) key=aC:=hb;show (Et (lst Pr b l) key vv).length=b;simp_all [abm]
    have aoH (hb:Gf b l key=ay):len (Et (lst Pr b l) key vv)=b+1:=by
     have hb:Eb (lst Pr b l) key=ay:=hb;show (Et (lst Pr b l) key vv).length=b+1;simp_all [abm]
    have yes (hb:Gf b l key=aC):zG.inB (A8 b l key) b=aC/\up φ (.zQ [.agg [.i .i64 x,.i .i64 y,.sl 1 a hh,.os 272 2 b (zG.upd (zH (zJ (α:=Pr) l)) (zG.toN (A8 b l key)) 1 [.i .i64 vv])],.i .i64 (ah 1),.i .i64 (ah 0)]):=by
     have hlt:=WY h1 hb;refine ⟨by simp[AY,A8];omega,fin b _ (hput hb).symm fun j hj=>?_⟩;have hb':Eb (lst Pr b l) key=aC:=hb;obtain ⟨k1,k2⟩:=Ph hso hb';rw[adt,e];show _=prR (nth (Et (lst Pr b l) key vv) j);rw[aeP hb',aow k1 (by omega)];by_cases ej:j=BG (lst Pr b l) key
     ·rw[if_pos ej,if_pos ej]
      have hk:(zJ (α:=Pr) l (BG (lst Pr b l) key)).key=key:=by simp_all [ag3]
      simp_all [zH,Row.put,prR]
     ·rw[if_neg ej,if_neg ej,hat j hj];rfl
    have no (hb:Gf b l key=ay):up φ (.zQ [.agg [.i .i64 x,.i .i64 y,.sl 1 a hh,.os 272 2 (zG.addN b 1) (zG.ins (zH (zJ (α:=Pr) l)) (zG.toN (A8 b l key)) [.i .i64 key,.i .i64 vv])],.i .i64 (ah 1),.i .i64 (ah 0)]):=by
     refine fin (b+1) _ (aoH hb).symm fun j hj=>?_
     have hb':Eb (lst Pr b l) key=ay:=hb;rw[e];show (if j<_ then _ else if j=_ then _ else _)=prR (nth (Et (lst Pr b l) key vv) j);rw[aeO hb',aox (by omega) (by omega)];split
     ·rw[hat j (by omega)];rfl
     ·split
      ·rfl
      ·rw[hat (j - 1) (by omega)];rfl
    refine ⟨fun h0=>⟨?_,?_⟩,fun _=>?_⟩
    ·
     have hb0:b=0:=by simp_all [X4]
     subst hb0;have hnil:∀g':Nat->List Sh,lst Pr 0 g'=[]:=fun _=>rfl
     have wf0:GU 0 (fun _=>[])=aC:=by rfl
     have hh0:Gf 0 (fun _=>[]) key=ay:=by rfl
     have hh1:Gf 0 l key=ay:=by rfl
     have hp0:A8 0 (fun _=>[]) key=0:=by rfl
     refine ⟨wf0,h2,fun hx=>(by simp_all),fun _=>⟨by rw[hp0];rfl,h3,?_⟩⟩;refine fin 1 _ (aoH hh1).symm fun j hj=>?_
     obtain rfl:j=0:=by omega
     rfl
    all_goals exact ⟨r0,q1,h2,fun hb=>yes hb,fun hb=>⟨hup,h3,no hb⟩⟩
  ·exact h.elim
 ·exact h.elim
theorem ar0(stop:Nat->List Nat->Bool):AU aA (XZ zG W7 RU stop):=XZ.O5 (fun g F h=>by
  unfold RU at h;split at h
  ·cases h;exact fun H w Aq args φ _ _ _ h=>h.elim
  ·cases h) fun g h=>by
 unfold RU at h;split at h;all_goals first|(cases h;done) |kernel_rfl
theorem awG:zZ aA (Ar W7) 186 aov:=by
 refine Fa (C:=XZ zG W7 RU zV) (yY _ _) (fn:=zf) (by kernel_rfl) (by kernel_rfl) fun H w Aq args φ hrep h=>?_
 have hn:zf.ntmps=36:=by kernel_rfl
 unfold aov at h;split at h
 ·rename_i g
  split at h
  ·rename_i n g1 m g2 h0 h1
   obtain ⟨hr,hφ⟩:=h;match args,hrep with
   |[v],⟨hv,_⟩=>
    refine ⟨[.sl 1 2 (Af [[.sl 2 n g1],[.sl 2 m g2]])],⟨DZ hv fun j hj=>?_,trivial⟩,L0,Gv (yY _ _) (ar0 _) (hold:=AX) (m:=300) (n:=400) (ts:=[]) ?_⟩
    ·have:j=0\/j=1:=by omega
     rcases this with rfl|rfl
     ·rw[h0];rfl
     ·rw[h1];rfl
    ·rw[hn,a107 zG W7 n m g1 g2]
     have hr:zG.room (n+m) 16=aC:=hr;obtain ⟨hr1,hr2⟩:=EH hr;rw[maxLen_eq] at hr2;have e0:zG.add .i64 (ah 0) (zG.Aa n)=(n:Int):=by
      rw[CB,Ad];grind [BF]
     have e1:zG.add .i64 (n:Int) (zG.Aa m)=((n+m:Nat):Int):=by
      grind [CB,Ad,BF]
     rw[e0,e1];have ng (k:Nat):zG.lt (k:Int) (ah 0)=ay:=by rfl
     have r0:zG.room (zG.addN 0 n) 16=aC:=by rw[Hg];exact Ky hr (Nat.le_add_right n m)
     have r1:zG.room (zG.addN (zG.addN 0 n) m) 16=aC:=by rw[Hg];exact hr
     have le:zG.le (ah 0) ((n+m:Nat):Int)=aC:=by rfl
     have fin:=AB (φ:=φ) (s:=.os 272 2 (zG.addN (zG.addN 0 n) m) (zG.snoc (zG.snoc (fun (x:Nat)=>[]) 0 g1) (zG.addN 0 n) g2)) (s':=.sl 2 (NS n m) (adw g1 n g2)) (.inr ⟨rfl,by rw[Hg];rfl,fun j hj=>by rw[Hg,JQ];rfl⟩);exact ⟨fun _=>⟨rfl,fun h=>(by simp_all),fun _=>⟨fun _=>⟨rfl,fun h=>(by grind),fun _=>⟨fun h=>(by cases h),fun _=>⟨le,hr,fun _=>⟨rfl,r0,fun _=>⟨rfl,r1,fun h=>(by cases h),fun _=>fin hφ⟩,fun h=>(by cases h)⟩,fun h=>(by cases h)⟩⟩⟩,fun h=>(by cases h)⟩⟩,fun h=>(by cases h)⟩
  ·exact h.elim
 ·exact h.elim
end Go.Proofs
namespace Go.Pl
open Go Go.Sx Go.Proofs
def JU(op:Int)(b:Nat)(l:Nat->List Sh):Bool:=!decide (KX op=4)||(GU b l&&AV (b+1) 16)
end Go.Pl
namespace Go.Proofs
open Go Go.Sx Go.Pl
theorem auc:∀g F,Eo g=ak F->zZ aA (Ar W7) g F:=fun g F h=>by
 unfold Eo at h;grind [as8,awE,awG]
theorem akI(stop:Nat->List Nat->Bool):AU aA (C7 zG W7 Eo stop):=kS auc fun g h=>by
 unfold Eo at h;split at h;all_goals first|(cases h;done) |kernel_rfl
theorem adx{b:Nat}{l:Nat->List Sh}(h:GU b l=aC)(key:Int):QJ b (zH (zJ (α:=Pr) l)) key=KZ (lst Pr b l) key/\O8 b (zH (zJ (α:=Pr) l)) key=KA (lst Pr b l) key:=by
 have e:lst Pr b (zH (zJ (α:=Pr) l))=lst Pr b l:=by rfl
 simp_all [Hq,QJ,KZ,Gf,aoz]
theorem awH:zZ aA (Ar W7) 183 aoE:=by
 refine Dl (C:=C7 zG W7 Eo zW) (bY _ _) (akI _) (m:=300) (n:=400) (L:=L0) (fn:=zh) (by kernel_rfl) (by kernel_rfl) fun H w Aq args φ hrep h=>?_
 have hn:zh.ntmps=20:=by kernel_rfl
 unfold aoE at h;split at h
 ·rename_i x y s2 s3 u t
  split at h
  ·rename_i a hh b l key vv hs2 hs hu ht
   obtain ⟨h1,h2,hφ⟩:=h;match args,hrep with
   |[v,u1,u2],⟨hv,r1,r2,_⟩=>
    obtain ⟨q1,q2⟩:=RZ h1;obtain ⟨e1,e2⟩:=adx h1 key;refine ⟨[.agg [.i .i64 x,.i .i64 y,.sl 1 a hh,.sl 2 b (zH (zJ (α:=Pr) l))],.i .i64 key,.i .i64 vv],⟨RY hs2 hs (Hq.1 h1).1 hv,Dn hu r1,Dn ht r2,trivial⟩,?_⟩;rw[hn,awz zG W7 x y a b hh (zJ l) key vv,e1,e2];exact ⟨q1,h2,AB (s':=.zQ [.agg [.i .i64 x,.i .i64 y,.sl 1 a hh,.sl 2 b l],.i .i64 (KZ (lst Pr b l) key),.i .i64 (KA (lst Pr b l) key)]) ⟨⟨rfl,rfl,.inr ⟨rfl,rfl,fun _ _=>rfl⟩,.inr ⟨rfl,rfl,fun j hj=>(J9 (Hq.1 h1).1 j hj).symm⟩,trivial⟩,rfl,rfl,trivial⟩ hφ⟩
  ·exact h.elim
 ·exact h.elim
theorem awI:zZ aA (Ar W7) 185 aoG:=by
 refine Dl (C:=C7 zG W7 Eo zW) (bY _ _) (akI _) (m:=600) (n:=800) (L:=L0) (fn:=zi) (by kernel_rfl) (by kernel_rfl) fun H w Aq args φ hrep h=>?_
 have hn:zi.ntmps=41:=by kernel_rfl
 unfold aoG at h;split at h
 ·rename_i x y s2 s3 u t
  split at h
  ·rename_i a hh b l key vv hs2 hs hu ht
   obtain ⟨h1,h2,h3,hφ⟩:=h;match args,hrep with
   |[v,u1,u2],⟨hv,r1,r2,_⟩=>
    obtain ⟨q1,q2⟩:=RZ h1;obtain ⟨e1,e2⟩:=adx h1 key;obtain ⟨w1,w2,w3⟩:=Hq.1 h1;refine ⟨[.agg [.i .i64 x,.i .i64 y,.sl 1 a hh,.sl 2 b (zH (zJ (α:=Pr) l))],.i .i64 key,.i .i64 vv],⟨RY hs2 hs w1 hv,Dn hu r1,Dn ht r2,trivial⟩,?_⟩;have hll:(lst Pr b l).length=b:=E8 b l;have hat:∀j (hj:j<b),nth (lst Pr b l) j=zJ (α:=Pr) l j:=fun j hj=>WW hj
    have e:zG.toN (A8 b l key)=BG (lst Pr b l) key:=rfl;have e1':zG.toN (zG.add .i64 (A8 b l key) (ah 1))=BG (lst Pr b l) key+1:=by
     have:BG (lst Pr b l) key<=b:=by grind [RX,lst]
     rw[CB];show (aU.wrap ((BG (lst Pr b l) key:Int)+1)).toNat=_;grind [BF]
    have e1i:Gf b l key=aC->zG.upTo (zG.add .i64 (A8 b l key) (ah 1)) b=aC:=fun hb=>by
     have:=WY h1 hb;rw[CB];show zG.upTo (aU.wrap ((BG (lst Pr b l) key:Int)+1)) b=aC;grind [BF,IE]
    have hup:zG.upTo (A8 b l key) b=aC:=by
     grind [BG,lst,RX,IE,A8]
    rw[hn,awD zG W7 x y a b hh (zJ l) key vv,e1,e2,(q2 key).1,(q2 key).2];have fin (n':Nat) (g':Nat->List Sh) (hn':n'=len (Fb (lst Pr b l) key)) (hg:∀j,j<n'->g' j=zH (nth (Fb (lst Pr b l) key)) j) :
      up φ (.zQ [.agg [.i .i64 x,.i .i64 y,.sl 1 a hh,.sl 2 n' g'],.i .i64 (KZ (lst Pr b l) key),.i .i64 (KA (lst Pr b l) key)]):=
     AB (s':=.zQ [.agg [.i .i64 x,.i .i64 y,.sl 1 a hh,.sl 2 (len (Fb (lst Pr b l) key)) (zH (nth (Fb (lst Pr b l) key)))],.i .i64 (KZ (lst Pr b l) key),.i .i64 (KA (lst Pr b l) key)]) ⟨⟨rfl,rfl,.inr ⟨rfl,rfl,fun _ _=>rfl⟩,.inr ⟨rfl,hn',hg⟩,trivial⟩,rfl,rfl,trivial⟩ hφ
    have hdl:len (Fb (lst Pr b l) key)=if Eb (lst Pr b l) key=aC then b - 1 else b:=by
     show (Fb (lst Pr b l) key).length=_;rw[ag4 w3,hll]
    refine ⟨q1,h2,q1,h2,fun hb=>?_,fun hb=>?_⟩
    ·have awJ:=e1i hb
     have hlt:=WY h1 hb;have hb':Eb (lst Pr b l) key=aC:=hb;have rr:AV (NS (zG.toN (A8 b l key)) (zG.Jb b (zG.toN (zG.add .i64 (A8 b l key) (ah 1))))) 16=aC:=by
      rw[e,e1',abe];exact Ky h3 (by show BG (lst Pr b l) key+(b - (BG (lst Pr b l) key+1))<=b+1;omega)
     have last:up φ (.zQ [.agg [.i .i64 x,.i .i64 y,.sl 1 a hh,.sl 2 (NS (zG.toN (A8 b l key)) (zG.Jb b (zG.toN (zG.add .i64 (A8 b l key) (ah 1))))) (adw (zH (zJ (α:=Pr) l)) (zG.toN (A8 b l key)) fun (j:Nat)=>zH (zJ (α:=Pr) l) (zG.addN (zG.toN (zG.add .i64 (A8 b l key) 1)) j))],.i .i64 (KZ (lst Pr b l) key),.i .i64 (KA (lst Pr b l) key)]):=by
      have e2':zG.toN (zG.add .i64 (A8 b l key) 1)=BG (lst Pr b l) key+1:=e1';rw[e1',e2',e,abe];refine fin _ _ (by rw[hdl,if_pos hb'];show BG (lst Pr b l) key+(b - (BG (lst Pr b l) key+1))=_;omega) fun j hj=>?_
      have hj:j<BG (lst Pr b l) key+(b - (BG (lst Pr b l) key+1)):=hj;obtain ⟨k1,_⟩:=Ph (F8 w3) hb';show zG.snoc _ _ _ j=prR (nth (Fb (lst Pr b l) key) j);rw[aeR hb',aoy k1 (by omega),Ef];split
      ·rw[hat j (by omega)];rfl
      ·rw[hat (j+1) (by omega),Cj]
       show prR (zJ l (BG (lst Pr b l) key+1+(j - BG (lst Pr b l) key)))=_;grind
     clear hφ fin hat;rw[hup,awJ,rr];generalize zG.toN (A8 b l key)=n1 at *;generalize zG.Jb b (zG.toN (zG.add .i64 (A8 b l key) (ah 1)))=n2 at *;repeat' (first|exact rfl|exact trivial|exact last|refine dh ?_ ?_)
    ·have hb':Eb (lst Pr b l) key=ay:=hb
     exact fin b _ (by simp_all) fun j hj=>by
      show prR (zJ l j)=prR (nth (Fb (lst Pr b l) key) j);simp_all [aeQ]
  ·exact h.elim
 ·exact h.elim
end Go.Proofs
namespace Go.Sx
section
variable{P:Program}{C:Ctx}{K:Kx}
theorem al1{g:Nat}{td:List It}{c:Core}{stk:List Fr}{R:Hp->Prop}{φ:Sh->Prop}(tm':List SV)(h:∀(H:Mem) (E:Env) (vs:List Value),zO H E c.tm vs->zO H E tm' vs)(hgo:Aw P C K g td {c with tm:=tm'} stk R φ):Aw P C K g td c stk R φ:=by
 intro H E w a items ms cs fn hfn st hi hs hx;exact hgo H E w a items ms cs fn hfn ⟨h H E _ st.den,st.hp,st.Bg,st.free,st.gl,st.defers⟩ hi hs hx
theorem ag5{H:Mem}{E:Env}{k:IntKind}{n:Int}:∀(i:Nat) {l:List SV} {vs:List Value},l[i]?=ak (.sym k n)->zO H E l vs->zO H E (l.set i (.int k n)) vs
 |_,[],_,h,_=>by simp at h |_,_::_,[],_,h=>h.elim |0,x::l,v::vs,h,⟨h1,h2⟩=>by
  simp at h;subst h;exact ⟨h1,h2⟩
 |i+1,x::l,v::vs,h,⟨h1,h2⟩=>⟨h1,ag5 i (by simpa using h) h2⟩
end
end Go.Sx
namespace Go.Pl
open Go Go.Sx
def La(a b:Int):Int:=aU.wrap (a+b)
def NT(h:Nat->List Sh):Nat->List Sh:=fun j=>h (1+j)
def Qm(a:Nat):Nat:=a - 1
def Uc(a:Nat):Int:=if a=0 then 2 else 3
def Qn(a:Nat)(o:Nat->Int):Int:=if a=0 then 0 else o 0
end Go.Pl
namespace Go.Proofs
open Go Go.Sx Go.Pl
def F66:List Sh->Tree Sh
 |[t]=>match Ak t with
  |some op=>.leaf (.i .i64 (KX op)) |none=>.fail
 |_=>.fail
def F67:List Sh->Tree Sh
 |[t]=>match Ak t with
  |some op=>.leaf (.b (keyed op)) |none=>.fail
 |_=>.fail
def F68:List Sh->Tree Sh
 |[t]=>match Ak t with
  |some op=>.leaf (.b (valued op)) |none=>.fail
 |_=>.fail
def F69:List Sh->Tree Sh
 |[t,u,v]=>match Ak t,Ak u,Ak v with
  |some k,ak x,ak y=>.leaf (.b (Il k x y)) |_,_,_=>.fail
 |_=>.fail
def F94:List Sh->Tree Sh
 |[.agg [.i .i64 x,.i .i64 y,s2,s3],u,t]=>match DI 1 s2,DI 2 s3,Ak u,Ak t with
  |some (a,h),ak (b,l),ak _,ak _=>.leaf (.zQ [.agg [.i .i64 x,.i .i64 y,.sl 1 a h,.sl 2 b l],.i .i64 3,.i .i64 y]) |_,_,_,_=>.fail
 |_=>.fail
def F95:List Sh->Tree Sh
 |[.agg [.i .i64 x,.i .i64 _,s2,s3],u,t]=>match DI 1 s2,DI 2 s3,Ak u,Ak t with
  |some (a,h),ak (b,l),ak _,ak v=>.leaf (.zQ [.agg [.i .i64 x,.i .i64 v,.sl 1 a h,.sl 2 b l],.i .i64 1,.i .i64 0]) |_,_,_,_=>.fail
 |_=>.fail
def F96:List Sh->Tree Sh
 |[.agg [.i .i64 x,.i .i64 y,s2,s3],u,t]=>match DI 1 s2,DI 2 s3,Ak u,Ak t with
  |some (a,h),ak (b,l),ak _,ak v=>.leaf (.zQ [.agg [.i .i64 x,.i .i64 (La y v),.sl 1 a h,.sl 2 b l],.i .i64 1,.i .i64 0]) |_,_,_,_=>.fail
 |_=>.fail
def F97:List Sh->Tree Sh
 |[.agg [.i .i64 x,.i .i64 y,s2,s3],u,t]=>match DI 1 s2,DI 2 s3,Ak u,Ak t with
  |some (a,h),ak (b,l),ak _,ak v=>.need (AV (a+1) 8) (.leaf (.zQ [.agg [.i .i64 x,.i .i64 y,.sl 1 (a+1) (FQ a h [.i .i64 v]),.sl 2 b l],.i .i64 1,.i .i64 0])) |_,_,_,_=>.fail
 |_=>.fail
def F99:List Sh->Tree Sh
 |[.agg [.i .i64 x,.i .i64 y,s2,s3],u,t]=>match DI 1 s2,DI 2 s3,Ak u,Ak t with
  |some (a,h),ak (b,l),ak _,ak _=>.need (okB Int a h) (.leaf (.zQ [.agg [.i .i64 x,.i .i64 y,.sl 1 (Qm a) (NT h),.sl 2 b l],.i .i64 (Uc a),.i .i64 (Qn a (zJ h))])) |_,_,_,_=>.fail
 |_=>.fail
def Gn:Nat->Option (List Sh->Tree Sh)
 |102=>ak F66 |151=>ak F67 |152=>ak F68 |153=>ak F69 |173=>ak F94 |174=>ak F95 |175=>ak F96 |176=>ak F97 |178=>ak F99 |179=>ak aoF |183=>ak aoE |185=>ak aoG |_=>aK
def akJ:List Nat->List Nat->Bool
 |[],[]=>aC |x::l,y::r=>dQ x y&&akJ l r |_,_=>ay
def aoI(f:Nat)(ps:List (List Nat))(g:Nat)(td:List It):Bool:=dQ g f&&match td with
 | .code r::_=>ps.any (akJ r) |_=>ay
def ag6:Nat->List It->Bool:=aoI 120 [[0,1,1,1,1]]
def L42(x y:Int)(a b:Nat)(h l:Nat->List Sh)(op k v:Int):Core:={tm:=FT 88 [(1,.sym .i64 op),(2,.sym .i64 k),(3,.sym .i64 v),(4,.ptr 0 0),(8,.ptr 1 0)],hp:=[(0,.box [.sym .i64 x,.sym .i64 y,.sh (.sl 1 a h),.sh (.sl 2 b l)] 211),(1,.box [.int .i64 0,.int .i64 0,.zY,.zY] 211)],nx:=2,lim:=L0,tc:=[]}
def Ud(x y:Int)(a b:Nat)(h l:Nat->List Sh)(n:Int)(k v:Int):Core:={tm:=(L42 x y a b h l n k v).tm.set 1 (.int .i64 n),hp:=(L42 x y a b h l n k v).hp,nx:=2,lim:=L0,tc:=[]}
def Nj:List It:=[bF [0,1,1,1,1],bF [1,1,1,1,1]]
noncomputable def Qo:Nat->Option (List Sh->Tree Sh)
 |119=>ak F33 |116=>ak F35 |95=>ak F41 |77=>ak F49 |96=>ak F50 |121=>ak F54 |117=>ak F56 |_=>aK
def Y5:List It:=[bF [0,1,0,1,1,1],bZ 0,bF [1,1,1,1]]
def akK:List It:=bF [0,0,1,0,1,1,1]::Y5
def awK(k:Nat)(gg:Nat->List Sh):Bool->SV
 |true=>.zY |false=>.sh (.sl 4 k gg)
def WZ(n:Nat)(o:Nat->Oj)(i:Int)(k:Nat)(gg:Nat->List Sh)(v:Bool):Core:={tm:=FT 38 [(2,.ptr 0 0),(5,.ptr 1 0),(17,.sh (.sl 2 n (zH o))),(18,.sym .i64 (n:Int)),(19,.sym .i64 i)],hp:=[(0,.box [.zY] 100),(1,.box [awK k gg v] 98)],nx:=2,lim:=L0,tc:=[]}
theorem a25(A:Prim)(W:Wd)(n:Nat)(o:Nat->Oj)(i':Int)(k':Nat)(G7:Nat->List Sh):AA (C7 A W Qo zW) AX 300 400 75 [.code []] (zL 38 [.sl 2 n (zH o)] L0) [] [⟨75,Y5,WZ n o i' k' G7 aC,[]⟩]=aH (okB Oj n (zH o)) (aH (Qj n (zJ (zH o))) (aF (RP n) (aB (aS (bT [bP [aI 0 0 fun _=>[]],aW 6 329]))) (aF (Nh n (zJ (zH o))) (aB (bJ 0 [aP (aI 2 n (zH o)) (aI 2 n (zH o)),aj (A.Aa n) (ah n),aj (ah 0) i'])) (aB (aS (bT [bP [aI 0 0 fun _=>[]],Sh.BM 109 (Sh.pt [aT .i64 (ah (Kz n (zJ (zH o)))),aW 7 329])])))))):=by kernel_rfl
theorem b25(A:Prim)(W:Wd)(n:Nat)(o:Nat->Oj)(i i':Int)(k k':Nat)(gg G7:Nat->List Sh):AA (C7 A W Qo zW) AX 300 400 75 akK (WZ n o i k gg ay) [] [⟨75,Y5,WZ n o i' k' G7 ay,[]⟩]=aF (A.lt i (ah n)) (aH (A.inB i n) (aH (BR (o (A.toN i)).kind) (aF (En (o (A.toN i)).kind (o (A.toN i)).init) (aB (aS (bT [bP [aI 0 0 fun _=>[]],aW 7 329]))) (aH (AV k.succ 64) (aB (bJ 0 [aP (aI 2 n (zH o)) (aI 2 n (zH o)),aj (ah n) (ah n),aj (A.add .i64 i (ah 1)) i',aP (aI 4 k.succ (FQ k gg [aT .i64 (o (A.toN i)).kind,aT .i64 (o (A.toN i)).init,aI 1 0 noI,aI 2 0 noP])) (aI 4 k' G7)])))))) (aB (aS (bT [bP [aI 4 k gg],iW bG]))):=by kernel_rfl
theorem c25(A:Prim)(W:Wd)(n:Nat)(o:Nat->Oj)(i i':Int)(k k':Nat)(gg G7:Nat->List Sh):AA (C7 A W Qo zW) AX 300 400 75 akK (WZ n o i k gg aC) [] [⟨75,Y5,WZ n o i' k' G7 ay,[]⟩]=aF (A.lt i (ah n)) (aH (A.inB i n) (aH (BR (o (A.toN i)).kind) (aF (En (o (A.toN i)).kind (o (A.toN i)).init) (aB (aS (bT [bP [aI 0 0 fun _=>[]],aW 7 329]))) (aH (AV 1 64) (aB (bJ 0 [aP (aI 2 n (zH o)) (aI 2 n (zH o)),aj (ah n) (ah n),aj (A.add .i64 i (ah 1)) i',aP (aI 4 1 (FQ 0 (fun _=>[]) [aT .i64 (o (A.toN i)).kind,aT .i64 (o (A.toN i)).init,aI 1 0 noI,aI 2 0 noP])) (aI 4 k' G7)])))))) (aB (aS (bT [bP [aI 0 0 fun _=>[]],iW bG]))):=by kernel_rfl
theorem a94(A:Prim)(W:Wd)(x y:Int)(a b:Nat)(h l:Nat->List Sh)(k v:Int):AA (C7 A W CO zW) AX 300 400 173 [.code []] (zL 12 [.agg [.i .i64 x,.i .i64 y,.sl 1 a h,.sl 2 b l],.i .i64 k,.i .i64 v] L0) [] []=aB (aS (bT [bP [aT .i64 x,aT .i64 y,aI 1 a h,aI 2 b l],aT .i64 (ah 3),aT .i64 y])):=by kernel_rfl
theorem a95(A:Prim)(W:Wd)(x y:Int)(a b:Nat)(h l:Nat->List Sh)(k v:Int):AA (C7 A W CO zW) AX 300 400 174 [.code []] (zL 12 [.agg [.i .i64 x,.i .i64 y,.sl 1 a h,.sl 2 b l],.i .i64 k,.i .i64 v] L0) [] []=aB (aS (bT [bP [aT .i64 x,aT .i64 v,aI 1 a h,aI 2 b l],aT .i64 (ah 1),aT .i64 (ah 0)])):=by kernel_rfl
theorem a96(A:Prim)(W:Wd)(x y:Int)(a b:Nat)(h l:Nat->List Sh)(k v:Int):AA (C7 A W CO zW) AX 300 400 175 [.code []] (zL 15 [.agg [.i .i64 x,.i .i64 y,.sl 1 a h,.sl 2 b l],.i .i64 k,.i .i64 v] L0) [] []=aB (aS (bT [bP [aT .i64 x,aT .i64 (A.add .i64 y v),aI 1 a h,aI 2 b l],aT .i64 (ah 1),aT .i64 (ah 0)])):=by kernel_rfl
theorem a97(A:Prim)(W:Wd)(x y:Int)(a b:Nat)(h l:Nat->List Sh)(k v:Int):AA (C7 A W CO zW) AX 300 400 176 [.code []] (zL 17 [.agg [.i .i64 x,.i .i64 y,.sl 1 a h,.sl 2 b l],.i .i64 k,.i .i64 v] L0) [] []=aF (A.Z8 a 0) ((aB (aS (bT [bP [aT .i64 x,aT .i64 y,iK 3 1 1 (Af [[aT .i64 v]]),aI 2 b l],aT .i64 (ah 1),aT .i64 (ah 0)]))).both (aH (A.room (A.addN 0 a) 8) (aH (A.room (A.addN (A.addN 0 a) 1) 8) (aB (aS (bT [bP [aT .i64 x,aT .i64 y,iK 3 1 (A.addN (A.addN 0 a) 1) (A.snoc (A.snoc (Af []) 0 h) (A.addN 0 a) (Af [[aT .i64 v]])),aI 2 b l],aT .i64 (ah 1),aT .i64 (ah 0)])))))) (aH (A.room (A.addN 0 a) 8) (aH (A.room (A.addN (A.addN 0 a) 1) 8) (aB (aS (bT [bP [aT .i64 x,aT .i64 y,iK 3 1 (A.addN (A.addN 0 a) 1) (A.snoc (A.snoc (Af []) 0 h) (A.addN 0 a) (Af [[aT .i64 v]])),aI 2 b l],aT .i64 (ah 1),aT .i64 (ah 0)]))))):=by kernel_rfl
theorem a99(A:Prim)(W:Wd)(x y:Int)(a b:Nat)(o:Nat->Int)(l:Nat->List Sh)(k v:Int):AA (C7 A W CO zW) AX 300 400 178 [.code []] (zL 25 [.agg [.i .i64 x,.i .i64 y,.sl 1 a (zH o),.sl 2 b l],.i .i64 k,.i .i64 v] L0) [] []=aF (A.eq (A.Aa a) (ah 0)) (aB (aS (bT [bP [aT .i64 x,aT .i64 y,aI 1 a (zH o),aI 2 b l],aT .i64 (ah 2),aT .i64 (ah 0)]))) (aH (A.inB (ah 0) a) (aH (A.upTo (ah 1) a) (aB (aS (bT [bP [aT .i64 x,aT .i64 y,aI 1 (A.Jb a 1) fun (j:Nat)=>zH o (A.addN 1 j),aI 2 b l],aT .i64 (ah 3),aT .i64 (o 0)]))))):=by kernel_rfl
theorem a42(A:Prim)(W:Wd)(x y:Int)(a b:Nat)(h l:Nat->List Sh)(op k v:Int):as1 (C7 A W Gn zW) ag6 300 400 120 [.code []] (zL 88 [.agg [.i .i64 x,.i .i64 y,.sl 1 a h,.sl 2 b l],.i .i64 op,.i .i64 k,.i .i64 v] L0) [] [⟨120,Nj,L42 x y a b h l op k v,[]⟩]=aF (A.eq x (ah 0)) (aB (aS (bT [bP [aT .i64 (ah 0),aT .i64 (ah 0),aI 0 0 fun _=>[],aI 0 0 fun _=>[]],aT .i64 (ah 0),aT .i64 (ah 0),aW 8 329]))) (aF (A.nt (A.eq (KX op) x)) (aB (aS (bT [bP [aT .i64 (ah 0),aT .i64 (ah 0),aI 0 0 fun _=>[],aI 0 0 fun _=>[]],aT .i64 (ah 0),aT .i64 (ah 0),aW 8 329]))) (aF (A.nt (A.eq k (ah 0))) (aF (A.nt (keyed op)) (aB (aS (bT [bP [aT .i64 (ah 0),aT .i64 (ah 0),aI 0 0 fun _=>[],aI 0 0 fun _=>[]],aT .i64 (ah 0),aT .i64 (ah 0),aW 15 329]))) (aF (A.lt k (ah 0)) (aB (aS (bT [bP [aT .i64 (ah 0),aT .i64 (ah 0),aI 0 0 fun _=>[],aI 0 0 fun _=>[]],aT .i64 (ah 0),aT .i64 (ah 0),aW 15 329]))) (aF (A.lt (ah 1000) k) (aB (aS (bT [bP [aT .i64 (ah 0),aT .i64 (ah 0),aI 0 0 fun _=>[],aI 0 0 fun _=>[]],aT .i64 (ah 0),aT .i64 (ah 0),aW 15 329]))) (aF (A.nt (A.eq v (ah 0))) (aF (A.nt (valued op)) (aB (aS (bT [bP [aT .i64 (ah 0),aT .i64 (ah 0),aI 0 0 fun _=>[],aI 0 0 fun _=>[]],aT .i64 (ah 0),aT .i64 (ah 0),aW 15 329]))) (aF (A.lt v (dZ 999999999)) (aB (aS (bT [bP [aT .i64 (ah 0),aT .i64 (ah 0),aI 0 0 fun _=>[],aI 0 0 fun _=>[]],aT .i64 (ah 0),aT .i64 (ah 0),aW 15 329]))) (aF (A.lt (ah 1000000000) v) (aB (aS (bT [bP [aT .i64 (ah 0),aT .i64 (ah 0),aI 0 0 fun _=>[],aI 0 0 fun _=>[]],aT .i64 (ah 0),aT .i64 (ah 0),aW 15 329]))) (aF (A.eq op (ah 3)) (aF (Il x (ah 0) (A.add .i64 y v)) (aB (aS (bT [bP [aT .i64 (ah 0),aT .i64 (ah 0),aI 0 0 fun _=>[],aI 0 0 fun _=>[]],aT .i64 (ah 0),aT .i64 (ah 0),aW 15 329]))) (aB (bJ 0 [aj op op,aj k k,aj v v,aj x x,aj y y,aP (aI 1 a h) (aI 1 a h),aP (aI 2 b l) (aI 2 b l),aj (ah 0) (ah 0),aj (ah 0) (ah 0)]))) (aB (bJ 0 [aj op op,aj k k,aj v v,aj x x,aj y y,aP (aI 1 a h) (aI 1 a h),aP (aI 2 b l) (aI 2 b l),aj (ah 0) (ah 0),aj (ah 0) (ah 0)])))))) (aF (A.lt v (dZ 999999999)) (aB (aS (bT [bP [aT .i64 (ah 0),aT .i64 (ah 0),aI 0 0 fun _=>[],aI 0 0 fun _=>[]],aT .i64 (ah 0),aT .i64 (ah 0),aW 15 329]))) (aF (A.lt (ah 1000000000) v) (aB (aS (bT [bP [aT .i64 (ah 0),aT .i64 (ah 0),aI 0 0 fun _=>[],aI 0 0 fun _=>[]],aT .i64 (ah 0),aT .i64 (ah 0),aW 15 329]))) (aF (A.eq op (ah 3)) (aF (Il x (ah 0) (A.add .i64 y v)) (aB (aS (bT [bP [aT .i64 (ah 0),aT .i64 (ah 0),aI 0 0 fun _=>[],aI 0 0 fun _=>[]],aT .i64 (ah 0),aT .i64 (ah 0),aW 15 329]))) (aB (bJ 0 [aj op op,aj k k,aj v v,aj x x,aj y y,aP (aI 1 a h) (aI 1 a h),aP (aI 2 b l) (aI 2 b l),aj (ah 0) (ah 0),aj (ah 0) (ah 0)]))) (aB (bJ 0 [aj op op,aj k k,aj v v,aj x x,aj y y,aP (aI 1 a h) (aI 1 a h),aP (aI 2 b l) (aI 2 b l),aj (ah 0) (ah 0),aj (ah 0) (ah 0)]))))))))) (aF (A.lt k (ah 0)) (aB (aS (bT [bP [aT .i64 (ah 0),aT .i64 (ah 0),aI 0 0 fun _=>[],aI 0 0 fun _=>[]],aT .i64 (ah 0),aT .i64 (ah 0),aW 15 329]))) (aF (A.lt (ah 1000) k) (aB (aS (bT [bP [aT .i64 (ah 0),aT .i64 (ah 0),aI 0 0 fun _=>[],aI 0 0 fun _=>[]],aT .i64 (ah 0),aT .i64 (ah 0),aW 15 329]))) (aF (A.nt (A.eq v (ah 0))) (aF (A.nt (valued op)) (aB (aS (bT [bP [aT .i64 (ah 0),aT .i64 (ah 0),aI 0 0 fun _=>[],aI 0 0 fun _=>[]],aT .i64 (ah 0),aT .i64 (ah 0),aW 15 329]))) (aF (A.lt v (dZ 999999999)) (aB (aS (bT [bP [aT .i64 (ah 0),aT .i64 (ah 0),aI 0 0 fun _=>[],aI 0 0 fun _=>[]],aT .i64 (ah 0),aT .i64 (ah 0),aW 15 329]))) (aF (A.lt (ah 1000000000) v) (aB (aS (bT [bP [aT .i64 (ah 0),aT .i64 (ah 0),aI 0 0 fun _=>[],aI 0 0 fun _=>[]],aT .i64 (ah 0),aT .i64 (ah 0),aW 15 329]))) (aF (A.eq op (ah 3)) (aF (Il x (ah 0) (A.add .i64 y v)) (aB (aS (bT [bP [aT .i64 (ah 0),aT .i64 (ah 0),aI 0 0 fun _=>[],aI 0 0 fun _=>[]],aT .i64 (ah 0),aT .i64 (ah 0),aW 15 329]))) (aB (bJ 0 [aj op op,aj k k,aj v v,aj x x,aj y y,aP (aI 1 a h) (aI 1 a h),aP (aI 2 b l) (aI 2 b l),aj (ah 0) (ah 0),aj (ah 0) (ah 0)]))) (aB (bJ 0 [aj op op,aj k k,aj v v,aj x x,aj y y,aP (aI 1 a h) (aI 1 a h),aP (aI 2 b l) (aI 2 b l),aj (ah 0) (ah 0),aj (ah 0) (ah 0)])))))) (aF (A.lt v (dZ 999999999)) (aB (aS (bT [bP [aT .i64 (ah 0),aT .i64 (ah 0),aI 0 0 fun _=>[],aI 0 0 fun _=>[]],aT .i64 (ah 0),aT .i64 (ah 0),aW 15 329]))) (aF (A.lt (ah 1000000000) v) (aB (aS (bT [bP [aT .i64 (ah 0),aT .i64 (ah 0),aI 0 0 fun _=>[],aI 0 0 fun _=>[]],aT .i64 (ah 0),aT .i64 (ah 0),aW 15 329]))) (aF (A.eq op (ah 3)) (aF (Il x (ah 0) (A.add .i64 y v)) (aB (aS (bT [bP [aT .i64 (ah 0),aT .i64 (ah 0),aI 0 0 fun _=>[],aI 0 0 fun _=>[]],aT .i64 (ah 0),aT .i64 (ah 0),aW 15 329]))) (aB (bJ 0 [aj op op,aj k k,aj v v,aj x x,aj y y,aP (aI 1 a h) (aI 1 a h),aP (aI 2 b l) (aI 2 b l),aj (ah 0) (ah 0),aj (ah 0) (ah 0)]))) (aB (bJ 0 [aj op op,aj k k,aj v v,aj x x,aj y y,aP (aI 1 a h) (aI 1 a h),aP (aI 2 b l) (aI 2 b l),aj (ah 0) (ah 0),aj (ah 0) (ah 0)])))))))))):=by kernel_rfl
noncomputable def Yc(x y:Int)(a b:Nat)(h l:Nat->List Sh)(k v:Int):List AQ:=[aj k k,aj v v,aj (ah 3) (ah 3),aj y y,aj x x,aj y y,aP (aI 1 a h) (aI 1 a h),aP (aI 2 b l) (aI 2 b l),aj x x,aj y y,aP (aI 1 a h) (aI 1 a h),aP (aI 2 b l) (aI 2 b l)]
theorem aul(A:Prim)(W:Wd)(x y:Int)(a b:Nat)(h l:Nat->List Sh)(k v:Int):AA (C7 A W Gn zW) AX 300 400 120 Nj (Ud x y a b h l 1 k v) [] []=aO (Yc x y a b h l k v) (aO (Yc x y a b h l k v) (aO (Yc x y a b h l k v) (aB (aS (bT [bP [aT .i64 x,aT .i64 y,aI 1 a h,aI 2 b l],aT .i64 (ah 3),aT .i64 y,iW bG]))))):=by kernel_rfl
noncomputable def Yd(x y:Int)(a b:Nat)(h l:Nat->List Sh)(k v:Int):List AQ:=[aj k k,aj v v,aj (ah 1) (ah 1),aj (ah 0) (ah 0),aj x x,aj y y,aP (aI 1 a h) (aI 1 a h),aP (aI 2 b l) (aI 2 b l),aj x x,aj v v,aP (aI 1 a h) (aI 1 a h),aP (aI 2 b l) (aI 2 b l)]
theorem aum(A:Prim)(W:Wd)(x y:Int)(a b:Nat)(h l:Nat->List Sh)(k v:Int):AA (C7 A W Gn zW) AX 300 400 120 Nj (Ud x y a b h l 2 k v) [] []=aO (Yd x y a b h l k v) (aO (Yd x y a b h l k v) (aO (Yd x y a b h l k v) (aB (aS (bT [bP [aT .i64 x,aT .i64 v,aI 1 a h,aI 2 b l],aT .i64 (ah 1),aT .i64 (ah 0),iW bG]))))):=by kernel_rfl
noncomputable def Ye(x y:Int)(a b:Nat)(h l:Nat->List Sh)(k v:Int):List AQ:=[aj k k,aj v v,aj (ah 1) (ah 1),aj (ah 0) (ah 0),aj x x,aj y y,aP (aI 1 a h) (aI 1 a h),aP (aI 2 b l) (aI 2 b l),aj x x,aj (La y v) (La y v),aP (aI 1 a h) (aI 1 a h),aP (aI 2 b l) (aI 2 b l)]
theorem aun(A:Prim)(W:Wd)(x y:Int)(a b:Nat)(h l:Nat->List Sh)(k v:Int):AA (C7 A W Gn zW) AX 300 400 120 Nj (Ud x y a b h l 3 k v) [] []=aO (Ye x y a b h l k v) (aO (Ye x y a b h l k v) (aO (Ye x y a b h l k v) (aB (aS (bT [bP [aT .i64 x,aT .i64 (La y v),aI 1 a h,aI 2 b l],aT .i64 (ah 1),aT .i64 (ah 0),iW bG]))))):=by kernel_rfl
noncomputable def Yf(x y:Int)(a b:Nat)(h l:Nat->List Sh)(k v:Int):List AQ:=[aj k k,aj v v,aj (ah 3) (ah 3),aj y y,aj x x,aj y y,aP (aI 1 a h) (aI 1 a h),aP (aI 2 b l) (aI 2 b l),aj x x,aj y y,aP (aI 1 a h) (aI 1 a h),aP (aI 2 b l) (aI 2 b l)]
theorem auo(A:Prim)(W:Wd)(x y:Int)(a b:Nat)(h l:Nat->List Sh)(k v:Int):AA (C7 A W Gn zW) AX 300 400 120 Nj (Ud x y a b h l 4 k v) [] []=aO (Yf x y a b h l k v) (aO (Yf x y a b h l k v) (aO (Yf x y a b h l k v) (aB (aS (bT [bP [aT .i64 x,aT .i64 y,aI 1 a h,aI 2 b l],aT .i64 (ah 3),aT .i64 y,iW bG]))))):=by kernel_rfl
noncomputable def Yg(x y:Int)(a b:Nat)(h l:Nat->List Sh)(k v:Int):List AQ:=[aj k k,aj v v,aj (ah 1) (ah 1),aj (ah 0) (ah 0),aj x x,aj y y,aP (aI 1 a h) (aI 1 a h),aP (aI 2 b l) (aI 2 b l),aj x x,aj y y,aP (aI 1 a.succ (FQ a h [aT .i64 v])) (aI 1 a.succ (FQ a h [aT .i64 v])),aP (aI 2 b l) (aI 2 b l)]
theorem aup(A:Prim)(W:Wd)(x y:Int)(a b:Nat)(h l:Nat->List Sh)(k v:Int):AA (C7 A W Gn zW) AX 300 400 120 Nj (Ud x y a b h l 5 k v) [] []=aH (AV a.succ 8) (aH (AV a.succ 8) (aO (Yg x y a b h l k v) (aH (AV a.succ 8) (aO (Yg x y a b h l k v) (aH (AV a.succ 8) (aO (Yg x y a b h l k v) (aB (aS (bT [bP [aT .i64 x,aT .i64 y,aI 1 a.succ (FQ a h [aT .i64 v]),aI 2 b l],aT .i64 (ah 1),aT .i64 (ah 0),iW bG]))))))))):=by kernel_rfl
noncomputable def Yh(x y:Int)(a b:Nat)(h l:Nat->List Sh)(k v:Int):List AQ:=[aj k k,aj v v,aj (Uc a) (Uc a),aj (Qn a (zJ h)) (Qn a (zJ h)),aj x x,aj y y,aP (aI 1 a h) (aI 1 a h),aP (aI 2 b l) (aI 2 b l),aj x x,aj y y,aP (aI 1 (Qm a) (NT h)) (aI 1 (Qm a) (NT h)),aP (aI 2 b l) (aI 2 b l)]
theorem auq(A:Prim)(W:Wd)(x y:Int)(a b:Nat)(h l:Nat->List Sh)(k v:Int):AA (C7 A W Gn zW) AX 300 400 120 Nj (Ud x y a b h l 6 k v) [] []=aH (okB Int a h) (aH (okB Int a h) (aO (Yh x y a b h l k v) (aH (okB Int a h) (aO (Yh x y a b h l k v) (aH (okB Int a h) (aO (Yh x y a b h l k v) (aB (aS (bT [bP [aT .i64 x,aT .i64 y,aI 1 (Qm a) (NT h),aI 2 b l],aT .i64 (Uc a),aT .i64 (Qn a (zJ h)),iW bG]))))))))):=by kernel_rfl
noncomputable def Yi(x y:Int)(a b:Nat)(h:Nat->List Sh)(p:Nat->Pr)(k v:Int):List AQ:=[aj k k,aj v v,aj (ah 1) (ah 1),aj (ah 0) (ah 0),aj x x,aj y y,aP (aI 1 a h) (aI 1 a h),aP (aI 2 b (zH p)) (aI 2 b (zH p)),aj x x,aj y y,aP (aI 1 a h) (aI 1 a h),aP (aI 2 (len (Et (lst Pr b (zH p)) k v)) (zH (nth (Et (lst Pr b (zH p)) k v)))) (aI 2 (len (Et (lst Pr b (zH p)) k v)) (zH (nth (Et (lst Pr b (zH p)) k v))))]
theorem aur(A:Prim)(W:Wd)(x y:Int)(a b:Nat)(h:Nat->List Sh)(p:Nat->Pr)(k v:Int):AA (C7 A W Gn zW) AX 300 400 120 Nj (Ud x y a b h (zH p) 7 k v) [] []=aH (GU b (zH p)) (aH (DV k) (aH (AV b.succ 16) (aH (GU b (zH p)) (aH (DV k) (aH (AV b.succ 16) (aO (Yi x y a b h p k v) (aH (GU b (zH p)) (aH (DV k) (aH (AV b.succ 16) (aO (Yi x y a b h p k v) (aH (GU b (zH p)) (aH (DV k) (aH (AV b.succ 16) (aO (Yi x y a b h p k v) (aB (aS (bT [bP [aT .i64 x,aT .i64 y,aI 1 a h,aI 2 (len (Et (lst Pr b (zH p)) k v)) (zH (nth (Et (lst Pr b (zH p)) k v)))],aT .i64 (ah 1),aT .i64 (ah 0),iW bG]))))))))))))))))):=by kernel_rfl
noncomputable def Yj(x y:Int)(a b:Nat)(h:Nat->List Sh)(p:Nat->Pr)(k v:Int):List AQ:=[aj k k,aj v v,aj (KZ (lst Pr b (zH p)) k) (KZ (lst Pr b (zH p)) k),aj (KA (lst Pr b (zH p)) k) (KA (lst Pr b (zH p)) k),aj x x,aj y y,aP (aI 1 a h) (aI 1 a h),aP (aI 2 b (zH p)) (aI 2 b (zH p)),aj x x,aj y y,aP (aI 1 a h) (aI 1 a h),aP (aI 2 b (zH p)) (aI 2 b (zH p))]
theorem aus(A:Prim)(W:Wd)(x y:Int)(a b:Nat)(h:Nat->List Sh)(p:Nat->Pr)(k v:Int):AA (C7 A W Gn zW) AX 300 400 120 Nj (Ud x y a b h (zH p) 8 k v) [] []=aH (GU b (zH p)) (aH (DV k) (aH (GU b (zH p)) (aH (DV k) (aO (Yj x y a b h p k v) (aH (GU b (zH p)) (aH (DV k) (aO (Yj x y a b h p k v) (aH (GU b (zH p)) (aH (DV k) (aO (Yj x y a b h p k v) (aB (aS (bT [bP [aT .i64 x,aT .i64 y,aI 1 a h,aI 2 b (zH p)],aT .i64 (KZ (lst Pr b (zH p)) k),aT .i64 (KA (lst Pr b (zH p)) k),iW bG]))))))))))))):=by kernel_rfl
noncomputable def Yk(x y:Int)(a b:Nat)(h:Nat->List Sh)(p:Nat->Pr)(k v:Int):List AQ:=[aj k k,aj v v,aj (KZ (lst Pr b (zH p)) k) (KZ (lst Pr b (zH p)) k),aj (KA (lst Pr b (zH p)) k) (KA (lst Pr b (zH p)) k),aj x x,aj y y,aP (aI 1 a h) (aI 1 a h),aP (aI 2 b (zH p)) (aI 2 b (zH p)),aj x x,aj y y,aP (aI 1 a h) (aI 1 a h),aP (aI 2 (len (Fb (lst Pr b (zH p)) k)) (zH (nth (Fb (lst Pr b (zH p)) k)))) (aI 2 (len (Fb (lst Pr b (zH p)) k)) (zH (nth (Fb (lst Pr b (zH p)) k))))]
theorem aut(A:Prim)(W:Wd)(x y:Int)(a b:Nat)(h:Nat->List Sh)(p:Nat->Pr)(k v:Int):AA (C7 A W Gn zW) AX 300 400 120 Nj (Ud x y a b h (zH p) 9 k v) [] []=aH (GU b (zH p)) (aH (DV k) (aH (AV b.succ 16) (aH (GU b (zH p)) (aH (DV k) (aH (AV b.succ 16) (aO (Yk x y a b h p k v) (aH (GU b (zH p)) (aH (DV k) (aH (AV b.succ 16) (aO (Yk x y a b h p k v) (aH (GU b (zH p)) (aH (DV k) (aH (AV b.succ 16) (aO (Yk x y a b h p k v) (aB (aS (bT [bP [aT .i64 x,aT .i64 y,aI 1 a h,aI 2 (len (Fb (lst Pr b (zH p)) k)) (zH (nth (Fb (lst Pr b (zH p)) k)))],aT .i64 (KZ (lst Pr b (zH p)) k),aT .i64 (KA (lst Pr b (zH p)) k),iW bG]))))))))))))))))):=by kernel_rfl
end Go.Proofs
namespace Go.Pl
open Go Go.Sx
def Gp(x op:Int):Bool:=decide (x=0) || !decide (KX op=x)
def Hr(x y op k v:Int):Bool:=
 (!decide (k=0) && !keyed op)||decide (k<0)||decide (1000<k)||(!decide (v=0) && !valued op)||decide (v < -1000000000)||decide (1000000000<v)||(decide (op=3)&&Il x 0 (La y v))
end Go.Pl
namespace Go.Proofs
open Go Go.Sx Go.Pl
theorem O66:zZ aA (Ar W7) 102 F66:=by
 refine Dl (C:=C7 zG W7 CO zW) (bY _ _) (KY _) (m:=300) (n:=400) (L:=L0) (fn:=lS) (by kernel_rfl) (by kernel_rfl) fun H w Aq args φ hrep h=>?_
 have hn:lS.ntmps=17:=by kernel_rfl
 unfold F66 at h;split at h
 ·rename_i t
  split at h
  ·rename_i op ht
   match args,hrep with
   |[v],⟨hv,_⟩=>
    refine ⟨[.i .i64 op],⟨Dn ht hv,trivial⟩,?_⟩;rw[hn,a66 zG W7 op];have key (n:Int) (e:KX op=n):up φ (.i .i64 n):=AB (s':=.i .i64 (KX op)) (by rw[e];rfl) h;have q1:ah 1=1:=rfl;have q2:ah 2=2:=rfl;have q3:ah 3=3:=rfl;have q4:ah 4=4:=rfl;have q5:ah 5=5:=rfl;have q6:ah 6=6:=rfl;have q7:ah 7=7:=rfl;have q8:ah 8=8:=rfl;have q9:ah 9=9:=rfl;have q0:ah 0=0:=rfl;simp only[Ac,q0,q1,q2,q3,q4,q5,q6,q7,q8,q9];(refine ⟨fun _=>key _ ?_,fun _=>⟨fun _=>key _ ?_,fun _=>⟨fun _=>key _ ?_,fun _=>⟨fun _=>key _ ?_,fun _=>⟨fun _=>key _ ?_,fun _=>⟨fun _=>key _ ?_,fun _=>⟨fun _=>key _ ?_,fun _=>⟨fun _=>key _ ?_,fun _=>⟨fun _=>key _ ?_,fun _=>key _ ?_⟩⟩⟩⟩⟩⟩⟩⟩⟩)<;>simp_all [KX]
  ·exact h.elim
 ·exact h.elim
theorem O67:zZ aA (Ar W7) 151 F67:=by
 refine Dl (C:=C7 zG W7 CO zW) (bY _ _) (KY _) (m:=300) (n:=400) (L:=L0) (fn:=zk) (by kernel_rfl) (by kernel_rfl) fun H w Aq args φ hrep h=>?_
 have hn:zk.ntmps=13:=by kernel_rfl
 unfold F67 at h;split at h
 ·rename_i t
  split at h
  ·rename_i op ht
   match args,hrep with
   |[v],⟨hv,_⟩=>
    refine ⟨[.i .i64 op],⟨Dn ht hv,trivial⟩,?_⟩;rw[hn,a67 zG W7 op];have key (n:Bool) (e:keyed op=n):up φ (.b n):=AB (s':=.b (keyed op)) (by rw[e];exact .inl rfl) h;have q7:ah 7=7:=rfl;have q8:ah 8=8:=rfl;have q9:ah 9=9:=rfl;simp only[Ac,q7,q8,q9];(refine ⟨fun _=>key _ ?_,fun _=>⟨fun _=>key _ ?_,fun _=>key _ ?_⟩⟩)<;>grind [keyed]
  ·exact h.elim
 ·exact h.elim
theorem O68:zZ aA (Ar W7) 152 F68:=by
 refine Dl (C:=C7 zG W7 CO zW) (bY _ _) (KY _) (m:=300) (n:=400) (L:=L0) (fn:=zl) (by kernel_rfl) (by kernel_rfl) fun H w Aq args φ hrep h=>?_
 have hn:zl.ntmps=17:=by kernel_rfl
 unfold F68 at h;split at h
 ·rename_i t
  split at h
  ·rename_i op ht
   match args,hrep with
   |[v],⟨hv,_⟩=>
    refine ⟨[.i .i64 op],⟨Dn ht hv,trivial⟩,?_⟩;rw[hn,a68 zG W7 op];have key (n:Bool) (e:valued op=n):up φ (.b n):=AB (s':=.b (valued op)) (by rw[e];exact .inl rfl) h;have q2:ah 2=2:=rfl;have q3:ah 3=3:=rfl;have q5:ah 5=5:=rfl;have q7:ah 7=7:=rfl;simp only[Ac,q2,q3,q5,q7];(refine ⟨fun _=>key _ ?_,fun _=>⟨fun _=>key _ ?_,fun _=>⟨fun _=>key _ ?_,fun _=>key _ ?_⟩⟩⟩)<;>grind [valued]
  ·exact h.elim
 ·exact h.elim
theorem O69:zZ aA (Ar W7) 153 F69:=by
 refine Dl (C:=C7 zG W7 CO zW) (bY _ _) (KY _) (m:=300) (n:=400) (L:=L0) (fn:=zn) (by kernel_rfl) (by kernel_rfl) fun H w Aq args φ hrep h=>?_
 have hn:zn.ntmps=27:=by kernel_rfl
 unfold F69 at h;split at h
 ·rename_i t u v
  split at h
  ·rename_i k x y ht hu hv
   match args,hrep with
   |[v1,v2,v3],⟨r1,r2,r3,_⟩=>
    refine ⟨[.i .i64 k,.i .i64 x,.i .i64 y],⟨Dn ht r1,Dn hu r2,Dn hv r3,trivial⟩,?_⟩;rw[hn,a69 zG W7 k x y];have key (n:Bool) (e:Il k x y=n):up φ (.b n):=AB (s':=.b (Il k x y)) (by rw[e];exact .inl rfl) h;have q0:ah 0=0:=rfl;have q2:ah 2=2:=rfl;have q3:ah 1000=1000:=rfl;have q4:ah 1000000000=1000000000:=rfl;have q5:ah 1000000000000000=1000000000000000:=rfl;have q6:dZ 999999999=-1000000000:=rfl;have q7:dZ 999999999999999=-1000000000000000:=rfl;simp only[Ac,zN,q0,q2,q3,q4,q5,q6,q7];(refine ⟨fun e=>⟨fun _=>key _ ?_,fun _=>⟨fun _=>key _ ?_,fun _=>⟨fun _=>key _ ?_,fun _=>key _ ?_⟩⟩⟩,fun e=>⟨fun _=>key _ ?_,fun _=>⟨fun _=>key _ ?_,fun _=>⟨fun _=>key _ ?_,fun _=>key _ ?_⟩⟩⟩⟩)<;>grind [Il]
  ·exact h.elim
 ·exact h.elim
theorem O94:zZ aA (Ar W7) 173 F94:=by
 refine Dl (C:=C7 zG W7 CO zW) (bY _ _) (KY _) (m:=300) (n:=400) (L:=L0) (fn:=zo) (by kernel_rfl) (by kernel_rfl) fun H w Aq args φ hrep h=>?_
 have hn:zo.ntmps=12:=by kernel_rfl
 unfold F94 at h;split at h
 ·rename_i x y s2 s3 t u
  split at h
  ·rename_i a hh b l p q hs2 hs3 ht hu
   match args,hrep with
   |[v,v1,v2],⟨hv,r1,r2,_⟩=>
    refine ⟨[.agg [.i .i64 x,.i .i64 y,.sl 1 a hh,.sl 2 b l],.i .i64 p,.i .i64 q],⟨GN hv (fun u hu=>Bd hs2 hu) (fun u hu=>Bd hs3 hu),Dn ht r1,Dn hu r2,trivial⟩,?_⟩;rw[hn,a94 zG W7 x y a b hh l p q];exact AB (s':=.zQ [.agg [.i .i64 x,.i .i64 y,.sl 1 a hh,.sl 2 b l],.i .i64 3,.i .i64 y]) (by simp[Wk,Nu]) h
  ·exact h.elim
 ·exact h.elim
theorem O95:zZ aA (Ar W7) 174 F95:=by
 refine Dl (C:=C7 zG W7 CO zW) (bY _ _) (KY _) (m:=300) (n:=400) (L:=L0) (fn:=zq) (by kernel_rfl) (by kernel_rfl) fun H w Aq args φ hrep h=>?_
 have hn:zq.ntmps=12:=by kernel_rfl
 unfold F95 at h;split at h
 ·rename_i x y s2 s3 t u
  split at h
  ·rename_i a hh b l p q hs2 hs3 ht hu
   match args,hrep with
   |[v,v1,v2],⟨hv,r1,r2,_⟩=>
    refine ⟨[.agg [.i .i64 x,.i .i64 y,.sl 1 a hh,.sl 2 b l],.i .i64 p,.i .i64 q],⟨GN hv (fun u hu=>Bd hs2 hu) (fun u hu=>Bd hs3 hu),Dn ht r1,Dn hu r2,trivial⟩,?_⟩;rw[hn,a95 zG W7 x y a b hh l p q];exact AB (s':=.zQ [.agg [.i .i64 x,.i .i64 q,.sl 1 a hh,.sl 2 b l],.i .i64 1,.i .i64 0]) (by simp[Wk,Nu]) h
  ·exact h.elim
 ·exact h.elim
theorem O96:zZ aA (Ar W7) 175 F96:=by
 refine Dl (C:=C7 zG W7 CO zW) (bY _ _) (KY _) (m:=300) (n:=400) (L:=L0) (fn:=zu) (by kernel_rfl) (by kernel_rfl) fun H w Aq args φ hrep h=>?_
 have hn:zu.ntmps=15:=by kernel_rfl
 unfold F96 at h;split at h
 ·rename_i x y s2 s3 t u
  split at h
  ·rename_i a hh b l p q hs2 hs3 ht hu
   match args,hrep with
   |[v,v1,v2],⟨hv,r1,r2,_⟩=>
    refine ⟨[.agg [.i .i64 x,.i .i64 y,.sl 1 a hh,.sl 2 b l],.i .i64 p,.i .i64 q],⟨GN hv (fun u hu=>Bd hs2 hu) (fun u hu=>Bd hs3 hu),Dn ht r1,Dn hu r2,trivial⟩,?_⟩;rw[hn,a96 zG W7 x y a b hh l p q];exact AB (s':=.zQ [.agg [.i .i64 x,.i .i64 (La y q),.sl 1 a hh,.sl 2 b l],.i .i64 1,.i .i64 0]) (by simp[Wk,Nu];rfl) h
  ·exact h.elim
 ·exact h.elim
theorem O97:zZ aA (Ar W7) 176 F97:=by
 refine Dl (C:=C7 zG W7 CO zW) (bY _ _) (KY _) (m:=300) (n:=400) (L:=L0) (fn:=zx) (by kernel_rfl) (by kernel_rfl) fun H w Aq args φ hrep h=>?_
 have hn:zx.ntmps=17:=by kernel_rfl
 unfold F97 at h;split at h
 ·rename_i x y s2 s3 t u
  split at h
  ·rename_i a hh b l p q hs2 hs3 ht hu
   obtain ⟨h1,hφ⟩:=h;match args,hrep with
   |[v,v1,v2],⟨hv,r1,r2,_⟩=>
    refine ⟨[.agg [.i .i64 x,.i .i64 y,.sl 1 a hh,.sl 2 b l],.i .i64 p,.i .i64 q],⟨GN hv (fun u hu=>Bd hs2 hu) (fun u hu=>Bd hs3 hu),Dn ht r1,Dn hu r2,trivial⟩,?_⟩;have h0:=Ky h1 (uY a);rw[hn,a97 zG W7 x y a b hh l p q,Hg,JQ,abg];have fin:up φ (.zQ [.agg [.i .i64 x,.i .i64 y,.os 3 1 (a+1) (zG.snoc hh a (Af [[.i .i64 q]])),.sl 2 b l],.i .i64 (ah 1),.i .i64 (ah 0)]):=
     AB (s':=.zQ [.agg [.i .i64 x,.i .i64 y,.sl 1 (a+1) (FQ a hh [.i .i64 q]),.sl 2 b l],.i .i64 1,.i .i64 0]) ⟨⟨rfl,rfl,.inr ⟨rfl,rfl,ads⟩,.inr ⟨rfl,rfl,fun _ _=>rfl⟩,trivial⟩,rfl,rfl,trivial⟩ hφ
    refine ⟨fun e=>⟨?_,h0,h1,fin⟩,fun _=>⟨h0,h1,fin⟩⟩;have e:a=0:=by have:=of_decide_eq_true (show decide (a<=0)=aC from e);omega
    subst e;assumption
  ·exact h.elim
 ·exact h.elim
theorem O99:zZ aA (Ar W7) 178 F99:=by
 refine Dl (C:=C7 zG W7 CO zW) (bY _ _) (KY _) (m:=300) (n:=400) (L:=L0) (fn:=zy) (by kernel_rfl) (by kernel_rfl) fun H w Aq args φ hrep h=>?_
 have hn:zy.ntmps=25:=by kernel_rfl
 unfold F99 at h;split at h
 ·rename_i x y s2 s3 t u
  split at h
  ·rename_i a hh b l p q hs2 hs3 ht hu
   obtain ⟨h1,hφ⟩:=h;match args,hrep with
   |[v,v1,v2],⟨hv,r1,r2,_⟩=>
    refine ⟨[.agg [.i .i64 x,.i .i64 y,.sl 1 a (zH (zJ (α:=Int) hh)),.sl 2 b l],.i .i64 p,.i .i64 q],⟨GN hv (fun u hu=>Ed (Bd hs2 hu) h1) (fun u hu=>Bd hs3 hu),Dn ht r1,Dn hu r2,trivial⟩,?_⟩;have hrow:=J9 h1;generalize zJ (α:=Int) hh=o at *;have hφ:φ (.zQ [.agg [.i .i64 x,.i .i64 y,.sl 1 (Qm a) (NT hh),.sl 2 b l],.i .i64 (Uc a),.i .i64 (Qn a o)]):=hφ;rw[hn,a99 zG W7 x y a b o l p q];refine ⟨fun e=>?_,fun e=>?_⟩
    ·have e:a=0:=by grind [Ac,Ad]
     subst e;exact AB (s':=.zQ [.agg [.i .i64 x,.i .i64 y,.sl 1 (Qm 0) (NT hh),.sl 2 b l],.i .i64 (Uc 0),.i .i64 (Qn 0 o)]) ⟨⟨rfl,rfl,.inl ⟨rfl,rfl⟩,.inr ⟨rfl,rfl,fun _ _=>rfl⟩,trivial⟩,rfl,rfl,trivial⟩ hφ
    ·have e:¬a=0:=by grind [Ac,Ad]
     refine ⟨by simp[AY];omega,by simp[IE];omega,?_⟩;refine AB (s':=.zQ [.agg [.i .i64 x,.i .i64 y,.sl 1 (Qm a) (NT hh),.sl 2 b l],.i .i64 (Uc a),.i .i64 (Qn a o)]) ⟨⟨rfl,rfl,.inr ⟨rfl,rfl,fun j hj=>?_⟩,.inr ⟨rfl,rfl,fun _ _=>rfl⟩,trivial⟩,?_,?_,trivial⟩ hφ
     ·have hj:j<a - 1:=hj
      show zH o (1+j)=hh (1+j);rw[hrow (1+j) (by omega)];rfl
     ·simp[Wk,Uc,e]
     ·simp[Wk,Qn,e]
  ·exact h.elim
 ·exact h.elim
end Go.Proofs
namespace Go.Pl
open Go Go.Sx
def Eh(s:BK)(op k v:Int):BK×Int×Int:=
 if op=1\/op=4 then (s,3,s.num)
 else if op=2 then ({s with num:=v},1,0)
 else if op=3 then ({s with num:=La s.num v},1,0)
 else if op=5 then ({s with q:=s.q++[v]},1,0)
 else if op=6 then ({s with q:=s.q.tail},Uc s.q.length,s.q.headD 0)
 else if op=7 then ({s with ps:=Et s.ps k v},1,0)
 else if op=8 then (s,KZ s.ps k,KA s.ps k)
 else if op=9 then ({s with ps:=Fb s.ps k},KZ s.ps k,KA s.ps k)
 else (s,0,0)
def newT(o:Nat->Oj)(j:Nat):BK:=⟨(o j).kind,(o j).init,[],[]⟩
def noT:Nat->List Sh:=fun _=>[]
end Go.Pl
namespace Go.Proofs
open Go Go.Sx Go.Pl
theorem ODs:∀g F,Gn g=ak F->zZ aA (Ar W7) g F:=fun g F h=>by
 unfold Gn at h;split at h
 ·cases h;exact O66
 ·cases h;exact O67
 ·cases h;exact O68
 ·cases h;exact O69
 ·cases h;exact O94
 ·cases h;exact O95
 ·cases h;exact O96
 ·cases h;exact O97
 ·cases h;exact O99
 ·cases h;exact awF
 ·cases h;exact awH
 ·cases h;exact awI
 ·cases h
theorem Ue(stop:Nat->List Nat->Bool):AU aA (C7 zG W7 Gn stop):=kS ODs fun g h=>by
 unfold Gn at h;split at h;all_goals first|(cases h;done) |kernel_rfl
def F42:List Sh->Tree Sh
 |[.agg [.i .i64 x,.i .i64 y,s2,s3],t,u,v]=>match DI 1 s2,DI 2 s3,Ak t,Ak u,Ak v with
  |some (a,h),ak (b,l),ak op,ak k,ak v=>.need (okB Int a h) (.need (okB Pr b l) (.need (AV (a+1) 8) (.node (Gp x op) (.leaf (.zQ [.agg (Cb Nc),.i .i64 0,.i .i64 0,.er 8 329])) (.node (Hr x y op k v) (.leaf (.zQ [.agg (Cb Nc),.i .i64 0,.i .i64 0,.er 15 329]))
    (.need (JU op b l) (.leaf (.zQ [.agg (Cb (Eh ⟨x,y,lst Int a h,lst Pr b l⟩ op k v).1),.i .i64 (Eh ⟨x,y,lst Int a h,lst Pr b l⟩ op k v).2.1,.i .i64 (Eh ⟨x,y,lst Int a h,lst Pr b l⟩ op k v).2.2,.v .nilIface])))))))
  |_,_,_,_,_=>.fail
 |_=>.fail
theorem aoJ{α:Type}[Row α](l:List α)(a:α):∀i,i<l.length+1->FQ l.length (zH (nth l)) (Row.put a) i=zH (nth (l++[a])) i:=fun i hi=>by
 grind [FQ,zH,nth,oL]
theorem TD{α:Type}[Row α](o:Nat->α):zJ (zH o)=o:=funext fun i=>MZ o i
section
variable{H0:Mem}{w0:World}{φ:Sh->Prop}
theorem awL{x y op k v:Int}{q:List Int}{ps:List Pr}(hr:AV (q.length+1) 8=aC)(hop:op=1\/op=2\/op=3\/op=4\/op=5\/op=6\/op=7\/op=8\/op=9)(hm:JU op ps.length (zH (nth ps))=aC)(hkey:DV k=aC)
  (hφ:φ (.zQ [.agg (Cb (Eh ⟨x,y,q,ps⟩ op k v).1),.i .i64 (Eh ⟨x,y,q,ps⟩ op k v).2.1,.i .i64 (Eh ⟨x,y,q,ps⟩ op k v).2.2,.v .nilIface])) :
  Aw aA (C7 zG W7 Gn zW) (K0 H0 w0) 120 Nj (L42 x y q.length ps.length (zH (nth q)) (zH (nth ps)) op k v) [] emp (up φ):=by
 have lit (n:Int) (h:Aw aA (C7 zG W7 Gn zW) (K0 H0 w0) 120 Nj (Ud x y q.length ps.length (zH (nth q)) (zH (nth ps)) n k v) [] emp (up φ)):Aw aA (C7 zG W7 Gn zW) (K0 H0 w0) 120 Nj (L42 x y q.length ps.length (zH (nth q)) (zH (nth ps)) n k v) [] emp (up φ):=
  al1 _ (fun H E vs hd=>ag5 1 rfl hd) h
 have fin (s':BK) (r g:Int) (e:Eh ⟨x,y,q,ps⟩ op k v=(s',r,g)) (c:List Sh) (hc:Nu c (Cb s')):up φ (.zQ [.agg c,.i .i64 r,.i .i64 g,.v .nilIface]):=
  AB (s':=.zQ [.agg (Cb (Eh ⟨x,y,q,ps⟩ op k v).1),.i .i64 (Eh ⟨x,y,q,ps⟩ op k v).2.1,.i .i64 (Eh ⟨x,y,q,ps⟩ op k v).2.2,.v .nilIface]) (by rw[e];exact ⟨hc,rfl,rfl,rfl,trivial⟩) hφ
 rcases hop with rfl|rfl|rfl|rfl|rfl|rfl|rfl|rfl|rfl
 ·refine lit 1 (Gv (bY _ _) (Ue _) (hold:=AX) (m:=300) (n:=400) (ts:=[]) ?_)
  rw[aul zG W7 x y q.length ps.length (zH (nth q)) (zH (nth ps)) k v];have:=fin _ _ _ rfl [.i .i64 x,.i .i64 y,.sl 1 q.length (zH (nth q)),.sl 2 ps.length (zH (nth ps))] (by simp[Cb,Wk,Nu,len]);repeat' (first|exact trivial|exact rfl|exact this|refine dh ?_ ?_)
 ·refine lit 2 (Gv (bY _ _) (Ue _) (hold:=AX) (m:=300) (n:=400) (ts:=[]) ?_)
  rw[aum zG W7 x y q.length ps.length (zH (nth q)) (zH (nth ps)) k v];have:=fin _ _ _ rfl [.i .i64 x,.i .i64 v,.sl 1 q.length (zH (nth q)),.sl 2 ps.length (zH (nth ps))] (by simp[Cb,Wk,Nu,len]);repeat' (first|exact trivial|exact rfl|exact this|refine dh ?_ ?_)
 ·refine lit 3 (Gv (bY _ _) (Ue _) (hold:=AX) (m:=300) (n:=400) (ts:=[]) ?_)
  rw[aun zG W7 x y q.length ps.length (zH (nth q)) (zH (nth ps)) k v];have:=fin _ _ _ rfl [.i .i64 x,.i .i64 (La y v),.sl 1 q.length (zH (nth q)),.sl 2 ps.length (zH (nth ps))] (by simp[Cb,Wk,Nu,len]);repeat' (first|exact trivial|exact rfl|exact this|refine dh ?_ ?_)
 ·refine lit 4 (Gv (bY _ _) (Ue _) (hold:=AX) (m:=300) (n:=400) (ts:=[]) ?_)
  rw[auo zG W7 x y q.length ps.length (zH (nth q)) (zH (nth ps)) k v];have:=fin _ _ _ rfl [.i .i64 x,.i .i64 y,.sl 1 q.length (zH (nth q)),.sl 2 ps.length (zH (nth ps))] (by simp[Cb,Wk,Nu,len]);repeat' (first|exact trivial|exact rfl|exact this|refine dh ?_ ?_)
 ·refine lit 5 (Gv (bY _ _) (Ue _) (hold:=AX) (m:=300) (n:=400) (ts:=[]) ?_)
  rw[aup zG W7 x y q.length ps.length (zH (nth q)) (zH (nth ps)) k v];have:=fin _ _ _ rfl [.i .i64 x,.i .i64 y,.sl 1 (q.length+1) (FQ q.length (zH (nth q)) [.i .i64 v]),.sl 2 ps.length (zH (nth ps))] ⟨rfl,rfl,.inr ⟨rfl,by simp[len],aoJ q v⟩,.inr ⟨rfl,rfl,fun _ _=>rfl⟩,trivial⟩;repeat' (first|exact trivial|exact hr|exact rfl|exact this|refine dh ?_ ?_)
 ·refine lit 6 (Gv (bY _ _) (Ue _) (hold:=AX) (m:=300) (n:=400) (ts:=[]) ?_)
  rw[auq zG W7 x y q.length ps.length (zH (nth q)) (zH (nth ps)) k v,TD];have hh:Qn q.length (nth q)=q.headD 0:=by cases q<;>rfl
  rw[hh];have:=fin _ _ _ rfl [.i .i64 x,.i .i64 y,.sl 1 (Qm q.length) (NT (zH (nth q))),.sl 2 ps.length (zH (nth ps))] ⟨rfl,rfl,.inr ⟨rfl,by simp[len,Qm],fun j hj=>by
   show zH (nth q) (1+j)=zH (nth q.tail) j;simp_all [zH,nth,Nat.add_comm]⟩,.inr ⟨rfl,rfl,fun _ _=>rfl⟩,trivial⟩
  repeat' (first|exact trivial|exact Dx _ _|exact rfl|exact this|refine dh ?_ ?_)
 all_goals
  have hm2:(!decide (KX _=4)||(GU ps.length (zH (nth ps))&&AV (ps.length+1) 16))=aC:=hm;have hm3:GU ps.length (zH (nth ps))=aC/\AV (ps.length+1) 16=aC:=by
   simp_all [KX]
  obtain ⟨m1,m2⟩:=hm3;have el:lst Pr ps.length (zH (nth ps))=ps:=Kw ps
 ·refine lit 7 (Gv (bY _ _) (Ue _) (hold:=AX) (m:=300) (n:=400) (ts:=[]) ?_)
  rw[aur zG W7 x y q.length ps.length (zH (nth q)) (nth ps) k v,el];have:=fin _ _ _ rfl [.i .i64 x,.i .i64 y,.sl 1 q.length (zH (nth q)),.sl 2 (len (Et ps k v)) (zH (nth (Et ps k v)))] (by simp[Cb,Wk,Nu,len]);repeat' (first|exact trivial|exact m1|exact m2|exact hkey|exact rfl|exact this|refine dh ?_ ?_)
 ·refine lit 8 (Gv (bY _ _) (Ue _) (hold:=AX) (m:=300) (n:=400) (ts:=[]) ?_)
  rw[aus zG W7 x y q.length ps.length (zH (nth q)) (nth ps) k v,el];have:=fin _ _ _ rfl [.i .i64 x,.i .i64 y,.sl 1 q.length (zH (nth q)),.sl 2 ps.length (zH (nth ps))] (by simp[Cb,Wk,Nu,len]);repeat' (first|exact trivial|exact m1|exact m2|exact hkey|exact rfl|exact this|refine dh ?_ ?_)
 ·refine lit 9 (Gv (bY _ _) (Ue _) (hold:=AX) (m:=300) (n:=400) (ts:=[]) ?_)
  rw[aut zG W7 x y q.length ps.length (zH (nth q)) (nth ps) k v,el];have:=fin _ _ _ rfl [.i .i64 x,.i .i64 y,.sl 1 q.length (zH (nth q)),.sl 2 (len (Fb ps k)) (zH (nth (Fb ps k)))] (by simp[Cb,Wk,Nu,len]);repeat' (first|exact trivial|exact m1|exact m2|exact hkey|exact rfl|exact this|refine dh ?_ ?_)
end
theorem ag7{op:Int}(h0:KX op≠0):op=1\/op=2\/op=3\/op=4\/op=5\/op=6\/op=7\/op=8\/op=9:=by
 grind [KX]
theorem O42:zZ aA (Ar W7) 120 F42:=by
 refine Fa (C:=C7 zG W7 Gn zW) (bY _ _) (fn:=zA) (by kernel_rfl) (by kernel_rfl) fun H w Aq args φ hrep h=>?_
 have hn:zA.ntmps=88:=by kernel_rfl
 unfold F42 at h;split at h
 ·rename_i x y s2 s3 t u v
  split at h
  ·rename_i a hh b l op k vv hs2 hs3 ht hu hv
   obtain ⟨h1,h2,h3,he,hb⟩:=h;have hml:JU op b l=aC->JU op (lst Pr b l).length (zH (nth (lst Pr b l)))=aC:=fun hq=>by
    unfold JU GU at hq ⊢;rw[Kw,E8,Dx];simp_all
   match args,hrep with
   |[v0,v1,v2,v3],⟨r0,r1,r2,r3,_⟩=>
    refine ⟨[.agg [.i .i64 x,.i .i64 y,.sl 1 (lst Int a hh).length (zH (nth (lst Int a hh))),.sl 2 (lst Pr b l).length (zH (nth (lst Pr b l)))],.i .i64 op,.i .i64 k,.i .i64 vv],⟨GN r0 (fun u hu=>Ko (Bd hs2 hu) h1) (fun u hu=>Ko (Bd hs3 hu) h2),Dn ht r1,Dn hu r2,Dn hv r3,trivial⟩,L0,?_⟩;have h3:AV ((lst Int a hh).length+1) 8=aC:=by simp_all
    have hb:Gp x op=ay->(Hr x y op k vv=aC->φ (.zQ [.agg (Cb Nc),.i .i64 0,.i .i64 0,.er 15 329]))/\(Hr x y op k vv=ay->JU op (lst Pr b l).length (zH (nth (lst Pr b l)))=aC/\φ (.zQ [.agg (Cb (Eh ⟨x,y,lst Int a hh,lst Pr b l⟩ op k vv).1),.i .i64 (Eh ⟨x,y,lst Int a hh,lst Pr b l⟩ op k vv).2.1,.i .i64 (Eh ⟨x,y,lst Int a hh,lst Pr b l⟩ op k vv).2.2,.v .nilIface])):=fun e=>⟨(hb e).1,fun e2=>⟨hml ((hb e).2 e2).1,((hb e).2 e2).2⟩⟩;clear hml;generalize lst Int a hh=q at *;generalize lst Pr b l=ps at *;have e1 (e:Gp x op=aC):up φ (.zQ [.agg [.i .i64 (ah 0),.i .i64 (ah 0),.sl 0 0 fun _=>[],.sl 0 0 fun _=>[]],.i .i64 (ah 0),.i .i64 (ah 0),.er 8 329]):=
     AB (s':=.zQ [.agg (Cb Nc),.i .i64 0,.i .i64 0,.er 8 329]) ⟨⟨rfl,rfl,.inl ⟨rfl,rfl⟩,.inl ⟨rfl,rfl⟩,trivial⟩,rfl,rfl,rfl,trivial⟩ (he e)
    have e3 (e:Gp x op=ay) (e2:Hr x y op k vv=aC):up φ (.zQ [.agg [.i .i64 (ah 0),.i .i64 (ah 0),.sl 0 0 fun _=>[],.sl 0 0 fun _=>[]],.i .i64 (ah 0),.i .i64 (ah 0),.er 15 329]):=
     AB (s':=.zQ [.agg (Cb Nc),.i .i64 0,.i .i64 0,.er 15 329]) ⟨⟨rfl,rfl,.inl ⟨rfl,rfl⟩,.inl ⟨rfl,rfl⟩,trivial⟩,rfl,rfl,rfl,trivial⟩ ((hb e).1 e2)
    have go (e:Gp x op=ay) (e2:Hr x y op k vv=ay):∃t:Lp,([⟨120,Nj,L42 x y q.length ps.length (zH (nth q)) (zH (nth ps)) op k vv,[]⟩]:List Lp)[0]?=ak t/\Aw aA (C7 zG W7 Gn zW) (K0 H w) t.g t.td t.c t.stk emp (up φ):=
     ⟨_,rfl,awL h3 (ag7 (by
      simp_all [Gp])) ((hb e).2 e2).1 (by
       simp_all [Hr,DV,decide_eq_true]) ((hb e).2 e2).2⟩
    refine agA (bY _ _) (Ue _) (pause:=ag6) (m:=300) (n:=400) (ts:=[⟨120,Nj,L42 x y q.length ps.length (zH (nth q)) (zH (nth ps)) op k vv,[]⟩]) ?_;rw[hn,a42 zG W7 x y q.length ps.length (zH (nth q)) (zH (nth ps)) op k vv];have q0:ah 0=0:=rfl;have q3:ah 3=3:=rfl;have qk:ah 1000=1000:=rfl;have q4:ah 1000000000=1000000000:=rfl;have q6:dZ 999999999=-1000000000:=rfl;have qa:zG.add .i64 y vv=La y vv:=rfl;rw[q0] at e1 e3;simp only[Ac,Bh,zN,q0,q3,qk,q4,q6,qa];clear he hb h3 hn;repeat' (first|exact trivial|exact rfl|(intro _) |refine dh ?_ ?_)
    all_goals first
     |exact e1 (by simp_all [Gp])
     |exact e3 (by simp_all [Gp]) (by simp_all [Hr])
     |simp_all [Gp,Hr]
  ·exact h.elim
 ·exact h.elim
open Go Go.Sx Go.Pl
theorem OCs:∀g F,Qo g=ak F->zZ aA (Ar W7) g F:=fun g F h=>by
 unfold Qo at h;split at h
 ·cases h;exact O33
 ·cases h;exact O35
 ·cases h;exact O41
 ·cases h;exact O49
 ·cases h;exact O50
 ·cases h;exact O54
 ·cases h;exact O56
 ·cases h
theorem aoK(stop:Nat->List Nat->Bool):AU aA (C7 zG W7 Qo stop):=kS OCs fun g h=>by
 unfold Qo at h;split at h;all_goals first|(cases h;done) |kernel_rfl
def F25:List Sh->Tree Sh
 |[s0]=>match DI 2 s0 with
  |some (n,g)=>.need (okB Oj n g) (.need (Qj n (zJ g)) (.node (RP n) (.leaf (.zQ [.agg [.sl 4 0 noT],.er 6 329])) (.node (Nh n (zJ g)) (.leaf (.zQ [.agg [.sl 4 n (BD (newT (zJ g)))],.v .nilIface])) (.leaf (.zQ [.agg [.sl 4 0 noT],.BM 109 (.pt [.i .i64 (Kz n (zJ g)),.er 7 329])]))))) |none=>.fail
 |_=>.fail
theorem al2{n j:Nat}{g:Nat->List Sh}{r:List Sh}(h:j<n):FQ n g r j=g j:=if_pos h
theorem ady{n:Nat}{g:Nat->List Sh}{r:List Sh}:FQ n g r n=r:=if_neg (by omega)
section
variable{H0:Mem}{w0:World}{φ:Sh->Prop}
theorem akL{n:Nat}{o:Nat->Oj}(hn:n<=8)(hk:∀j,j<n->BR (o j).kind=aC)(hT:∀j,j<n->En (o j).kind (o j).init=ay)(hφ:φ (.zQ [.agg [.sl 4 n (BD (newT o))],.v .nilIface])):
  ∀r k (gg:Nat->List Sh),k+r=n->(∀j,j<k->gg j=Cb (newT o j))->Aw aA (C7 zG W7 Qo zW) (K0 H0 w0) 75 Y5 (WZ n o (k:Int) k gg ay) [] emp (up φ)
 |r,k,gg,hkr,hg=>by
  refine G6 (fn:=qm) (tb:=akK) (by kernel_rfl) (by kernel_rfl) ?_;refine Gv (bY _ _) (aoK _) (hold:=AX) (m:=300) (n:=400) (ts:=[⟨75,Y5,WZ n o (k+1:Nat) (k+1) (FQ k gg (Cb (newT o k))) ay,[]⟩]) ?_;rw[b25 zG W7 n o k (k+1:Nat) k (k+1) gg (FQ k gg (Cb (newT o k)))];simp only[zN,AY,BL,CB,Gl,fB];refine ⟨fun h=>?_,fun h=>?_⟩
  ·have hlt:k<n:=by simp_all
   refine ⟨by simp;omega,hk k hlt,fun hb=>(by simp_all),fun _=>⟨room_le (by omega) (by omega),⟨rfl,rfl,?_,rfl,trivial⟩,_,rfl,?_⟩⟩
   ·grind [AQ.ok,BF]
   ·match r,hkr with
    |0,hkr=>omega |r+1,hkr=>
     refine akL hn hk hT hφ r (k+1) _ (by omega) fun j hj=>?_
     grind [ady,al2]
  ·have:k=n:=by grind
   subst this;exact AB (s':=.zQ [.agg [.sl 4 k (BD (newT o))],.v .nilIface]) ⟨⟨.inr ⟨rfl,rfl,hg⟩,trivial⟩,rfl,trivial⟩ hφ
end
theorem O25:zZ aA (Ar W7) 75 F25:=by
 refine Fa (C:=C7 zG W7 Qo zW) (bY _ _) (fn:=qm) (by kernel_rfl) (by kernel_rfl) fun H w Aq args φ hrep h=>?_
 have hn:qm.ntmps=38:=by kernel_rfl
 unfold F25 at h;split at h
 ·rename_i s0
  split at h
  ·rename_i n g hs0
   obtain ⟨h1,h2,hbig,hsm⟩:=h;have hsm:RP n=ay->(Nh n (zJ g)=aC->φ (.zQ [.agg [.sl 4 n (BD (newT (zJ g)))],.v .nilIface]))/\(Nh n (zJ g)=ay->φ (.zQ [.agg [.sl 4 0 noT],.BM 109 (.pt [.i .i64 (Kz n (zJ g)),.er 7 329])])):=hsm;match args,hrep with
   |[v],⟨hv,_⟩=>
    refine ⟨[.sl 2 n (zH (zJ (α:=Oj) g))],⟨Ed (Bd hs0 hv) h1,trivial⟩,L0,?_⟩;generalize zJ (α:=Oj) g=o at *;refine Gv (bY _ _) (aoK _) (hold:=AX) (m:=300) (n:=400) (ts:=[⟨75,Y5,WZ n o (0:Nat) 0 noT aC,[]⟩]) ?_;rw[hn,a25 zG W7 n o (0:Nat) 0 noT,TD];refine ⟨Dx _ _,h2,fun e=>AB (s':=.zQ [.agg [.sl 4 0 noT],.er 6 329]) ⟨⟨.inl ⟨rfl,rfl⟩,trivial⟩,rfl,trivial⟩ (hbig e),fun e=>?_⟩;obtain ⟨q1,q2⟩:=hsm e;have hn8:n<=8:=by simp_all [RP]
    refine ⟨fun e=>⟨⟨rfl,rfl,rfl,trivial⟩,_,rfl,?_⟩,fun e=>AB (s':=.zQ [.agg [.sl 4 0 noT],.BM 109 (.pt [.i .i64 (Kz n o),.er 7 329])]) ⟨⟨.inl ⟨rfl,rfl⟩,trivial⟩,rfl,trivial⟩ (q2 e)⟩;have hT:∀j,j<n->En (o j).kind (o j).init=ay:=fun j hj=>by simpa using Ho e j hj
    refine G6 (fn:=qm) (tb:=akK) (by kernel_rfl) (by kernel_rfl) ?_;refine Gv (bY _ _) (aoK _) (hold:=AX) (m:=300) (n:=400) (ts:=[⟨75,Y5,WZ n o (1:Nat) 1 (FQ 0 (fun _=>[]) (Cb (newT o 0))) ay,[]⟩]) ?_;rw[c25 zG W7 n o (0:Nat) (1:Nat) 0 1 noT (FQ 0 (fun _=>[]) (Cb (newT o 0)))];simp only[zN,AY,BL,CB,Gl,fB];refine ⟨fun h=>?_,fun h=>?_⟩
    ·have hlt:0<n:=by simp_all
     refine ⟨by simp;omega,Ho h2 0 hlt,fun hb=>(by simp_all),fun _=>⟨room_le (by omega) (by omega),⟨rfl,rfl,?_,rfl,trivial⟩,_,rfl,?_⟩⟩
     ·rfl
     ·refine akL hn8 (Ho h2) hT (q1 e) (n - 1) 1 _ (by omega) fun j hj=>?_
      obtain rfl:j=0:=by omega
      exact ady
    ·have:n=0:=by simp_all
     subst this;exact AB (s':=.zQ [.agg [.sl 4 0 (BD (newT o))],.v .nilIface]) ⟨⟨.inl ⟨rfl,rfl⟩,trivial⟩,rfl,trivial⟩ (q1 e)
  ·exact h.elim
 ·exact h.elim
end Go.Proofs
namespace Go.Pl
open Go Go.Sx
structure Lk7 where
 key:BK->List UInt8
 join:Nat->(Nat->List Sh)->List UInt8->List UInt8
def sQ(x y:Int)(a:Nat)(h:Nat->List Sh)(b:Nat)(l:Nat->List Sh):BK:=⟨x,y,lst Int a h,lst Pr b l⟩
def Y6(x y:Int)(a:Nat)(h:Nat->List Sh)(b:Nat)(l:Nat->List Sh):Bool:=
 okB Int a h&&okB Pr b l&&BR x&&BR y&&aol a (zJ h)&&as4 b (zJ l)&&decide (a<=100000/\b<=100000)
def abn(n:Nat)(g:Nat->List Sh)(sep:List UInt8):Bool:=okB (List UInt8) n g&&AV n 16&&Hw (CG (lst (List UInt8) n g) sep)
end Go.Pl
namespace Go.Proofs
open Go Go.Sx Go.Pl
def G35(L:Lk7):List Sh->Tree Sh
 |[.agg [.i .i64 x,.i .i64 y,s2,s3]]=>match DI 1 s2,DI 2 s3 with
  |some (a,h),ak (b,l)=>.need (Y6 x y a h b l) (.leaf (.str (L.key (sQ x y a h b l)))) |_,_=>.fail
 |_=>.fail
def G56(L:Lk7):List Sh->Tree Sh
 |[s0,.str sep]=>match DI 1 s0 with
  |some (n,g)=>.need (abn n g sep) (.leaf (.str (L.join n g sep))) |none=>.fail
 |_=>.fail
def F64:List Sh->Tree Sh
 |[.agg [s0]]=>match DI 4 s0 with
  |some (n,g)=>.need (AV n 64) (.leaf (.sl 4 n g)) |none=>.fail
 |_=>.fail
def KO(L:Lk7):Nat->Option (List Sh->Tree Sh)
 |116=>ak (G35 L) |117=>ak (G56 L) |118=>ak F64 |_=>aK
def ag8:List Nat:=[0,1,0,1,1]
def k32:List It:=[bZ 0,bF [1,1,1]]
def as9(j:Nat)(gg:Nat->List Sh):Bool->SV×List (Nat×SB)
 |true=>(.zY,[]) |false=>(.gs 2,[(2,.own 9 1 j gg)])
def ata(n:Nat)(d:Nat->BK)(j:Nat)(gg:Nat->List Sh)(v:Bool):List (Nat×SB):=[(0,.box [(as9 j gg v).1] 236),(1,.box [.sh (.sl 4 n (BD d))] 100)]++(as9 j gg v).2
def atc:List SV:=FT 17 [(3,.ptr 0 0),(7,.fn 144 [.ptr 1 0])]
def L32(n:Nat)(d:Nat->BK):Core:={tm:=atc,hp:=ata n d 0 (fun _=>[]) aC,nx:=2,lim:=L0,tc:=[]}
def Zv(l:Nat):List Fw:=[⟨92,aK,k32,atc,ak (l,ag8,.ready)⟩]
def Uf:List It:=[bF [0,1],bZ 0]
def akM:List It:=bF [0,0,1]::Uf
def awM:Bool->Nat
 |true=>2 |false=>3
def L63(n:Nat)(d:Nat->BK)(l:Nat)(k:Int)(j:Nat)(gg:Nat->List Sh)(v:Bool):Core:=
 {tm:=FT 20 [(0,.val (yv l)),(7,.sh (.sl 4 n (BD d))),(8,.sym .i64 (n:Int)),(9,.sym .i64 k)],hp:=ata n d j gg v,nx:=awM v,lim:=L0,tc:=[]}
theorem a32(A:Prim)(W:Wd)(L:Lk7)(n:Nat)(d:Nat->BK):agI (C7 A W (KO L) zW) FP 300 800 92 aK [.code []] (zL 17 [.agg [.sl 4 n (BD d)]] L0) [] [⟨92,aK,.code ag8::k32,L32 n d,[]⟩]=aB (bJ 0 [aP (aI 4 n (BD d)) (aI 4 n (BD d))]):=by kernel_rfl
theorem t32(A:Prim)(W:Wd)(L:Lk7)(n:Nat)(d:Nat->BK)(l:Nat)(k:Int)(j:Nat)(gg:Nat->List Sh):agI (C7 A W (KO L) zW) FP 300 800 144 aK [.code []] {L32 n d with tm:=(.val (yv l)::[.ptr 1 0])++List.replicate (20 - (1+1)) .any} (Zv l) [⟨144,aK,Uf,L63 n d l k j gg aC,Zv l⟩]=aH (AV n 64) (aB (bJ 0 [jH (kH (mY l) {toList:=[]} {toList:=[]}) (kH (mY l) {toList:=[]} {toList:=[]}),aP (aI 4 n (BD d)) (aI 4 n (BD d)),aj (A.Aa n) (ah n),aj (ah 0) k,aP (aI 4 n (BD d)) (aI 4 n (BD d)),aJ l l])):=by kernel_rfl
noncomputable def ag9(A:Prim)(L:Lk7)(n:Nat)(d:Nat->BK)(k:Int):List AQ:=[aj k k,aj (d (A.toN k)).kind (d (A.toN k)).kind,aj (d (A.toN k)).num (d (A.toN k)).num,aP (aI 1 (len (d (A.toN k)).q) (zH (nth (d (A.toN k)).q))) (aI 1 (len (d (A.toN k)).q) (zH (nth (d (A.toN k)).q))),aP (aI 2 (len (d (A.toN k)).ps) (zH (nth (d (A.toN k)).ps))) (aI 2 (len (d (A.toN k)).ps) (zH (nth (d (A.toN k)).ps))),aP (aI 4 n (BD d)) (aI 4 n (BD d)),aj (d (A.toN k)).kind (d (A.toN k)).kind,aj (d (A.toN k)).num (d (A.toN k)).num,aP (aI 1 (len (d (A.toN k)).q) (zH (nth (d (A.toN k)).q))) (aI 1 (len (d (A.toN k)).q) (zH (nth (d (A.toN k)).q))),aP (aI 2 (len (d (A.toN k)).ps) (zH (nth (d (A.toN k)).ps))) (aI 2 (len (d (A.toN k)).ps) (zH (nth (d (A.toN k)).ps))),aj (d (A.toN k)).kind (d (A.toN k)).kind,aj (d (A.toN k)).num (d (A.toN k)).num,aP (aI 1 (len (d (A.toN k)).q) (zH (nth (d (A.toN k)).q))) (aI 1 (len (d (A.toN k)).q) (zH (nth (d (A.toN k)).q))),aP (aI 2 (len (d (A.toN k)).ps) (zH (nth (d (A.toN k)).ps))) (aI 2 (len (d (A.toN k)).ps) (zH (nth (d (A.toN k)).ps))),aP (bU (L.key (sQ (d (A.toN k)).kind (d (A.toN k)).num (len (d (A.toN k)).q) (zH (nth (d (A.toN k)).q)) (len (d (A.toN k)).ps) (zH (nth (d (A.toN k)).ps))))) (bU (L.key (sQ (d (A.toN k)).kind (d (A.toN k)).num (len (d (A.toN k)).q) (zH (nth (d (A.toN k)).q)) (len (d (A.toN k)).ps) (zH (nth (d (A.toN k)).ps))))),aP (bU (L.key (sQ (d (A.toN k)).kind (d (A.toN k)).num (len (d (A.toN k)).q) (zH (nth (d (A.toN k)).q)) (len (d (A.toN k)).ps) (zH (nth (d (A.toN k)).ps))))) (bU (L.key (sQ (d (A.toN k)).kind (d (A.toN k)).num (len (d (A.toN k)).q) (zH (nth (d (A.toN k)).q)) (len (d (A.toN k)).ps) (zH (nth (d (A.toN k)).ps)))))]
theorem awN(A:Prim)(W:Wd)(L:Lk7)(n:Nat)(d:Nat->BK)(l:Nat)(k k':Int)(j j':Nat)(gg G7:Nat->List Sh):agI (C7 A W (KO L) zW) FP 300 800 144 aK akM (L63 n d l k j gg aC) (Zv l) [⟨144,aK,Uf,L63 n d l k' j' G7 ay,Zv l⟩]=aF (A.lt k (ah n)) (aH (A.inB k n) (aO [aJ l l] (aO [aJ l l] (aH (Y6 (d (A.toN k)).kind (d (A.toN k)).num (len (d (A.toN k)).q) (zH (nth (d (A.toN k)).q)) (len (d (A.toN k)).ps) (zH (nth (d (A.toN k)).ps))) (aH (Y6 (d (A.toN k)).kind (d (A.toN k)).num (len (d (A.toN k)).q) (zH (nth (d (A.toN k)).q)) (len (d (A.toN k)).ps) (zH (nth (d (A.toN k)).ps))) (aO (ag9 A L n d k) (aO (ag9 A L n d k) (aO [aJ l l] (aB (bJ 0 [jH (kH (mY l) {toList:=[]} {toList:=[]}) (kH (mY l) {toList:=[]} {toList:=[]}),aP (aI 4 n (BD d)) (aI 4 n (BD d)),aj (ah n) (ah n),aj (A.add .i64 k (ah 1)) k',aP (aI 4 n (BD d)) (aI 4 n (BD d)),aJ 1 j',aQ 1 (Af [[bU (L.key (sQ (d (A.toN k)).kind (d (A.toN k)).num (len (d (A.toN k)).q) (zH (nth (d (A.toN k)).q)) (len (d (A.toN k)).ps) (zH (nth (d (A.toN k)).ps))))]]) G7,aJ l l])))))))))) (aH (abn 0 (fun _=>[]) [59,32]) (aB (aS (bU (L.join 0 (fun _=>[]) [59,32]))))):=by kernel_rfl
noncomputable def aha(A:Prim)(L:Lk7)(n:Nat)(d:Nat->BK)(k:Int)(j:Nat)(gg:Nat->List Sh):List AQ:=[aj k k,aj (d (A.toN k)).kind (d (A.toN k)).kind,aj (d (A.toN k)).num (d (A.toN k)).num,aP (aI 1 (len (d (A.toN k)).q) (zH (nth (d (A.toN k)).q))) (aI 1 (len (d (A.toN k)).q) (zH (nth (d (A.toN k)).q))),aP (aI 2 (len (d (A.toN k)).ps) (zH (nth (d (A.toN k)).ps))) (aI 2 (len (d (A.toN k)).ps) (zH (nth (d (A.toN k)).ps))),aP (aI 4 n (BD d)) (aI 4 n (BD d)),aj (d (A.toN k)).kind (d (A.toN k)).kind,aj (d (A.toN k)).num (d (A.toN k)).num,aP (aI 1 (len (d (A.toN k)).q) (zH (nth (d (A.toN k)).q))) (aI 1 (len (d (A.toN k)).q) (zH (nth (d (A.toN k)).q))),aP (aI 2 (len (d (A.toN k)).ps) (zH (nth (d (A.toN k)).ps))) (aI 2 (len (d (A.toN k)).ps) (zH (nth (d (A.toN k)).ps))),aj (d (A.toN k)).kind (d (A.toN k)).kind,aj (d (A.toN k)).num (d (A.toN k)).num,aP (aI 1 (len (d (A.toN k)).q) (zH (nth (d (A.toN k)).q))) (aI 1 (len (d (A.toN k)).q) (zH (nth (d (A.toN k)).q))),aP (aI 2 (len (d (A.toN k)).ps) (zH (nth (d (A.toN k)).ps))) (aI 2 (len (d (A.toN k)).ps) (zH (nth (d (A.toN k)).ps))),aP (bU (L.key (sQ (d (A.toN k)).kind (d (A.toN k)).num (len (d (A.toN k)).q) (zH (nth (d (A.toN k)).q)) (len (d (A.toN k)).ps) (zH (nth (d (A.toN k)).ps))))) (bU (L.key (sQ (d (A.toN k)).kind (d (A.toN k)).num (len (d (A.toN k)).q) (zH (nth (d (A.toN k)).q)) (len (d (A.toN k)).ps) (zH (nth (d (A.toN k)).ps))))),aJ (A.addN j 1) (A.addN j 1),aZ (A.snoc gg j (Af [[bU (L.key (sQ (d (A.toN k)).kind (d (A.toN k)).num (len (d (A.toN k)).q) (zH (nth (d (A.toN k)).q)) (len (d (A.toN k)).ps) (zH (nth (d (A.toN k)).ps))))]])) (A.snoc gg j (Af [[bU (L.key (sQ (d (A.toN k)).kind (d (A.toN k)).num (len (d (A.toN k)).q) (zH (nth (d (A.toN k)).q)) (len (d (A.toN k)).ps) (zH (nth (d (A.toN k)).ps))))]]))]
theorem awO(A:Prim)(W:Wd)(L:Lk7)(n:Nat)(d:Nat->BK)(l:Nat)(k k':Int)(j j':Nat)(gg G7:Nat->List Sh):agI (C7 A W (KO L) zW) FP 300 800 144 aK akM (L63 n d l k j gg ay) (Zv l) [⟨144,aK,Uf,L63 n d l k' j' G7 ay,Zv l⟩]=aF (A.lt k (ah n)) (aH (A.inB k n) (aO [aJ l l] (aO [aJ l l] (aH (Y6 (d (A.toN k)).kind (d (A.toN k)).num (len (d (A.toN k)).q) (zH (nth (d (A.toN k)).q)) (len (d (A.toN k)).ps) (zH (nth (d (A.toN k)).ps))) (aH (A.room (A.addN j 1) 16) (aH (Y6 (d (A.toN k)).kind (d (A.toN k)).num (len (d (A.toN k)).q) (zH (nth (d (A.toN k)).q)) (len (d (A.toN k)).ps) (zH (nth (d (A.toN k)).ps))) (aH (A.room (A.addN j 1) 16) (aH (A.room (A.addN j 1) 16) (aO (aha A L n d k j gg) (aO (aha A L n d k j gg) (aO [aJ l l] (aB (bJ 0 [jH (kH (mY l) {toList:=[]} {toList:=[]}) (kH (mY l) {toList:=[]} {toList:=[]}),aP (aI 4 n (BD d)) (aI 4 n (BD d)),aj (ah n) (ah n),aj (A.add .i64 k (ah 1)) k',aP (aI 4 n (BD d)) (aI 4 n (BD d)),aJ (A.addN j 1) j',aQ (A.addN j 1) (A.snoc gg j (Af [[bU (L.key (sQ (d (A.toN k)).kind (d (A.toN k)).num (len (d (A.toN k)).q) (zH (nth (d (A.toN k)).q)) (len (d (A.toN k)).ps) (zH (nth (d (A.toN k)).ps))))]])) G7,aJ l l]))))))))))))) (aH (abn j gg [59,32]) (aB (aS (bU (L.join j gg [59,32]))))):=by kernel_rfl
end Go.Proofs
