/- Own work. -/
import Derived.Test.YthehnhaoiijkhaaGreatDoorO07
import Derived.Shelf.Spec.SlicesInsert
import Derived.Lib.AppendZerosOnto
import Derived.Laws.NewBlocks
open Int (ofNat)
open And renaming intro->ba
open Array renaming getElem?_eq_some_iff->aM,size_append->fB
open Bool renaming true->aj,false->ag,and_eq_true->al
open Go renaming sizeOf->kl,heap_alloc_old->j0
open Go.Act renaming eval->iD,put->jD
open Go.Addr renaming add_lit->bF
open Go.BinOp renaming shr->gN
open Go.Builtin renaming copy_->dh,firstCells->cM,zeroCells->cF,append_->bK
open Go.Extern.SlicesOverlaps renaming overlaps->iC
open Go.Fn renaming yield->fN
open Go.IntKind renaming i64->aA,wrap_i64->cx,u64->eo
open Go.Lib renaming wpList_append_run->dn,run_append_grow_zeros->gM
open Go.Proofs.C7 renaming ok->aS,Gh->dZ
open Go.Proofs.QC renaming ok->l8
open Go.Proofs.Tryz renaming prog->ah,underlying209->b8,mixed_->iN,func182->fh,ntmps182->eV,underlying3->eG,f204->jE,f181->l6,tys->eO,func208->ln,ntmps208->kz,fnsAre_->cG,entersB_->c8,f184->l7,f179->l9,f186->ma,f183->mb,f185->mc,f102->fb,f151->md,f152->me,f153->mh,f173->mj,f174->ml,f175->mn,f176->mq,f178->mr,f120->mt,f75->ii
open Go.Sx renaming Enters->kA
open Go.Sx.oC renaming sh->av,int->ac,nat->ap,Ez->aF,val->dG,get->ax
open Go.Sx.rQ renaming at_->aK,ret->ay
open Go.Sx.It renaming code->aH,inBlock->aW
open Go.Sx.Sh renaming sl->ao,mV->aQ,i->az,agg->aN,os->cJ,er->aC,v->cT,str->aR
open Go.Sx.Tree renaming leaf->ai,node->ak,need->am,fail->aY,must->aw
open Go.Value renaming nilIface->aI,func->ed
open Go.World renaming shape?->ky,frozen?->km
open Int renaming ofNat->ab,negSucc->bI,toNat_natCast->bR
open List renaming getElem?_take->bx,mem_of_mem_drop->dA,append_assoc->cQ,size_toArray->fT,getElem_cons_zero->gX,takeWhile->eH,length_cons->cZ,pairwise_iff_getElem->cS,range->aE,takeWhile_prefix->hY,getElem?_append_left->gG,length_nil->gF
open Nat renaming min->gv,zero_le->bZ,le_refl->aV,le_succ->jT,beq->bA
open Option renaming some->ae,none->aq
namespace Go.Sx
open Go.RowKit Go.Lib
section
variable{P:Program}
theorem HY(w:World)(dT sT ty elem:TypeId)(sz g o dLen dCap:Nat)(a:Addr)(sLen sCap:Nat)(cur:Array Value)(t:TypeId)(cs:List Value)
  (hu:P.underlying dT=ae (.slice elem)) (hs:(P.info? elem).map (·.size)=ae sz)
  (hg:w.heap[g]?=ae (.cells cur t (0,0))) (hn:cs.length=gv sLen dLen*sz)
  (hsrc:∀j v,cs[j]?=ae v->w.cell? (a.add j)=ae v) (hfit:o+cs.length<=cur.size) (h1:∀v∈cs,v.oneCell'=aj) :
  (dh #[dT,sT] ty #[.slice (ae ⟨g,o,aq⟩) dLen dCap,.slice (ae a) sLen sCap]).run P w =
   .ok (goInt (gv sLen dLen)) (w.setRow g (cur.toList.take o++cs++cur.toList.drop (o+cs.length)).toArray):=by
 have hl:=run_loadCells_list (P:=P) w a cs hsrc;have hst:=run_storeCells_at P g o t cs 0 cur w hg (by omega) h1;cases hq:P.info? elem with
 |none=>grind |some i=>
  simp_all [dh,run_underlying,Builtin.lenOf,cM,sizeOf,typeInfo]
end
end Go.Sx
namespace Go.Proofs
open Go Go.Sx Go.RowKit Go.Lib
theorem info116:∃(i:TypeInfo) (z:Value),ah.info? 272=ae i/\i.size=2/\i.bytes=16/\i.zero=ae z/\z.cells.size=2/\∃cs,z=.agg cs:=by
 obtain ⟨inf,z,h1,h2,h3,h4,_,h6,h7,_⟩:=((aS noSpec ni).ty 272 ⟨.struct [(0,1,ag),(1,1,ag)],2,16,[.int .i64 0,.int .i64 0]⟩ (by kernel_rfl)).info;simp_all
set_option maxHeartbeats 4000000 in
set_option maxRecDepth 100000 in
theorem aep(w:World)(g n c i vb vc:Nat)(cur:Array Value)(cs vs:List Value)(hg:w.heap[g]?=ae (.cells cur 272 (0,0)))(II:Array Value)(hgb:w.heap[vb]?=ae (.cells II 272 (0,0)))
  (hi:i<n) (hroom:n+1<=c) (hc63:c<=9223372036854775807) (hvb:vb≠g) (hcap:cur.size=c*2) (hcs:cur.toList.take (n*2)=cs) (hvs:II.toList.take 2=vs) (hvl:vs.length=2) (hv2:2<=II.size)
  (h1c:∀v∈cs,v.oneCell'=aj) (h1v:∀v∈vs,v.oneCell'=aj) :
  Calls ah 182 #[.slice (ae ⟨g,0,aq⟩) n c,.int .i64 i,.slice (ae ⟨vb,0,aq⟩) 1 vc] w fun e w'=>
   e=.returned (.slice (ae ⟨g,0,aq⟩) (n+1) c)/\∃cur',w'.heap[g]?=ae (.cells cur' 272 (0,0))/\cur'.size=c*2/\cur'.toList.take ((n+1)*2)=cs.take (i*2)++vs++cs.drop (i*2)/\w.grownBy w' (ae g):=by
 obtain ⟨inf,z,i1,i2,i3,i4,i5,_⟩:=info116;have hsz:(ah.info? 272).map (·.size)=ae 2:=by rfl
 have hse:∀w,(kl 272).run ah w=.ok 2 w:=fun w=>by rfl
 have hov:∀lb cb,(callFunc 206 #[.slice (ae ⟨vb,0,aq⟩) 1 vc,.slice (ae ⟨g,(i+1)*2,aq⟩) lb cb]).run ah w=.ok (.value (.bool ag)) w:=fun lb cb=>by
  rw[run_callFunc_extern Tryz.func206 (by kernel_rfl) (by kernel_rfl) (by kernel_rfl) (e:=iC #[209,209] #[4]) (by kernel_rfl),
   Lib.run_overlaps_apart w 209 4 272 b8 2 hse ⟨vb,0,aq⟩ ⟨g,(i+1)*2,aq⟩ 1 vc lb cb hvb 272 272 II.size cur.size (by simp[ky,hgb]) (by simp[ky,hg]) (by omega) (by simp[km,hgb]) (by simp[km,hgb])]
  rfl
 have hw1:aA.wrap ((i:Int)+1)=(i:Int)+1:=by rw[cx];omega
 have hw2:aA.wrap ((n:Int)+1)=(n:Int)+1:=by rw[cx];omega
 have hcl:cs.length=n*2:=by grind
 have hdl:(cs.drop (i*2)).length=(n - i)*2:=by grind
 obtain ⟨R1,hR1⟩:∃R1,R1=(cur.toList.take ((i+1)*2)++cs.drop (i*2)++cur.toList.drop ((i+1)*2+(cs.drop (i*2)).length)).toArray:=⟨_,rfl⟩;have arG:R1.size=c*2:=by grind
 obtain ⟨R2,hR2⟩:∃R2,R2=(R1.toList.take (i*2)++vs++R1.toList.drop (i*2+vs.length)).toArray:=⟨_,rfl⟩;have hcur:∀j v,cs[j]?=ae v->cur.toList[j]?=ae v:=fun j v hj=>by
  rw[<-hcs,bx] at hj;split at hj
  ·exact hj
  ·cases hj
 have hcp1:∀(W:World),W.heap[g]?=ae (.cells cur 272 (0,0))->∀ty dc sc,(dh #[209,209] ty #[.slice (ae ⟨g,(i+1)*2,aq⟩) (n - i) dc,.slice (ae ⟨g,i*2,aq⟩) (n+1 - i) sc]).run ah W=.ok (goInt ((n - i:Nat):Int)) (W.setRow g R1):=fun W hW ty dc sc=>by
  have hmin:gv (n+1 - i) (n - i)=n - i:=by grind
  have:=HY W 209 209 ty 272 2 g ((i+1)*2) (n - i) dc ⟨g,i*2,aq⟩ (n+1 - i) sc cur 272 (cs.drop (i*2)) b8 hsz hW (by omega) (fun j v hj=>by
    grind [bF,cell_of_row]) (by omega) (fun v hv=>h1c v (dA hv))
  simp_all
 have hcp2:∀(W:World),W.heap[g]?=ae (.cells R1 272 (0,0))->W.heap[vb]?=ae (.cells II 272 (0,0))->∀ty dc,(dh #[209,209] ty #[.slice (ae ⟨g,i*2,aq⟩) (n+1 - i) dc,.slice (ae ⟨vb,0,aq⟩) 1 vc]).run ah W=.ok (goInt 1) (W.setRow g R2):=fun W hW hW2 ty dc=>by
  have hmin:gv 1 (n+1 - i)=1:=by grind
  have:=HY W 209 209 ty 272 2 g (i*2) (n+1 - i) dc ⟨vb,0,aq⟩ 1 vc R1 272 vs b8 hsz hW (by omega) (fun j v hj=>by
    grind [bF,cell_of_row]) (by omega) h1v
  simp_all
 have hfin:R2.size=c*2/\R2.toList.take ((n+1)*2)=cs.take (i*2)++vs++cs.drop (i*2):=by
  have hl1:R1.toList.length=c*2:=by omega
  refine ⟨by grind,?_⟩;have ht1:R1.toList.take (i*2)=cs.take (i*2):=by
   grind
  have hd1:R1.toList.drop (i*2+2)=cs.drop (i*2)++cur.toList.drop ((n+1)*2):=by
   rw[hR1];have e1:(cur.toList.take ((i+1)*2)).length=i*2+2:=by grind
   simp only[cQ];have e3:List.drop (i*2+2) (cur.toList.take ((i+1)*2)++(cs.drop (i*2)++cur.toList.drop ((i+1)*2+(cs.drop (i*2)).length)))=cs.drop (i*2)++cur.toList.drop ((i+1)*2+(cs.drop (i*2)).length):=by
    simp_all
   rw[e3,hdl];congr 2;omega
  rw[hR2,hvl,hd1,ht1];simp only[<-cQ];have e2:(cs.take (i*2)++vs++cs.drop (i*2)).length=(n+1)*2:=by
   grind
  grind
 have hgl:g<w.heap.size:=(aM.1 hg).1;have mixed:ah.follows .mixedOrders=aj:=iN;have hb1:(0:Int)<=(i:Int)+1:=by omega
 have hin:i<=n:=by omega
 have htn:((i:Int)+1).toNat=i+1:=by omega
 have hb2:¬(c=i+1):=by omega
 have hb3:(i:Int)<=(n:Int)+1:=by omega
 have hb4:¬(c=i):=by omega
 clear hcs hvs h1c h1v hcur hR1 hR2;have hc2:=hcp2 (w.drew.setRow g R1) (setRow_heap w.drew g cur R1 272 (0,0) hg) (by rw[setRow_other _ _ _ _ hvb];exact hgb) 3 (c - i);go_enter fh,eV
 go_wp2_with (simp only[hov])
 go_region_law_o (refine step_copy_runI rfl (.tmp 73) (.tmp 76) 209 209 rfl (.slice (ae ⟨g,(i+1)*2,aq⟩) (n - i) (c - (i+1))) (.slice (ae ⟨g,i*2,aq⟩) (n+1 - i) (c - i)) (by simp[iD,jD]) (by simp[iD,jD]) (hcp1 w.drew hg 3 (c - (i+1)) (c - i)) ?_)
 go_wp2
 go_ret
 refine ⟨rfl,R2,setRow_heap _ g R1 R2 272 (0,0) (setRow_heap w.drew g cur R1 272 (0,0) hg),hfin.1,hfin.2,⟨rfl,rfl,rfl,by simp,fun k hk hne=>?_⟩⟩;have hkg:k≠g:=fun e=>hne (by rw[e]);rw[setRow_other _ _ _ _ hkg,setRow_other _ _ _ _ hkg];rfl
set_option maxHeartbeats 4000000 in
set_option maxRecDepth 100000 in
theorem ajN(w:World)(v x:Value)(n vc:Nat)(xs news:List Value)(vb:Nat)(hv:w.ownsRow 0 272 2 v n xs)(hx:x=.slice (ae ⟨vb,0,aq⟩) 1 vc)(hnews:∀j u,news[j]?=ae u->w.cell? ((⟨vb,0,aq⟩:Addr).add j)=ae u)(hl:news.length=2)(h1:∀u∈news,u.oneCell'=aj)
  (h63:n+1<=maxLen) (hbytes:(n+1)*16<=140737488355328) :
  Calls ah 182 #[v,.int .i64 n,x] w fun e w'=>∃v',e=.returned v'/\w'.ownsRow 0 272 2 v' (n+1) (xs++news)/\w.grownBy w' (mY v)/\∀b,mY v'=ae b->mY v=ae b\/w.heap.size<=b:=by
 obtain ⟨inf,z,i1,i2,i3,i4,i5,_⟩:=info116;obtain ⟨v',w',hr,h2,h3,h4⟩:=Je (P:=ah) (w:=w) 209 209 272 inf z 2 16 b8 i1 i4 i2 i3 i5 (by decide) v n xs hv ⟨vb,0,aq⟩ 1 vc news (by rw[hl]) hnews h1 h63 hbytes;subst hx;have hsmall:n+1<=9223372036854775807:=by omega
 have arH:v=.slice aq 0 0/\n=0\/∃g c,v=.slice (ae ⟨g,0,aq⟩) n c/\n<=c/\c<=9223372036854775807:=by
  (rcases hv.2 with ⟨e1,e2⟩ |⟨g,c,cur,e1,_,_,e2,e3,_⟩)<;>grind [maxLen]
 clear hv hnews h1;rcases arH with ⟨rfl,rfl⟩ |⟨g,c,rfl,hnc,hc63⟩
 ·go_enter fh,eV
  go_wp2_with (at_builtin;refine dn _ rfl _ _ _ _ rfl _ _ rfl rfl _ _ hr ?_)
  go_ret
  simp_all
 ·go_enter fh,eV
  go_wp2_with (at_builtin;refine dn _ rfl _ _ _ _ rfl _ _ rfl rfl _ _ hr ?_)
  all_goals
   go_ret
   simp_all
set_option maxHeartbeats 4000000 in
set_option maxRecDepth 100000 in
theorem ahp(w:World)(g n c i vb vc:Nat)(cur:Array Value)(cs vs:List Value)(hg:w.heap[g]?=ae (.cells cur 272 (0,0)))(II:Array Value)(hgb:w.heap[vb]?=ae (.cells II 272 (0,0)))
  (hi:i<n) (hnc:n<=c) (hroom:c<n+1) (hn63:n+1<=maxLen) (hbig:(n+1)*16<=140737488355328) (hcap:cur.size=c*2) (hcs:cur.toList.take (n*2)=cs) (hvs:II.toList.take 2=vs) (hvl:vs.length=2)
  (h1c:∀v∈cs,v.oneCell'=aj) (h1v:∀v∈vs,v.oneCell'=aj) :
  Calls ah 182 #[.slice (ae ⟨g,0,aq⟩) n c,.int .i64 i,.slice (ae ⟨vb,0,aq⟩) 1 vc] w fun e w'=>
   ∃G cur',e=.returned (.slice (ae ⟨w.heap.size,0,aq⟩) (n+1) G)/\w'.heap[w.heap.size]?=ae (.cells cur' 272 (0,0))/\n+1<=G/\G<=maxLen/\cur'.size=G*2/\cur'.toList.take ((n+1)*2)=cs.take (i*2)++vs++cs.drop (i*2)/\w.grownBy w' (ae g):=by
 obtain ⟨inf,z,i1,i2,i3,i4,i5,zs,hz⟩:=info116;have hsz:(ah.info? 272).map (·.size)=ae 2:=by rfl
 have hse:∀w,(kl 272).run ah w=.ok 2 w:=fun w=>by rfl
 have hsmall:n+1<=9223372036854775807:=by omega
 have hw1:aA.wrap ((i:Int)+1)=(i:Int)+1:=by rw[cx];omega
 have hw2:aA.wrap ((n:Int)+1)=(n:Int)+1:=by rw[cx];omega
 have hw3:aA.wrap ((n:Int)+1 - (i:Int))=(n:Int)+1 - (i:Int):=by rw[cx];omega
 have hcl:cs.length=n*2:=by grind
 have hdl:(cs.drop (i*2)).length=(n - i)*2:=by grind
 have htl:(cs.take (i*2)).length=i*2:=by grind
 have hcur:∀j v,cs[j]?=ae v->cur.toList[j]?=ae v:=fun j v hj=>by
  rw[<-hcs,bx] at hj;split at hj
  ·exact hj
  ·cases hj
 have hgl:g<w.heap.size:=(aM.1 hg).1;have avJ:vb<w.heap.size:=(aM.1 hgb).1;have hold:(cM inf.size i (.slice (ae ⟨g,0,aq⟩) i c)).run ah w.drew=.ok (cs.take (i*2)).toArray w.drew:=by
  rw[i2];exact run_firstCells_some w.drew 2 i ⟨g,0,aq⟩ i c (cs.take (i*2)) htl (fun j v hj=>by
   rw[bF,cell_of_row w.drew g _ cur 272 (0,0) hg];grind)
 obtain ⟨G,hG⟩:∃G,G=grownCap w (n+1) c 272:=⟨_,rfl⟩;obtain ⟨ROW,hROW⟩:∃ROW:Array Value,ROW=(cs.take (i*2)).toArray++cF z.cells (n+1 - i)++cF z.cells (G - (n+1)):=⟨_,rfl⟩;have hGn:n+1<=G:=by simp_all [grownCap_ge]
 have hGm:G<=maxLen:=by simp_all [grownCap_le_maxLen]
 have hG63:G<=9223372036854775807:=by assumption
 have hrz:∀ty,(bK #[209,3] ty #[.slice (ae ⟨g,0,aq⟩) i c,.int .i64 ((n:Int)+1 - (i:Int))]).run ah w =
   .ok (.slice (ae ⟨w.heap.size,0,aq⟩) (n+1) G) (w.drew.alloc (.cells ROW 272)):=fun ty=>by
  have h:=gM w 209 3 ty 272 inf z .i64 .i64 b8 eG i1 i4 (ae ⟨g,0,aq⟩) i c (cs.take (i*2)) hold (n+1 - i) (by omega) (by omega) (by omega) (by omega) (by grind) (by rw[i3,show i+(n+1 - i)=n+1 by omega];simp_all [growslice_fits]);grind
 have hRs:ROW.size=G*2:=by
  grind [fB,fT,size_zeroCells]
 obtain ⟨R1,hR1⟩:∃R1,R1=(ROW.toList.take (i*2)++vs++ROW.toList.drop (i*2+vs.length)).toArray:=⟨_,rfl⟩;have arG:R1.size=G*2:=by grind
 obtain ⟨R2,hR2⟩:∃R2,R2=(R1.toList.take ((i+1)*2)++cs.drop (i*2)++R1.toList.drop ((i+1)*2+(cs.drop (i*2)).length)).toArray:=⟨_,rfl⟩;obtain ⟨W1,hW1⟩:∃W1,W1=w.drew.alloc (.cells ROW 272):=⟨_,rfl⟩;rw[<-hW1] at hrz;have aoq:W1.heap[w.heap.size]?=ae (.cells ROW 272 (0,0)):=by rw[hW1];exact heap_alloc_new w.drew _
 have avK:∀k,k<w.heap.size->W1.heap[k]?=w.heap[k]?:=fun k hk=>by rw[hW1];first|exact j0 w.drew _ k hk|exact heap_alloc_old w.drew _ hk
 have hcp1:(dh #[209,209] 3 #[.slice (ae ⟨w.heap.size,i*2,aq⟩) (n+1 - i) (G - i),.slice (ae ⟨vb,0,aq⟩) 1 vc]).run ah W1=.ok (goInt 1) (W1.setRow w.heap.size R1):=by
  have hmin:gv 1 (n+1 - i)=1:=by grind
  have:=HY W1 209 209 3 272 2 w.heap.size (i*2) (n+1 - i) (G - i) ⟨vb,0,aq⟩ 1 vc ROW 272 vs b8 hsz aoq (by omega) (fun j v hj=>by
    grind [bF,cell_of_row]) (by omega) h1v
  simp_all
 have aor:(W1.setRow w.heap.size R1).drew.heap[w.heap.size]?=ae (.cells R1 272 (0,0)):=setRow_heap W1 w.heap.size ROW R1 272 (0,0) aoq;have hcp2:(dh #[209,209] 3 #[.slice (ae ⟨w.heap.size,(i+1)*2,aq⟩) (n - i) (G - (i+1)),.slice (ae ⟨g,i*2,aq⟩) (n - i) (c - i)]).run ah (W1.setRow w.heap.size R1).drew=.ok (goInt ((n - i:Nat):Int)) ((W1.setRow w.heap.size R1).drew.setRow w.heap.size R2):=by
  have hmin:gv (n - i) (n - i)=n - i:=Nat.min_self _;have:=HY (W1.setRow w.heap.size R1).drew 209 209 3 272 2 w.heap.size ((i+1)*2) (n - i) (G - (i+1)) ⟨g,i*2,aq⟩ (n - i) (c - i) R1 272 (cs.drop (i*2)) b8 hsz aor (by omega) (fun j v hj=>by
    rw[bF,cell_of_row (W1.setRow w.heap.size R1).drew g _ cur 272 (0,0) (by
     show (W1.setRow w.heap.size R1).heap[g]?=_;grind [setRow_other])]
    simp_all) (by omega) (fun v hv=>h1c v (dA hv))
  simp_all
 have hfin:R2.size=G*2/\R2.toList.take ((n+1)*2)=cs.take (i*2)++vs++cs.drop (i*2):=by
  have hl1:R1.toList.length=G*2:=by omega
  refine ⟨by grind,?_⟩;grind [Array.toList_append,cQ,List.take_left',List.length_append,List.take_left]
 have mixed:ah.follows .mixedOrders=aj:=iN;have hb1:(0:Int)<=(i:Int)+1:=by omega
 have hin:i<=n:=by omega
 have htn:((i:Int)+1).toNat=i+1:=by omega
 have hb2:¬(c=i+1)\/c=i+1:=by omega
 have hb3:(i:Int)<=(n:Int)+1:=by omega
 have hb4:¬(c=i):=by omega
 have hGi:¬(G=i):=by omega
 have hGim:¬(G=i+1):=by omega
 have hz1:¬((i:Int)=(n:Int)):=by omega
 have hz3:(c:Int)<(n:Int)+1:=by omega
 have hr1:=hrz 209;have hsz1:W1.heap.size=w.heap.size+1:=by rw[hW1];simp
 have hos:W1.os=w.os/\W1.tape=w.tape/\W1.output=w.output:=by rw[hW1];exact ⟨rfl,rfl,rfl⟩
 clear hcs hvs h1c h1v hcur hR1 hR2 hROW hG hold hrz hb2 hW1;go_enter fh,eV
 go_wp2_with (first
  |(at_builtin;refine dn _ rfl _ _ _ _ rfl _ _ rfl rfl _ _ hr1 ?_))
 go_region_law_o (refine step_copy_runI rfl (.tmp 50) (.tmp 53) 209 209 rfl (.slice (ae ⟨w.heap.size,(i+1)*2,aq⟩) (n - i) (G - (i+1))) (.slice (ae ⟨g,i*2,aq⟩) (n - i) (c - i)) (by simp[iD,jD]) (by simp[iD,jD]) hcp2 ?_)
 go_wp2
 go_ret
 refine ⟨G,R2,rfl,setRow_heap _ w.heap.size R1 R2 272 (0,0) aor,hGn,hGm,hfin.1,hfin.2,⟨hos.1,hos.2.1,hos.2.2,?_,fun k hk hne=>?_⟩⟩
 ·simp_all
 ·have hkg:k≠w.heap.size:=by omega
  rw[setRow_other _ _ _ _ hkg];show (W1.setRow w.heap.size R1).heap[k]?=_;simp_all [setRow_other]
theorem anl:adZ ah 182 272 2 16:=by
 intro w v x n i xs news hv hx hne h1 h1n hi h63 hbytes;have hl:news.length=2:=by rw[hx.1]
 rcases hx.2 with ⟨_,h0⟩ |⟨vb,vc,II,ex,_,hgb,hvc,hvm,hvs,hvt⟩
 ·omega
 have hb2:mY x=ae vb:=by rw[ex];rfl
 have hcell:∀j u,news[j]?=ae u->w.cell? ((⟨vb,0,aq⟩:Addr).add j)=ae u:=fun j u hj=>by
  grind [bF,cell_of_row]
 by_cases hin:i=n
 ·subst hin
  refine (ajN w v x i vc xs news vb hv ex hcell hl h1n h63 hbytes).mono fun e w' ⟨v',e1,e2,e3,e4⟩=>⟨v',e1,?_,e3,e4⟩;rw[List.take_of_length_le (by rw[hv.1];omega),List.drop_of_length_le (by rw[hv.1];omega),List.append_nil];exact e2
 rcases hv.2 with ⟨_,h0⟩ |⟨g,c,cur,ev,_,hg,hnc,hcm,hcs,hct⟩
 ·omega
 have hb:mY v=ae g:=by rw[ev];rfl
 have hvg:vb≠g:=fun e=>hne g hb (by rw[hb2,e]);have hlen:(xs.take (i*2)++news++xs.drop (i*2)).length=(n+1)*2:=by
  grind
 have aos:II.toList.take 2=news:=by omega
 by_cases hroom:n+1<=c
 ·rw[hb,ev,ex]
  refine (aep w g n c i vb vc cur xs news hg II hgb (by omega) hroom (by assumption) hvg hcs hct aos hl (by omega) h1 h1n).mono fun e w' ⟨e1,cur',e2,e3,e4,e5⟩=>⟨_,e1,⟨hlen,.inr ⟨g,c,cur',rfl,bZ _,e2,hroom,hcm,e3,e4⟩⟩,e5,fun b hb'=>.inl hb'⟩
 ·rw[hb,ev,ex]
  refine (ahp w g n c i vb vc cur xs news hg II hgb (by omega) hnc (by omega) h63 hbytes hcs hct aos hl h1 h1n).mono fun e w' ⟨G,cur',e1,e2,e3,e4,e5,e6,e7⟩=>⟨_,e1,⟨hlen,.inr ⟨w.heap.size,G,cur',rfl,bZ _,e2,e3,e4,e5,e6⟩⟩,e7,fun b hb'=>.inr (by simp_all [mY])⟩
end Go.Proofs
namespace Go.Pl
open Go Go.Sx
structure Lm7 where
 pos:Nat->(Nat->List Sh)->Int->Nat
 has:Nat->(Nat->List Sh)->Int->Bool
 wf:Nat->(Nat->List Sh)->Int->Bool
end Go.Pl
namespace Go.Proofs
open Go Go.Sx Go.Pl
def JB:List It:=[aH [0,0,1,1,1],aW 0,aH [1,1,1,1]]
def ajO:List It:=aH [0,0,0,1,1,1]::JB
def JC(n:Nat)(p:Nat->Pr)(key i j:Int):Core:={tm:=vZ 49 [(0,.sh (.sl 2 n (mF p))),(1,.sym .i64 key),(2,.fn 205 []),(8,.sym .i64 (n:Int)),(9,.sym .i64 i),(10,.sym .i64 j)],hp:=[],nx:=0,lim:=L0,tc:=[]}
theorem arI(A:Prim)(W:Wd)(n:Nat)(p:Nat->Pr)(key i' j':Int):nZ (C7 A W noSpec ny) oG 300 400 204 [.code []] (mM 49 [.sl 2 n (mF p),.i .i64 key,.fn 205 []] L0) [] [⟨204,JB,JC n p key i' j',[]⟩]=ai (aK 0 [av (ao 2 n (mF p)) (ao 2 n (mF p)),ac key key,ac (A.nH n) (ab n),ac (ab 0) i',ac (A.nH n) j']):=by kernel_rfl
theorem ajP(A:Prim)(W:Wd)(n:Nat)(p:Nat->Pr)(key i j i' j':Int):nZ (C7 A W noSpec ny) oG 300 400 204 ajO (JC n p key i j) [] [⟨204,JB,JC n p key i' j',[]⟩]=ak (A.lt i j) (am (A.inB (A.conv .i64 (A.bin gN eo (A.conv .u64 (A.add .i64 i j)) (ab 1))) n) (ak (A.lt (A.sub .i64 (p (A.toN (A.conv .i64 (A.bin gN eo (A.conv .u64 (A.add .i64 i j)) (ab 1))))).key key) (ab 0)) (ai (aK 0 [av (ao 2 n (mF p)) (ao 2 n (mF p)),ac key key,ac (ab n) (ab n),ac (A.add .i64 (A.conv .i64 (A.bin gN eo (A.conv .u64 (A.add .i64 i j)) (ab 1))) (ab 1)) i',ac j j'])) (ai (aK 0 [av (ao 2 n (mF p)) (ao 2 n (mF p)),ac key key,ac (ab n) (ab n),ac i i',ac (A.conv .i64 (A.bin gN eo (A.conv .u64 (A.add .i64 i j)) (ab 1))) j'])))) (ak (A.lt i (ab n)) (am (A.inB i n) (ai (ay (aQ [az .i64 i,Sh.b (A.eq (A.sub .i64 (p (A.toN i)).key key) (ab 0))])))) (ai (ay (aQ [az .i64 i,Sh.b ag])))):=by kernel_rfl
end Go.Proofs
namespace Go.Pl
open Go Go.Sx Go.Proofs
def H6(ps:List Pr):Bool:=decide (ps.Pairwise fun a b=>a.key<b.key)&&ps.all fun p=>decide (0<=p.key/\p.key<=1000)
def sO(key:Int):Bool:=decide (0<=key/\key<=1000)
def pF(ps:List Pr)(key:Int):Nat:=(ps.takeWhile fun p=>decide (p.key<key)).length
def tN(ps:List Pr)(key:Int):Bool:=ps.any fun p=>p.key==key
theorem ab9:∀{ps:List Pr} {key:Int} {k:Nat},k<=ps.length->(∀t (h:t<ps.length),t<k->ps[t].key<key)->(∀t (h:t<ps.length),k<=t->key<=ps[t].key)->pF ps key=k
 |[],key,k,hk,_,_=>by simp at hk;subst hk;rfl |a::ps,key,0,_,_,h2=>by
  have:=h2 0 (by simp) (aV _);grind [decide,decide_eq_false,pF,eH]
 |a::ps,key,k+1,hk,h1,h2=>by
  have ha:=h1 0 (by simp) (by omega);simp only[gX] at ha;have hd:decide (a.key<key)=aj:=decide_eq_true ha;have ih:=ab9 (ps:=ps) (key:=key) (k:=k) (by grind) (fun t ht hlt=>h1 (t+1) (by simp;omega) (by omega)) (fun t ht hle=>h2 (t+1) (by simp;omega) (by omega));simp_all [pF,eH,cZ]
theorem acd{ps:List Pr}{key:Int}{k:Nat}(hs:ps.Pairwise fun a b=>a.key<b.key)(h1:∀t (h:t<ps.length),t<k->ps[t].key<key)(h2:∀t (h:t<ps.length),k<=t->key<=ps[t].key):
  tN ps key=aj↔∃h:k<ps.length,ps[k].key=key:=by
 unfold tN;rw[List.any_eq_true];constructor
 ·rintro ⟨x,hx,he⟩
  obtain ⟨t,ht,rfl⟩:=List.getElem_of_mem hx;grind [cS]
 grind
theorem wQ{ps:List Pr}(h:H6 ps=aj):ps.Pairwise fun a b=>a.key<b.key:=by
 simp_all [H6,al,of_decide_eq_true]
theorem ajQ{ps:List Pr}(h:H6 ps=aj){t:Nat}(ht:t<ps.length):0<=ps[t].key/\ps[t].key<=1000:=by
 simp_all [H6,al,List.all_eq_true,List.getElem_mem,of_decide_eq_true]
theorem anm{i j:Nat}(h:i+j<=1000000):mD.conv .i64 (mD.bin .shr .u64 (mD.conv .u64 (mD.add .i64 i j)) (ab 1))=(((i+j) / 2:Nat):Int):=by
 have e1:mD.add .i64 i j=((i+j:Nat):Int):=by grind [qG,pI]
 rw[e1];have e2:mD.conv .u64 ((i+j:Nat):Int)=((i+j:Nat):Int):=by
  show eo.wrap _=_;rw[IntKind.wrap_u64];omega
 rw[e2];have e3:mD.bin .shr .u64 ((i+j:Nat):Int) (ab 1)=(((i+j) / 2:Nat):Int):=by
  show Int.fdiv ((i+j:Nat):Int) (2^(min 1 64))=_;grind
 rw[e3];show aA.wrap _=_;grind [pI]
end Go.Pl
namespace Go.Proofs
open Go Go.Sx Go.Pl
def ajR:List Sh->Tree Sh
 |[.sl 2 n g,.i .i64 key,.fn 205 []]=>.need (okB Pr n g) (.need (decide (n<=100000)) (.need (H6 (lst Pr n g)) (.need (sO key) (.leaf (.mV [.i .i64 (pF (lst Pr n g) key),.b (tN (lst Pr n g) key)]))))) |_=>.fail
theorem VW{H0:Mem}{w0:World}{n:Nat}{p:Nat->Pr}{key:Int}{φ:Sh->Prop}(hn:n<=100000)(hs:H6 ((aE n).map p)=aj)(hk:sO key=aj)
  (hφ:φ (.mV [.i .i64 (pF ((aE n).map p) key),.b (tN ((aE n).map p) key)])) :
  ∀m i j,j - i<=m->i<=j->j<=n->(∀t,t<i->(p t).key<key)->(∀t,t<n->j<=t->key<=(p t).key)->nX ah (C7 mD W7 noSpec ny) (K0 H0 w0) 204 JB (JC n p key i j) [] emp φ
 |m,i,j,hm,hij,hjn,h1,h2=>by
  have hkey:0<=key/\key<=1000:=of_decide_eq_true hk;have hp:∀t,t<n->0<=(p t).key/\(p t).key<=1000:=fun t ht=>by
   have:=ajQ hs (t:=t) (by grind);simp_all
  have hso:=wQ hs;have hlt:∀a b,a<b->b<n->(p a).key<(p b).key:=fun a b hab hb=>by
   grind [cS]
  have sub_eq:∀t,t<n->mD.sub .i64 (p t).key key=(p t).key - key:=fun t ht=>by
   grind [Dz,pI]
  have hfin:i=j->(i<n->(p i).key=key->φ (.mV [.i .i64 i,.b aj]))/\((i<n->(p i).key≠key)->φ (.mV [.i .i64 i,.b ag])):=fun e=>by
   subst e;have hl:((aE n).map p).length=n:=by simp
   grind [aE,ab9,acd,tN]
  have hmid:=anm (i:=i) (j:=j) (by omega);refine wY (fn:=jE) (tb:=ajO) (by kernel_rfl) (by kernel_rfl) ?_;by_cases hlt2:i<j
  ·by_cases hcmp:(p ((i+j) / 2)).key<key
   ·refine xA (aS _ _) (BK _) (hold:=rF) (m:=300) (n:=400) (ts:=[⟨204,JB,JC n p key ((i+j) / 2+1:Nat) j,[]⟩]) ?_
    rw[show rF=oG from rfl,ajP mD W7 n p key i j ((i+j) / 2+1:Nat) j,hmid];refine ⟨fun _=>⟨by simp[oJ];omega,fun _=>⟨⟨rfl,rfl,rfl,?_,rfl,trivial⟩,_,rfl,?_⟩,fun h=>?_⟩,fun h=>?_⟩
    ·grind [oC.ok,qG,wZ,pI]
    ·match m,hm with
     |0,hm=>omega |m+1,hm=>
      refine VW hn hs hk hφ m ((i+j) / 2+1) j (by omega) (by omega) hjn (fun t ht=>?_) h2;by_cases e:t=(i+j) / 2
      ·simp_all
      ·have:=hlt t ((i+j) / 2) (by omega) (by omega);omega
    ·have e:mD.toN (((i+j) / 2:Nat):Int)=(i+j) / 2:=rfl
     grind [mQ]
    simp_all [mQ]
   ·refine xA (aS _ _) (BK _) (hold:=rF) (m:=300) (n:=400) (ts:=[⟨204,JB,JC n p key i ((i+j) / 2:Nat),[]⟩]) ?_
    rw[show rF=oG from rfl,ajP mD W7 n p key i j i ((i+j) / 2:Nat),hmid];refine ⟨fun _=>⟨by simp[oJ];omega,fun h=>?_,fun _=>⟨⟨rfl,rfl,rfl,rfl,rfl,trivial⟩,_,rfl,?_⟩⟩,fun h=>?_⟩
    ·have e:mD.toN (((i+j) / 2:Nat):Int)=(i+j) / 2:=rfl
     grind [mQ]
    ·match m,hm with
     |0,hm=>omega |m+1,hm=>
      refine VW hn hs hk hφ m i ((i+j) / 2) (by omega) (by omega) (by omega) h1 (fun t ht hle=>?_);by_cases e:t=(i+j) / 2
      ·grind
      ·have:=hlt ((i+j) / 2) t (by omega) ht;omega
    simp_all [mQ]
  ·have e:i=j:=by omega
   obtain ⟨f1,f2⟩:=hfin e;refine xA (aS _ _) (BK _) (hold:=rF) (m:=300) (n:=400) (ts:=[⟨204,JB,JC n p key i j,[]⟩]) ?_;rw[show rF=oG from rfl,ajP mD W7 n p key i j i j];refine ⟨fun h=>?_,fun _=>⟨fun h=>⟨?_,?_⟩,fun h=>?_⟩⟩
   ·simp_all [mQ]
   ·simp_all [mQ,oJ]
   ·have hi:i<n:=by grind
    show φ _;have e1:mD.toN (i:Int)=i:=rfl;grind [nC]
   ·exact f2 fun hi=>by grind [mQ]
theorem arJ:nG ah (nY W7) 204 ajR:=by
 refine BA (C:=C7 mD W7 noSpec ny) (aS _ _) (fn:=jE) (by kernel_rfl) (by kernel_rfl) fun H w nV args φ hrep h=>?_
 unfold ajR at h;split at h
 ·rename_i n g key
  obtain ⟨h1,h2,h3,h4,hφ⟩:=h;match args,hrep with
  |[v,u1,u2],⟨hv,r1,r2,_⟩=>
   refine ⟨[.sl 2 n (mF (mJ (α:=Pr) g)),.i .i64 key,.fn 205 []],⟨uD hv h1,r1,r2,trivial⟩,L0,?_⟩;have e:lst Pr n g=(aE n).map (mJ g):=rfl;rw[e] at h3 hφ;generalize mJ (α:=Pr) g=p at *;have h2:=of_decide_eq_true h2;have hn:jE.ntmps=49:=by kernel_rfl
   refine xA (aS _ _) (BK _) (hold:=rF) (m:=300) (n:=400) (ts:=[⟨204,JB,JC n p key (0:Nat) n,[]⟩]) ?_;rw[show rF=oG from rfl,hn,arI mD W7 n p key (0:Nat) n];exact ⟨⟨rfl,rfl,rfl,rfl,rfl,trivial⟩,_,rfl,VW h2 h3 h4 hφ n 0 n (by omega) (bZ _) (aV _) (fun t ht=>by omega) (fun t ht hle=>by omega)⟩
 ·exact h.elim
end Go.Proofs
namespace Go.Pl
open Go Go.Sx
def oM(n:Nat)(g:Nat->List Sh)(key:Int):Int:=(pF (lst Pr n g) key:Int)
def wR(n:Nat)(g:Nat->List Sh)(key:Int):Bool:=tN (lst Pr n g) key
def xK(n:Nat)(g:Nat->List Sh):Bool:=okB Pr n g&&decide (n<=100000)&&H6 (lst Pr n g)
def Gl(n:Nat)(g:Nat->List Sh)(key:Int):Int:=if wR n g key=aj then (mJ (α:=Pr) g (pF (lst Pr n g) key)).val else 0
def IJ(n:Nat)(g:Nat->List Sh)(key:Int):Int:=if wR n g key=aj then 3 else 2
def EO(n m:Nat):Nat:=n+m
def Yv(g:Nat->List Sh)(n:Nat)(h:Nat->List Sh):Nat->List Sh:=mD.snoc g n h
end Go.Pl
namespace Go.Proofs
open Go Go.Sx Go.Pl
def aer:List Sh->Tree Sh
 |[.sl 2 n g,.i .i64 key,.fn 205 []]=>.need (xK n g) (.need (sO key) (.leaf (.mV [.i .i64 (oM n g key),.b (wR n g key)]))) |_=>.fail
def Gn:Nat->Option (List Sh->Tree Sh)
 |204=>ae aer |_=>aq
def af2:List Sh->Tree Sh
 |[.agg [.i .i64 _,.i .i64 _,s2,s3],.i .i64 key]=>match sD 1 s2,sD 2 s3 with
  |some _,ae (n,g)=>.need (xK n g) (.need (sO key) (.leaf (.mV [.i .i64 (oM n g key),.b (wR n g key)]))) |_,_=>.fail
 |_=>.fail
def yS:Nat->Option (List Sh->Tree Sh)
 |181=>ae af2 |182=>ae (fun _=>.fail) |_=>aq
def ajS:List Sh->Tree Sh
 |[.agg [.i .i64 _,.i .i64 _,s2,s3],.i .i64 key]=>match sD 1 s2,sD 2 s3 with
  |some _,ae (n,g)=>.need (xK n g) (.need (sO key) (.leaf (.mV [.i .i64 (IJ n g key),.i .i64 (Gl n g key)]))) |_,_=>.fail
 |_=>.fail
def JD:Nat->Option (List Sh->Tree Sh)
 |208=>ae (fun _=>.fail) |_=>aq
def ajT:List Sh->Tree Sh
 |[.sl 1 2 g]=>match g 0,g 1 with
  |[.sl 2 n g1],[.sl 2 m g2]=>.need (oI (EO n m) 16) (.leaf (.sl 2 (EO n m) (Yv g1 n g2))) |_,_=>.fail
 |_=>.fail
def uy:Nat->Option (List Sh->Tree Sh)
 |181=>ae af2 |184=>ae ajS |186=>ae ajT |_=>aq
theorem arK(A:Prim)(W:Wd)(x y:Int)(a b:Nat)(h:Nat->List Sh)(p:Nat->Pr)(key:Int):nZ (C7 A W Gn ny) oG 300 400 181 [.code []] (mM 12 [.agg [.i .i64 x,.i .i64 y,.sl 1 a h,.sl 2 b (mF p)],.i .i64 key] L0) [] []=am (xK b (mF p)) (am (sO key) (ai (ay (aQ [az .i64 (oM b (mF p) key),Sh.b (wR b (mF p) key)])))):=by kernel_rfl
theorem a105(A:Prim)(W:Wd)(x y:Int)(a b:Nat)(h:Nat->List Sh)(p:Nat->Pr)(key:Int):nZ (C7 A W yS ny) oG 300 400 184 [.code []] (mM 21 [.agg [.i .i64 x,.i .i64 y,.sl 1 a h,.sl 2 b (mF p)],.i .i64 key] L0) [] []=am (xK b (mF p)) (am (sO key) (ak (wR b (mF p) key) (am (A.inB (oM b (mF p) key) b) (ai (ay (aQ [az .i64 (ab 3),az .i64 (p (A.toN (oM b (mF p) key))).val])))) (ai (ay (aQ [az .i64 (ab 2),az .i64 (ab 0)]))))):=by kernel_rfl
theorem arL(A:Prim)(W:Wd)(x y:Int)(a b:Nat)(h:Nat->List Sh)(p:Nat->Pr)(key v:Int):nZ (C7 A W uy ny) oG 300 400 183 [.code []] (mM 20 [.agg [.i .i64 x,.i .i64 y,.sl 1 a h,.sl 2 b (mF p)],.i .i64 key,.i .i64 v] L0) [] []=am (xK b (mF p)) (am (sO key) (ai (ay (aQ [aN [az .i64 x,az .i64 y,ao 1 a h,ao 2 b (mF p)],az .i64 (IJ b (mF p) key),az .i64 (Gl b (mF p) key)])))):=by kernel_rfl
theorem arM(A:Prim)(W:Wd)(x y:Int)(a b:Nat)(h:Nat->List Sh)(p:Nat->Pr)(key v:Int):nZ (QC A W yS ny) oG 300 400 179 [.code []] (mM 38 [.agg [.i .i64 x,.i .i64 y,.sl 1 a h,.sl 2 b (mF p)],.i .i64 key,.i .i64 v] L0) [] []=ak (A.Ux b 0) ((am (xK 0 fun _=>[]) (am (sO key) (ak (wR 0 (fun _=>[]) key) aY (am (A.upTo (oM 0 (fun _=>[]) key) 0) (am (A.room (A.addN 0 1) 16) (ai (ay (aQ [aN [az .i64 x,az .i64 y,ao 1 a h,cJ 272 2 (A.addN 0 1) (A.ins (fun _=>[]) (A.toN (oM 0 (fun _=>[]) key)) [az .i64 key,az .i64 v])],az .i64 (ab 1),az .i64 (ab 0)])))))))).both (am (A.room (A.addN 0 b) 16) (am (xK (A.addN 0 b) (A.snoc (nM []) 0 (mF p))) (am (sO key) (ak (wR (A.addN 0 b) (A.snoc (nM []) 0 (mF p)) key) (am (A.inB (oM (A.addN 0 b) (A.snoc (nM []) 0 (mF p)) key) (A.addN 0 b)) (ai (ay (aQ [aN [az .i64 x,az .i64 y,ao 1 a h,cJ 272 2 (A.addN 0 b) (A.upd (A.snoc (nM []) 0 (mF p)) (A.toN (oM (A.addN 0 b) (A.snoc (nM []) 0 (mF p)) key)) 1 [az .i64 v])],az .i64 (ab 1),az .i64 (ab 0)])))) (am (A.upTo (oM (A.addN 0 b) (A.snoc (nM []) 0 (mF p)) key) (A.addN 0 b)) (am (A.room (A.addN (A.addN 0 b) 1) 16) (ai (ay (aQ [aN [az .i64 x,az .i64 y,ao 1 a h,cJ 272 2 (A.addN (A.addN 0 b) 1) (A.ins (A.snoc (nM []) 0 (mF p)) (A.toN (oM (A.addN 0 b) (A.snoc (nM []) 0 (mF p)) key)) [az .i64 key,az .i64 v])],az .i64 (ab 1),az .i64 (ab 0)])))))))))) (am (A.room (A.addN 0 b) 16) (am (xK (A.addN 0 b) (A.snoc (nM []) 0 (mF p))) (am (sO key) (ak (wR (A.addN 0 b) (A.snoc (nM []) 0 (mF p)) key) (am (A.inB (oM (A.addN 0 b) (A.snoc (nM []) 0 (mF p)) key) (A.addN 0 b)) (ai (ay (aQ [aN [az .i64 x,az .i64 y,ao 1 a h,cJ 272 2 (A.addN 0 b) (A.upd (A.snoc (nM []) 0 (mF p)) (A.toN (oM (A.addN 0 b) (A.snoc (nM []) 0 (mF p)) key)) 1 [az .i64 v])],az .i64 (ab 1),az .i64 (ab 0)])))) (am (A.upTo (oM (A.addN 0 b) (A.snoc (nM []) 0 (mF p)) key) (A.addN 0 b)) (am (A.room (A.addN (A.addN 0 b) 1) 16) (ai (ay (aQ [aN [az .i64 x,az .i64 y,ao 1 a h,cJ 272 2 (A.addN (A.addN 0 b) 1) (A.ins (A.snoc (nM []) 0 (mF p)) (A.toN (oM (A.addN 0 b) (A.snoc (nM []) 0 (mF p)) key)) [az .i64 key,az .i64 v])],az .i64 (ab 1),az .i64 (ab 0)]))))))))):=by kernel_rfl
theorem a107(A:Prim)(W:Wd)(n m:Nat)(g1 g2:Nat->List Sh):nZ (QC A W JD ni) oG 300 400 186 [.code []] (mM 36 [.sl 1 2 (nM [[.sl 2 n g1],[.sl 2 m g2]])] L0) [] []=ak (A.lt (ab 0) (A.nH 2)) (am (A.inB (ab 0) 2) (ak (A.lt (A.add .i64 (ab 0) (A.nH n)) (ab 0)) aY (ak (A.lt (ab 1) (A.nH 2)) (am (A.inB (ab 1) 2) (ak (A.lt (A.add .i64 (A.add .i64 (ab 0) (A.nH n)) (A.nH m)) (ab 0)) aY (ak (A.lt (ab 2) (A.nH 2)) (am (A.inB (ab 2) 2) aY) (am (A.le (ab 0) (A.add .i64 (A.add .i64 (ab 0) (A.nH n)) (A.nH m))) (am (A.room (A.toN (A.add .i64 (A.add .i64 (ab 0) (A.nH n)) (A.nH m))) 16) (ak (A.lt (ab 0) (A.nH 2)) (am (A.inB (ab 0) 2) (am (A.room (A.addN 0 n) 16) (ak (A.lt (ab 1) (A.nH 2)) (am (A.inB (ab 1) 2) (am (A.room (A.addN (A.addN 0 n) m) 16) (ak (A.lt (ab 2) (A.nH 2)) (am (A.inB (ab 2) 2) aY) (ai (ay (cJ 272 2 (A.addN (A.addN 0 n) m) (A.snoc (A.snoc (fun _=>[]) 0 g1) (A.addN 0 n) g2))))))) (ai (ay (cJ 272 2 (A.addN 0 n) (A.snoc (fun _=>[]) 0 g1))))))) (ai (ay (cJ 272 2 0 fun _=>[]))))))))) (am (A.le (ab 0) (A.add .i64 (ab 0) (A.nH n))) (am (A.room (A.toN (A.add .i64 (ab 0) (A.nH n))) 16) (ak (A.lt (ab 0) (A.nH 2)) (am (A.inB (ab 0) 2) (am (A.room (A.addN 0 n) 16) (ak (A.lt (ab 1) (A.nH 2)) (am (A.inB (ab 1) 2) (am (A.room (A.addN (A.addN 0 n) m) 16) (ak (A.lt (ab 2) (A.nH 2)) (am (A.inB (ab 2) 2) aY) (ai (ay (cJ 272 2 (A.addN (A.addN 0 n) m) (A.snoc (A.snoc (fun _=>[]) 0 g1) (A.addN 0 n) g2))))))) (ai (ay (cJ 272 2 (A.addN 0 n) (A.snoc (fun _=>[]) 0 g1))))))) (ai (ay (cJ 272 2 0 fun _=>[]))))))))) (am (A.le (ab 0) (ab 0)) (am (A.room 0 16) (ak (A.lt (ab 0) (A.nH 2)) (am (A.inB (ab 0) 2) (am (A.room (A.addN 0 n) 16) (ak (A.lt (ab 1) (A.nH 2)) (am (A.inB (ab 1) 2) (am (A.room (A.addN (A.addN 0 n) m) 16) (ak (A.lt (ab 2) (A.nH 2)) (am (A.inB (ab 2) 2) aY) (ai (ay (cJ 272 2 (A.addN (A.addN 0 n) m) (A.snoc (A.snoc (fun _=>[]) 0 g1) (A.addN 0 n) g2))))))) (ai (ay (cJ 272 2 (A.addN 0 n) (A.snoc (fun _=>[]) 0 g1))))))) (ai (ay (cJ 272 2 0 fun _=>[])))))):=by kernel_rfl
noncomputable def JE(A:Prim)(W:Wd)(x y:Int)(a b:Nat)(h:Nat->List Sh)(p:Nat->Pr)(key:Int):List oC:=[ac x x,ac y y,av (ao 1 a h) (ao 1 a h),av (ao 2 b (mF p)) (ao 2 b (mF p)),ac key key,ac (IJ b (mF p) key) (IJ b (mF p) key),ac (Gl b (mF p) key) (Gl b (mF p) key),ac (oM b (mF p) key) (oM b (mF p) key),oC.bool (wR b (mF p) key) (wR b (mF p) key),ac x x,ac y y,av (ao 1 a h) (ao 1 a h),av (ao 2 (EO (A.toN (oM b (mF p) key)) (A.zL b (A.toN (A.add .i64 (oM b (mF p) key) (ab 1))))) (Yv (mF p) (A.toN (oM b (mF p) key)) fun (j:Nat)=>mF p ((C7 A W uy ny).A.addN ((C7 A W uy ny).A.toN ((C7 A W uy ny).A.add .i64 (oM b (mF p) key) 1)) j))) (ao 2 (EO (A.toN (oM b (mF p) key)) (A.zL b (A.toN (A.add .i64 (oM b (mF p) key) (ab 1))))) (Yv (mF p) (A.toN (oM b (mF p) key)) fun (j:Nat)=>mF p ((C7 A W uy ny).A.addN ((C7 A W uy ny).A.toN ((C7 A W uy ny).A.add .i64 (oM b (mF p) key) 1)) j))),ap 2 2,aF (nM [[ao 2 (A.toN (oM b (mF p) key)) (mF p)],[ao 2 (A.zL b (A.toN (A.add .i64 (oM b (mF p) key) (ab 1)))) fun (j:Nat)=>mF p (A.addN (A.toN (A.add .i64 (oM b (mF p) key) (ab 1))) j)]]) (nM [[ao 2 (A.toN (oM b (mF p) key)) (mF p)],[ao 2 (A.zL b (A.toN (A.add .i64 (oM b (mF p) key) (ab 1)))) fun (j:Nat)=>mF p (A.addN (A.toN (A.add .i64 (oM b (mF p) key) (ab 1))) j)]])]
theorem arN(A:Prim)(W:Wd)(x y:Int)(a b:Nat)(h:Nat->List Sh)(p:Nat->Pr)(key v:Int):nZ (C7 A W uy ny) oG 600 800 185 [.code []] (mM 41 [.agg [.i .i64 x,.i .i64 y,.sl 1 a h,.sl 2 b (mF p)],.i .i64 key,.i .i64 v] L0) [] []=am (xK b (mF p)) (am (sO key) (am (xK b (mF p)) (am (sO key) (ak (wR b (mF p) key) (am (A.upTo (oM b (mF p) key) b) (am (A.upTo (A.add .i64 (oM b (mF p) key) (ab 1)) b) (am (oI (EO (A.toN (oM b (mF p) key)) (A.zL b (A.toN (A.add .i64 (oM b (mF p) key) (ab 1))))) 16) (am (A.upTo (oM b (mF p) key) b) (am (A.upTo (A.add .i64 (oM b (mF p) key) (ab 1)) b) (am (oI (EO (A.toN (oM b (mF p) key)) (A.zL b (A.toN (A.add .i64 (oM b (mF p) key) (ab 1))))) 16) (am (A.upTo (A.add .i64 (oM b (mF p) key) (ab 1)) b) (am (A.upTo (oM b (mF p) key) b) (am (oI (EO (A.toN (oM b (mF p) key)) (A.zL b (A.toN (A.add .i64 (oM b (mF p) key) (ab 1))))) 16) (aw (JE A W x y a b h p key) (aw (JE A W x y a b h p key) (am (A.upTo (oM b (mF p) key) b) (am (A.upTo (A.add .i64 (oM b (mF p) key) (ab 1)) b) (am (oI (EO (A.toN (oM b (mF p) key)) (A.zL b (A.toN (A.add .i64 (oM b (mF p) key) (ab 1))))) 16) (am (A.upTo (A.add .i64 (oM b (mF p) key) (ab 1)) b) (am (A.upTo (oM b (mF p) key) b) (am (oI (EO (A.toN (oM b (mF p) key)) (A.zL b (A.toN (A.add .i64 (oM b (mF p) key) (ab 1))))) 16) (aw (JE A W x y a b h p key) (am (A.upTo (A.add .i64 (oM b (mF p) key) (ab 1)) b) (am (A.upTo (oM b (mF p) key) b) (am (oI (EO (A.toN (oM b (mF p) key)) (A.zL b (A.toN (A.add .i64 (oM b (mF p) key) (ab 1))))) 16) (aw (JE A W x y a b h p key) (aw (JE A W x y a b h p key) (ai (ay (aQ [aN [az .i64 x,az .i64 y,ao 1 a h,ao 2 (EO (A.toN (oM b (mF p) key)) (A.zL b (A.toN (A.add .i64 (oM b (mF p) key) (ab 1))))) (Yv (mF p) (A.toN (oM b (mF p) key)) fun (j:Nat)=>mF p ((C7 A W uy ny).A.addN ((C7 A W uy ny).A.toN ((C7 A W uy ny).A.add .i64 (oM b (mF p) key) 1)) j))],az .i64 (IJ b (mF p) key),az .i64 (Gl b (mF p) key)])))))))))))))))))))))))))) (ai (ay (aQ [aN [az .i64 x,az .i64 y,ao 1 a h,ao 2 b (mF p)],az .i64 (IJ b (mF p) key),az .i64 (Gl b (mF p) key)]))))))):=by kernel_rfl
end Go.Proofs
namespace Go.Pl
open Go Go.Sx Go.Proofs
def uI(ps:List Pr)(key v:Int):List Pr:=if tN ps key=aj then ps.set (pF ps key) ⟨key,v⟩ else ps.take (pF ps key)++⟨key,v⟩::ps.drop (pF ps key)
def vN(ps:List Pr)(key:Int):List Pr:=if tN ps key=aj then ps.take (pF ps key)++ps.drop (pF ps key+1) else ps
def BO(ps:List Pr)(key:Int):Int:=if tN ps key=aj then (nth ps (pF ps key)).val else 0
def CS(ps:List Pr)(key:Int):Int:=if tN ps key=aj then 3 else 2
theorem JF(ps:List Pr)(key:Int):pF ps key<=ps.length:=by grind [pF,hY]
theorem af4{α:Type}{p:α->Bool}{x:α}:∀{l:List α},x∈l.takeWhile p->p x=aj
 |[],h=>by simp at h |a::l,h=>by
  cases ha:p a with
  |false=>simp_all |true=>
   simp only[eH,ha,List.mem_cons] at h;rcases h with rfl|h
   ·exact ha
   ·exact af4 h
theorem ace(ps:List Pr)(key:Int):∀t (h:t<ps.length),t<pF ps key->ps[t].key<key:=by
 intro t h ht;have h2:(ps.takeWhile fun p=>decide (p.key<key))[t]?=ps[t]?:=by
  have:=hY (p:=fun p:Pr=>decide (p.key<key)) (l:=ps);obtain ⟨r,hr⟩:=this;conv=>rhs;rw[<-hr]
  rw[gG ht]
 have h3:ps[t]∈ps.takeWhile fun p=>decide (p.key<key):=by
  grind
 grind [af4]
theorem acf{ps:List Pr}{key:Int}(hs:ps.Pairwise fun a b=>a.key<b.key):∀t (h:t<ps.length),pF ps key<=t->key<=ps[t].key:=by
 intro t h ht;have hk:pF ps key<ps.length:=by omega
 have h0:¬ps[pF ps key].key<key:=by
  intro hlt;have:pF ps key<(ps.takeWhile fun p=>decide (p.key<key)).length:=by
   have key2:∀(l:List Pr),(h:(l.takeWhile fun p=>decide (p.key<key)).length<l.length)->¬(l[(l.takeWhile fun p=>decide (p.key<key)).length].key<key):=by
    intro l;induction l with
    |nil=>simp |cons a l ih=>
     grind [decide,decide_eq_true,eH,cZ,decide_eq_false,gF]
   exact (key2 ps hk hlt).elim
  simp_all [pF]
 grind [pF,cS]
theorem Gp{ps:List Pr}{key:Int}(hs:ps.Pairwise fun a b=>a.key<b.key)(h:tN ps key=aj):∃h:pF ps key<ps.length,ps[pF ps key].key=key:=(acd hs (ace ps key) (acf hs)).1 h
theorem acg{α:Type}[Row α]{l:List α}{j:Nat}(h:j<l.length):nth l j=l[j]:=by simp[nth,h]
theorem ajU{α:Type}[Row α]{l:List α}{k j:Nat}{a:α}(hk:k<l.length)(hj:j<l.length):nth (l.set k a) j=if j=k then a else nth l j:=by
 grind [acg]
theorem ajV{α:Type}[Row α]{l:List α}{k j:Nat}{a:α}(hk:k<=l.length)(hj:j<l.length+1):nth (l.take k++a::l.drop k) j=if j<k then nth l j else if j=k then a else nth l (j - 1):=by
 have hlen:(l.take k++a::l.drop k).length=l.length+1:=by simp;omega
 have ht:(l.take k).length=k:=by simp;omega
 unfold nth;grind
theorem ajW{α:Type}[Row α]{l:List α}{k j:Nat}(hk:k<l.length)(hj:j<l.length - 1):nth (l.take k++l.drop (k+1)) j=if j<k then nth l j else nth l (j+1):=by
 have ht:(l.take k).length=k:=by simp;omega
 unfold nth;grind
theorem ZN{ps:List Pr}{key v:Int}(h:tN ps key=ag):uI ps key v=ps.take (pF ps key)++⟨key,v⟩::ps.drop (pF ps key):=if_neg (by rw[h];simp)
theorem ZO{ps:List Pr}{key v:Int}(h:tN ps key=aj):uI ps key v=ps.set (pF ps key) ⟨key,v⟩:=if_pos h
theorem ZP{ps:List Pr}{key:Int}(h:tN ps key=ag):vN ps key=ps:=if_neg (by rw[h];simp)
theorem ZQ{ps:List Pr}{key:Int}(h:tN ps key=aj):vN ps key=ps.take (pF ps key)++ps.drop (pF ps key+1):=if_pos h
theorem VX{ps:List Pr}{key v:Int}:(uI ps key v).length=if tN ps key=aj then ps.length else ps.length+1:=by
 grind [JF,uI]
theorem ach{ps:List Pr}{key:Int}(hs:H6 ps=aj):(vN ps key).length=if tN ps key=aj then ps.length - 1 else ps.length:=by
 have:=JF ps key;unfold vN;split
 ·rename_i h
  obtain ⟨h1,_⟩:=Gp (wQ hs) h;simp;omega
 ·rfl
theorem ajX{n:Nat}{g:Nat->List Sh}{key:Int}(hs:H6 (lst Pr n g)=aj):Gl n g key=BO (lst Pr n g) key:=by
 unfold Gl BO wR;split
 ·rename_i h
  obtain ⟨h1,_⟩:=Gp (wQ hs) h;rw[Pj (by simpa using h1)]
 ·rfl
theorem yj{n:Nat}{g:Nat->List Sh}:xK n g=aj↔okB Pr n g=aj/\n<=100000/\H6 (lst Pr n g)=aj:=by
 grind [xK]
end Go.Pl
namespace Go.Proofs
open Go Go.Sx Go.Pl Go.Lib
theorem ape:nG ah (nY W7) 204 aer:=arJ.mono fun H nV args φ hr h=>by
 unfold aer at h;split at h
 ·rename_i n g key
  obtain ⟨h1,h2,hφ⟩:=h;obtain ⟨q1,q2,q3⟩:=yj.1 h1;simp only[ajR];exact ⟨q1,decide_eq_true q2,q3,h2,hφ⟩
 ·exact h.elim
theorem apf:∀g F,Gn g=ae F->nG ah (nY W7) g F:=fun g F h=>by
 grind [Gn,ape]
theorem ano(stop:Nat->List Nat->Bool):oH ah (C7 mD W7 Gn stop):=dZ apf fun g h=>by
 unfold Gn at h;split at h;all_goals first|(cases h;done) |kernel_rfl
theorem JG{H:Mem}{x y:Int}{s2 s3:Sh}{n b:Nat}{g l:Nat->List Sh}{v:Value}(hs2:sD 1 s2=ae (n,g))(hs:sD 2 s3=ae (b,l))(hw:okB Pr b l=aj)(r:Rep H (.agg [.i .i64 x,.i .i64 y,s2,s3]) v):
  Rep H (.agg [.i .i64 x,.i .i64 y,.sl 1 n g,.sl 2 b (mF (mJ (α:=Pr) l))]) v:=xI r (fun _ hu=>oO hs2 hu) fun _ hu=>uD (oO hs hu) hw
theorem JH{b:Nat}{l:Nat->List Sh}(h:xK b l=aj):xK b (mF (mJ (α:=Pr) l))=aj/\∀key,wR b (mF (mJ (α:=Pr) l)) key=wR b l key/\oM b (mF (mJ (α:=Pr) l)) key=oM b l key:=by
 have e:lst Pr b (mF (mJ (α:=Pr) l))=lst Pr b l:=by rfl
 simp_all [yj,rZ,wR,oM]
theorem aot:nG ah (nY W7) 181 af2:=by
 refine rM (C:=C7 mD W7 Gn ny) (aS _ _) (ano _) (m:=300) (n:=400) (L:=L0) (fn:=l6) (by kernel_rfl) (by kernel_rfl) fun H w nV args φ hrep h=>?_
 have hn:l6.ntmps=12:=by kernel_rfl
 unfold af2 at h;split at h
 ·rename_i x y s2 s3 key
  split at h
  ·rename_i z b l hs2 hs
   obtain ⟨a,hh⟩:=z;obtain ⟨h1,h2,hφ⟩:=h;match args,hrep with
   |[v,u1],⟨hv,r1,_⟩=>
    obtain ⟨q1,q2⟩:=JH h1;refine ⟨[.agg [.i .i64 x,.i .i64 y,.sl 1 a hh,.sl 2 b (mF (mJ (α:=Pr) l))],.i .i64 key],⟨JG hs2 hs (yj.1 h1).1 hv,r1,trivial⟩,?_⟩;rw[hn,arK mD W7 x y a b hh (mJ l) key,(q2 key).1,(q2 key).2];exact ⟨q1,h2,oq (s':=.mV [.i .i64 (oM b l key),.b (wR b l key)]) ⟨rfl,.inl rfl,trivial⟩ hφ⟩
  ·exact h.elim
 ·exact h.elim
theorem ajY:∀g F,yS g=ae F->nG ah (nY W7) g F:=fun g F h=>by
 unfold yS at h;split at h
 ·cases h;exact aot
 ·cases h;exact fun H w nV args φ _ _ _ h=>h.elim
 ·cases h
theorem anp(stop:Nat->List Nat->Bool):oH ah (C7 mD W7 yS stop):=dZ ajY fun g h=>by
 unfold yS at h;split at h;all_goals first|(cases h;done) |kernel_rfl
theorem ajZ:eO.get 272=ae ⟨.struct [(0,1,ag),(1,1,ag)],2,16,[.int .i64 0,.int .i64 0]⟩:=by kernel_rfl
set_option maxHeartbeats 4000000 in
set_option maxRecDepth 100000 in
theorem aj0:Zp ah 208 272 2 16:=by
 intro w k hk hb;obtain ⟨inf,z,i1,i2,i3,i4,i5,zs,hz⟩:=info116;have hsmall:k<=9223372036854775807:=by omega
 have hse:∀w,(kl 272).run ah w=.ok 2 w:=fun w=>by rfl
 by_cases h0:k=0
 ·subst h0
  go_enter ln,kz
  go_wp2
  go_ret
  exact ⟨_,rfl,F7 _ _ _,⟨rfl,rfl,rfl,aV _,fun _ _ _=>rfl⟩,fun b hb=>by simp[mY] at hb⟩
 ·obtain ⟨G,hG⟩:∃G,G=grownCap w (0+k) 0 272:=⟨_,rfl⟩
  have hGn:k<=G:=by simp_all [grownCap_ge]
  have hGm:G<=maxLen:=by simp_all [grownCap_le_maxLen]
  have hG63:G<=9223372036854775807:=by assumption
  obtain ⟨ROW,hROW⟩:∃ROW:Array Value,ROW=([]:List Value).toArray++cF z.cells k++cF z.cells (G - (0+k)):=⟨_,rfl⟩;have hRs:ROW.size=G*2:=by
   grind [fB,fT,size_zeroCells,gF]
  have hr:∀ty,(bK #[209,3] ty #[.slice aq 0 0,.int .i64 k]).run ah w=.ok (.slice (ae ⟨w.heap.size,0,aq⟩) k G) (w.drew.alloc (.cells ROW 272)):=fun ty=>by
   have h:=gM w 209 3 ty 272 inf z .i64 .i64 b8 eG i1 i4 aq 0 0 [] (by rfl) k (by omega) (by omega) (by omega) (by omega) (by grind) (by rw[i3];exact growslice_fits (by omega) (by omega));simp_all
  obtain ⟨W1,hW1⟩:∃W1,W1=w.drew.alloc (.cells ROW 272):=⟨_,rfl⟩;have f1:W1.heap[w.heap.size]?=ae (.cells ROW 272 (0,0)):=by rw[hW1];exact heap_alloc_new w.drew _
  have f2:w.grownBy W1 aq:=⟨by rw[hW1];rfl,by rw[hW1];rfl,by rw[hW1];rfl,by grind,fun j hj _=>by rw[hW1];first|exact j0 w.drew _ j hj|exact heap_alloc_old w.drew _ hj⟩
  have hr1:=hr 209;rw[<-hW1] at hr1;have hk0:¬((k:Int)=0):=by omega
  have hk1:(0:Int)<k:=by omega
  clear hROW hr hG hW1;go_enter ln,kz
  go_wp2_with (first
   |(at_builtin;refine dn _ rfl _ _ _ _ rfl _ _ rfl rfl _ _ hr1 ?_))
  go_ret
  exact ⟨_,rfl,⟨by simp,.inr ⟨w.heap.size,G,ROW,rfl,bZ _,f1,bZ _,hGm,hRs,by simp⟩⟩,f2,fun b hb=>by simp_all [mY]⟩
theorem apg:∀g e te,ajB g=ae e->eO.get e=ae te->kA ah g/\adZ ah g e te.size te.bytes:=fun g e te h ht=>by
 unfold ajB at h;split at h
 ·cases h
  rw[ajZ] at ht;cases ht;exact ⟨wP cG c8 182 (by kernel_rfl),anl⟩
 ·cases h
theorem aph:∀g e te,aek g=ae e->eO.get e=ae te->kA ah g/\Zp ah g e te.size te.bytes:=fun g e te h ht=>by
 unfold aek at h;split at h
 ·cases h
  rw[ajZ] at ht;cases ht;exact ⟨wP cG c8 208 (by kernel_rfl),aj0⟩
 ·cases h
theorem QC.Gh{spec:Nat->Option (List Sh->Tree Sh)}{stop:Nat->List Nat->Bool}(hs:∀g F,spec g=ae F->nG ah (nY W7) g F)(he:∀g,(spec g).isSome=aj->(Tryz.fns.get g).isSome=aj):oH ah (QC mD W7 spec stop):=⟨hs,(fun g h=>by
  rcases h with h|h
  ·exact wP cG c8 g (he g h)
  ·exact wP cG c8 g h),apg,aph⟩
theorem aj1(stop:Nat->List Nat->Bool):oH ah (QC mD W7 yS stop):=QC.Gh ajY fun g h=>by
 unfold yS at h;split at h;all_goals first|(cases h;done) |kernel_rfl
theorem Pn{b:Nat}{l:Nat->List Sh}{key:Int}(h1:xK b l=aj)(h:wR b l key=aj):pF (lst Pr b l) key<b:=by
 obtain ⟨_,_,h3⟩:=yj.1 h1;obtain ⟨h4,_⟩:=Gp (wQ h3) h;simpa using h4
theorem arO:nG ah (nY W7) 184 ajS:=by
 refine rM (C:=C7 mD W7 yS ny) (aS _ _) (anp _) (m:=300) (n:=400) (L:=L0) (fn:=l7) (by kernel_rfl) (by kernel_rfl) fun H w nV args φ hrep h=>?_
 have hn:l7.ntmps=21:=by kernel_rfl
 unfold ajS at h;split at h
 ·rename_i x y s2 s3 key
  split at h
  ·rename_i z b l hs2 hs
   obtain ⟨a,hh⟩:=z;obtain ⟨h1,h2,hφ⟩:=h;match args,hrep with
   |[v,u1],⟨hv,r1,_⟩=>
    obtain ⟨q1,q2⟩:=JH h1;refine ⟨[.agg [.i .i64 x,.i .i64 y,.sl 1 a hh,.sl 2 b (mF (mJ (α:=Pr) l))],.i .i64 key],⟨JG hs2 hs (yj.1 h1).1 hv,r1,trivial⟩,?_⟩;rw[hn,a105 mD W7 x y a b hh (mJ l) key,(q2 key).1,(q2 key).2];have e:mD.toN (oM b l key)=pF (lst Pr b l) key:=rfl;refine ⟨q1,h2,fun h=>⟨?_,oq (s':=.mV [.i .i64 (IJ b l key),.i .i64 (Gl b l key)]) ⟨?_,?_,trivial⟩ hφ⟩,fun h=>oq (s':=.mV [.i .i64 (IJ b l key),.i .i64 (Gl b l key)]) ⟨?_,?_,trivial⟩ hφ⟩
    ·simp_all [Pn,oJ,oM]
    ·show az _ _=_;simp[IJ,h]
    ·show az _ _=_;grind [Gl]
    ·show az _ _=_;simp[IJ,h]
    ·show az _ _=_;simp[Gl,h]
  ·exact h.elim
 ·exact h.elim
def aj2:List Sh->Tree Sh
 |[.agg [.i .i64 x,.i .i64 y,s2,s3],u,t]=>match sD 1 s2,sD 2 s3,nR u,nR t with
  |some (a,h),ae (b,l),ae key,ae _=>.need (xK b l) (.need (sO key) (.leaf (.mV [.agg [.i .i64 x,.i .i64 y,.sl 1 a h,.sl 2 b l],.i .i64 (CS (lst Pr b l) key),.i .i64 (BO (lst Pr b l) key)]))) |_,_,_,_=>.fail
 |_=>.fail
def aj3:List Sh->Tree Sh
 |[.agg [.i .i64 x,.i .i64 y,s2,s3],u,t]=>match sD 1 s2,sD 2 s3,nR u,nR t with
  |some (a,h),ae (b,l),ae key,ae v=>.need (xK b l) (.need (sO key) (.need (oI (b+1) 16) (.leaf (.mV [.agg [.i .i64 x,.i .i64 y,.sl 1 a h,.sl 2 (len (uI (lst Pr b l) key v)) (mF (nth (uI (lst Pr b l) key v)))],.i .i64 1,.i .i64 0])))) |_,_,_,_=>.fail
 |_=>.fail
def aj6:List Sh->Tree Sh
 |[.agg [.i .i64 x,.i .i64 y,s2,s3],u,t]=>match sD 1 s2,sD 2 s3,nR u,nR t with
  |some (a,h),ae (b,l),ae key,ae _=>.need (xK b l) (.need (sO key) (.need (oI (b+1) 16) (.leaf (.mV [.agg [.i .i64 x,.i .i64 y,.sl 1 a h,.sl 2 (len (vN (lst Pr b l) key)) (mF (nth (vN (lst Pr b l) key)))],.i .i64 (CS (lst Pr b l) key),.i .i64 (BO (lst Pr b l) key)])))) |_,_,_,_=>.fail
 |_=>.fail
theorem arP:nG ah (nY W7) 179 aj3:=by
 refine rM (C:=QC mD W7 yS ny) (l8 _ _) (aj1 _) (m:=300) (n:=400) (L:=L0) (fn:=l9) (by kernel_rfl) (by kernel_rfl) fun H w nV args φ hrep h=>?_
 have hn:l9.ntmps=38:=by kernel_rfl
 unfold aj3 at h;split at h
 ·rename_i x y s2 s3 u t
  split at h
  ·rename_i a hh b l key vv hs2 hs hu ht
   obtain ⟨h1,h2,h3,hφ⟩:=h;match args,hrep with
   |[v,u1,u2],⟨hv,r1,r2,_⟩=>
    obtain ⟨q1,q2⟩:=JH h1;obtain ⟨w1,w2,w3⟩:=yj.1 h1;have hso:=wQ w3;refine ⟨[.agg [.i .i64 x,.i .i64 y,.sl 1 a hh,.sl 2 b (mF (mJ (α:=Pr) l))],.i .i64 key,.i .i64 vv],⟨JG hs2 hs w1 hv,qW hu r1,qW ht r2,trivial⟩,?_⟩;rw[hn,arM mD W7 x y a b hh (mJ l) key vv,yc b,A8,(q2 key).1,(q2 key).2];have hll:(lst Pr b l).length=b:=vK b l;have hat:∀j (hj:j<b),nth (lst Pr b l) j=mJ (α:=Pr) l j:=fun j hj=>Pj hj
    have e:mD.toN (oM b l key)=pF (lst Pr b l) key:=rfl;have avL:pF (lst Pr b l) key<=b:=by grind [JF,lst]
    have hup:mD.upTo (oM b l key) b=aj:=by simp[zk,oM];omega
    have r0:mD.room b 16=aj:=BM h3 (jT b);have fin (n':Nat) (g':Nat->List Sh) (hn':n'=len (uI (lst Pr b l) key vv)) (hg:∀j,j<n'->g' j=mF (nth (uI (lst Pr b l) key vv)) j) :
      up φ (.mV [.agg [.i .i64 x,.i .i64 y,.sl 1 a hh,.os 272 2 n' g'],.i .i64 (ab 1),.i .i64 (ab 0)]):=
     oq (s':=.mV [.agg [.i .i64 x,.i .i64 y,.sl 1 a hh,.sl 2 (len (uI (lst Pr b l) key vv)) (mF (nth (uI (lst Pr b l) key vv)))],.i .i64 1,.i .i64 0]) ⟨⟨rfl,rfl,.inr ⟨rfl,rfl,fun _ _=>rfl⟩,.inr ⟨rfl,hn',hg⟩,trivial⟩,rfl,rfl,trivial⟩ hφ
    have hput (hb:wR b l key=aj):len (uI (lst Pr b l) key vv)=b:=by
     have hb:tN (lst Pr b l) key=aj:=hb;show (uI (lst Pr b l) key vv).length=b;simp_all [VX]
    have aj7 (hb:wR b l key=ag):len (uI (lst Pr b l) key vv)=b+1:=by
     have hb:tN (lst Pr b l) key=ag:=hb;show (uI (lst Pr b l) key vv).length=b+1;simp_all [VX]
    have yes (hb:wR b l key=aj):mD.inB (oM b l key) b=aj/\up φ (.mV [.agg [.i .i64 x,.i .i64 y,.sl 1 a hh,.os 272 2 b (mD.upd (mF (mJ (α:=Pr) l)) (mD.toN (oM b l key)) 1 [.i .i64 vv])],.i .i64 (ab 1),.i .i64 (ab 0)]):=by
     have hlt:=Pn h1 hb;refine ⟨by simp[oJ,oM];omega,fin b _ (hput hb).symm fun j hj=>?_⟩;have hb':tN (lst Pr b l) key=aj:=hb;obtain ⟨k1,k2⟩:=Gp hso hb';rw[Yr,e];show _=prR (nth (uI (lst Pr b l) key vv) j);rw[ZO hb',ajU k1 (by omega)];by_cases ej:j=pF (lst Pr b l) key
     ·rw[if_pos ej,if_pos ej]
      have hk:(mJ (α:=Pr) l (pF (lst Pr b l) key)).key=key:=by simp_all [acg]
      simp_all [mF,Row.put,prR]
     ·rw[if_neg ej,if_neg ej,hat j hj];rfl
    have no (hb:wR b l key=ag):up φ (.mV [.agg [.i .i64 x,.i .i64 y,.sl 1 a hh,.os 272 2 (mD.addN b 1) (mD.ins (mF (mJ (α:=Pr) l)) (mD.toN (oM b l key)) [.i .i64 key,.i .i64 vv])],.i .i64 (ab 1),.i .i64 (ab 0)]):=by
     refine fin (b+1) _ (aj7 hb).symm fun j hj=>?_
     have hb':tN (lst Pr b l) key=ag:=hb;rw[e];show (if j<_ then _ else if j=_ then _ else _)=prR (nth (uI (lst Pr b l) key vv) j);rw[ZN hb',ajV (by omega) (by omega)];split
     ·rw[hat j (by omega)];rfl
     ·split
      ·rfl
      ·rw[hat (j - 1) (by omega)];rfl
    refine ⟨fun h0=>⟨?_,?_⟩,fun _=>?_⟩
    ·
     have hb0:b=0:=by simp_all [QF]
     subst hb0;have hnil:∀g':Nat->List Sh,lst Pr 0 g'=[]:=fun _=>rfl
     have wf0:xK 0 (fun _=>[])=aj:=by rfl
     have hh0:wR 0 (fun _=>[]) key=ag:=by rfl
     have hh1:wR 0 l key=ag:=by rfl
     have hp0:oM 0 (fun _=>[]) key=0:=by rfl
     refine ⟨wf0,h2,fun hx=>(by simp_all),fun _=>⟨by rw[hp0];rfl,h3,?_⟩⟩;refine fin 1 _ (aj7 hh1).symm fun j hj=>?_
     obtain rfl:j=0:=by omega
     rfl
    all_goals exact ⟨r0,q1,h2,fun hb=>yes hb,fun hb=>⟨hup,h3,no hb⟩⟩
  ·exact h.elim
 ·exact h.elim
theorem anq(stop:Nat->List Nat->Bool):oH ah (QC mD W7 JD stop):=QC.Gh (fun g F h=>by
  unfold JD at h;split at h
  ·cases h;exact fun H w nV args φ _ _ _ h=>h.elim
  ·cases h) fun g h=>by
 unfold JD at h;split at h;all_goals first|(cases h;done) |kernel_rfl
theorem arQ:nG ah (nY W7) 186 ajT:=by
 refine vM (C:=QC mD W7 JD ni) (l8 _ _) (fn:=ma) (by kernel_rfl) (by kernel_rfl) fun H w nV args φ hrep h=>?_
 have hn:ma.ntmps=36:=by kernel_rfl
 unfold ajT at h;split at h
 ·rename_i g
  split at h
  ·rename_i n g1 m g2 h0 h1
   obtain ⟨hr,hφ⟩:=h;match args,hrep with
   |[v],⟨hv,_⟩=>
    refine ⟨[.sl 1 2 (nM [[.sl 2 n g1],[.sl 2 m g2]])],⟨sW hv fun j hj=>?_,trivial⟩,L0,xA (l8 _ _) (anq _) (hold:=oG) (m:=300) (n:=400) (ts:=[]) ?_⟩
    ·have:j=0\/j=1:=by omega
     rcases this with rfl|rfl
     ·rw[h0];rfl
     ·rw[h1];rfl
    ·rw[hn,a107 mD W7 n m g1 g2]
     have hr:mD.room (n+m) 16=aj:=hr;obtain ⟨hr1,hr2⟩:=uQ hr;rw[maxLen_eq] at hr2;have e0:mD.add .i64 (ab 0) (mD.nH n)=(n:Int):=by
      rw[qG,nI];grind [pI]
     have e1:mD.add .i64 (n:Int) (mD.nH m)=((n+m:Nat):Int):=by
      grind [qG,nI,pI]
     rw[e0,e1];have ng (k:Nat):mD.lt (k:Int) (ab 0)=ag:=by rfl
     have r0:mD.room (mD.addN 0 n) 16=aj:=by rw[yc];exact BM hr (Nat.le_add_right n m)
     have r1:mD.room (mD.addN (mD.addN 0 n) m) 16=aj:=by rw[yc];exact hr
     have le:mD.le (ab 0) ((n+m:Nat):Int)=aj:=by rfl
     have fin:=oq (φ:=φ) (s:=.os 272 2 (mD.addN (mD.addN 0 n) m) (mD.snoc (mD.snoc (fun (x:Nat)=>[]) 0 g1) (mD.addN 0 n) g2)) (s':=.sl 2 (EO n m) (Yv g1 n g2)) (.inr ⟨rfl,by rw[yc];rfl,fun j hj=>by rw[yc,A8];rfl⟩);exact ⟨fun _=>⟨rfl,fun h=>(by simp_all),fun _=>⟨fun _=>⟨rfl,fun h=>(by grind),fun _=>⟨fun h=>(by cases h),fun _=>⟨le,hr,fun _=>⟨rfl,r0,fun _=>⟨rfl,r1,fun h=>(by cases h),fun _=>fin hφ⟩,fun h=>(by cases h)⟩,fun h=>(by cases h)⟩⟩⟩,fun h=>(by cases h)⟩⟩,fun h=>(by cases h)⟩
  ·exact h.elim
 ·exact h.elim
end Go.Proofs
namespace Go.Pl
open Go Go.Sx Go.Proofs
def Bc(op:Int)(b:Nat)(l:Nat->List Sh):Bool:=!decide (CP op=4)||(xK b l&&oI (b+1) 16)
end Go.Pl
namespace Go.Proofs
open Go Go.Sx Go.Pl
theorem apj:∀g F,uy g=ae F->nG ah (nY W7) g F:=fun g F h=>by
 unfold uy at h;grind [aot,arO,arQ]
theorem af5(stop:Nat->List Nat->Bool):oH ah (C7 mD W7 uy stop):=dZ apj fun g h=>by
 unfold uy at h;split at h;all_goals first|(cases h;done) |kernel_rfl
theorem Yw{b:Nat}{l:Nat->List Sh}(h:xK b l=aj)(key:Int):IJ b (mF (mJ (α:=Pr) l)) key=CS (lst Pr b l) key/\Gl b (mF (mJ (α:=Pr) l)) key=BO (lst Pr b l) key:=by
 have e:lst Pr b (mF (mJ (α:=Pr) l))=lst Pr b l:=by rfl
 simp_all [yj,IJ,CS,wR,ajX]
theorem arR:nG ah (nY W7) 183 aj2:=by
 refine rM (C:=C7 mD W7 uy ny) (aS _ _) (af5 _) (m:=300) (n:=400) (L:=L0) (fn:=mb) (by kernel_rfl) (by kernel_rfl) fun H w nV args φ hrep h=>?_
 have hn:mb.ntmps=20:=by kernel_rfl
 unfold aj2 at h;split at h
 ·rename_i x y s2 s3 u t
  split at h
  ·rename_i a hh b l key vv hs2 hs hu ht
   obtain ⟨h1,h2,hφ⟩:=h;match args,hrep with
   |[v,u1,u2],⟨hv,r1,r2,_⟩=>
    obtain ⟨q1,q2⟩:=JH h1;obtain ⟨e1,e2⟩:=Yw h1 key;refine ⟨[.agg [.i .i64 x,.i .i64 y,.sl 1 a hh,.sl 2 b (mF (mJ (α:=Pr) l))],.i .i64 key,.i .i64 vv],⟨JG hs2 hs (yj.1 h1).1 hv,qW hu r1,qW ht r2,trivial⟩,?_⟩;rw[hn,arL mD W7 x y a b hh (mJ l) key vv,e1,e2];exact ⟨q1,h2,oq (s':=.mV [.agg [.i .i64 x,.i .i64 y,.sl 1 a hh,.sl 2 b l],.i .i64 (CS (lst Pr b l) key),.i .i64 (BO (lst Pr b l) key)]) ⟨⟨rfl,rfl,.inr ⟨rfl,rfl,fun _ _=>rfl⟩,.inr ⟨rfl,rfl,fun j hj=>(BD (yj.1 h1).1 j hj).symm⟩,trivial⟩,rfl,rfl,trivial⟩ hφ⟩
  ·exact h.elim
 ·exact h.elim
theorem arS:nG ah (nY W7) 185 aj6:=by
 refine rM (C:=C7 mD W7 uy ny) (aS _ _) (af5 _) (m:=600) (n:=800) (L:=L0) (fn:=mc) (by kernel_rfl) (by kernel_rfl) fun H w nV args φ hrep h=>?_
 have hn:mc.ntmps=41:=by kernel_rfl
 unfold aj6 at h;split at h
 ·rename_i x y s2 s3 u t
  split at h
  ·rename_i a hh b l key vv hs2 hs hu ht
   obtain ⟨h1,h2,h3,hφ⟩:=h;match args,hrep with
   |[v,u1,u2],⟨hv,r1,r2,_⟩=>
    obtain ⟨q1,q2⟩:=JH h1;obtain ⟨e1,e2⟩:=Yw h1 key;obtain ⟨w1,w2,w3⟩:=yj.1 h1;refine ⟨[.agg [.i .i64 x,.i .i64 y,.sl 1 a hh,.sl 2 b (mF (mJ (α:=Pr) l))],.i .i64 key,.i .i64 vv],⟨JG hs2 hs w1 hv,qW hu r1,qW ht r2,trivial⟩,?_⟩;have hll:(lst Pr b l).length=b:=vK b l;have hat:∀j (hj:j<b),nth (lst Pr b l) j=mJ (α:=Pr) l j:=fun j hj=>Pj hj
    have e:mD.toN (oM b l key)=pF (lst Pr b l) key:=rfl;have e1':mD.toN (mD.add .i64 (oM b l key) (ab 1))=pF (lst Pr b l) key+1:=by
     have:pF (lst Pr b l) key<=b:=by grind [JF,lst]
     rw[qG];show (aA.wrap ((pF (lst Pr b l) key:Int)+1)).toNat=_;grind [pI]
    have e1i:wR b l key=aj->mD.upTo (mD.add .i64 (oM b l key) (ab 1)) b=aj:=fun hb=>by
     have:=Pn h1 hb;rw[qG];show mD.upTo (aA.wrap ((pF (lst Pr b l) key:Int)+1)) b=aj;grind [pI,zk]
    have hup:mD.upTo (oM b l key) b=aj:=by
     grind [pF,lst,JF,zk,oM]
    rw[hn,arN mD W7 x y a b hh (mJ l) key vv,e1,e2,(q2 key).1,(q2 key).2];have fin (n':Nat) (g':Nat->List Sh) (hn':n'=len (vN (lst Pr b l) key)) (hg:∀j,j<n'->g' j=mF (nth (vN (lst Pr b l) key)) j) :
      up φ (.mV [.agg [.i .i64 x,.i .i64 y,.sl 1 a hh,.sl 2 n' g'],.i .i64 (CS (lst Pr b l) key),.i .i64 (BO (lst Pr b l) key)]):=
     oq (s':=.mV [.agg [.i .i64 x,.i .i64 y,.sl 1 a hh,.sl 2 (len (vN (lst Pr b l) key)) (mF (nth (vN (lst Pr b l) key)))],.i .i64 (CS (lst Pr b l) key),.i .i64 (BO (lst Pr b l) key)]) ⟨⟨rfl,rfl,.inr ⟨rfl,rfl,fun _ _=>rfl⟩,.inr ⟨rfl,hn',hg⟩,trivial⟩,rfl,rfl,trivial⟩ hφ
    have hdl:len (vN (lst Pr b l) key)=if tN (lst Pr b l) key=aj then b - 1 else b:=by
     show (vN (lst Pr b l) key).length=_;rw[ach w3,hll]
    refine ⟨q1,h2,q1,h2,fun hb=>?_,fun hb=>?_⟩
    ·have arT:=e1i hb
     have hlt:=Pn h1 hb;have hb':tN (lst Pr b l) key=aj:=hb;have rr:oI (EO (mD.toN (oM b l key)) (mD.zL b (mD.toN (mD.add .i64 (oM b l key) (ab 1))))) 16=aj:=by
      rw[e,e1',VN];exact BM h3 (by show pF (lst Pr b l) key+(b - (pF (lst Pr b l) key+1))<=b+1;omega)
     have last:up φ (.mV [.agg [.i .i64 x,.i .i64 y,.sl 1 a hh,.sl 2 (EO (mD.toN (oM b l key)) (mD.zL b (mD.toN (mD.add .i64 (oM b l key) (ab 1))))) (Yv (mF (mJ (α:=Pr) l)) (mD.toN (oM b l key)) fun (j:Nat)=>mF (mJ (α:=Pr) l) (mD.addN (mD.toN (mD.add .i64 (oM b l key) 1)) j))],.i .i64 (CS (lst Pr b l) key),.i .i64 (BO (lst Pr b l) key)]):=by
      have e2':mD.toN (mD.add .i64 (oM b l key) 1)=pF (lst Pr b l) key+1:=e1';rw[e1',e2',e,VN];refine fin _ _ (by rw[hdl,if_pos hb'];show pF (lst Pr b l) key+(b - (pF (lst Pr b l) key+1))=_;omega) fun j hj=>?_
      have hj:j<pF (lst Pr b l) key+(b - (pF (lst Pr b l) key+1)):=hj;obtain ⟨k1,_⟩:=Gp (wQ w3) hb';show mD.snoc _ _ _ j=prR (nth (vN (lst Pr b l) key) j);rw[ZQ hb',ajW k1 (by omega),tY];split
      ·rw[hat j (by omega)];rfl
      ·rw[hat (j+1) (by omega),qy]
       show prR (mJ l (pF (lst Pr b l) key+1+(j - pF (lst Pr b l) key)))=_;grind
     clear hφ fin hat;rw[hup,arT,rr];generalize mD.toN (oM b l key)=n1 at *;generalize mD.zL b (mD.toN (mD.add .i64 (oM b l key) (ab 1)))=n2 at *;repeat' (first|exact rfl|exact trivial|exact last|refine ba ?_ ?_)
    ·have hb':tN (lst Pr b l) key=ag:=hb
     exact fin b _ (by simp_all) fun j hj=>by
      show prR (mJ l j)=prR (nth (vN (lst Pr b l) key) j);simp_all [ZP]
  ·exact h.elim
 ·exact h.elim
end Go.Proofs
namespace Go.Sx
section
variable{P:Program}{C:Ctx}{K:Kx}
theorem ahq{g:Nat}{td:List It}{c:Core}{stk:List Fr}{R:Hp->Prop}{φ:Sh->Prop}(tm':List SV)(h:∀(H:Mem) (E:Env) (vs:List Value),mW H E c.tm vs->mW H E tm' vs)(hgo:nX P C K g td {c with tm:=tm'} stk R φ):nX P C K g td c stk R φ:=by
 intro H E w a items ms cs fn hfn st hi hs hx;exact hgo H E w a items ms cs fn hfn ⟨h H E _ st.den,st.hp,st.oQ,st.free,st.gl,st.defers⟩ hi hs hx
theorem aci{H:Mem}{E:Env}{k:IntKind}{n:Int}:∀(i:Nat) {l:List SV} {vs:List Value},l[i]?=ae (.sym k n)->mW H E l vs->mW H E (l.set i (.int k n)) vs
 |_,[],_,h,_=>by simp at h |_,_::_,[],_,h=>h.elim |0,x::l,v::vs,h,⟨h1,h2⟩=>by
  simp at h;subst h;exact ⟨h1,h2⟩
 |i+1,x::l,v::vs,h,⟨h1,h2⟩=>⟨h1,aci i (by simpa using h) h2⟩
end
end Go.Sx
namespace Go.Pl
open Go Go.Sx
def CU(a b:Int):Int:=aA.wrap (a+b)
def EP(h:Nat->List Sh):Nat->List Sh:=fun j=>h (1+j)
def H7(a:Nat):Nat:=a - 1
def Ld(a:Nat):Int:=if a=0 then 2 else 3
def H8(a:Nat)(o:Nat->Int):Int:=if a=0 then 0 else o 0
end Go.Pl
namespace Go.Proofs
open Go Go.Sx Go.Pl
def F66:List Sh->Tree Sh
 |[t]=>match nR t with
  |some op=>.leaf (.i .i64 (CP op)) |none=>.fail
 |_=>.fail
def F67:List Sh->Tree Sh
 |[t]=>match nR t with
  |some op=>.leaf (.b (keyed op)) |none=>.fail
 |_=>.fail
def F68:List Sh->Tree Sh
 |[t]=>match nR t with
  |some op=>.leaf (.b (valued op)) |none=>.fail
 |_=>.fail
def F69:List Sh->Tree Sh
 |[t,u,v]=>match nR t,nR u,nR v with
  |some k,ae x,ae y=>.leaf (.b (yR k x y)) |_,_,_=>.fail
 |_=>.fail
def F94:List Sh->Tree Sh
 |[.agg [.i .i64 x,.i .i64 y,s2,s3],u,t]=>match sD 1 s2,sD 2 s3,nR u,nR t with
  |some (a,h),ae (b,l),ae _,ae _=>.leaf (.mV [.agg [.i .i64 x,.i .i64 y,.sl 1 a h,.sl 2 b l],.i .i64 3,.i .i64 y]) |_,_,_,_=>.fail
 |_=>.fail
def F95:List Sh->Tree Sh
 |[.agg [.i .i64 x,.i .i64 _,s2,s3],u,t]=>match sD 1 s2,sD 2 s3,nR u,nR t with
  |some (a,h),ae (b,l),ae _,ae v=>.leaf (.mV [.agg [.i .i64 x,.i .i64 v,.sl 1 a h,.sl 2 b l],.i .i64 1,.i .i64 0]) |_,_,_,_=>.fail
 |_=>.fail
def F96:List Sh->Tree Sh
 |[.agg [.i .i64 x,.i .i64 y,s2,s3],u,t]=>match sD 1 s2,sD 2 s3,nR u,nR t with
  |some (a,h),ae (b,l),ae _,ae v=>.leaf (.mV [.agg [.i .i64 x,.i .i64 (CU y v),.sl 1 a h,.sl 2 b l],.i .i64 1,.i .i64 0]) |_,_,_,_=>.fail
 |_=>.fail
def F97:List Sh->Tree Sh
 |[.agg [.i .i64 x,.i .i64 y,s2,s3],u,t]=>match sD 1 s2,sD 2 s3,nR u,nR t with
  |some (a,h),ae (b,l),ae _,ae v=>.need (oI (a+1) 8) (.leaf (.mV [.agg [.i .i64 x,.i .i64 y,.sl 1 (a+1) (wG a h [.i .i64 v]),.sl 2 b l],.i .i64 1,.i .i64 0])) |_,_,_,_=>.fail
 |_=>.fail
def F99:List Sh->Tree Sh
 |[.agg [.i .i64 x,.i .i64 y,s2,s3],u,t]=>match sD 1 s2,sD 2 s3,nR u,nR t with
  |some (a,h),ae (b,l),ae _,ae _=>.need (okB Int a h) (.leaf (.mV [.agg [.i .i64 x,.i .i64 y,.sl 1 (H7 a) (EP h),.sl 2 b l],.i .i64 (Ld a),.i .i64 (H8 a (mJ h))])) |_,_,_,_=>.fail
 |_=>.fail
def xg:Nat->Option (List Sh->Tree Sh)
 |102=>ae F66 |151=>ae F67 |152=>ae F68 |153=>ae F69 |173=>ae F94 |174=>ae F95 |175=>ae F96 |176=>ae F97 |178=>ae F99 |179=>ae aj3 |183=>ae aj2 |185=>ae aj6 |_=>aq
def af6:List Nat->List Nat->Bool
 |[],[]=>aj |x::l,y::r=>bA x y&&af6 l r |_,_=>ag
def aj8(f:Nat)(ps:List (List Nat))(g:Nat)(td:List It):Bool:=bA g f&&match td with
 | .code r::_=>ps.any (af6 r) |_=>ag
def acj:Nat->List It->Bool:=aj8 120 [[0,1,1,1,1]]
def L42(x y:Int)(a b:Nat)(h l:Nat->List Sh)(op k v:Int):Core:={tm:=vZ 88 [(1,.sym .i64 op),(2,.sym .i64 k),(3,.sym .i64 v),(4,.ptr 0 0),(8,.ptr 1 0)],hp:=[(0,.box [.sym .i64 x,.sym .i64 y,.sh (.sl 1 a h),.sh (.sl 2 b l)] 211),(1,.box [.int .i64 0,.int .i64 0,.nD,.nD] 211)],nx:=2,lim:=L0,tc:=[]}
def Le(x y:Int)(a b:Nat)(h l:Nat->List Sh)(n:Int)(k v:Int):Core:={tm:=(L42 x y a b h l n k v).tm.set 1 (.int .i64 n),hp:=(L42 x y a b h l n k v).hp,nx:=2,lim:=L0,tc:=[]}
def Eh:List It:=[aH [0,1,1,1,1],aH [1,1,1,1,1]]
noncomputable def H9:Nat->Option (List Sh->Tree Sh)
 |119=>ae F33 |116=>ae F35 |95=>ae F41 |77=>ae F49 |96=>ae F50 |121=>ae F54 |117=>ae F56 |_=>aq
def SL:List It:=[aH [0,1,0,1,1,1],aW 0,aH [1,1,1,1]]
def af7:List It:=aH [0,0,1,0,1,1,1]::SL
def arU(k:Nat)(gg:Nat->List Sh):Bool->SV
 |true=>.nD |false=>.sh (.sl 4 k gg)
def Po(n:Nat)(o:Nat->Oj)(i:Int)(k:Nat)(gg:Nat->List Sh)(v:Bool):Core:={tm:=vZ 38 [(2,.ptr 0 0),(5,.ptr 1 0),(17,.sh (.sl 2 n (mF o))),(18,.sym .i64 (n:Int)),(19,.sym .i64 i)],hp:=[(0,.box [.nD] 100),(1,.box [arU k gg v] 98)],nx:=2,lim:=L0,tc:=[]}
theorem a25(A:Prim)(W:Wd)(n:Nat)(o:Nat->Oj)(i':Int)(k':Nat)(xW:Nat->List Sh):nZ (C7 A W H9 ny) oG 300 400 75 [.code []] (mM 38 [.sl 2 n (mF o)] L0) [] [⟨75,SL,Po n o i' k' xW aj,[]⟩]=am (okB Oj n (mF o)) (am (Hz n (mJ (mF o))) (ak (JA n) (ai (ay (aQ [aN [ao 0 0 fun _=>[]],aC 6 329]))) (ak (Ef n (mJ (mF o))) (ai (aK 0 [av (ao 2 n (mF o)) (ao 2 n (mF o)),ac (A.nH n) (ab n),ac (ab 0) i'])) (ai (ay (aQ [aN [ao 0 0 fun _=>[]],Sh.pV 109 (Sh.pt [az .i64 (ab (BN n (mJ (mF o)))),aC 7 329])])))))):=by kernel_rfl
theorem b25(A:Prim)(W:Wd)(n:Nat)(o:Nat->Oj)(i i':Int)(k k':Nat)(gg xW:Nat->List Sh):nZ (C7 A W H9 ny) oG 300 400 75 af7 (Po n o i k gg ag) [] [⟨75,SL,Po n o i' k' xW ag,[]⟩]=ak (A.lt i (ab n)) (am (A.inB i n) (am (qg (o (A.toN i)).kind) (ak (uw (o (A.toN i)).kind (o (A.toN i)).init) (ai (ay (aQ [aN [ao 0 0 fun _=>[]],aC 7 329]))) (am (oI k.succ 64) (ai (aK 0 [av (ao 2 n (mF o)) (ao 2 n (mF o)),ac (ab n) (ab n),ac (A.add .i64 i (ab 1)) i',av (ao 4 k.succ (wG k gg [az .i64 (o (A.toN i)).kind,az .i64 (o (A.toN i)).init,ao 1 0 noI,ao 2 0 noP])) (ao 4 k' xW)])))))) (ai (ay (aQ [aN [ao 4 k gg],cT aI]))):=by kernel_rfl
theorem c25(A:Prim)(W:Wd)(n:Nat)(o:Nat->Oj)(i i':Int)(k k':Nat)(gg xW:Nat->List Sh):nZ (C7 A W H9 ny) oG 300 400 75 af7 (Po n o i k gg aj) [] [⟨75,SL,Po n o i' k' xW ag,[]⟩]=ak (A.lt i (ab n)) (am (A.inB i n) (am (qg (o (A.toN i)).kind) (ak (uw (o (A.toN i)).kind (o (A.toN i)).init) (ai (ay (aQ [aN [ao 0 0 fun _=>[]],aC 7 329]))) (am (oI 1 64) (ai (aK 0 [av (ao 2 n (mF o)) (ao 2 n (mF o)),ac (ab n) (ab n),ac (A.add .i64 i (ab 1)) i',av (ao 4 1 (wG 0 (fun _=>[]) [az .i64 (o (A.toN i)).kind,az .i64 (o (A.toN i)).init,ao 1 0 noI,ao 2 0 noP])) (ao 4 k' xW)])))))) (ai (ay (aQ [aN [ao 0 0 fun _=>[]],cT aI]))):=by kernel_rfl
theorem a94(A:Prim)(W:Wd)(x y:Int)(a b:Nat)(h l:Nat->List Sh)(k v:Int):nZ (C7 A W qN ny) oG 300 400 173 [.code []] (mM 12 [.agg [.i .i64 x,.i .i64 y,.sl 1 a h,.sl 2 b l],.i .i64 k,.i .i64 v] L0) [] []=ai (ay (aQ [aN [az .i64 x,az .i64 y,ao 1 a h,ao 2 b l],az .i64 (ab 3),az .i64 y])):=by kernel_rfl
theorem a95(A:Prim)(W:Wd)(x y:Int)(a b:Nat)(h l:Nat->List Sh)(k v:Int):nZ (C7 A W qN ny) oG 300 400 174 [.code []] (mM 12 [.agg [.i .i64 x,.i .i64 y,.sl 1 a h,.sl 2 b l],.i .i64 k,.i .i64 v] L0) [] []=ai (ay (aQ [aN [az .i64 x,az .i64 v,ao 1 a h,ao 2 b l],az .i64 (ab 1),az .i64 (ab 0)])):=by kernel_rfl
theorem a96(A:Prim)(W:Wd)(x y:Int)(a b:Nat)(h l:Nat->List Sh)(k v:Int):nZ (C7 A W qN ny) oG 300 400 175 [.code []] (mM 15 [.agg [.i .i64 x,.i .i64 y,.sl 1 a h,.sl 2 b l],.i .i64 k,.i .i64 v] L0) [] []=ai (ay (aQ [aN [az .i64 x,az .i64 (A.add .i64 y v),ao 1 a h,ao 2 b l],az .i64 (ab 1),az .i64 (ab 0)])):=by kernel_rfl
theorem a97(A:Prim)(W:Wd)(x y:Int)(a b:Nat)(h l:Nat->List Sh)(k v:Int):nZ (C7 A W qN ny) oG 300 400 176 [.code []] (mM 17 [.agg [.i .i64 x,.i .i64 y,.sl 1 a h,.sl 2 b l],.i .i64 k,.i .i64 v] L0) [] []=ak (A.Ux a 0) ((ai (ay (aQ [aN [az .i64 x,az .i64 y,cJ 3 1 1 (nM [[az .i64 v]]),ao 2 b l],az .i64 (ab 1),az .i64 (ab 0)]))).both (am (A.room (A.addN 0 a) 8) (am (A.room (A.addN (A.addN 0 a) 1) 8) (ai (ay (aQ [aN [az .i64 x,az .i64 y,cJ 3 1 (A.addN (A.addN 0 a) 1) (A.snoc (A.snoc (nM []) 0 h) (A.addN 0 a) (nM [[az .i64 v]])),ao 2 b l],az .i64 (ab 1),az .i64 (ab 0)])))))) (am (A.room (A.addN 0 a) 8) (am (A.room (A.addN (A.addN 0 a) 1) 8) (ai (ay (aQ [aN [az .i64 x,az .i64 y,cJ 3 1 (A.addN (A.addN 0 a) 1) (A.snoc (A.snoc (nM []) 0 h) (A.addN 0 a) (nM [[az .i64 v]])),ao 2 b l],az .i64 (ab 1),az .i64 (ab 0)]))))):=by kernel_rfl
theorem a99(A:Prim)(W:Wd)(x y:Int)(a b:Nat)(o:Nat->Int)(l:Nat->List Sh)(k v:Int):nZ (C7 A W qN ny) oG 300 400 178 [.code []] (mM 25 [.agg [.i .i64 x,.i .i64 y,.sl 1 a (mF o),.sl 2 b l],.i .i64 k,.i .i64 v] L0) [] []=ak (A.eq (A.nH a) (ab 0)) (ai (ay (aQ [aN [az .i64 x,az .i64 y,ao 1 a (mF o),ao 2 b l],az .i64 (ab 2),az .i64 (ab 0)]))) (am (A.inB (ab 0) a) (am (A.upTo (ab 1) a) (ai (ay (aQ [aN [az .i64 x,az .i64 y,ao 1 (A.zL a 1) fun (j:Nat)=>mF o (A.addN 1 j),ao 2 b l],az .i64 (ab 3),az .i64 (o 0)]))))):=by kernel_rfl
theorem a42(A:Prim)(W:Wd)(x y:Int)(a b:Nat)(h l:Nat->List Sh)(op k v:Int):aom (C7 A W xg ny) acj 300 400 120 [.code []] (mM 88 [.agg [.i .i64 x,.i .i64 y,.sl 1 a h,.sl 2 b l],.i .i64 op,.i .i64 k,.i .i64 v] L0) [] [⟨120,Eh,L42 x y a b h l op k v,[]⟩]=ak (A.eq x (ab 0)) (ai (ay (aQ [aN [az .i64 (ab 0),az .i64 (ab 0),ao 0 0 fun _=>[],ao 0 0 fun _=>[]],az .i64 (ab 0),az .i64 (ab 0),aC 8 329]))) (ak (A.nt (A.eq (CP op) x)) (ai (ay (aQ [aN [az .i64 (ab 0),az .i64 (ab 0),ao 0 0 fun _=>[],ao 0 0 fun _=>[]],az .i64 (ab 0),az .i64 (ab 0),aC 8 329]))) (ak (A.nt (A.eq k (ab 0))) (ak (A.nt (keyed op)) (ai (ay (aQ [aN [az .i64 (ab 0),az .i64 (ab 0),ao 0 0 fun _=>[],ao 0 0 fun _=>[]],az .i64 (ab 0),az .i64 (ab 0),aC 15 329]))) (ak (A.lt k (ab 0)) (ai (ay (aQ [aN [az .i64 (ab 0),az .i64 (ab 0),ao 0 0 fun _=>[],ao 0 0 fun _=>[]],az .i64 (ab 0),az .i64 (ab 0),aC 15 329]))) (ak (A.lt (ab 1000) k) (ai (ay (aQ [aN [az .i64 (ab 0),az .i64 (ab 0),ao 0 0 fun _=>[],ao 0 0 fun _=>[]],az .i64 (ab 0),az .i64 (ab 0),aC 15 329]))) (ak (A.nt (A.eq v (ab 0))) (ak (A.nt (valued op)) (ai (ay (aQ [aN [az .i64 (ab 0),az .i64 (ab 0),ao 0 0 fun _=>[],ao 0 0 fun _=>[]],az .i64 (ab 0),az .i64 (ab 0),aC 15 329]))) (ak (A.lt v (bI 999999999)) (ai (ay (aQ [aN [az .i64 (ab 0),az .i64 (ab 0),ao 0 0 fun _=>[],ao 0 0 fun _=>[]],az .i64 (ab 0),az .i64 (ab 0),aC 15 329]))) (ak (A.lt (ab 1000000000) v) (ai (ay (aQ [aN [az .i64 (ab 0),az .i64 (ab 0),ao 0 0 fun _=>[],ao 0 0 fun _=>[]],az .i64 (ab 0),az .i64 (ab 0),aC 15 329]))) (ak (A.eq op (ab 3)) (ak (yR x (ab 0) (A.add .i64 y v)) (ai (ay (aQ [aN [az .i64 (ab 0),az .i64 (ab 0),ao 0 0 fun _=>[],ao 0 0 fun _=>[]],az .i64 (ab 0),az .i64 (ab 0),aC 15 329]))) (ai (aK 0 [ac op op,ac k k,ac v v,ac x x,ac y y,av (ao 1 a h) (ao 1 a h),av (ao 2 b l) (ao 2 b l),ac (ab 0) (ab 0),ac (ab 0) (ab 0)]))) (ai (aK 0 [ac op op,ac k k,ac v v,ac x x,ac y y,av (ao 1 a h) (ao 1 a h),av (ao 2 b l) (ao 2 b l),ac (ab 0) (ab 0),ac (ab 0) (ab 0)])))))) (ak (A.lt v (bI 999999999)) (ai (ay (aQ [aN [az .i64 (ab 0),az .i64 (ab 0),ao 0 0 fun _=>[],ao 0 0 fun _=>[]],az .i64 (ab 0),az .i64 (ab 0),aC 15 329]))) (ak (A.lt (ab 1000000000) v) (ai (ay (aQ [aN [az .i64 (ab 0),az .i64 (ab 0),ao 0 0 fun _=>[],ao 0 0 fun _=>[]],az .i64 (ab 0),az .i64 (ab 0),aC 15 329]))) (ak (A.eq op (ab 3)) (ak (yR x (ab 0) (A.add .i64 y v)) (ai (ay (aQ [aN [az .i64 (ab 0),az .i64 (ab 0),ao 0 0 fun _=>[],ao 0 0 fun _=>[]],az .i64 (ab 0),az .i64 (ab 0),aC 15 329]))) (ai (aK 0 [ac op op,ac k k,ac v v,ac x x,ac y y,av (ao 1 a h) (ao 1 a h),av (ao 2 b l) (ao 2 b l),ac (ab 0) (ab 0),ac (ab 0) (ab 0)]))) (ai (aK 0 [ac op op,ac k k,ac v v,ac x x,ac y y,av (ao 1 a h) (ao 1 a h),av (ao 2 b l) (ao 2 b l),ac (ab 0) (ab 0),ac (ab 0) (ab 0)]))))))))) (ak (A.lt k (ab 0)) (ai (ay (aQ [aN [az .i64 (ab 0),az .i64 (ab 0),ao 0 0 fun _=>[],ao 0 0 fun _=>[]],az .i64 (ab 0),az .i64 (ab 0),aC 15 329]))) (ak (A.lt (ab 1000) k) (ai (ay (aQ [aN [az .i64 (ab 0),az .i64 (ab 0),ao 0 0 fun _=>[],ao 0 0 fun _=>[]],az .i64 (ab 0),az .i64 (ab 0),aC 15 329]))) (ak (A.nt (A.eq v (ab 0))) (ak (A.nt (valued op)) (ai (ay (aQ [aN [az .i64 (ab 0),az .i64 (ab 0),ao 0 0 fun _=>[],ao 0 0 fun _=>[]],az .i64 (ab 0),az .i64 (ab 0),aC 15 329]))) (ak (A.lt v (bI 999999999)) (ai (ay (aQ [aN [az .i64 (ab 0),az .i64 (ab 0),ao 0 0 fun _=>[],ao 0 0 fun _=>[]],az .i64 (ab 0),az .i64 (ab 0),aC 15 329]))) (ak (A.lt (ab 1000000000) v) (ai (ay (aQ [aN [az .i64 (ab 0),az .i64 (ab 0),ao 0 0 fun _=>[],ao 0 0 fun _=>[]],az .i64 (ab 0),az .i64 (ab 0),aC 15 329]))) (ak (A.eq op (ab 3)) (ak (yR x (ab 0) (A.add .i64 y v)) (ai (ay (aQ [aN [az .i64 (ab 0),az .i64 (ab 0),ao 0 0 fun _=>[],ao 0 0 fun _=>[]],az .i64 (ab 0),az .i64 (ab 0),aC 15 329]))) (ai (aK 0 [ac op op,ac k k,ac v v,ac x x,ac y y,av (ao 1 a h) (ao 1 a h),av (ao 2 b l) (ao 2 b l),ac (ab 0) (ab 0),ac (ab 0) (ab 0)]))) (ai (aK 0 [ac op op,ac k k,ac v v,ac x x,ac y y,av (ao 1 a h) (ao 1 a h),av (ao 2 b l) (ao 2 b l),ac (ab 0) (ab 0),ac (ab 0) (ab 0)])))))) (ak (A.lt v (bI 999999999)) (ai (ay (aQ [aN [az .i64 (ab 0),az .i64 (ab 0),ao 0 0 fun _=>[],ao 0 0 fun _=>[]],az .i64 (ab 0),az .i64 (ab 0),aC 15 329]))) (ak (A.lt (ab 1000000000) v) (ai (ay (aQ [aN [az .i64 (ab 0),az .i64 (ab 0),ao 0 0 fun _=>[],ao 0 0 fun _=>[]],az .i64 (ab 0),az .i64 (ab 0),aC 15 329]))) (ak (A.eq op (ab 3)) (ak (yR x (ab 0) (A.add .i64 y v)) (ai (ay (aQ [aN [az .i64 (ab 0),az .i64 (ab 0),ao 0 0 fun _=>[],ao 0 0 fun _=>[]],az .i64 (ab 0),az .i64 (ab 0),aC 15 329]))) (ai (aK 0 [ac op op,ac k k,ac v v,ac x x,ac y y,av (ao 1 a h) (ao 1 a h),av (ao 2 b l) (ao 2 b l),ac (ab 0) (ab 0),ac (ab 0) (ab 0)]))) (ai (aK 0 [ac op op,ac k k,ac v v,ac x x,ac y y,av (ao 1 a h) (ao 1 a h),av (ao 2 b l) (ao 2 b l),ac (ab 0) (ab 0),ac (ab 0) (ab 0)])))))))))):=by kernel_rfl
noncomputable def QN(x y:Int)(a b:Nat)(h l:Nat->List Sh)(k v:Int):List oC:=[ac k k,ac v v,ac (ab 3) (ab 3),ac y y,ac x x,ac y y,av (ao 1 a h) (ao 1 a h),av (ao 2 b l) (ao 2 b l),ac x x,ac y y,av (ao 1 a h) (ao 1 a h),av (ao 2 b l) (ao 2 b l)]
theorem apt(A:Prim)(W:Wd)(x y:Int)(a b:Nat)(h l:Nat->List Sh)(k v:Int):nZ (C7 A W xg ny) oG 300 400 120 Eh (Le x y a b h l 1 k v) [] []=aw (QN x y a b h l k v) (aw (QN x y a b h l k v) (aw (QN x y a b h l k v) (ai (ay (aQ [aN [az .i64 x,az .i64 y,ao 1 a h,ao 2 b l],az .i64 (ab 3),az .i64 y,cT aI]))))):=by kernel_rfl
noncomputable def QO(x y:Int)(a b:Nat)(h l:Nat->List Sh)(k v:Int):List oC:=[ac k k,ac v v,ac (ab 1) (ab 1),ac (ab 0) (ab 0),ac x x,ac y y,av (ao 1 a h) (ao 1 a h),av (ao 2 b l) (ao 2 b l),ac x x,ac v v,av (ao 1 a h) (ao 1 a h),av (ao 2 b l) (ao 2 b l)]
theorem apu(A:Prim)(W:Wd)(x y:Int)(a b:Nat)(h l:Nat->List Sh)(k v:Int):nZ (C7 A W xg ny) oG 300 400 120 Eh (Le x y a b h l 2 k v) [] []=aw (QO x y a b h l k v) (aw (QO x y a b h l k v) (aw (QO x y a b h l k v) (ai (ay (aQ [aN [az .i64 x,az .i64 v,ao 1 a h,ao 2 b l],az .i64 (ab 1),az .i64 (ab 0),cT aI]))))):=by kernel_rfl
noncomputable def QS(x y:Int)(a b:Nat)(h l:Nat->List Sh)(k v:Int):List oC:=[ac k k,ac v v,ac (ab 1) (ab 1),ac (ab 0) (ab 0),ac x x,ac y y,av (ao 1 a h) (ao 1 a h),av (ao 2 b l) (ao 2 b l),ac x x,ac (CU y v) (CU y v),av (ao 1 a h) (ao 1 a h),av (ao 2 b l) (ao 2 b l)]
theorem apv(A:Prim)(W:Wd)(x y:Int)(a b:Nat)(h l:Nat->List Sh)(k v:Int):nZ (C7 A W xg ny) oG 300 400 120 Eh (Le x y a b h l 3 k v) [] []=aw (QS x y a b h l k v) (aw (QS x y a b h l k v) (aw (QS x y a b h l k v) (ai (ay (aQ [aN [az .i64 x,az .i64 (CU y v),ao 1 a h,ao 2 b l],az .i64 (ab 1),az .i64 (ab 0),cT aI]))))):=by kernel_rfl
noncomputable def QT(x y:Int)(a b:Nat)(h l:Nat->List Sh)(k v:Int):List oC:=[ac k k,ac v v,ac (ab 3) (ab 3),ac y y,ac x x,ac y y,av (ao 1 a h) (ao 1 a h),av (ao 2 b l) (ao 2 b l),ac x x,ac y y,av (ao 1 a h) (ao 1 a h),av (ao 2 b l) (ao 2 b l)]
theorem apw(A:Prim)(W:Wd)(x y:Int)(a b:Nat)(h l:Nat->List Sh)(k v:Int):nZ (C7 A W xg ny) oG 300 400 120 Eh (Le x y a b h l 4 k v) [] []=aw (QT x y a b h l k v) (aw (QT x y a b h l k v) (aw (QT x y a b h l k v) (ai (ay (aQ [aN [az .i64 x,az .i64 y,ao 1 a h,ao 2 b l],az .i64 (ab 3),az .i64 y,cT aI]))))):=by kernel_rfl
noncomputable def QU(x y:Int)(a b:Nat)(h l:Nat->List Sh)(k v:Int):List oC:=[ac k k,ac v v,ac (ab 1) (ab 1),ac (ab 0) (ab 0),ac x x,ac y y,av (ao 1 a h) (ao 1 a h),av (ao 2 b l) (ao 2 b l),ac x x,ac y y,av (ao 1 a.succ (wG a h [az .i64 v])) (ao 1 a.succ (wG a h [az .i64 v])),av (ao 2 b l) (ao 2 b l)]
theorem apx(A:Prim)(W:Wd)(x y:Int)(a b:Nat)(h l:Nat->List Sh)(k v:Int):nZ (C7 A W xg ny) oG 300 400 120 Eh (Le x y a b h l 5 k v) [] []=am (oI a.succ 8) (am (oI a.succ 8) (aw (QU x y a b h l k v) (am (oI a.succ 8) (aw (QU x y a b h l k v) (am (oI a.succ 8) (aw (QU x y a b h l k v) (ai (ay (aQ [aN [az .i64 x,az .i64 y,ao 1 a.succ (wG a h [az .i64 v]),ao 2 b l],az .i64 (ab 1),az .i64 (ab 0),cT aI]))))))))):=by kernel_rfl
noncomputable def QV(x y:Int)(a b:Nat)(h l:Nat->List Sh)(k v:Int):List oC:=[ac k k,ac v v,ac (Ld a) (Ld a),ac (H8 a (mJ h)) (H8 a (mJ h)),ac x x,ac y y,av (ao 1 a h) (ao 1 a h),av (ao 2 b l) (ao 2 b l),ac x x,ac y y,av (ao 1 (H7 a) (EP h)) (ao 1 (H7 a) (EP h)),av (ao 2 b l) (ao 2 b l)]
theorem apy(A:Prim)(W:Wd)(x y:Int)(a b:Nat)(h l:Nat->List Sh)(k v:Int):nZ (C7 A W xg ny) oG 300 400 120 Eh (Le x y a b h l 6 k v) [] []=am (okB Int a h) (am (okB Int a h) (aw (QV x y a b h l k v) (am (okB Int a h) (aw (QV x y a b h l k v) (am (okB Int a h) (aw (QV x y a b h l k v) (ai (ay (aQ [aN [az .i64 x,az .i64 y,ao 1 (H7 a) (EP h),ao 2 b l],az .i64 (Ld a),az .i64 (H8 a (mJ h)),cT aI]))))))))):=by kernel_rfl
noncomputable def QW(x y:Int)(a b:Nat)(h:Nat->List Sh)(p:Nat->Pr)(k v:Int):List oC:=[ac k k,ac v v,ac (ab 1) (ab 1),ac (ab 0) (ab 0),ac x x,ac y y,av (ao 1 a h) (ao 1 a h),av (ao 2 b (mF p)) (ao 2 b (mF p)),ac x x,ac y y,av (ao 1 a h) (ao 1 a h),av (ao 2 (len (uI (lst Pr b (mF p)) k v)) (mF (nth (uI (lst Pr b (mF p)) k v)))) (ao 2 (len (uI (lst Pr b (mF p)) k v)) (mF (nth (uI (lst Pr b (mF p)) k v))))]
theorem apz(A:Prim)(W:Wd)(x y:Int)(a b:Nat)(h:Nat->List Sh)(p:Nat->Pr)(k v:Int):nZ (C7 A W xg ny) oG 300 400 120 Eh (Le x y a b h (mF p) 7 k v) [] []=am (xK b (mF p)) (am (sO k) (am (oI b.succ 16) (am (xK b (mF p)) (am (sO k) (am (oI b.succ 16) (aw (QW x y a b h p k v) (am (xK b (mF p)) (am (sO k) (am (oI b.succ 16) (aw (QW x y a b h p k v) (am (xK b (mF p)) (am (sO k) (am (oI b.succ 16) (aw (QW x y a b h p k v) (ai (ay (aQ [aN [az .i64 x,az .i64 y,ao 1 a h,ao 2 (len (uI (lst Pr b (mF p)) k v)) (mF (nth (uI (lst Pr b (mF p)) k v)))],az .i64 (ab 1),az .i64 (ab 0),cT aI]))))))))))))))))):=by kernel_rfl
noncomputable def QX(x y:Int)(a b:Nat)(h:Nat->List Sh)(p:Nat->Pr)(k v:Int):List oC:=[ac k k,ac v v,ac (CS (lst Pr b (mF p)) k) (CS (lst Pr b (mF p)) k),ac (BO (lst Pr b (mF p)) k) (BO (lst Pr b (mF p)) k),ac x x,ac y y,av (ao 1 a h) (ao 1 a h),av (ao 2 b (mF p)) (ao 2 b (mF p)),ac x x,ac y y,av (ao 1 a h) (ao 1 a h),av (ao 2 b (mF p)) (ao 2 b (mF p))]
theorem apA(A:Prim)(W:Wd)(x y:Int)(a b:Nat)(h:Nat->List Sh)(p:Nat->Pr)(k v:Int):nZ (C7 A W xg ny) oG 300 400 120 Eh (Le x y a b h (mF p) 8 k v) [] []=am (xK b (mF p)) (am (sO k) (am (xK b (mF p)) (am (sO k) (aw (QX x y a b h p k v) (am (xK b (mF p)) (am (sO k) (aw (QX x y a b h p k v) (am (xK b (mF p)) (am (sO k) (aw (QX x y a b h p k v) (ai (ay (aQ [aN [az .i64 x,az .i64 y,ao 1 a h,ao 2 b (mF p)],az .i64 (CS (lst Pr b (mF p)) k),az .i64 (BO (lst Pr b (mF p)) k),cT aI]))))))))))))):=by kernel_rfl
noncomputable def QY(x y:Int)(a b:Nat)(h:Nat->List Sh)(p:Nat->Pr)(k v:Int):List oC:=[ac k k,ac v v,ac (CS (lst Pr b (mF p)) k) (CS (lst Pr b (mF p)) k),ac (BO (lst Pr b (mF p)) k) (BO (lst Pr b (mF p)) k),ac x x,ac y y,av (ao 1 a h) (ao 1 a h),av (ao 2 b (mF p)) (ao 2 b (mF p)),ac x x,ac y y,av (ao 1 a h) (ao 1 a h),av (ao 2 (len (vN (lst Pr b (mF p)) k)) (mF (nth (vN (lst Pr b (mF p)) k)))) (ao 2 (len (vN (lst Pr b (mF p)) k)) (mF (nth (vN (lst Pr b (mF p)) k))))]
theorem apB(A:Prim)(W:Wd)(x y:Int)(a b:Nat)(h:Nat->List Sh)(p:Nat->Pr)(k v:Int):nZ (C7 A W xg ny) oG 300 400 120 Eh (Le x y a b h (mF p) 9 k v) [] []=am (xK b (mF p)) (am (sO k) (am (oI b.succ 16) (am (xK b (mF p)) (am (sO k) (am (oI b.succ 16) (aw (QY x y a b h p k v) (am (xK b (mF p)) (am (sO k) (am (oI b.succ 16) (aw (QY x y a b h p k v) (am (xK b (mF p)) (am (sO k) (am (oI b.succ 16) (aw (QY x y a b h p k v) (ai (ay (aQ [aN [az .i64 x,az .i64 y,ao 1 a h,ao 2 (len (vN (lst Pr b (mF p)) k)) (mF (nth (vN (lst Pr b (mF p)) k)))],az .i64 (CS (lst Pr b (mF p)) k),az .i64 (BO (lst Pr b (mF p)) k),cT aI]))))))))))))))))):=by kernel_rfl
end Go.Proofs
namespace Go.Pl
open Go Go.Sx
def xk(x op:Int):Bool:=decide (x=0) || !decide (CP op=x)
def yt(x y op k v:Int):Bool:=
 (!decide (k=0) && !keyed op)||decide (k<0)||decide (1000<k)||(!decide (v=0) && !valued op)||decide (v < -1000000000)||decide (1000000000<v)||(decide (op=3)&&yR x 0 (CU y v))
end Go.Pl
namespace Go.Proofs
open Go Go.Sx Go.Pl
theorem O66:nG ah (nY W7) 102 F66:=by
 refine rM (C:=C7 mD W7 qN ny) (aS _ _) (CQ _) (m:=300) (n:=400) (L:=L0) (fn:=fb) (by kernel_rfl) (by kernel_rfl) fun H w nV args φ hrep h=>?_
 have hn:fb.ntmps=17:=by kernel_rfl
 unfold F66 at h;split at h
 ·rename_i t
  split at h
  ·rename_i op ht
   match args,hrep with
   |[v],⟨hv,_⟩=>
    refine ⟨[.i .i64 op],⟨qW ht hv,trivial⟩,?_⟩;rw[hn,a66 mD W7 op];have key (n:Int) (e:CP op=n):up φ (.i .i64 n):=oq (s':=.i .i64 (CP op)) (by rw[e];rfl) h;have q1:ab 1=1:=rfl;have q2:ab 2=2:=rfl;have q3:ab 3=3:=rfl;have q4:ab 4=4:=rfl;have q5:ab 5=5:=rfl;have q6:ab 6=6:=rfl;have q7:ab 7=7:=rfl;have q8:ab 8=8:=rfl;have q9:ab 9=9:=rfl;have q0:ab 0=0:=rfl;simp only[nC,q0,q1,q2,q3,q4,q5,q6,q7,q8,q9];(refine ⟨fun _=>key _ ?_,fun _=>⟨fun _=>key _ ?_,fun _=>⟨fun _=>key _ ?_,fun _=>⟨fun _=>key _ ?_,fun _=>⟨fun _=>key _ ?_,fun _=>⟨fun _=>key _ ?_,fun _=>⟨fun _=>key _ ?_,fun _=>⟨fun _=>key _ ?_,fun _=>⟨fun _=>key _ ?_,fun _=>key _ ?_⟩⟩⟩⟩⟩⟩⟩⟩⟩)<;>simp_all [CP]
  ·exact h.elim
 ·exact h.elim
theorem O67:nG ah (nY W7) 151 F67:=by
 refine rM (C:=C7 mD W7 qN ny) (aS _ _) (CQ _) (m:=300) (n:=400) (L:=L0) (fn:=md) (by kernel_rfl) (by kernel_rfl) fun H w nV args φ hrep h=>?_
 have hn:md.ntmps=13:=by kernel_rfl
 unfold F67 at h;split at h
 ·rename_i t
  split at h
  ·rename_i op ht
   match args,hrep with
   |[v],⟨hv,_⟩=>
    refine ⟨[.i .i64 op],⟨qW ht hv,trivial⟩,?_⟩;rw[hn,a67 mD W7 op];have key (n:Bool) (e:keyed op=n):up φ (.b n):=oq (s':=.b (keyed op)) (by rw[e];exact .inl rfl) h;have q7:ab 7=7:=rfl;have q8:ab 8=8:=rfl;have q9:ab 9=9:=rfl;simp only[nC,q7,q8,q9];(refine ⟨fun _=>key _ ?_,fun _=>⟨fun _=>key _ ?_,fun _=>key _ ?_⟩⟩)<;>grind [keyed]
  ·exact h.elim
 ·exact h.elim
theorem O68:nG ah (nY W7) 152 F68:=by
 refine rM (C:=C7 mD W7 qN ny) (aS _ _) (CQ _) (m:=300) (n:=400) (L:=L0) (fn:=me) (by kernel_rfl) (by kernel_rfl) fun H w nV args φ hrep h=>?_
 have hn:me.ntmps=17:=by kernel_rfl
 unfold F68 at h;split at h
 ·rename_i t
  split at h
  ·rename_i op ht
   match args,hrep with
   |[v],⟨hv,_⟩=>
    refine ⟨[.i .i64 op],⟨qW ht hv,trivial⟩,?_⟩;rw[hn,a68 mD W7 op];have key (n:Bool) (e:valued op=n):up φ (.b n):=oq (s':=.b (valued op)) (by rw[e];exact .inl rfl) h;have q2:ab 2=2:=rfl;have q3:ab 3=3:=rfl;have q5:ab 5=5:=rfl;have q7:ab 7=7:=rfl;simp only[nC,q2,q3,q5,q7];(refine ⟨fun _=>key _ ?_,fun _=>⟨fun _=>key _ ?_,fun _=>⟨fun _=>key _ ?_,fun _=>key _ ?_⟩⟩⟩)<;>grind [valued]
  ·exact h.elim
 ·exact h.elim
theorem O69:nG ah (nY W7) 153 F69:=by
 refine rM (C:=C7 mD W7 qN ny) (aS _ _) (CQ _) (m:=300) (n:=400) (L:=L0) (fn:=mh) (by kernel_rfl) (by kernel_rfl) fun H w nV args φ hrep h=>?_
 have hn:mh.ntmps=27:=by kernel_rfl
 unfold F69 at h;split at h
 ·rename_i t u v
  split at h
  ·rename_i k x y ht hu hv
   match args,hrep with
   |[v1,v2,v3],⟨r1,r2,r3,_⟩=>
    refine ⟨[.i .i64 k,.i .i64 x,.i .i64 y],⟨qW ht r1,qW hu r2,qW hv r3,trivial⟩,?_⟩;rw[hn,a69 mD W7 k x y];have key (n:Bool) (e:yR k x y=n):up φ (.b n):=oq (s':=.b (yR k x y)) (by rw[e];exact .inl rfl) h;have q0:ab 0=0:=rfl;have q2:ab 2=2:=rfl;have q3:ab 1000=1000:=rfl;have q4:ab 1000000000=1000000000:=rfl;have q5:ab 1000000000000000=1000000000000000:=rfl;have q6:bI 999999999=-1000000000:=rfl;have q7:bI 999999999999999=-1000000000000000:=rfl;simp only[nC,mQ,q0,q2,q3,q4,q5,q6,q7];(refine ⟨fun e=>⟨fun _=>key _ ?_,fun _=>⟨fun _=>key _ ?_,fun _=>⟨fun _=>key _ ?_,fun _=>key _ ?_⟩⟩⟩,fun e=>⟨fun _=>key _ ?_,fun _=>⟨fun _=>key _ ?_,fun _=>⟨fun _=>key _ ?_,fun _=>key _ ?_⟩⟩⟩⟩)<;>grind [yR]
  ·exact h.elim
 ·exact h.elim
theorem O94:nG ah (nY W7) 173 F94:=by
 refine rM (C:=C7 mD W7 qN ny) (aS _ _) (CQ _) (m:=300) (n:=400) (L:=L0) (fn:=mj) (by kernel_rfl) (by kernel_rfl) fun H w nV args φ hrep h=>?_
 have hn:mj.ntmps=12:=by kernel_rfl
 unfold F94 at h;split at h
 ·rename_i x y s2 s3 t u
  split at h
  ·rename_i a hh b l p q hs2 hs3 ht hu
   match args,hrep with
   |[v,v1,v2],⟨hv,r1,r2,_⟩=>
    refine ⟨[.agg [.i .i64 x,.i .i64 y,.sl 1 a hh,.sl 2 b l],.i .i64 p,.i .i64 q],⟨xI hv (fun u hu=>oO hs2 hu) (fun u hu=>oO hs3 hu),qW ht r1,qW hu r2,trivial⟩,?_⟩;rw[hn,a94 mD W7 x y a b hh l p q];exact oq (s':=.mV [.agg [.i .i64 x,.i .i64 y,.sl 1 a hh,.sl 2 b l],.i .i64 3,.i .i64 y]) (by simp[Wk,Et]) h
  ·exact h.elim
 ·exact h.elim
theorem O95:nG ah (nY W7) 174 F95:=by
 refine rM (C:=C7 mD W7 qN ny) (aS _ _) (CQ _) (m:=300) (n:=400) (L:=L0) (fn:=ml) (by kernel_rfl) (by kernel_rfl) fun H w nV args φ hrep h=>?_
 have hn:ml.ntmps=12:=by kernel_rfl
 unfold F95 at h;split at h
 ·rename_i x y s2 s3 t u
  split at h
  ·rename_i a hh b l p q hs2 hs3 ht hu
   match args,hrep with
   |[v,v1,v2],⟨hv,r1,r2,_⟩=>
    refine ⟨[.agg [.i .i64 x,.i .i64 y,.sl 1 a hh,.sl 2 b l],.i .i64 p,.i .i64 q],⟨xI hv (fun u hu=>oO hs2 hu) (fun u hu=>oO hs3 hu),qW ht r1,qW hu r2,trivial⟩,?_⟩;rw[hn,a95 mD W7 x y a b hh l p q];exact oq (s':=.mV [.agg [.i .i64 x,.i .i64 q,.sl 1 a hh,.sl 2 b l],.i .i64 1,.i .i64 0]) (by simp[Wk,Et]) h
  ·exact h.elim
 ·exact h.elim
theorem O96:nG ah (nY W7) 175 F96:=by
 refine rM (C:=C7 mD W7 qN ny) (aS _ _) (CQ _) (m:=300) (n:=400) (L:=L0) (fn:=mn) (by kernel_rfl) (by kernel_rfl) fun H w nV args φ hrep h=>?_
 have hn:mn.ntmps=15:=by kernel_rfl
 unfold F96 at h;split at h
 ·rename_i x y s2 s3 t u
  split at h
  ·rename_i a hh b l p q hs2 hs3 ht hu
   match args,hrep with
   |[v,v1,v2],⟨hv,r1,r2,_⟩=>
    refine ⟨[.agg [.i .i64 x,.i .i64 y,.sl 1 a hh,.sl 2 b l],.i .i64 p,.i .i64 q],⟨xI hv (fun u hu=>oO hs2 hu) (fun u hu=>oO hs3 hu),qW ht r1,qW hu r2,trivial⟩,?_⟩;rw[hn,a96 mD W7 x y a b hh l p q];exact oq (s':=.mV [.agg [.i .i64 x,.i .i64 (CU y q),.sl 1 a hh,.sl 2 b l],.i .i64 1,.i .i64 0]) (by simp[Wk,Et];rfl) h
  ·exact h.elim
 ·exact h.elim
theorem O97:nG ah (nY W7) 176 F97:=by
 refine rM (C:=C7 mD W7 qN ny) (aS _ _) (CQ _) (m:=300) (n:=400) (L:=L0) (fn:=mq) (by kernel_rfl) (by kernel_rfl) fun H w nV args φ hrep h=>?_
 have hn:mq.ntmps=17:=by kernel_rfl
 unfold F97 at h;split at h
 ·rename_i x y s2 s3 t u
  split at h
  ·rename_i a hh b l p q hs2 hs3 ht hu
   obtain ⟨h1,hφ⟩:=h;match args,hrep with
   |[v,v1,v2],⟨hv,r1,r2,_⟩=>
    refine ⟨[.agg [.i .i64 x,.i .i64 y,.sl 1 a hh,.sl 2 b l],.i .i64 p,.i .i64 q],⟨xI hv (fun u hu=>oO hs2 hu) (fun u hu=>oO hs3 hu),qW ht r1,qW hu r2,trivial⟩,?_⟩;have h0:=BM h1 (jT a);rw[hn,a97 mD W7 x y a b hh l p q,yc,A8,VP];have fin:up φ (.mV [.agg [.i .i64 x,.i .i64 y,.os 3 1 (a+1) (mD.snoc hh a (nM [[.i .i64 q]])),.sl 2 b l],.i .i64 (ab 1),.i .i64 (ab 0)]):=
     oq (s':=.mV [.agg [.i .i64 x,.i .i64 y,.sl 1 (a+1) (wG a hh [.i .i64 q]),.sl 2 b l],.i .i64 1,.i .i64 0]) ⟨⟨rfl,rfl,.inr ⟨rfl,rfl,Yq⟩,.inr ⟨rfl,rfl,fun _ _=>rfl⟩,trivial⟩,rfl,rfl,trivial⟩ hφ
    refine ⟨fun e=>⟨?_,h0,h1,fin⟩,fun _=>⟨h0,h1,fin⟩⟩;have e:a=0:=by have:=of_decide_eq_true (show decide (a<=0)=aj from e);omega
    subst e;assumption
  ·exact h.elim
 ·exact h.elim
theorem O99:nG ah (nY W7) 178 F99:=by
 refine rM (C:=C7 mD W7 qN ny) (aS _ _) (CQ _) (m:=300) (n:=400) (L:=L0) (fn:=mr) (by kernel_rfl) (by kernel_rfl) fun H w nV args φ hrep h=>?_
 have hn:mr.ntmps=25:=by kernel_rfl
 unfold F99 at h;split at h
 ·rename_i x y s2 s3 t u
  split at h
  ·rename_i a hh b l p q hs2 hs3 ht hu
   obtain ⟨h1,hφ⟩:=h;match args,hrep with
   |[v,v1,v2],⟨hv,r1,r2,_⟩=>
    refine ⟨[.agg [.i .i64 x,.i .i64 y,.sl 1 a (mF (mJ (α:=Int) hh)),.sl 2 b l],.i .i64 p,.i .i64 q],⟨xI hv (fun u hu=>uD (oO hs2 hu) h1) (fun u hu=>oO hs3 hu),qW ht r1,qW hu r2,trivial⟩,?_⟩;have hrow:=BD h1;generalize mJ (α:=Int) hh=o at *;have hφ:φ (.mV [.agg [.i .i64 x,.i .i64 y,.sl 1 (H7 a) (EP hh),.sl 2 b l],.i .i64 (Ld a),.i .i64 (H8 a o)]):=hφ;rw[hn,a99 mD W7 x y a b o l p q];refine ⟨fun e=>?_,fun e=>?_⟩
    ·have e:a=0:=by grind [nC,nI]
     subst e;exact oq (s':=.mV [.agg [.i .i64 x,.i .i64 y,.sl 1 (H7 0) (EP hh),.sl 2 b l],.i .i64 (Ld 0),.i .i64 (H8 0 o)]) ⟨⟨rfl,rfl,.inl ⟨rfl,rfl⟩,.inr ⟨rfl,rfl,fun _ _=>rfl⟩,trivial⟩,rfl,rfl,trivial⟩ hφ
    ·have e:¬a=0:=by grind [nC,nI]
     refine ⟨by simp[oJ];omega,by simp[zk];omega,?_⟩;refine oq (s':=.mV [.agg [.i .i64 x,.i .i64 y,.sl 1 (H7 a) (EP hh),.sl 2 b l],.i .i64 (Ld a),.i .i64 (H8 a o)]) ⟨⟨rfl,rfl,.inr ⟨rfl,rfl,fun j hj=>?_⟩,.inr ⟨rfl,rfl,fun _ _=>rfl⟩,trivial⟩,?_,?_,trivial⟩ hφ
     ·have hj:j<a - 1:=hj
      show mF o (1+j)=hh (1+j);rw[hrow (1+j) (by omega)];rfl
     ·simp[Wk,Ld,e]
     ·simp[Wk,H8,e]
  ·exact h.elim
 ·exact h.elim
end Go.Proofs
namespace Go.Pl
open Go Go.Sx
def tZ(s:pO)(op k v:Int):pO×Int×Int:=
 if op=1\/op=4 then (s,3,s.num)
 else if op=2 then ({s with num:=v},1,0)
 else if op=3 then ({s with num:=CU s.num v},1,0)
 else if op=5 then ({s with q:=s.q++[v]},1,0)
 else if op=6 then ({s with q:=s.q.tail},Ld s.q.length,s.q.headD 0)
 else if op=7 then ({s with ps:=uI s.ps k v},1,0)
 else if op=8 then (s,CS s.ps k,BO s.ps k)
 else if op=9 then ({s with ps:=vN s.ps k},CS s.ps k,BO s.ps k)
 else (s,0,0)
def newT(o:Nat->Oj)(j:Nat):pO:=⟨(o j).kind,(o j).init,[],[]⟩
def noT:Nat->List Sh:=fun _=>[]
end Go.Pl
namespace Go.Proofs
open Go Go.Sx Go.Pl
theorem ODs:∀g F,xg g=ae F->nG ah (nY W7) g F:=fun g F h=>by
 unfold xg at h;split at h
 ·cases h;exact O66
 ·cases h;exact O67
 ·cases h;exact O68
 ·cases h;exact O69
 ·cases h;exact O94
 ·cases h;exact O95
 ·cases h;exact O96
 ·cases h;exact O97
 ·cases h;exact O99
 ·cases h;exact arP
 ·cases h;exact arR
 ·cases h;exact arS
 ·cases h
theorem Lh(stop:Nat->List Nat->Bool):oH ah (C7 mD W7 xg stop):=dZ ODs fun g h=>by
 unfold xg at h;split at h;all_goals first|(cases h;done) |kernel_rfl
def F42:List Sh->Tree Sh
 |[.agg [.i .i64 x,.i .i64 y,s2,s3],t,u,v]=>match sD 1 s2,sD 2 s3,nR t,nR u,nR v with
  |some (a,h),ae (b,l),ae op,ae k,ae v=>.need (okB Int a h) (.need (okB Pr b l) (.need (oI (a+1) 8) (.node (xk x op) (.leaf (.mV [.agg (qo Ee),.i .i64 0,.i .i64 0,.er 8 329])) (.node (yt x y op k v) (.leaf (.mV [.agg (qo Ee),.i .i64 0,.i .i64 0,.er 15 329]))
    (.need (Bc op b l) (.leaf (.mV [.agg (qo (tZ ⟨x,y,lst Int a h,lst Pr b l⟩ op k v).1),.i .i64 (tZ ⟨x,y,lst Int a h,lst Pr b l⟩ op k v).2.1,.i .i64 (tZ ⟨x,y,lst Int a h,lst Pr b l⟩ op k v).2.2,.v .nilIface])))))))
  |_,_,_,_,_=>.fail
 |_=>.fail
theorem aj9{α:Type}[Row α](l:List α)(a:α):∀i,i<l.length+1->wG l.length (mF (nth l)) (Row.put a) i=mF (nth (l++[a])) i:=fun i hi=>by
 grind [wG,mF,nth,gG]
theorem KF{α:Type}[Row α](o:Nat->α):mJ (mF o)=o:=funext fun i=>Eb o i
section
variable{H0:Mem}{w0:World}{φ:Sh->Prop}
theorem arV{x y op k v:Int}{q:List Int}{ps:List Pr}(hr:oI (q.length+1) 8=aj)(hop:op=1\/op=2\/op=3\/op=4\/op=5\/op=6\/op=7\/op=8\/op=9)(hm:Bc op ps.length (mF (nth ps))=aj)(hkey:sO k=aj)
  (hφ:φ (.mV [.agg (qo (tZ ⟨x,y,q,ps⟩ op k v).1),.i .i64 (tZ ⟨x,y,q,ps⟩ op k v).2.1,.i .i64 (tZ ⟨x,y,q,ps⟩ op k v).2.2,.v .nilIface])) :
  nX ah (C7 mD W7 xg ny) (K0 H0 w0) 120 Eh (L42 x y q.length ps.length (mF (nth q)) (mF (nth ps)) op k v) [] emp (up φ):=by
 have lit (n:Int) (h:nX ah (C7 mD W7 xg ny) (K0 H0 w0) 120 Eh (Le x y q.length ps.length (mF (nth q)) (mF (nth ps)) n k v) [] emp (up φ)):nX ah (C7 mD W7 xg ny) (K0 H0 w0) 120 Eh (L42 x y q.length ps.length (mF (nth q)) (mF (nth ps)) n k v) [] emp (up φ):=
  ahq _ (fun H E vs hd=>aci 1 rfl hd) h
 have fin (s':pO) (r g:Int) (e:tZ ⟨x,y,q,ps⟩ op k v=(s',r,g)) (c:List Sh) (hc:Et c (qo s')):up φ (.mV [.agg c,.i .i64 r,.i .i64 g,.v .nilIface]):=
  oq (s':=.mV [.agg (qo (tZ ⟨x,y,q,ps⟩ op k v).1),.i .i64 (tZ ⟨x,y,q,ps⟩ op k v).2.1,.i .i64 (tZ ⟨x,y,q,ps⟩ op k v).2.2,.v .nilIface]) (by rw[e];exact ⟨hc,rfl,rfl,rfl,trivial⟩) hφ
 rcases hop with rfl|rfl|rfl|rfl|rfl|rfl|rfl|rfl|rfl
 ·refine lit 1 (xA (aS _ _) (Lh _) (hold:=oG) (m:=300) (n:=400) (ts:=[]) ?_)
  rw[apt mD W7 x y q.length ps.length (mF (nth q)) (mF (nth ps)) k v];have:=fin _ _ _ rfl [.i .i64 x,.i .i64 y,.sl 1 q.length (mF (nth q)),.sl 2 ps.length (mF (nth ps))] (by simp[qo,Wk,Et,len]);repeat' (first|exact trivial|exact rfl|exact this|refine ba ?_ ?_)
 ·refine lit 2 (xA (aS _ _) (Lh _) (hold:=oG) (m:=300) (n:=400) (ts:=[]) ?_)
  rw[apu mD W7 x y q.length ps.length (mF (nth q)) (mF (nth ps)) k v];have:=fin _ _ _ rfl [.i .i64 x,.i .i64 v,.sl 1 q.length (mF (nth q)),.sl 2 ps.length (mF (nth ps))] (by simp[qo,Wk,Et,len]);repeat' (first|exact trivial|exact rfl|exact this|refine ba ?_ ?_)
 ·refine lit 3 (xA (aS _ _) (Lh _) (hold:=oG) (m:=300) (n:=400) (ts:=[]) ?_)
  rw[apv mD W7 x y q.length ps.length (mF (nth q)) (mF (nth ps)) k v];have:=fin _ _ _ rfl [.i .i64 x,.i .i64 (CU y v),.sl 1 q.length (mF (nth q)),.sl 2 ps.length (mF (nth ps))] (by simp[qo,Wk,Et,len]);repeat' (first|exact trivial|exact rfl|exact this|refine ba ?_ ?_)
 ·refine lit 4 (xA (aS _ _) (Lh _) (hold:=oG) (m:=300) (n:=400) (ts:=[]) ?_)
  rw[apw mD W7 x y q.length ps.length (mF (nth q)) (mF (nth ps)) k v];have:=fin _ _ _ rfl [.i .i64 x,.i .i64 y,.sl 1 q.length (mF (nth q)),.sl 2 ps.length (mF (nth ps))] (by simp[qo,Wk,Et,len]);repeat' (first|exact trivial|exact rfl|exact this|refine ba ?_ ?_)
 ·refine lit 5 (xA (aS _ _) (Lh _) (hold:=oG) (m:=300) (n:=400) (ts:=[]) ?_)
  rw[apx mD W7 x y q.length ps.length (mF (nth q)) (mF (nth ps)) k v];have:=fin _ _ _ rfl [.i .i64 x,.i .i64 y,.sl 1 (q.length+1) (wG q.length (mF (nth q)) [.i .i64 v]),.sl 2 ps.length (mF (nth ps))] ⟨rfl,rfl,.inr ⟨rfl,by simp[len],aj9 q v⟩,.inr ⟨rfl,rfl,fun _ _=>rfl⟩,trivial⟩;repeat' (first|exact trivial|exact hr|exact rfl|exact this|refine ba ?_ ?_)
 ·refine lit 6 (xA (aS _ _) (Lh _) (hold:=oG) (m:=300) (n:=400) (ts:=[]) ?_)
  rw[apy mD W7 x y q.length ps.length (mF (nth q)) (mF (nth ps)) k v,KF];have hh:H8 q.length (nth q)=q.headD 0:=by cases q<;>rfl
  rw[hh];have:=fin _ _ _ rfl [.i .i64 x,.i .i64 y,.sl 1 (H7 q.length) (EP (mF (nth q))),.sl 2 ps.length (mF (nth ps))] ⟨rfl,rfl,.inr ⟨rfl,by simp[len,H7],fun j hj=>by
   show mF (nth q) (1+j)=mF (nth q.tail) j;simp_all [mF,nth,Nat.add_comm]⟩,.inr ⟨rfl,rfl,fun _ _=>rfl⟩,trivial⟩
  repeat' (first|exact trivial|exact rZ _ _|exact rfl|exact this|refine ba ?_ ?_)
 all_goals
  have hm2:(!decide (CP _=4)||(xK ps.length (mF (nth ps))&&oI (ps.length+1) 16))=aj:=hm;have hm3:xK ps.length (mF (nth ps))=aj/\oI (ps.length+1) 16=aj:=by
   simp_all [CP]
  obtain ⟨m1,m2⟩:=hm3;have el:lst Pr ps.length (mF (nth ps))=ps:=BL ps
 ·refine lit 7 (xA (aS _ _) (Lh _) (hold:=oG) (m:=300) (n:=400) (ts:=[]) ?_)
  rw[apz mD W7 x y q.length ps.length (mF (nth q)) (nth ps) k v,el];have:=fin _ _ _ rfl [.i .i64 x,.i .i64 y,.sl 1 q.length (mF (nth q)),.sl 2 (len (uI ps k v)) (mF (nth (uI ps k v)))] (by simp[qo,Wk,Et,len]);repeat' (first|exact trivial|exact m1|exact m2|exact hkey|exact rfl|exact this|refine ba ?_ ?_)
 ·refine lit 8 (xA (aS _ _) (Lh _) (hold:=oG) (m:=300) (n:=400) (ts:=[]) ?_)
  rw[apA mD W7 x y q.length ps.length (mF (nth q)) (nth ps) k v,el];have:=fin _ _ _ rfl [.i .i64 x,.i .i64 y,.sl 1 q.length (mF (nth q)),.sl 2 ps.length (mF (nth ps))] (by simp[qo,Wk,Et,len]);repeat' (first|exact trivial|exact m1|exact m2|exact hkey|exact rfl|exact this|refine ba ?_ ?_)
 ·refine lit 9 (xA (aS _ _) (Lh _) (hold:=oG) (m:=300) (n:=400) (ts:=[]) ?_)
  rw[apB mD W7 x y q.length ps.length (mF (nth q)) (nth ps) k v,el];have:=fin _ _ _ rfl [.i .i64 x,.i .i64 y,.sl 1 q.length (mF (nth q)),.sl 2 (len (vN ps k)) (mF (nth (vN ps k)))] (by simp[qo,Wk,Et,len]);repeat' (first|exact trivial|exact m1|exact m2|exact hkey|exact rfl|exact this|refine ba ?_ ?_)
end
theorem acn{op:Int}(h0:CP op≠0):op=1\/op=2\/op=3\/op=4\/op=5\/op=6\/op=7\/op=8\/op=9:=by
 grind [CP]
theorem O42:nG ah (nY W7) 120 F42:=by
 refine vM (C:=C7 mD W7 xg ny) (aS _ _) (fn:=mt) (by kernel_rfl) (by kernel_rfl) fun H w nV args φ hrep h=>?_
 have hn:mt.ntmps=88:=by kernel_rfl
 unfold F42 at h;split at h
 ·rename_i x y s2 s3 t u v
  split at h
  ·rename_i a hh b l op k vv hs2 hs3 ht hu hv
   obtain ⟨h1,h2,h3,he,hb⟩:=h;have hml:Bc op b l=aj->Bc op (lst Pr b l).length (mF (nth (lst Pr b l)))=aj:=fun hq=>by
    unfold Bc xK at hq ⊢;rw[BL,vK,rZ];simp_all
   match args,hrep with
   |[v0,v1,v2,v3],⟨r0,r1,r2,r3,_⟩=>
    refine ⟨[.agg [.i .i64 x,.i .i64 y,.sl 1 (lst Int a hh).length (mF (nth (lst Int a hh))),.sl 2 (lst Pr b l).length (mF (nth (lst Pr b l)))],.i .i64 op,.i .i64 k,.i .i64 vv],⟨xI r0 (fun u hu=>BF (oO hs2 hu) h1) (fun u hu=>BF (oO hs3 hu) h2),qW ht r1,qW hu r2,qW hv r3,trivial⟩,L0,?_⟩;have h3:oI ((lst Int a hh).length+1) 8=aj:=by simp_all
    have hb:xk x op=ag->(yt x y op k vv=aj->φ (.mV [.agg (qo Ee),.i .i64 0,.i .i64 0,.er 15 329]))/\(yt x y op k vv=ag->Bc op (lst Pr b l).length (mF (nth (lst Pr b l)))=aj/\φ (.mV [.agg (qo (tZ ⟨x,y,lst Int a hh,lst Pr b l⟩ op k vv).1),.i .i64 (tZ ⟨x,y,lst Int a hh,lst Pr b l⟩ op k vv).2.1,.i .i64 (tZ ⟨x,y,lst Int a hh,lst Pr b l⟩ op k vv).2.2,.v .nilIface])):=fun e=>⟨(hb e).1,fun e2=>⟨hml ((hb e).2 e2).1,((hb e).2 e2).2⟩⟩;clear hml;generalize lst Int a hh=q at *;generalize lst Pr b l=ps at *;have e1 (e:xk x op=aj):up φ (.mV [.agg [.i .i64 (ab 0),.i .i64 (ab 0),.sl 0 0 fun _=>[],.sl 0 0 fun _=>[]],.i .i64 (ab 0),.i .i64 (ab 0),.er 8 329]):=
     oq (s':=.mV [.agg (qo Ee),.i .i64 0,.i .i64 0,.er 8 329]) ⟨⟨rfl,rfl,.inl ⟨rfl,rfl⟩,.inl ⟨rfl,rfl⟩,trivial⟩,rfl,rfl,rfl,trivial⟩ (he e)
    have e3 (e:xk x op=ag) (e2:yt x y op k vv=aj):up φ (.mV [.agg [.i .i64 (ab 0),.i .i64 (ab 0),.sl 0 0 fun _=>[],.sl 0 0 fun _=>[]],.i .i64 (ab 0),.i .i64 (ab 0),.er 15 329]):=
     oq (s':=.mV [.agg (qo Ee),.i .i64 0,.i .i64 0,.er 15 329]) ⟨⟨rfl,rfl,.inl ⟨rfl,rfl⟩,.inl ⟨rfl,rfl⟩,trivial⟩,rfl,rfl,rfl,trivial⟩ ((hb e).1 e2)
    have go (e:xk x op=ag) (e2:yt x y op k vv=ag):∃t:Dh,([⟨120,Eh,L42 x y q.length ps.length (mF (nth q)) (mF (nth ps)) op k vv,[]⟩]:List Dh)[0]?=ae t/\nX ah (C7 mD W7 xg ny) (K0 H w) t.g t.td t.c t.stk emp (up φ):=
     ⟨_,rfl,arV h3 (acn (by
      simp_all [xk])) ((hb e).2 e2).1 (by
       simp_all [yt,sO,decide_eq_true]) ((hb e).2 e2).2⟩
    refine abJ (aS _ _) (Lh _) (pause:=acj) (m:=300) (n:=400) (ts:=[⟨120,Eh,L42 x y q.length ps.length (mF (nth q)) (mF (nth ps)) op k vv,[]⟩]) ?_;rw[hn,a42 mD W7 x y q.length ps.length (mF (nth q)) (mF (nth ps)) op k vv];have q0:ab 0=0:=rfl;have q3:ab 3=3:=rfl;have qk:ab 1000=1000:=rfl;have q4:ab 1000000000=1000000000:=rfl;have q6:bI 999999999=-1000000000:=rfl;have qa:mD.add .i64 y vv=CU y vv:=rfl;rw[q0] at e1 e3;simp only[nC,oP,mQ,q0,q3,qk,q4,q6,qa];clear he hb h3 hn;repeat' (first|exact trivial|exact rfl|(intro _) |refine ba ?_ ?_)
    all_goals first
     |exact e1 (by simp_all [xk])
     |exact e3 (by simp_all [xk]) (by simp_all [yt])
     |simp_all [xk,yt]
  ·exact h.elim
 ·exact h.elim
open Go Go.Sx Go.Pl
theorem OCs:∀g F,H9 g=ae F->nG ah (nY W7) g F:=fun g F h=>by
 unfold H9 at h;split at h
 ·cases h;exact O33
 ·cases h;exact O35
 ·cases h;exact O41
 ·cases h;exact O49
 ·cases h;exact O50
 ·cases h;exact O54
 ·cases h;exact O56
 ·cases h
theorem akb(stop:Nat->List Nat->Bool):oH ah (C7 mD W7 H9 stop):=dZ OCs fun g h=>by
 unfold H9 at h;split at h;all_goals first|(cases h;done) |kernel_rfl
def F25:List Sh->Tree Sh
 |[s0]=>match sD 2 s0 with
  |some (n,g)=>.need (okB Oj n g) (.need (Hz n (mJ g)) (.node (JA n) (.leaf (.mV [.agg [.sl 4 0 noT],.er 6 329])) (.node (Ef n (mJ g)) (.leaf (.mV [.agg [.sl 4 n (pz (newT (mJ g)))],.v .nilIface])) (.leaf (.mV [.agg [.sl 4 0 noT],.pV 109 (.pt [.i .i64 (BN n (mJ g)),.er 7 329])]))))) |none=>.fail
 |_=>.fail
theorem ahr{n j:Nat}{g:Nat->List Sh}{r:List Sh}(h:j<n):wG n g r j=g j:=if_pos h
theorem Yx{n:Nat}{g:Nat->List Sh}{r:List Sh}:wG n g r n=r:=if_neg (by omega)
section
variable{H0:Mem}{w0:World}{φ:Sh->Prop}
theorem af8{n:Nat}{o:Nat->Oj}(hn:n<=8)(hk:∀j,j<n->qg (o j).kind=aj)(hT:∀j,j<n->uw (o j).kind (o j).init=ag)(hφ:φ (.mV [.agg [.sl 4 n (pz (newT o))],.v .nilIface])):
  ∀r k (gg:Nat->List Sh),k+r=n->(∀j,j<k->gg j=qo (newT o j))->nX ah (C7 mD W7 H9 ny) (K0 H0 w0) 75 SL (Po n o (k:Int) k gg ag) [] emp (up φ)
 |r,k,gg,hkr,hg=>by
  refine wY (fn:=ii) (tb:=af7) (by kernel_rfl) (by kernel_rfl) ?_;refine xA (aS _ _) (akb _) (hold:=oG) (m:=300) (n:=400) (ts:=[⟨75,SL,Po n o (k+1:Nat) (k+1) (wG k gg (qo (newT o k))) ag,[]⟩]) ?_;rw[b25 mD W7 n o k (k+1:Nat) k (k+1) gg (wG k gg (qo (newT o k)))];simp only[mQ,oJ,pR,qG,wZ,bR];refine ⟨fun h=>?_,fun h=>?_⟩
  ·have hlt:k<n:=by simp_all
   refine ⟨by simp;omega,hk k hlt,fun hb=>(by simp_all),fun _=>⟨room_le (by omega) (by omega),⟨rfl,rfl,?_,rfl,trivial⟩,_,rfl,?_⟩⟩
   ·grind [oC.ok,pI]
   ·match r,hkr with
    |0,hkr=>omega |r+1,hkr=>
     refine af8 hn hk hT hφ r (k+1) _ (by omega) fun j hj=>?_
     grind [Yx,ahr]
  ·have:k=n:=by grind
   subst this;exact oq (s':=.mV [.agg [.sl 4 k (pz (newT o))],.v .nilIface]) ⟨⟨.inr ⟨rfl,rfl,hg⟩,trivial⟩,rfl,trivial⟩ hφ
end
theorem O25:nG ah (nY W7) 75 F25:=by
 refine vM (C:=C7 mD W7 H9 ny) (aS _ _) (fn:=ii) (by kernel_rfl) (by kernel_rfl) fun H w nV args φ hrep h=>?_
 have hn:ii.ntmps=38:=by kernel_rfl
 unfold F25 at h;split at h
 ·rename_i s0
  split at h
  ·rename_i n g hs0
   obtain ⟨h1,h2,hbig,hsm⟩:=h;have hsm:JA n=ag->(Ef n (mJ g)=aj->φ (.mV [.agg [.sl 4 n (pz (newT (mJ g)))],.v .nilIface]))/\(Ef n (mJ g)=ag->φ (.mV [.agg [.sl 4 0 noT],.pV 109 (.pt [.i .i64 (BN n (mJ g)),.er 7 329])])):=hsm;match args,hrep with
   |[v],⟨hv,_⟩=>
    refine ⟨[.sl 2 n (mF (mJ (α:=Oj) g))],⟨uD (oO hs0 hv) h1,trivial⟩,L0,?_⟩;generalize mJ (α:=Oj) g=o at *;refine xA (aS _ _) (akb _) (hold:=oG) (m:=300) (n:=400) (ts:=[⟨75,SL,Po n o (0:Nat) 0 noT aj,[]⟩]) ?_;rw[hn,a25 mD W7 n o (0:Nat) 0 noT,KF];refine ⟨rZ _ _,h2,fun e=>oq (s':=.mV [.agg [.sl 4 0 noT],.er 6 329]) ⟨⟨.inl ⟨rfl,rfl⟩,trivial⟩,rfl,trivial⟩ (hbig e),fun e=>?_⟩;obtain ⟨q1,q2⟩:=hsm e;have hn8:n<=8:=by simp_all [JA]
    refine ⟨fun e=>⟨⟨rfl,rfl,rfl,trivial⟩,_,rfl,?_⟩,fun e=>oq (s':=.mV [.agg [.sl 4 0 noT],.pV 109 (.pt [.i .i64 (BN n o),.er 7 329])]) ⟨⟨.inl ⟨rfl,rfl⟩,trivial⟩,rfl,trivial⟩ (q2 e)⟩;have hT:∀j,j<n->uw (o j).kind (o j).init=ag:=fun j hj=>by simpa using yh e j hj
    refine wY (fn:=ii) (tb:=af7) (by kernel_rfl) (by kernel_rfl) ?_;refine xA (aS _ _) (akb _) (hold:=oG) (m:=300) (n:=400) (ts:=[⟨75,SL,Po n o (1:Nat) 1 (wG 0 (fun _=>[]) (qo (newT o 0))) ag,[]⟩]) ?_;rw[c25 mD W7 n o (0:Nat) (1:Nat) 0 1 noT (wG 0 (fun _=>[]) (qo (newT o 0)))];simp only[mQ,oJ,pR,qG,wZ,bR];refine ⟨fun h=>?_,fun h=>?_⟩
    ·have hlt:0<n:=by simp_all
     refine ⟨by simp;omega,yh h2 0 hlt,fun hb=>(by simp_all),fun _=>⟨room_le (by omega) (by omega),⟨rfl,rfl,?_,rfl,trivial⟩,_,rfl,?_⟩⟩
     ·rfl
     ·refine af8 hn8 (yh h2) hT (q1 e) (n - 1) 1 _ (by omega) fun j hj=>?_
      obtain rfl:j=0:=by omega
      exact Yx
    ·have:n=0:=by simp_all
     subst this;exact oq (s':=.mV [.agg [.sl 4 0 (pz (newT o))],.v .nilIface]) ⟨⟨.inl ⟨rfl,rfl⟩,trivial⟩,rfl,trivial⟩ (q1 e)
  ·exact h.elim
 ·exact h.elim
end Go.Proofs
namespace Go.Pl
open Go Go.Sx
structure XH where
 key:pO->List UInt8
 join:Nat->(Nat->List Sh)->List UInt8->List UInt8
def sQ(x y:Int)(a:Nat)(h:Nat->List Sh)(b:Nat)(l:Nat->List Sh):pO:=⟨x,y,lst Int a h,lst Pr b l⟩
def SN(x y:Int)(a:Nat)(h:Nat->List Sh)(b:Nat)(l:Nat->List Sh):Bool:=
 okB Int a h&&okB Pr b l&&qg x&&qg y&&ajJ a (mJ h)&&aop b (mJ l)&&decide (a<=100000/\b<=100000)
def VY(n:Nat)(g:Nat->List Sh)(sep:List UInt8):Bool:=okB (List UInt8) n g&&oI n 16&&yx (qJ (lst (List UInt8) n g) sep)
end Go.Pl
namespace Go.Proofs
open Go Go.Sx Go.Pl
def G35(L:XH):List Sh->Tree Sh
 |[.agg [.i .i64 x,.i .i64 y,s2,s3]]=>match sD 1 s2,sD 2 s3 with
  |some (a,h),ae (b,l)=>.need (SN x y a h b l) (.leaf (.str (L.key (sQ x y a h b l)))) |_,_=>.fail
 |_=>.fail
def G56(L:XH):List Sh->Tree Sh
 |[s0,.str sep]=>match sD 1 s0 with
  |some (n,g)=>.need (VY n g sep) (.leaf (.str (L.join n g sep))) |none=>.fail
 |_=>.fail
def F64:List Sh->Tree Sh
 |[.agg [s0]]=>match sD 4 s0 with
  |some (n,g)=>.need (oI n 64) (.leaf (.sl 4 n g)) |none=>.fail
 |_=>.fail
def Cm(L:XH):Nat->Option (List Sh->Tree Sh)
 |116=>ae (G35 L) |117=>ae (G56 L) |118=>ae F64 |_=>aq
def aco:List Nat:=[0,1,0,1,1]
def k32:List It:=[aW 0,aH [1,1,1]]
def aou(j:Nat)(gg:Nat->List Sh):Bool->SV×List (Nat×SB)
 |true=>(.nD,[]) |false=>(.gs 2,[(2,.own 9 1 j gg)])
def aov(n:Nat)(d:Nat->pO)(j:Nat)(gg:Nat->List Sh)(v:Bool):List (Nat×SB):=[(0,.box [(aou j gg v).1] 236),(1,.box [.sh (.sl 4 n (pz d))] 100)]++(aou j gg v).2
def aow:List SV:=vZ 17 [(3,.ptr 0 0),(7,.fn 144 [.ptr 1 0])]
def L32(n:Nat)(d:Nat->pO):Core:={tm:=aow,hp:=aov n d 0 (fun _=>[]) aj,nx:=2,lim:=L0,tc:=[]}
def TK(l:Nat):List Fw:=[⟨92,aq,k32,aow,ae (l,aco,.ready)⟩]
def Lj:List It:=[aH [0,1],aW 0]
def af9:List It:=aH [0,0,1]::Lj
def arW:Bool->Nat
 |true=>2 |false=>3
def VZ(n:Nat)(d:Nat->pO)(l:Nat)(k:Int)(j:Nat)(gg:Nat->List Sh)(v:Bool):Core:=
 {tm:=vZ 20 [(0,.val (yv l)),(7,.sh (.sl 4 n (pz d))),(8,.sym .i64 (n:Int)),(9,.sym .i64 k)],hp:=aov n d j gg v,nx:=arW v,lim:=L0,tc:=[]}
theorem a32(A:Prim)(W:Wd)(L:XH)(n:Nat)(d:Nat->pO):abR (C7 A W (Cm L) ny) wF 300 800 92 aq [.code []] (mM 17 [.agg [.sl 4 n (pz d)]] L0) [] [⟨92,aq,.code aco::k32,L32 n d,[]⟩]=ai (aK 0 [av (ao 4 n (pz d)) (ao 4 n (pz d))]):=by kernel_rfl
theorem t32(A:Prim)(W:Wd)(L:XH)(n:Nat)(d:Nat->pO)(l:Nat)(k:Int)(j:Nat)(gg:Nat->List Sh):abR (C7 A W (Cm L) ny) wF 300 800 144 aq [.code []] {L32 n d with tm:=(.val (yv l)::[.ptr 1 0])++List.replicate (20 - (1+1)) .any} (TK l) [⟨144,aq,Lj,VZ n d l k j gg aj,TK l⟩]=am (oI n 64) (ai (aK 0 [dG (ed (fN l) {toList:=[]} {toList:=[]}) (ed (fN l) {toList:=[]} {toList:=[]}),av (ao 4 n (pz d)) (ao 4 n (pz d)),ac (A.nH n) (ab n),ac (ab 0) k,av (ao 4 n (pz d)) (ao 4 n (pz d)),ap l l])):=by kernel_rfl
noncomputable def acp(A:Prim)(L:XH)(n:Nat)(d:Nat->pO)(k:Int):List oC:=[ac k k,ac (d (A.toN k)).kind (d (A.toN k)).kind,ac (d (A.toN k)).num (d (A.toN k)).num,av (ao 1 (len (d (A.toN k)).q) (mF (nth (d (A.toN k)).q))) (ao 1 (len (d (A.toN k)).q) (mF (nth (d (A.toN k)).q))),av (ao 2 (len (d (A.toN k)).ps) (mF (nth (d (A.toN k)).ps))) (ao 2 (len (d (A.toN k)).ps) (mF (nth (d (A.toN k)).ps))),av (ao 4 n (pz d)) (ao 4 n (pz d)),ac (d (A.toN k)).kind (d (A.toN k)).kind,ac (d (A.toN k)).num (d (A.toN k)).num,av (ao 1 (len (d (A.toN k)).q) (mF (nth (d (A.toN k)).q))) (ao 1 (len (d (A.toN k)).q) (mF (nth (d (A.toN k)).q))),av (ao 2 (len (d (A.toN k)).ps) (mF (nth (d (A.toN k)).ps))) (ao 2 (len (d (A.toN k)).ps) (mF (nth (d (A.toN k)).ps))),ac (d (A.toN k)).kind (d (A.toN k)).kind,ac (d (A.toN k)).num (d (A.toN k)).num,av (ao 1 (len (d (A.toN k)).q) (mF (nth (d (A.toN k)).q))) (ao 1 (len (d (A.toN k)).q) (mF (nth (d (A.toN k)).q))),av (ao 2 (len (d (A.toN k)).ps) (mF (nth (d (A.toN k)).ps))) (ao 2 (len (d (A.toN k)).ps) (mF (nth (d (A.toN k)).ps))),av (aR (L.key (sQ (d (A.toN k)).kind (d (A.toN k)).num (len (d (A.toN k)).q) (mF (nth (d (A.toN k)).q)) (len (d (A.toN k)).ps) (mF (nth (d (A.toN k)).ps))))) (aR (L.key (sQ (d (A.toN k)).kind (d (A.toN k)).num (len (d (A.toN k)).q) (mF (nth (d (A.toN k)).q)) (len (d (A.toN k)).ps) (mF (nth (d (A.toN k)).ps))))),av (aR (L.key (sQ (d (A.toN k)).kind (d (A.toN k)).num (len (d (A.toN k)).q) (mF (nth (d (A.toN k)).q)) (len (d (A.toN k)).ps) (mF (nth (d (A.toN k)).ps))))) (aR (L.key (sQ (d (A.toN k)).kind (d (A.toN k)).num (len (d (A.toN k)).q) (mF (nth (d (A.toN k)).q)) (len (d (A.toN k)).ps) (mF (nth (d (A.toN k)).ps)))))]
theorem arX(A:Prim)(W:Wd)(L:XH)(n:Nat)(d:Nat->pO)(l:Nat)(k k':Int)(j j':Nat)(gg xW:Nat->List Sh):abR (C7 A W (Cm L) ny) wF 300 800 144 aq af9 (VZ n d l k j gg aj) (TK l) [⟨144,aq,Lj,VZ n d l k' j' xW ag,TK l⟩]=ak (A.lt k (ab n)) (am (A.inB k n) (aw [ap l l] (aw [ap l l] (am (SN (d (A.toN k)).kind (d (A.toN k)).num (len (d (A.toN k)).q) (mF (nth (d (A.toN k)).q)) (len (d (A.toN k)).ps) (mF (nth (d (A.toN k)).ps))) (am (SN (d (A.toN k)).kind (d (A.toN k)).num (len (d (A.toN k)).q) (mF (nth (d (A.toN k)).q)) (len (d (A.toN k)).ps) (mF (nth (d (A.toN k)).ps))) (aw (acp A L n d k) (aw (acp A L n d k) (aw [ap l l] (ai (aK 0 [dG (ed (fN l) {toList:=[]} {toList:=[]}) (ed (fN l) {toList:=[]} {toList:=[]}),av (ao 4 n (pz d)) (ao 4 n (pz d)),ac (ab n) (ab n),ac (A.add .i64 k (ab 1)) k',av (ao 4 n (pz d)) (ao 4 n (pz d)),ap 1 j',ax 1 (nM [[aR (L.key (sQ (d (A.toN k)).kind (d (A.toN k)).num (len (d (A.toN k)).q) (mF (nth (d (A.toN k)).q)) (len (d (A.toN k)).ps) (mF (nth (d (A.toN k)).ps))))]]) xW,ap l l])))))))))) (am (VY 0 (fun _=>[]) [59,32]) (ai (ay (aR (L.join 0 (fun _=>[]) [59,32]))))):=by kernel_rfl
noncomputable def acr(A:Prim)(L:XH)(n:Nat)(d:Nat->pO)(k:Int)(j:Nat)(gg:Nat->List Sh):List oC:=[ac k k,ac (d (A.toN k)).kind (d (A.toN k)).kind,ac (d (A.toN k)).num (d (A.toN k)).num,av (ao 1 (len (d (A.toN k)).q) (mF (nth (d (A.toN k)).q))) (ao 1 (len (d (A.toN k)).q) (mF (nth (d (A.toN k)).q))),av (ao 2 (len (d (A.toN k)).ps) (mF (nth (d (A.toN k)).ps))) (ao 2 (len (d (A.toN k)).ps) (mF (nth (d (A.toN k)).ps))),av (ao 4 n (pz d)) (ao 4 n (pz d)),ac (d (A.toN k)).kind (d (A.toN k)).kind,ac (d (A.toN k)).num (d (A.toN k)).num,av (ao 1 (len (d (A.toN k)).q) (mF (nth (d (A.toN k)).q))) (ao 1 (len (d (A.toN k)).q) (mF (nth (d (A.toN k)).q))),av (ao 2 (len (d (A.toN k)).ps) (mF (nth (d (A.toN k)).ps))) (ao 2 (len (d (A.toN k)).ps) (mF (nth (d (A.toN k)).ps))),ac (d (A.toN k)).kind (d (A.toN k)).kind,ac (d (A.toN k)).num (d (A.toN k)).num,av (ao 1 (len (d (A.toN k)).q) (mF (nth (d (A.toN k)).q))) (ao 1 (len (d (A.toN k)).q) (mF (nth (d (A.toN k)).q))),av (ao 2 (len (d (A.toN k)).ps) (mF (nth (d (A.toN k)).ps))) (ao 2 (len (d (A.toN k)).ps) (mF (nth (d (A.toN k)).ps))),av (aR (L.key (sQ (d (A.toN k)).kind (d (A.toN k)).num (len (d (A.toN k)).q) (mF (nth (d (A.toN k)).q)) (len (d (A.toN k)).ps) (mF (nth (d (A.toN k)).ps))))) (aR (L.key (sQ (d (A.toN k)).kind (d (A.toN k)).num (len (d (A.toN k)).q) (mF (nth (d (A.toN k)).q)) (len (d (A.toN k)).ps) (mF (nth (d (A.toN k)).ps))))),ap (A.addN j 1) (A.addN j 1),aF (A.snoc gg j (nM [[aR (L.key (sQ (d (A.toN k)).kind (d (A.toN k)).num (len (d (A.toN k)).q) (mF (nth (d (A.toN k)).q)) (len (d (A.toN k)).ps) (mF (nth (d (A.toN k)).ps))))]])) (A.snoc gg j (nM [[aR (L.key (sQ (d (A.toN k)).kind (d (A.toN k)).num (len (d (A.toN k)).q) (mF (nth (d (A.toN k)).q)) (len (d (A.toN k)).ps) (mF (nth (d (A.toN k)).ps))))]]))]
theorem arY(A:Prim)(W:Wd)(L:XH)(n:Nat)(d:Nat->pO)(l:Nat)(k k':Int)(j j':Nat)(gg xW:Nat->List Sh):abR (C7 A W (Cm L) ny) wF 300 800 144 aq af9 (VZ n d l k j gg ag) (TK l) [⟨144,aq,Lj,VZ n d l k' j' xW ag,TK l⟩]=ak (A.lt k (ab n)) (am (A.inB k n) (aw [ap l l] (aw [ap l l] (am (SN (d (A.toN k)).kind (d (A.toN k)).num (len (d (A.toN k)).q) (mF (nth (d (A.toN k)).q)) (len (d (A.toN k)).ps) (mF (nth (d (A.toN k)).ps))) (am (A.room (A.addN j 1) 16) (am (SN (d (A.toN k)).kind (d (A.toN k)).num (len (d (A.toN k)).q) (mF (nth (d (A.toN k)).q)) (len (d (A.toN k)).ps) (mF (nth (d (A.toN k)).ps))) (am (A.room (A.addN j 1) 16) (am (A.room (A.addN j 1) 16) (aw (acr A L n d k j gg) (aw (acr A L n d k j gg) (aw [ap l l] (ai (aK 0 [dG (ed (fN l) {toList:=[]} {toList:=[]}) (ed (fN l) {toList:=[]} {toList:=[]}),av (ao 4 n (pz d)) (ao 4 n (pz d)),ac (ab n) (ab n),ac (A.add .i64 k (ab 1)) k',av (ao 4 n (pz d)) (ao 4 n (pz d)),ap (A.addN j 1) j',ax (A.addN j 1) (A.snoc gg j (nM [[aR (L.key (sQ (d (A.toN k)).kind (d (A.toN k)).num (len (d (A.toN k)).q) (mF (nth (d (A.toN k)).q)) (len (d (A.toN k)).ps) (mF (nth (d (A.toN k)).ps))))]])) xW,ap l l]))))))))))))) (am (VY j gg [59,32]) (ai (ay (aR (L.join j gg [59,32]))))):=by kernel_rfl
end Go.Proofs
