/- SearchBoth: of a well-formed history with at most 3,000 lists of placements, what the search answers (yes or no, at each level) is what the predicate of doc/model.md says; for any history and any number -/
import Derived.Test.YtemojddccikgkaaGreatDoorB14
import Derived.KernelRfl
import Derived.ProofKit
import Derived.Deep.Slices
import Derived.Stop.LaidErr
import Derived.LaidMore
import Derived.OpenShut
import Derived.MakeChecks
import Derived.Test.YtemojddccikgkaaGreatDoorRows
import Derived.Carry
import Derived.Stop.Joined
import Derived.Test.YtemojddccikgkaaGreatDoorTie
import Derived.Test.YtemojddccikgkaaGreatDoorCards
open Int (ofNat)
open Bool renaming true->ah,false->ag,and_eq_true->ak
open Classical renaming propDecidable->ay
open Go.Addr renaming add->eZ
open Go.BinOp renaming rem->gW
open Go.DataW renaming trod->mb,trod_int->gu,trod_struct->i8,trod_array->jv,TrodAll->gO
open Go.Gm renaming start->bT
open Go.IntKind renaming i64->az
open Go.MemPlace renaming row->gC
open Go.oz renaming Row->lS,okB->d8,lst->gj,Oj->cv,Ev->cH,zh->dn,mP->aB
open Go.oz.Row renaming get->kH
open Go.Proofs.C7 renaming Hq->cO,ok->dC
open Go.Proofs.Tryz renaming prog->ai,f7->jt,fnsAre_->cu,entersB_->cI,f3->dD,underlying46->jw,underlying288->jc,underlying302->jd,underlying9->eC,underlying259->fp,checked->hJ,func3->je,params3->lT
open Go.Sx.oM renaming all->bi
open Go.Value renaming int->cR,okWide->ei
open Go.World renaming var?_cell->jW,doorLaid->kf
open Int renaming le_refl->iO,ofNat->ab,tmod_lt_of_pos->ju,toNat->iY
open List renaming mem_map->bK,mem_range->bI,map->fZ,getElem?_map->bY,getElem?_range->fw,map_map->fY,getD_eq_getElem?_getD->aO,all_eq_true->bh,getElem?_eq_getElem->aC,take->jU,drop->jV,length->mc
open Nat renaming beq->bJ,eq_of_beq_eq_true->fc,add_assoc->iC,mul_one->mn
open Option renaming some->ae,none->ao,map_eq_some_iff->aP,getD_some->ja
open Option.some renaming inj->aS
namespace Go.Rg
open Go Go.Sx Go.Pl Go.Proofs Go.Gm Go.Bf
theorem ak6{H:Mem}{b:Bool}{v:Value}(h:Rep H (.b b) v):Rep H (.v (.bool b)) v:=by cases h;exact .v _ rfl
theorem awI{lv:Int}{n:Nat}{T:Nat->pO}{C:List Int}{no:Nat}(P:GmP lv n T C no)(g0:Nat->List Sh){S:Nat}(l:List oO){i:Nat}(hi:i<C.length)(hS:S<2^C.length)(m0 m1:Option (Nd (List oO))):
  nD ai (nJ W7) 19 (apf lv n T C no g0 S l i m0 m1):=by
 intro H w nY args φ hon hgl hr hφ;have key:∀(y:Bool) (o:Option (Nd (List oO))) (a t:Sh) (x:Int) (m:Nat) (g:Nat->List Sh) (z:Int),nO t=ae z->IX a (KI lv n T C no g0)=ah->decide (x=(S:Int)/\m=no/\z=(i:Int))=ah->srB l m g=ah->ac8 (qo lv T C no) S l i y o=ah->(lf38 no o).All φ->
   sD H [a,.agg [.i .i64 x,.sl 4 m g],t,.b y] args->Calls ai 19 args.toArray w fun e w'=>∃v s H',e=.returned v/\φ s/\qy H w s v H' w':=by
  intro y o a t x m g z hz h1 h2 h3 h4 h5 hr;have h4:uD (qo lv T C no) S l i y=o:=@of_decide_eq_true _ (ay _) h4;obtain ⟨rfl,rfl,rfl⟩:=of_decide_eq_true h2;match args,hr with
  |[a0,a1,a2,a3],⟨r0,r1,r2,r3,_⟩=>
   refine O38 P g0 l hi hS y H w [a,.agg [.i .i64 (S:Int),.sl 4 m g],t,.v (.bool y)] _ φ hon hgl ⟨r0,r1,r2,ak6 r3,trivial⟩ ?_;unfold D38;simp only[hz];refine ⟨h1,by simp,h3,fun q=>?_,fun q=>?_⟩
   ·rw[h4] at q ⊢
    cases o with
    |none=>cases q |some nd=>exact h5
   ·rw[h4] at q
    cases o with
    |none=>exact h5 |some nd=>cases q
 unfold apf at hφ;split at hφ
 ·split at hφ
  ·rename_i z hz
   obtain ⟨h1,h2,h3,h4,h5⟩:=hφ;grind
  ·exact hφ.elim
 ·split at hφ
  ·rename_i z hz
   obtain ⟨h1,h2,h3,h4,h5⟩:=hφ;grind
  ·exact hφ.elim
 ·exact hφ.elim
theorem abu{g:Game (List oO)}{nd:Nd (List oO)}{i:Nat}(hi:i<g.n){cm:Bool}{t:Nd (List oO)}(h:uD g nd.placed nd.st i cm=ae t):t∈next g nd:=by
 unfold next turns;have:∃x∈xK g nd i,x.2=t:=by
  unfold uD at h;unfold xK;split at h
  ·rename_i hm
   rw[if_pos hm];split at h
   ·split at h
    ·rename_i hc
     cases hr:g.run nd.st i with
     |none=>simp_all |some l'=>
      simp_all
    ·cases h
   simp_all
  ·cases h
 grind
theorem ak7{g:Game (List oO)}{nd t:Nd (List oO)}(h:t∈next g nd):∃i cm,i<g.n/\uD g nd.placed nd.st i cm=ae t:=by
 unfold next turns at h;obtain ⟨x,hx,rfl⟩:=bK.1 h;obtain ⟨i,hi,hx⟩:=List.mem_flatMap.1 hx;have hi:=bI.1 hi;unfold xK at hx;split at hx
 ·rename_i hm
  rcases List.mem_append.1 hx with hx|hx
  ·split at hx
   ·rename_i s e1 e2
    obtain rfl:x=_:=by simpa using hx
    exact ⟨i,ah,hi,by unfold uD;rw[if_pos hm,if_pos rfl,if_pos e1,e2];rfl⟩
   ·cases hx
  ·split at hx
   ·rename_i hc
    obtain rfl:x=_:=by simpa using hx
    exact ⟨i,ag,hi,by simp_all [uD]⟩
   ·cases hx
 ·cases hx
structure XP(g:Game (List oO))(nd:Nd (List oO))(L:Int)(y z:Bool)(L':Int):Prop where
 lo:-1<=L'
 hi:L'<=L - 1
 nn:z=ah->0<=L'
 yz:y=ah->z=ah
 ok:z=ah->(y=ah↔yw (next g) (full g) nd)
def F6(g:Game (List oO))(nd:Nd (List oO))(L:Int):Sh->Prop:=fun s=>∃y z L',s=.mX [.b y,.b z,.i .i64 L']/\XP g nd L y z L'
theorem Zz{lv:Int}{n:Nat}{T:Nat->pO}{C:List Int}{no:Nat}(P:GmP lv n T C no)(g0:Nat->List Sh){S:Nat}(l:List oO){i:Nat}(hi:i<C.length)(hS:S<2^C.length)(m0 m1:Option (Nd (List oO)))(stop:Nat->List Nat->Bool):oD ai (C7 mM W7 (I5 lv n T C no g0 S l i m0 m1) stop):=cO (fun g F h=>by
 unfold I5 at h;grind [aph,awI]) fun g h=>by
 unfold I5 at h;split at h;all_goals first|(cases h;done) |kernel_rfl
def Ia:Nat->Option (List Sh->Tree Sh)
 |18=>ae af4 |_=>ao
theorem Wq(stop:Nat->List Nat->Bool):oD ai (C7 mM W7 Ia stop):=cO (fun g F h=>by
 grind [Ia,aph]) fun g h=>by
 unfold Ia at h;split at h;all_goals first|(cases h;done) |kernel_rfl
def ada:Nat->Option (List Sh->Tree Sh)
 |18=>ae af4 |19=>ae fun _=>.fail |_=>ao
theorem ara(stop:Nat->List Nat->Bool):oD ai (C7 mM W7 ada stop):=cO (fun g F h=>by
 unfold ada at h;split at h
 ·cases h;exact aph
 ·cases h;exact fun H w nY args φ hon hg hr hφ=>hφ.elim
 ·cases h) fun g h=>by
 unfold ada at h;split at h;all_goals first|(cases h;done) |kernel_rfl
theorem nd_(c:Bool){p q:Prop}(x:c=ah->p)(y:c=ag->q):(c=ah->p)/\(c=ag->q):=⟨x,y⟩
theorem vU{A:Prim}{W:Wd}{s s':Nat->Option (List Sh->Tree Sh)}{stop stop':Nat->List Nat->Bool}{K:Kx}{b0 g:Nat}{td:List It}{c:Core}{φ:Sh->Prop}
  (h:uh ai (C7 A W s stop) K b0 g td c φ):uh ai (C7 A W s' stop') K b0 g td c φ:=fun H E w a items b cs fn hf h0 st hi=>
 h H E w a items b cs fn hf h0 ⟨st.den,st.hp,st.o7,st.free,st.gl,st.defers⟩ hi
section
variable{lv:Int}{n:Nat}{T:Nat->pO}{C:List Int}{no:Nat}{g0:Nat->List Sh}{K:Kx}{b0:Nat}{Q:Nd (List oO)->Prop}{s0:Nat->Option (List Sh->Tree Sh)}
structure QP(lv:Int)(T:Nat->pO)(C:List Int)(no:Nat)(Q:Nd (List oO)->Prop):Prop where
 lt:∀nd,Q nd->nd.placed<2^C.length
 st:∀nd,Q nd->nd.st.length=no/\no<=8/\∀j,j<no->xR 49000 (qh nd.st j)
 nx:∀nd,Q nd->∀t∈next (qo lv T C no) nd,Q t
theorem ajw(P:GmP lv n T C no)(q:QP lv T C no Q){k:Nat}(ih:∀(nd:Nd (List oO)) (L:Int) (g:Nat->List Sh),0<=L->L.toNat<=k->L<=3000->Q nd->(∀j,j<no->g j=rD (dR nd.st) j)->
   GR ai (nJ W7) 7 [KI lv n T C no g0,.agg [.i .i64 (nd.placed:Nat),.sl 4 no g]] L (XP (qo lv T C no) nd L))
  {nd:Nd (List oO)} {g:Nat->List Sh} (hq:Q nd) (hg:∀j,j<no->g j=rD (dR nd.st) j) {La:Int} (hnf:full (qo lv T C no) nd=ag) :
  ∀r i (L:Int),i+r=C.length->0<=L->L<=La - 1->L.toNat<=k->L<=3000->(∀j cm t,j<i->uD (qo lv T C no) nd.placed nd.st j cm=ae t->¬yw (next (qo lv T C no)) (full (qo lv T C no)) t)->
   uh ai (C7 mM W7 s0 sN) K b0 7 Kz (LA lv n T C no g0 (nd.placed:Nat) g L (i:Nat)) (F6 (qo lv T C no) nd La)
 |r,i,L,hir,hL0,hL1,hLk,hL3,hno=>by
  refine af0 jt awH ?_;by_cases hi:i<C.length
  ·have e1:mM.add .i64 (i:Int) 1=((i+1:Nat):Int):=add1 (by have:=P.cl;omega)
   have hlt:mM.lt (i:Int) (mM.nK C.length)=ah:=by simp[mW,ny];omega
   have kE:IX (KI lv n T C no g0) (KI lv n T C no g0)=ah:=@decide_eq_true _ (ay _) rfl;have kS:decide (((nd.placed:Nat):Int)=((nd.placed:Nat):Int)/\no=no/\((i:Nat):Int)=((i:Nat):Int))=ah:=decide_eq_true ⟨rfl,rfl,rfl⟩;obtain ⟨s1,s2,s3⟩:=q.st nd hq;have kR:srB nd.st no g=ah:=@decide_eq_true _ (ay _) ⟨⟨s1,hg,s3⟩,s2⟩;have kM (cm:Bool) (o) (h:uD (qo lv T C no) nd.placed nd.st i cm=o):ac8 (qo lv T C no) nd.placed nd.st i cm o=ah:=@decide_eq_true _ (ay _) h;have hpl:=q.lt nd hq;have goA (hd:∀cm t,uD (qo lv T C no) nd.placed nd.st i cm=ae t->¬yw (next (qo lv T C no)) (full (qo lv T C no)) t) (L2:Int) (h0:0<=L2) (h1:L2<=L) (s1:Nat->Option (List Sh->Tree Sh)) :
     uh ai (C7 mM W7 s1 sN) K b0 7 Kz (LA lv n T C no g0 (nd.placed:Nat) g L2 (mM.add .i64 (i:Int) 1)) (F6 (qo lv T C no) nd La):=by
    match r,hir with
    |0,hir=>omega |r+1,hir=>
     rw[e1];refine vU (s:=s0) (stop:=sN) <|ajw (La:=La) P q ih hq hg hnf r (i+1) L2 (by omega) h0 (by omega) (by omega) (by omega) fun j cm t hj ht=>?_
     grind
   have ayG:C.length<=62:=P.cl;have back (cm:Int) (t:Nd (List oO)) (ht:t∈next (qo lv T C no) nd) (s1:Nat->Option (List Sh->Tree Sh)) (Lc:Int) (c0:0<=Lc) (c1:Lc<=L)
     (hgo:∀L',0<=L'->L'<=Lc - 1->¬yw (next (qo lv T C no)) (full (qo lv T C no)) t->uh ai (C7 mM W7 s1 sN) K b0 7 ac9 {LD lv n T C no g0 (nd.placed:Nat) g Lc (i:Nat) cm t ag ah with hp:=hset (LC lv n T C no g0 (nd.placed:Nat) g Lc (i:Nat) cm t).hp 0 (.box [.sym .i64 L'] 3)} (F6 (qo lv T C no) nd La))
     (hcm:cm=0\/cm=1):uh ai (C7 mM W7 s1 sN) K b0 7 MV (LC lv n T C no g0 (nd.placed:Nat) g Lc (i:Nat) cm t) (F6 (qo lv T C no) nd La):=by
    have hqt:=q.nx nd hq t ht;refine af2 (fn:=jt) (g2:=7) (xs:=[.agg (gmV lv n T C no g0),.agg [.sym .i64 (t.placed:Nat),.sh (.sl 4 no (rD (dR t.st)))]]) (yC:=[KI lv n T C no g0,.agg [.i .i64 (t.placed:Nat),.sl 4 no (rD (dR t.st))]]) (x:=.sym .i64 Lc) (L:=Lc) (dst:=ae 55) (uJ:=ac9) (by kernel_rfl) (by kernel_rfl) (uz cu cI 7 (by kernel_rfl)) (by kernel_rfl) (by kernel_rfl) rfl
     (ih t Lc (rD (dR t.st)) c0 (by omega) (by omega) hqt fun _ _=>rfl) ?_
    intro y z L' hX;show uh ai (C7 mM W7 s1 sN) K b0 7 ac9 {LD lv n T C no g0 (nd.placed:Nat) g Lc (i:Nat) cm t y z with hp:=hset (LC lv n T C no g0 (nd.placed:Nat) g Lc (i:Nat) cm t).hp 0 (.box [.sym .i64 L'] 3)} (F6 (qo lv T C no) nd La)
    cases y with
    |true=>
     have hz:=hX.yz rfl;subst hz;have he:yw (next (qo lv T C no)) (full (qo lv T C no)) t:=(hX.ok rfl).1 rfl;have h2:=hX.hi;have fin:(F6 (qo lv T C no) nd La) (.mX [.b ah,.b ah,.i .i64 L']):=⟨ah,ah,L',rfl,⟨hX.lo,by omega,fun _=>hX.nn rfl,fun _=>rfl,fun _=>⟨fun _=>.step ht he,fun _=>rfl⟩⟩⟩;refine vU (s:=Ia) (stop:=sN) (vS (dC _ _) (Wq _) (hold:=BP) (m:=300) (n:=400) (ts:=[]) ?_);rcases hcm with rfl|rfl
     ·exact Ky fin
     ·exact Ky fin
    |false=>
     cases z with
     |false=>
      have h2:=hX.hi;have fin:(F6 (qo lv T C no) nd La) (.mX [.b ag,.b ag,.i .i64 L']):=⟨ag,ag,L',rfl,⟨hX.lo,by omega,fun h=>(by cases h),fun h=>(by cases h),fun h=>(by cases h)⟩⟩;refine vU (s:=Ia) (stop:=sN) (vS (dC _ _) (Wq _) (hold:=BP) (m:=300) (n:=400) (ts:=[]) ?_);rcases hcm with rfl|rfl
      ·exact Ky fin
      ·exact Ky fin
     |true=>exact hgo L' (hX.nn rfl) hX.hi fun he=>(by have:=(hX.ok rfl).2 he;cases this)
   have noE (cm:Bool) (h:uD (qo lv T C no) nd.placed nd.st i cm=ao):∀t,uD (qo lv T C no) nd.placed nd.st i cm=ae t->¬yw (next (qo lv T C no)) (full (qo lv T C no)) t:=fun t q=>by simp_all
   have soE (cm:Bool) (t) (h:uD (qo lv T C no) nd.placed nd.st i cm=ae t) (ne:¬yw (next (qo lv T C no)) (full (qo lv T C no)) t):∀t,uD (qo lv T C no) nd.placed nd.st i cm=ae t->¬yw (next (qo lv T C no)) (full (qo lv T C no)) t:=fun t' q=>by simp_all
   have both (h0:∀t,uD (qo lv T C no) nd.placed nd.st i ah=ae t->¬yw (next (qo lv T C no)) (full (qo lv T C no)) t) (h1:∀t,uD (qo lv T C no) nd.placed nd.st i ag=ae t->¬yw (next (qo lv T C no)) (full (qo lv T C no)) t) :
     ∀cm t,uD (qo lv T C no) nd.placed nd.st i cm=ae t->¬yw (next (qo lv T C no)) (full (qo lv T C no)) t:=fun cm t q=>by
    cases cm with
    |true=>exact h0 t q |false=>exact h1 t q
   have snd (h0:∀t,uD (qo lv T C no) nd.placed nd.st i ah=ae t->¬yw (next (qo lv T C no)) (full (qo lv T C no)) t) (t) (h:uD (qo lv T C no) nd.placed nd.st i ag=ae t) (s1:Nat->Option (List Sh->Tree Sh)) (Lc:Int) (c0:0<=Lc) (c1:Lc<=L) :
     uh ai (C7 mM W7 s1 sN) K b0 7 MV (LC lv n T C no g0 (nd.placed:Nat) g Lc (i:Nat) 1 t) (F6 (qo lv T C no) nd La):=
    back 1 t (abu hi h) s1 Lc c0 c1 (fun L' d0 d1 ne=>by
     refine vU (s:=Ia) (stop:=sN) (vS (dC _ _) (Wq _) (hold:=BP) (m:=300) (n:=400) (ts:=[⟨7,Kz,(LA lv n T C no g0 (nd.placed:Nat) g L' (mM.add .i64 (i:Int) 1)),[]⟩]) ?_);exact Ky (goA (both h0 (soE ag t h ne)) L' d0 (by omega) _:uh ai (C7 mM W7 Ia sN) K b0 7 Kz (LA lv n T C no g0 (nd.placed:Nat) g L' (mM.add .i64 (i:Int) 1)) (F6 (qo lv T C no) nd La))) (.inr rfl)
   cases h0:uD (qo lv T C no) nd.placed nd.st i ah with
   |some t=>
    have first (L':Int) (d0:0<=L') (d1:L'<=L) (ne:¬yw (next (qo lv T C no)) (full (qo lv T C no)) t) (s1:Nat->Option (List Sh->Tree Sh)):uh ai (C7 mM W7 s1 sN) K b0 7 ac9 {LD lv n T C no g0 (nd.placed:Nat) g L (i:Nat) 0 t ag ah with hp:=hset (LC lv n T C no g0 (nd.placed:Nat) g L (i:Nat) 0 t).hp 0 (.box [.sym .i64 L'] 3)} (F6 (qo lv T C no) nd La):=by
     cases h1:uD (qo lv T C no) nd.placed nd.st i ag with
     |some t1=>
      refine vU (s:=(I5 lv n T C no g0 nd.placed nd.st i (ae t) (ae t1))) (stop:=sN) (vS (dC _ _) (Zz P g0 nd.st hi hpl _ _ _) (hold:=BP) (m:=300) (n:=400) (ts:=[⟨7,MV,(LC lv n T C no g0 (nd.placed:Nat) g L' (i:Nat) 1 t1),[]⟩]) ?_);exact Ky (an kE (an kS (an kR (an (kM ag (ae t1) h1) (snd (soE ah t h0 ne) t1 h1 _ L' d0 d1:uh ai (C7 mM W7 (I5 lv n T C no g0 nd.placed nd.st i (ae t) (ae t1)) sN) K b0 7 MV (LC lv n T C no g0 (nd.placed:Nat) g L' (i:Nat) 1 t1) (F6 (qo lv T C no) nd La))))))
     |none=>
      refine vU (s:=(I5 lv n T C no g0 nd.placed nd.st i (ae t) ao)) (stop:=sN) (vS (dC _ _) (Zz P g0 nd.st hi hpl _ _ _) (hold:=BP) (m:=300) (n:=400) (ts:=[⟨7,Kz,(LA lv n T C no g0 (nd.placed:Nat) g L' (mM.add .i64 (i:Int) 1)),[]⟩]) ?_);exact Ky (an kE (an kS (an kR (an (kM ag ao h1) (goA (both (soE ah t h0 ne) (noE ag h1)) L' d0 d1 _:uh ai (C7 mM W7 (I5 lv n T C no g0 nd.placed nd.st i (ae t) ao) sN) K b0 7 Kz (LA lv n T C no g0 (nd.placed:Nat) g L' (mM.add .i64 (i:Int) 1)) (F6 (qo lv T C no) nd La))))))
    refine vU (s:=(I5 lv n T C no g0 nd.placed nd.st i (ae t) ao)) (stop:=sN) (vS (dC _ _) (Zz P g0 nd.st hi hpl _ _ _) (hold:=BP) (m:=300) (n:=400) (ts:=[⟨7,MV,(LC lv n T C no g0 (nd.placed:Nat) g L (i:Nat) 0 t),[]⟩]) ?_);exact Ky (nd_ (mM.lt (i:Int) (mM.nK C.length)) (fun _=>an kE (an kS (an kR (an (kM ah (ae t) h0) (back 0 t (abu hi h0) _ L hL0 (iO _) (fun L' d0 d1 ne=>first L' d0 (by omega) ne _) (.inl rfl):uh ai (C7 mM W7 (I5 lv n T C no g0 nd.placed nd.st i (ae t) ao) sN) K b0 7 MV (LC lv n T C no g0 (nd.placed:Nat) g L (i:Nat) 0 t) (F6 (qo lv T C no) nd La)))))) (fun h=>(Zu hlt h:(F6 (qo lv T C no) nd La) (.mX [.b ag,.b ah,.i .i64 L]))))
   |none=>
    cases h1:uD (qo lv T C no) nd.placed nd.st i ag with
    |some t1=>
     refine vU (s:=(I5 lv n T C no g0 nd.placed nd.st i ao (ae t1))) (stop:=sN) (vS (dC _ _) (Zz P g0 nd.st hi hpl _ _ _) (hold:=BP) (m:=300) (n:=400) (ts:=[⟨7,MV,(LC lv n T C no g0 (nd.placed:Nat) g L (i:Nat) 1 t1),[]⟩]) ?_);exact Ky (nd_ (mM.lt (i:Int) (mM.nK C.length)) (fun _=>an kE (an kS (an kR (an (kM ah ao h0) (an kE (an kS (an kR (an (kM ag (ae t1) h1) (snd (noE ah h0) t1 h1 _ L hL0 (iO _):uh ai (C7 mM W7 (I5 lv n T C no g0 nd.placed nd.st i ao (ae t1)) sN) K b0 7 MV (LC lv n T C no g0 (nd.placed:Nat) g L (i:Nat) 1 t1) (F6 (qo lv T C no) nd La)))))))))) (fun h=>(Zu hlt h:(F6 (qo lv T C no) nd La) (.mX [.b ag,.b ah,.i .i64 L]))))
    |none=>
     refine vU (s:=(I5 lv n T C no g0 nd.placed nd.st i ao ao)) (stop:=sN) (vS (dC _ _) (Zz P g0 nd.st hi hpl _ _ _) (hold:=BP) (m:=300) (n:=400) (ts:=[⟨7,Kz,(LA lv n T C no g0 (nd.placed:Nat) g L (mM.add .i64 (i:Int) 1)),[]⟩]) ?_);exact Ky (nd_ (mM.lt (i:Int) (mM.nK C.length)) (fun _=>an kE (an kS (an kR (an (kM ah ao h0) (an kE (an kS (an kR (an (kM ag ao h1) (goA (both (noE ah h0) (noE ag h1)) L hL0 (iO _) _:uh ai (C7 mM W7 (I5 lv n T C no g0 nd.placed nd.st i ao ao) sN) K b0 7 Kz (LA lv n T C no g0 (nd.placed:Nat) g L (mM.add .i64 (i:Int) 1)) (F6 (qo lv T C no) nd La)))))))))) (fun h=>(Zu hlt h:(F6 (qo lv T C no) nd La) (.mX [.b ag,.b ah,.i .i64 L]))))
  ·have hi:i=C.length:=by omega
   subst hi;have hge:mM.lt ((C.length:Nat):Int) (mM.nK C.length)=ag:=by simp[mW,ny]
   have fin:(F6 (qo lv T C no) nd La) (.mX [.b ag,.b ah,.i .i64 L]):=⟨ag,ah,L,rfl,⟨by omega,hL1,fun _=>hL0,fun h=>(by cases h),fun _=>⟨fun h=>(by cases h),fun he=>by
    cases he with
    |here h=>simp_all |step ht he=>
     obtain ⟨j,cm,hj,hm⟩:=ak7 ht;exact (hno j cm _ hj hm he).elim⟩⟩⟩
   refine vU (s:=ada) (stop:=sN) (vS (dC _ _) (ara _) (hold:=BP) (m:=300) (n:=400) (ts:=[]) ?_);exact Ky (nd_ (mM.lt ((C.length:Nat):Int) (mM.nK C.length)) (fun h=>(MB hge h:False)) (fun _=>fin))
end
open Go Go.Sx Go.Pl Go.Proofs Go.Gm Go.Bf
section
variable{lv:Int}{n:Nat}{T:Nat->pO}{C:List Int}{no:Nat}{g0:Nat->List Sh}{Q:Nd (List oO)->Prop}
theorem apj(P:GmP lv n T C no)(q:QP lv T C no Q):∀(k:Nat) (nd:Nd (List oO)) (L:Int) (g:Nat->List Sh),0<=L->L.toNat<=k->L<=3000->Q nd->(∀j,j<no->g j=rD (dR nd.st) j)->
   GR ai (nJ W7) 7 [KI lv n T C no g0,.agg [.i .i64 (nd.placed:Nat),.sl 4 no g]] L (XP (qo lv T C no) nd L):=by
 have main:∀(k:Nat) (nd:Nd (List oO)) (L:Int) (g:Nat->List Sh),0<=L->L<=3000->Q nd->(∀j,j<no->g j=rD (dR nd.st) j)->
   (1<=L->∀(nd:Nd (List oO)) (L1:Int) (g:Nat->List Sh),0<=L1->L1.toNat<=(L - 1).toNat->L1<=3000->Q nd->(∀j,j<no->g j=rD (dR nd.st) j)->GR ai (nJ W7) 7 [KI lv n T C no g0,.agg [.i .i64 (nd.placed:Nat),.sl 4 no g]] L1 (XP (qo lv T C no) nd L1))->
   GR ai (nJ W7) 7 [KI lv n T C no g0,.agg [.i .i64 (nd.placed:Nat),.sl 4 no g]] L (XP (qo lv T C no) nd L):=by
  intro k nd L g hL0 hL3 hq hg ih;refine ah3 (C:=C7 mM W7 Ia sN) (dC _ _) (fn:=jt) (lim:=L0) (by kernel_rfl) (by kernel_rfl) fun b0 K=>?_
  have hn:jt.ntmps=65:=by kernel_rfl
  rw[hn];show uh ai (C7 mM W7 Ia sN) K b0 7 [.code []] (aq9 lv n T C no g0 (nd.placed:Nat) g L) (F6 (qo lv T C no) nd L);have e1:mM.sub .i64 L 1=L - 1:=by
   show az.wrap (L - 1)=_;grind [pF]
  refine vS (dC _ _) (Wq _) (hold:=BP) (m:=300) (n:=400) (ts:=[⟨7,Kz,LA lv n T C no g0 (nd.placed:Nat) g (mM.sub .i64 L 1) 0,[]⟩]) ?_;refine Ky (nd_ (mM.lt (mM.sub .i64 L 1) 0) (fun a=>(?_:F6 (qo lv T C no) nd L (.mX [.b ag,.b ag,.i .i64 (mM.sub .i64 L 1)]))) (fun a=>an (decide_eq_true P.cl) (nd_ (mM.eq ((nd.placed:Nat):Int) ((2^C.length - 1:Nat):Int)) (fun b=>(?_:F6 (qo lv T C no) nd L (.mX [.b ah,.b ah,.i .i64 (mM.sub .i64 L 1)])))
   (fun b=>(?_:uh ai (C7 mM W7 Ia sN) K b0 7 Kz (LA lv n T C no g0 (nd.placed:Nat) g (mM.sub .i64 L 1) 0) (F6 (qo lv T C no) nd L))))))
  ·rw[e1]
   exact ⟨ag,ag,L - 1,rfl,⟨by omega,by omega,fun h=>(by cases h),fun h=>(by cases h),fun h=>(by cases h)⟩⟩
  ·rw[e1] at a ⊢
   have a:¬L - 1<0:=by grind [mW]
   have b:nd.placed=2^C.length - 1:=by
    grind [nG]
   exact ⟨ah,ah,L - 1,rfl,⟨by omega,by omega,fun _=>by omega,fun _=>rfl,fun _=>⟨fun _=>.here (decide_eq_true b),fun _=>rfl⟩⟩⟩
  ·rw[e1] at a ⊢
   have a:¬L - 1<0:=by grind [mW]
   have b:full (qo lv T C no) nd=ag:=by
    refine decide_eq_false fun h=>?_
    have h:nd.placed=2^C.length - 1:=h;simp_all [nG]
   exact ajw (k:=(L - 1).toNat) P q (ih (by omega)) hq hg b C.length 0 (L - 1) (by omega) (by omega) (by omega) (Nat.le_refl _) (by omega) fun j cm t hj=>by omega
 intro k;induction k with
 |zero=>intro nd L g h0 h1 h2 hq hg;exact main 0 nd L g h0 h2 hq hg fun h=>by omega |succ k ih=>intro nd L g h0 h1 h2 hq hg;exact main 0 nd L g h0 h2 hq hg fun h nd1 L1 g1 a0 a1 a2 a3 a4=>ih nd1 L1 g1 a0 (by omega) a2 a3 a4
end
end Go.Rg
namespace Go.Pl
open Go Go.Sx Go.Proofs Go.Gm Go.Bf
def ex(k t th o p v r:Int):List Sh:=[.i .i64 k,.i .i64 t,.i .i64 th,.i .i64 o,.i .i64 p,.i .i64 0,.i .i64 v,.i .i64 r]
def tJ:Nat->List Sh:=nM [[.i .i64 1,.i .i64 0]]
def exL:List (List Sh):=[ex 1 1 0 0 0 0 0,ex 1 2 1 0 0 0 0,ex 2 1 0 0 1 0 0,ex 3 1 0 0 0 0 3,ex 2 2 0 0 1 0 0,ex 3 2 0 0 0 0 3,ex 2 1 0 0 2 1 0,ex 3 1 0 0 0 0 1,ex 2 2 0 0 2 2 0,ex 3 2 0 0 0 0 1,ex 4 1 0 0 0 0 0,ex 5 1 0 0 0 0 0,ex 4 2 0 0 0 0 0]
def zN:Nat->List Sh:=nM exL
def VN:Nat->List Sh:=mM.snoc zN 13 (nM [ex 5 2 0 0 0 0 0])
section
variable{n m:Nat}{g h:Nat->List Sh}{lv:Int}
theorem ah4(P:H9 n g m h)(hb:(uZ (hsS n g m h) lv).okb=ah)(mo:Int):
  rsP (hsS n g m h) lv mo=(uH (Dv (uZ (hsS n g m h) lv)) IZ (newL n g) mo.toNat).map (fZ (qZ (wR n (wQ g))))/\
  ∀r,uH (Dv (uZ (hsS n g m h) lv)) IZ (newL n g) mo.toNat=ae r->PU (hsS n g m h) lv mo=Kr (Dv (uZ (hsS n g m h) lv)) IZ (newL n g) r/\rtL (hsS n g m h) lv mo=(BO (Dv (uZ (hsS n g m h) lv)) IZ (newL n g) r).map sZ/\rcI (hsS n g m h) lv mo=((r.length:Nat):Int):=by
 have hT:((oJ n g m h).okb&&decide ((oJ n g m h).n<=12))=ah:=hb;rw[ak,decide_eq_true_eq] at hT;have T:=Um P hT.1 hT.2;have hp:=ahW (key:=qP n) (key':=IZ) (ahZ (lv:=lv)) (GN T) (FZ T) mo.toNat;rw[Zl] at hp;have e1:rsP (hsS n g m h) lv mo=(uH (Dv (uZ (hsS n g m h) lv)) IZ (newL n g) mo.toNat).map (fZ (qZ (wR n (wQ g)))):=hp;refine ⟨e1,fun r hr=>?_⟩;have hr':uH (Dv (oW lv n g (oJ n g m h))) IZ (newL n g) mo.toNat=ae r:=hr;have hq:∀x∈r,QlP lv n g (oJ n g m h) x:=IQ (GN T).step hr' (fun x hx=>by
  simp_all [FZ])
 have eL:rsL (hsS n g m h) lv mo=r.map (qZ (wR n (wQ g))):=by simp_all [rsL]
 have hy:=afS (key:=qP n) (key':=IZ) (ahZ (lv:=lv)) (GN T) hq (FZ T);have hs:=ahX (key:=qP n) (key':=IZ) (ahZ (lv:=lv)) (GN T) hq (FZ T);rw[Zl] at hy hs;refine ⟨?_,?_,?_⟩
 ·unfold PU;rw[eL];exact hy
 ·unfold rtL;rw[eL];exact congrArg (fZ sZ) hs
 simp_all [rcI,List.length_map]
end
theorem exH:H9 1 tJ 13 zN:=⟨by kernel_rfl,by kernel_rfl,by kernel_rfl,by kernel_rfl⟩
theorem apk:H9 1 tJ 14 VN:=⟨by kernel_rfl,by kernel_rfl,by kernel_rfl,by kernel_rfl⟩
theorem Uw:(uZ (hsS 1 tJ 13 zN) 1).okb=ah:=by kernel_rfl
theorem ajx:(uZ (hsS 1 tJ 14 VN) 1).okb=ah:=by kernel_rfl
theorem awJ:(match uH (Dv (uZ (hsS 1 tJ 13 zN) 1)) IZ (newL 1 tJ) 100 with
  |some r=>r.length==5&&(Kr (Dv (uZ (hsS 1 tJ 13 zN) 1)) IZ (newL 1 tJ) r&&decide (BO (Dv (uZ (hsS 1 tJ 13 zN) 1)) IZ (newL 1 tJ) r=[(1,ah),(2,ag)])) |none=>ag)=ah:=by kernel_rfl
theorem awK:(uH (Dv (uZ (hsS 1 tJ 13 zN) 1)) IZ (newL 1 tJ) 4).isNone=ah:=by kernel_rfl
theorem awL:(match uH (Dv (uZ (hsS 1 tJ 14 VN) 1)) IZ (newL 1 tJ) 100 with
  |some r=>r.length==3 && !Kr (Dv (uZ (hsS 1 tJ 14 VN) 1)) IZ (newL 1 tJ) r |none=>ag)=ah:=by kernel_rfl
theorem awM:((turns (Dv (uZ (hsS 1 tJ 13 zN) 1)) (bT (newL 1 tJ))).map (·.1))=[(1,ah),(2,ah),(2,ag)]:=by kernel_rfl
end Go.Pl
namespace Go.Sx
def Tree.way{α:Type}:Tree α->List oM->Option (List oM×α)
 | .leaf a,l=>ae (l,a) | .node b t f,l=>bif b then t.way l else f.way l | .need b t,l=>bif b then t.way l else ao | .must q t,l=>t.way (q++l) | .both _ _,_=>ao | .fail,_=>ao
theorem oM.all_append:∀{l m:List oM},bi (l++m)->bi l/\bi m
 |[],_,h=>⟨trivial,h⟩ |_::_,_,h=>let ⟨h1,h2⟩:=oM.all_append h.2;⟨⟨h.1,h1⟩,h2⟩
theorem Tree.GU{α:Type}{φ:α->Prop}:∀{t:Tree α} {l q:List oM} {a:α},t.way l=ae (q,a)->bi q->φ a->t.All φ/\bi l
 | .leaf _,_,_,_,h,hq,ha=>by cases h;exact ⟨ha,hq⟩ | .node b t f,l,q,a,h,hq,ha=>by
  cases b with
  |true=>exact ⟨⟨fun _=>(Tree.GU (t:=t) h hq ha).1,fun e=>by cases e⟩,(Tree.GU (t:=t) h hq ha).2⟩ |false=>exact ⟨⟨fun e=>(by cases e),fun _=>(Tree.GU (t:=f) h hq ha).1⟩,(Tree.GU (t:=f) h hq ha).2⟩
 | .need b t,l,q,a,h,hq,ha=>by
  cases b with
  |true=>exact ⟨⟨rfl,(Tree.GU (t:=t) h hq ha).1⟩,(Tree.GU (t:=t) h hq ha).2⟩ |false=>cases h
 | .must e t,l,q,a,h,hq,ha=>by
  have h1:=Tree.GU (t:=t) (φ:=φ) h hq ha;have h2:=oM.all_append h1.2;exact ⟨⟨h2.1,h1.1⟩,h2.2⟩
 | .both _ _,_,_,_,h,_,_=>by cases h | .fail,_,_,_,h,_,_=>by cases h
end Go.Sx
namespace Go.Pl
open Go Go.Sx
def VO(α:Type)[lS α][DecidableEq α](n:Nat)(g:Nat->List Sh)(n0:Nat)(g0:Nat->List Sh):Bool:=d8 α n g&&(bJ n n0&&decide (gj α n g=gj α n0 g0))
def auu:List (List Sh):=[[.i .i64 1,.b ah],[.i .i64 2,.b ag]]
def auv:List (List Sh):=[[.i .i64 1,.b ah],[.i .i64 2,.b ah],[.i .i64 2,.b ag]]
end Go.Pl
namespace Go.Proofs
open Go Go.Sx Go.Pl
noncomputable def apl:List Sh->Tree Sh
 |[.agg [.sl 2 n o,.sl 8 m e],t,u]=>match nO t,nO u with
  |some lv,ae mo=>bif VO cv n o 1 tJ&&lv==1 then
    bif VO cH m e 13 zN then bif mo==100 then .leaf (.mX [.agg [.b ah,.sl 2 2 (nM auu),.i .i64 5],.v .nilIface])
     else bif mo==4 then .leaf (.mX [.agg [.b ag,.sl 2 0 (fun _=>[]),.i .i64 0],.er 0 288]) else .fail
    else bif VO cH m e 14 VN&&mo==100 then .leaf (.mX [.agg [.b ag,.sl 2 0 (fun _=>[]),.i .i64 3],.v .nilIface]) else .fail
   else .fail
  |_,_=>.fail
 |_=>.fail
noncomputable def apm:List Sh->Tree Sh
 |[.agg [.sl 2 n o,.sl 8 m e],t,v]=>match nO t,qp 2 v with
  |some lv,ae (k,_)=>bif VO cv n o 1 tJ&&(lv==1&&(VO cH m e 13 zN&&bJ k 0)) then .leaf (.mX [.sl 2 3 (nM auv),.v .nilIface]) else .fail |_,_=>.fail
 |_=>.fail
noncomputable def Si:Nat->Option (List Sh->Tree Sh)
 |8=>ae apl |11=>ae apm |12=>ae D19 |_=>ao
noncomputable def C11:Ctx:={C7 mM W7 Si oN with lits:=ah}
theorem w11:Tree.way (nR C11 qm 900 3000 4 [.code []] (nX 94 [] L0) [] []) []=ae ([],pI.ret (Sh.b ah)):=by kernel_rfl
noncomputable def W11:List Sh->Tree Sh
 |[]=>.leaf (.v (.bool ah)) |_=>.fail
end Go.Proofs
namespace Go.Pl
open Go Go.Sx Go.Proofs Go.Gm Go.Bf
def Bd(l:Int):Int:=mM.add .i64 (mM.bin gW az (mM.add .i64 (mM.bin gW az l (ab 3)) (ab 3)) (ab 3)) (ab 1)
theorem auw(l:Int):1<=Bd l/\Bd l<=3:=by
 have h1:-3<l.tmod 3:=by
  grind
 have h2:l.tmod 3<3:=ju l (by decide);have e1:mM.add .i64 (mM.bin gW az l (ab 3)) (ab 3)=l.tmod 3+3:=by
  show az.wrap (l.tmod 3+3)=_;grind [pF]
 unfold Bd;rw[e1];have h3:0<=(l.tmod 3+3).tmod 3:=Int.tmod_nonneg _ (by omega);have h4:(l.tmod 3+3).tmod 3<3:=ju _ (by decide);have e2:mM.add .i64 (mM.bin gW az (l.tmod 3+3) (ab 3)) (ab 1)=(l.tmod 3+3).tmod 3+1:=by
  show az.wrap ((l.tmod 3+3).tmod 3+1)=_;grind [pF]
 omega
section
variable{n m:Nat}{g h:Nat->List Sh}
theorem apn(P:H9 n g m h){lv:Int}(hl:1<=lv/\lv<=3):hsB (hsS n g m h) lv=ah:=@decide_eq_true _ (ay _) ⟨n,g,m,h,rfl,P,hl.1,hl.2⟩
theorem adb(P:H9 n g m h){lv mo:Int}(hl:1<=lv/\lv<=3)(hm:RS mo=ah)(hb:(uZ (hsS n g m h) lv).okb=ah):gaB (hsS n g m h) lv mo=ah:=by
 simp_all [gaB,apn]
end
end Go.Pl
namespace Go.Proofs
open Go Go.Sx Go.Pl Go.Gm Go.Bf
end Go.Proofs
namespace Go.Pl
open Go Go.Sx
theorem Sj{α:Type}[lS α][DecidableEq α]{n n0:Nat}{g g0:Nat->List Sh}(h:VO α n g n0 g0=ah)(h0:d8 α n0 g0=ah):n=n0/\∀j,j<n->g j=g0 j:=by
 unfold VO at h;rw[ak,ak,decide_eq_true_eq] at h;obtain ⟨h1,h2,h3⟩:=h;obtain rfl:=fc h2;refine ⟨rfl,fun j hj=>?_⟩;rw[dn h1 j hj,dn h0 j hj];have e:∀(f:Nat->List Sh),(gj α n f)[j]?=ae (aB f j):=fun f=>by
  unfold gj;rw[bY,fw hj];rfl
 have e1:=e g;rw[h3,e g0] at e1;rw[aS e1]
end Go.Pl
namespace Go.Proofs
open Go Go.Sx Go.Pl Go.Gm
theorem NQ{H:Mem}{n m n0 m0:Nat}{o e o0 e0:Nat->List Sh}{v:Value}(h1:n=n0/\∀j,j<n->o j=o0 j)(h2:m=m0/\∀j,j<m->e j=e0 j)(hr:Rep H (.agg [.sl 2 n o,.sl 8 m e]) v):Rep H (hsS n0 o0 m0 e0) v:=by
 obtain ⟨rfl,h1⟩:=h1;obtain ⟨rfl,h2⟩:=h2;exact JV hr ⟨fun _ r=>qN r h1,fun _ r=>qN r h2,trivial⟩
theorem NR{P:Program}{gls:List (Nat×Sh)}{g:Nat}{F:List Sh->Tree Sh}(hF:nD P gls g F){H:Mem}{w:World}{nY:List Sh}{args:List Value}{φ:Sh->Prop}(hon:H.on w)(hg:qE gls H)(hr:sD H nY args){s':Sh}(hφ:φ s')(h:(F nY).All fun s=>Wk s s'):
  Calls P g args.toArray w fun e w'=>∃v s H',e=.returned v/\φ s/\qy H w s v H' w':=by
 refine (hF H w nY args _ hon hg hr h).mono fun e w' ⟨v,s,H',he,hs,r⟩=>?_;obtain ⟨H2,r2⟩:=r.wk hs;exact ⟨v,s',H2,he,hφ,r2⟩
theorem arf:VL (hsS 1 tJ 13 zN) 1 100=ah/\PU (hsS 1 tJ 13 zN) 1 100=ah/\rtL (hsS 1 tJ 13 zN) 1 100=[⟨1,ah⟩,⟨2,ag⟩]/\rcI (hsS 1 tJ 13 zN) 1 100=5:=by
 have h:=ah4 exH Uw 100;have hr:=awJ;split at hr
 ·rename_i r e
  obtain ⟨q1,q2,q3⟩:=h.2 r e;rw[ak,ak,beq_iff_eq,decide_eq_true_eq] at hr;refine ⟨?_,q1.trans hr.2.1,?_,?_⟩
  ·unfold VL
   have e':uH (Dv (uZ (hsS 1 tJ 13 zN) 1)) IZ (newL 1 tJ) (iY 100)=ae r:=e;rw[h.1,e'];rfl
  ·rw[q2,hr.2.2];rfl
  ·rw[q3,hr.1];rfl
 ·cases hr
theorem apo:VL (hsS 1 tJ 13 zN) 1 4=ag:=by
 have h:=ah4 exH Uw 4;have h4:=Option.isNone_iff_eq_none.1 awK;unfold VL;have e':uH (Dv (uZ (hsS 1 tJ 13 zN) 1)) IZ (newL 1 tJ) (iY 4)=ao:=h4;rw[h.1,e'];rfl
theorem apq:VL (hsS 1 tJ 14 VN) 1 100=ah/\PU (hsS 1 tJ 14 VN) 1 100=ag/\rcI (hsS 1 tJ 14 VN) 1 100=3/\rtL (hsS 1 tJ 14 VN) 1 100=[]:=by
 have h:=ah4 apk ajx 100;have hr:=awL;split at hr
 ·rename_i r e
  obtain ⟨q1,q2,q3⟩:=h.2 r e;rw[ak,beq_iff_eq,Bool.not_eq_true'] at hr;refine ⟨?_,q1.trans hr.2,?_,?_⟩
  ·unfold VL
   have e':uH (Dv (uZ (hsS 1 tJ 14 VN) 1)) IZ (newL 1 tJ) (iY 100)=ae r:=e;rw[h.1,e'];rfl
  ·rw[q3,hr.1];rfl
  ·rw[q2]
   unfold BO;rw[if_neg (by rw[hr.2];simp)];rfl
 ·cases hr
theorem auy(u:Nat->List Sh):nxL (hsS 1 tJ 13 zN) 1 0 u=[⟨1,ah⟩,⟨2,ah⟩,⟨2,ag⟩]/\(wkO (hsS 1 tJ 13 zN) 1 0 u).isSome=ah:=by
 refine ⟨?_,rfl⟩;have hT:((oJ 1 tJ 13 zN).okb&&decide ((oJ 1 tJ 13 zN).n<=12))=ah:=Uw;rw[ak,decide_eq_true_eq] at hT;have T:=Um exH hT.1 hT.2;have ht:=PW (GN (lv:=1) T) (FZ (lv:=1) T);have e:qZ (wR 1 (wQ tJ)) (bT (newL 1 tJ))=⟨0,(uZ (hsS 1 tJ 13 zN) 1).g0⟩:=by
  show (⟨0,wR 1 (wQ tJ) (newL 1 tJ)⟩:Nd SG)=⟨0,wQ tJ⟩;rw[Zl]
 rw[e] at ht;show ((turns (Gb (uZ (hsS 1 tJ 13 zN) 1)) ⟨0,(uZ (hsS 1 tJ 13 zN) 1).g0⟩).map fun t=>sZ t.1)=_;have ht':turns (Gb (uZ (hsS 1 tJ 13 zN) 1)) ⟨0,(uZ (hsS 1 tJ 13 zN) 1).g0⟩=(turns (Dv (uZ (hsS 1 tJ 13 zN) 1)) (bT (newL 1 tJ))).map fun t=>(t.1,qZ (wR 1 (wQ tJ)) t.2):=ht;rw[ht',fY];have en:=awM;have e2:((turns (Dv (uZ (hsS 1 tJ 13 zN) 1)) (bT (newL 1 tJ))).map ((fun t:(Int×Bool)×Nd SG=>sZ t.1) ∘ fun t=>(t.1,qZ (wR 1 (wQ tJ)) t.2)))=((turns (Dv (uZ (hsS 1 tJ 13 zN) 1)) (bT (newL 1 tJ))).map (·.1)).map sZ:=by
  rw[fY];rfl
 rw[e2,en];rfl
theorem ajy:RS 100=ah:=by kernel_rfl
theorem awN:RS 4=ah:=by kernel_rfl
theorem awO:nD ai (nJ W7) 8 apl:=by
 intro H w nY args φ hon hgl hr hφ;unfold apl at hφ;split at hφ
 ·rename_i n o m e t u
  split at hφ
  ·rename_i lv mo e1 e2
   cases c1:(VO cv n o 1 tJ&&lv==1)<;>simp only[c1,cond_true,cond_false] at hφ
   ·exact hφ.elim
   rw[ak,beq_iff_eq] at c1;obtain ⟨c1,rfl⟩:=c1;have k1:=Sj c1 exH.o;match args,hr with
   |[a0,a1,a2],⟨r0,r1,r2,_⟩=>
   have s2 {k:Nat} {f f':Nat->List Sh} (h:∀j,j<k->f j=f' j):Wk (.sl 2 k f) (.sl 2 k f'):=.inr ⟨rfl,rfl,h⟩;cases c2:VO cH m e 13 zN<;>simp only[c2,cond_true,cond_false] at hφ
   ·cases c3:(VO cH m e 14 VN&&mo==100)<;>simp only[c3,cond_true,cond_false] at hφ
    ·exact hφ.elim
    rw[ak,beq_iff_eq] at c3;obtain ⟨c3,rfl⟩:=c3;have k2:=Sj c3 apk.p;refine NR aji hon hgl (nY:=[hsS 1 tJ 14 VN,t,u]) ⟨NQ k1 k2 r0,r1,r2,trivial⟩ hφ ?_;unfold abp;simp only[e1,e2];obtain ⟨b1,b2,b3,b4⟩:=apq;refine ⟨adb apk (by decide) ajy ajx,fun _=>?_,fun c=>(by rw[b1] at c;cases c)⟩;refine ⟨⟨.inl (by rw[b2]),?_,by rw[b3];rfl,trivial⟩,rfl,trivial⟩;unfold rtN rtR;rw[b4];exact .inl ⟨rfl,rfl⟩
   ·have k2:=Sj c2 exH.p
    cases c3:(mo==100)<;>simp only[c3,cond_true,cond_false] at hφ
    ·cases c4:(mo==4)<;>simp only[c4,cond_true,cond_false] at hφ
     ·exact hφ.elim
     rw[beq_iff_eq] at c4;subst c4;refine NR aji hon hgl (nY:=[hsS 1 tJ 13 zN,t,u]) ⟨NQ k1 k2 r0,r1,r2,trivial⟩ hφ ?_;unfold abp;simp only[e1,e2];refine ⟨adb exH (by decide) awN Uw,fun c=>(by rw[apo] at c;cases c),fun _=>?_⟩;exact ⟨⟨.inl rfl,.inl ⟨rfl,rfl⟩,rfl,trivial⟩,rfl,trivial⟩
    ·rw[beq_iff_eq] at c3
     subst c3;refine NR aji hon hgl (nY:=[hsS 1 tJ 13 zN,t,u]) ⟨NQ k1 k2 r0,r1,r2,trivial⟩ hφ ?_;unfold abp;simp only[e1,e2];obtain ⟨b1,b2,b3,b4⟩:=arf;refine ⟨adb exH (by decide) ajy Uw,fun _=>?_,fun c=>(by rw[b1] at c;cases c)⟩;refine ⟨⟨.inl (by rw[b2]),?_,by rw[b4];rfl,trivial⟩,rfl,trivial⟩;unfold rtN rtR;rw[b3];refine .inr ⟨rfl,rfl,fun j hj=>?_⟩;have hj:j<2:=hj;match j,hj with
     |0,_=>rfl |1,_=>rfl
  ·exact hφ.elim
 ·exact hφ.elim
theorem awP:nD ai (nJ W7) 11 apm:=by
 intro H w nY args φ hon hgl hr hφ;unfold apm at hφ;split at hφ
 ·rename_i n o m e t v
  split at hφ
  ·rename_i lv k u e1 e2
   cases c1:(VO cv n o 1 tJ&&(lv==1&&(VO cH m e 13 zN&&bJ k 0)))<;>simp only[c1,cond_true,cond_false] at hφ
   ·exact hφ.elim
   rw[ak,ak,ak,beq_iff_eq] at c1;obtain ⟨c1,rfl,c2,c3⟩:=c1;obtain rfl:=fc c3;have k1:=Sj c1 exH.o;have k2:=Sj c2 exH.p;match args,hr with
   |[a0,a1,a2],⟨r0,r1,r2,_⟩=>
   refine NR awo hon hgl (nY:=[hsS 1 tJ 13 zN,t,v]) ⟨NQ k1 k2 r0,r1,r2,trivial⟩ hφ ?_;unfold aoX;simp only[e1,e2];obtain ⟨b1,b2⟩:=auy u;refine ⟨?_,?_,rfl,trivial⟩
   ·unfold naB
    rw[apn exH (by decide),Uw,b2];rfl
   ·unfold nxN nxR
    rw[b1];refine .inr ⟨rfl,rfl,fun j hj=>?_⟩;have hj:j<3:=hj;match j,hj with
    |0,_=>rfl |1,_=>rfl |2,_=>rfl
  ·exact hφ.elim
 ·exact hφ.elim
theorem auz{P:Program}{C:Ctx}{K:Kx}{ts:List zx}{R:Hp->Prop}{φ:Sh->Prop}{t:Tree pI}{q:List oM}{s:Sh}(h:t.way []=ae (q,.ret s))(hq:bi q)(hs:φ s):oP (yc P C K ts R φ) t:=by
 rw[qc];exact (Tree.GU h hq hs).1
theorem apr:oC ai C11:=by
 have h:=dC Si oN;exact ⟨h.1,h.2,h.3,h.4,h.5,h.6,h.7⟩
theorem awQ:oD ai C11:=by
 have h:=cO (stop:=oN) (spec:=Si) (fun g F h=>by
  unfold Si at h;split at h
  ·cases h;exact awO
  ·cases h;exact awP
  ·cases h;exact auj
  ·cases h) fun g h=>by
  unfold Si at h;split at h;all_goals first|(cases h;done) |kernel_rfl
 exact ⟨h.1,h.2,h.3,h.4⟩
theorem O11:nD ai (nJ W7) 4 W11:=by
 refine rC (C11) Tryz.f4 (hC:=apr) fun H w nY args φ hrep h=>?_
 have hn:Tryz.f4.ntmps=94:=by kernel_rfl
 unfold W11 at h;split at h
 ·refine ⟨[],hrep,L0,?_⟩
  refine qg (hC:=apr) awQ 900 3000 [] ?_;rw[hn];have hφ:φ (.v (.bool ah)):=h;exact auz w11 trivial (nP (s':=.v (.bool ah)) (.inr rfl) hφ)
 ·exact h.elim
end Go.Proofs
namespace Go.Rg
open Go Go.Sx Go.Pl Go.Proofs Go.Gm Go.Bf
theorem ak9{S S':Type}{g:Game S}{g':Game S'}{f:S'->S}{Q:Nd S'->Prop}(h:FY g g' f Q)(hQ:∀nd,Q nd->∀t∈next g' nd,Q t){nd:Nd S'}(hq:Q nd):yw (next g') (full g') nd↔yw (next g) (full g) (qZ f nd):=by
 constructor
 ·intro he
  induction he with
  |here e=>exact .here (by grind [NP]) |step ht _ ih=>exact .step (by grind [NM,List.mem_map_of_mem]) (ih (hQ _ hq _ ht))
 ·intro he
  generalize hx:qZ f nd=x at he;induction he generalizing nd with
  |here e=>subst hx;exact .here (by grind [NP]) |step ht _ ih=>
   subst hx;rw[NM h hq] at ht;obtain ⟨t,h1,h2⟩:=bK.1 ht;exact .step h1 (ih (hQ _ hq _ h1) h2)
theorem ah7(lv:Int)(T:Nat->pO):∀r i,vK T (tV lv T i r)=ctF lv T i r
 |0,i=>rfl |r+1,i=>by
  have ih:=ah7 lv T r (i+1);grind [vK,tV,Uj]
section
variable{n m:Nat}{g h:Nat->List Sh}{lv:Int}
theorem aps(lv:Int)(n:Nat)(g:Nat->List Sh)(B:H7):qo lv B.T (tV lv B.T 0 B.n) n=Dv (oW lv n g B):=by
 have e:vK B.T (tV lv B.T 0 B.n)=yA lv B.n B.T:=by rw[ah7,RP]
 have e2:(tV lv B.T 0 B.n).length=(yA lv B.n B.T).length:=by rw[<-e,RZ]
 unfold qo;rw[e,e2];rfl
theorem newR(T:TbP n g (oJ n g m h)):∀j,j<n->rD (xQ (mP g)) j=rD (dR (newL n g)) j:=fun j hj=>by
 have h1:=(afe (T.b j hj)).2;have h2:qh (newL n g) j=newT (mP g) j:=by
  simp_all [qh,newL,aO]
 show KH (xQ (mP g) j)=KH (toR (qh (newL n g) j));rw[h2,h1]
theorem auA(T:TbP n g (oJ n g m h)):QP lv (oJ n g m h).T (tV lv (oJ n g m h).T 0 (oJ n g m h).n) n (QlP lv n g (oJ n g m h)) where
 lt nd hq:=by
  have h1:nd.placed<2^(yA lv (oJ n g m h).n (oJ n g m h).T).length:=hq.2.1;grind [RP,ah7,RZ]
 st nd hq:=by
  refine ⟨hq.1,T.o,fun j hj=>?_⟩;obtain ⟨_,d,hd⟩:=hq.2;have hr:=aoL (lv:=lv) T (qZ (wR n (wQ g)) nd);have e:=hd.row j hj;have e2:(qZ (wR n (wQ g)) nd).st j=qO (qh nd.st j):=Zk nd.st j hj;have:qh nd.st j=d j:=Iy (e2.symm.trans e);rw[this];exact (hd.inv j hj).up (by omega)
 nx nd hq t ht:=by
  rw[aps lv n g] at ht;exact (GN T).step nd hq t ht
theorem arh(T:TbP n g (oJ n g m h))(hlv:lv=1\/lv=2\/lv=3):GmP lv (oJ n g m h).n (oJ n g m h).T (tV lv (oJ n g m h).T 0 (oJ n g m h).n) n where
 lv:=hlv
 cl:=by
  have:=Zr lv (oJ n g m h).T (oJ n g m h).n 0;have:=T.few;omega
 ci x hx:=by
  have:=ac5 lv (oJ n g m h).T (oJ n g m h).n 0 x hx;omega
 dd i hi:=⟨(T.ok i hi).1,by have:=(T.ok i hi).2;omega⟩
theorem ala(P:H9 n g m h)(hok:(oJ n g m h).okb=ah)(hn:(oJ n g m h).n<=12){mo:Int}(hm:RS mo=ah)(c:VL (hsS n g m h) lv mo=ah):
  PU (hsS n g m h) lv mo=ah↔yw (next (qo lv (oJ n g m h).T (tV lv (oJ n g m h).T 0 (oJ n g m h).n) n)) (full (qo lv (oJ n g m h).T (tV lv (oJ n g m h).T 0 (oJ n g m h).n) n)) (bT (newL n g)):=by
 have T:=Um P hok hn;have G:=IY (lv:=lv) T;unfold VL at c;obtain ⟨r,hr⟩:=Option.isSome_iff_exists.1 c;have eL:rsL (hsS n g m h) lv mo=r:=by simp_all [rsL]
 have m1:1<=mo.toNat:=by
  grind [RS]
 have hy:PU (hsS n g m h) lv mo=ah↔yw (next (Gb (uZ (hsS n g m h) lv))) (full (Gb (uZ (hsS n g m h) lv))) (bT (wQ g)):=by
  unfold PU;rw[eL];exact aor m1 hr G.step Uk G.start
 rw[hy,aps lv n g];rw[ak9 (GN (lv:=lv) T) (GN T).step (FZ T)];have e:qZ (wR n (wQ g)) (bT (newL n g))=bT (wQ g):=by
  show (⟨0,wR n (wQ g) (newL n g)⟩:Nd SG)=⟨0,wQ g⟩;rw[Zl]
 rw[e];rfl
end
open Go Go.Sx Go.Pl Go.Proofs Go.Gm Go.Bf
noncomputable def ajz(s:Sh)(lv:Int)(B:H7)(no:Nat)(g0:Nat->List Sh):List Sh->Tree Sh
 |[a,t]=>match nO t with
  |some z=>.need (IX a s) (.need (decide (z=lv)) (.leaf (.mX [KI lv B.n B.T (tV lv B.T 0 B.n) no g0,.agg [.i .i64 0,.sl 1 0 yL]]))) |none=>.fail
 |_=>.fail
noncomputable def af5(s:Sh)(lv:Int)(c:Int)(k:Nat)(f:Nat->List Sh):List Sh->Tree Sh
 |[a,t]=>match nO t with
  |some z=>.need (IX a s) (.need (decide (z=lv)) (.leaf (.mX [zgS,.agg [.i .i64 c,.sl 1 k f]]))) |none=>.fail
 |_=>.fail
noncomputable def abv(s:Sh)(lv:Int)(B:H7)(no:Nat)(g0:Nat->List Sh):Nat->Option (List Sh->Tree Sh)
 |4=>ae W11 |6=>ae (ajz s lv B no g0) |8=>ae abp |_=>ao
noncomputable def ajA(s:Sh)(lv:Int)(c:Int)(k:Nat)(f:Nat->List Sh):Nat->Option (List Sh->Tree Sh)
 |4=>ae W11 |6=>ae (af5 s lv c k f) |7=>ae fun _=>.fail |8=>ae fun _=>.fail |_=>ao
def ar1:List It:=[It.reg [0,1,1,1,1,1,1,1] [4,5,6,7,8,9],It.code [1,1,1,1,1,1,1,1]]
def ar2:List It:=[It.reg [0,1,1,1,1,1,1,1] [5,6,7,8,9],It.code [1,1,1,1,1,1,1,1]]
def LS3(n:Nat)(g:Nat->List Sh)(m:Nat)(h:Nat->List Sh)(lv:Int)(N:Nat)(T:Nat->pO)(C:List Int)(g0:Nat->List Sh):Core:=
 {tm:=sK 65 [(1,.sym .i64 lv),(2,.ptr 0 0),(8,.ptr 1 0),(37,.agg (gmV lv N T C n g0)),(40,.agg [.int .i64 0,.sh (.sl 4 n g0)])],hp:=[(0,.box [.sh (.sl 2 n g),.sh (.sl 8 m h)] 25),(1,.box [.int .i64 3000] 3)],nx:=2,lim:=L0,tc:=[]}
def LD3(n:Nat)(g:Nat->List Sh)(m:Nat)(h:Nat->List Sh)(lv:Int)(N:Nat)(T:Nat->pO)(C:List Int)(g0:Nat->List Sh)(y z:Bool)(L:Int):Core:=
 {LS3 n g m h lv N T C g0 with tm:=BX (LS3 n g m h lv N T C g0).tm (ae 41) (.mX [.bool y,.bool z]),hp:=hset (LS3 n g m h lv N T C g0).hp 1 (.box [.sym .i64 L] 3)}
noncomputable def F3:List Sh->Tree Sh
 |[s,t]=>match nO t with
  |some _=>.need (hpB s) (.leaf (.v (.bool ah))) |_=>.fail
 |_=>.fail
section
variable{n m:Nat}{g h:Nat->List Sh}{lv:Int}
theorem awR(P:H9 n g m h)(hlv:lv=1\/lv=2\/lv=3)(hok:(oJ n g m h).okb=ah)(hn:(oJ n g m h).n<=12):nD ai (nJ W7) 6 (ajz (hsS n g m h) lv (oJ n g m h) n (rD (xQ (mP g)))):=
 (apd P hlv).mono fun H nY args φ hr hφ=>by
  unfold ajz at hφ;split at hφ
  ·split at hφ
   ·rename_i e
    obtain ⟨h1,h2,h3⟩:=hφ;unfold D13;simp only[e];exact ⟨h1,h2,fun _=>⟨fun _=>h3,fun q=>by simp_all⟩,fun q=>by simp_all⟩
   ·exact hφ.elim
  ·exact hφ.elim
theorem awS(P:H9 n g m h)(hlv:lv=1\/lv=2\/lv=3)(hno:¬((oJ n g m h).okb=ah/\(oJ n g m h).n<=12)):∃(c:Int) (k:Nat) (f:Nat->List Sh),c≠0/\nD ai (nJ W7) 6 (af5 (hsS n g m h) lv c k f):=by
 cases hok:(oJ n g m h).okb with
 |true=>
  refine ⟨118,0,yL,by decide,(apd P hlv).mono fun H nY args φ hr hφ=>?_⟩;unfold af5 at hφ;split at hφ
  ·split at hφ
   ·rename_i e
    obtain ⟨h1,h2,h3⟩:=hφ;unfold D13;simp only[e];exact ⟨h1,h2,fun _=>⟨fun q=>(hno ⟨hok,of_decide_eq_true q⟩).elim,fun _=>h3⟩,fun q=>by simp_all⟩
   ·exact hφ.elim
  ·exact hφ.elim
 |false=>
  refine ⟨(wE n (mP g) m (aB h)).1,if (wE n (mP g) m (aB h)).1=0\/(wE n (mP g) m (aB h)).1=105 then 0 else 1,fun _=>[.i .i64 ((wE n (mP g) m (aB h)).2:Int)],ahN P hok,(apd P hlv).mono fun H nY args φ hr hφ=>?_⟩;unfold af5 at hφ;split at hφ
  ·split at hφ
   ·rename_i e
    obtain ⟨h1,h2,h3⟩:=hφ;unfold D13;simp only[e];exact ⟨h1,h2,fun q=>(by simp_all),fun _=>h3⟩
   ·exact hφ.elim
  ·exact hφ.elim
theorem auB{s:Sh}{c:Int}{k:Nat}{f:Nat->List Sh}(O11:nD ai (nJ W7) 4 W11)(O:nD ai (nJ W7) 6 (af5 s lv c k f))(stop:Nat->List Nat->Bool):oD ai (C7 mM W7 (ajA s lv c k f) stop):=cO (fun g F h=>by
 unfold ajA at h;split at h
 ·simp_all
 ·simp_all
 ·cases h;exact fun H w nY args φ hon hg hr hφ=>hφ.elim
 ·cases h;exact fun H w nY args φ hon hg hr hφ=>hφ.elim
 ·cases h) fun g h=>by
 unfold ajA at h;split at h;all_goals first|(cases h;done) |kernel_rfl
theorem apu{s:Sh}{B:H7}{no:Nat}{g0:Nat->List Sh}(O11:nD ai (nJ W7) 4 W11)(O:nD ai (nJ W7) 6 (ajz s lv B no g0))(stop:Nat->List Nat->Bool):oD ai (C7 mM W7 (abv s lv B no g0) stop):=cO (fun g F h=>by
 unfold abv at h;grind [aji]) fun g h=>by
 unfold abv at h;split at h;all_goals first|(cases h;done) |kernel_rfl
theorem O3(O11:nD ai (nJ W7) 4 W11):nD ai (nJ W7) 3 F3:=by
 intro H w nY args φ hon hgl hr hφ;unfold F3 at hφ;split at hφ
 ·rename_i s t
  split at hφ
  ·rename_i l e1
   obtain ⟨q1,hφ⟩:=hφ;obtain ⟨n,g,m,h,rfl,P⟩:=@of_decide_eq_true _ (ay _) q1;have hφ:φ (.v (.bool ah)):=hφ;have hn:dD.ntmps=65:=by kernel_rfl
   match args,hr with
   |[a0,a1],⟨r0,r1,_⟩=>
   have fin:up φ (.b ah):=nP (s':=.v (.bool ah)) (.inr rfl) hφ;have hl:=auw l;have hlv:Bd l=1\/Bd l=2\/Bd l=3:=by omega
   have apv:sD H [hsS n g m h,.i .i64 l] [a0,a1]:=⟨r0,rO e1 r1,trivial⟩;have kE:IX (hsS n g m h) (hsS n g m h)=ah:=@decide_eq_true _ (ay _) rfl;have kz:decide (Bd l=Bd l)=ah:=decide_eq_true rfl;by_cases hg:(oJ n g m h).okb=ah/\(oJ n g m h).n<=12
   ·obtain ⟨hok,hN⟩:=hg
    have T:=Um P hok hN;have O13:=awR P hlv hok hN;have hgo:(uZ (hsS n g m h) (Bd l)).okb=ah:=by
     show ((oJ n g m h).okb&&decide ((oJ n g m h).n<=12))=ah;simp_all
    have ga:=adb (mo:=65536) P hl rfl hgo;have hpr:=apj (g0:=rD (xQ (mP g))) (arh T hlv) (auA (lv:=Bd l) T) 3000 (bT (newL n g)) 3000 (rD (xQ (mP g))) (by decide) (by decide) (by decide) (FZ T) (newR T);have hby:=fun c=>ala (lv:=Bd l) (mo:=65536) P hok hN rfl c;generalize hB:oJ n g m h=B at *;generalize hC:tV (Bd l) B.T 0 B.n=C at *;refine NK (C:=C7 mM W7 (abv (hsS n g m h) (Bd l) B n (rD (xQ (mP g)))) mZ) (dC _ _) (fn:=dD) (vg:=[hsS n g m h,.i .i64 l]) (L:=L0) (by kernel_rfl) (by kernel_rfl) hon hgl apv ?_;refine EG BP (apu O11 O13 _) 300 400 [⟨3,ar1,LS3 n g m h (Bd l) B.n B.T (tV (Bd l) B.T 0 B.n) (rD (xQ (mP g))),[]⟩] ?_;rw[hn];refine rQ (nd (mM.le (mM.nK n) 100) (fun _=>nd (mM.nt (mM.le (mM.nK m) 600)) (fun _=>(fin:up φ (.b ah))) fun _=>an kE (an kz (nd (mM.nt (mM.eq 0 0)) (fun _=>(fin:up φ (.b ah)))
     fun _=>(?_:mY ai (C7 mM W7 (abv (hsS n g m h) (Bd l) B n (rD (xQ (mP g)))) mZ) (K0 H w) 3 ar1 (LS3 n g m h (Bd l) B.n B.T (tV (Bd l) B.T 0 B.n) (rD (xQ (mP g)))) [] emp (up φ))))) (fun _=>(fin:up φ (.b ah))))
    rw[hC];refine ac7 (fn:=dD) (g2:=7) (j:=1) (xs:=[.agg (gmV (Bd l) B.n B.T C n (rD (xQ (mP g)))),.agg [.int .i64 0,.sh (.sl 4 n (rD (xQ (mP g))))]]) (yC:=[KI (Bd l) B.n B.T C n (rD (xQ (mP g))),.agg [.i .i64 0,.sl 4 n (rD (xQ (mP g)))]]) (x:=.int .i64 3000) (L:=3000) (dst:=ae 41) (uJ:=ar2) (by kernel_rfl) (by kernel_rfl) (uz cu cI 7 (by kernel_rfl)) (by kernel_rfl) (by kernel_rfl) rfl hpr ?_;intro y z L' hX;show mY ai (C7 mM W7 (abv (hsS n g m h) (Bd l) B n (rD (xQ (mP g)))) mZ) (K0 H w) 3 ar2 (LD3 n g m h (Bd l) B.n B.T C (rD (xQ (mP g))) y z L') [] emp (up φ);have last (y:Bool) (c:VL (hsS n g m h) (Bd l) 65536=ah) (hy:y=ah↔yw (next (qo (Bd l) B.T C n)) (full (qo (Bd l) B.T C n)) (bT (newL n g))):up φ (.b (mM.beq (PU (hsS n g m h) (Bd l) 65536) y)):=by
     have e:PU (hsS n g m h) (Bd l) 65536=y:=by
      grind
     rw[e,show mM.beq y y=ah by cases y<;>rfl]
     exact fin
    refine qg (apu O11 O13 _) 300 400 [] ?_;cases z with
    |false=>cases y with
     |true=>have:=hX.yz rfl;cases this |false=>exact rQ fin
    |true=>cases y with
     |true=>exact rQ (an ga (nd (VL (hsS n g m h) (Bd l) 65536) (fun c=>last ah c (hX.ok rfl)) fun _=>fin)) |false=>exact rQ (an ga (nd (VL (hsS n g m h) (Bd l) 65536) (fun c=>last ag c (hX.ok rfl)) fun _=>fin))
   ·obtain ⟨c,k,f,hc,O13⟩:=awS P hlv hg
    refine NK (C:=C7 mM W7 (ajA (hsS n g m h) (Bd l) c k f) mZ) (dC _ _) (fn:=dD) (vg:=[hsS n g m h,.i .i64 l]) (L:=L0) (by kernel_rfl) (by kernel_rfl) hon hgl apv ?_;refine qg (auB O11 O13 _) 300 400 [] ?_;rw[hn];have hne:mM.nt (mM.eq c 0)=ah:=by simp[oL,nG,hc]
    exact rQ (nd (mM.le (mM.nK n) 100) (fun _=>nd (mM.nt (mM.le (mM.nK m) 600)) (fun _=>(fin:up φ (.b ah))) fun _=>an kE (an kz (nd (mM.nt (mM.eq c 0)) (fun _=>(fin:up φ (.b ah))) fun a=>(Zu hne a:False)))) (fun _=>(fin:up φ (.b ah))))
  ·exact hφ.elim
 ·exact hφ.elim
end
end Go.Rg
namespace Go.Sx
open Go.RowKit Go.ChangeShapes Go.WideShapes Go.Deep
def uj(w:World):Mem:=fun b=>w.heap[b]?
theorem alb(w:World):(uj w).on w:=fun _ _ h=>h
theorem Sl{w:World}{a:Addr}{v:Value}(h:w.cell? a=ae v):hcell (uj w) a.block a.off=ae v/\a.spot=ao:=by
 unfold World.cell? at h;unfold hcell uj;(split at h)<;>simp_all
section
variable{H:Type}{enc:TypeId×Value->H}{P:Program}{w:World}{base:Nat}{spare:Nat->Bool}{held:Bool}
def apw(P:Program)(fs:Array Field)(k:Nat):Bool:=
 fs.size==k&&(List.range k).all fun i=>match fs[i]? with
  |some f=>f.offset==i&&(match P.underlying f.type with|some (.int .i64)=>ah|_=>ag)&&P.cellsOf f.type==1
  |none=>ag
def rowB(P:Program)(e k:Nat):Bool:=
 match P.underlying e with
 |some (.int .i64)=>k==1&&P.cellsOf e==1 |some (.struct fs)=>apw P fs k&&P.cellsOf e==k |_=>ag
def int64(n:Int):Prop:=(Lit.int .i64 n).wf=ah
theorem af6{e k fuel:Nat}{cs:List Value}{x:DataW H×List MemPlace}(hr:rowB P e k=ah)(h:mb enc P w base spare held fuel e cs=ae x):
  ∃ns:List Int,ns.length=k/\cs=ns.map (cR .i64)/\∀n∈ns,int64 n:=by
 unfold rowB at hr;split at hr
 ·rename_i hu
  simp only[ak,beq_iff_eq] at hr;obtain ⟨n,rfl,_,hw⟩:=gu hu h;exact ⟨[n],hr.1.symm,rfl,fun m hm=>by simp at hm;subst hm;exact hw⟩
 ·rename_i fs hu
  simp only[ak,beq_iff_eq] at hr;obtain ⟨hf,hc⟩:=hr;unfold apw at hf;simp only[ak,beq_iff_eq] at hf;obtain ⟨hk,hf⟩:=hf;obtain ⟨xs,m,_,_,hlen,hxs,hel⟩:=i8 hu h;rw[hc] at hlen;have cell:∀i,i<k->∃n,cs[i]?=ae (.int .i64 n)/\int64 n:=fun i hi=>by
   have q:=bh.1 hf i (bI.2 hi);split at q
   ·rename_i f hfi
    simp only[ak,beq_iff_eq] at q;obtain ⟨⟨ho,ht⟩,h1⟩:=q;have ht:P.underlying f.type=ae (.int .i64):=by
     grind
    have q2:=hel i f hfi;rw[ho,h1] at q2;have hxi:i<xs.length:=by omega
    rw[aC hxi] at q2;obtain ⟨n,e1,_,e3⟩:=gu ht q2;refine ⟨n,?_,e3⟩;have:(jU 1 (jV i cs))[0]?=ae (.int .i64 n):=by rw[e1];rfl
    grind
   ·cases q
  clear hel h hf;have:∀(j:Nat) (l:List Value),l.length=j->(∀i,i<j->∃n,l[i]?=ae (.int .i64 n)/\int64 n)->∃ns:List Int,ns.length=j/\l=ns.map (cR .i64)/\∀n∈ns,int64 n:=by
   intro j;induction j with
   |zero=>simp |succ j ih=>
    intro l hl hc;match l,hl with
    |v::l,hl=>
     obtain ⟨ns,h1,h2,h3⟩:=ih l (by grind) fun i hi=>by grind
     obtain ⟨n,q1,q2⟩:=hc 0 (by omega);simp at q1;subst q1;exact ⟨n::ns,by simp[h1],by simp[h2],fun m hm=>by
      grind⟩
  simp_all
 ·cases hr
def yP(ns:List Int):List Sh:=ns.map (Sh.i .i64)
theorem ah8{w:World}{base:Nat}{a:Addr}{n:Nat}{cs:List Value}(h:w.cells? base a n=ae cs):cs.length=n/\∀j,j<n->w.cell? (a.add j)=cs[j]?:=by
 unfold World.cells? at h;split at h
 ·have:∀(l:List Nat) (cs:List Value),l.mapM (fun i=>w.cell? (a.add i))=ae cs->cs.length=l.length/\∀(j:Nat) (i:Nat),l[j]?=ae i->w.cell? (a.add i)=cs[j]?:=by
   intro l;induction l with
   |nil=>simp |cons x l ih=>
    intro cs h;rw[List.mapM_cons] at h;simp only[Option.bind_eq_bind,Option.bind_eq_some_iff,Option.pure_def] at h;grind
  obtain ⟨e1,e2⟩:=this _ _ h;grind
 ·cases h
theorem apx(a:Addr)(n:Nat):(a.add n).off=a.off+n/\(a.add n).block=a.block:=by
 grind [eZ]
theorem add_add'(a:Addr)(i j:Nat):(a.add i).add j=a.add (i+j):=by
 grind [eZ,iC]
theorem ZA{t e k fuel:Nat}{cs:List Value}{x:DataW H×List MemPlace}(ht:P.underlying t=ae (.slice e))(hr:rowB P e k=ah)(hk:P.cellsOf e=k)(h0:0<k)
  (h:mb enc P w base spare held fuel t cs=ae x) :
  ∃v n g,cs=[v]/\Rep (uj w) (.sl k n g) v/\∀i,i<n->∃ns:List Int,ns.length=k/\g i=yP ns/\∀n∈ns,int64 n:=by
 rcases open_slice ht h with ⟨rfl,_⟩ |⟨a,len,cap,m,n,D,Pl,rfl,hb,hl,hcap,hm,_,hel⟩
 ·exact ⟨_,0,fun _=>[],rfl,.sl0 _ _ _ _ (Nat.zero_le _),fun i hi=>by omega⟩
 have hlm:len<=m:=by grind
 rw[hk] at hel;have row:∀i,i<len->∃ns:List Int,ns.length=k/\w.cells? base (a.add (i*k)) k=ae (ns.map (cR .i64))/\∀n∈ns,int64 n:=fun i hi=>by
  obtain ⟨cs',h1,h2⟩:=hel i (by omega);grind [af6]
 by_cases hz:len=0
 ·subst hz
  exact ⟨_,0,fun _=>[],rfl,.sl0 _ _ _ _ hcap,fun i hi=>by omega⟩
 let N:Nat->List Int:=fun i=>if h:i<len then (row i h).choose else []
 have hN:∀i,i<len->(N i).length=k/\w.cells? base (a.add (i*k)) k=ae ((N i).map (cR .i64))/\∀n∈N i,int64 n:=fun i hi=>by
  grind
 have cell:∀i j,i<len->j<k->w.cell? (a.add (i*k+j))=((N i).map (cR .i64))[j]?:=fun i j hi hj=>by
  grind [ah8,add_add']
 have hspot:a.spot=ao:=by
  have h1:=cell 0 0 (by omega) h0;have:∃v,w.cell? a=ae v:=by
   grind [eZ]
  obtain ⟨v,hv⟩:=this;exact (Sl hv).2
 obtain ⟨blk,off,spot⟩:=a;simp only at hspot;subst hspot;refine ⟨_,len,fun i=>yP (N i),rfl,.sl _ _ _ blk off cap (fun i j=>((N i).map (cR .i64)).getD j .nilFunc) hl hcap (fun i hi=>by simp_all [yP]) (fun i j hi hj=>?_) (fun i j hi hj=>?_) (fun i j s hi e=>?_),fun i hi=>⟨N i,(hN i hi).1,rfl,(hN i hi).2.2⟩⟩
 ·grind [aC,Sl,apx,iC]
 ·have hlt:j<(N i).length:=by simp_all
  simp[aO,hlt];rfl
 ·simp only[yP,bY,aP] at e
  obtain ⟨n,h3,rfl⟩:=e;simp[aO,h3];exact .i _ _
def apy(P:Program)(t:Nat)(k0 k1:Nat):Bool:=
 match P.underlying t with
 |some (.struct fs)=>fs.size==2&&P.cellsOf t==2&&(match fs[0]?,fs[1]? with
  |some f0,ae f1=>f0.offset==0&&f1.offset==1&&P.cellsOf f0.type==1&&P.cellsOf f1.type==1&&(match P.underlying f0.type,P.underlying f1.type with
   |some (.slice e0),ae (.slice e1)=>rowB P e0 k0&&P.cellsOf e0==k0&&rowB P e1 k1&&P.cellsOf e1==k1 |_,_=>ag)
  |_,_=>ag)
 |_=>ag
theorem alc{t k0 k1:Nat}{v:Value}{d:DataW H}{ps:List MemPlace}(hp:apy P t k0 k1=ah)(h00:0<k0)(h01:0<k1){b0:Nat}(hval:ei P w .any b0 t v)(hd:DataW.Trod enc P w base spare held t v d ps):
  ∃n0 g0 n1 g1,Rep (uj w) (.agg [.sl k0 n0 g0,.sl k1 n1 g1]) v/\(∀i,i<n0->∃ns:List Int,ns.length=k0/\g0 i=yP ns/\∀n∈ns,int64 n)/\∀i,i<n1->∃ns:List Int,ns.length=k1/\g1 i=yP ns/\∀n∈ns,int64 n:=by
 unfold apy at hp;split at hp
 ·rename_i fs hu
  unfold ei at hval;rw[hu] at hval;obtain ⟨cs,rfl,hsz,_⟩:=hval;simp only[ak,beq_iff_eq] at hp;obtain ⟨⟨h2,hc⟩,hp⟩:=hp;split at hp
  ·rename_i f0 f1 hf0 hf1
   simp only[ak,beq_iff_eq] at hp;obtain ⟨⟨⟨⟨o0,o1⟩,c0⟩,c1⟩,hp⟩:=hp;split at hp
   ·rename_i e0 e1 hs0 hs1
    simp only[ak,beq_iff_eq] at hp;obtain ⟨⟨⟨r0,q0⟩,r1⟩,q1⟩:=hp;obtain ⟨fuel,hd⟩:=hd;obtain ⟨xs,m,_,_,hlen,hxs,hel⟩:=i8 hu hd;have a0:=hel 0 f0 hf0;have a1:=hel 1 f1 hf1;rw[o0,c0,aC (by omega)] at a0;rw[o1,c1,aC (by omega)] at a1;obtain ⟨v0,n0,g0,x0,y0,z0⟩:=ZA hs0 r0 q0 h00 a0;obtain ⟨v1,n1,g1,x1,y1,z1⟩:=ZA hs1 r1 q1 h01 a1;rw[hc] at hsz;obtain ⟨l⟩:=cs;match l,hsz with
    |[u0,u1],_=>
     simp[Value.cells] at x0 x1;subst x0 x1;refine ⟨n0,g0,n1,g1,.agg _ _ rfl fun j s v e1 e2=>?_,z0,z1⟩;grind
   ·cases hp
  ·cases hp
 ·cases hp
end
open Go.RowKit Go.ChangeShapes Go.WideShapes Go.Deep
theorem NS{P:Program}{W:World}{n:String}{g:Nat}{cs:Array Value}(hg:P.globalNamed n=ae g)(h:W.var? P n=ae cs):∃e f,W.heap[g]?=ae (.cells cs e f):=by
 grind [World.var?]
theorem apz{P:Program}{n nm:String}{text:List UInt8}{r:List (String×DataW Unit)}{W:World}{g:Nat}{ti tp te ts:TypeId}{ms:Array (String×TypeId)}{f:Field}
  (h:laidMet P ((n,.iface nm (.ptr (.agg [.lit (.string text)])))::r) W)
  (hg:P.globalNamed n=ae g) (ht:(P.globals[g]?).map (·.type)=ae ti) (hi:P.underlying ti=ae (.interface ms)) (hrow:∀u,P.typeName? 3 u=ae nm->u=tp)
  (hp:P.underlying tp=ae (.pointer te)) (he:P.underlying te=ae (.struct #[f])) (hft:f.type=ts) (hfo:f.offset=0) (hs:P.underlying ts=ae .string) (hc:P.cellsOf te=1) (hcs:P.cellsOf ts=1) :
  wV (uj W) g (.er g tp):=by
 obtain ⟨ps,⟨g0,t0,cs0,f0,p0,q0,hg0,ht0,hv0,hd0,_,e0⟩,_,hrows⟩:=h;obtain rfl:=aS (hg.symm.trans hg0);obtain rfl:=aS (ht.symm.trans ht0);subst e0;obtain ⟨l0⟩:=cs0;have ok0:∀u v,l0=[.iface u v]->ei P W .any 0 u v:=fun u v e=>by
  subst e;exact (hrows g 0 (by simp[gC])).2 u v (by simpa using jW hg0 hv0 0)
 obtain ⟨a0,s0,rfl,hc0,hs0,hz0,rfl⟩:=errorString_of_trod hi hrow hp he hft hfo hs hc hcs hd0 ok0;obtain ⟨c0,t0,hb0⟩:=(hrows a0.block a0.off (by simp[gC])).1;obtain ⟨e,f,hh⟩:=NS hg hv0;have h1:hcell (uj W) g 0=ae (.iface tp (.pointer (ae a0))):=by
  simp_all [hcell,uj]
 exact ⟨_,h1,.er g tp a0 c0 t0 h1 hb0,rfl⟩
theorem ah9{P:Program}{n:String}{texts:List (List UInt8)}{r:List (String×DataW Unit)}{W:World}{g:Nat}{t e:TypeId}{k:Nat}
  (h:laidMet P ((n,.agg (texts.map fun s=>.lit (.string s)))::r) W)
  (hg:P.globalNamed n=ae g) (ht:(P.globals[g]?).map (·.type)=ae t) (hu:P.underlying t=ae (.array k e)) (he:P.underlying e=ae .string) (hce:P.cellsOf e=1) (hct:P.cellsOf t=texts.length) :
  wV (uj W) g (.mX (texts.map Sh.str)):=by
 obtain ⟨ps,⟨g0,t0,cs0,f0,p0,q0,hg0,ht0,hv0,hd0,_,e0⟩,_,hrows⟩:=h;obtain rfl:=aS (hg.symm.trans hg0);obtain rfl:=aS (ht.symm.trans ht0);obtain ⟨e1,f1,hh⟩:=NS hg hv0;obtain ⟨xs,m,_,hx,hlen,hxs,hel⟩:=jv hu hd0;have hxs':xs.map (·.1)=texts.map fun s=>.lit (.string s):=by
  simp_all
 have hkt:k=texts.length:=by
  have:=congrArg mc hxs';grind
 subst hkt;have cell:∀j (hj:j<texts.length),cs0[j]?=ae (.string ⟨texts[j].toArray⟩):=fun j hj=>by
  have q:=hel j hj;rw[hce,mn] at q;have hxj:j<xs.length:=by omega
  rw[aC hxj] at q;obtain ⟨s,q1,q2,_⟩:=DataW.trod_string he q;have q3:(xs.map (·.1))[j]?=ae (.lit (.string texts[j])):=by simp_all
  have q4:(xs[j]).1=.lit (.string texts[j]):=by
   grind
  rw[q2] at q4;simp at q4;have q5:(jU 1 (jV j cs0.toList))[0]?=ae (.string s):=by rw[q1];rfl
  have q6:cs0[j]?=ae (.string s):=by grind
  rw[q6];obtain ⟨⟨l⟩⟩:=s;simp_all
 refine ⟨⟨cs0,e1,f1,hh,by simp_all⟩,fun j=>.string ⟨(texts.getD j []).toArray⟩,fun j hj=>?_,fun j s hs=>?_⟩
 ·have hj':j<texts.length:=by grind
  refine ⟨?_,rfl⟩;simp_all [hcell,uj,aO,ja]
 ·rw[bY,aP] at hs
  obtain ⟨l,h1,rfl⟩:=hs;show Rep (uj W) (.str l) (.string ⟨(texts.getD j []).toArray⟩);rw[aO,h1];exact .str l
theorem aia{P:Program}{n:String}{kd:IntKind}{texts:List Int}{r:List (String×DataW Unit)}{W:World}{g:Nat}{t e:TypeId}{k:Nat}
  (h:laidMet P ((n,.agg (texts.map fun s=>.lit (.int kd s)))::r) W)
  (hg:P.globalNamed n=ae g) (ht:(P.globals[g]?).map (·.type)=ae t) (hu:P.underlying t=ae (.array k e)) (he:P.underlying e=ae (.int kd)) (hce:P.cellsOf e=1) (hct:P.cellsOf t=texts.length) :
  wV (uj W) g (.mX (texts.map (Sh.i kd))):=by
 obtain ⟨ps,⟨g0,t0,cs0,f0,p0,q0,hg0,ht0,hv0,hd0,_,e0⟩,_,hrows⟩:=h;obtain rfl:=aS (hg.symm.trans hg0);obtain rfl:=aS (ht.symm.trans ht0);obtain ⟨e1,f1,hh⟩:=NS hg hv0;obtain ⟨xs,m,_,hx,hlen,hxs,hel⟩:=jv hu hd0;have hxs':xs.map (·.1)=texts.map fun s=>.lit (.int kd s):=by
  simp_all
 have hkt:k=texts.length:=by
  have:=congrArg mc hxs';grind
 subst hkt;have cell:∀j (hj:j<texts.length),cs0[j]?=ae (.int kd texts[j]):=fun j hj=>by
  have q:=hel j hj;rw[hce,mn] at q;have hxj:j<xs.length:=by omega
  rw[aC hxj] at q;obtain ⟨s,q1,q2,_⟩:=gu he q;have q3:(xs.map (·.1))[j]?=ae (.lit (.int kd texts[j])):=by simp_all
  have q4:(xs[j]).1=.lit (.int kd texts[j]):=by
   grind
  rw[q2] at q4;simp at q4;have q5:(jU 1 (jV j cs0.toList))[0]?=ae (.int kd s):=by rw[q1];rfl
  grind
 refine ⟨⟨cs0,e1,f1,hh,by simp_all⟩,fun j=>.int kd (texts.getD j 0),fun j hj=>?_,fun j s hs=>?_⟩
 ·have hj':j<texts.length:=by grind
  refine ⟨?_,rfl⟩;simp_all [hcell,uj,aO,ja]
 ·rw[bY,aP] at hs
  obtain ⟨l,h1,rfl⟩:=hs;show Rep (uj W) (.i kd l) (.int kd (texts.getD j 0));rw[aO,h1];exact .i kd l
def abw(H:Mem)(W:World)(g:Nat)(text:List UInt8):Prop:=∃a T s,hcell H g 0=ae (.iface T (.pointer (ae a)))/\W.cell? a=ae (.string s)/\s.data.toList=text
theorem abw.ne{H:Mem}{W:World}{g g':Nat}{t t':List UInt8}(h:abw H W g t)(h':abw H W g' t')(hne:t≠t'):hcell H g 0≠hcell H g' 0:=by
 obtain ⟨a,T,s,h1,h2,h3⟩:=h;obtain ⟨a',T',s',q1,q2,q3⟩:=h';intro e;rw[h1,q1] at e;cases e;rw[h2] at q2;cases q2;exact hne (h3.symm.trans q3)
theorem apA{P:Program}{n nm:String}{text:List UInt8}{r:List (String×DataW Unit)}{W:World}{g:Nat}{ti tp te ts:TypeId}{ms:Array (String×TypeId)}{f:Field}
  (h:laidMet P ((n,.iface nm (.ptr (.agg [.lit (.string text)])))::r) W)
  (hg:P.globalNamed n=ae g) (ht:(P.globals[g]?).map (·.type)=ae ti) (hi:P.underlying ti=ae (.interface ms)) (hrow:∀u,P.typeName? 3 u=ae nm->u=tp)
  (hp:P.underlying tp=ae (.pointer te)) (he:P.underlying te=ae (.struct #[f])) (hft:f.type=ts) (hfo:f.offset=0) (hs:P.underlying ts=ae .string) (hc:P.cellsOf te=1) (hcs:P.cellsOf ts=1) :
  abw (uj W) W g text:=by
 obtain ⟨ps,⟨g0,t0,cs0,f0,p0,q0,hg0,ht0,hv0,hd0,_,e0⟩,_,hrows⟩:=h;obtain rfl:=aS (hg.symm.trans hg0);obtain rfl:=aS (ht.symm.trans ht0);subst e0;obtain ⟨l0⟩:=cs0;have ok0:∀u v,l0=[.iface u v]->ei P W .any 0 u v:=fun u v e=>by
  subst e;exact (hrows g 0 (by simp[gC])).2 u v (by simpa using jW hg0 hv0 0)
 obtain ⟨a0,s0,rfl,hc0,hs0,hz0,rfl⟩:=errorString_of_trod hi hrow hp he hft hfo hs hc hcs hd0 ok0;obtain ⟨e,f,hh⟩:=NS hg hv0;have h1:hcell (uj W) g 0=ae (.iface tp (.pointer (ae a0))):=by
  unfold hcell uj;rw[hh];rfl
 exact ⟨a0,tp,s0,h1,hc0,hs0⟩
end Go.Sx
namespace Go.Proofs
open Go Go.Sx Go.RowKit Go.ChangeShapes
theorem apB : "*" ++ "errors.errorString" = "*errors.errorString" :=by decide
theorem ar4(u:TypeId)(h:ai.typeName? 3 u=ae "*errors.errorString"):u=288:=
 typeName_ptr_named (nm:= "errors.errorString") (by rw[apB];kernel_rfl) (by kernel_rfl) (by decide) u (by rw[apB];exact h)
theorem Oa{n:String}{text:List UInt8}{r:List (String×DataW Unit)}{W:World}{g:Nat}(h:laidMet ai ((n,.iface "*errors.errorString" (.ptr (.agg [.lit (.string text)])))::r) W)
  (hg:ai.globalNamed n=ae g) (ht:(ai.globals[g]?).map (·.type)=ae 46):wV (uj W) g (.er g 288)/\abw (uj W) W g text:=
 ⟨apz h hg ht jw ar4 jc jd rfl rfl eC (by kernel_rfl) (by kernel_rfl),apA h hg ht jw ar4 jc jd rfl rfl eC (by kernel_rfl) (by kernel_rfl)⟩
theorem st7{n:String}{texts:List (List UInt8)}{r:List (String×DataW Unit)}{W:World}{g t k:Nat}(h:laidMet ai ((n,.agg (texts.map fun s=>.lit (.string s)))::r) W)
  (hg:ai.globalNamed n=ae g) (ht:(ai.globals[g]?).map (·.type)=ae t) (hu:ai.underlying t=ae (.array k 9)) (hct:ai.cellsOf t=texts.length):wV (uj W) g (.mX (texts.map Sh.str)):=
 ah9 h hg ht hu eC (by kernel_rfl) hct
open YtemojddccikgkaaGreatDoor.Rows in
abbrev laid7:List (String×DataW Unit):=searchBothRow.laid
def af7:List (Nat×List UInt8):=[(0,[116,104,101,32,115,101,97,114,99,104,32,104,97,115,32,115,101,101,110,32,116,111,111,32,109,117,99,104]),(1,[110,111,32,108,101,118,101,108]),(2,[110,111,32,99,101,114,116,105,102,105,99,97,116,101]),(3,[116,104,101,114,101,32,105,115,32,110,111,110,101]),(4,[105,116,32,119,97,115,32,115,116,111,112,112,101,100]),(5,[116,111,111,32,109,97,110,121,32,116,114,97,110,115,97,99,116,105,111,110,115,32,116,111,32,98,101,32,106,117,100,103,101,100]),(6,[116,111,111,32,109,97,110,121]),(7,[110,111,32,111,98,106,101,99,116]),(8,[110,111,32,111,112,101,114,97,116,105,111,110,32,111,102,32,116,104,97,116,32,111,98,106,101,99,116]),(9,[110,111,32,97,110,115,119,101,114,32,111,102,32,116,104,97,116,32,111,112,101,114,97,116,105,111,110]),(10,[105,116,32,104,97,115,32,98,101,103,117,110,32,97,108,114,101,97,100,121]),(11,[116,104,101,32,116,104,114,101,97,100,32,105,115,32,98,117,115,121]),(12,[110,111,32,115,117,99,104,32,116,114,97,110,115,97,99,116,105,111,110]),(13,[105,116,32,100,111,101,115,32,110,111,116,32,99,111,109,101,32,104,101,114,101]),(14,[110,111,32,115,117,99,104,32,99,111,100,101]),(15,[110,111,32,101,118,101,110,116])]
theorem PX(n:Nat){g:Nat}{t:List UInt8}(h:af7[n]?=ae (g,t)):(g,t)∈af7:=List.mem_of_getElem? h
theorem aib:(af7.all fun p=>af7.all fun q=>p.1==q.1||p.2 != q.2)=ah:=by decide +kernel
theorem ale{W:World}(h:laidMetH ai laid7 W):qE (nJ W7) (uj W):=by
 rw[MakeChecks.laidMetH_plain _ _ _ (by kernel_rfl)] at h;have z0:=h;have z1:=z0.tail;have z2:=z1.tail;have e23:wV (uj W) 23 (.mX (pow10.map (Sh.i .u64))):=aia (kd:=.u64) (texts:=pow10) z2 (by kernel_rfl) (by kernel_rfl) Tryz.underlying281 Tryz.underlying274 (by kernel_rfl) (by kernel_rfl);have z3:=z2.tail;have e6:=Oa (g:=6) z3 (by kernel_rfl) (by kernel_rfl);have z4:=z3.tail;have e14:=Oa (g:=14) z4 (by kernel_rfl) (by kernel_rfl);have z5:=z4.tail;have e7:=Oa (g:=7) z5 (by kernel_rfl) (by kernel_rfl);have z6:=z5.tail;have e15:=Oa (g:=15) z6 (by kernel_rfl) (by kernel_rfl);have z7:=z6.tail;have e8:=Oa (g:=8) z7 (by kernel_rfl) (by kernel_rfl);have z8:=z7.tail;have e9:=Oa (g:=9) z8 (by kernel_rfl) (by kernel_rfl);have z9:=z8.tail;have e12:=Oa (g:=12) z9 (by kernel_rfl) (by kernel_rfl);have z10:=z9.tail;have e10:=Oa (g:=10) z10 (by kernel_rfl) (by kernel_rfl);have z11:=z10.tail;have e11:=Oa (g:=11) z11 (by kernel_rfl) (by kernel_rfl);have z12:=z11.tail;have e13:=Oa (g:=13) z12 (by kernel_rfl) (by kernel_rfl);have z13:=z12.tail;have e1:=Oa (g:=1) z13 (by kernel_rfl) (by kernel_rfl);have z14:=z13.tail;have e5:=Oa (g:=5) z14 (by kernel_rfl) (by kernel_rfl);have z15:=z14.tail;have e0:=Oa (g:=0) z15 (by kernel_rfl) (by kernel_rfl);have z16:=z15.tail;have e2:=Oa (g:=2) z16 (by kernel_rfl) (by kernel_rfl);have z17:=z16.tail;have e3:=Oa (g:=3) z17 (by kernel_rfl) (by kernel_rfl);have z18:=z17.tail;have e4:=Oa (g:=4) z18 (by kernel_rfl) (by kernel_rfl);have z19:=z18.tail;have e16:wV (uj W) 16 (.mX (QU W7 16 4)):=st7 (texts:=[W7 16 0,W7 16 1,W7 16 2,W7 16 3]) z19 (by kernel_rfl) (by kernel_rfl) fp (by kernel_rfl);have z20:=z19.tail;have e17:wV (uj W) 17 (.mX (QU W7 17 7)):=st7 (texts:=[W7 17 0,W7 17 1,W7 17 2,W7 17 3,W7 17 4,W7 17 5,W7 17 6]) z20 (by kernel_rfl) (by kernel_rfl) Tryz.underlying260 (by kernel_rfl);have z21:=z20.tail;have e18:wV (uj W) 18 (.mX (QU W7 18 9)):=st7 (texts:=[W7 18 0,W7 18 1,W7 18 2,W7 18 3,W7 18 4,W7 18 5,W7 18 6,W7 18 7,W7 18 8]) z21 (by kernel_rfl) (by kernel_rfl) Tryz.underlying261 (by kernel_rfl);have z22:=z21.tail;have e19:wV (uj W) 19 (.mX (QU W7 19 3)):=st7 (texts:=[W7 19 0,W7 19 1,W7 19 2]) z22 (by kernel_rfl) (by kernel_rfl) Tryz.underlying262 (by kernel_rfl);have z23:=z22.tail;have e20:wV (uj W) 20 (.mX (QU W7 20 4)):=st7 (texts:=[W7 20 0,W7 20 1,W7 20 2,W7 20 3]) z23 (by kernel_rfl) (by kernel_rfl) fp (by kernel_rfl);have z24:=z23.tail;have e21:wV (uj W) 21 (.mX (QU W7 21 4)):=st7 (texts:=[W7 21 0,W7 21 1,W7 21 2,W7 21 3]) z24 (by kernel_rfl) (by kernel_rfl) fp (by kernel_rfl);have tx:∀g T,mQ (nJ W7) g=ae (.er g T)->∃t,(g,t)∈af7/\abw (uj W) W g t:=fun g T hg=>by
  match g,hg with
  |0,_=>exact ⟨_,PX 0 rfl,e0.2⟩ |1,_=>exact ⟨_,PX 1 rfl,e1.2⟩ |2,hg=>cases hg |3,_=>exact ⟨_,PX 3 rfl,e3.2⟩ |4,_=>exact ⟨_,PX 4 rfl,e4.2⟩ |5,_=>exact ⟨_,PX 5 rfl,e5.2⟩ |6,_=>exact ⟨_,PX 6 rfl,e6.2⟩ |7,_=>exact ⟨_,PX 7 rfl,e7.2⟩ |8,_=>exact ⟨_,PX 8 rfl,e8.2⟩ |9,_=>exact ⟨_,PX 9 rfl,e9.2⟩ |10,_=>exact ⟨_,PX 10 rfl,e10.2⟩ |11,_=>exact ⟨_,PX 11 rfl,e11.2⟩ |12,_=>exact ⟨_,PX 12 rfl,e12.2⟩ |13,_=>exact ⟨_,PX 13 rfl,e13.2⟩ |14,_=>exact ⟨_,PX 14 rfl,e14.2⟩ |15,_=>exact ⟨_,PX 15 rfl,e15.2⟩ |16,hg=>cases hg |17,hg=>cases hg |18,hg=>cases hg |19,hg=>cases hg |20,hg=>cases hg |21,hg=>cases hg |22,hg=>cases hg |23,hg=>cases hg |n+24,hg=>simp[nJ,mQ] at hg
 refine ⟨fun g s hg=>?_,fun g g' T T' h1 h2 hne=>?_⟩
 ·match g,hg with
  |0,hg=>cases hg;exact e0.1 |1,hg=>cases hg;exact e1.1 |2,hg=>cases hg |3,hg=>cases hg;exact e3.1 |4,hg=>cases hg;exact e4.1 |5,hg=>cases hg;exact e5.1 |6,hg=>cases hg;exact e6.1 |7,hg=>cases hg;exact e7.1 |8,hg=>cases hg;exact e8.1 |9,hg=>cases hg;exact e9.1 |10,hg=>cases hg;exact e10.1 |11,hg=>cases hg;exact e11.1 |12,hg=>cases hg;exact e12.1 |13,hg=>cases hg;exact e13.1 |14,hg=>cases hg;exact e14.1 |15,hg=>cases hg;exact e15.1 |16,hg=>cases hg;exact e16 |17,hg=>cases hg;exact e17 |18,hg=>cases hg;exact e18 |19,hg=>cases hg;exact e19 |20,hg=>cases hg;exact e20 |21,hg=>cases hg;exact e21 |22,hg=>cases hg |23,hg=>cases hg;exact e23 |n+24,hg=>simp[nJ,mQ] at hg
 ·obtain ⟨t,m1,q1⟩:=tx g T h1
  obtain ⟨t',m2,q2⟩:=tx g' T' h2;refine q1.ne q2 fun e=>?_
  have:=bh.1 (bh.1 aib _ m1) _ m2;subst e;simp[hne] at this
end Go.Proofs
namespace Go.Sx
open Go.RowKit Go.ChangeShapes Go.WideShapes Go.Deep Go.Pl
theorem qy.below{H:Mem}{w w':World}{s:Sh}{v:Value}{H':Mem}(h:qy H w s v H' w'):Below w.heap.size w w':=⟨h.os,h.tape,h.output,h.size,h.old⟩
theorem qy.bool{H:Mem}{w w':World}{b:Bool}{v:Value}{H':Mem}(h:qy H w (.b b) v H' w'):v=.bool b:=by
 obtain ⟨E1,_,_,h1,_⟩:=h.res 0;exact h1
def Ws(P:Program)(ts:List TypeId):Bool:=ts.all fun t=>P.readableRec t&&decide (t<P.types.size)
section
variable{H:Type}{enc:TypeId×Value->H}{P:Program}
theorem ZB(hl:laidOutB P=ah){W W':World}(hb:Below W.heap.size W W'):
  ∀{ts:List TypeId} {vs:List Value} {ds:List (DataW H)} {p:List MemPlace},Ws P ts=ah->gO enc P W 0 (fun _=>ah) ah ts vs ds p->(∀x∈p,x.block<W.heap.size)->
   gO enc P W' 0 (fun b=>decide (b<W.heap.size)) ah ts vs ds p
 |[],_,_,_,_,h,_=>by
  obtain ⟨rfl,rfl,rfl⟩:=trodAll_nil h;exact rfl
 |t::ts,_,_,_,hr,h,hlt=>by
  obtain ⟨v,vs1,d,ds1,a,b,rfl,rfl,rfl,h1,h2⟩:=trodAll_cons h;simp only[Ws,List.all_cons,ak,decide_eq_true_eq] at hr;exact ⟨a,b,Below.trod hl hr.1.1 hr.1.2 h1 hb fun x hx=>hlt x (List.mem_append_left _ hx),ZB hl hb (by simp_all [Ws]) h2 fun x hx=>hlt x (List.mem_append_right _ hx),rfl⟩
theorem alf(hl:laidOutB P=ah){f:Func}{s:ChangeSpec}{W W':World}{args:Array Value}{t:TypeId}{ds gs:List (DataW H)}{before:List MemPlace}(hs:s.vars=[])(hr:Ws P f.params.toList=ah)(ht:f.resultTypes=#[t])(hu:P.underlying t=ae .bool)
  (hW:DataW.Whole enc P f.params.toList s.vars ag W args.toList ds gs before) (hb:Below W.heap.size W W')
  (h1:(s.fn H (ds++gs)).results=[.lit (.bool ah)]) (h2:(s.fn H (ds++gs)).args=ds) (h3:(s.fn H (ds++gs)).vars=[]) :
  s.post enc P f ag ah ag ag W args (.bool ah) W':=by
 have hlt:=hW.lt;have hW0:=hW;obtain ⟨p,q,hA,hV,e,hfz,hnd⟩:=hW;rw[hs] at hV;obtain ⟨rfl,rfl⟩:=trodVars_none hV;subst e;refine ⟨ds,[],p++[],[],p,[],hW0,?_,?_,?_,Below.frame hb _,fun e=>by cases e⟩
 ·rw[h1,ht]
  exact trodAll_mk1 (shut_bool hu ah)
 ·simp_all [ZB]
 ·rw[h3,hs]
  exact rfl
end
open Go.RowKit Go.ChangeShapes Go.WideShapes Go.Deep Go.Pl
theorem alg{n:Nat}{g:Nat->List Sh}(h:∀i,i<n->∃ns:List Int,ns.length=2/\g i=yP ns/\∀n∈ns,int64 n):JA n (mP (α:=Oj) g)=ah:=by
 unfold JA;refine bh.2 fun j hj=>?_
 obtain ⟨ns,h1,h2,h3⟩:=h j (bI.1 hj);match ns,h1 with
 |[a,b],_=>
  have e:mP (α:=Oj) g j=⟨a,b⟩:=by
   unfold mP;rw[h2];rfl
  rw[e];have:=h3 a (by simp);unfold int64 at this;have h1:az.min=-9223372036854775808:=by decide
  simp_all [Lit.wf,qJ]
section
variable{H:Type}{enc:TypeId×Value->H}{P:Program}{w:World}{base:Nat}{spare:Nat->Bool}{held:Bool}
end
open Go.RowKit Go.ChangeShapes Go.WideShapes Go.Deep
theorem ZC{α:Type}[lS α]{k n:Nat}{g:Nat->List Sh}(hk:∀ns:List Int,ns.length=k->(kH (α:=α) (yP ns)).isSome=ah)(h:∀i,i<n->∃ns:List Int,ns.length=k/\g i=yP ns/\∀n∈ns,int64 n):d8 α n g=ah:=by
 induction n with
 |zero=>rfl |succ n ih=>
  obtain ⟨ns,h1,h2,_⟩:=h n (by omega);simp only[d8,ih fun i hi=>h i (by omega),Bool.true_and];rw[h2];exact hk ns h1
theorem apC{n:Nat}{g:Nat->List Sh}(h:∀i,i<n->∃ns:List Int,ns.length=2/\g i=yP ns/\∀n∈ns,int64 n):d8 cv n g=ah:=ZC (fun ns hn=>by
 match ns,hn with
 |[a,b],_=>rfl) h
theorem apD{n:Nat}{g:Nat->List Sh}(h:∀i,i<n->∃ns:List Int,ns.length=8/\g i=yP ns/\∀n∈ns,int64 n):d8 cH n g=ah:=ZC (fun ns hn=>by
 match ns,hn with
 |[a,b,c,d,e,f,x,y],_=>rfl) h
theorem alh{n:Nat}{g:Nat->List Sh}(h:∀i,i<n->∃ns:List Int,ns.length=8/\g i=yP ns/\∀n∈ns,int64 n):oz.FP n g=ah:=bh.2 fun i hi=>by
 obtain ⟨ns,h1,h2,h3⟩:=h i (bI.1 hi);match ns,h1 with
 |[a,b,c,d,e,f,x,y],_=>
  have hy:=h3 y (by simp);unfold aB;rw[h2];have e:((kH (yP [a,b,c,d,e,f,x,y])).getD oz.Row.Ad:cH).ret=y:=rfl;rw[e];have hy:(Lit.int .i64 y).wf=ah:=hy;simp only[Lit.wf,ak,decide_eq_true_eq] at hy;exact decide_eq_true hy
theorem qy.auC{H:Mem}{w w':World}{b:Bool}{v:Value}{H':Mem}(h:qy H w (.v (.bool b)) v H' w'):v=.bool b:=by
 obtain ⟨E1,_,_,h1,_⟩:=h.res 0;exact h1
end Go.Sx
namespace Go.Proofs.YtemojddccikgkaaGreatDoor
open Go.ChangeShapes Go.WideShapes Go.ChangeAt Go.WideMaps Go.WideElems Go.RowKit Go.Sx Go.Pl
theorem apE{n m:Nat}{g h:Nat->List Sh}(a:∀i,i<n->∃ns:List Int,ns.length=2/\g i=yP ns/\∀n∈ns,int64 n)(b:∀i,i<m->∃ns:List Int,ns.length=8/\h i=yP ns/\∀n∈ns,int64 n):hpB (.agg [.sl 2 n g,.sl 8 m h])=ah:=
 @decide_eq_true _ (ay _) ⟨n,g,m,h,rfl,apC a,apD b,alh b,alg a⟩
theorem awY:ownKnob ai.godebug=ao:=by kernel_rfl
theorem ali:laidOutB ai=ah:=by kernel_rfl
theorem auD(os:Os)(args:Array Value):laidMetH ai laid7 ((kf ai 400 os).forCall (fun _ _=>0) ⟨#[],args,[]⟩).memory:=
 laidMetH_of_parts3 (fuel:=8) (laidMet_of_run' 8 (by kernel_rfl) (by kernel_rfl)) (by kernel_rfl) (by kernel_rfl)
set_option maxRecDepth 100000 in
theorem lifted3(os:Os)(started:os.Started)(H:Type)(enc:TypeId×Value->H):
  ReturnsInHanded {} hJ os 3 .any (fun w args=>(Rows.searchBothSpec.pre enc ai dD [] ag w args/\laidMetH ai laid7 w)/\sizedMet enc ai dD (OpenSpec.ofChange Rows.searchBothSpec) ag w args)
   (Rows.searchBothSpec.post enc ai dD ag ah ag ag):=by
 refine returnsInHanded_of_change_and (C:=hJ) (X:=fun w _=>laidMetH ai laid7 w) (fun _ _ _ hh h=>h.of_heap hh) awY started (by kernel_rfl) je
  (ChangeSpec.witness_shaped (enc:=enc) (C:=hJ) (os:=os) (X:=fun w _=>laidMetH ai laid7 w) ag (kf ai 400 os) #[.agg #[.slice ao 0 0,.slice ao 0 0],.int .i64 0] 8 rfl (World.shaped_of_RefB (by kernel_rfl) (by kernel_rfl)) (by kernel_rfl) (by kernel_rfl) (by kernel_rfl) (auD os _)) ?_
 intro W base args ds gs before hval0 hW _ _ hL _;have hval:∀(j:Nat) t v,dD.params[j]?=ae t->args[j]?=ae v->ei ai W .any base t v:=hval0;have hW':=hW;obtain ⟨p,q,hA0,hV,e,hfz,hnd⟩:=hW;obtain ⟨rfl,rfl⟩:=trodVars_none hV;have hA:gO enc ai W 0 (fun _=>ah) ah dD.params.toList args.toList ds p:=hA0;rw[lT] at hA hval;obtain ⟨v0,vs0,d0,ds0,p0,q0,ea,rfl,rfl,t0,hA⟩:=trodAll_cons hA;obtain ⟨v1,vs1,d1,ds1,p1,q1,rfl,rfl,rfl,t1,hA⟩:=trodAll_cons hA;obtain ⟨rfl,rfl,rfl⟩:=trodAll_nil hA;have at_:∀(j:Nat) v,[v0,v1][j]?=ae v->args[j]?=ae v:=fun j v h=>by rw[<-Array.getElem?_toList,ea];exact h
 obtain ⟨n0,g0,m0,h0,r0,a0,b0⟩:=alc (k0:=2) (k1:=8) (by kernel_rfl) (by decide) (by decide) (hval 0 25 v0 rfl (at_ 0 v0 rfl)) t0;obtain ⟨x1,rfl,_,_,_⟩:=open_int Tryz.underlying3 (hval 1 3 v1 rfl (at_ 1 v1 rfl)) t1;have hc:=(Go.Rg.O3 O11) (uj W) W [.agg [.sl 2 n0 g0,.sl 8 m0 h0],.i .i64 x1] [v0,.int .i64 x1] (fun s=>s=.v (.bool ah)) (alb W) (ale hL)
  ⟨r0,.i _ _,trivial⟩ ⟨apE a0 b0,rfl⟩
 have eargs:args=[v0,.int .i64 x1].toArray:=by rw[<-ea]
 rw[eargs];refine hc.mono fun e W' ⟨v,s,H',he,hs,hr⟩=>?_;subst he hs;obtain rfl:=hr.auC;refine ⟨_,rfl,alf ali rfl (by kernel_rfl) (by kernel_rfl) Tryz.underlying4 (by rw[eargs] at hW';exact hW') hr.below rfl rfl rfl⟩
set_option maxHeartbeats 4000000 in
theorem searchBoth_holds:Rows.SearchBothSaid:=
 OpenClaim.holds_of_wide 3 dD rfl rfl rfl rfl rfl rfl rfl ⟨rfl,rfl,rfl,rfl,rfl⟩ rfl rfl rfl rfl rfl (by as_aux_lemma=>kernel_rfl) je (by as_aux_lemma=>kernel_rfl)
  (of_decide_eq_true (by as_aux_lemma=>kernel_rfl)) (by unfold Func.isWrapper;first|(rw[if_pos (by decide +kernel)];kernel_rfl) |(rw[if_neg (by decide +kernel)];exact ⟨rfl,rfl⟩))
  (fun os started H enc _=>lifted3 os started H enc)
open Go
theorem searchBoth_card:Rows.SearchBothCardSaid:=
 Claim7.holds_tied_plain_at .later [] [.data,.data,.data,.sentinel,.sentinel,.sentinel,.sentinel,.sentinel,.sentinel,.sentinel,.sentinel,.sentinel,.sentinel,.sentinel,.sentinel,.sentinel,.sentinel,.sentinel,.sentinel,.data,.data,.data,.data,.data,.data] ah (ah, "bd975b549111a364b021e1a91c87e7946101de97d90db3b839ffa61e58e4edb5") ah
  searchBoth_holds (fun _ h=>by cases h) (by kernel_rfl) (fun _ h=>by cases h) searchBoth_row_tie rfl ⟨rfl,rfl⟩ (by kernel_rfl) rfl
  (fun f fn hf hfn=>by
   obtain rfl:f=3:=aS ((show ai.funcNamed "umpire/umpirelaw12.SearchBoth" = ae 3 by kernel_rfl).symm.trans hf) |>.symm
   obtain rfl:fn=dD:=(aS (je.symm.trans hfn)).symm;exact ⟨by kernel_rfl,fun j t ht=>by
    rw[lT] at ht;have hm:t∈[25,3]:=by simpa using Array.mem_of_getElem? ht
    have hall:([25,3].all fun u=>!Tryz.prog.wantsStandIn u)=ah:=by kernel_rfl
    exact (show ai.wantsStandIn t=ag by simpa using bh.1 hall t hm)⟩)
  (by kernel_rfl)
#print axioms searchBoth_card
end Go.Proofs.YtemojddccikgkaaGreatDoor
