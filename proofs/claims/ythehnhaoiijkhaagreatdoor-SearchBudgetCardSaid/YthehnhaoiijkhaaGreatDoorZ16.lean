/- SearchBudget holds of the given program for every input: a greater budget answers the same, ErrBudget comes just where there are more pairs, and the pairs are at least one and at most the budget; no conditions. -/
import Derived.Test.YthehnhaoiijkhaaGreatDoorZ15
import Derived.OpenShut
import Derived.MakeChecks
import Derived.Test.YthehnhaoiijkhaaGreatDoorRows
import Derived.Carry
import Derived.Stop.Joined
import Derived.Test.YthehnhaoiijkhaaGreatDoorTie
import Derived.Test.YthehnhaoiijkhaaGreatDoorCards
open Int (ofNat)
open Bool renaming true->aC,and_eq_true->aI,false->ak
open Classical renaming propDecidable->bM
open Go.DataW renaming trod_array->uH,TrodAll->qo
open Go.IntKind renaming i64->aN
open Go.MemPlace renaming row->pV
open Go.BF renaming okB->oC
open Go.BF.Row renaming get->wM
open Go.Proofs.Tryz renaming prog->aB,underlying46->uI,underlying329->tJ,underlying343->tK,underlying9->lQ,underlying300->nI,checked->qQ,f5->kS,func5->tN,params5->yI,underlying3->kL
open Go.Value renaming okWide->nZ
open Go.World renaming var?_cell->vC,doorLaid->wu
open List renaming length->yZ,getElem?_eq_getElem->aV,getElem?_map->gV,take->zU,drop->zV,length_map->dW,getD_eq_getElem?_getD->aY,all_eq_true->dO,mem_range->dP
open Nat renaming mul_one->zi
open Option renaming some->ay,getD_some->nY,map_eq_some_iff->cu
open Option.some renaming inj->dh
namespace Go.Sx
open Go.RowKit Go.ChangeShapes Go.WideShapes Go.Deep
theorem TQ{P:Program}{W:World}{n:String}{g:Nat}{cs:Array Value}(hg:P.globalNamed n=ay g)(h:W.var? P n=ay cs):∃e f,W.heap[g]?=ay (.cells cs e f):=by
 unfold World.var? at h;rw[hg] at h;simp only[Option.bind_some] at h;split at h
 ·rename_i c e f hb
  cases h;exact ⟨_,_,hb⟩
 ·cases h
theorem aqx{P:Program}{n nm:String}{text:List UInt8}{r:List (String×DataW Unit)}{W:World}{g:Nat}{ti tp te ts:TypeId}{ms:Array (String×TypeId)}{f:Field}
  (h:laidMet P ((n,.iface nm (.ptr (.agg [.lit (.string text)])))::r) W)
  (hg:P.globalNamed n=ay g) (ht:(P.globals[g]?).map (·.type)=ay ti) (hi:P.underlying ti=ay (.interface ms)) (hrow:∀u,P.typeName? 3 u=ay nm->u=tp)
  (hp:P.underlying tp=ay (.pointer te)) (he:P.underlying te=ay (.struct #[f])) (hft:f.type=ts) (hfo:f.offset=0) (hs:P.underlying ts=ay .string) (hc:P.cellsOf te=1) (hcs:P.cellsOf ts=1) :
  FI (Eo W) g (.er g tp):=by
 obtain ⟨ps,⟨g0,t0,cs0,f0,p0,q0,hg0,ht0,hv0,hd0,_,e0⟩,_,hrows⟩:=h;obtain rfl:=dh (hg.symm.trans hg0);obtain rfl:=dh (ht.symm.trans ht0);subst e0;obtain ⟨l0⟩:=cs0;have ok0:∀u v,l0=[.iface u v]->nZ P W .any 0 u v:=fun u v e=>by
  subst e;exact (hrows g 0 (by simp[pV])).2 u v (by simpa using vC hg0 hv0 0)
 obtain ⟨a0,s0,rfl,hc0,hs0,hz0,rfl⟩:=errorString_of_trod hi hrow hp he hft hfo hs hc hcs hd0 ok0;obtain ⟨c0,t0,hb0⟩:=(hrows a0.block a0.off (by simp[pV])).1;obtain ⟨e,f,hh⟩:=TQ hg hv0;have h1:hcell (Eo W) g 0=ay (.iface tp (.pointer (ay a0))):=by
  unfold hcell Eo;rw[hh];rfl
 exact ⟨_,h1,.er g tp a0 c0 t0 h1 hb0,rfl⟩
theorem ajM{P:Program}{n:String}{texts:List (List UInt8)}{r:List (String×DataW Unit)}{W:World}{g:Nat}{t e:TypeId}{k:Nat}
  (h:laidMet P ((n,.agg (texts.map fun s=>.lit (.string s)))::r) W)
  (hg:P.globalNamed n=ay g) (ht:(P.globals[g]?).map (·.type)=ay t) (hu:P.underlying t=ay (.array k e)) (he:P.underlying e=ay .string) (hce:P.cellsOf e=1) (hct:P.cellsOf t=texts.length) :
  FI (Eo W) g (.Ak (texts.map Sh.str)):=by
 obtain ⟨ps,⟨g0,t0,cs0,f0,p0,q0,hg0,ht0,hv0,hd0,_,e0⟩,_,hrows⟩:=h;obtain rfl:=dh (hg.symm.trans hg0);obtain rfl:=dh (ht.symm.trans ht0);obtain ⟨e1,f1,hh⟩:=TQ hg hv0;obtain ⟨xs,m,_,hx,hlen,hxs,hel⟩:=uH hu hd0;have hxs':xs.map (·.1)=texts.map fun s=>.lit (.string s):=by
  have:=congrArg Prod.fst hx;simp at this;exact this.symm
 have hkt:k=texts.length:=by
  have:=congrArg yZ hxs';simp at this;omega
 subst hkt;have cell:∀j (hj:j<texts.length),cs0[j]?=ay (.string ⟨texts[j].toArray⟩):=fun j hj=>by
  have q:=hel j hj;rw[hce,zi] at q;have hxj:j<xs.length:=by omega
  rw[aV hxj] at q;obtain ⟨s,q1,q2,_⟩:=DataW.trod_string he q;have q3:(xs.map (·.1))[j]?=ay (.lit (.string texts[j])):=by rw[hxs'];simp[hj]
  have q4:(xs[j]).1=.lit (.string texts[j]):=by
   rw[gV,aV hxj] at q3;simpa using q3
  rw[q2] at q4;simp at q4;have q5:(zU 1 (zV j cs0.toList))[0]?=ay (.string s):=by rw[q1];rfl
  have q6:cs0[j]?=ay (.string s):=by simpa using q5
  rw[q6];obtain ⟨⟨l⟩⟩:=s;have:l=texts[j]:=q4;subst this;rfl
 refine ⟨⟨cs0,e1,f1,hh,by rw[dW,<-hct,<-hlen];simp⟩,fun j=>.string ⟨(texts.getD j []).toArray⟩,fun j hj=>?_,fun j s hs=>?_⟩
 ·have hj':j<texts.length:=by simpa using hj
  refine ⟨?_,rfl⟩;unfold hcell Eo;rw[hh];simp only[cell j hj',aY,aV hj',nY]
 ·rw[gV,cu] at hs
  obtain ⟨l,h1,rfl⟩:=hs;show Rep (Eo W) (.str l) (.string ⟨(texts.getD j []).toArray⟩);rw[aY,h1];exact .str l
theorem ajN{P:Program}{n:String}{kd:IntKind}{texts:List Int}{r:List (String×DataW Unit)}{W:World}{g:Nat}{t e:TypeId}{k:Nat}
  (h:laidMet P ((n,.agg (texts.map fun s=>.lit (.int kd s)))::r) W)
  (hg:P.globalNamed n=ay g) (ht:(P.globals[g]?).map (·.type)=ay t) (hu:P.underlying t=ay (.array k e)) (he:P.underlying e=ay (.int kd)) (hce:P.cellsOf e=1) (hct:P.cellsOf t=texts.length) :
  FI (Eo W) g (.Ak (texts.map (Sh.i kd))):=by
 obtain ⟨ps,⟨g0,t0,cs0,f0,p0,q0,hg0,ht0,hv0,hd0,_,e0⟩,_,hrows⟩:=h;obtain rfl:=dh (hg.symm.trans hg0);obtain rfl:=dh (ht.symm.trans ht0);obtain ⟨e1,f1,hh⟩:=TQ hg hv0;obtain ⟨xs,m,_,hx,hlen,hxs,hel⟩:=uH hu hd0;have hxs':xs.map (·.1)=texts.map fun s=>.lit (.int kd s):=by
  have:=congrArg Prod.fst hx;simp at this;exact this.symm
 have hkt:k=texts.length:=by
  have:=congrArg yZ hxs';simp at this;omega
 subst hkt;have cell:∀j (hj:j<texts.length),cs0[j]?=ay (.int kd texts[j]):=fun j hj=>by
  have q:=hel j hj;rw[hce,zi] at q;have hxj:j<xs.length:=by omega
  rw[aV hxj] at q;obtain ⟨s,q1,q2,_⟩:=DataW.trod_int he q;have q3:(xs.map (·.1))[j]?=ay (.lit (.int kd texts[j])):=by rw[hxs'];simp[hj]
  have q4:(xs[j]).1=.lit (.int kd texts[j]):=by
   rw[gV,aV hxj] at q3;simpa using q3
  rw[q2] at q4;simp at q4;have q5:(zU 1 (zV j cs0.toList))[0]?=ay (.int kd s):=by rw[q1];rfl
  have q6:cs0[j]?=ay (.int kd s):=by simpa using q5
  rw[q6];rw[q4]
 refine ⟨⟨cs0,e1,f1,hh,by rw[dW,<-hct,<-hlen];simp⟩,fun j=>.int kd (texts.getD j 0),fun j hj=>?_,fun j s hs=>?_⟩
 ·have hj':j<texts.length:=by simpa using hj
  refine ⟨?_,rfl⟩;unfold hcell Eo;rw[hh];simp only[cell j hj',aY,aV hj',nY]
 ·rw[gV,cu] at hs
  obtain ⟨l,h1,rfl⟩:=hs;show Rep (Eo W) (.i kd l) (.int kd (texts.getD j 0));rw[aY,h1];exact .i kd l
def ad8(H:Mem)(W:World)(g:Nat)(text:List UInt8):Prop:=∃a T s,hcell H g 0=ay (.iface T (.pointer (ay a)))/\W.cell? a=ay (.string s)/\s.data.toList=text
theorem ad8.ne{H:Mem}{W:World}{g g':Nat}{t t':List UInt8}(h:ad8 H W g t)(h':ad8 H W g' t')(hne:t≠t'):hcell H g 0≠hcell H g' 0:=by
 obtain ⟨a,T,s,h1,h2,h3⟩:=h;obtain ⟨a',T',s',q1,q2,q3⟩:=h';intro e;rw[h1,q1] at e;cases e;rw[h2] at q2;cases q2;exact hne (h3.symm.trans q3)
theorem aqy{P:Program}{n nm:String}{text:List UInt8}{r:List (String×DataW Unit)}{W:World}{g:Nat}{ti tp te ts:TypeId}{ms:Array (String×TypeId)}{f:Field}
  (h:laidMet P ((n,.iface nm (.ptr (.agg [.lit (.string text)])))::r) W)
  (hg:P.globalNamed n=ay g) (ht:(P.globals[g]?).map (·.type)=ay ti) (hi:P.underlying ti=ay (.interface ms)) (hrow:∀u,P.typeName? 3 u=ay nm->u=tp)
  (hp:P.underlying tp=ay (.pointer te)) (he:P.underlying te=ay (.struct #[f])) (hft:f.type=ts) (hfo:f.offset=0) (hs:P.underlying ts=ay .string) (hc:P.cellsOf te=1) (hcs:P.cellsOf ts=1) :
  ad8 (Eo W) W g text:=by
 obtain ⟨ps,⟨g0,t0,cs0,f0,p0,q0,hg0,ht0,hv0,hd0,_,e0⟩,_,hrows⟩:=h;obtain rfl:=dh (hg.symm.trans hg0);obtain rfl:=dh (ht.symm.trans ht0);subst e0;obtain ⟨l0⟩:=cs0;have ok0:∀u v,l0=[.iface u v]->nZ P W .any 0 u v:=fun u v e=>by
  subst e;exact (hrows g 0 (by simp[pV])).2 u v (by simpa using vC hg0 hv0 0)
 obtain ⟨a0,s0,rfl,hc0,hs0,hz0,rfl⟩:=errorString_of_trod hi hrow hp he hft hfo hs hc hcs hd0 ok0;obtain ⟨e,f,hh⟩:=TQ hg hv0;have h1:hcell (Eo W) g 0=ay (.iface tp (.pointer (ay a0))):=by
  unfold hcell Eo;rw[hh];rfl
 exact ⟨a0,tp,s0,h1,hc0,hs0⟩
end Go.Sx
namespace Go.Proofs
open Go Go.Sx Go.RowKit Go.ChangeShapes
theorem aqz : "*" ++ "errors.errorString" = "*errors.errorString" :=by decide
theorem asq(u:TypeId)(h:aB.typeName? 3 u=ay "*errors.errorString"):u=329:=
 typeName_ptr_named (nm:= "errors.errorString") (by rw[aqz];kernel_rfl) (by kernel_rfl) (by decide) u (by rw[aqz];exact h)
theorem Ud{n:String}{text:List UInt8}{r:List (String×DataW Unit)}{W:World}{g:Nat}(h:laidMet aB ((n,.iface "*errors.errorString" (.ptr (.agg [.lit (.string text)])))::r) W)
  (hg:aB.globalNamed n=ay g) (ht:(aB.globals[g]?).map (·.type)=ay 46):FI (Eo W) g (.er g 329)/\ad8 (Eo W) W g text:=
 ⟨aqx h hg ht uI asq tJ tK rfl rfl lQ (by kernel_rfl) (by kernel_rfl),aqy h hg ht uI asq tJ tK rfl rfl lQ (by kernel_rfl) (by kernel_rfl)⟩
theorem st7{n:String}{texts:List (List UInt8)}{r:List (String×DataW Unit)}{W:World}{g t k:Nat}(h:laidMet aB ((n,.agg (texts.map fun s=>.lit (.string s)))::r) W)
  (hg:aB.globalNamed n=ay g) (ht:(aB.globals[g]?).map (·.type)=ay t) (hu:aB.underlying t=ay (.array k 9)) (hct:aB.cellsOf t=texts.length):FI (Eo W) g (.Ak (texts.map Sh.str)):=
 ajM h hg ht hu lQ (by kernel_rfl) hct
open YthehnhaoiijkhaaGreatDoor.Rows in
abbrev laid7:List (String×DataW Unit):=searchBudgetRow.laid
def ahN:List (Nat×List UInt8):=[(0,[116,104,101,32,115,101,97,114,99,104,32,104,97,115,32,115,101,101,110,32,116,111,111,32,109,117,99,104]),(1,[116,111,111,32,109,97,110,121,32,116,114,97,110,115,97,99,116,105,111,110,115,32,116,111,32,98,101,32,106,117,100,103,101,100]),(2,[110,111,32,108,101,118,101,108]),(3,[110,111,32,99,101,114,116,105,102,105,99,97,116,101]),(4,[116,104,101,114,101,32,105,115,32,110,111,110,101]),(5,[105,116,32,119,97,115,32,115,116,111,112,112,101,100]),(6,[116,111,111,32,109,97,110,121]),(7,[110,111,32,111,98,106,101,99,116]),(8,[110,111,32,111,112,101,114,97,116,105,111,110,32,111,102,32,116,104,97,116,32,111,98,106,101,99,116]),(9,[105,116,32,104,97,115,32,98,101,103,117,110,32,97,108,114,101,97,100,121]),(10,[116,104,101,32,116,104,114,101,97,100,32,105,115,32,98,117,115,121]),(11,[110,111,32,115,117,99,104,32,116,114,97,110,115,97,99,116,105,111,110]),(12,[105,116,32,100,111,101,115,32,110,111,116,32,99,111,109,101,32,104,101,114,101]),(13,[110,111,32,97,110,115,119,101,114,32,111,102,32,116,104,97,116,32,111,112,101,114,97,116,105,111,110]),(14,[110,111,32,115,117,99,104,32,99,111,100,101]),(15,[110,111,32,101,118,101,110,116])]
theorem Ue(n:Nat){g:Nat}{t:List UInt8}(h:ahN[n]?=ay (g,t)):(g,t)∈ahN:=List.mem_of_getElem? h
theorem ajO:(ahN.all fun p=>ahN.all fun q=>p.1==q.1||p.2 != q.2)=aC:=by decide +kernel
theorem ame{W:World}(h:laidMetH aB laid7 W):CU (AZ W7) (Eo W):=by
 rw[MakeChecks.laidMetH_plain _ _ _ (by kernel_rfl)] at h;have z0:=h;have z1:=z0.tail;have z2:=z1.tail;have e23:FI (Eo W) 23 (.Ak (pow10.map (Sh.i .u64))):=ajN (kd:=.u64) (texts:=pow10) z2 (by kernel_rfl) (by kernel_rfl) Tryz.underlying322 Tryz.underlying315 (by kernel_rfl) (by kernel_rfl);have z3:=z2.tail;have e6:=Ud (g:=6) z3 (by kernel_rfl) (by kernel_rfl);have z4:=z3.tail;have e14:=Ud (g:=14) z4 (by kernel_rfl) (by kernel_rfl);have z5:=z4.tail;have e7:=Ud (g:=7) z5 (by kernel_rfl) (by kernel_rfl);have z6:=z5.tail;have e15:=Ud (g:=15) z6 (by kernel_rfl) (by kernel_rfl);have z7:=z6.tail;have e8:=Ud (g:=8) z7 (by kernel_rfl) (by kernel_rfl);have z8:=z7.tail;have e13:=Ud (g:=13) z8 (by kernel_rfl) (by kernel_rfl);have z9:=z8.tail;have e11:=Ud (g:=11) z9 (by kernel_rfl) (by kernel_rfl);have z10:=z9.tail;have e9:=Ud (g:=9) z10 (by kernel_rfl) (by kernel_rfl);have z11:=z10.tail;have e10:=Ud (g:=10) z11 (by kernel_rfl) (by kernel_rfl);have z12:=z11.tail;have e12:=Ud (g:=12) z12 (by kernel_rfl) (by kernel_rfl);have z13:=z12.tail;have e2:=Ud (g:=2) z13 (by kernel_rfl) (by kernel_rfl);have z14:=z13.tail;have e1:=Ud (g:=1) z14 (by kernel_rfl) (by kernel_rfl);have z15:=z14.tail;have e0:=Ud (g:=0) z15 (by kernel_rfl) (by kernel_rfl);have z16:=z15.tail;have e3:=Ud (g:=3) z16 (by kernel_rfl) (by kernel_rfl);have z17:=z16.tail;have e4:=Ud (g:=4) z17 (by kernel_rfl) (by kernel_rfl);have z18:=z17.tail;have e5:=Ud (g:=5) z18 (by kernel_rfl) (by kernel_rfl);have z19:=z18.tail;have e16:FI (Eo W) 16 (.Ak (WH W7 16 4)):=st7 (texts:=[W7 16 0,W7 16 1,W7 16 2,W7 16 3]) z19 (by kernel_rfl) (by kernel_rfl) nI (by kernel_rfl);have z20:=z19.tail;have e17:FI (Eo W) 17 (.Ak (WH W7 17 7)):=st7 (texts:=[W7 17 0,W7 17 1,W7 17 2,W7 17 3,W7 17 4,W7 17 5,W7 17 6]) z20 (by kernel_rfl) (by kernel_rfl) Tryz.underlying301 (by kernel_rfl);have z21:=z20.tail;have e18:FI (Eo W) 18 (.Ak (WH W7 18 9)):=st7 (texts:=[W7 18 0,W7 18 1,W7 18 2,W7 18 3,W7 18 4,W7 18 5,W7 18 6,W7 18 7,W7 18 8]) z21 (by kernel_rfl) (by kernel_rfl) Tryz.underlying302 (by kernel_rfl);have z22:=z21.tail;have e19:FI (Eo W) 19 (.Ak (WH W7 19 3)):=st7 (texts:=[W7 19 0,W7 19 1,W7 19 2]) z22 (by kernel_rfl) (by kernel_rfl) Tryz.underlying303 (by kernel_rfl);have z23:=z22.tail;have e20:FI (Eo W) 20 (.Ak (WH W7 20 4)):=st7 (texts:=[W7 20 0,W7 20 1,W7 20 2,W7 20 3]) z23 (by kernel_rfl) (by kernel_rfl) nI (by kernel_rfl);have z24:=z23.tail;have e21:FI (Eo W) 21 (.Ak (WH W7 21 4)):=st7 (texts:=[W7 21 0,W7 21 1,W7 21 2,W7 21 3]) z24 (by kernel_rfl) (by kernel_rfl) nI (by kernel_rfl);have tx:∀g T,zY (AZ W7) g=ay (.er g T)->∃t,(g,t)∈ahN/\ad8 (Eo W) W g t:=fun g T hg=>by
  match g,hg with
  |0,_=>exact ⟨_,Ue 0 rfl,e0.2⟩ |1,_=>exact ⟨_,Ue 1 rfl,e1.2⟩ |2,_=>exact ⟨_,Ue 2 rfl,e2.2⟩ |3,_=>exact ⟨_,Ue 3 rfl,e3.2⟩ |4,_=>exact ⟨_,Ue 4 rfl,e4.2⟩ |5,_=>exact ⟨_,Ue 5 rfl,e5.2⟩ |6,_=>exact ⟨_,Ue 6 rfl,e6.2⟩ |7,_=>exact ⟨_,Ue 7 rfl,e7.2⟩ |8,_=>exact ⟨_,Ue 8 rfl,e8.2⟩ |9,_=>exact ⟨_,Ue 9 rfl,e9.2⟩ |10,_=>exact ⟨_,Ue 10 rfl,e10.2⟩ |11,_=>exact ⟨_,Ue 11 rfl,e11.2⟩ |12,_=>exact ⟨_,Ue 12 rfl,e12.2⟩ |13,_=>exact ⟨_,Ue 13 rfl,e13.2⟩ |14,_=>exact ⟨_,Ue 14 rfl,e14.2⟩ |15,_=>exact ⟨_,Ue 15 rfl,e15.2⟩ |16,hg=>cases hg |17,hg=>cases hg |18,hg=>cases hg |19,hg=>cases hg |20,hg=>cases hg |21,hg=>cases hg |22,hg=>cases hg |23,hg=>cases hg |n+24,hg=>simp[AZ,zY] at hg
 refine ⟨fun g s hg=>?_,fun g g' T T' h1 h2 hne=>?_⟩
 ·match g,hg with
  |0,hg=>cases hg;exact e0.1 |1,hg=>cases hg;exact e1.1 |2,hg=>cases hg;exact e2.1 |3,hg=>cases hg;exact e3.1 |4,hg=>cases hg;exact e4.1 |5,hg=>cases hg;exact e5.1 |6,hg=>cases hg;exact e6.1 |7,hg=>cases hg;exact e7.1 |8,hg=>cases hg;exact e8.1 |9,hg=>cases hg;exact e9.1 |10,hg=>cases hg;exact e10.1 |11,hg=>cases hg;exact e11.1 |12,hg=>cases hg;exact e12.1 |13,hg=>cases hg;exact e13.1 |14,hg=>cases hg;exact e14.1 |15,hg=>cases hg;exact e15.1 |16,hg=>cases hg;exact e16 |17,hg=>cases hg;exact e17 |18,hg=>cases hg;exact e18 |19,hg=>cases hg;exact e19 |20,hg=>cases hg;exact e20 |21,hg=>cases hg;exact e21 |22,hg=>cases hg |23,hg=>cases hg;exact e23 |n+24,hg=>simp[AZ,zY] at hg
 ·obtain ⟨t,m1,q1⟩:=tx g T h1
  obtain ⟨t',m2,q2⟩:=tx g' T' h2;refine q1.ne q2 fun e=>?_
  have:=dO.1 (dO.1 ajO _ m1) _ m2;subst e;simp[hne] at this
end Go.Proofs
namespace Go.Sx
open Go.RowKit Go.ChangeShapes Go.WideShapes Go.Deep Go.Pl
theorem Eu.below{H:Mem}{w w':World}{s:Sh}{v:Value}{H':Mem}(h:Eu H w s v H' w'):Below w.heap.size w w':=⟨h.os,h.tape,h.output,h.size,h.old⟩
def Z5(P:Program)(ts:List TypeId):Bool:=ts.all fun t=>P.readableRec t&&decide (t<P.types.size)
section
variable{H:Type}{enc:TypeId×Value->H}{P:Program}
theorem acs(hl:laidOutB P=aC){W W':World}(hb:Below W.heap.size W W'):
  ∀{ts:List TypeId} {vs:List Value} {ds:List (DataW H)} {p:List MemPlace},Z5 P ts=aC->qo enc P W 0 (fun _=>aC) aC ts vs ds p->(∀x∈p,x.block<W.heap.size)->
   qo enc P W' 0 (fun b=>decide (b<W.heap.size)) aC ts vs ds p
 |[],_,_,_,_,h,_=>by
  obtain ⟨rfl,rfl,rfl⟩:=trodAll_nil h;exact rfl
 |t::ts,_,_,_,hr,h,hlt=>by
  obtain ⟨v,vs1,d,ds1,a,b,rfl,rfl,rfl,h1,h2⟩:=trodAll_cons h;simp only[Z5,List.all_cons,aI,decide_eq_true_eq] at hr;exact ⟨a,b,Below.trod hl hr.1.1 hr.1.2 h1 hb fun x hx=>hlt x (List.mem_append_left _ hx),acs hl hb (by simp only[Z5];exact hr.2) h2 fun x hx=>hlt x (List.mem_append_right _ hx),rfl⟩
theorem amf(hl:laidOutB P=aC){f:Func}{s:ChangeSpec}{W W':World}{args:Array Value}{t:TypeId}{ds gs:List (DataW H)}{before:List MemPlace}(hs:s.vars=[])(hr:Z5 P f.params.toList=aC)(ht:f.resultTypes=#[t])(hu:P.underlying t=ay .bool)
  (hW:DataW.Whole enc P f.params.toList s.vars ak W args.toList ds gs before) (hb:Below W.heap.size W W')
  (h1:(s.fn H (ds++gs)).results=[.lit (.bool aC)]) (h2:(s.fn H (ds++gs)).args=ds) (h3:(s.fn H (ds++gs)).vars=[]) :
  s.post enc P f ak aC ak ak W args (.bool aC) W':=by
 have hlt:=hW.lt;have hW0:=hW;obtain ⟨p,q,hA,hV,e,hfz,hnd⟩:=hW;rw[hs] at hV;obtain ⟨rfl,rfl⟩:=trodVars_none hV;subst e;refine ⟨ds,[],p++[],[],p,[],hW0,?_,?_,?_,Below.frame hb _,fun e=>by cases e⟩
 ·rw[h1,ht]
  exact trodAll_mk1 (shut_bool hu aC)
 ·rw[h2]
  exact acs hl hb hr hA fun x hx=>hlt x (by simpa using hx)
 ·rw[h3,hs]
  exact rfl
end
open Go.RowKit Go.ChangeShapes Go.WideShapes Go.Deep Go.Pl
theorem amg{n:Nat}{g:Nat->List Sh}(h:∀i,i<n->∃ns:List Int,ns.length=2/\g i=G8 ns/\∀n∈ns,int64 n):Qm n (zZ (α:=Oj) g)=aC:=by
 unfold Qm;refine dO.2 fun j hj=>?_
 obtain ⟨ns,h1,h2,h3⟩:=h j (dP.1 hj);match ns,h1 with
 |[a,b],_=>
  have e:zZ (α:=Oj) g j=⟨a,b⟩:=by
   unfold zZ;rw[h2];rfl
  rw[e];have:=h3 a (by simp);unfold int64 at this;have h1:aN.min=-9223372036854775808:=by decide
  have h2:aN.max=9223372036854775807:=by decide
  simp[Lit.wf,IntKind.wrap] at this;unfold CQ;simp;omega
section
variable{H:Type}{enc:TypeId×Value->H}{P:Program}{w:World}{base:Nat}{spare:Nat->Bool}{held:Bool}
end
open Go.RowKit Go.ChangeShapes Go.WideShapes Go.Deep
theorem acu{α:Type}[BF.Row α]{k n:Nat}{g:Nat->List Sh}(hk:∀ns:List Int,ns.length=k->(wM (α:=α) (G8 ns)).isSome=aC)(h:∀i,i<n->∃ns:List Int,ns.length=k/\g i=G8 ns/\∀n∈ns,int64 n):oC α n g=aC:=by
 induction n with
 |zero=>rfl |succ n ih=>
  obtain ⟨ns,h1,h2,_⟩:=h n (by omega);simp only[oC,ih fun i hi=>h i (by omega),Bool.true_and];rw[h2];exact hk ns h1
theorem aqA{n:Nat}{g:Nat->List Sh}(h:∀i,i<n->∃ns:List Int,ns.length=2/\g i=G8 ns/\∀n∈ns,int64 n):oC BF.Oj n g=aC:=acu (fun ns hn=>by
 match ns,hn with
 |[a,b],_=>rfl) h
theorem aqB{n:Nat}{g:Nat->List Sh}(h:∀i,i<n->∃ns:List Int,ns.length=8/\g i=G8 ns/\∀n∈ns,int64 n):oC BF.Ev n g=aC:=acu (fun ns hn=>by
 match ns,hn with
 |[a,b,c,d,e,f,x,y],_=>rfl) h
theorem amh{n:Nat}{g:Nat->List Sh}(h:∀i,i<n->∃ns:List Int,ns.length=8/\g i=G8 ns/\∀n∈ns,int64 n):BF.QB n g=aC:=dO.2 fun i hi=>by
 obtain ⟨ns,h1,h2,h3⟩:=h i (dP.1 hi);match ns,h1 with
 |[a,b,c,d,e,f,x,y],_=>
  have hy:=h3 y (by simp);unfold BF.zZ;rw[h2];have e:((wM (G8 [a,b,c,d,e,f,x,y])).getD BF.Row.Jm:BF.Ev).ret=y:=rfl;rw[e];have hy:(Lit.int .i64 y).wf=aC:=hy;simp only[Lit.wf,aI,decide_eq_true_eq] at hy;exact decide_eq_true hy
theorem Eu.au1{H:Mem}{w w':World}{b:Bool}{v:Value}{H':Mem}(h:Eu H w (.v (.bool b)) v H' w'):v=.bool b:=by
 obtain ⟨E1,_,_,h1,_⟩:=h.res 0;exact h1
end Go.Sx
namespace Go.Proofs.YthehnhaoiijkhaaGreatDoor
open Go.ChangeShapes Go.WideShapes Go.ChangeAt Go.WideMaps Go.WideElems Go.RowKit Go.Sx Go.Pl
theorem aqC{n m:Nat}{g h:Nat->List Sh}(a:∀i,i<n->∃ns:List Int,ns.length=2/\g i=G8 ns/\∀n∈ns,int64 n)(b:∀i,i<m->∃ns:List Int,ns.length=8/\h i=G8 ns/\∀n∈ns,int64 n):hpB (.agg [.sl 2 n g,.sl 8 m h])=aC:=
 @decide_eq_true _ (bM _) ⟨n,g,m,h,rfl,aqA a,aqB b,amh b,amg a⟩
theorem aw0:ownKnob aB.godebug=none:=by kernel_rfl
theorem ami:laidOutB aB=aC:=by kernel_rfl
theorem au2(os:Os)(args:Array Value):laidMetH aB laid7 ((wu aB 400 os).forCall (fun _ _=>0) ⟨#[],args,[]⟩).memory:=
 laidMetH_of_parts3 (fuel:=8) (laidMet_of_run' 8 (by kernel_rfl) (by kernel_rfl)) (by kernel_rfl) (by kernel_rfl)
set_option maxRecDepth 100000 in
theorem lifted5(os:Os)(started:os.Started)(H:Type)(enc:TypeId×Value->H):
  ReturnsInHanded {} qQ os 5 .any (fun w args=>(Rows.searchBudgetSpec.pre enc aB kS [] ak w args/\laidMetH aB laid7 w)/\sizedMet enc aB kS (OpenSpec.ofChange Rows.searchBudgetSpec) ak w args)
   (Rows.searchBudgetSpec.post enc aB kS ak aC ak ak):=by
 refine returnsInHanded_of_change_and (C:=qQ) (X:=fun w _=>laidMetH aB laid7 w) (fun _ _ _ hh h=>h.of_heap hh) aw0 started (by kernel_rfl) tN
  (ChangeSpec.witness_shaped (enc:=enc) (C:=qQ) (os:=os) (X:=fun w _=>laidMetH aB laid7 w) ak (wu aB 400 os) #[.agg #[.slice none 0 0,.slice none 0 0],.int .i64 0,.int .i64 0,.int .i64 0] 8 rfl (World.shaped_of_RefB (by kernel_rfl) (by kernel_rfl)) (by kernel_rfl) (by kernel_rfl) (by kernel_rfl) (au2 os _)) ?_
 intro W base args ds gs before hval0 hW _ _ hL _;have hval:∀(j:Nat) t v,kS.params[j]?=ay t->args[j]?=ay v->nZ aB W .any base t v:=hval0;have hW':=hW;obtain ⟨p,q,hA0,hV,e,hfz,hnd⟩:=hW;obtain ⟨rfl,rfl⟩:=trodVars_none hV;have hA:qo enc aB W 0 (fun _=>aC) aC kS.params.toList args.toList ds p:=hA0;rw[yI] at hA hval;obtain ⟨v0,vs0,d0,ds0,p0,q0,ea,rfl,rfl,t0,hA⟩:=trodAll_cons hA;obtain ⟨v1,vs1,d1,ds1,p1,q1,rfl,rfl,rfl,t1,hA⟩:=trodAll_cons hA;obtain ⟨v2,vs2,d2,ds2,p2,q2,rfl,rfl,rfl,t2,hA⟩:=trodAll_cons hA;obtain ⟨v3,vs3,d3,ds3,p3,q3,rfl,rfl,rfl,t3,hA⟩:=trodAll_cons hA;obtain ⟨rfl,rfl,rfl⟩:=trodAll_nil hA;have at_:∀(j:Nat) v,[v0,v1,v2,v3][j]?=ay v->args[j]?=ay v:=fun j v h=>by rw[<-Array.getElem?_toList,ea];exact h
 obtain ⟨n0,g0,m0,h0,r0,a0,b0⟩:=amc (k0:=2) (k1:=8) (by kernel_rfl) (by decide) (by decide) (hval 0 25 v0 rfl (at_ 0 v0 rfl)) t0;obtain ⟨x1,rfl,_,_,_⟩:=open_int kL (hval 1 3 v1 rfl (at_ 1 v1 rfl)) t1;obtain ⟨x2,rfl,_,_,_⟩:=open_int kL (hval 2 3 v2 rfl (at_ 2 v2 rfl)) t2;obtain ⟨x3,rfl,_,_,_⟩:=open_int kL (hval 3 3 v3 rfl (at_ 3 v3 rfl)) t3;have hc:=(O5 Yl) (Eo W) W [.agg [.sl 2 n0 g0,.sl 8 m0 h0],.i .i64 x1,.i .i64 x2,.i .i64 x3] [v0,.int .i64 x1,.int .i64 x2,.int .i64 x3] (fun s=>s=.v (.bool aC)) (amb W) (ame hL)
  ⟨r0,.i _ _,.i _ _,.i _ _,trivial⟩ ⟨aqC a0 b0,rfl⟩
 have eargs:args=[v0,.int .i64 x1,.int .i64 x2,.int .i64 x3].toArray:=by rw[<-ea]
 rw[eargs];refine hc.mono fun e W' ⟨v,s,H',he,hs,hr⟩=>?_;subst he hs;obtain rfl:=hr.au1;refine ⟨_,rfl,amf ami rfl (by kernel_rfl) (by kernel_rfl) Tryz.underlying4 (by rw[eargs] at hW';exact hW') hr.below rfl rfl rfl⟩
theorem searchBudget_holds:Rows.SearchBudgetSaid:=
 OpenClaim.holds_of_wide 5 kS rfl rfl rfl rfl rfl rfl rfl ⟨rfl,rfl,rfl,rfl,rfl⟩ rfl rfl rfl rfl rfl (by kernel_rfl) tN (by kernel_rfl)
  (of_decide_eq_true (by kernel_rfl)) (by unfold Func.isWrapper;first|(rw[if_pos (by decide +kernel)];kernel_rfl) |(rw[if_neg (by decide +kernel)];exact ⟨rfl,rfl⟩))
  (fun os started H enc _=>lifted5 os started H enc)
open Go
theorem searchBudget_card:Rows.SearchBudgetCardSaid:=
 Claim7.holds_tied_plain_at .later [] [.data,.data,.data,.sentinel,.sentinel,.sentinel,.sentinel,.sentinel,.sentinel,.sentinel,.sentinel,.sentinel,.sentinel,.sentinel,.sentinel,.sentinel,.sentinel,.sentinel,.sentinel,.data,.data,.data,.data,.data,.data] aC (aC, "81e67fd4d3bd142d930eaa45586bdb8ac6b198972cce1b631dceec920cefaf18") aC
  searchBudget_holds (fun _ h=>by cases h) (by kernel_rfl) (fun _ h=>by cases h) searchBudget_row_tie rfl ⟨rfl,rfl⟩ (by kernel_rfl) rfl
  (fun f fn hf hfn=>by
   obtain rfl:f=5:=dh ((show aB.funcNamed "umpire/umpirelaw12.SearchBudget" = ay 5 by kernel_rfl).symm.trans hf) |>.symm
   obtain rfl:fn=kS:=(dh (tN.symm.trans hfn)).symm;exact ⟨by kernel_rfl,fun j t ht=>by
    rw[yI] at ht;have hm:t∈[25,3,3,3]:=by simpa using Array.mem_of_getElem? ht
    have hall:([25,3,3,3].all fun u=>!Tryz.prog.wantsStandIn u)=aC:=by kernel_rfl
    exact (show aB.wantsStandIn t=ak by simpa using dO.1 hall t hm)⟩)
  (by kernel_rfl)
#print axioms searchBudget_card
end Go.Proofs.YthehnhaoiijkhaaGreatDoor
