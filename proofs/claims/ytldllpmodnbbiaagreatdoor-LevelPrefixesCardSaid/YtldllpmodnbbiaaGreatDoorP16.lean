/- The law LevelPrefixes answers true at every history, budget and stop: what level.Prefixes tells of each prefix is what the document search finds, up to the first fault, twice over and left early. Conditions: none. -/
import Derived.Test.YtldllpmodnbbiaaGreatDoorP15
import Derived.Test.YtldllpmodnbbiaaGreatDoorRows
import Derived.Carry
import Derived.Stop.Joined
import Derived.Test.YtldllpmodnbbiaaGreatDoorTie
import Derived.Test.YtldllpmodnbbiaaGreatDoorCards
open Int (ofNat)
open Bool renaming true->ay,and_eq_true->aB,false->aA
open Classical renaming propDecidable->aI
open Go.DataW renaming TrodAll->oQ
open Go.MemPlace renaming row->uz
open Go.BI renaming okB->gG
open Go.BI.Row renaming get->xu
open Go.Proofs.Tryz renaming prog->ak,underlying46->uF,underlying322->sV,underlying336->sW,underlying9->kR,underlying288->lS,checked->pY,f3->iY,func3->sZ,params3->yY,underlying3->lg
open Go.Value renaming okWide->mQ
open Go.World renaming doorLaid->wJ
open List renaming all_eq_true->dh,mem_range->eF
open Option renaming some->aj
open Option.some renaming inj->bP
namespace Go.Sx
open Go.RowKit Go.ChangeShapes Go.WideShapes Go.Deep
def ahO(H:Mem)(W:World)(g:Nat)(text:List UInt8):Prop:=∃a T s,hcell H g 0=aj (.iface T (.pointer (aj a)))/\W.cell? a=aj (.string s)/\s.data.toList=text
theorem ahO.ne{H:Mem}{W:World}{g g':Nat}{t t':List UInt8}(h:ahO H W g t)(h':ahO H W g' t')(hne:t≠t'):hcell H g 0≠hcell H g' 0:=by
 obtain ⟨a,T,s,h1,h2,h3⟩:=h;obtain ⟨a',T',s',q1,q2,q3⟩:=h';intro e;rw[h1,q1] at e;cases e;rw[h2] at q2;cases q2;exact hne (h3.symm.trans q3)
theorem aw3{P:Program}{n nm:String}{text:List UInt8}{r:List (String×DataW Unit)}{W:World}{g:Nat}{ti tp te ts:TypeId}{ms:Array (String×TypeId)}{f:Field}
  (h:laidMet P ((n,.iface nm (.ptr (.agg [.lit (.string text)])))::r) W)
  (hg:P.globalNamed n=aj g) (ht:(P.globals[g]?).map (·.type)=aj ti) (hi:P.underlying ti=aj (.interface ms)) (hrow:∀u,P.typeName? 3 u=aj nm->u=tp)
  (hp:P.underlying tp=aj (.pointer te)) (he:P.underlying te=aj (.struct #[f])) (hft:f.type=ts) (hfo:f.offset=0) (hs:P.underlying ts=aj .string) (hc:P.cellsOf te=1) (hcs:P.cellsOf ts=1) :
  ahO (EW W) W g text:=by
 obtain ⟨ps,⟨g0,t0,cs0,f0,p0,q0,hg0,ht0,hv0,hd0,_,e0⟩,_,hrows⟩:=h;obtain rfl:=bP (hg.symm.trans hg0);obtain rfl:=bP (ht.symm.trans ht0);subst e0;obtain ⟨l0⟩:=cs0;have ok0:∀u v,l0=[.iface u v]->mQ P W .any 0 u v:=fun u v e=>by
  subst e;exact (hrows g 0 (by simp[uz])).2 u v (by simpa using World.var?_cell hg0 hv0 0)
 obtain ⟨a0,s0,rfl,hc0,hs0,hz0,rfl⟩:=errorString_of_trod hi hrow hp he hft hfo hs hc hcs hd0 ok0;obtain ⟨e,f,hh⟩:=WJ hg hv0;have h1:hcell (EW W) g 0=aj (.iface tp (.pointer (aj a0))):=by
  unfold hcell EW;rw[hh];rfl
 exact ⟨a0,tp,s0,h1,hc0,hs0⟩
end Go.Sx
namespace Go.Proofs
open Go Go.Sx Go.RowKit Go.ChangeShapes
theorem aw4 : "*" ++ "errors.errorString" = "*errors.errorString" :=by decide
theorem azO(u:TypeId)(h:ak.typeName? 3 u=aj "*errors.errorString"):u=322:=
 typeName_ptr_named (nm:= "errors.errorString") (by rw[aw4];kernel_rfl) (by kernel_rfl) (by decide) u (by rw[aw4];exact h)
theorem Qa{n:String}{text:List UInt8}{r:List (String×DataW Unit)}{W:World}{g:Nat}(h:laidMet ak ((n,.iface "*errors.errorString" (.ptr (.agg [.lit (.string text)])))::r) W)
  (hg:ak.globalNamed n=aj g) (ht:(ak.globals[g]?).map (·.type)=aj 46):GI (EW W) g (.er g 322)/\ahO (EW W) W g text:=
 ⟨aw2 h hg ht uF azO sV sW rfl rfl kR (by kernel_rfl) (by kernel_rfl),aw3 h hg ht uF azO sV sW rfl rfl kR (by kernel_rfl) (by kernel_rfl)⟩
theorem st7{n:String}{texts:List (List UInt8)}{r:List (String×DataW Unit)}{W:World}{g t k:Nat}(h:laidMet ak ((n,.agg (texts.map fun s=>.lit (.string s)))::r) W)
  (hg:ak.globalNamed n=aj g) (ht:(ak.globals[g]?).map (·.type)=aj t) (hu:ak.underlying t=aj (.array k 9)) (hct:ak.cellsOf t=texts.length):GI (EW W) g (.Az (texts.map Sh.str)):=
 aoS h hg ht hu kR (by kernel_rfl) hct
open YtldllpmodnbbiaaGreatDoor.Rows in
abbrev laid7:List (String×DataW Unit):=levelPrefixesRow.laid
def amM:List (Nat×List UInt8):=[(0,[116,104,101,32,115,101,97,114,99,104,32,104,97,115,32,115,101,101,110,32,116,111,111,32,109,117,99,104]),(1,[116,104,101,114,101,32,105,115,32,110,111,110,101]),(2,[116,111,111,32,109,97,110,121,32,116,114,97,110,115,97,99,116,105,111,110,115,32,116,111,32,98,101,32,106,117,100,103,101,100]),(3,[110,111,32,108,101,118,101,108]),(4,[105,116,32,119,97,115,32,115,116,111,112,112,101,100]),(5,[116,111,111,32,109,97,110,121]),(6,[110,111,32,111,98,106,101,99,116]),(7,[110,111,32,111,112,101,114,97,116,105,111,110,32,111,102,32,116,104,97,116,32,111,98,106,101,99,116]),(8,[105,116,32,104,97,115,32,98,101,103,117,110,32,97,108,114,101,97,100,121]),(9,[116,104,101,32,116,104,114,101,97,100,32,105,115,32,98,117,115,121]),(10,[110,111,32,115,117,99,104,32,116,114,97,110,115,97,99,116,105,111,110]),(11,[105,116,32,100,111,101,115,32,110,111,116,32,99,111,109,101,32,104,101,114,101]),(12,[110,111,32,115,117,99,104,32,99,111,100,101]),(13,[110,111,32,101,118,101,110,116]),(14,[110,111,32,97,110,115,119,101,114,32,111,102,32,116,104,97,116,32,111,112,101,114,97,116,105,111,110])]
theorem X6(n:Nat){g:Nat}{t:List UInt8}(h:amM[n]?=aj (g,t)):(g,t)∈amM:=List.mem_of_getElem? h
theorem aoU:(amM.all fun p=>amM.all fun q=>p.1==q.1||p.2 != q.2)=ay:=by decide +kernel
theorem asi{W:World}(h:laidMetH ak laid7 W):DI (AZ W7) (EW W):=by
 rw[MakeChecks.laidMetH_plain _ _ _ (by kernel_rfl)] at h;have z0:=h;have z1:=z0.tail;have z2:=z1.tail;have e22:GI (EW W) 22 (.Az (pow10.map (Sh.i .u64))):=aoT (kd:=.u64) (texts:=pow10) z2 (by kernel_rfl) (by kernel_rfl) Tryz.underlying314 Tryz.underlying308 (by kernel_rfl) (by kernel_rfl);have z3:=z2.tail;have e5:=Qa (g:=5) z3 (by kernel_rfl) (by kernel_rfl);have z4:=z3.tail;have e12:=Qa (g:=12) z4 (by kernel_rfl) (by kernel_rfl);have z5:=z4.tail;have e6:=Qa (g:=6) z5 (by kernel_rfl) (by kernel_rfl);have z6:=z5.tail;have e13:=Qa (g:=13) z6 (by kernel_rfl) (by kernel_rfl);have z7:=z6.tail;have e7:=Qa (g:=7) z7 (by kernel_rfl) (by kernel_rfl);have z8:=z7.tail;have e14:=Qa (g:=14) z8 (by kernel_rfl) (by kernel_rfl);have z9:=z8.tail;have e10:=Qa (g:=10) z9 (by kernel_rfl) (by kernel_rfl);have z10:=z9.tail;have e8:=Qa (g:=8) z10 (by kernel_rfl) (by kernel_rfl);have z11:=z10.tail;have e9:=Qa (g:=9) z11 (by kernel_rfl) (by kernel_rfl);have z12:=z11.tail;have e11:=Qa (g:=11) z12 (by kernel_rfl) (by kernel_rfl);have z13:=z12.tail;have e3:=Qa (g:=3) z13 (by kernel_rfl) (by kernel_rfl);have z14:=z13.tail;have e2:=Qa (g:=2) z14 (by kernel_rfl) (by kernel_rfl);have z15:=z14.tail;have e0:=Qa (g:=0) z15 (by kernel_rfl) (by kernel_rfl);have z16:=z15.tail;have e1:=Qa (g:=1) z16 (by kernel_rfl) (by kernel_rfl);have z17:=z16.tail;have e4:=Qa (g:=4) z17 (by kernel_rfl) (by kernel_rfl);have z18:=z17.tail;have e15:GI (EW W) 15 (.Az (YW W7 15 4)):=st7 (texts:=[W7 15 0,W7 15 1,W7 15 2,W7 15 3]) z18 (by kernel_rfl) (by kernel_rfl) lS (by kernel_rfl);have z19:=z18.tail;have e16:GI (EW W) 16 (.Az (YW W7 16 7)):=st7 (texts:=[W7 16 0,W7 16 1,W7 16 2,W7 16 3,W7 16 4,W7 16 5,W7 16 6]) z19 (by kernel_rfl) (by kernel_rfl) Tryz.underlying289 (by kernel_rfl);have z20:=z19.tail;have e17:GI (EW W) 17 (.Az (YW W7 17 9)):=st7 (texts:=[W7 17 0,W7 17 1,W7 17 2,W7 17 3,W7 17 4,W7 17 5,W7 17 6,W7 17 7,W7 17 8]) z20 (by kernel_rfl) (by kernel_rfl) Tryz.underlying290 (by kernel_rfl);have z21:=z20.tail;have e18:GI (EW W) 18 (.Az (YW W7 18 3)):=st7 (texts:=[W7 18 0,W7 18 1,W7 18 2]) z21 (by kernel_rfl) (by kernel_rfl) Tryz.underlying291 (by kernel_rfl);have z22:=z21.tail;have e19:GI (EW W) 19 (.Az (YW W7 19 4)):=st7 (texts:=[W7 19 0,W7 19 1,W7 19 2,W7 19 3]) z22 (by kernel_rfl) (by kernel_rfl) lS (by kernel_rfl);have z23:=z22.tail;have e20:GI (EW W) 20 (.Az (YW W7 20 4)):=st7 (texts:=[W7 20 0,W7 20 1,W7 20 2,W7 20 3]) z23 (by kernel_rfl) (by kernel_rfl) lS (by kernel_rfl);have tx:∀g T,Aq (AZ W7) g=aj (.er g T)->∃t,(g,t)∈amM/\ahO (EW W) W g t:=fun g T hg=>by
  match g,hg with
  |0,_=>exact ⟨_,X6 0 rfl,e0.2⟩ |1,_=>exact ⟨_,X6 1 rfl,e1.2⟩ |2,_=>exact ⟨_,X6 2 rfl,e2.2⟩ |3,_=>exact ⟨_,X6 3 rfl,e3.2⟩ |4,_=>exact ⟨_,X6 4 rfl,e4.2⟩ |5,_=>exact ⟨_,X6 5 rfl,e5.2⟩ |6,_=>exact ⟨_,X6 6 rfl,e6.2⟩ |7,_=>exact ⟨_,X6 7 rfl,e7.2⟩ |8,_=>exact ⟨_,X6 8 rfl,e8.2⟩ |9,_=>exact ⟨_,X6 9 rfl,e9.2⟩ |10,_=>exact ⟨_,X6 10 rfl,e10.2⟩ |11,_=>exact ⟨_,X6 11 rfl,e11.2⟩ |12,_=>exact ⟨_,X6 12 rfl,e12.2⟩ |13,_=>exact ⟨_,X6 13 rfl,e13.2⟩ |14,_=>exact ⟨_,X6 14 rfl,e14.2⟩ |15,hg=>cases hg |16,hg=>cases hg |17,hg=>cases hg |18,hg=>cases hg |19,hg=>cases hg |20,hg=>cases hg |21,hg=>cases hg |22,hg=>cases hg |n+23,hg=>simp[AZ,Aq] at hg
 refine ⟨fun g s hg=>?_,fun g g' T T' h1 h2 hne=>?_⟩
 ·match g,hg with
  |0,hg=>cases hg;exact e0.1 |1,hg=>cases hg;exact e1.1 |2,hg=>cases hg;exact e2.1 |3,hg=>cases hg;exact e3.1 |4,hg=>cases hg;exact e4.1 |5,hg=>cases hg;exact e5.1 |6,hg=>cases hg;exact e6.1 |7,hg=>cases hg;exact e7.1 |8,hg=>cases hg;exact e8.1 |9,hg=>cases hg;exact e9.1 |10,hg=>cases hg;exact e10.1 |11,hg=>cases hg;exact e11.1 |12,hg=>cases hg;exact e12.1 |13,hg=>cases hg;exact e13.1 |14,hg=>cases hg;exact e14.1 |15,hg=>cases hg;exact e15 |16,hg=>cases hg;exact e16 |17,hg=>cases hg;exact e17 |18,hg=>cases hg;exact e18 |19,hg=>cases hg;exact e19 |20,hg=>cases hg;exact e20 |21,hg=>cases hg |22,hg=>cases hg;exact e22 |n+23,hg=>simp[AZ,Aq] at hg
 ·obtain ⟨t,m1,q1⟩:=tx g T h1
  obtain ⟨t',m2,q2⟩:=tx g' T' h2;refine q1.ne q2 fun e=>?_
  have:=dh.1 (dh.1 aoU _ m1) _ m2;subst e;simp[hne] at this
end Go.Proofs
namespace Go.Sx
open Go.RowKit Go.ChangeShapes Go.WideShapes Go.Deep Go.Pl
theorem Dx.below{H:Mem}{w w':World}{s:Sh}{v:Value}{H':Mem}(h:Dx H w s v H' w'):Below w.heap.size w w':=⟨h.os,h.tape,h.output,h.size,h.old⟩
theorem Dx.bool{H:Mem}{w w':World}{b:Bool}{v:Value}{H':Mem}(h:Dx H w (.b b) v H' w'):v=.bool b:=by
 obtain ⟨E1,_,_,h1,_⟩:=h.res 0;exact h1
def acS(P:Program)(ts:List TypeId):Bool:=ts.all fun t=>P.readableRec t&&decide (t<P.types.size)
section
variable{H:Type}{enc:TypeId×Value->H}{P:Program}
theorem afN(hl:laidOutB P=ay){W W':World}(hb:Below W.heap.size W W'):
  ∀{ts:List TypeId} {vs:List Value} {ds:List (DataW H)} {p:List MemPlace},acS P ts=ay->oQ enc P W 0 (fun _=>ay) ay ts vs ds p->(∀x∈p,x.block<W.heap.size)->
   oQ enc P W' 0 (fun b=>decide (b<W.heap.size)) ay ts vs ds p
 |[],_,_,_,_,h,_=>by
  obtain ⟨rfl,rfl,rfl⟩:=trodAll_nil h;exact rfl
 |t::ts,_,_,_,hr,h,hlt=>by
  obtain ⟨v,vs1,d,ds1,a,b,rfl,rfl,rfl,h1,h2⟩:=trodAll_cons h;simp only[acS,List.all_cons,aB,ϟ] at hr;exact ⟨a,b,Below.trod hl hr.1.1 hr.1.2 h1 hb fun x hx=>hlt x (List.mem_append_left _ hx),afN hl hb (by simp_all [acS]) h2 fun x hx=>hlt x (List.mem_append_right _ hx),rfl⟩
theorem asj(hl:laidOutB P=ay){f:Func}{s:ChangeSpec}{W W':World}{args:Array Value}{t:TypeId}{ds gs:List (DataW H)}{before:List MemPlace}(hs:s.vars=[])(hr:acS P f.params.toList=ay)(ht:f.resultTypes=#[t])(hu:P.underlying t=aj .bool)
  (hW:DataW.Whole enc P f.params.toList s.vars aA W args.toList ds gs before) (hb:Below W.heap.size W W')
  (h1:(s.fn H (ds++gs)).results=[.lit (.bool ay)]) (h2:(s.fn H (ds++gs)).args=ds) (h3:(s.fn H (ds++gs)).vars=[]) :
  s.post enc P f aA ay aA aA W args (.bool ay) W':=by
 have hlt:=hW.lt;have hW0:=hW;obtain ⟨p,q,hA,hV,e,hfz,hnd⟩:=hW;rw[hs] at hV;obtain ⟨rfl,rfl⟩:=trodVars_none hV;subst e;refine ⟨ds,[],p++[],[],p,[],hW0,?_,?_,?_,Below.frame hb _,fun e=>by cases e⟩
 ·rw[h1,ht]
  exact trodAll_mk1 (shut_bool hu ay)
 ·simp_all [afN]
 ·rw[h3,hs]
  exact rfl
end
open Go.RowKit Go.ChangeShapes Go.WideShapes Go.Deep Go.Pl
theorem asl{n:Nat}{g:ϝ}(h:∀i,i<n->∃ns:List Int,ns.length=2/\g i=IG ns/\∀n∈ns,int64 n):TD n (Ap (α:=Oj) g)=ay:=by
 unfold TD;refine dh.2 fun j hj=>?_
 obtain ⟨ns,h1,h2,h3⟩:=h j (eF.1 hj);match ns,h1 with
 |[a,b],_=>
  have e:Ap (α:=Oj) g j=⟨a,b⟩:=by
   unfold Ap;rw[h2];rfl
  rw[e];have:=h3 a (by simp);unfold int64 at this;have h1:IntKind.i64.min=-9223372036854775808:=by decide
  simp_all [Lit.wf,DN]
section
variable{H:Type}{enc:TypeId×Value->H}{P:Program}{w:World}{base:Nat}{spare:Nat->Bool}{held:Bool}
end
open Go.RowKit Go.ChangeShapes Go.WideShapes Go.Deep
theorem afO{α:Type}[BI.Row α]{k n:Nat}{g:ϝ}(hk:∀ns:List Int,ns.length=k->(xu (α:=α) (IG ns)).isSome=ay)(h:∀i,i<n->∃ns:List Int,ns.length=k/\g i=IG ns/\∀n∈ns,int64 n):gG α n g=ay:=by
 induction n with
 |zero=>rfl |succ n ih=>
  obtain ⟨ns,h1,h2,_⟩:=h n (by omega);simp only[gG,ih fun i hi=>h i (by omega),Bool.true_and];rw[h2];exact hk ns h1
theorem aw5{n:Nat}{g:ϝ}(h:∀i,i<n->∃ns:List Int,ns.length=2/\g i=IG ns/\∀n∈ns,int64 n):gG BI.Oj n g=ay:=afO (fun ns hn=>by
 match ns,hn with
 |[a,b],_=>rfl) h
theorem aw6{n:Nat}{g:ϝ}(h:∀i,i<n->∃ns:List Int,ns.length=8/\g i=IG ns/\∀n∈ns,int64 n):gG BI.Ev n g=ay:=afO (fun ns hn=>by
 match ns,hn with
 |[a,b,c,d,e,f,x,y],_=>rfl) h
theorem asn{n:Nat}{g:ϝ}(h:∀i,i<n->∃ns:List Int,ns.length=8/\g i=IG ns/\∀n∈ns,int64 n):BI.PX n g=ay:=dh.2 fun i hi=>by
 obtain ⟨ns,h1,h2,h3⟩:=h i (eF.1 hi);match ns,h1 with
 |[a,b,c,d,e,f,x,y],_=>
  have hy:=h3 y (by simp);unfold BI.Ap;rw[h2];have e:((xu (IG [a,b,c,d,e,f,x,y])).getD BI.Row.J4:BI.Ev).ret=y:=rfl;rw[e];have hy:(Lit.int .i64 y).wf=ay:=hy;simp only[Lit.wf,aB,ϟ] at hy;exact ϱ hy
theorem Dx.aCf{H:Mem}{w w':World}{b:Bool}{v:Value}{H':Mem}(h:Dx H w (.v (.bool b)) v H' w'):v=.bool b:=by
 obtain ⟨E1,_,_,h1,_⟩:=h.res 0;exact h1
end Go.Sx
namespace Go.Proofs.YtldllpmodnbbiaaGreatDoor
open Go.ChangeShapes Go.WideShapes Go.ChangeAt Go.WideMaps Go.WideElems Go.RowKit Go.Sx Go.Pl
theorem aw7{n m:Nat}{g h:ϝ}(a:∀i,i<n->∃ns:List Int,ns.length=2/\g i=IG ns/\∀n∈ns,int64 n)(b:∀i,i<m->∃ns:List Int,ns.length=8/\h i=IG ns/\∀n∈ns,int64 n):hpB (.agg [.sl 2 n g,.sl 8 m h])=ay:=
 @ϱ _ (aI _) ⟨n,g,m,h,rfl,aw5 a,aw6 b,asn b,asl a⟩
theorem aEz:ownKnob ak.godebug=none:=by kernel_rfl
theorem aso:laidOutB ak=ay:=by kernel_rfl
theorem aCg(os:Os)(args:Array Value):laidMetH ak laid7 ((wJ ak 400 os).forCall (fun _ _=>0) ⟨#[],args,[]⟩).memory:=
 laidMetH_of_parts3 (fuel:=8) (laidMet_of_run' 8 (by kernel_rfl) (by kernel_rfl)) (by kernel_rfl) (by kernel_rfl)
set_option maxRecDepth 100000 in
theorem lifted3(os:Os)(started:os.Started)(H:Type)(enc:TypeId×Value->H):
  ReturnsInHanded {} pY os 3 .any (fun w args=>(Rows.levelPrefixesSpec.pre enc ak iY [] aA w args/\laidMetH ak laid7 w)/\sizedMet enc ak iY (OpenSpec.ofChange Rows.levelPrefixesSpec) aA w args)
   (Rows.levelPrefixesSpec.post enc ak iY aA ay aA aA):=by
 refine returnsInHanded_of_change_and (C:=pY) (X:=fun w _=>laidMetH ak laid7 w) (fun _ _ _ hh h=>h.of_heap hh) aEz started (by kernel_rfl) sZ
  (ChangeSpec.witness_shaped (enc:=enc) (C:=pY) (os:=os) (X:=fun w _=>laidMetH ak laid7 w) aA (wJ ak 400 os) #[.agg #[.slice none 0 0,.slice none 0 0],.int .i64 0,.int .i64 0] 8 rfl (World.shaped_of_RefB (by kernel_rfl) (by kernel_rfl)) (by kernel_rfl) (by kernel_rfl) (by kernel_rfl) (aCg os _)) ?_
 intro W base args ds gs before hval0 hW _ _ hL _;have hval:∀(j:Nat) t v,iY.params[j]?=aj t->args[j]?=aj v->mQ ak W .any base t v:=hval0;have hW':=hW;obtain ⟨p,q,hA0,hV,e,hfz,hnd⟩:=hW;obtain ⟨rfl,rfl⟩:=trodVars_none hV;have hA:oQ enc ak W 0 (fun _=>ay) ay iY.params.toList args.toList ds p:=hA0;rw[yY] at hA hval;obtain ⟨v0,vs0,d0,ds0,p0,q0,ea,rfl,rfl,t0,hA⟩:=trodAll_cons hA;obtain ⟨v1,vs1,d1,ds1,p1,q1,rfl,rfl,rfl,t1,hA⟩:=trodAll_cons hA;obtain ⟨v2,vs2,d2,ds2,p2,q2,rfl,rfl,rfl,t2,hA⟩:=trodAll_cons hA;obtain ⟨rfl,rfl,rfl⟩:=trodAll_nil hA;have at_:∀(j:Nat) v,[v0,v1,v2][j]?=aj v->args[j]?=aj v:=fun j v h=>by rw[<-Array.getElem?_toList,ea];exact h
 obtain ⟨n0,g0,m0,h0,r0,a0,b0⟩:=asg (k0:=2) (k1:=8) (by kernel_rfl) (by decide) (by decide) (hval 0 25 v0 rfl (at_ 0 v0 rfl)) t0;obtain ⟨x1,rfl,_,_,_⟩:=open_int lg (hval 1 3 v1 rfl (at_ 1 v1 rfl)) t1;obtain ⟨x2,rfl,_,_,_⟩:=open_int lg (hval 2 3 v2 rfl (at_ 2 v2 rfl)) t2;have hc:=(Go.Rg.O3 O23) (EW W) W [.agg [.sl 2 n0 g0,.sl 8 m0 h0],.i .i64 x1,.i .i64 x2] [v0,.int .i64 x1,.int .i64 x2] (fun s=>s=.v (.bool ay)) (asf W) (asi hL)
  ⟨r0,.i _ _,.i _ _,ϖ⟩ ⟨aw7 a0 b0,rfl⟩
 have eargs:args=[v0,.int .i64 x1,.int .i64 x2].toArray:=by rw[<-ea]
 rw[eargs];refine hc.mono fun e W' ⟨v,s,H',he,hs,hr⟩=>?_;subst he hs;obtain rfl:=hr.aCf;refine ⟨_,rfl,asj aso rfl (by kernel_rfl) (by kernel_rfl) Tryz.underlying4 (by rw[eargs] at hW';exact hW') hr.below rfl rfl rfl⟩
set_option maxHeartbeats 4000000 in
theorem levelPrefixes_holds:Rows.LevelPrefixesSaid:=
 OpenClaim.holds_of_wide 3 iY rfl rfl rfl rfl rfl rfl rfl ⟨rfl,rfl,rfl,rfl,rfl⟩ rfl rfl rfl rfl rfl (by as_aux_lemma=>kernel_rfl) sZ (by as_aux_lemma=>kernel_rfl)
  (ϑ (by as_aux_lemma=>kernel_rfl)) (by unfold Func.isWrapper;first|(rw[if_pos (by decide +kernel)];kernel_rfl) |(rw[if_neg (by decide +kernel)];exact ⟨rfl,rfl⟩))
  (fun os started H enc _=>lifted3 os started H enc)
open Go
theorem levelPrefixes_card:Rows.LevelPrefixesCardSaid:=
 Claim7.holds_tied_plain_at .later [] [.data,.data,.data,.sentinel,.sentinel,.sentinel,.sentinel,.sentinel,.sentinel,.sentinel,.sentinel,.sentinel,.sentinel,.sentinel,.sentinel,.sentinel,.sentinel,.sentinel,.data,.data,.data,.data,.data,.data] ay (ay, "abafe1297059b542adb6abcd817281c2e25cc205940e10f6ca5f5918876d837a") ay
  levelPrefixes_holds (fun _ h=>by cases h) (by kernel_rfl) (fun _ h=>by cases h) levelPrefixes_row_tie rfl ⟨rfl,rfl⟩ (by kernel_rfl) rfl
  (fun f fn hf hfn=>by
   obtain rfl:f=3:=bP ((show ak.funcNamed "umpire/umpirelaw14.LevelPrefixes" = aj 3 by kernel_rfl).symm.trans hf) |>.symm
   obtain rfl:fn=iY:=(bP (sZ.symm.trans hfn)).symm;exact ⟨by kernel_rfl,fun j t ht=>by
    rw[yY] at ht;have hm:t∈[25,3,3]:=by simpa using Array.mem_of_getElem? ht
    have hall:([25,3,3].all fun u=>!Tryz.prog.wantsStandIn u)=ay:=by kernel_rfl
    exact (show ak.wantsStandIn t=aA by simpa using dh.1 hall t hm)⟩)
  (by kernel_rfl)
#print axioms levelPrefixes_card
end Go.Proofs.YtldllpmodnbbiaaGreatDoor
