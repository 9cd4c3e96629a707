/- Own work. -/
import Derived.Test.YtemojddccikgkaaGreatDoorB13
open Int (ofNat)
open Bool renaming true->ah,false->ag,and_eq_true->ak
open Classical renaming propDecidable->ay
open Go.Deferred renaming ofValue->cW
open Go.Gm renaming start->bT
open Go.IntKind renaming u64->dG,wrap_u64->iN
open Go.oz renaming mP->aB
open Go.Proofs.C7 renaming Hq->cO
open Go.Proofs.Tryz renaming prog->ai,f11->eR,f32->kD,f15->kF,f17->kG,f16->iA
open Go.Sx.It renaming code->aA,inBlock->aM,reg->fT
open Go.Sx.pV renaming code->bV,loop->fJ
open Go.Sx.Tree renaming vW->bz
open Int renaming ofNat->ab
open List renaming getElem?_eq_getElem->aC,length_append->aY,drop_eq_getElem_cons->b9,mem_map->bK,mem_of_find?_eq_some->gN,length_map->ck,getElem?_map->bY,range->aD,getElem?_range->fw,map_cons->dF,find?_cons->kc,mem_cons_self->bj,mem_cons_of_mem->aZ,map_append->gM,flatMap_def->jS,map_congr_left->dU,map_map->fY,map->fZ,any_eq_true->jT,mem_flatMap->eE,mem_append->aU,mem_singleton->i7,getD_eq_getElem?_getD->aO,nil_append->dM,getElem_mem->eD,replicate->bf
open Nat renaming add_zero->dH,le_succ_of_le->gn,beq->bJ,sub_self->dh,le_refl->aV,lt_trans->ma,pow_lt_pow_right->cF,pow_pos->ml,lt_of_lt_of_le->dp,le_trans->bL
open Option renaming some->ae,isSome_iff_exists->bG,none->ao
open Option.some renaming inj->aS
namespace Go.Pl
open Go Go.Sx Go.Proofs Go.Gm Go.Bf
noncomputable def naB(s:Sh)(lv:Int)(k:Nat)(u:Nat->List Sh):Bool:=hsB s lv&&((uZ s lv).okb&&(okB sO k u&&(decide (k<=1000)&&(wkO s lv k u).isSome)))
noncomputable def nxN(s:Sh)(lv:Int)(k:Nat)(u:Nat->List Sh):Nat:=(nxL s lv k u).length
noncomputable def nxR(s:Sh)(lv:Int)(k:Nat)(u:Nat->List Sh):Nat->sO:=nth (nxL s lv k u)
end Go.Pl
namespace Go.Proofs
open Go Go.Sx Go.Pl Go.Gm Go.Bf
noncomputable def aoX:List Sh->Tree Sh
 |[s,t,v]=>match nO t,qp 2 v with
  |some lv,ae (k,u)=>.need (naB s lv k u) (.leaf (.mX [.sl 2 (nxN s lv k u) (mO (nxR s lv k u)),.v .nilIface])) |_,_=>.fail
 |_=>.fail
section
variable{H0:Mem}{w0:World}{φ:Sh->Prop}{B:yU}{Q:Nd SG->Prop}{hs:Sh}{lv:Int}
theorem ajk(wF:nD ai (nJ W7) 23 (RH hs lv B))(ts:List ((Int×Bool)×Nd SG))(hl:ts.length<=1000)(hφ:φ (.mX [.sl 2 ts.length (mO (nth (ts.map fun t=>sZ t.1))),.v .nilIface])):
  ∀r j (acc:List sO),j+r=ts.length->acc=(ts.take j).map (fun t=>sZ t.1)->
  mY ai (C7 mM W7 (qY hs lv B) mZ) (K0 H0 w0) 11 Vz (LNc ts.length (nth (ts.map (yx B.k0))) acc.length (nth acc) (j:Nat)) [] emp (up φ)
 |0,j,acc,hj,ha=>by
  refine uT eR aoW ?_;have lt {P:Prop} (h:mM.lt (j:Int) (ab ts.length)=ah):P:=by simp_all [mW]
  refine qg (wP wF _) 300 400 [⟨11,Vz,LNc ts.length (nth (ts.map (yx B.k0))) 0 (nth []) 0,[]⟩] ?_;refine Zi mM W7 B hs lv _ _ _ 0 (nth acc) (nth []) j 0 rfl (fun q=>lt q) (fun q=>lt q) (fun q=>lt q) (fun _=>?_);have e:acc=ts.map fun t=>sZ t.1:=by simp_all
  (refine nP (s':=.mX [.sl 2 ts.length (mO (nth (ts.map fun t=>sZ t.1))),.v .nilIface]) ⟨.inr ⟨rfl,?_,fun i hi=>?_⟩,rfl,trivial⟩ hφ)<;>simp_all
 |r+1,j,acc,hj,ha=>by
  obtain ⟨t,ht⟩:∃t,ts[j]?=ae t:=⟨_,aC (by omega)⟩;have htr:nth (ts.map (yx B.k0)) (mM.toN (j:Int))=yx B.k0 t:=IV _ _ ht;have htk:ts.take (j+1)=ts.take j++[t]:=by
   rw[List.take_add_one,ht];rfl
  have nx:=ajk wF ts hl hφ r (j+1) (acc++[sZ t.1]) (by omega) (by simp_all);obtain ⟨tr,Z8⟩:∃tr,nth (ts.map (yx B.k0))=tr:=⟨_,rfl⟩;rw[Z8] at htr nx ⊢;have hal:acc.length<=1000:=by grind
  refine uT eR aoW ?_;have w1:mM.add .i64 (j:Int) (ab 1)=((j+1:Nat):Int):=add1 (by omega);have no {P:Prop} (h:mM.lt (j:Int) (ab ts.length)=ag):P:=by simp_all [mW]
  have inb:mM.inB (j:Int) ts.length=ah:=by grind [nN]
  refine qg (wP wF _) 300 400 [⟨11,Vz,LNc ts.length tr (acc++[sZ t.1]).length (nth (acc++[sZ t.1])) ((j+1:Nat):Int),[]⟩] ?_;refine Zi mM W7 B hs lv _ tr _ _ (nth acc) _ j _ rfl (fun _=>inb) (fun _=>by rw[uK,decide_eq_true_eq,uo];unfold maxLen;omega) (fun _=>?_) (fun q=>no q);exact ⟨⟨rfl,rfl,w1,by rw[aY];rfl,fun i hi=>zL acc (sZ t.1) _ (by rw[htr];rfl) i hi,trivial⟩,_,rfl,nx⟩
theorem ajl(wF:nD ai (nJ W7) 23 (RH hs lv B))(hg:Ei B Q)(nd:Nd SG)(hq:Q nd){k:Nat}{u:Nat->sO}{i:Nat}(hi:i<=1000)(s:Int×Bool){t0:(Int×Bool)×Nd SG}
  (hA:mY ai (C7 mM W7 (qY hs lv B) mZ) (K0 H0 w0) 11 Vx (LNa B k u ((i+1:Nat):Int) (t0.2.placed:Nat) B.k0 t0.2.st) [] emp (up φ)) :
  ∀r j,j+r=(turns (Gb B) nd).length->((turns (Gb B) nd).drop j).find? (fun t=>t.1==s)=ae t0->
  mY ai (C7 mM W7 (qY hs lv B) mZ) (K0 H0 w0) 11 Vy (LNb B k u (i:Nat) (nd.placed:Nat) B.k0 nd.st (sZ s) (turns (Gb B) nd).length (nth ((turns (Gb B) nd).map (yx B.k0))) (j:Nat)) [] emp (up φ)
 |0,j,hj,hf=>by
  simp_all
 |r+1,j,hj,hf=>by
  have hjl:j<(turns (Gb B) nd).length:=by omega
  have hN:(turns (Gb B) nd).length<=124:=IW (hg.tu nd hq).le nd;obtain ⟨t,ht⟩:∃t,(turns (Gb B) nd)[j]?=ae t:=⟨_,aC hjl⟩;have hd:(turns (Gb B) nd).drop j=t::(turns (Gb B) nd).drop (j+1):=by
   grind [b9,aC,aS]
  rw[hd] at hf;have htr:nth ((turns (Gb B) nd).map (yx B.k0)) (mM.toN (j:Int))=yx B.k0 t:=IV _ _ ht;have ih:=fun h=>ajl wF hg nd hq hi s hA r (j+1) (by omega) h;obtain ⟨tr,Z8⟩:∃tr,nth ((turns (Gb B) nd).map (yx B.k0))=tr:=⟨_,rfl⟩;rw[Z8] at htr ih ⊢;refine uT eR arX ?_;have w1:mM.add .i64 (j:Int) (ab 1)=((j+1:Nat):Int):=add1 (by omega);have w2:mM.add .i64 (i:Int) (ab 1)=((i+1:Nat):Int):=add1 (by omega);have no {P:Prop} (h:mM.lt (j:Int) (ab (turns (Gb B) nd).length)=ag):P:=by simp_all [mW]
  have inb:mM.inB (j:Int) (turns (Gb B) nd).length=ah:=by simp_all [nN]
  have hc:mM.ite (mM.eq (tr (mM.toN (j:Int))).tx (sZ s).tx) (mM.ite (mM.beq (tr (mM.toN (j:Int))).com (sZ s).com) ah ag) ag=(t.1==s):=by
   rw[htr];obtain ⟨⟨a,b⟩,nd'⟩:=t;obtain ⟨c,d⟩:=s;show (bif a==c then (bif b==d then ah else ag) else ag)=((a,b)==(c,d));grind
  cases hb:(t.1==s) with
  |true=>
   have e:t=t0:=by
    simp_all
   subst e;refine qg (wP wF _) 300 400 [⟨11,Vy,LNb B k u (i:Nat) (nd.placed:Nat) B.k0 nd.st (sZ s) (turns (Gb B) nd).length tr 0,[]⟩,⟨11,Vx,LNa B k u ((i+1:Nat):Int) (t.2.placed:Nat) B.k0 t.2.st,[]⟩] ?_;refine Zh mM W7 B hs lv k u i _ B.k0 nd.st (sZ s) _ tr j 0 _ _ _ _ (c1:=ah) rfl (by simp_all) (fun _=>inb) (fun _ _=>?_) (fun _ q=>by cases q) (fun q=>no q);exact ⟨⟨rfl,rfl,rfl,rfl,rfl,w2,congrArg Bc.placed htr,congrArg (fun x:Bc=>Sh.sl 4 x.n x.g) htr,trivial⟩,_,rfl,hA⟩
  |false=>
   have nx:=ih (by
    simp_all)
   refine qg (wP wF _) 300 400 [⟨11,Vy,LNb B k u (i:Nat) (nd.placed:Nat) B.k0 nd.st (sZ s) (turns (Gb B) nd).length tr ((j+1:Nat):Int),[]⟩,⟨11,Vx,LNa B k u 0 0 B.k0 nd.st,[]⟩] ?_;refine Zh mM W7 B hs lv k u i _ B.k0 nd.st (sZ s) _ tr j _ _ 0 _ _ (c1:=ag) rfl (by simp_all) (fun _=>inb) (fun _ q=>by cases q) (fun _ _=>?_) (fun q=>no q);exact ⟨⟨rfl,rfl,rfl,rfl,rfl,rfl,rfl,rfl,rfl,w1,rfl,rfl,rfl,rfl,trivial⟩,_,rfl,nx⟩
theorem ajm(wF:nD ai (nJ W7) 23 (RH hs lv B))(hg:Ei B Q){k:Nat}(hk:k<=1000){u:Nat->sO}{nd':Nd SG}(hφ:φ (.mX [.sl 2 (turns (Gb B) nd').length (mO (nth ((turns (Gb B) nd').map fun t=>sZ t.1))),.v .nilIface])):
  ∀(l:List (Int×Bool)) (i:Nat) (nd:Nd SG),i+l.length=k->(∀j s,l[j]?=ae s->u (i+j)=sZ s)->Q nd->walk (Gb B) nd l=ae nd'->
  mY ai (C7 mM W7 (qY hs lv B) mZ) (K0 H0 w0) 11 Vx (LNa B k u (i:Nat) (nd.placed:Nat) B.k0 nd.st) [] emp (up φ)
 |[],i,nd,hi,hu,hq,hw=>by
  have hw:ae nd=ae nd':=hw;rw[<-aS hw] at hφ;have hN:(turns (Gb B) nd).length<=124:=IW (hg.tu nd hq).le nd;refine uT eR aoV ?_;have lt {P:Prop} (h:mM.lt (i:Int) (ab k)=ah):P:=by simp_all [mW]
  have nx:=ajk (H0:=H0) (w0:=w0) wF (turns (Gb B) nd) (by omega) hφ (turns (Gb B) nd).length 0 [] (by omega) rfl;refine qg (wP wF _) 300 400 [⟨11,Vy,LNb B k u (i:Nat) (nd.placed:Nat) B.k0 nd.st default (turns (Gb B) nd).length (nth ((turns (Gb B) nd).map (yx B.k0))) 0,[]⟩,⟨11,Vz,LNc (turns (Gb B) nd).length (nth ((turns (Gb B) nd).map (yx B.k0))) 0 (nth []) ((0:Nat):Int),[]⟩] ?_;exact Zg mM W7 B hs lv k u i _ B.k0 nd.st default _ _ (nth []) rfl (fun q=>lt q) (fun q=>lt q) (fun _=>RJ hg hq rfl) (fun q=>lt q) (fun _=>⟨⟨by rw[DC,RN];rfl,by rw[DC];rfl,rfl,rfl,trivial⟩,_,rfl,nx⟩)
 |s::l,i,nd,hi,hu,hq,hw=>by
  rw[List.length_cons] at hi;rw[walk] at hw;cases hf:(turns (Gb B) nd).find? fun t=>t.1==s with
  |none=>simp_all |some t0=>
   rw[hf] at hw;have hqt:Q t0.2:=hg.step nd hq _ (bK.2 ⟨t0,gN hf,rfl⟩);have hA:=ajm wF hg hk hφ l (i+1) t0.2 (by omega) (fun j s hs=>by
    have:=hu (j+1) s (by grind);rw[show i+1+j=i+(j+1) by omega];exact this) hqt hw
   have hus:u i=sZ s:=hu 0 s rfl;have nx:=ajl (H0:=H0) (w0:=w0) wF hg nd hq (k:=k) (u:=u) (i:=i) (by omega) s hA (turns (Gb B) nd).length 0 (by omega) (by assumption);refine uT eR aoV ?_;have no {P:Prop} (h:mM.lt (i:Int) (ab k)=ag):P:=by grind [mW]
   have inb:mM.inB (i:Int) k=ah:=by grind [nN]
   refine qg (wP wF _) 300 400 [⟨11,Vy,LNb B k u (i:Nat) (nd.placed:Nat) B.k0 nd.st (sZ s) (turns (Gb B) nd).length (nth ((turns (Gb B) nd).map (yx B.k0))) ((0:Nat):Int),[]⟩,⟨11,Vz,LNc (turns (Gb B) nd).length (nth ((turns (Gb B) nd).map (yx B.k0))) 0 (nth []) 0,[]⟩] ?_;refine Zg mM W7 B hs lv k u i _ B.k0 nd.st (sZ s) _ _ (nth []) rfl (fun _=>inb) (fun _=>RJ hg hq rfl) (fun q=>no q) (fun _=>?_) (fun q=>no q);exact ⟨⟨rfl,rfl,rfl,rfl,rfl,rfl,rfl,by rw[DC,RN];rfl,by rw[DC];rfl,rfl,rfl,rfl,congrArg sO.tx hus,congrArg sO.com hus,trivial⟩,_,rfl,nx⟩
end
theorem awo:nD ai (nJ W7) 11 aoX:=by
 intro H w nY args φ hon hgl hr hφ;unfold aoX at hφ;split at hφ
 ·rename_i s t v
  split at hφ
  ·rename_i lv k u e1 e2
   obtain ⟨q1,hφ⟩:=hφ;unfold naB at q1;rw[ak,ak,ak,ak,decide_eq_true_eq] at q1;obtain ⟨b1,b2,b3,b4,b5⟩:=q1;obtain ⟨n,g,m,h,rfl,P,l1,l3⟩:=@of_decide_eq_true _ (ay _) b1;have hφ:φ (.mX [.sl 2 (nxN (hsS n g m h) lv k u) (mO (nxR (hsS n g m h) lv k u)),.v .nilIface]):=hφ;have O:=wF (O20 P) l1 l3 (aoN P);have hbg:uZ (hsS n g m h) lv=oW lv n g (oJ n g m h):=rfl;have hT:((oJ n g m h).okb&&decide ((oJ n g m h).n<=12))=ah:=b2;rw[ak,decide_eq_true_eq] at hT;have hG:=IY (lv:=lv) (Um P hT.1 hT.2);obtain ⟨nd',hw⟩:=bG.1 b5;have hL:nxL (hsS n g m h) lv k u=(turns (Gb (oW lv n g (oJ n g m h))) nd').map fun t=>sZ t.1:=by simp_all [nxL]
   unfold nxN nxR at hφ;rw[hL,ck] at hφ;unfold wkO at hw;rw[hbg] at hw;match args,hr with
   |[a0,a1,a2],⟨r0,r1,r2,_⟩=>
   refine NK (C:=C7 mM W7 (qY (hsS n g m h) lv (oW lv n g (oJ n g m h))) mZ) (C7.ok _ _) (fn:=eR) (vg:=[hsS n g m h,.i .i64 lv,.sl 2 k (mO (mP (α:=sO) u))]) (L:=L0) (by kernel_rfl) (by kernel_rfl) hon hgl ⟨r0,rO e1 r1,pX (nZ e2 r2) b3,trivial⟩ ?_;have hn:eR.ntmps=85:=by kernel_rfl
   refine qg (wP O _) 300 400 [⟨11,Vx,LNa (oW lv n g (oJ n g m h)) k (mP u) ((0:Nat):Int) 0 (oW lv n g (oJ n g m h)).k0 (oW lv n g (oJ n g m h)).g0,[]⟩] ?_;rw[hn];have c0 {P:Prop} (q:mM.lt lv (ab 1)=ah):P:=by grind [mW]
   have c1 {P:Prop} (q:mM.lt (ab 3) lv=ah):P:=by grind [mW]
   have nx:=ajm (H0:=H) (w0:=w) (φ:=φ) (hs:=hsS n g m h) (lv:=lv) O hG b4 (u:=mP u) hφ ((lst sO k u).map fun x=>(x.tx,x.com)) 0 ⟨0,(oW lv n g (oJ n g m h)).g0⟩ (by simp) (fun j s hs=>by
    rw[bY] at hs;unfold lst at hs;rw[bY] at hs;obtain ⟨hj,_⟩:=List.getElem?_eq_some_iff.1 (show (aD k)[j]?=ae ((aD k)[j]?.getD 0) by
     grind)
    rw[List.length_range] at hj;rw[fw hj] at hs;cases hs;rw[Nat.zero_add];rfl) hG.start hw
   exact ahU mM W7 (oW lv n g (oJ n g m h)) lv n m g h k (mP u) ((0:Nat):Int) (c2:=ah) rfl rfl b2 rfl (fun _ _=>@decide_eq_true _ (ay _) ⟨rfl,rfl⟩) (fun q=>c0 q) (fun _ q=>c1 q)
    (fun _ _ _=>⟨⟨rfl,rfl,rfl,rfl,rfl,rfl,rfl,rfl,trivial⟩,_,rfl,nx⟩) (fun _ _ q=>by cases q) (fun _ _ q=>by cases q)
  ·exact hφ.elim
 ·exact hφ.elim
end Go.Proofs
namespace Go.Gm
open Go.Bf
theorem abq{α β:Type}{p:β->Bool}{q:α->Bool}{F:α->β}:∀{l:List α},(∀x∈l,p (F x)=q x)->(l.map F).find? p=(l.find? q).map F
 |[],_=>rfl |a::l,h=>by
  rw[dF,kc,kc,h a bj];cases q a with
  |true=>rfl |false=>exact abq fun x hx=>h x (aZ _ hx)
section
variable{S S' κ κ':Type}[DecidableEq κ][DecidableEq κ']{g:Game S}{g':Game S'}{key:Nd S->κ}{key':Nd S'->κ'}{f:S'->S}{Q:Nd S'->Prop}
def qZ(f:S'->S)(nd:Nd S'):Nd S:=⟨nd.placed,f nd.st⟩
structure FY(g:Game S)(g':Game S')(f:S'->S)(Q:Nd S'->Prop):Prop where
 n:g.n=g'.n
 id:∀i,i<g'.n->g.id i=g'.id i
 com:∀i,i<g'.n->g.com i=g'.com i
 Uh:∀i,i<g'.n->g.Uh i=g'.Uh i
 mask:∀i,i<g'.n->g.mask i=g'.mask i
 all:g.all=g'.all
 run:∀nd,Q nd->∀i,i<g'.n->may g' nd.placed i=ah->g.run (f nd.st) i=(g'.run nd.st i).map f
 step:∀nd,Q nd->∀t∈next g' nd,Q t
theorem aoY(h:FY g g' f Q)(p i:Nat)(hi:i<g'.n):may g p i=may g' p i:=by
 unfold may;rw[h.n,h.mask i hi]
theorem ahV(h:FY g g' f Q){nd:Nd S'}(hq:Q nd){i:Nat}(hi:i<g'.n):xK g (qZ f nd) i=(xK g' nd i).map fun t=>(t.1,qZ f t.2):=by
 unfold xK;have e:may g (qZ f nd).placed i=may g' nd.placed i:=aoY h _ _ hi;rw[e];cases hm:may g' nd.placed i with
 |false=>rfl |true=>
  have hr:=h.run nd hq i hi hm;have hr:g.run (qZ f nd).st i=(g'.run nd.st i).map f:=hr;rw[if_pos rfl,if_pos rfl,hr,h.com i hi,h.Uh i hi,h.all,h.id i hi,gM];have hs:((g'.run nd.st i).map f).isSome=(g'.run nd.st i).isSome:=by simp
  rw[hs];congr 1
  ·cases g'.com i<;>cases g'.run nd.st i<;>rfl
  ·split<;>rfl
theorem PW(h:FY g g' f Q){nd:Nd S'}(hq:Q nd):turns g (qZ f nd)=(turns g' nd).map fun t=>(t.1,qZ f t.2):=by
 unfold turns;rw[h.n,List.map_flatMap,jS,jS];grind [dU,ahV]
theorem NM(h:FY g g' f Q){nd:Nd S'}(hq:Q nd):next g (qZ f nd)=(next g' nd).map (qZ f):=by
 unfold next;rw[PW h hq,fY,fY];rfl
theorem NP(h:FY g g' f Q)(nd:Nd S'):full g (qZ f nd)=full g' nd:=by unfold full;rw[h.n];rfl
variable(hk:∀x y,Q x->Q y->(key (qZ f x)=key (qZ f y)↔key' x=key' y))
include hk
theorem aoZ{o:List (Nd S')}(ho:∀x∈o,Q x){n:Nd S'}(hn:Q n):BN key (o.map (qZ f)) (key (qZ f n))=BN key' o (key' n):=by
 grind [FW]
theorem ao0{m:Nat}{o:List (Nd S')}(ho:∀x∈o,Q x){n:Nd S'}(hn:Q n):yT key m (o.map (qZ f)) (qZ f n)=(yT key' m o n).map (fZ (qZ f)):=by
 unfold yT;rw[aoZ hk ho hn,ck];grind
theorem abr{m:Nat}:∀{l o:List (Nd S')},(∀x∈o,Q x)->(∀x∈l,Q x)->wC key m (o.map (qZ f)) (l.map (qZ f))=(wC key' m o l).map (fZ (qZ f))
 |[],o,_,_=>rfl |n::l,o,ho,hl=>by
  rw[dF,wC,wC,ao0 hk ho (hl n bj)];cases hp:yT key' m o n with
  |none=>rfl |some o1=>exact abr (abj hp ho (hl n bj)) fun x hx=>hl x (aZ _ hx)
theorem afR(h:FY g g' f Q){m:Nat}:∀{fu i:Nat} {o:List (Nd S')},(∀x∈o,Q x)->EJ key (next g) m fu (o.map (qZ f)) i=(EJ key' (next g') m fu o i).map (fZ (qZ f))
 |0,_,_,_=>rfl |fu+1,i,o,ho=>by
  rw[EJ,EJ,bY];cases hi:o[i]? with
  |none=>rfl |some n=>
   have hn:=ho n (List.mem_of_getElem? hi);simp only[Option.map_some];rw[NM h hn,abr hk ho (h.step n hn)];cases hp:wC key' m o (next g' n) with
   |none=>rfl |some o1=>exact afR h (NJ hp ho (h.step n hn))
theorem J4(h:FY g g' f Q):∀{r:List (Nd S')},(∀x∈r,Q x)->∀n,Q n->zk key (next g) (full g) (r.map (qZ f)) (key (qZ f n))=zk key' (next g') (full g') r (key' n)
 |[],_,_,_=>rfl |a::r,hr,n,hn=>by
  have ha:=hr a bj;have hr':=fun x hx=>hr x (aZ a hx);rw[dF,zk,zk];by_cases e:key' a=key' n
  ·rw[if_pos e,if_pos ((hk a n ha hn).2 e),NP h,NM h ha,List.any_map]
   congr 1;rw[Bool.eq_iff_iff,jT,jT];constructor
   ·intro ⟨t,ht,q⟩
    exact ⟨t,ht,by rw[<-J4 h hr' t (h.step a ha t ht)];exact q⟩
   ·intro ⟨t,ht,q⟩
    exact ⟨t,ht,(J4 h hr' t (h.step a ha t ht)).trans q⟩
  ·rw[if_neg e,if_neg (fun q=>e ((hk a n ha hn).1 q))]
   exact J4 h hr' n hn
theorem ahW(h:FY g g' f Q){s:S'}(hs:Q (start s))(m:Nat):uH g key (f s) m=(uH g' key' s m).map (fZ (qZ f)):=by
 unfold uH;have:=afR hk h (m:=m) (fu:=m+1) (i:=0) (o:=[start s]) (fun x hx=>by
  simp_all)
 exact this
theorem ajn(h:FY g g' f Q){r:List (Nd S')}(hr:∀x∈r,Q x){n:Nd S'}(hn:Q n):PG g key (r.map (qZ f)) (qZ f n)=PG g' key' r n:=J4 hk h hr n hn
theorem afS(h:FY g g' f Q){r:List (Nd S')}(hr:∀x∈r,Q x){s:S'}(hs:Q (start s)):Kr g key (f s) (r.map (qZ f))=Kr g' key' s r:=ajn hk h hr hs
theorem Zj(h:FY g g' f Q){r:List (Nd S')}(hr:∀x∈r,Q x):∀fu (n:Nd S'),Q n->least g (PG g key (r.map (qZ f))) fu (qZ f n)=least g' (PG g' key' r) fu n
 |0,_,_=>rfl |fu+1,n,hn=>by
  rw[least,least,NP h,PW h hn];rw[abq (p:=fun t=>PG g key (r.map (qZ f)) t.2) (q:=fun t=>PG g' key' r t.2) (F:=fun t=>(t.1,qZ f t.2)) fun t ht=>ajn hk h hr (h.step n hn _ (bK.2 ⟨t,ht,rfl⟩))];cases hf:(turns g' n).find? fun t=>PG g' key' r t.2 with
  |none=>rfl |some t=>
   have ht:=h.step n hn t.2 (bK.2 ⟨t,gN hf,rfl⟩);show (if full g' n=ah then [] else t.1::least g (PG g key (r.map (qZ f))) fu (qZ f t.2))=_;rw[Zj h hr fu t.2 ht]
theorem ahX(h:FY g g' f Q){r:List (Nd S')}(hr:∀x∈r,Q x){s:S'}(hs:Q (start s)):BO g key (f s) (r.map (qZ f))=BO g' key' s r:=by
 unfold BO;rw[afS hk h hr hs,h.n];split
 ·exact Zj hk h hr _ _ hs
 ·rfl
omit hk in
end
end Go.Gm
namespace Go.Pl
open Go Go.Sx Go.Proofs Go.Gm Go.Bf
def qh(l:List oO)(j:Nat):oO:=l.getD j FK
def xO(n:Nat):List oO->List Dd->Option (List oO)
 |l,[]=>ae l |l,d::r=>if d.ret=0 then xO n l r else if EH n (qh l) d.obj d.op d.key d.val=ah then
   (if (sG (qh l d.obj.toNat) d.op d.key d.val).2.1=d.ret/\(sG (qh l d.obj.toNat) d.op d.key d.val).2.2=d.got then xO n (l.set d.obj.toNat (sG (qh l d.obj.toNat) d.op d.key d.val).1) r else ao) else ao
def wR(n:Nat)(g0:SG)(l:List oO):SG:=fun j=>if j<n then qO (qh l j) else g0 j
def Dv(B:yU):Game (List oO) where
 n:=B.N
 id i:=(B.T i).id
 com i:=(B.T i).st==3||(B.T i).st==2
 Uh i:=!((B.T i).st==3)
 mask i:=(B.ms i).toNat
 run l i:=xO B.k0 l (lst Dd (B.T i).k (B.T i).g)
 all:=B.lv==3
def IZ(nd:Nd (List oO)):Nat×List oO:=(nd.placed,nd.st)
section
variable{n:Nat}{g0:SG}
theorem Zk(l:List oO):∀j,j<n->wR n g0 l j=qO (qh l j):=fun _ hj=>if_pos hj
theorem ao1(l:List oO):∀j,j<n->tH n (wR n g0 l) j=qh l j:=aiG (Zk l)
theorem Us(l:List oO)(k:Nat)(s:oO)(hk:k<l.length)(j:Nat):qh (l.set k s) j=if j=k then s else qh l j:=by
 grind [qh]
theorem ac0(n:Nat)(g0:SG):∀(dd:List Dd) (l:List oO) (i:Nat),l.length=n->
  match xO n l dd with
  |some l'=>zf n (wR n g0 l) i dd=.inr (wR n g0 l')/\l'.length=n |none=>∃q,zf n (wR n g0 l) i dd=.inl q
 |[],l,i,hl=>⟨rfl,hl⟩ |d::dd,l,i,hl=>by
  unfold xO zf;by_cases h0:d.ret=0
  ·rw[if_pos h0,if_pos h0]
   exact ac0 n g0 dd l (i+1) hl
  ·rw[if_neg h0,if_neg h0]
   have hok:Ri n (wR n g0 l) d.obj d.op d.key d.val=EH n (qh l) d.obj d.op d.key d.val:=Y9 (ao1 l) _ _ _ _;rw[hok];by_cases h1:EH n (qh l) d.obj d.op d.key d.val=ah
   ·rw[if_pos h1,if_pos h1]
    obtain ⟨hi,_⟩:=afJ h1;have hi':0<=d.obj/\d.obj<n:=of_decide_eq_true hi;have hs:tH n (wR n g0 l) d.obj.toNat=qh l d.obj.toNat:=ao1 l _ (by omega);have hr:aeZ n (wR n g0 l) d.obj d.op d.key d.val=(sG (qh l d.obj.toNat) d.op d.key d.val).2.1:=by grind [aeZ]
    have hgt:ae0 n (wR n g0 l) d.obj d.op d.key d.val=(sG (qh l d.obj.toNat) d.op d.key d.val).2.2:=by grind [ae0]
    have hn:Yf n (wR n g0 l) d.obj d.op d.key d.val=wR n g0 (l.set d.obj.toNat (sG (qh l d.obj.toNat) d.op d.key d.val).1):=by
     funext j;show (if wM n d.obj=ah/\j=d.obj.toNat then qO (sG (tH n (wR n g0 l) d.obj.toNat) d.op d.key d.val).1 else wR n g0 l j)=if j<n then qO (qh (l.set d.obj.toNat _) j) else g0 j;rw[hs,Us _ _ _ (by omega)];by_cases e:j=d.obj.toNat
     ·simp_all
     ·rw[if_neg (fun q=>e q.2),if_neg e];rfl
    rw[hr,hgt,hn];by_cases h2:(sG (qh l d.obj.toNat) d.op d.key d.val).2.1=d.ret/\(sG (qh l d.obj.toNat) d.op d.key d.val).2.2=d.got
    ·rw[if_pos h2,if_pos h2]
     exact ac0 n g0 dd _ (i+1) (by simp_all)
    ·rw[if_neg h2,if_neg h2]
     exact ⟨_,rfl⟩
   simp_all
end
section
variable{lv:Int}{n:Nat}{og:Nat->List Sh}{B:H7}
def QlP(lv:Int)(n:Nat)(og:Nat->List Sh)(B:H7)(nd:Nd (List oO)):Prop:=nd.st.length=n/\Za lv n og B (qZ (wR n (wQ og)) nd)
theorem ahY(nd:Nd (List oO))(hl:nd.st.length=n)(i:Nat):
  (Gb (oW lv n og B)).run (wR n (wQ og) nd.st) i=((Dv (oW lv n og B)).run nd.st i).map (wR n (wQ og))/\∀l',(Dv (oW lv n og B)).run nd.st i=ae l'->l'.length=n:=by
 have h:=ac0 n (wQ og) (lst Dd ((oW lv n og B).T i).k ((oW lv n og B).T i).g) nd.st 0 hl;show (if plO n (wR n (wQ og) nd.st) ((oW lv n og B).T i).k ((oW lv n og B).T i).g=ah then ae (N7 n (wR n (wQ og) nd.st) ((oW lv n og B).T i).k ((oW lv n og B).T i).g) else ao)=(xO n nd.st (lst Dd ((oW lv n og B).T i).k ((oW lv n og B).T i).g)).map (wR n (wQ og))/\∀l',xO n nd.st (lst Dd ((oW lv n og B).T i).k ((oW lv n og B).T i).g)=ae l'->l'.length=n;unfold plO N7 Yh Yi;grind
theorem GN(P:TbP n og B):FY (Gb (oW lv n og B)) (Dv (oW lv n og B)) (wR n (wQ og)) (QlP lv n og B) where
 n:=rfl
 id _ _:=rfl
 com _ _:=rfl
 Uh _ _:=rfl
 mask _ _:=rfl
 all:=rfl
 run nd hq i _ _:=(ahY nd hq.1 i).1
 step nd hq t ht:=by
  have hG:=IY (lv:=lv) P;have hlen:t.st.length=n:=by
   unfold next turns at ht;obtain ⟨x,hx,rfl⟩:=bK.1 ht;obtain ⟨i,hi,hx⟩:=eE.1 hx;unfold xK at hx;split at hx
   ·rcases aU.1 hx with hx|hx
    ·split at hx
     ·rename_i s e1 e2
      obtain rfl:x=_:=by simpa using hx
      exact (ahY (lv:=lv) (og:=og) (B:=B) nd hq.1 i).2 s e2
     ·cases hx
    ·split at hx
     ·obtain rfl:x=_:=by simpa using hx
      exact hq.1
     ·cases hx
   ·cases hx
  refine ⟨hlen,hG.step _ hq.2 _ ?_⟩;have key:FY (Gb (oW lv n og B)) (Dv (oW lv n og B)) (wR n (wQ og)) (fun x=>x=nd/\x.st.length=n)\/True:=.inr trivial;unfold next turns at ht ⊢;obtain ⟨x,hx,rfl⟩:=bK.1 ht;obtain ⟨i,hi,hx⟩:=eE.1 hx;refine bK.2 ⟨(x.1,qZ (wR n (wQ og)) x.2),eE.2 ⟨i,hi,?_⟩,rfl⟩;have hr:=(ahY (lv:=lv) (og:=og) (B:=B) nd hq.1 i).1;unfold xK at hx ⊢;have em:may (Gb (oW lv n og B)) (qZ (wR n (wQ og)) nd).placed i=may (Dv (oW lv n og B)) nd.placed i:=rfl;rw[em];have hr':(Gb (oW lv n og B)).run (qZ (wR n (wQ og)) nd).st i=((Dv (oW lv n og B)).run nd.st i).map (wR n (wQ og)):=hr;rw[hr'];split at hx
  ·rename_i hm
   rw[if_pos hm];rcases aU.1 hx with hx|hx
   ·refine List.mem_append_left _ ?_
    split at hx
    ·rename_i s e1 e2
     obtain rfl:x=_:=by simpa using hx
     rw[e2];have e1':(Gb (oW lv n og B)).com i=ah:=e1;rw[e1'];exact i7.2 rfl
    ·cases hx
   ·refine List.mem_append_right _ ?_
    split at hx
    ·rename_i hc
     obtain rfl:x=_:=by simpa using hx
     have hc':(Gb (oW lv n og B)).Uh i=ah/\((Gb (oW lv n og B)).all=ah->(((Dv (oW lv n og B)).run nd.st i).map (wR n (wQ og))).isSome=ah):=⟨hc.1,fun q=>by
      have:=hc.2 q;simp_all⟩
     rw[if_pos hc'];exact i7.2 rfl
    ·cases hx
  ·cases hx
theorem akZ{l l':List oO}(h1:l.length=n)(h2:l'.length=n)(h:∀j,j<n->qh l j=qh l' j):l=l':=by
 grind [List.ext_getElem,qh,aC]
theorem ahZ:∀x y,QlP lv n og B x->QlP lv n og B y->(qP n (qZ (wR n (wQ og)) x)=qP n (qZ (wR n (wQ og)) y)↔IZ x=IZ y):=fun x y hx hy=>by
 constructor
 ·intro h
  have e:=Uk _ _ hx.2 hy.2 h;obtain ⟨p,l⟩:=x;obtain ⟨p',l'⟩:=y;have e1:p=p':=congrArg Nd.placed e;have e2:wR n (wQ og) l=wR n (wQ og) l':=congrArg Nd.st e;have e3:l=l':=akZ hx.1 hy.1 fun j hj=>by
   have:=congrFun e2 j;grind [Zk,Iy]
  rw[e1,e3]
 ·intro h
  obtain ⟨p,l⟩:=x;obtain ⟨p',l'⟩:=y;have h:(p,l)=(p',l'):=h;grind
def newL(n:Nat)(og:Nat->List Sh):List oO:=(aD n).map fun j=>newT (mP og) j
theorem Zl:wR n (wQ og) (newL n og)=wQ og:=by
 funext j;unfold wR;split
 ·rename_i hj
  unfold qh newL;rw[aO,bY,fw hj];rfl
 ·rfl
theorem FZ(P:TbP n og B):QlP lv n og B (bT (newL n og)):=⟨by show (newL n og).length=n;unfold newL;simp,by
 have h:=(IY (lv:=lv) P).start;have e:qZ (wR n (wQ og)) (bT (newL n og))=⟨0,(oW lv n og B).g0⟩:=by
  show (⟨0,wR n (wQ og) (newL n og)⟩:Nd SG)=⟨0,wQ og⟩;rw[Zl]
 grind⟩
end
end Go.Pl
namespace Go.Rg
open Go Go.Sx Go.Pl Go.Proofs
theorem Zm{m:Nat}{s:oO}{op k v:Int}(h:xR m s)(ha:uQ s.kind s.num op k v=0):opR (toR s) op k v=(sG s op k v).2.1/\opV (toR s) op k v=(sG s op k v).2.2:=by
 obtain ⟨⟨k0,hk⟩,_⟩:=acE ha;have hop:=aa8 ha;obtain ⟨kind,num,q,ps⟩:=s;rcases hop with rfl|rfl|rfl|rfl|rfl|rfl|rfl|rfl|rfl
 ·exact ⟨rfl,rfl⟩
 ·exact ⟨rfl,rfl⟩
 ·exact ⟨rfl,rfl⟩
 ·exact ⟨rfl,rfl⟩
 ·exact ⟨rfl,rfl⟩
 ·have hk:(3:Int)=kind:=hk
  subst hk;have hp:ps=[]:=h.p0 (show (3:Int)≠4 by decide);simp_all [opR,opV,JM,sG,toR]
 ·exact ⟨rfl,rfl⟩
 ·have hk:(4:Int)=kind:=hk
  subst hk;have hq:q=[]:=h.q0 (show (4:Int)≠3 by decide);subst hq;have hs:=vN h.wf;have e1:=ND (k:=k) hs;have e2:nth ([]++ps.map (·.val)) (nT (ps.map (·.key)) k)=if sW ps k=ah then (nth ps (pR ps k)).val else nth ([]++ps.map (·.val)) (nT (ps.map (·.key)) k):=by
   simp_all [dM,ET,Yz,Ru]
  have e3 (c d:Int):(if sW ps k=ah then nth ([]++ps.map (·.val)) (nT (ps.map (·.key)) k) else d)=if sW ps k=ah then (nth ps (pR ps k)).val else d:=by
   simp_all
  constructor
  ·show (if hasK (ps.map (·.key)) k=ah then (3:Int) else 2)=Ci ps k
   rw[e1];rfl
  ·show (if hasK (ps.map (·.key)) k=ah then nth ([]++ps.map (·.val)) (nT (ps.map (·.key)) k) else 0)=BA ps k
   rw[e1,e3 0 0];rfl
 ·have hk:(4:Int)=kind:=hk
  subst hk;have hq:q=[]:=h.q0 (show (4:Int)≠3 by decide);subst hq;have hs:=vN h.wf;have e1:=ND (k:=k) hs;have e2:nth ([]++ps.map (·.val)) (nT (ps.map (·.key)) k)=if sW ps k=ah then (nth ps (pR ps k)).val else nth ([]++ps.map (·.val)) (nT (ps.map (·.key)) k):=by
   simp_all [dM,ET,Yz,Ru]
  have e3 (c d:Int):(if sW ps k=ah then nth ([]++ps.map (·.val)) (nT (ps.map (·.key)) k) else d)=if sW ps k=ah then (nth ps (pR ps k)).val else d:=by
   simp_all
  constructor
  ·show (if hasK (ps.map (·.key)) k=ah then (3:Int) else 2)=Ci ps k
   rw[e1];rfl
  ·show (if hasK (ps.map (·.key)) k=ah then nth ([]++ps.map (·.val)) (nT (ps.map (·.key)) k) else 0)=BA ps k
   rw[e1,e3 0 0];rfl
def dR(l:List oO):Nat->Rf:=fun j=>toR (qh l j)
def En(n:Nat):List oO->List Dd->Nat->Int×Nat
 |_,[],_=>(0,0) |l,d::r,i=>if d.ret=0 then En n l r (i+1) else if EH n (qh l) d.obj d.op d.key d.val=ah then
   (if (sG (qh l d.obj.toNat) d.op d.key d.val).2.1=d.ret/\(sG (qh l d.obj.toNat) d.op d.key d.val).2.2=d.got then En n (l.set d.obj.toNat (sG (qh l d.obj.toNat) d.op d.key d.val).1) r (i+1) else (112,i)) else (Yy n (dR l) d.obj d.op d.key d.val,i)
def ddL(dd:Nat->Dd):Nat->Nat->List Dd
 |_,0=>[] |i,r+1=>dd i::ddL dd (i+1) r
theorem afU(dd:Nat->Dd):∀r i,ddL dd i r=(aD r).map fun j=>dd (i+j)
 |0,_=>rfl |r+1,i=>by
  rw[ddL,afU dd r (i+1),List.range_succ_eq_map,dF,fY];simp only[dH];congr 1;grind [dU]
def ruS(n:Nat)(l:List oO)(rest:List Dd)(i:Nat):Sh:=match xO n l rest with
 |some l'=>.mX [.sl 4 n (rD (dR l')),.agg [.i .i64 0,.sl 1 0 yL]] |none=>.mX [.sl 0 0 noT,Ef (En n l rest i)]
theorem Wn{n:Nat}{l:List oO}{i op k v:Int}(h:EH n (qh l) i op k v=ah):(0<=i/\i<n)/\wM n i=ah/\uQ (qh l i.toNat).kind (qh l i.toNat).num op k v=0:=by
 have hM:okM n (fun j=>toR (qh l j)) i op k v=ah:=by rw[YC];exact h
 have hM:(wM n i&&isC (toR (qh l i.toNat)).kind (toR (qh l i.toNat)).num op k v 0)=ah:=hM;rw[ak] at hM;exact ⟨of_decide_eq_true hM.1,hM.1,of_decide_eq_true hM.2⟩
theorem aq7{n m:Nat}{l:List oO}{i op k v:Int}(hl:l.length=n)(hI:∀j,j<n->xR m (qh l j))(h:EH n (qh l) i op k v=ah):
  (∀j,j<n->Ce n (rD (dR l)) i (KH (Ht (dR l i.toNat) op k v)) j=rD (dR (l.set i.toNat (sG (qh l i.toNat) op k v).1)) j)/\∀j,j<n->xR (m+1) (qh (l.set i.toNat (sG (qh l i.toNat) op k v).1) j):=by
 obtain ⟨hi',hi,hc⟩:=Wn h;obtain ⟨q1,q2⟩:=aa9 (hI i.toNat (by omega)) hc;refine ⟨fun j hj=>?_,fun j hj=>?_⟩
 ·unfold Ce
  show _=KH (toR (qh (l.set i.toNat (sG (qh l i.toNat) op k v).1) j));rw[Us _ _ _ (by omega)];by_cases e:j=i.toNat
  ·rw[if_pos ⟨hi,e⟩,if_pos e]
   show KH (Ht (toR (qh l i.toNat)) op k v)=_;rw[q1]
  ·rw[if_neg (fun q=>e q.2),if_neg e];rfl
 ·rw[Us _ _ _ (by omega)]
  by_cases e:j=i.toNat
  ·simp_all
  ·rw[if_neg e]
   have:=hI j hj;exact {this with ql:=gn this.ql,pl:=gn this.pl}
theorem xq{A:Prim}{W:Wd}{s s':Nat->Option (List Sh->Tree Sh)}{stop stop':Nat->List Nat->Bool}{K:Kx}{g:Nat}{td:List It}{c:Core}{R:Hp->Prop}{φ:Sh->Prop}
  (h:mY ai (C7 A W s stop) K g td c [] R φ):mY ai (C7 A W s' stop') K g td c [] R φ:=fun H E w a items ms cs fn hf st hi hs hx=>
 h H E w a items ms cs fn hf ⟨st.den,st.hp,st.o7,st.free,st.gl,st.defers⟩ hi (by cases ms with
  |nil=>trivial |cons _ _=>exact hs.elim) hx
def RX:List It:=[aA [0,1,0,1],aM 0,aA [1,1]]
def Zn(n:Nat)(g:Nat->List Sh)(k:Nat)(dd:Nat->Dd)(i:Int):Core:={tm:=sK 63 [(0,.sh (.sl 4 n g)),(1,.sh (.sl 8 k (mO dd))),(5,.ptr 0 0),(6,.sym .i64 i)],hp:=[(0,.box [.int .i64 0,.nS] 34)],nx:=1,lim:=L0,tc:=[]}
noncomputable def Ku(d:Nat->Rf):Nat->Option (List Sh->Tree Sh)
 |54=>ae (F89 d) |55=>ae (ai5 d) |_=>ao
def aq8(g:Nat):Bool:=bJ g 54
def ao2:List It:=[fT [0,1,1,0,0,1,0,0,1,0,1] [9,10,11,12,13,14,15,16,17,18],aA [1,1,1,0,0,1,0,0,1,0,1],aM 1,aA [1,1,0,0,1,0,1]]++RX
def ddV(d:Dd):List SV:=[.sym .i64 d.obj,.sym .i64 d.op,.sym .i64 d.key,.sym .i64 d.val,.sym .i64 d.ret,.sym .i64 d.got,.sym .i64 d.at_,.sym .i64 d.back]
def arY(n:Nat)(g:Nat->List Sh)(k:Nat)(dd:Nat->Dd)(i:Int)(e:Dd):Core:={tm:=sK 63 [(1,.sh (.sl 8 k (mO dd))),(5,.ptr 0 0),(6,.sym .i64 i),(7,.ptr 1 0),(26,.sh (.sl 4 n g)),(28,.sym .i64 e.obj),(30,.sym .i64 e.op),(32,.sym .i64 e.key),(34,.sym .i64 e.val)],hp:=[(0,.box [.int .i64 0,.nS] 34),(1,.box (ddV e) 143)],nx:=2,lim:=L0,tc:=[]}
def awp:List It:=aA [0,0,1,0,1]::RX
theorem ah0(d:Nat->Rf)(stop:Nat->List Nat->Bool):oD ai (C7 mM W7 (Ku d) stop):=cO (fun g F h=>by
 unfold Ku at h;grind [O89,arP]) fun g h=>by
 unfold Ku at h;split at h;all_goals first|(cases h;done) |kernel_rfl
section
variable{H0:Mem}{w0:World}{φ:Sh->Prop}{n k:Nat}{dd:Nat->Dd}{d0:Nat->Rf}
def Ut(i:Nat)(c:Int):Sh:=.mX [.sl 0 0 fun _=>[],.agg [.i .i64 c,.os 3 1 1 (nM [[.i .i64 (i:Int)]])]]
theorem RY{c:Int}{i:Nat}(h0:c≠0)(h1:c≠105)(h:φ (.mX [.sl 0 0 noT,Ef (c,i)])):up φ (Ut i c):=by
 unfold Ef at h;rw[if_neg (by simp[h0,h1])] at h;exact nP (s':=.mX [.sl 0 0 noT,.agg [.i .i64 c,.sl 1 1 fun _=>[.i .i64 (i:Int)]]]) ⟨.inl ⟨rfl,rfl⟩,⟨rfl,.inr ⟨rfl,rfl,fun a ha=>by
  obtain rfl:a=0:=by omega
  rfl⟩,trivial⟩,trivial⟩ h
theorem ac1(hr:pq n 64=ah)(hk:k<=1000):∀r i l m g,i+r=k->l.length=n->(∀j,j<n->xR m (qh l j))->m+r<=50000->(∀j,j<n->g j=rD (dR l) j)->φ (ruS n l (ddL dd i r) i)->
  mY ai (C7 mM W7 (Ku d0) mZ) (K0 H0 w0) 32 RX (Zn n g k dd (i:Nat)) [] emp (up φ)
 |r,i,l,m,g,hir,hl,hI,hm,hg,hφ=>by
  refine xq (s:=Ku (dR l)) (stop:=mZ) ?_;refine uT kD awp ?_;have e1:mM.add .i64 (i:Int) 1=((i+1:Nat):Int):=add1 (by omega);have ha:aa7 (dR l) n g=ah:=aft hg;have inb (h:mM.lt (i:Int) (mM.nK k)=ah):i<k:=by grind [mW,ny]
  refine EG aq8 (ah0 _ _) 300 800 [⟨32,RX,Zn n g k dd (mM.add .i64 (i:Int) 1),[]⟩,⟨32,ao2,arY n g k dd (i:Int) (dd i),[]⟩] ?_;refine rQ (nd (mM.lt (i:Int) (mM.nK k)) (fun h=>an (by simp[nN,inb h]:mM.inB (i:Int) k=ah) (nd (mM.eq (dd i).ret 0)
   (fun z=>(?_:mY ai (C7 mM W7 (Ku (dR l)) mZ) (K0 H0 w0) 32 RX (Zn n g k dd (mM.add .i64 (i:Int) 1)) [] emp (up φ)))
   (fun z=>(?_:mY ai (C7 mM W7 (Ku (dR l)) mZ) (K0 H0 w0) 32 ao2 (arY n g k dd (i:Int) (dd i)) [] emp (up φ)))))
   (fun h=>an ha (an hr (?_:up φ (.mX [.os 100 4 n (rD (dR l)),.agg [.i .i64 0,.sl 0 0 fun _=>[]]])))))
  ·have h:=inb h
   match r,hir,hm,hφ with
   |0,hir,_,_=>omega |r+1,hir,hm,hφ=>
    rw[show mM.add .i64 (i:Int) 1=((i+1:Nat):Int) from e1];refine xq (s:=Ku d0) (stop:=mZ) (ac1 hr hk r (i+1) l m g (by omega) hl hI (by omega) hg ?_);have z:(dd i).ret=0:=by grind [nG]
    simp_all [ddL,ruS,xO,En]
  ·have h:=inb h
   match r,hir,hm,hφ with
   |0,hir,_,_=>omega |r+1,hir,hm,hφ=>
    have z:¬(dd i).ret=0:=by grind [nG]
    unfold ddL ruS xO En at hφ;rw[if_neg z,if_neg z] at hφ;refine qg (ah0 _ _) 300 800 [⟨32,RX,Zn n (Ce n (rD (dR l)) (dd i).obj (KH (Ht (dR l (dd i).obj.toNat) (dd i).op (dd i).key (dd i).val))) k dd (mM.add .i64 (i:Int) 1),[]⟩] ?_;have hwf (hin:wM n (dd i).obj=ah):wfU (dR l (dd i).obj.toNat)=ah:=by
     have:=akF (n:=n) (i:=(dd i).obj) (by omega:m<=50000) hI;unfold aob at this;rw[hin] at this;assumption
    have hok:EH n (qh l) (dd i).obj (dd i).op (dd i).key (dd i).val=(wM n (dd i).obj&&isC (dR l (dd i).obj.toNat).kind (dR l (dd i).obj.toNat).num (dd i).op (dd i).key (dd i).val 0):=YC.symm;have hcode (hin:wM n (dd i).obj=ah):Yy n (dR l) (dd i).obj (dd i).op (dd i).key (dd i).val=uQ (dR l (dd i).obj.toNat).kind (dR l (dd i).obj.toNat).num (dd i).op (dd i).key (dd i).val:=if_pos hin;have hno (h:EH n (qh l) (dd i).obj (dd i).op (dd i).key (dd i).val=ag):φ (.mX [.sl 0 0 noT,Ef (Yy n (dR l) (dd i).obj (dd i).op (dd i).key (dd i).val,i)]):=by
     grind
    refine rQ (an ha (an hr (nd (wM n (dd i).obj) (fun hin=>an (hwf hin) (nd (isC (dR l (dd i).obj.toNat).kind (dR l (dd i).obj.toNat).num (dd i).op (dd i).key (dd i).val 0)
     (fun hc=>nd (mM.nt (mM.eq (opR (dR l (dd i).obj.toNat) (dd i).op (dd i).key (dd i).val) (dd i).ret)) (fun a=>(?_:up φ (Ut i 112))) (fun a=>nd (mM.nt (mM.eq (opV (dR l (dd i).obj.toNat) (dd i).op (dd i).key (dd i).val) (dd i).got)) (fun b=>(?_:up φ (Ut i 112)))
      (fun b=>(?_:mY ai (C7 mM W7 (Ku (dR l)) mZ) (K0 H0 w0) 32 RX (Zn n (Ce n (rD (dR l)) (dd i).obj (KH (Ht (dR l (dd i).obj.toNat) (dd i).op (dd i).key (dd i).val))) k dd (mM.add .i64 (i:Int) 1)) [] emp (up φ)))))
     (fun hc=>nd (isC (dR l (dd i).obj.toNat).kind (dR l (dd i).obj.toNat).num (dd i).op (dd i).key (dd i).val 110) (fun a=>(?_:up φ (Ut i 110))) (fun a=>(?_:up φ (Ut i 111))))))
     (fun hin=>(?_:up φ (Ut i 109))))))
    ·have hT:EH n (qh l) (dd i).obj (dd i).op (dd i).key (dd i).val=ah:=by simp_all
     obtain ⟨hi',_,hc0⟩:=Wn hT;have hrr:=Zm (hI _ (by omega:(dd i).obj.toNat<n)) hc0;have a:¬(sG (qh l (dd i).obj.toNat) (dd i).op (dd i).key (dd i).val).2.1=(dd i).ret:=by
      simp_all [oL,nG,dR]
     simp_all [RY]
    ·have hT:EH n (qh l) (dd i).obj (dd i).op (dd i).key (dd i).val=ah:=by simp_all
     obtain ⟨hi',_,hc0⟩:=Wn hT;have hrr:=Zm (hI _ (by omega:(dd i).obj.toNat<n)) hc0;have b:¬(sG (qh l (dd i).obj.toNat) (dd i).op (dd i).key (dd i).val).2.2=(dd i).got:=by
      simp_all [oL,nG,dR]
     simp_all [RY]
    ·have hT:EH n (qh l) (dd i).obj (dd i).op (dd i).key (dd i).val=ah:=by simp_all
     obtain ⟨hi',_,hc0⟩:=Wn hT;have hrr:=Zm (hI _ (by omega:(dd i).obj.toNat<n)) hc0;have a:(sG (qh l (dd i).obj.toNat) (dd i).op (dd i).key (dd i).val).2.1=(dd i).ret:=by
      simp_all [oL,nG,dR]
     have b:(sG (qh l (dd i).obj.toNat) (dd i).op (dd i).key (dd i).val).2.2=(dd i).got:=by
      simp_all [oL,nG,dR]
     rw[if_pos hT,if_pos hT,if_pos ⟨a,b⟩,if_pos ⟨a,b⟩] at hφ;obtain ⟨u1,u2⟩:=aq7 hl hI hT;rw[show mM.add .i64 (i:Int) 1=((i+1:Nat):Int) from e1];exact xq (s:=Ku d0) (stop:=mZ) (ac1 hr hk r (i+1) _ (m+1) _ (by omega) (by grind) u2 (by omega) u1 hφ)
    ·have hF:EH n (qh l) (dd i).obj (dd i).op (dd i).key (dd i).val=ag:=by simp_all
     have a:uQ (dR l (dd i).obj.toNat).kind (dR l (dd i).obj.toNat).num (dd i).op (dd i).key (dd i).val=110:=of_decide_eq_true a;simp_all [RY]
    ·have hF:EH n (qh l) (dd i).obj (dd i).op (dd i).key (dd i).val=ag:=by simp_all
     have a:uQ (dR l (dd i).obj.toNat).kind (dR l (dd i).obj.toNat).num (dd i).op (dd i).key (dd i).val≠110:=of_decide_eq_false a;have hc:uQ (dR l (dd i).obj.toNat).kind (dR l (dd i).obj.toNat).num (dd i).op (dd i).key (dd i).val≠0:=of_decide_eq_false hc;grind [uQ,dR,RY]
    simp_all [EH,qh,Yy,dR,RY]
  ·have h:k=i:=by grind [mW,ny]
   match r,hir,hφ with
   |0,hir,hφ=>exact nP (s':=.mX [.sl 4 n (rD (dR l)),.agg [.i .i64 0,.sl 1 0 yL]]) ⟨.inr ⟨rfl,rfl,fun _ _=>rfl⟩,⟨rfl,.inl ⟨rfl,rfl⟩,trivial⟩,trivial⟩ hφ |r+1,hir,_=>omega
end
structure SrP(n:Nat)(g:Nat->List Sh)(m:Nat)(l:List oO):Prop where
 len:l.length=n
 row:∀j,j<n->g j=rD (dR l) j
 inv:∀j,j<n->xR m (qh l j)
noncomputable def srB(l:List oO)(n:Nat)(g:Nat->List Sh):Bool:=@decide (SrP n g 49000 l/\n<=8) (ay _)
def plL(n:Nat)(l:List oO)(dd:List Dd):List oO:=(xO n l dd).getD []
def RG(n:Nat)(l:List oO)(dd:List Dd):Bool:=(xO n l dd).isSome
noncomputable def F62(l:List oO):List Sh->Tree Sh
 |[s,t]=>match qp 4 s,qp 8 t with
  |some (n,g),ae (k,gd)=>.need (srB l n g) (.need (okB Dd k gd) (.need (decide (k<=1000)) (.node (RG n l (lst Dd k gd)) (.leaf (.mX [.sl 4 n (rD (dR (plL n l (lst Dd k gd)))),.agg [.i .i64 0,.sl 1 0 yL]])) (.leaf (.mX [.sl 0 0 noT,Ef (En n l (lst Dd k gd) 0)]))))) |_,_=>.fail
 |_=>.fail
theorem O62(l:List oO):nD ai (nJ W7) 32 (F62 l):=by
 refine rC (C7 mM W7 (Ku (dR l)) mZ) kD fun H w nY args φ hrep hφ=>?_
 have hn:kD.ntmps=63:=by kernel_rfl
 unfold F62 at hφ;split at hφ
 ·split at hφ
  ·rename_i s t n g k gd h1 h2
   obtain ⟨q1,q2,q3,hT,hF⟩:=hφ;obtain ⟨⟨l1,l2,l3⟩,n8⟩:=@of_decide_eq_true _ (ay _) q1;have q3:=of_decide_eq_true q3;match args,hrep with
   |[a,b],⟨ra,rb,_⟩=>
    refine ⟨[.sl 4 n g,.sl 8 k (mO (mP (α:=Dd) gd))],⟨nZ h1 ra,pX (nZ h2 rb) q2,trivial⟩,L0,?_⟩;rw[hn];have hll:lst Dd k gd=ddL (mP gd) 0 k:=by grind [afU,lst]
    rw[hll] at hT hF;refine qg (ah0 _ _) 300 800 [⟨32,RX,Zn n g k (mP gd) 0,[]⟩] ?_;refine rQ (ac1 (room_le (by omega) (by omega)) q3 k 0 l 49000 g (by omega) l1 l3 (by omega) l2 ?_:mY ai (C7 mM W7 (Ku (dR l)) mZ) (K0 H w) 32 RX (Zn n g k (mP gd) 0) [] emp (up φ));unfold ruS;unfold RG plL at hT;unfold RG at hF;cases hp:xO n l (ddL (mP gd) 0 k) with
    |some l'=>rw[hp] at hT;exact hT rfl |none=>rw[hp] at hF;exact hF rfl
  ·exact hφ.elim
 ·exact hφ.elim
open Go Go.Sx Go.Pl Go.Proofs
open Go.oz (Ev)
def ao3:List Sh->Tree Sh
 |[.agg [s,t]]=>match nO s,nO t with
  |some k,ae i=>.need (decide (Dl ⟨k,i⟩=0)) (.leaf (.v (.int .i64 0))) |_,_=>.fail
 |_=>.fail
def ao4:List Sh->Tree Sh
 |[.agg [s,t]]=>match qp 2 s,qp 8 t with
  |some (n,g),ae (m,h)=>.need (okB Oj n g) (.need (Go.oz.okB Ev m h) (.need (decide ((BJ n (mP g) m (aB h)).1=0)) (.leaf (.agg [.v (.int .i64 0),.sl 1 0 yL])))) |_,_=>.fail
 |_=>.fail
def Zo:Nat->Option (List Sh->Tree Sh)
 |48=>ae ao3 |26=>ae ao4 |_=>ao
def abt:List It:=[aA [0,1,0,1,1,1,1],aM 0,aA [1,1,1,1,1]]
def afV(n:Nat)(o:Nat->Oj)(k:Nat)(g:Nat->List Sh)(i:Int):Core:={tm:=sK 36 [(0,.sh (.sl 2 n (mO o))),(3,.ptr 0 0),(4,.ptr 1 0),(5,.gs 2),(6,.sym .i64 i)],hp:=[(0,.box [.int .i64 0,.nS] 34),(1,.box [.int .i64 0,.sh (.sl 1 0 yL)] 34),(2,.own 100 4 k g)],nx:=3,lim:=L0,tc:=[]}
def awr:List It:=aA [0,0,1,0,1,1,1,1]::abt
theorem awt:nD ai (nJ W7) 48 ao3:=Uc O83 fun nY φ h=>by
 unfold ao3 at h;split at h
 ·split at h
  ·rename_i e1 e2
   obtain ⟨hc,hφ⟩:=h;refine ⟨.i64,0,hφ,?_⟩;unfold F83;simp only[e1,e2];show Sh.i .i64 _=_;simp_all
  ·exact h.elim
 ·exact h.elim
theorem ak2{H H':Mem}{w w':World}{v:Value}{c:Int}{s:Sh}(r:qy H w (.agg [.i .i64 c,s]) v H' w'):qy H w (.agg [.v (.int .i64 c),s]) v H' w':=
 ⟨r.x9,r.on,r.os,r.tape,r.output,r.size,r.old,r.fresh,fun b0=>by
  obtain ⟨E1,a1,a2,⟨⟨vs⟩,e,hd⟩,a4⟩:=r.res b0;refine ⟨E1,a1,a2,⟨⟨vs⟩,e,?_⟩,a4⟩;match vs,hd with
  |[a,b],⟨h1,h2,_⟩=>exact ⟨h1,h2,trivial⟩⟩
theorem awu:nD ai (nJ W7) 26 ao4:=by
 intro H w nY args φ hon hgl hr hφ;have key:∃g,φ (.agg [.v (.int .i64 0),.sl 1 0 yL])/\(F57 nY).All fun s=>s=.agg [.i .i64 0,.sl 1 0 g]:=by
  unfold ao4 at hφ;split at hφ
  ·split at hφ
   ·rename_i n g m h e1 e2
    obtain ⟨h1,h2,h3,h4⟩:=hφ;have h3:=of_decide_eq_true h3;refine ⟨fun _=>[.i .i64 (((BJ n (mP g) m (aB h)).2:Nat):Int)],h4,?_⟩;unfold F57;simp only[e1,e2];refine ⟨h1,h2,?_⟩;show Ef _=_;simp_all [Ef]
   ·exact hφ.elim
  ·exact hφ.elim
 obtain ⟨g,h1,h2⟩:=key;refine (O57 H w nY args _ hon hgl hr h2).mono fun e w' ⟨v,s,H',he,hs,r⟩=>?_;subst hs;obtain ⟨H2,r2⟩:=r.wk (s':=.agg [.i .i64 0,.sl 1 0 yL]) ⟨rfl,.inl ⟨rfl,rfl⟩,trivial⟩;exact ⟨v,_,H2,he,h1,ak2 r2⟩
theorem ao5(stop:Nat->List Nat->Bool):oD ai (C7 mM W7 Zo stop):=cO (fun g F h=>by
 unfold Zo at h;grind [awt,awu]) fun g h=>by
 unfold Zo at h;split at h;all_goals first|(cases h;done) |kernel_rfl
def okO(n:Nat)(o:Nat->Oj):Bool:=decide (n<=8)&&(aD n).all fun j=>!rV (o j).kind (o j).init
def F34:List Sh->Tree Sh
 |[s]=>match qp 2 s with
  |some (n,g)=>.need (okB Oj n g) (.need (okO n (mP g)) (.leaf (.mX [.sl 4 n (rD (xQ (mP g))),.agg [.i .i64 0,.sl 1 0 yL]]))) |none=>.fail
 |_=>.fail
section
variable{H0:Mem}{w0:World}{φ:Sh->Prop}{n:Nat}{o:Nat->Oj}
theorem ajo(hn:n<=8)(hb:∀j,j<n->Dl (o j)=0)(hφ:φ (.mX [.sl 4 n (rD (xQ o)),.agg [.i .i64 0,.sl 1 0 yL]])):∀r i,i+r=n->
  mY ai (C7 mM W7 Zo mZ) (K0 H0 w0) 15 abt (afV n o i (rD (xQ o)) (i:Nat)) [] emp (up φ)
 |r,i,hir=>by
  refine uT kF awr ?_;have e1:mM.add .i64 (i:Int) 1=((i+1:Nat):Int):=add1 (by omega);have inb (h:mM.lt (i:Int) (mM.nK n)=ah):i<n:=by grind [mW,ny]
  refine qg (ao5 _) 300 800 [⟨15,abt,afV n o (i+1) (mM.snoc (rD (xQ o)) i (nM [[.i .i64 (o i).kind,.i .i64 (o i).init,.sl 0 0 fun _=>[],.sl 0 0 fun _=>[]]])) (mM.add .i64 (i:Int) 1),[]⟩] ?_;refine rQ (nd (mM.lt (i:Int) (mM.nK n)) (fun h=>an (by simp[nN,inb h]:mM.inB (i:Int) n=ah) (an (decide_eq_true (hb i (inb h)):decide (Dl ⟨(o i).kind,(o i).init⟩=0)=ah) (an (room_le (by omega) (by omega):mM.room (i+1) 64=ah)
   (?_:mY ai (C7 mM W7 Zo mZ) (K0 H0 w0) 15 abt (afV n o (i+1) (mM.snoc (rD (xQ o)) i (nM [[.i .i64 (o i).kind,.i .i64 (o i).init,.sl 0 0 fun _=>[],.sl 0 0 fun _=>[]]])) (mM.add .i64 (i:Int) 1)) [] emp (up φ)))))
   (fun h=>(?_:up φ (.mX [.os 100 4 i (rD (xQ o)),.agg [.i .i64 0,.sl 1 0 yL]]))))
  ·have h:=inb h
   match r,hir with
   |0,hir=>omega |r+1,hir=>
    rw[show mM.add .i64 (i:Int) 1=((i+1:Nat):Int) from e1];refine yJ (id:=2) rfl (fun j hj=>?_) (ajo hn hb hφ r (i+1) (by omega));rw[rH];split
    ·simp_all
    ·obtain rfl:j=i:=by omega
     rw[dh];have nil (H:Mem) (u:Value) (h:Rep H (.sl 0 0 fun _=>[]) u):Rep H (.sl 1 (len ([]:List Int)) (mO (nth ([]:List Int)))) u:=by
      cases h with
      |sl0 _ _ A cap hc=>exact .sl0 _ _ _ _ hc |sl _ _ _ b off cap c h1 h2 h3 h4 h5 h6=>exact .sl0 _ _ _ _ h2
     refine ⟨rfl,fun a s' h=>?_⟩;match a,h with
     |0,h|1,h=>exact ⟨s',h,fun _ _ q=>q⟩ |2,h|3,h=>
      obtain rfl:=aS h;exact ⟨_,rfl,nil⟩
     |a+4,h=>simp[rD,KH] at h
  ·have:i=n:=by grind [mW,ny]
   subst this;exact nP (s':=.mX [.sl 4 i (rD (xQ o)),.agg [.i .i64 0,.sl 1 0 yL]]) ⟨.inr ⟨rfl,rfl,fun _ _=>rfl⟩,⟨rfl,.inl ⟨rfl,rfl⟩,trivial⟩,trivial⟩ hφ
end
theorem awv:nD ai (nJ W7) 15 F34:=by
 refine rC (C7 mM W7 Zo mZ) kF fun H w nY args φ hrep hφ=>?_
 have hn:kF.ntmps=36:=by kernel_rfl
 unfold F34 at hφ;split at hφ
 ·split at hφ
  ·rename_i s n g h1
   obtain ⟨q1,q2,hφ⟩:=hφ;have q2:(_&&_)=ah:=q2;rw[ak] at q2;have n8:=of_decide_eq_true q2.1;match args,hrep with
   |[a],⟨ra,_⟩=>
    refine ⟨[.sl 2 n (mO (mP (α:=Oj) g))],⟨pX (nZ h1 ra) q1,trivial⟩,L0,?_⟩;rw[hn];have hφ:φ (.mX [.sl 4 n (rD (xQ (mP g))),.agg [.i .i64 0,.sl 1 0 yL]]):=hφ;generalize mP (α:=Oj) g=o at *;have hb:∀j,j<n->Dl (o j)=0:=fun j hj=>by
     grind [xH,Dl,rV]
    have hv:(BJ n (mP (mO o)) 0 (aB fun _=>[])).1=0:=by
     simp_all [yj,RQ]
    refine qg (ao5 _) 300 800 [⟨15,abt,afV n o 0 (fun _=>[]) 0,[]⟩] ?_;refine rQ (an (o9 o n) (an (rfl:ah=ah) (an (decide_eq_true hv) (?_:mY ai (C7 mM W7 Zo mZ) (K0 H w) 15 abt (afV n o 0 (fun _=>[]) 0) [] emp (up φ)))));exact yJ (id:=2) rfl (fun j hj=>by omega) (ajo n8 hb hφ n 0 (by omega))
  ·exact hφ.elim
 ·exact hφ.elim
open Go Go.Sx Go.Pl Go.Proofs
theorem Zp{H:Mem}{l:List Sh}{x:pO}{v:Value}(h:Row.get (α:=pO) l=ae x)(r:Rep H (.agg l) v):Rep H (.agg (Row.put x)) v:=by
 grind [Row.qQ]
theorem aww:nD ai (nJ W7) 31 Y5:=by
 refine pJ (vk mZ) 300 400 L0 Tryz.f31 fun H w nY args φ hrep h=>?_
 unfold Y5 at h;split at h
 ·split at h
  ·rename_i l t x lv h1 h2
   have hφ:φ (.b (F9 x.st lv)):=h;match args,hrep with
   |[v,u],⟨hv,hu,_⟩=>
    refine ⟨[.agg (Row.put x),.i .i64 lv],⟨Zp h1 hv,rO h2 hu,trivial⟩,?_⟩;rw[<-qc];refine arD (bif lv==1 then (bif x.st==3 then ah else x.st==2) else bif lv==2 then (bif x.st==3 then ah else x.st==2) else bif lv==3 then ah else ag) (nP (s':=.b (F9 x.st lv)) (.inl ?_) hφ);grind [F9]
  ·exact h.elim
 ·exact h.elim
theorem awx:nD ai (nJ W7) 30 Z9:=by
 refine pJ (vk mZ) 300 400 L0 Tryz.f30 fun H w nY args φ hrep h=>?_
 unfold Z9 at h;split at h
 ·split at h
  ·rename_i l r x y h1 h2
   have hφ:φ (.b (FX x.en y.bg)):=h;match args,hrep with
   |[v,u],⟨hv,hu,_⟩=>
    refine ⟨[.agg (Row.put x),.agg (Row.put y)],⟨Zp h1 hv,Zp h2 hu,trivial⟩,?_⟩;rw[<-qc];refine arD (bif decide (0<=x.en) then decide (x.en<y.bg) else ag) (nP (s':=.b (FX x.en y.bg)) (.inl ?_) hφ);simp_all [FX,decide]
  ·exact h.elim
 ·exact h.elim
def ao6(b:Bool):List Sh->Tree Sh
 |[.agg l,t]=>match Row.get (α:=pO) l,nO t with
  |some x,ae lv=>.need (decide (F9 x.st lv=b)) (.leaf (.v (.bool b))) |_,_=>.fail
 |_=>.fail
def ao7(b:Bool):List Sh->Tree Sh
 |[.agg l,.agg r]=>match Row.get (α:=pO) l,Row.get (α:=pO) r with
  |some x,ae y=>.need (decide (FX x.en y.bg=b)) (.leaf (.v (.bool b))) |_,_=>.fail
 |_=>.fail
theorem awy(b:Bool):nD ai (nJ W7) 31 (ao6 b):=X7 aww fun nY φ h=>by
 unfold ao6 at h;split at h
 ·split at h
  ·rename_i e1 e2
   obtain ⟨hc,hφ⟩:=h;refine ⟨.v (.bool b),hφ,?_⟩;unfold Y5;simp only[e1,e2];rw[of_decide_eq_true hc];exact .inr rfl
  ·exact h.elim
 ·exact h.elim
theorem awz(b:Bool):nD ai (nJ W7) 30 (ao7 b):=X7 awx fun nY φ h=>by
 unfold ao7 at h;split at h
 ·split at h
  ·rename_i e1 e2
   obtain ⟨hc,hφ⟩:=h;refine ⟨.v (.bool b),hφ,?_⟩;unfold Z9;simp only[e1,e2];rw[of_decide_eq_true hc];exact .inr rfl
  ·exact h.elim
 ·exact h.elim
def Kv(b:Bool):Nat->Option (List Sh->Tree Sh)
 |31=>ae (ao6 b) |_=>ao
def VA:List It:=[aA [0,1,0,1,1],aM 0,aA [1,1,1]]
def awC:List It:=aA [0,0,1,0,1,1]::VA
def Zq(n:Nat)(T:Nat->pO)(lv:Int)(c:Nat)(G:Nat->List Sh)(i:Int):Core:={tm:=sK 24 [(0,.sh (.sl 7 n (mO T))),(1,.sym .i64 lv),(5,.gs 0),(6,.sym .i64 i)],hp:=[(0,.own 3 1 c G)],nx:=1,lim:=L0,tc:=[]}
theorem ah1(b:Bool)(stop:Nat->List Nat->Bool):oD ai (C7 mM W7 (Kv b) stop):=cO (fun g F h=>by
 grind [Kv,awy]) fun g h=>by
 unfold Kv at h;split at h;all_goals first|(cases h;done) |kernel_rfl
def tV(lv:Int)(T:Nat->pO):Nat->Nat->List Int
 |_,0=>[] |i,r+1=>(if F9 (T i).st lv=ah then [(i:Int)] else [])++tV lv T (i+1) r
theorem Zr(lv:Int)(T:Nat->pO):∀r i,(tV lv T i r).length<=r
 |0,_=>aV _ |r+1,i=>by
  have:=Zr lv T r (i+1);grind [tV,aY]
theorem qG{L:List Int}{x:Int}:Gz (L.length+1) (mM.snoc (mO (nth L)) L.length (nM [[Sh.i .i64 x]])) (mO (nth (L++[x]))):=fun j hj=>by
 have e:mM.snoc (mO (nth L)) L.length (nM [[Sh.i .i64 x]]) j=mO (nth (L++[x])) j:=by
  rw[rH];split
  ·rename_i q
   show Row.put _=Row.put _;simp_all [nth,aO]
  ·rename_i q
   obtain rfl:j=L.length:=by omega
   rw[dh];show _=Row.put (nth (L++[x]) L.length);have:nth (L++[x]) L.length=x:=by simp[nth]
   rw[this];rfl
 simp_all
section
variable{H0:Mem}{w0:World}{φ:Sh->Prop}{n:Nat}{T:Nat->pO}{lv:Int}{b0:Bool}
theorem ac2(hn:n<=1000):∀r i L,i+r=n->L.length<=i->φ (.os 3 1 (L++tV lv T i r).length (mO (nth (L++tV lv T i r))))->
  mY ai (C7 mM W7 (Kv b0) mZ) (K0 H0 w0) 17 VA (Zq n T lv L.length (mO (nth L)) (i:Nat)) [] emp φ
 |r,i,L,hir,hL,hφ=>by
  refine xq (s:=Kv (F9 (T i).st lv)) (stop:=mZ) ?_;refine uT kG awC ?_;have e1:mM.add .i64 (i:Int) 1=((i+1:Nat):Int):=add1 (by omega);have inb (h:mM.lt (i:Int) (mM.nK n)=ah):i<n:=by grind [mW,ny]
  have fin (h:mM.lt (i:Int) (mM.nK n)=ag):φ (.os 3 1 L.length (mO (nth L))):=by
   have h:¬i<n:=by grind [mW,ny]
   obtain rfl:r=0:=by omega
   simp_all [tV,List.append_nil]
  cases hb:F9 (T i).st lv with
  |true=>
   refine qg (ah1 _ _) 300 800 [⟨17,VA,Zq n T lv (L.length+1) (mM.snoc (mO (nth L)) L.length (nM [[.i .i64 (i:Int)]])) (mM.add .i64 (i:Int) 1),[]⟩] ?_;refine rQ (nd (mM.lt (i:Int) (mM.nK n)) (fun h=>an (by simp[nN,inb h]:mM.inB (i:Int) n=ah) (an (decide_eq_true hb:decide (F9 (T i).st lv=ah)=ah) (an (room_le (by omega) (by omega):mM.room (L.length+1) 8=ah)
    (?_:mY ai (C7 mM W7 (Kv ah) mZ) (K0 H0 w0) 17 VA (Zq n T lv (L.length+1) (mM.snoc (mO (nth L)) L.length (nM [[.i .i64 (i:Int)]])) (mM.add .i64 (i:Int) 1)) [] emp φ)))) (fun h=>fin h))
   have h:=inb (by assumption);match r,hir,hφ with
   |0,hir,_=>omega |r+1,hir,hφ=>
    rw[show mM.add .i64 (i:Int) 1=((i+1:Nat):Int) from e1];unfold tV at hφ;rw[if_pos hb,<-List.append_assoc] at hφ;refine yJ (id:=0) rfl qG ?_;have:=xq (s:=Kv b0) (s':=Kv ah) (stop:=mZ) (stop':=mZ) (ac2 hn r (i+1) (L++[(i:Int)]) (by omega) (by simp;omega) hφ);rw[aY] at this;exact this
  |false=>
   refine qg (ah1 _ _) 300 800 [⟨17,VA,Zq n T lv L.length (mO (nth L)) (mM.add .i64 (i:Int) 1),[]⟩] ?_;refine rQ (nd (mM.lt (i:Int) (mM.nK n)) (fun h=>an (by simp[nN,inb h]:mM.inB (i:Int) n=ah) (an (decide_eq_true hb:decide (F9 (T i).st lv=ag)=ah)
    (?_:mY ai (C7 mM W7 (Kv ag) mZ) (K0 H0 w0) 17 VA (Zq n T lv L.length (mO (nth L)) (mM.add .i64 (i:Int) 1)) [] emp φ))) (fun h=>fin h))
   have h:=inb (by assumption);match r,hir,hφ with
   |0,hir,_=>omega |r+1,hir,hφ=>
    rw[show mM.add .i64 (i:Int) 1=((i+1:Nat):Int) from e1];unfold tV at hφ;rw[if_neg (by rw[hb];simp),dM] at hφ;exact xq (s:=Kv b0) (stop:=mZ) (ac2 hn r (i+1) L (by omega) (by omega) hφ)
end
noncomputable def ajp:List Sh->Tree Sh
 |[s,t]=>match qp 7 s,nO t with
  |some (n,g),ae lv=>.need (okB pO n g) (.need (decide (n<=400)) (.leaf (.sl 1 (tV lv (mP g) 0 n).length (mO (nth (tV lv (mP g) 0 n)))))) |_,_=>.fail
 |_=>.fail
theorem arZ:nD ai (nJ W7) 17 ajp:=by
 refine rC (C7 mM W7 (Kv ah) mZ) kG fun H w nY args φ hrep hφ=>?_
 have hn:kG.ntmps=24:=by kernel_rfl
 unfold ajp at hφ;split at hφ
 ·split at hφ
  ·rename_i s t n g lv h1 h2
   obtain ⟨q1,q2,hφ⟩:=hφ;have q2:=of_decide_eq_true q2;match args,hrep with
   |[a,b],⟨ra,rb,_⟩=>
    refine ⟨[.sl 7 n (mO (mP (α:=pO) g)),.i .i64 lv],⟨pX (nZ h1 ra) q1,rO h2 rb,trivial⟩,L0,?_⟩;rw[hn];have hφ:φ (.sl 1 (tV lv (mP g) 0 n).length (mO (nth (tV lv (mP g) 0 n)))):=hφ;generalize mP (α:=pO) g=T at *;refine qg (ah1 _ _) 300 800 [⟨17,VA,Zq n T lv 0 (fun _=>[]) 0,[]⟩] ?_;refine rQ (?_:mY ai (C7 mM W7 (Kv ah) mZ) (K0 H w) 17 VA (Zq n T lv 0 (fun _=>[]) 0) [] emp (up φ));refine yJ (id:=0) (G':=mO (nth ([]:List Int))) rfl (fun j hj=>by omega) (ac2 (by omega) n 0 [] (by omega) (aV _) ?_);exact nP (s':=.sl 1 (tV lv T 0 n).length (mO (nth (tV lv T 0 n)))) (.inr ⟨rfl,rfl,fun _ _=>rfl⟩) hφ
  ·exact hφ.elim
 ·exact hφ.elim
open Go Go.Sx Go.Pl Go.Proofs
noncomputable def D5(b:Bool):Nat->Option (List Sh->Tree Sh)
 |30=>ae (ao7 b) |17=>ae ajp |_=>ao
def Et:List It:=[aA [0,1,0,1,1,1,1,1],aM 0,aA [1,1,1,1,1,1]]
def ars:List It:=aA [0,0,1,0,1,1,1,1,1]::Et
def Eo:List It:=[aA [0,1,0,1,0,0,1,0,0,1,0,1,1,1,1,1],aM 2,aA [1,1,0,0,1,0,0,1,0,1,1,1,1,1],aM 1,aA [1,1,0,0,1,0,1,1,1,1,1]]++Et
def aum:List It:=aA [0,0,1,0,1,0,0,1,0,0,1,0,1,1,1,1,1]::Eo
def I4(n:Nat)(T:Nat->pO)(lv:Int)(c:Nat)(cs:Nat->Int)(k:Nat)(G:Nat->List Sh)(i:Int):Core:={tm:=sK 64 [(0,.sh (.sl 7 n (mO T))),(1,.int .i64 lv),(6,.sh (.sl 1 c (mO cs))),(7,.gs 0),(8,.sym .i64 i)],hp:=[(0,.own 3 1 k G)],nx:=1,lim:=L0,tc:=[]}
def F5(n:Nat)(T:Nat->pO)(lv:Int)(c:Nat)(cs:Nat->Int)(k:Nat)(G:Nat->List Sh)(i x j:Int):Core:={tm:=sK 64 [(0,.sh (.sl 7 n (mO T))),(1,.int .i64 lv),(6,.sh (.sl 1 c (mO cs))),(7,.gs 0),(8,.sym .i64 i),(9,.sym .i64 x),(10,.sym .i64 j)],hp:=[(0,.own 3 1 k G)],nx:=1,lim:=L0,tc:=[]}
theorem J5(b:Bool)(stop:Nat->List Nat->Bool):oD ai (C7 mM W7 (D5 b) stop):=cO (fun g F h=>by
 unfold D5 at h;grind [awz,arZ]) fun g h=>by
 unfold D5 at h;split at h;all_goals first|(cases h;done) |kernel_rfl
theorem afW{j:Nat}(hj:j<62):mM.conv .u64 (j:Int)=(j:Int):=by
 show dG.wrap (j:Int)=_;rw[iN];omega
theorem ac3{X j:Nat}(hX:X<2^62)(hj:j<62):mM.bin .or .i64 (X:Int) (mM.bin .shl .i64 1 (mM.conv .u64 (j:Int)))=((X|||1<<<j:Nat):Int):=by
 grind [afW,or_eq,ma]
theorem Zt{j:Nat}(hj:j<62):mM.le 0 (mM.conv .u64 (j:Int))=ah:=by
 rfl
def vK(T:Nat->pO)(C:List Int):List pO:=C.map fun x=>T x.toNat
theorem ac4{T:Nat->pO}{C:List Int}{j:Nat}(h:j<C.length):(vK T C)[j]?=ae (T (nth C j).toNat):=by
 simp_all [vK,nth,aO]
theorem RZ(T:Nat->pO)(C:List Int):(vK T C).length=C.length:=ck ..
section
variable{H0:Mem}{w0:World}{φ:Sh->Prop}{n:Nat}{T:Nat->pO}{lv:Int}{b0:Bool}{C:List Int}
theorem afX(hlv:lv=1\/lv=2\/lv=3)(hc:C.length<=62)(hC:∀x∈C,0<=x/\x<n){i:Nat}(hi:i<C.length){M:List Int}(hM:M.length=i)(nx:mY ai (C7 mM W7 (D5 b0) mZ) (K0 H0 w0) 16 Et (I4 n T lv C.length (nth C) (M++[zn lv (vK T C) i]).length (mO (nth (M++[zn lv (vK T C) i]))) ((i+1:Nat):Int)) [] emp φ):
  ∀r j X,j+r=C.length->X<2^62->GL lv (T (nth C i).toNat).bg j ((vK T C).drop j) X=GL lv (nth (vK T C) i).bg 0 (vK T C) 0->
  mY ai (C7 mM W7 (D5 b0) mZ) (K0 H0 w0) 16 Eo (F5 n T lv C.length (nth C) M.length (mO (nth M)) (i:Nat) ((X:Nat):Int) (j:Nat)) [] emp φ
 |r,j,X,hjr,hX,hm=>by
  refine xq (s:=D5 (FX (T (nth C j).toNat).en (T (nth C i).toNat).bg)) (stop:=mZ) ?_;refine uT iA aum ?_;have e1:mM.add .i64 (j:Int) 1=((j+1:Nat):Int):=add1 (by omega);have e2:mM.add .i64 (i:Int) 1=((i+1:Nat):Int):=add1 (by omega);have inb (h:mM.lt (j:Int) (mM.nK C.length)=ah):j<C.length:=by grind [mW,ny]
  have mem {a:Nat} (h:a<C.length):0<=nth C a/\nth C a<n:=hC _ (by
   simp_all [nth,aO,eD])
  have ib {a:Nat} (h:a<C.length):mM.inB (nth C a) n=ah:=by simp_all [nN]
  have ic {a:Nat} (h:a<C.length):mM.inB (a:Int) C.length=ah:=by simp[nN];omega
  have fin (h:mM.lt (j:Int) (mM.nK C.length)=ag) (b:Bool):mY ai (C7 mM W7 (D5 b) mZ) (K0 H0 w0) 16 Et (I4 n T lv C.length (nth C) (M.length+1) (mM.snoc (mO (nth M)) M.length (nM [[.i .i64 ((X:Nat):Int)]])) (mM.add .i64 (i:Int) 1)) [] emp φ:=by
   have h:¬j<C.length:=by grind [mW,ny]
   have hX2:X=GL lv (nth (vK T C) i).bg 0 (vK T C) 0:=by
    rw[<-hm,List.drop_eq_nil_of_le (by rw[RZ];omega)];rfl
   rw[e2];refine yJ (id:=0) rfl qG ?_;have e3:((X:Nat):Int)=zn lv (vK T C) i:=by rw[hX2];rfl
   rw[e3];have:=xq (s':=D5 b) (stop':=mZ) nx;rw[aY] at this;exact this
  have room:mM.room (M.length+1) 8=ah:=room_le (by omega) (by omega);have go (h:j<C.length) (X':Nat) (hX':X'<2^62) (b:Bool) (hx:(if lv≠1/\FX (T (nth C j).toNat).en (T (nth C i).toNat).bg=ah then X|||1<<<j else X)=X'):mY ai (C7 mM W7 (D5 b) mZ) (K0 H0 w0) 16 Eo (F5 n T lv C.length (nth C) M.length (mO (nth M)) (i:Nat) ((X':Nat):Int) (mM.add .i64 (j:Int) 1)) [] emp φ:=by
   match r,hjr with
   |0,hjr=>omega |r+1,hjr=>
    rw[e1];refine xq (s:=D5 b0) (stop:=mZ) (afX hlv hc hC hi hM nx r (j+1) X' (by omega) hX' ?_);have hd:(vK T C).drop j=T (nth C j).toNat::(vK T C).drop (j+1):=by
     have hl:j<(vK T C).length:=by rw[RZ];exact h
     have:=ac4 (T:=T) h;grind [aC,b9,aS]
    simp_all [GL]
  have ayE (h:j<C.length):X|||1<<<j<2^62:=Nat.or_lt_two_pow hX (by rw[Nat.shiftLeft_eq,Nat.one_mul];exact cF (by decide) (by omega));rcases hlv with rfl|rfl|rfl
  ·generalize FX (T (nth C j).toNat).en (T (nth C i).toNat).bg=bb
   refine qg (J5 _ _) 300 800 [⟨16,Eo,F5 n T 1 C.length (nth C) M.length (mO (nth M)) (i:Nat) ((X:Nat):Int) (mM.add .i64 (j:Int) 1),[]⟩,⟨16,Et,I4 n T 1 C.length (nth C) (M.length+1) (mM.snoc (mO (nth M)) M.length (nM [[.i .i64 ((X:Nat):Int)]])) (mM.add .i64 (i:Int) 1),[]⟩] ?_;exact rQ (nd (mM.lt (j:Int) (mM.nK C.length)) (fun h=>go (inb h) X hX bb (if_neg (fun q=>q.1 rfl))) (fun h=>an room (fin h bb)))
  ·cases hb:FX (T (nth C j).toNat).en (T (nth C i).toNat).bg with
   |false=>
    refine qg (J5 _ _) 300 800 [⟨16,Eo,F5 n T 2 C.length (nth C) M.length (mO (nth M)) (i:Nat) ((X:Nat):Int) (mM.add .i64 (j:Int) 1),[]⟩,⟨16,Et,I4 n T 2 C.length (nth C) (M.length+1) (mM.snoc (mO (nth M)) M.length (nM [[.i .i64 ((X:Nat):Int)]])) (mM.add .i64 (i:Int) 1),[]⟩] ?_;exact rQ (nd (mM.lt (j:Int) (mM.nK C.length)) (fun h=>an (ic (inb h)) (an (ib (inb h)) (an (ic hi) (an (ib hi) (an (decide_eq_true hb:decide (FX (T (nth C j).toNat).en (T (nth C i).toNat).bg=ag)=ah) (go (inb h) X hX ag (if_neg (fun q=>by simp_all)))))))) (fun h=>an room (fin h ag)))
   |true=>
    refine qg (J5 _ _) 300 800 [⟨16,Eo,F5 n T 2 C.length (nth C) M.length (mO (nth M)) (i:Nat) (mM.bin .or .i64 ((X:Nat):Int) (mM.bin .shl .i64 1 (mM.conv .u64 (j:Int)))) (mM.add .i64 (j:Int) 1),[]⟩,⟨16,Et,I4 n T 2 C.length (nth C) (M.length+1) (mM.snoc (mO (nth M)) M.length (nM [[.i .i64 ((X:Nat):Int)]])) (mM.add .i64 (i:Int) 1),[]⟩] ?_;exact rQ (nd (mM.lt (j:Int) (mM.nK C.length)) (fun h=>an (ic (inb h)) (an (ib (inb h)) (an (ic hi) (an (ib hi) (an (decide_eq_true hb:decide (FX (T (nth C j).toNat).en (T (nth C i).toNat).bg=ah)=ah) (an (Zt (by grind):mM.le 0 (mM.conv .u64 (j:Int))=ah) (by grind [ac3]:mY ai (C7 mM W7 (D5 ah) mZ) (K0 H0 w0) 16 Eo (F5 n T 2 C.length (nth C) M.length (mO (nth M)) (i:Nat) (mM.bin .or .i64 ((X:Nat):Int) (mM.bin .shl .i64 1 (mM.conv .u64 (j:Int)))) (mM.add .i64 (j:Int) 1)) [] emp φ))))))) (fun h=>an room (fin h ah)))
  ·cases hb:FX (T (nth C j).toNat).en (T (nth C i).toNat).bg with
   |false=>
    refine qg (J5 _ _) 300 800 [⟨16,Eo,F5 n T 3 C.length (nth C) M.length (mO (nth M)) (i:Nat) ((X:Nat):Int) (mM.add .i64 (j:Int) 1),[]⟩,⟨16,Et,I4 n T 3 C.length (nth C) (M.length+1) (mM.snoc (mO (nth M)) M.length (nM [[.i .i64 ((X:Nat):Int)]])) (mM.add .i64 (i:Int) 1),[]⟩] ?_;exact rQ (nd (mM.lt (j:Int) (mM.nK C.length)) (fun h=>an (ic (inb h)) (an (ib (inb h)) (an (ic hi) (an (ib hi) (an (decide_eq_true hb:decide (FX (T (nth C j).toNat).en (T (nth C i).toNat).bg=ag)=ah) (go (inb h) X hX ag (if_neg (fun q=>by simp_all)))))))) (fun h=>an room (fin h ag)))
   |true=>
    refine qg (J5 _ _) 300 800 [⟨16,Eo,F5 n T 3 C.length (nth C) M.length (mO (nth M)) (i:Nat) (mM.bin .or .i64 ((X:Nat):Int) (mM.bin .shl .i64 1 (mM.conv .u64 (j:Int)))) (mM.add .i64 (j:Int) 1),[]⟩,⟨16,Et,I4 n T 3 C.length (nth C) (M.length+1) (mM.snoc (mO (nth M)) M.length (nM [[.i .i64 ((X:Nat):Int)]])) (mM.add .i64 (i:Int) 1),[]⟩] ?_;exact rQ (nd (mM.lt (j:Int) (mM.nK C.length)) (fun h=>an (ic (inb h)) (an (ib (inb h)) (an (ic hi) (an (ib hi) (an (decide_eq_true hb:decide (FX (T (nth C j).toNat).en (T (nth C i).toNat).bg=ah)=ah) (an (Zt (by grind):mM.le 0 (mM.conv .u64 (j:Int))=ah) (by grind [ac3]:mY ai (C7 mM W7 (D5 ah) mZ) (K0 H0 w0) 16 Eo (F5 n T 3 C.length (nth C) M.length (mO (nth M)) (i:Nat) (mM.bin .or .i64 ((X:Nat):Int) (mM.bin .shl .i64 1 (mM.conv .u64 (j:Int)))) (mM.add .i64 (j:Int) 1)) [] emp φ))))))) (fun h=>an room (fin h ah)))
theorem ajq(hlv:lv=1\/lv=2\/lv=3)(hc:C.length<=62)(hC:∀x∈C,0<=x/\x<n)(hφ:φ (.mX [.os 3 1 C.length (mO (nth ((aD C.length).map (zn lv (vK T C))))),.i .i64 0])):∀r i,i+r=C.length->
  mY ai (C7 mM W7 (D5 b0) mZ) (K0 H0 w0) 16 Et (I4 n T lv C.length (nth C) i (mO (nth ((aD i).map (zn lv (vK T C))))) (i:Nat)) [] emp φ
 |r,i,hir=>by
  refine uT iA ars ?_;have inb (h:mM.lt (i:Int) (mM.nK C.length)=ah):i<C.length:=by grind [mW,ny]
  refine qg (J5 _ _) 300 800 [⟨16,Eo,F5 n T lv C.length (nth C) i (mO (nth ((aD i).map (zn lv (vK T C))))) (i:Nat) 0 0,[]⟩] ?_;refine rQ (nd (mM.lt (i:Int) (mM.nK C.length)) (fun h=>(?_:mY ai (C7 mM W7 (D5 b0) mZ) (K0 H0 w0) 16 Eo (F5 n T lv C.length (nth C) i (mO (nth ((aD i).map (zn lv (vK T C))))) (i:Nat) 0 0) [] emp φ))
   (fun h=>(?_:φ (.mX [.os 3 1 i (mO (nth ((aD i).map (zn lv (vK T C))))),.i .i64 0]))))
  ·have h:=inb h
   match r,hir with
   |0,hir=>omega |r+1,hir=>
    have hl:((aD i).map (zn lv (vK T C))).length=i:=by simp
    have hn:nth (vK T C) i=T (nth C i).toNat:=by
     simp_all [ac4,nth,aO]
    have nx:=ajq hlv hc hC hφ r (i+1) (by omega);rw[List.range_succ,gM] at nx;have:=afX (b0:=b0) (H0:=H0) (w0:=w0) (φ:=φ) (T:=T) hlv hc hC h hl (by simp_all) C.length 0 0 (by omega) (by decide) (by simp_all);simp_all
  ·have h:¬i<C.length:=by grind [mW,ny]
   grind
end
noncomputable def ao8:List Sh->Tree Sh
 |[s,t]=>match qp 7 s,nO t with
  |some (n,g),ae lv=>.need (okB pO n g) (.need (decide (n<=62)) (.need (decide (1<=lv/\lv<=3)) (.leaf (.mX [.sl 1 (tV lv (mP g) 0 n).length (mO (zn lv (vK (mP g) (tV lv (mP g) 0 n)))),.i .i64 0])))) |_,_=>.fail
 |_=>.fail
theorem ac5(lv:Int)(T:Nat->pO):∀r i,∀x∈tV lv T i r,(i:Int)<=x/\x<((i+r:Nat):Int)
 |0,i,x,hx=>by cases hx |r+1,i,x,hx=>by
  unfold tV at hx;rcases aU.1 hx with hx|hx
  ·grind
  ·have:=ac5 lv T r (i+1) x hx
   omega
theorem awD:nD ai (nJ W7) 16 ao8:=by
 refine rC (C7 mM W7 (D5 ah) mZ) iA fun H w nY args φ hrep hφ=>?_
 have hn:iA.ntmps=64:=by kernel_rfl
 unfold ao8 at hφ;split at hφ
 ·split at hφ
  ·rename_i s t n g lv h1 h2
   obtain ⟨q1,q2,q3,hφ⟩:=hφ;have q2:=of_decide_eq_true q2;have q3:=of_decide_eq_true q3;have hlv:lv=1\/lv=2\/lv=3:=by omega
   match args,hrep with
   |[a,b],⟨ra,rb,_⟩=>
    refine ⟨[.sl 7 n (mO (mP (α:=pO) g)),.v (.int .i64 lv)],⟨pX (nZ h1 ra) q1,Af (rO h2 rb),trivial⟩,L0,?_⟩;rw[hn];have hφ:φ (.mX [.sl 1 (tV lv (mP g) 0 n).length (mO (zn lv (vK (mP g) (tV lv (mP g) 0 n)))),.i .i64 0]):=hφ;generalize mP (α:=pO) g=T at *;have hcl:=Zr lv T n 0;have nx:mY ai (C7 mM W7 (D5 ah) mZ) (K0 H w) 16 Et (I4 n T lv (tV lv T 0 n).length (nth (tV lv T 0 n)) 0 (fun _=>[]) 0) [] emp (up φ):=by
     refine yJ (id:=0) (G':=mO (nth ((aD 0).map (zn lv (vK T (tV lv T 0 n)))))) rfl (fun j hj=>by omega) (ajq hlv (by omega) (fun x hx=>?_) ?_ (tV lv T 0 n).length 0 (by omega))
     ·have:=ac5 lv T n 0 x hx
      omega
     ·refine nP (s':=.mX [.sl 1 (tV lv T 0 n).length (mO (zn lv (vK T (tV lv T 0 n)))),.i .i64 0]) ⟨.inr ⟨rfl,rfl,fun j hj=>?_⟩,rfl,trivial⟩ hφ
      show Row.put _=Row.put _;simp_all [nth]
    have hT:okB pO n (mO T)=ah:=o9 T n;have h4:decide (n<=400)=ah:=decide_eq_true (by omega);have h62:mM.lt 62 (mM.nK (tV lv (mP (mO T)) 0 n).length)=ag:=by
     grind [mP,mO,yj,mW,ny]
    have e:mP (α:=pO) (mO T)=T:=yj T;have nx2:mY ai (C7 mM W7 (D5 ah) mZ) (K0 H w) 16 Et (I4 n T lv (tV lv (mP (mO T)) 0 n).length (nth (tV lv (mP (mO T)) 0 n)) 0 (fun _=>[]) 0) [] emp (up φ):=by simp_all
    rcases hlv with rfl|rfl|rfl
    ·refine qg (J5 _ _) 300 800 [⟨16,Et,I4 n T 1 (tV 1 (mP (mO T)) 0 n).length (nth (tV 1 (mP (mO T)) 0 n)) 0 (fun _=>[]) 0,[]⟩] ?_
     exact rQ (an hT (an h4 (nd (mM.lt 62 (mM.nK (tV 1 (mP (mO T)) 0 n).length)) (fun a=>(MB h62 a:up φ (.mX [.sl 0 0 fun _=>[],.i .i64 118]))) (fun _=>nx2))))
    ·refine qg (J5 _ _) 300 800 [⟨16,Et,I4 n T 2 (tV 2 (mP (mO T)) 0 n).length (nth (tV 2 (mP (mO T)) 0 n)) 0 (fun _=>[]) 0,[]⟩] ?_
     exact rQ (an hT (an h4 (nd (mM.lt 62 (mM.nK (tV 2 (mP (mO T)) 0 n).length)) (fun a=>(MB h62 a:up φ (.mX [.sl 0 0 fun _=>[],.i .i64 118]))) (fun _=>nx2))))
    ·refine qg (J5 _ _) 300 800 [⟨16,Et,I4 n T 3 (tV 3 (mP (mO T)) 0 n).length (nth (tV 3 (mP (mO T)) 0 n)) 0 (fun _=>[]) 0,[]⟩] ?_
     exact rQ (an hT (an h4 (nd (mM.lt 62 (mM.nK (tV 3 (mP (mO T)) 0 n).length)) (fun a=>(MB h62 a:up φ (.mX [.sl 0 0 fun _=>[],.i .i64 118]))) (fun _=>nx2))))
  ·exact hφ.elim
 ·exact hφ.elim
open Go Go.Sx Go.Pl Go.Proofs Go.Gm Go.Bf
noncomputable def ajr(l:List oO):Nat->Option (List Sh->Tree Sh)
 |32=>ae (F62 l) |_=>ao
theorem ao9(l:List oO)(stop:Nat->List Nat->Bool):oD ai (C7 mM W7 (ajr l) stop):=cO (fun g F h=>by
 grind [ajr,O62]) fun g h=>by
 unfold ajr at h;split at h;all_goals first|(cases h;done) |kernel_rfl
def KI(lv:Int)(n:Nat)(T:Nat->pO)(C:List Int)(no:Nat)(g0:Nat->List Sh):Sh:=.agg [.i .i64 lv,.sl 7 n (mO T),.sl 1 C.length (mO (nth C)),.sl 1 C.length (mO (zn lv (vK T C))),.sl 4 no g0]
def qo(lv:Int)(T:Nat->pO)(C:List Int)(no:Nat):Game (List oO) where
 n:=C.length
 id i:=(nth (vK T C) i).id
 com i:=(nth (vK T C) i).st==3||(nth (vK T C) i).st==2
 Uh i:=!((nth (vK T C) i).st==3)
 mask i:=(zn lv (vK T C) i).toNat
 run l i:=xO no l (lst Dd (nth (vK T C) i).k (nth (vK T C) i).g)
 all:=lv==3
def uD(g:Game (List oO))(S:Nat)(l:List oO)(i:Nat)(cm:Bool):Option (Nd (List oO)):=
 if may g S i=ah then
  (if cm=ah then (if g.com i=ah then (g.run l i).map fun l'=>⟨S|||1<<<i,l'⟩ else ao)
  else if g.Uh i=ah/\(g.all=ah->(g.run l i).isSome=ah) then ae ⟨S|||1<<<i,l⟩ else ao)
 else ao
structure GmP(lv:Int)(n:Nat)(T:Nat->pO)(C:List Int)(no:Nat):Prop where
 lv:lv=1\/lv=2\/lv=3
 cl:C.length<=62
 ci:∀x∈C,0<=x/\x<n
 dd:∀i,i<n->okB Dd (T i).k (T i).g=ah/\(T i).k<=1000
noncomputable def D38(lv:Int)(n:Nat)(T:Nat->pO)(C:List Int)(no:Nat)(g0:Nat->List Sh)(S:Nat)(l:List oO)(i:Nat)(cm:Bool):List Sh->Tree Sh
 |[a,.agg [.i .i64 x,.sl 4 m g],t,.v (.bool y)]=>match nO t with
  |some z=>.need (IX a (KI lv n T C no g0)) (.need (decide (x=(S:Int)/\m=no/\z=(i:Int)/\y=cm)) (.need (srB l m g) (.node (uD (qo lv T C no) S l i cm).isSome
    (.leaf (.mX [.agg [.i .i64 (((uD (qo lv T C no) S l i cm).getD ⟨0,[]⟩).placed:Nat),.sl 4 no (rD (dR ((uD (qo lv T C no) S l i cm).getD ⟨0,[]⟩).st))],.v (.bool ah)]))
    (.leaf (.mX [.agg [.i .i64 0,.sl 4 0 noT],.v (.bool ag)])))))
  |none=>.fail
 |_=>.fail
theorem apa(S i:Nat):S&&&2^i=if S.testBit i=ah then 2^i else 0:=Nat.eq_of_testBit_eq fun j=>by
 grind
theorem apb{S i:Nat}(hS:S<2^63)(hi:i<62):mM.nt (mM.eq (mM.bin .and .i64 (S:Int) (mM.bin .shl .i64 1 (mM.conv .u64 (i:Int)))) 0)=S.testBit i:=by
 rw[afW hi,show mM.bin .shl .i64 1 (i:Int)=((2^i:Nat):Int) from YU (by omega),afy hS (cF (by decide) (by omega)),apa];grind [ml,oL,nG]
theorem or_bit{S i:Nat}(hS:S<2^62)(hi:i<62):mM.bin .or .i64 (S:Int) (mM.bin .shl .i64 1 (mM.conv .u64 (i:Int)))=((S|||1<<<i:Nat):Int):=ac3 hS hi
theorem Uu{n:Nat}:∀{dd:List Dd} {l:List oO} {i:Nat},xO n l dd=ao->(En n l dd i).1≠0
 |[],l,i,h=>by cases h |d::r,l,i,h=>by
  unfold xO at h;unfold En;split
  ·rename_i z
   rw[if_pos z] at h;exact Uu h
  ·rename_i z
   rw[if_neg z] at h;split
   ·rename_i ok
    rw[if_pos ok] at h;split
    ·rename_i e
     rw[if_pos e] at h;exact Uu h
    omega
   ·rename_i no
    have:okM n (dR l) d.obj d.op d.key d.val=ag:=by
     have:=YC (n:=n) (d:=qh l) (i:=d.obj) (op:=d.op) (k:=d.key) (v:=d.val);rw[show (fun j=>toR (qh l j))=dR l from rfl] at this;simp_all
    grind [Yy,okM,of_decide_eq_false,isC]
theorem aup{T:Nat->pO}{C:List Int}{i:Nat}(h:i<C.length):T (mM.toN (nth C i))=nth (vK T C) i:=by
 have:=ac4 (T:=T) h;have e:nth (vK T C) i=((vK T C)[i]?).getD Row.Ad:=by rfl
 rw[e,this];rfl
theorem Zu{b:Bool}{P:Prop}(h:b=ah)(h2:b=ag):P:=by simp_all
theorem O38{lv:Int}{n:Nat}{T:Nat->pO}{C:List Int}{no:Nat}(P:GmP lv n T C no)(g0:Nat->List Sh){S:Nat}(l:List oO){i:Nat}(hi:i<C.length)(hS:S<2^C.length)(cm:Bool):
  nD ai (nJ W7) 19 (D38 lv n T C no g0 S l i cm):=by
 refine rC (C7 mM W7 (ajr l) mZ) Tryz.f19 fun H w nY args φ hrep hφ=>?_
 have hn:Tryz.f19.ntmps=100:=by kernel_rfl
 unfold D38 at hφ;split at hφ
 ·rename_i a x m g t y
  split at hφ
  ·rename_i z hz
   obtain ⟨q1,q2,q3,hT,hF⟩:=hφ;have q1:a=KI lv n T C no g0:=@of_decide_eq_true _ (ay _) q1;obtain ⟨rfl,rfl,rfl,rfl⟩:=of_decide_eq_true q2;subst q1;match args,hrep with
   |[a0,a1,a2,a3],⟨r0,r1,r2,r3,_⟩=>
    refine ⟨[KI lv n T C m g0,.agg [.i .i64 (S:Int),.sl 4 m g],.i .i64 (i:Int),.v (.bool y)],⟨r0,r1,rO hz r2,r3,trivial⟩,L0,?_⟩;rw[hn];have hcl:=P.cl;have ar0:S<2^62:=dp hS (Nat.pow_le_pow_right (by decide) hcl);have awE:S<2^63:=ma ar0 (by decide);have k1:=Zt (show i<62 by omega);have k2:mM.inB (i:Int) C.length=ah:=by simp[nN];omega
    have mem:nth C i∈C:=by
     simp_all [nth,aO,eD]
    have k3:mM.inB (nth C i) n=ah:=by have:=P.ci _ mem;simp[nN];omega
    have hd:=P.dd (mM.toN (nth C i)) (by have:=P.ci _ mem;simp[oZ];omega);have eX:=aup (T:=T) hi;have b1:=apb awE (show i<62 by omega);have b2:mM.nt (mM.eq (mM.bin .andNot .i64 (zn lv (vK T C) i) (S:Int)) 0)=!((aD C.length).all fun j=>!(zn lv (vK T C) i).toNat.testBit j||S.testBit j):=by
     unfold zn;rw[Int.toNat_natCast];grind [abn,Y7,ml,RZ]
    have hmay:may (qo lv T C m) S i=(!S.testBit i&&(aD C.length).all fun j=>!(zn lv (vK T C) i).toNat.testBit j||S.testBit j):=rfl;have ajs (h:uD (qo lv T C m) S l i y=ao):up φ (.mX [.agg [.i .i64 0,.sl 0 0 fun _=>[]],.b ag]):=by
     have:=hF (by rw[h];rfl);exact nP (s':=.mX [.agg [.i .i64 0,.sl 4 0 noT],.v (.bool ag)]) ⟨⟨rfl,.inl ⟨rfl,rfl⟩,trivial⟩,.inr rfl,trivial⟩ this
    have ac6 (l':List oO) (g':Nat->List Sh) (hg:∀j,j<m->g' j=rD (dR l') j) (h:uD (qo lv T C m) S l i y=ae ⟨S|||1<<<i,l'⟩):up φ (.mX [.agg [.i .i64 (mM.bin .or .i64 (S:Int) (mM.bin .shl .i64 1 (mM.conv .u64 (i:Int)))),.sl 4 m g'],.b ah]):=by
     have:=hT (by rw[h];rfl);rw[h] at this;rw[or_bit ar0 (by omega)];exact nP (s':=.mX [.agg [.i .i64 ((S|||1<<<i:Nat):Int),.sl 4 m (rD (dR l'))],.v (.bool ah)]) ⟨⟨rfl,.inr ⟨rfl,rfl,hg⟩,trivial⟩,.inr rfl,trivial⟩ this
    have hrow:=(@of_decide_eq_true _ (ay _) q3:SrP m g 49000 l/\m<=8).1.row;have z0:mM.nt (mM.eq 0 0)=ag:=rfl;have hk:decide ((T (mM.toN (nth C i))).k<=1000)=ah:=decide_eq_true hd.2;have pe (p:RG m l (lst Dd (T (mM.toN (nth C i))).k (T (mM.toN (nth C i))).g)=ag):mM.nt (mM.eq (En m l (lst Dd (T (mM.toN (nth C i))).k (T (mM.toN (nth C i))).g) 0).1 0)=ah:=by
     have:xO m l (lst Dd (T (mM.toN (nth C i))).k (T (mM.toN (nth C i))).g)=ao:=by
      simp_all [RG]
     simp_all [Uu,oL,nG]
    have hm1 (a:(mM.nt (mM.eq (mM.bin .and .i64 (S:Int) (mM.bin .shl .i64 1 (mM.conv .u64 (i:Int)))) 0))=ah):may (qo lv T C m) S i=ag:=by simp_all
    have hm2 (b:(mM.nt (mM.eq (mM.bin .andNot .i64 (zn lv (vK T C) i) (S:Int)) 0))=ah):may (qo lv T C m) S i=ag:=by
     simp_all
    have hm3 (a:(mM.nt (mM.eq (mM.bin .and .i64 (S:Int) (mM.bin .shl .i64 1 (mM.conv .u64 (i:Int)))) 0))=ag) (b:(mM.nt (mM.eq (mM.bin .andNot .i64 (zn lv (vK T C) i) (S:Int)) 0))=ag):may (qo lv T C m) S i=ah:=by
     simp_all
    have m0 (h:may (qo lv T C m) S i=ag):uD (qo lv T C m) S l i y=ao:=by simp_all [uD]
    have hrun:(qo lv T C m).run l i=xO m l (lst Dd (T (mM.toN (nth C i))).k (T (mM.toN (nth C i))).g):=by rw[eX];rfl
    have hcom:(qo lv T C m).com i=((T (mM.toN (nth C i))).st==3||(T (mM.toN (nth C i))).st==2):=by rw[eX];rfl
    have ayF:(qo lv T C m).Uh i=!((T (mM.toN (nth C i))).st==3):=by rw[eX];rfl
    have hP (p:RG m l (lst Dd (T (mM.toN (nth C i))).k (T (mM.toN (nth C i))).g)=ah):xO m l (lst Dd (T (mM.toN (nth C i))).k (T (mM.toN (nth C i))).g)=ae (plL m l (lst Dd (T (mM.toN (nth C i))).k (T (mM.toN (nth C i))).g)):=by
     unfold RG at p;unfold plL;cases h:xO m l (lst Dd (T (mM.toN (nth C i))).k (T (mM.toN (nth C i))).g) with
     |none=>simp_all |some l'=>rfl
    have hN (p:RG m l (lst Dd (T (mM.toN (nth C i))).k (T (mM.toN (nth C i))).g)=ag):xO m l (lst Dd (T (mM.toN (nth C i))).k (T (mM.toN (nth C i))).g)=ao:=by
     simp_all [RG]
    cases y with
    |true=>
     refine qg (ao9 _ _) 300 800 [] ?_;refine rQ (an k1 (an k2 (an k3 (nd (mM.nt (mM.eq (mM.bin .and .i64 (S:Int) (mM.bin .shl .i64 1 (mM.conv .u64 (i:Int)))) 0)) (fun a=>(?_:up φ (.mX [.agg [.i .i64 0,.sl 0 0 fun _=>[]],.b ag]))) fun a=>an k2 (nd (mM.nt (mM.eq (mM.bin .andNot .i64 (zn lv (vK T C) i) (S:Int)) 0)) (fun b=>(?_:up φ (.mX [.agg [.i .i64 0,.sl 0 0 fun _=>[]],.b ag]))) fun b=>
      nd (mM.nt (mM.eq (T (mM.toN (nth C i))).st 3)) (fun c=>nd (mM.nt (mM.eq (T (mM.toN (nth C i))).st 2)) (fun d=>(?_:up φ (.mX [.agg [.i .i64 0,.sl 0 0 fun _=>[]],.b ag]))) fun d=>an q3 (an hd.1 (an hk (nd (RG m l (lst Dd (T (mM.toN (nth C i))).k (T (mM.toN (nth C i))).g)) (fun p=>nd (mM.nt (mM.eq 0 0)) (fun a=>(MB z0 a:up φ (.mX [.agg [.i .i64 0,.sl 0 0 fun _=>[]],.b ag]))) fun _=>(?_:up φ (.mX [.agg [.i .i64 (mM.bin .or .i64 (S:Int) (mM.bin .shl .i64 1 (mM.conv .u64 (i:Int)))),.sl 4 m (rD (dR (plL m l (lst Dd (T (mM.toN (nth C i))).k (T (mM.toN (nth C i))).g))))],.b ah]))) fun p=>nd (mM.nt (mM.eq (En m l (lst Dd (T (mM.toN (nth C i))).k (T (mM.toN (nth C i))).g) 0).1 0)) (fun _=>(?_:up φ (.mX [.agg [.i .i64 0,.sl 0 0 fun _=>[]],.b ag]))) fun a=>(Zu (pe p) a:up φ (.mX [.agg [.i .i64 (mM.bin .or .i64 (S:Int) (mM.bin .shl .i64 1 (mM.conv .u64 (i:Int)))),.sl 0 0 fun _=>[]],.b ah])))))) fun c=>an q3 (an hd.1 (an hk (nd (RG m l (lst Dd (T (mM.toN (nth C i))).k (T (mM.toN (nth C i))).g)) (fun p=>nd (mM.nt (mM.eq 0 0)) (fun a=>(MB z0 a:up φ (.mX [.agg [.i .i64 0,.sl 0 0 fun _=>[]],.b ag]))) fun _=>(?_:up φ (.mX [.agg [.i .i64 (mM.bin .or .i64 (S:Int) (mM.bin .shl .i64 1 (mM.conv .u64 (i:Int)))),.sl 4 m (rD (dR (plL m l (lst Dd (T (mM.toN (nth C i))).k (T (mM.toN (nth C i))).g))))],.b ah]))) fun p=>nd (mM.nt (mM.eq (En m l (lst Dd (T (mM.toN (nth C i))).k (T (mM.toN (nth C i))).g) 0).1 0)) (fun _=>(?_:up φ (.mX [.agg [.i .i64 0,.sl 0 0 fun _=>[]],.b ag]))) fun a=>(Zu (pe p) a:up φ (.mX [.agg [.i .i64 (mM.bin .or .i64 (S:Int) (mM.bin .shl .i64 1 (mM.conv .u64 (i:Int)))),.sl 0 0 fun _=>[]],.b ah]))))))))))
     ·simp_all
     ·simp_all
     ·refine ajs ?_
      unfold uD;rw[if_pos (hm3 a b),if_pos rfl,if_neg];rw[hcom];simp[oL,nG] at c d;simp[c,d]
     ·refine ac6 _ _ (fun _ _=>rfl) ?_
      unfold uD;rw[if_pos (hm3 a b),if_pos rfl,if_pos (by rw[hcom];simp[oL,nG] at d;simp[d]),hrun,hP p];rfl
     ·refine ajs ?_
      unfold uD;rw[if_pos (hm3 a b),if_pos rfl,hrun,hN p];split<;>rfl
     ·refine ac6 _ _ (fun _ _=>rfl) ?_
      unfold uD;rw[if_pos (hm3 a b),if_pos rfl,if_pos (by rw[hcom];simp[oL,nG] at c;simp[c]),hrun,hP p];rfl
     ·refine ajs ?_
      unfold uD;rw[if_pos (hm3 a b),if_pos rfl,hrun,hN p];split<;>rfl
    |false=>
     refine qg (ao9 _ _) 300 800 [] ?_;refine rQ (an k1 (an k2 (an k3 (nd (mM.nt (mM.eq (mM.bin .and .i64 (S:Int) (mM.bin .shl .i64 1 (mM.conv .u64 (i:Int)))) 0)) (fun a=>(?_:up φ (.mX [.agg [.i .i64 0,.sl 0 0 fun _=>[]],.b ag]))) fun a=>an k2 (nd (mM.nt (mM.eq (mM.bin .andNot .i64 (zn lv (vK T C) i) (S:Int)) 0)) (fun b=>(?_:up φ (.mX [.agg [.i .i64 0,.sl 0 0 fun _=>[]],.b ag]))) fun b=>
      nd (mM.eq (T (mM.toN (nth C i))).st 3) (fun c=>(?_:up φ (.mX [.agg [.i .i64 0,.sl 0 0 fun _=>[]],.b ag]))) fun c=>nd (mM.nt (mM.eq lv 3)) (fun d=>(?_:up φ (.mX [.agg [.i .i64 (mM.bin .or .i64 (S:Int) (mM.bin .shl .i64 1 (mM.conv .u64 (i:Int)))),.sl 4 m g],.b ah]))) fun d=>an q3 (an hd.1 (an hk (nd (RG m l (lst Dd (T (mM.toN (nth C i))).k (T (mM.toN (nth C i))).g)) (fun p=>nd (mM.nt (mM.eq 0 0)) (fun a=>(MB z0 a:up φ (.mX [.agg [.i .i64 0,.sl 0 0 fun _=>[]],.b ag]))) fun _=>(?_:up φ (.mX [.agg [.i .i64 (mM.bin .or .i64 (S:Int) (mM.bin .shl .i64 1 (mM.conv .u64 (i:Int)))),.sl 4 m g],.b ah]))) fun p=>nd (mM.nt (mM.eq (En m l (lst Dd (T (mM.toN (nth C i))).k (T (mM.toN (nth C i))).g) 0).1 0)) (fun _=>(?_:up φ (.mX [.agg [.i .i64 0,.sl 0 0 fun _=>[]],.b ag]))) fun a=>(Zu (pe p) a:up φ (.mX [.agg [.i .i64 (mM.bin .or .i64 (S:Int) (mM.bin .shl .i64 1 (mM.conv .u64 (i:Int)))),.sl 4 m g],.b ah]))))))))))
     ·simp_all
     ·simp_all
     ·simp_all [uD,if_neg,nG]
     ·refine ac6 l g hrow ?_
      unfold uD;rw[if_pos (hm3 a b),if_neg (by simp),if_pos];refine ⟨by simp_all [nG],fun q=>?_⟩;simp[oL,nG] at d;have q:(lv==3)=ah:=q;simp_all
     ·refine ac6 l g hrow ?_
      simp_all [uD,if_neg,nG]
     ·refine ajs ?_
      unfold uD;rw[if_pos (hm3 a b),if_neg (by simp),if_neg];intro q;simp[oL,nG] at d;have:=q.2 (show (lv==3)=ah by simpa using d);simp_all
  ·exact hφ.elim
 ·exact hφ.elim
noncomputable def ajt(s:Sh)(B:H7)(w:Int×Nat):Nat->Option (List Sh->Tree Sh)
 |13=>ae (D32 s B w) |15=>ae F34 |16=>ae ao8 |17=>ae ajp |_=>ao
def zgS:Sh:=.agg [.i .i64 0,.sl 7 0 noT,.sl 1 0 noT,.sl 1 0 noT,.sl 4 0 noT]
noncomputable def D13(s:Sh)(lv:Int)(B:H7)(w:Int×Nat)(no:Nat)(g0:Nat->List Sh):List Sh->Tree Sh
 |[a,t]=>match nO t with
  |some z=>.need (IX a s) (.need (decide (z=lv)) (.node B.okb (.node (decide (B.n<=12)) (.leaf (.mX [KI lv B.n B.T (tV lv B.T 0 B.n) no g0,.agg [.i .i64 0,.sl 1 0 yL]])) (.leaf (.mX [zgS,.agg [.i .i64 118,.sl 1 0 yL]])))
    (.leaf (.mX [zgS,Ef w]))))
  |none=>.fail
 |_=>.fail
section
variable{n m:Nat}{g h:Nat->List Sh}
theorem auq(P:H9 n g m h)(stop:Nat->List Nat->Bool):oD ai (C7 mM W7 (ajt (hsS n g m h) (oJ n g m h) (wE n (mP g) m (aB h))) stop):=cO (fun g F h=>by
 unfold ajt at h;grind [awl,awv,awD,arZ]) fun g h=>by
 unfold ajt at h;split at h;all_goals first|(cases h;done) |kernel_rfl
theorem apd(P:H9 n g m h){lv:Int}(hlv:lv=1\/lv=2\/lv=3):nD ai (nJ W7) 6 (D13 (hsS n g m h) lv (oJ n g m h) (wE n (mP g) m (aB h)) n (rD (xQ (mP g)))):=by
 have hwe:=fun e=>ahN P e
 have hob:=fun e=>Wj P e
 have hf:=auq P (mZ);have ho:okB Oj n g=ah:=Jv (o:=mP g) fun j hj=>(Ul (Go.oz.zh P.o j hj)).1;generalize oJ n g m h=B at *;generalize wE n (mP g) m (aB h)=w at *;refine rC (C7 mM W7 (ajt (hsS n g m h) B w) mZ) Tryz.f6 fun H w0 nY args φ hrep hφ=>?_
 have hn:Tryz.f6.ntmps=48:=by kernel_rfl
 unfold D13 at hφ;split at hφ
 ·rename_i a t
  split at hφ
  ·rename_i z hz
   obtain ⟨q1,q2,hT,hF⟩:=hφ;have q1:a=hsS n g m h:=@of_decide_eq_true _ (ay _) q1;obtain rfl:=of_decide_eq_true q2;subst q1;match args,hrep with
   |[a0,a1],⟨r0,r1,_⟩=>
    refine ⟨[hsS n g m h,.i .i64 z],⟨r0,rO hz r1,trivial⟩,L0,?_⟩;rw[hn];have k0:IX (hsS n g m h) (hsS n g m h)=ah:=@decide_eq_true _ (ay _) rfl;have hl3:decide (1<=z/\z<=3)=ah:=decide_eq_true (by omega);have eT:mP (α:=pO) (mO B.T)=B.T:=yj B.T;have zg:Wk (.agg [.i .i64 0,.sl 0 0 fun _=>[],.sl 0 0 fun _=>[],.sl 0 0 fun _=>[],.sl 0 0 fun _=>[]]) zgS:=⟨rfl,.inl ⟨rfl,rfl⟩,.inl ⟨rfl,rfl⟩,.inl ⟨rfl,rfl⟩,.inl ⟨rfl,rfl⟩,trivial⟩;have big (a:mM.lt 12 (mM.nK B.n)=ah) (hok:B.okb=ah):up φ (.mX [.agg [.i .i64 0,.sl 0 0 fun _=>[],.sl 0 0 fun _=>[],.sl 0 0 fun _=>[],.sl 0 0 fun _=>[]],.agg [.i .i64 118,.sl 0 0 fun _=>[]]]):=by
     have:¬B.n<=12:=by grind [mW,ny]
     exact nP (s':=.mX [zgS,.agg [.i .i64 118,.sl 1 0 yL]]) ⟨zg,⟨rfl,.inl ⟨rfl,rfl⟩,trivial⟩,trivial⟩ ((hT hok).2 (decide_eq_false this))
    refine qg hf 300 800 [] ?_;refine rQ (an k0 (nd B.okb
     (fun hok=>nd (mM.nt (mM.eq 0 0)) (fun a=>(MB rfl a:up φ (.mX [.agg [.i .i64 0,.sl 0 0 fun _=>[],.sl 0 0 fun _=>[],.sl 0 0 fun _=>[],.sl 0 0 fun _=>[]],.agg [.i .i64 0,.sl 1 0 yL]]))) fun _=>
      nd (mM.lt 12 (mM.nK B.n)) (fun a=>big a hok) fun a=>an ho (an (?_:okO n (mP g)=ah) (an (o9 B.T B.n) (an (?_:decide (B.n<=62)=ah) (an hl3 (an (o9 B.T B.n) (an (?_:decide (B.n<=400)=ah)
       (?_:up φ (.mX [.agg [.i .i64 z,.sl 7 B.n (mO B.T),.sl 1 (tV z (mP (mO B.T)) 0 B.n).length (mO (nth (tV z (mP (mO B.T)) 0 B.n))),.sl 1 (tV z (mP (mO B.T)) 0 B.n).length (mO (zn z (vK (mP (mO B.T)) (tV z (mP (mO B.T)) 0 B.n)))),.sl 4 n (rD (xQ (mP g)))],.agg [.i .i64 0,.sl 1 0 yL]])))))))))
     (fun hno=>nd (mM.nt (mM.eq w.1 0)) (fun _=>(?_:up φ (.mX [.agg [.i .i64 0,.sl 0 0 fun _=>[],.sl 0 0 fun _=>[],.sl 0 0 fun _=>[],.sl 0 0 fun _=>[]],Ef w]))) fun a=>
      nd (mM.lt 12 (mM.nK 0)) (fun b=>(MB rfl b:up φ (.mX [.agg [.i .i64 0,.sl 0 0 fun _=>[],.sl 0 0 fun _=>[],.sl 0 0 fun _=>[],.sl 0 0 fun _=>[]],.agg [.i .i64 118,.sl 0 0 fun _=>[]]]))) fun _=>
       (MB (by simp_all [oL,nG]:ah=ag) rfl:okB Oj n g=ah/\okO n (mP g)=ah/\ah=ah/\ah=ah/\decide (1<=z/\z<=3)=ah/\ah=ah/\ah=ah/\up φ (.mX [.agg [.i .i64 z,.sl 0 0 fun _=>[],.sl 1 (tV z (mP noT) 0 0).length (mO (nth (tV z (mP noT) 0 0))),.sl 1 (tV z (mP noT) 0 0).length (mO (zn z (vK (mP noT) (tV z (mP noT) 0 0)))),.sl 4 n (rD (xQ (mP g)))],Ef w])))))
    ·simp_all [okO,decide_eq_true,Bool.true_and,List.all_eq_true,List.mem_range]
    ·grind [mW,ny,decide_eq_true]
    ·grind [mW,ny,decide_eq_true]
    ·have hs:B.n<=12:=by grind [mW,ny]
     have:=(hT hok).1 (decide_eq_true hs);rw[eT];exact nP (s':=.mX [KI z B.n B.T (tV z B.T 0 B.n) n (rD (xQ (mP g))),.agg [.i .i64 0,.sl 1 0 yL]]) ⟨⟨rfl,.inr ⟨rfl,rfl,fun _ _=>rfl⟩,.inr ⟨rfl,rfl,fun _ _=>rfl⟩,.inr ⟨rfl,rfl,fun _ _=>rfl⟩,.inr ⟨rfl,rfl,fun _ _=>rfl⟩,trivial⟩,⟨rfl,.inl ⟨rfl,rfl⟩,trivial⟩,trivial⟩ this
    ·exact nP (s':=.mX [zgS,Ef w]) ⟨zg,⟨rfl,.inr ⟨rfl,rfl,fun _ _=>rfl⟩,trivial⟩,trivial⟩ (hF hno)
  ·exact hφ.elim
 ·exact hφ.elim
end
end Go.Rg
namespace Go.Sx
def Kw(b:Nat):Value:=.pointer (ae ⟨b,0,ao⟩)
def cellL(L:Int):Obj:=.cells #[.int .i64 L] 3 (0,0)
def Zv:SV->Option Int
 | .sym .i64 n=>ae n | .int .i64 n=>ae n |_=>ao
def ape:SV->Core->Option Sh
 | .mX [.bool y,.bool s],c=>match mQ c.hp 0 with
  |some (.box [x] 3)=>(Zv x).map fun L=>.mX [.b y,.b s,.i .i64 L] |_=>ao
 |_,_=>ao
def aju(ρ:List (Nat×Rn)):Bool:=match mQ ρ 0 with
 |some (.id 0)=>ah |_=>ag
def Wp(g:Nat)(td:List It)(c:Core):Nat->List zx->Tree pI
 |_,[]=>.fail |k,t::r=>bif g==t.g&&zu td t.td&&aju (t.rn c []) then match qC (t.rn c []) c t.c with
   |some l=>.leaf (.at_ k l) |none=>.fail
  else Wp g td c (k+1) r
def toB(ts:List zx):Oc->Tree pI
 | .fin v c=>match ape v c with
  |some s=>.leaf (.ret s) |none=>.fail
 | .stop g td c _=>Wp g td c 0 ts
def ajv(C:Ctx)(hold:Nat->Bool)(m:Nat):Nat->Nat->List It->Core->Tree Oc
 |0,g,td,c=>.leaf (.stop g td c []) |n+1,g,td,c=>match C.fns.get g with
  |none=>.fail |some fn=>bif holdB hold fn td c then .leaf (.stop g td c []) else
   (Jf C (CB C (run C m ag)) ah g fn td c).bind fun s=>match s with
    | .go td c=>ajv C hold m n g td c | .halt td c=>.leaf (.stop g td c []) | .done v c=>.leaf (.fin v c)
def awF(C:Ctx)(hold:Nat->Bool)(m n g:Nat)(td:List It)(c:Core)(ts:List zx):Tree pI:=(ajv C hold m n g td c).bind (toB ts)
structure afY(b0:Nat)(H:Mem)(H':Mem)(w':World)(y s:Bool)(L:Int)(v:Value):Prop where
 v:v=.tuple #[.bool y,.bool s]
 cell:w'.heap[b0]?=ae (cellL L)
 un:H' b0=ao
 le:H.le H'
def uh(P:Program)(C:Ctx)(K:Kx)(b0 g:Nat)(td:List It)(c:Core)(φ:Sh->Prop):Prop:=
 ∀(H:Mem) (E:Env) (w:World) (a:Act) (items:List Item) (b:Frame) (cs:List Frame) (fn:Func),C.fns.get g=ae fn->E 0=ae (Kw b0)->St C K H E w c a->pV (nC fn) td items->
  ∃(a':Act) (w':World) (y s:Bool) (L:Int) (v:Value) (H':Mem) (todo:List Item),Steps P (lone (b.at a items) cs w) (lone {b.at a' todo with mode:=.returning} cs w')/\a'.defers=[]/\
   φ (.mX [.b y,.b s,.i .i64 L])/\afY b0 H H' w' y s L v/\sF K H' w'/\(results fn a'.tmps).run P w'=.ok v w'
def ah2(P:Program)(C:Ctx)(K:Kx)(b0:Nat)(ts:List zx)(φ:Sh->Prop):pI->Prop
 | .ret s=>φ s | .at_ k l=>oM.all l/\∃t,ts[k]?=ae t/\uh P C K b0 t.g t.td t.c φ
section
variable{P:Program}{C:Ctx}{K:Kx}{H H':Mem}{E E':Env}{w w':World}{b0:Nat}{φ:Sh->Prop}
theorem afY.from{H1 H2 H3:Mem}{w':World}{y s:Bool}{L:Int}{v:Value}(h:afY b0 H2 H3 w' y s L v)(hl:H1.le H2):afY b0 H1 H3 w' y s L v:=
 ⟨h.v,h.cell,h.un,fun b o e=>h.le b o (hl b o e)⟩
def awG(P:Program)(C:Ctx)(K:Kx)(b0:Nat)(φ:Sh->Prop):Oc->Prop
 | .fin v c=>∃s,ape v c=ae s/\φ s | .stop g td c _=>uh P C K b0 g td c φ
theorem Zw(hC:oC P C)(hF:oD P C){hold:Nat->Bool}{m:Nat}:∀{n g:Nat} {td:List It} {c:Core},(ajv C hold m n g td c).All (awG P C K b0 φ)->uh P C K b0 g td c φ
 |0,g,td,c,h=>h |n+1,g,td,c,h=>by
  intro H E w a items b cs fn hfn h0 st hi;unfold ajv at h;rw[hfn] at h;simp only at h;cases hh:holdB hold fn td c<;>simp only[hh,cond_true,cond_false] at h
  rotate_left
  ·exact h H E w a items b cs fn hfn h0 st hi
  obtain ⟨sig,h1,h2⟩:=Nk hC hF (Ip hC hF (Nl hC hF m)) (bz h) st hi b cs;cases sig with
  |go uJ c'=>
   obtain ⟨a',w',H',E',items',q1,q2,q3,q4⟩:=h2;obtain ⟨a2,w2,y,s,L,v,H2,todo,r1,r2,r3,r4,r5⟩:=Zw hC hF h1 H' E' w' a' items' b cs fn hfn (q3.BR _ _ h0) q2 q4;exact ⟨a2,w2,y,s,L,v,H2,todo,q1.trans r1,r2,r3,r4.from q3.x9,r5⟩
  |halt uJ c'=>
   obtain ⟨a',w',H',E',items',q1,q2,q3,q4⟩:=h2;obtain ⟨a2,w2,y,s,L,v,H2,todo,r1,r2,r3,r4,r5⟩:=h1 H' E' w' a' items' b cs fn hfn (q3.BR _ _ h0) q2 q4;exact ⟨a2,w2,y,s,L,v,H2,todo,q1.trans r1,r2,r3,r4.from q3.x9,r5⟩
  |done sv c'=>
   obtain ⟨a',w',H',E',v,todo,q1,q2,q3,q4,q5⟩:=h2;obtain ⟨s,hs,hφ⟩:=h1;unfold ape at hs;split at hs
   ·rename_i c2 y z
    split at hs
    ·rename_i x hx
     cases hn:Zv x with
     |none=>simp_all |some L=>
      rw[hn] at hs;have hs:ae _=ae s:=hs;cases hs;obtain ⟨bb,ce,he,hb,hd,hm⟩:=q2.hp.ent 0 _ hx;rw[q3.BR _ _ h0] at he;cases he;have hce:ce=#[.int .i64 L]:=by
       match hl:ce.toList,hd with
       |[u],hd=>
        obtain ⟨hd,_⟩:=hd;have:u=.int .i64 L:=by
         unfold Zv at hn;split at hn
         ·cases hn;exact hd
         ·cases hn;exact hd
         ·cases hn
        grind
       |[],hd=>exact hd.elim |_::_::_,hd=>exact hd.2.elim
      have hv:v=.tuple #[.bool y,.bool z]:=by
       obtain ⟨⟨vs⟩,e,hd⟩:=q4;match vs,hd with
       |[a,b],⟨h1,h2,_⟩=>
        have h1:a=.bool y:=h1;have h2:b=.bool z:=h2;simp_all
      exact ⟨a',w',y,z,L,v,H',todo,q1,q2.defers,hφ,⟨hv,by rw[hb,hce];rfl,hm.1,q3.x9⟩,q2.o7,q5⟩
    ·cases hs
   ·cases hs
theorem afZ{g:Nat}{td:List It}{c c':Core}(ρ:List (Nat×Rn))(h0:aju ρ=ah)(hle:leC ρ c c')(h:uh P C K b0 g td c' φ):uh P C K b0 g td c φ:=by
 intro H E w a items b cs fn hfn he st hi;refine h H (wo ρ E) w a items b cs fn hfn ?_ (st.weak hle) hi;grind [aju,rG]
theorem Zx{ts:List zx}{g:Nat}{td:List It}{c:Core}:∀{r:List zx} {k:Nat},(∀j,r[j]?=ts[k+j]?)->(Wp g td c k r).All (ah2 P C K b0 ts φ)->uh P C K b0 g td c φ
 |[],_,_,h=>h.elim |t::r,k,hk,h=>by
  unfold Wp at h;cases hb:(g==t.g&&zu td t.td&&aju (t.rn c []))<;>simp only[hb,cond_true,cond_false] at h
  ·exact Zx (fun j=>by have:=hk (j+1);grind) h
  ·simp only[ak,beq_iff_eq] at hb
   obtain ⟨⟨h1,h2⟩,h3⟩:=hb;split at h
   ·rename_i l hl
    obtain ⟨ha,t',ht,hg⟩:=h;have:=hk 0;simp only[List.getElem?_cons_zero,dH] at this;rw[<-this] at ht;cases ht;have h2:=CY h2;subst h1 h2;exact afZ (t.rn c []) h3 (Xq hl ha) hg
   ·exact h.elim
theorem vS(hC:oC P C)(hF:oD P C){hold:Nat->Bool}{m n g:Nat}{td:List It}{c:Core}{ts:List zx}(h:oP (ah2 P C K b0 ts φ) (awF C hold m n g td c ts)):uh P C K b0 g td c φ:=by
 rw[qc] at h;refine Zw hC hF (hold:=hold) (m:=m) (n:=n) ((bz h).mono fun o ho=>?_);cases o with
 |fin v c=>
  simp only[toB] at ho;split at ho
  ·rename_i s hs
   exact ⟨s,hs,ho⟩
  ·exact ho.elim
 |stop g td c stk=>exact Zx (k:=0) (fun j=>by simp) ho
def atB(P:Program)(C:Ctx)(K:Kx)(b0:Nat)(φ:Sh->Prop)(ts:List zx)(k:Nat):Prop:=match ts[k]? with
 |some t=>uh P C K b0 t.g t.td t.c φ |none=>False
theorem Ky{Q:Prop}{ts:List zx}{t:Tree pI}(k:Q)(h:t.dgE=t:=by kernel_rfl)(e:Q=t.MC φ (atB P C K b0 φ ts):=by kernel_rfl):oP (ah2 P C K b0 ts φ) t:=by
 rw[qc,<-h];refine Tree.Vd (fun s x=>x) (fun k l hl x=>?_) (e ▸ k:t.MC φ (atB P C K b0 φ ts));unfold atB at x;split at x
 ·rename_i t' ht
  exact ⟨hl,t',ht,x⟩
 grind
theorem af0{g:Nat}(fn:Func){td:List It}(tb:List It){c:Core}(h:uh P C K b0 g tb c φ)(hfn:C.fns.get g=ae fn:=by kernel_rfl)(hx:Nq fn td=ae tb:=by kernel_rfl):uh P C K b0 g td c φ:=by
 unfold Nq at hx;split at hx
 ·rename_i p k
  cases hb:Jq (oh (nC fn) p)<;>simp only[hb,cond_true,cond_false] at hx
  ·cases hx
  ·cases hx
   intro H E w a items b cs fn' hfn' h0 st hi;rw[hfn] at hfn';cases hfn';unfold Jq at hb;split at hb
   ·rename_i x hx
    have h0':oh (nC fn) (0::p)=x:=by simp[oh,hx,child]
    cases hi with
    |code p hk=>
     have:=bV (0::p) (fJ p x hx hk);rw[h0'] at this;rw[hx];obtain ⟨a2,w2,y,s,L,v,H',todo,r1,r2⟩:=h H E w a _ b cs fn hfn h0 st this;exact ⟨a2,w2,y,s,L,v,H',todo,.head step_loop r1,r2⟩
    |loop p y hl hk=>
     rw[hx] at hl;cases hl;have:=bV (0::p) (fJ p x hx hk);rw[h0'] at this;obtain ⟨a2,w2,y,s,L,v,H',todo,r1,r2⟩:=h H E w a _ b cs fn hfn h0 st this;exact ⟨a2,w2,y,s,L,v,H',todo,.head step_inLoop r1,r2⟩
   ·cases hb
 ·cases hx
end
section
variable{P:Program}{C:Ctx}{K:Kx}{b0:Nat}{φ:Sh->Prop}
def GR(P:Program)(gls:List (Nat×Sh))(g2:Nat)(yC:List Sh)(L:Int)(X:Bool->Bool->Int->Prop):Prop:=
 ∀(b0:Nat) (H:Mem) (w:World) (vs:List Value),sD H yC vs->H.on w->qE gls H->w.heap[b0]?=ae (cellL L)->H b0=ao->
  Calls P g2 (vs++[Kw b0]).toArray w fun en w'=>∃v y s L' H',en=.returned v/\X y s L'/\afY b0 H H' w' y s L' v/\sF ⟨w,fun b=>b=b0,H⟩ H' w'
theorem Zy{g2:Nat}{fn:Func}{td uJ:List It}{c:Core}{xs:List SV}{yC:List Sh}{x:SV}{L:Int}{X:Bool->Bool->Int->Prop}{dst:Option Nat}{j:Nat}
  (hp:Nu fn td c=ae (g2,xs++[.ptr j 0],dst,uJ)) (hen:Enters P g2) (hs:xY c.hp xs=ae yC) (hl:mQ c.hp j=ae (.box [x] 3)) (hn:Zv x=ae L) (hcall:GR P C.gls g2 yC L X)
  {H:Mem} {E:Env} {w:World} {a:Act} {items:List Item} (st:St C K H E w c a) (hi:pV (nC fn) td items) (b:Frame) (cs:List Frame) :
  ∃(y s:Bool) (L':Int) (H':Mem) (w':World) (a':Act) (items':List Item),X y s L'/\Steps P (lone (b.at a items) cs w) (lone (b.at a' items') cs w')/\
   St C K H' E w' {c with tm:=BX c.tm dst (.mX [.bool y,.bool s]),hp:=hset c.hp j (.box [.sym .i64 L'] 3)} a'/\pV (nC fn) uJ items'/\H.le H':=by
 obtain ⟨b0,ce,h0,hb,hd,hm⟩:=st.hp.ent j _ hl;have h0:E j=ae (Kw b0):=h0;unfold Nu at hp;split at hp;rotate_left
 ·cases hp
 rename_i p i rest k;split at hp;rotate_left
 ·cases hp
 rename_i rid ops dr hcode;split at hp;rotate_left
 ·cases hp
 rename_i o ho;split at hp;rotate_left
 ·cases hp
 rename_i hwant;split at hp;rotate_left
 ·cases hp
 rename_i kk hop;split at hp;rotate_left
 ·cases hp
 rename_i f ad5;split at hp;rotate_left
 ·cases hp
 rename_i g3 caps hev;injection hp with hp
 injection hp with e1 hp
 injection hp with e2 hp
 injection hp with e3 e4
 subst e1 e3 e4;cases hi with
 |reg p l id ops2 hc hk=>
  rw[hc] at hcode;cases hcode;rename_i k';have df:=ou (H:=H) (E:=E) st.den f;rw[hev] at df;obtain ⟨vs,ef,hvs⟩:=df;have hargs:=(DJ st.den kk.args.toList).append hvs;rw[e2] at hargs;have ho':ops[i]?=ae o:=by grind [opAt]
  have hw':=wZ (ops:=ops) st.den o;rw[hwant] at hw';have hrun:(execOp a.eval o).run P w=.ok (.enter g3 (kk.args.map a.eval++vs)) w:=by
   simp_all [execOp,resolve,cW,invoke,xA]
  have hg:=stepG_op (P:=P) (b:=b) (k:=k') (cs:=cs) (w:=w) (rest:=rest) ho' hw';have henter:step P (lone (b.at a (.inRegion ops (i::rest)::k')) cs w)=.next (lone (Frame.enter P g3 (kk.args.map a.eval++vs) .normal) (b.at a (.inRegion ops (i::rest)::k')::cs) w):=
   step_lone_go (by simp_all [stepG.apply,Frame.at])
  obtain ⟨us,hus,hrep⟩:∃us:List Value,kk.args.toList.map a.eval++vs.toList=us++[Kw b0]/\sD H yC us:=by
   have split:∀{xs:List SV} {l:List Value},ni H E (xs++[.ptr j 0]) l->∃us,l=us++[Kw b0]/\ni H E xs us:=by
    intro xs;induction xs with
    |nil=>
     intro l hd;match l,hd with
     |[u],⟨⟨b',e',hu⟩,_⟩=>
      simp_all [nH,Kw]
    |cons x xs ih=>
     intro l hd;match l,hd with
     |u::l,⟨h1,h2⟩=>
      obtain ⟨us,rfl,h3⟩:=ih h2;exact ⟨u::us,rfl,h1,h3⟩
   obtain ⟨us,h1,h2⟩:=split hargs;exact ⟨us,h1,sJ st.hp hs h2⟩
  have hce:ce=#[.int .i64 L]:=by
   match hl:ce.toList,hd with
   |[u],hd=>
    obtain ⟨hd,_⟩:=hd;have:u=.int .i64 L:=by
     unfold Zv at hn;split at hn
     ·cases hn;exact hd
     ·cases hn;exact hd
     ·cases hn
    grind
   |[],hd=>exact hd.elim |_::_::_,hd=>exact hd.2.elim
  subst hce;have hcl:=hcall b0 H w us hrep st.o7.on st.gl hb hm.1;have amg:(us++[Kw b0]).toArray=kk.args.map a.eval++vs:=by
   simp_all
  rw[amg] at hcl;obtain ⟨en,w',F,⟨v,y,s,L',H',rfl,hX,hE,Bv⟩,q1,q2,q3⟩:=hcl (b.at a (.inRegion ops (i::rest)::k')::cs);have hleave:step P (lone F (b.at a (.inRegion ops (i::rest)::k')::cs) w')=.next (lone (b.at (a.put o.dst v) (.inRegion ops rest::k')) cs w'):=by
   rw[step_leave_returned q3,Frame.finish_at];simp[ho']
  have WT:nU E j (.box [x] 3)=ae b0:=by simp[nU,h0,Kw,nH]
  have hun:∀{b:Nat},H b=ao->b<w.heap.size->b≠b0->H' b=ao:=fun {b} h1 h2 h3=>by
   cases hx:H' b with
   |none=>rfl |some o=>
    (rcases Bv.fresh b (by rw[hx];simp) with q|q|q)<;>grind
  have hhp:nI K H' E w' (hset c.hp j (.box [.sym .i64 L'] 3)):=by
   have back:∀{id:Nat} {sb:SB},mQ (hset c.hp j (.box [.sym .i64 L'] 3)) id=ae sb->(id=j/\sb=.box [.sym .i64 L'] 3)\/(id≠j/\mQ c.hp id=ae sb):=fun {id sb} h=>by
    grind [rU]
   refine ⟨fun id sb h=>?_,fun id id' sb sb' b' h1 h2 o1 o2=>?_⟩
   ·rcases back h with ⟨rfl,rfl⟩ |⟨hne,h⟩
    ·exact ⟨b0,#[.int .i64 L'],h0,hE.cell,⟨rfl,trivial⟩,hE.un,hm.2⟩
    ·have hent:=st.hp.ent id sb h
     have nb:∀{b':Nat},nU E id sb=ae b'->b'≠b0:=fun ho hq=>hne (st.hp.vV id j sb _ b0 h hl (by rw[ho,hq]) WT);exact hent.kept hE.le (fun _ _ e=>e) (fun b' ho=>Bv.kept b' (hent.lt ho).1 (nb ho)) fun b' ho=>hun (hent.lt ho).2.1 (hent.lt ho).1 (nb ho)
   ·have aym:∀{id:Nat} {sb:SB},id=j->sb=.box [.sym .i64 L'] 3->nU E id sb=nU E j (.box [x] 3):=fun e1 e2=>by rw[e1,e2];rfl
    rcases back h1 with ⟨e1,e2⟩ |⟨n1,k1⟩<;>rcases back h2 with ⟨e3,e4⟩ |⟨n2,k2⟩
    ·rw[e1,e3]
    ·exact e1.trans (st.hp.vV j id' _ sb' b' hl k2 (by simp_all) o2)
    ·exact (st.hp.vV id j sb _ b' k1 hl o1 (by simp_all)).trans e3.symm
    ·exact st.hp.vV id id' sb sb' b' k1 k2 o1 o2
  have hW:sF K H' w':=⟨Bv.os.trans st.o7.os,Bv.tape.trans st.o7.tape,Bv.output.trans st.o7.output,bL st.o7.size Bv.size,fun b' hb1 hn'=>by
   rw[Bv.kept b' (dp hb1 st.o7.size) fun hq=>by
    have hq:b'=b0:=hq;subst hq;(rcases hm.2 with q|q)<;>grind]
   exact st.o7.kept b' hb1 hn',Bv.on,fun b' o e=>hE.le b' o (st.o7.le b' o e),fun b' hb1=>by
    rcases Bv.fresh b' hb1 with q|q|q
    ·exact st.o7.fresh b' q
    ·exact .inr (.inl (bL st.o7.size q))
    ·have q:b'=b0:=q
     subst q;exact .inr hm.2⟩
  have dv:Den H' E (.mX [.bool y,.bool s]) v:=by
   rw[hE.v];exact ⟨⟨[.bool y,.bool s]⟩,rfl,rfl,rfl,trivial⟩
  have NW:St C K H' E w' {c with tm:=BX c.tm o.dst (.mX [.bool y,.bool s]),hp:=hset c.hp j (.box [.sym .i64 L'] 3)} (a.put o.dst v):=
   ⟨zY (c:=c) (st.den.le hE.le fun _ _ e=>e) _ dv,hhp,hW,st.free,st.gl.le hE.le,by rw[put_defers];exact st.defers⟩
  exact ⟨y,s,L',H',w',_,_,hX,Steps.head henter (q1.trans (.one hleave)),NW,.reg p rest _ ops hc hk,hE.le⟩
theorem af2{g g2:Nat}{fn:Func}{td uJ:List It}{c:Core}{xs:List SV}{yC:List Sh}{x:SV}{L:Int}{X:Bool->Bool->Int->Prop}{dst:Option Nat}(hfn:C.fns.get g=ae fn)
  (hp:Nu fn td c=ae (g2,xs++[.ptr 0 0],dst,uJ)) (hen:Enters P g2) (hs:xY c.hp xs=ae yC) (hl:mQ c.hp 0=ae (.box [x] 3)) (hn:Zv x=ae L) (hcall:GR P C.gls g2 yC L X)
  (hgo:∀y s L',X y s L'->uh P C K b0 g uJ {c with tm:=BX c.tm dst (.mX [.bool y,.bool s]),hp:=hset c.hp 0 (.box [.sym .i64 L'] 3)} φ):uh P C K b0 g td c φ:=by
 intro H E w a items b cs fn' hfn' h0 st hi;rw[hfn] at hfn';cases hfn';obtain ⟨y,s,L',H',w',a',items',hX,q1,NW,hi3,hle⟩:=Zy hp hen hs hl hn hcall st hi b cs;obtain ⟨a2,w2,y2,s2,L2,v2,H2,O8,r1,r2,r3,r4,r5⟩:=hgo y s L' hX H' E w' _ _ b cs fn hfn h0 NW hi3;exact ⟨a2,w2,y2,s2,L2,v2,H2,O8,q1.trans r1,r2,r3,r4.from hle,r5⟩
theorem ac7{g g2 j:Nat}{fn:Func}{td uJ:List It}{c:Core}{xs:List SV}{yC:List Sh}{x:SV}{L:Int}{X:Bool->Bool->Int->Prop}{dst:Option Nat}(hfn:C.fns.get g=ae fn)
  (hp:Nu fn td c=ae (g2,xs++[.ptr j 0],dst,uJ)) (hen:Enters P g2) (hs:xY c.hp xs=ae yC) (hl:mQ c.hp j=ae (.box [x] 3)) (hn:Zv x=ae L) (hcall:GR P C.gls g2 yC L X)
  (hgo:∀y s L',X y s L'->mY P C K g uJ {c with tm:=BX c.tm dst (.mX [.bool y,.bool s]),hp:=hset c.hp j (.box [.sym .i64 L'] 3)} [] emp φ):mY P C K g td c [] emp φ:=by
 intro H E w a items ms cs fn' hfn' st hi hs' hx;rw[hfn] at hfn';cases hfn';obtain ⟨y,s,L',H',w',a',items',hX,q1,NW,hi3,hle⟩:=Zy hp hen hs hl hn hcall st hi (base g) (ms++cs);cases ms with
 |cons _ _=>exact hs'.elim |nil=>
  obtain ⟨a2,w2,v,s2,H2,todo,fn0,r1,r2,r3⟩:=hgo y s L' hX H' E w' _ _ [] cs fn hfn NW hi3 trivial Iq;exact ⟨a2,w2,v,s2,H2,todo,fn0,r1,q1.trans r2,r3⟩
theorem ah3(hC:oC P C){g:Nat}{fn:Func}{yC:List Sh}{L:Int}{X:Bool->Bool->Int->Prop}{lim:Nat}(hfn:C.fns.get g=ae fn)(hb:fn.body.isSome=ah)
  (hgo:∀(b0:Nat) (K:Kx),uh P C K b0 g [.code []] {tm:=EW yC++.ptr 0 0::bf (fn.ntmps - (yC.length+1)) .any,hp:=[(0,.box [.sym .i64 L] 3)],nx:=1,lim,tc:=[]} fun s=>∃y z L',s=.mX [.b y,.b z,.i .i64 L']/\X y z L'):GR P C.gls g yC L X:=by
 intro b0 H w vs hr hon hg hcell hun cs;obtain ⟨body,hbody⟩:=bG.1 hb;have hP:=hC.fn g fn hfn;let E:Env:=fun i=>if i=0 then ae (Kw b0) else ao
 let a:Act:={tmps:=(vs++[Kw b0]).toArray++Array.replicate (fn.ntmps - (vs++[Kw b0]).toArray.size) undef,defers:=[]}
 have hlen:=hr.length;have st:St C ⟨w,fun b=>b=b0,H⟩ H E w {tm:=EW yC++.ptr 0 0::bf (fn.ntmps - (yC.length+1)) .any,hp:=[(0,.box [.sym .i64 L] 3)],nx:=1,lim,tc:=[]} a:=by
  refine ⟨?_,⟨fun id sb h=>?_,fun id id' sb sb' b h1 h2 _ _=>?_⟩,⟨rfl,rfl,rfl,aV _,fun _ _ _=>rfl,hon,fun _ _ h=>h,fun _ h=>.inl h⟩,fun i hi _=>?_,hg,rfl⟩
  ·have:a.tmps.toList=vs++(Kw b0::bf (fn.ntmps - (yC.length+1)) undef):=by simp[a,hlen]
   rw[this];refine (AO hr).append ⟨⟨b0,by rfl,rfl⟩,ni.any _ _ (by simp)⟩
  ·simp only[mQ] at h
   cases hid:(0==id)<;>simp only[hid,cond_true,cond_false] at h
   ·cases h
   ·cases h
    obtain rfl:0=id:=by grind
    exact ⟨b0,#[.int .i64 L],rfl,hcell,⟨rfl,trivial⟩,hun,.inr rfl⟩
  ·grind [mQ]
  grind
 have hit:pV (nC fn) [.code []] [.code body]:=by
  have:=bV (body:=nC fn) [] pV.nil;simp_all [oh,nC]
 obtain ⟨a',w',y,s,L',v,H',todo,q1,q2,⟨y',s',L'',e,hX⟩,q4,q5,q6⟩:=hgo b0 ⟨w,fun b=>b=b0,H⟩ H E w a [.code body] (base g) cs fn hfn rfl st hit;injection e with e
 injection e with e1 e
 injection e with e2 e
 injection e with e3 _
 injection e1 with e1
 injection e2 with e2
 injection e3 with _ e3
 subst e1 e2 e3;exact ⟨.returned v,w',_,⟨v,y,s,L',H',rfl,hX,q4,q5⟩,by rw[AY hP hbody];exact q1,rfl,rfl,q2,rfl,fn,hP,q6⟩
end
end Go.Sx
namespace Go.Rg
open Go Go.Sx Go.Pl Go.Proofs Go.Gm Go.Bf
def af4:List Sh->Tree Sh
 |[.agg [_,_,s,_,_]]=>match qp 1 s with
  |some (c,_)=>.need (decide (c<=62)) (.leaf (.i .i64 ((2^c - 1:Nat):Int))) |none=>.fail
 |_=>.fail
noncomputable def lf38(no:Nat):Option (Nd (List oO))->Tree Sh
 |some t=>.leaf (.mX [.agg [.i .i64 (t.placed:Nat),.sl 4 no (rD (dR t.st))],.v (.bool ah)]) |none=>.leaf (.mX [.agg [.i .i64 0,.sl 4 0 noT],.v (.bool ag)])
noncomputable def ac8(g:Game (List oO))(S:Nat)(l:List oO)(i:Nat)(cm:Bool)(o:Option (Nd (List oO))):Bool:=@decide (uD g S l i cm=o) (ay _)
noncomputable def apf(lv:Int)(n:Nat)(T:Nat->pO)(C:List Int)(no:Nat)(g0:Nat->List Sh)(S:Nat)(l:List oO)(i:Nat)(m0 m1:Option (Nd (List oO))):List Sh->Tree Sh
 |[a,.agg [.i .i64 x,.sl 4 m g],t,.b ah]=>match nO t with
  |some z=>.need (IX a (KI lv n T C no g0)) (.need (decide (x=(S:Int)/\m=no/\z=(i:Int))) (.need (srB l m g) (.need (ac8 (qo lv T C no) S l i ah m0) (lf38 no m0)))) |none=>.fail
 |[a,.agg [.i .i64 x,.sl 4 m g],t,.b ag]=>match nO t with
  |some z=>.need (IX a (KI lv n T C no g0)) (.need (decide (x=(S:Int)/\m=no/\z=(i:Int))) (.need (srB l m g) (.need (ac8 (qo lv T C no) S l i ag m1) (lf38 no m1)))) |none=>.fail
 |_=>.fail
noncomputable def I5(lv:Int)(n:Nat)(T:Nat->pO)(C:List Int)(no:Nat)(g0:Nat->List Sh)(S:Nat)(l:List oO)(i:Nat)(m0 m1:Option (Nd (List oO))):Nat->Option (List Sh->Tree Sh)
 |18=>ae af4 |19=>ae (apf lv n T C no g0 S l i m0 m1) |_=>ao
def sN(g:Nat)(p:List Nat):Bool:=bJ g 7&&bJ p.length 7
def BP(g:Nat):Bool:=bJ g 7
def Kz:List It:=[aA [0,1,0,1,1,1,1],aM 0,aA [1,1,1,1,1]]
def gmV(lv:Int)(n:Nat)(T:Nat->pO)(C:List Int)(no:Nat)(g0:Nat->List Sh):List SV:=[.sym .i64 lv,.sh (.sl 7 n (mO T)),.sh (.sl 1 C.length (mO (nth C))),.sh (.sl 1 C.length (mO (zn lv (vK T C)))),.sh (.sl 4 no g0)]
def LA(lv:Int)(n:Nat)(T:Nat->pO)(C:List Int)(no:Nat)(g0:Nat->List Sh)(S:Int)(g:Nat->List Sh)(L i:Int):Core:=
 {tm:=sK 65 [(2,.ptr 0 0),(3,.ptr 1 0),(4,.ptr 2 0),(8,.sym .i64 i)],hp:=[(0,.box [.sym .i64 L] 3),(1,.box (gmV lv n T C no g0) 32),(2,.box [.sym .i64 S,.sh (.sl 4 no g)] 40)],nx:=3,lim:=L0,tc:=[]}
def aq9(lv:Int)(n:Nat)(T:Nat->pO)(C:List Int)(no:Nat)(g0:Nat->List Sh)(S:Int)(g:Nat->List Sh)(L:Int):Core:=
 {tm:=EW [KI lv n T C no g0,.agg [.i .i64 S,.sl 4 no g]]++.ptr 0 0::bf (65 - (2+1)) .any,hp:=[(0,.box [.sym .i64 L] 3)],nx:=1,lim:=L0,tc:=[]}
def awH:List It:=aA [0,0,1,0,1,1,1,1]::Kz
def apg:List It:=[aA [1,1,1,0,0,1,0,0,1,0,0,1,0,0,1,0,1,1,1,1],aM 3,aA [1,1,0,0,1,0,0,1,0,0,1,0,1,1,1,1],aA [0,1,0,0,1,0,0,1,0,1,1,1,1],aM 2,aM 1,aA [1,1,0,0,1,0,1,1,1,1]]++Kz
def MV:List It:=fT [0,1,1,0,0,1,0,0,1,0,0,1,0,0,1,0,1,1,1,1] [3,4,5,6,7,8]::apg
def ac9:List It:=fT [0,1,1,0,0,1,0,0,1,0,0,1,0,0,1,0,1,1,1,1] [4,5,6,7,8]::apg
def LC(lv:Int)(n:Nat)(T:Nat->pO)(C:List Int)(no:Nat)(g0:Nat->List Sh)(S:Int)(g:Nat->List Sh)(L i:Int)(cm:Int)(t:Nd (List oO)):Core:=
 {tm:=sK 65 [(2,.ptr 0 0),(3,.ptr 1 0),(4,.ptr 2 0),(8,.sym .i64 i),(9,.int .i64 cm),(52,.agg (gmV lv n T C no g0)),(53,.agg [.sym .i64 (t.placed:Nat),.sh (.sl 4 no (rD (dR t.st)))]),(54,.ptr 0 0)],hp:=[(0,.box [.sym .i64 L] 3),(1,.box (gmV lv n T C no g0) 32),(2,.box [.sym .i64 S,.sh (.sl 4 no g)] 40)],nx:=3,lim:=L0,tc:=[]}
def LD(lv:Int)(n:Nat)(T:Nat->pO)(C:List Int)(no:Nat)(g0:Nat->List Sh)(S:Int)(g:Nat->List Sh)(L i:Int)(cm:Int)(t:Nd (List oO))(y z:Bool):Core:=
 {LC lv n T C no g0 S g L i cm t with tm:=BX (LC lv n T C no g0 S g L i cm t).tm (ae 55) (.mX [.bool y,.bool z])}
theorem aph:nD ai (nJ W7) 18 af4:=by
 refine pJ (vk mZ) 300 400 L0 Tryz.f18 fun H w nY args φ hrep h=>?_
 unfold af4 at h;split at h
 ·rename_i a b s d e
  split at h
  ·rename_i c g h1
   obtain ⟨q1,hφ⟩:=h;have q1:=of_decide_eq_true q1;match args,hrep with
   |[v],⟨hv,_⟩=>
    refine ⟨[.agg [a,b,.sl 1 c g,d,e]],⟨?_,trivial⟩,?_⟩
    ·refine Gu hv rfl fun j s s' e1 e2 u hu=>?_
     grind [nZ]
    ·rw[<-qc]
     have cc:mM.conv .u64 (mM.nK c)=(c:Int):=by
      show dG.wrap (c:Int)=_;rw[iN];omega
     refine DV (an (by rfl:mM.le 0 (mM.conv .u64 (mM.nK c))=ah) (?_:up φ (.i .i64 (mM.sub .i64 (mM.bin .shl .i64 1 (mM.conv .u64 (mM.nK c))) 1))));rw[cc,show mM.sub .i64 (mM.bin .shl .i64 1 (c:Int)) 1=((2^c - 1:Nat):Int) from afA q1];exact nP (s':=.i .i64 ((2^c - 1:Nat):Int)) rfl hφ
  ·exact h.elim
 ·exact h.elim
end Go.Rg
