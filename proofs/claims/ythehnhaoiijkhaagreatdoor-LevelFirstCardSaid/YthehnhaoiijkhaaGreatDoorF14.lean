/- Own work. -/
import Derived.Test.YthehnhaoiijkhaaGreatDoorF13
import Derived.KernelRfl
open Int (ofNat)
open Bool renaming and_eq_true->aG,true->aC,not_eq_true'->dM,false->ay
open Classical renaming propDecidable->aX,byContradiction->yF
open Go.Gm renaming start->lK
open Go.AL renaming zJ->bf,J9->ou,FB->kE,takeB->jy,Gg->pO,FC->o9,KQ->vY,takeN->vZ,Row->xY,okB->ny,lst->nR
open Go.AL.Au renaming nil->jw
open Go.Proofs.C7 renaming ok->bY,O5->kS
open Go.Proofs.Tryz renaming prog->aA,f21->mM,f45->mJ,f106->pI,f48->kZ,f80->oz,f26->qJ,f25->qK
open Go.Sx.AQ renaming all->cu
open Go.Sx.It renaming inBlock->bZ,code->bF
open Int renaming ofNat->ah,ofNat_eq_natCast->jP
open List renaming getElem?_eq_getElem->aV,getD_eq_getElem?_getD->bQ,getElem?_map->iO,range->aY,all_eq_true->dA,mem_range->dD,replicate->dL,map_cons->jJ,find?_cons->vM,mem_cons_self->dK,mem_cons_of_mem->dF,flatMap_def->uN,map_map->qX,map->lg,length_map->iy,any_eq_true->uO,mem_map->fC,mem_flatMap->iL,mem_append->cZ,mem_singleton->rV,getElem?_range->rC
open Nat renaming zero_le->fK,sub_self->pF
open Option renaming some->ak,none->aK
open Option.some renaming inj->dw
namespace Go.Pl
open Go Go.Sx Go.Proofs Go.Gm Go.Bf
noncomputable def tvB(k:Nat)(s:Sh):Bool:=hpB s&&(!(Vu s).okb&&(if k=0 then (Vu s).Gy else !(Vu s).Gy&&(Vu s).e==k))
noncomputable def tpI(s:Sh):Int:=(Vu s).pos
noncomputable def teN(s:Sh):Nat:=(Vu s).e
end Go.Pl
namespace Go.Proofs
open Go Go.Sx Go.Pl Go.Gm Go.Bf
noncomputable def atq(k:Nat):List Sh->Tree Sh
 |[s]=>match k with
  |0=>.need (tvB 0 s) (.leaf (.zQ [.sl 0 0 (fun _=>[]),.BM 109 (.pt [.i .i64 (tpI s),.er (teN s) 329])])) |6=>.need (tvB 6 s) (.leaf (.zQ [.sl 0 0 (fun _=>[]),.er 6 329])) |_=>.fail
 |_=>.fail
theorem atr:zZ aA (Ar W7) 20 aqE:=by
 intro H w Aq args φ hon hgl hr hφ;unfold aqE at hφ;split at hφ
 ·rename_i s
  obtain ⟨q1,hφ⟩:=hφ;unfold tkB at q1;rw[aG] at q1;obtain ⟨n,g,m,h,rfl,P⟩:=@of_decide_eq_true _ (aX _) q1.1;exact O20 P H w _ args φ hon hgl hr ⟨@decide_eq_true _ (aX _) rfl,fun _=>hφ,fun c=>(by rw[show (zX n g m h).okb=aC from q1.2] at c;cases c)⟩
 ·exact hφ.elim
theorem aqG(k:Nat):zZ aA (Ar W7) 20 (atq k):=by
 intro H w Aq args φ hon hgl hr hφ;unfold atq at hφ;have key:∀s,tvB k s=aC->(∀(x:k=0),φ (.zQ [.sl 0 0 (fun _=>[]),.BM 109 (.pt [.i .i64 (tpI s),.er (teN s) 329])]))->(∀(x:k≠0),φ (.zQ [.sl 0 0 (fun _=>[]),.er k 329]))->CU H [s] args->
   Calls aA 20 args.toArray w fun e w'=>∃v s H',e=.returned v/\φ s/\CV H w s v H' w':=by
  intro s q1 h0 h1 hr;unfold tvB at q1;rw[aG,aG,dM] at q1;obtain ⟨a1,a2,a3⟩:=q1;obtain ⟨n,g,m,h,rfl,P⟩:=@of_decide_eq_true _ (aX _) a1;have a2:(zX n g m h).okb=ay:=a2;refine O20 P H w _ args φ hon hgl hr ⟨@decide_eq_true _ (aX _) rfl,fun c=>(by rw[a2] at c;cases c),fun _=>⟨fun c=>?_,fun c=>?_⟩⟩
  ·by_cases hk:k=0
   ·exact h0 hk
   ·rw[if_neg hk,aG,dM] at a3
    rw[show (zX n g m h).Gy=ay from a3.1] at c;cases c
  ·by_cases hk:k=0
   ·rw[if_pos hk] at a3
    rw[show (zX n g m h).Gy=aC from a3] at c;cases c
   ·rw[if_neg hk,aG,dM,beq_iff_eq] at a3
    rw[show (zX n g m h).e=k from a3.2];exact h1 hk
 split at hφ
 ·rename_i s
  split at hφ
  ·exact key s hφ.1 (fun _=>hφ.2) (fun x=>(x rfl).elim) hr
  ·exact key s hφ.1 (fun x=>by cases x) (fun _=>hφ.2) hr
  ·exact hφ.elim
 ·exact hφ.elim
open Go Go.Sx Go.Pl
noncomputable def W11:List Sh->Tree Sh
 |[]=>.leaf (.v (.bool aC)) |_=>.fail
end Go.Proofs
namespace Go.Pl
open Go Go.Sx Go.Proofs Go.Gm Go.Bf
section
variable{n m:Nat}{g h:Nat->List Sh}
theorem ajM(P:JZ n g m h){lv:Int}(hl:1<=lv/\lv<=3):hsB (hsS n g m h) lv=aC:=@decide_eq_true _ (aX _) ⟨n,g,m,h,rfl,P,hl.1,hl.2⟩
theorem amD{lv:Int}(hb:(CY (hsS n g m h) lv).okb=ay):(CY (hsS n g m h) lv).Gy=aC\/((CY (hsS n g m h) lv).Gy=ay/\((CY (hsS n g m h) lv).e=1\/(CY (hsS n g m h) lv).e=6)):=by
 have hb:((zX n g m h).okb&&decide ((zX n g m h).n<=12))=ay:=hb;show (!(zX n g m h).okb&&(zX n g m h).Gy)=aC\/((!(zX n g m h).okb&&(zX n g m h).Gy)=ay/\((if (zX n g m h).okb=aC then 1 else (zX n g m h).e)=1\/(if (zX n g m h).okb=aC then 1 else (zX n g m h).e)=6));grind [zX]
theorem ajN(P:JZ n g m h){lv mo:Int}(hl:1<=lv/\lv<=3)(hm:Gz mo=aC)(hb:(CY (hsS n g m h) lv).okb=aC):gaB (hsS n g m h) lv mo=aC:=by
 simp_all [gaB,ajM]
theorem avO(P:JZ n g m h){lv mo:Int}(hl:1<=lv/\lv<=3)(hm:Gz mo=aC)(hb:(CY (hsS n g m h) lv).okb=ay){k:Nat}(hk:(if k=0 then (CY (hsS n g m h) lv).Gy else !(CY (hsS n g m h) lv).Gy&&(CY (hsS n g m h) lv).e==k)=aC):geB k (hsS n g m h) lv mo=aC:=by
 simp_all [geB,ajM]
end
end Go.Pl
namespace Go.Proofs
open Go Go.Sx Go.Pl Go.Gm Go.Bf
end Go.Proofs
namespace Go.Gm
open Go.Bf
section
variable{S κ:Type}[DecidableEq κ]{g g':Game S}{key:Nd S->κ}
structure Part(b c:Game S)(φ:Nat->Nat):Prop where
 lt:∀i,i<b.n->φ i<c.n
 inj:∀i j,i<b.n->j<b.n->φ i=φ j->i=j
 com:∀i,i<b.n->b.com i=c.com (φ i)
 Oz:∀i,i<b.n->b.Oz i=c.Oz (φ i)
 run:∀i,i<b.n->∀s,b.run s i=c.run s (φ i)
 mask:∀i j,i<b.n->j<b.n->(b.mask i).testBit j=(c.mask (φ i)).testBit (φ j)
 out:∀j,j<c.n->c.com j=aC->∃i,i<b.n/\φ i=j
 free:b.all=ay
structure Sim(b:Game S)(φ:Nat->Nat)(x y:Nd S):Prop where
 st:x.st=y.st
 bit:∀i,i<b.n->x.placed.testBit i=y.placed.testBit (φ i)
end
end Go.Gm
namespace Go.Pl
open Go Go.Sx Go.Proofs Go.Gm Go.Bf
theorem adW{lv bg:Int}(h:lv≠1):∀(l:List Dz) i m j,(NY lv bg i l m).testBit j=(m.testBit j||(decide (i<=j)&&match l[j - i]? with|some a=>Vd a.en bg|none=>ay))
 |[],i,m,j=>by rw[NY];simp |a::l,i,m,j=>by
  rw[NY,adW h l];have hb:(if lv≠1/\Vd a.en bg=aC then m|||1<<<i else m).testBit j=(m.testBit j||(Vd a.en bg&&decide (i=j))):=by
   grind [aeU]
  grind
theorem amE{lv:Int}(h:lv≠1){L:List Dz}{i j:Nat}(hj:j<L.length):((Zy lv L i).toNat).testBit j=Vd (nth L j).en (nth L i).bg:=by
 show (NY lv (nth L i).bg 0 L 0).testBit j=_;simp_all [adW,Nat.sub_zero,nth,bQ]
theorem asA{α β:Type}[Row β]{f:α->β}{l:List α}{i:Nat}(h:i<l.length):nth (l.map f) i=f l[i]:=by
 simp_all [nth,bQ]
section
variable{n:Nat}{og:Nat->List Sh}{B:Sr}
def idx(B:Sr):List Nat:=(aY B.n).filter fun j=>Xe (B.T j).st 2
theorem ct3:Ez 3 B.n B.T=(aY B.n).map B.T:=List.filter_eq_self.2 fun _ _=>rfl
end
open Go Go.Sx Go.Proofs Go.Gm
noncomputable def D7(x:Int)(m:Nat):Nat:=(max 0 (min x (m:Int))).toNat
noncomputable def pfB(o:Nat)(x:Int)(m:Nat):Bool:=zG.room o 16&&zG.room (D7 x m) 64
end Go.Pl
namespace Go.Proofs
open Go Go.Sx Go.Pl
noncomputable def D21:List Sh->Tree Sh
 |[.agg [.sl 2 o og,.sl 8 m mg],t]=>match Ak t with
  |some x=>.need (pfB o x m) (.leaf (.agg [.sl 2 o og,.sl 8 (D7 x m) mg])) |none=>.fail
 |_=>.fail
theorem O21:zZ aA (Ar W7) 21 D21:=by
 refine Fa (C:=C7 zG W7 noSpec zW) (bY _ _) (fn:=mM) (by kernel_rfl) (by kernel_rfl) fun H w Aq args φ hrep h=>?_
 have hn:mM.ntmps=17:=by kernel_rfl
 unfold D21 at h;split at h
 ·rename_i o og m mg t
  split at h
  ·rename_i x e1
   obtain ⟨q1,hφ⟩:=h;match args,hrep with
   |[a0,a1],⟨r0,r1,_⟩=>
    refine ⟨[.agg [.sl 2 o og,.sl 8 m mg],.i .i64 x],⟨r0,Dn e1 r1,trivial⟩,L0,?_⟩;refine Ey (bY _ _) (Kv _) (hold:=AX) (m:=300) (n:=400) (ts:=[]) ?_;rw[hn];unfold pfB at q1;rw[aG] at q1;obtain ⟨ro,rp⟩:=q1;have eX:zG.toN (zG.max (ah 0) (zG.min x (zG.Aa m)))=D7 x m:=by
     unfold D7;rw[I7,O6,BL,Ad];congr 1;simp only[jP];split<;>split<;>omega
    have up1:zG.upTo (zG.max (ah 0) (zG.min x (zG.Aa m))) m=aC:=by
     rw[I7,O6,IE,Ad];simp only[jP];split<;>split<;>simp<;>omega
    obtain ⟨X,hX⟩:∃X,zG.toN (zG.max (ah 0) (zG.min x (zG.Aa m)))=X:=⟨_,rfl⟩;have leo:zG.le (ah 0) (zG.Aa o)=aC:=le0 o;have ro2:zG.room (zG.addN 0 o) 16=aC:=by rw[Hg];exact ro
    have lep:zG.le (ah 0) (zG.Aa (zG.toN (zG.max (ah 0) (zG.min x (zG.Aa m)))))=aC:=le0 _;have rp1:zG.room (zG.toN (zG.Aa (zG.toN (zG.max (ah 0) (zG.min x (zG.Aa m)))))) 64=aC:=by rw[Nb,eX];exact rp
    have rp2:zG.room (zG.addN 0 (zG.toN (zG.max (ah 0) (zG.min x (zG.Aa m))))) 64=aC:=by rw[Hg,eX];exact rp
    have ro1:zG.room (zG.toN (zG.Aa o)) 16=aC:=by rw[Nb];exact ro
    have fin:up φ (.agg [.os 140 2 (zG.addN 0 o) (zG.snoc (fun _=>[]) 0 og),.os 71 8 (zG.addN 0 (zG.toN (zG.max (ah 0) (zG.min x (zG.Aa m))))) (zG.snoc (fun _=>[]) 0 mg)]):=by
     rw[Hg,Hg,eX,JQ,JQ];exact AB (s':=.agg [.sl 2 o og,.sl 8 (D7 x m) mg]) ⟨.inr ⟨rfl,rfl,fun _ _=>rfl⟩,.inr ⟨rfl,rfl,fun _ _=>rfl⟩,trivial⟩ hφ
    exact ahi (by kernel_rfl) (an up1 (an leo (an ro1 (an ro2 (an lep (an rp1 (an rp2 (an lep (an rp1 (an ro2 (an rp2 (an lep (an rp1 (an leo (an ro1 (an ro2 (an rp2 fin))))))))))))))))) (by kernel_rfl)
  ·exact h.elim
 ·exact h.elim
end Go.Proofs
namespace Go.Pl
open Go Go.Sx Go.Proofs Go.Gm Go.Bf
noncomputable def clB(o m:Nat):Bool:=zG.room o 16&&zG.room m 64
end Go.Pl
namespace Go.Proofs
open Go Go.Sx Go.Pl Go.Gm Go.Bf
noncomputable def D45:List Sh->Tree Sh
 |[.agg [.sl 2 o og,.sl 8 m mg]]=>.need (clB o m) (.leaf (.agg [.sl 2 o og,.sl 8 m mg])) |_=>.fail
theorem O45:zZ aA (Ar W7) 45 D45:=by
 refine Fa (C:=C7 zG W7 noSpec zW) (bY _ _) (fn:=mJ) (by kernel_rfl) (by kernel_rfl) fun H w Aq args φ hrep h=>?_
 have hn:mJ.ntmps=18:=by kernel_rfl
 unfold D45 at h;split at h
 ·rename_i o og m mg
  obtain ⟨q1,hφ⟩:=h;refine ⟨[.agg [.sl 2 o og,.sl 8 m mg]],hrep,L0,?_⟩;refine Ey (bY _ _) (Kv _) (hold:=AX) (m:=300) (n:=400) (ts:=[]) ?_;rw[hn];unfold clB at q1;rw[aG] at q1;obtain ⟨ro,rm⟩:=q1;have leo:zG.le (ah 0) (zG.Aa o)=aC:=le0 o;have lem:zG.le (ah 0) (zG.Aa m)=aC:=le0 m;have ro1:zG.room (zG.toN (zG.Aa o)) 16=aC:=by rw[Nb];exact ro
  have rm1:zG.room (zG.toN (zG.Aa m)) 64=aC:=by rw[Nb];exact rm
  have ro2:zG.room (zG.addN 0 o) 16=aC:=by rw[Hg];exact ro
  have rm2:zG.room (zG.addN 0 m) 64=aC:=by rw[Hg];exact rm
  have fin:up φ (.agg [.os 140 2 (zG.addN 0 o) (zG.snoc (fun _=>[]) 0 og),.os 71 8 (zG.addN 0 m) (zG.snoc (fun _=>[]) 0 mg)]):=by
   rw[Hg,Hg,JQ,JQ];exact AB (s':=.agg [.sl 2 o og,.sl 8 m mg]) ⟨.inr ⟨rfl,rfl,fun _ _=>rfl⟩,.inr ⟨rfl,rfl,fun _ _=>rfl⟩,trivial⟩ hφ
  exact ahi (by kernel_rfl) (an leo (an ro1 (an ro2 (an lem (an rm1 (an rm2 (an lem (an rm1 (an ro2 (an rm2 (an lem (an rm1 (an leo (an ro1 (an ro2 (an rm2 fin)))))))))))))))) (by kernel_rfl)
 ·exact h.elim
open Go Go.Sx Go.Pl
noncomputable def G5:Nat->Option (List Sh->Tree Sh)
 |15=>ak ala |20=>ak aqE |21=>ak D21 |45=>ak D45 |_=>aK
def ahS:List Nat:=[0,1,0,1,1,1,1,1,1]
def k48:List It:=[bZ 0,bF [1,1,1,1,1,1,1]]
def att:List SV:=FT 69 [(4,.ptr 0 0),(5,.ptr 1 0),(8,.ptr 2 0),(36,.fn 80 [.ptr 3 0,.ptr 4 0])]
def aqJ(j:Nat)(gg:Nat->List Sh):Bool->SV×List (Nat×SB)
 |true=>(.zY,[]) |false=>(.gs 7,[(7,.own 42 1 j gg)])
def axO(o m:Nat)(og mg:Nat->List Sh)(mo:Int)(j:Nat)(gg:Nat->List Sh)(v:Bool)(p:SV):List (Nat×SB):=
 [(0,.box [.bool ay,.zY,.zY,.int .i64 0,.int .i64 0] 67),(1,.box [.CS] 46),(2,.box [.bool aC,.zY,(aqJ j gg v).1,.int .i64 0,p] 67),(3,.box [.sh (.sl 2 o og),.sh (.sl 8 m mg)] 25),(4,.box [.sym .i64 mo] 3)]
def L48(o m:Nat)(og mg:Nat->List Sh)(mo:Int):Core:={tm:=att,hp:=axO o m og mg mo 0 (fun _=>[]) aC (.int .i64 0),nx:=5,lim:=L0,tc:=[]}
def s48(l:Nat):List Fw:=[⟨48,aK,k48,att,ak (l,ahS,.ready)⟩]
def ahT:List Nat:=[0,1,1]
def k80:List It:=[bZ 0]
def atu:List SV:=FT 29 [(2,.ptr 4 0),(3,.ptr 5 0),(9,.fn 106 [.ptr 6 0])]
def atv(o m:Nat)(og mg:Nat->List Sh)(mo:Int)(l:Nat)(j:Nat)(gg:Nat->List Sh)(v:Bool)(p:SV):List (Nat×SB):=
 [(0,.box [.bool ay,.zY,.zY,.int .i64 0,.int .i64 0] 67),(1,.box [.CS] 46),(2,.box [.bool aC,.zY,(aqJ j gg v).1,.int .i64 0,p] 67),(4,.box [.sym .i64 mo] 3),(5,.box [.val (yv l)] 185),(6,.box [.sh (.sl 2 o og),.sh (.sl 8 m mg)] 25)]++(aqJ j gg v).2
def axP:Bool->Nat
 |true=>7 |false=>8
def L80(o m:Nat)(og mg:Nat->List Sh)(mo:Int)(l:Nat):Core:={tm:=atu,hp:=atv o m og mg mo l 0 (fun _=>[]) aC (.int .i64 0),nx:=7,lim:=L0,tc:=[]}
def s80(l l2:Nat):List Fw:=⟨80,aK,k80,atu,ak (l2,ahT,.ready)⟩::s48 l
def OM:List It:=[bF [0,1],bZ 0]
def aqK:List It:=bF [0,0,1]::OM
def L106(o m:Nat)(og mg:Nat->List Sh)(mo:Int)(l l2:Nat)(j:Nat)(gg:Nat->List Sh)(v:Bool)(p:SV)(i:Int):Core:=
 {tm:=FT 18 [(0,.val (yv l2)),(1,.ptr 6 0),(3,.sym .i64 i)],hp:=atv o m og mg mo l j gg v p,nx:=axP v,lim:=L0,tc:=[]}
end Go.Proofs
namespace Go.Sx
def DF.dg:DF->DF
 | .ret s=>.ret s | .at_ k l=>.at_ k (l.map AQ.dg)
def Tree.dgE:Tree DF->Tree DF
 | .leaf a=>.leaf a.dg | .node b t f=>.node b t.dgE f.dgE | .need b t=>.need b t.dgE | .must l t=>.must (l.map AQ.dg) t.dgE | .both t f=>.both t.dgE f.dgE | .fail=>.fail
def Tree.SN(χ:Sh->Prop)(ξ:Nat->Prop):Tree DF->Prop
 | .leaf (.ret s)=>χ s | .leaf (.at_ k _)=>ξ k | .node b t f=>(b=aC->t.SN χ ξ)/\(b=ay->f.SN χ ξ) | .need b t=>b=aC/\t.SN χ ξ | .must _ t=>t.SN χ ξ | .both t f=>t.SN χ ξ/\f.SN χ ξ | .fail=>False
theorem Tree.Zo{χ:Sh->Prop}{ξ:Nat->Prop}{ψ:DF->Prop}(h1:∀s,χ s->ψ (.ret s))(h2:∀k l,cu l->ξ k->ψ (.at_ k l)):∀{t:Tree DF},t.SN χ ξ->t.dgE.All ψ
 | .leaf (.ret s),h=>h1 s h | .leaf (.at_ k l),h=>h2 k _ (ZP l) h | .node _ _ _,h=>⟨fun e=>Tree.Zo h1 h2 (h.1 e),fun e=>Tree.Zo h1 h2 (h.2 e)⟩ | .need _ _,h=>⟨h.1,Tree.Zo h1 h2 h.2⟩ | .must l _,h=>⟨ZP l,Tree.Zo h1 h2 h⟩ | .both _ _,h=>⟨Tree.Zo h1 h2 h.1,Tree.Zo h1 h2 h.2⟩ | .fail,h=>h
section
variable{P:Program}{C:Ctx}{K:Kx}{φ:Sh->Prop}
def atW(P:Program)(C:Ctx)(K:Kx)(φ:Sh->Prop)(ts:List MW)(k:Nat):Prop:=match ts[k]? with
 |some t=>Df P C K t.g t.r t.td t.c t.stk φ |none=>False
theorem ahU{Q:Prop}{ts:List MW}{t:Tree DF}(h:t.dgE=t)(k:Q)(e:Q=t.SN φ (atW P C K φ ts)):Qh (aiY P C K ts φ) t:=by
 rw[JO,<-h];refine Tree.Zo (fun s x=>x) (fun k l hl x=>?_) (e ▸ k:t.SN φ (atW P C K φ ts));unfold atW at x;split at x
 ·rename_i t' ht
  exact ⟨hl,t',ht,x⟩
 ·exact x.elim
def atS(P:Program)(C:Ctx)(K:Kx)(R:Hp->Prop)(φ:Sh->Prop)(ts:List Lp)(k:Nat):Prop:=match ts[k]? with
 |some t=>Aw P C K t.g t.td t.c t.stk R φ |none=>False
theorem ab8{Q:Prop}{R:Hp->Prop}{ts:List Lp}{t:Tree DF}(h:t.dgE=t)(k:Q)(e:Q=t.SN φ (atS P C K R φ ts)):CQ (H8 P C K ts R φ) t:=by
 rw[Nl,<-h];refine Tree.Zo (fun s x=>x) (fun k l hl x=>?_) (e ▸ k:t.SN φ (atS P C K R φ ts));unfold atS at x;split at x
 ·rename_i t' ht
  exact ⟨hl,t',ht,x⟩
 ·exact x.elim
theorem aqL{H:Mem}{w:World}{g:Nat}{td:List It}{c:Core}(hgo:Df P C (K0 H w) g aK td c [] φ):Aw P C (K0 H w) g td c [] emp φ:=fun H1 E w1 a items ms cs fn1 aob st hi hs hx=>by
 cases ms with
 |cons _ _=>exact hs.elim |nil=>
  have:=hgo H1 E w1 a items [] [] [] cs fn1 (fun _=>aK) aob st hi (fun _ hy=>by cases hy) rfl (by simp) (fun b o e=>by cases e);obtain ⟨a',w',v,s,H',todo,fn0,q1,q2,q3⟩:=this;refine ⟨a',w',v,s,H',todo,fn0,q1,?_,q3⟩;have e:(base g).at a items=Bz (bq g (RG aK) (marks [])) a items:=(Tv g a items).symm;rw[e];exact q2
end
end Go.Sx
namespace Go.Pl
open Go Go.Sx Go.Proofs Go.Gm Go.Bf
def Nw(s:Sh)(i:Nat):Sh:=match s with
 | .agg [a,.sl 8 _ h]=>.agg [a,.sl 8 i h] |s=>s
def evN(s:Sh):Nat:=match s with
 | .agg [_,.sl 8 m _]=>m |_=>0
def KT(ok yes:Nat->Bool)(cnt:Nat->Int):Nat->Nat->Int->Nat×Nat×Int
 |0,i,p=>(0,i,p) |r+1,i,p=>bif ok i then (bif yes i then KT ok yes cnt r (i+1) (zG.max p (cnt i)) else (1,i,zG.max p (cnt i))) else (2,i,p)
noncomputable def oqR(s:Sh)(mo:Int):Nat->Nat->Int->Nat×Nat×Int:=KT (fun i=>GH (Nw s i) 3 mo) (fun i=>Gq (Nw s i) 3 mo) (fun i=>J3 (Nw s i) 3 mo)
noncomputable def IL(s:Sh)(mo:Int):Nat×Nat×Int:=oqR s mo (evN s+1) 0 0
noncomputable def alF(s:Sh)(mo:Int):Nat->List Sh:=fun i=>[.sl 2 (Vs (Nw s i) 3 mo) (zH (Vt (Nw s i) 3 mo))]
noncomputable def oqS(s:Sh)(mo:Int)(x:Nat×Nat×Int):Sh:=match x.1 with
 |0=>.zQ [.agg [.b aC,.sl 2 0 (fun _=>[]),.sl 1 x.2.1 (alF s mo),.i .i64 0,.i .i64 x.2.2],.v .nilIface] |1=>.zQ [.agg [.b ay,.sl 2 0 (fun _=>[]),.sl 1 0 (fun _=>[]),.i .i64 (x.2.1:Nat),.i .i64 x.2.2],.v .nilIface] |_=>.zQ [.agg [.b ay,.sl 2 0 (fun _=>[]),.sl 1 0 (fun _=>[]),.i .i64 0,.i .i64 0],.er 0 329]
end Go.Pl
namespace Go.Proofs
open Go Go.Sx Go.Pl Go.Gm Go.Bf
theorem Vx(stop:Nat->List Nat->Bool):AU aA (C7 zG W7 G5 stop):=kS (fun g F h=>by
 unfold G5 at h;grind [atp,atr,O21,O45]) fun g h=>by
 unfold G5 at h;split at h;all_goals first|(cases h;done) |kernel_rfl
theorem ahW:NP Tryz.fns=aC:=by kernel_rfl
section
variable{H0:Mem}{w0:World}{φ:Sh->Prop}{o m:Nat}{og mg:Nat->List Sh}{mo:Int}{l l2:Nat}
def vdS(y:Bool)(a:Sh)(i p:Int)(e:Sh):Sh:=.zQ [.agg [.b y,.sl 0 0 (fun _=>[]),a,.i .i64 i,.i .i64 p],e]
theorem ahX{j:Nat}{gg:Nat->List Sh}{p i:Int}
  (h1:zG.le i (zG.Aa m)=aC->pfB o i m=aC)
  (h2:zG.le i (zG.Aa m)=aC->gaB (.agg [.sl 2 o og,.sl 8 (D7 i m) mg]) 3 mo=aC)
  (h3:zG.le i (zG.Aa m)=aC->GH (.agg [.sl 2 o og,.sl 8 (D7 i m) mg]) 3 mo=aC->Gq (.agg [.sl 2 o og,.sl 8 (D7 i m) mg]) 3 mo=ay->φ (vdS ay (.sl 0 0 (fun _=>[])) i (zG.max p (J3 (.agg [.sl 2 o og,.sl 8 (D7 i m) mg]) 3 mo)) (.v .nilIface)))
  (h4:zG.le i (zG.Aa m)=aC->GH (.agg [.sl 2 o og,.sl 8 (D7 i m) mg]) 3 mo=aC->Gq (.agg [.sl 2 o og,.sl 8 (D7 i m) mg]) 3 mo=aC->zG.room (zG.addN j 1) 24=aC)
  (h5:zG.le i (zG.Aa m)=aC->GH (.agg [.sl 2 o og,.sl 8 (D7 i m) mg]) 3 mo=aC->Gq (.agg [.sl 2 o og,.sl 8 (D7 i m) mg]) 3 mo=aC->
   Df aA (C7 zG W7 G5 zW) (K0 H0 w0) 106 aK OM (L106 o m og mg mo l l2 (zG.addN j 1) (zG.snoc gg j (Af [[.sl 2 (Vs (.agg [.sl 2 o og,.sl 8 (D7 i m) mg]) 3 mo) (zH (Vt (.agg [.sl 2 o og,.sl 8 (D7 i m) mg]) 3 mo))]])) ay (.sym .i64 (zG.max p (J3 (.agg [.sl 2 o og,.sl 8 (D7 i m) mg]) 3 mo))) (zG.add .i64 i 1)) (s80 l l2) φ)
  (h6:zG.le i (zG.Aa m)=aC->GH (.agg [.sl 2 o og,.sl 8 (D7 i m) mg]) 3 mo=ay->φ (vdS ay (.sl 0 0 (fun _=>[])) 0 0 (.er 0 329)))
  (h7:zG.le i (zG.Aa m)=ay->φ (vdS aC (.os 42 1 j gg) 0 p (.v .nilIface))) :
  Df aA (C7 zG W7 G5 zW) (K0 H0 w0) 106 aK OM (L106 o m og mg mo l l2 j gg ay (.sym .i64 p) i) (s80 l l2) φ:=by
 refine NQ (fn:=pI) (tb:=aqK) (by kernel_rfl) (by kernel_rfl) ?_;refine E5 (bY _ _) (Vx _) ahW (pause:=FP) (m:=300) (n:=800) (ts:=[⟨106,aK,OM,L106 o m og mg mo l l2 (zG.addN j 1) (zG.snoc gg j (Af [[.sl 2 (Vs (.agg [.sl 2 o og,.sl 8 (D7 i m) mg]) 3 mo) (zH (Vt (.agg [.sl 2 o og,.sl 8 (D7 i m) mg]) 3 mo))]])) ay (.sym .i64 (zG.max p (J3 (.agg [.sl 2 o og,.sl 8 (D7 i m) mg]) 3 mo))) (zG.add .i64 i 1),s80 l l2⟩]) ?_;exact ahU (by kernel_rfl) (nd (zG.le i (zG.Aa m)) (fun c=>an (h1 c) (an (h2 c) (nd (GH (.agg [.sl 2 o og,.sl 8 (D7 i m) mg]) 3 mo) (fun c2=>nd (zG.nt (Gq (.agg [.sl 2 o og,.sl 8 (D7 i m) mg]) 3 mo)) (fun c3=>h3 c c2 (by grind [Bh])) (fun c3=>an (h4 c c2 (by grind [Bh])) (h5 c c2 (by grind [Bh])))) (fun c2=>h6 c c2)))) (fun c=>h7 c)) (by kernel_rfl)
theorem amF(h1:pfB o 0 m=aC)(h2:gaB (.agg [.sl 2 o og,.sl 8 (D7 0 m) mg]) 3 mo=aC)
  (h3:GH (.agg [.sl 2 o og,.sl 8 (D7 0 m) mg]) 3 mo=aC->Gq (.agg [.sl 2 o og,.sl 8 (D7 0 m) mg]) 3 mo=ay->φ (vdS ay (.sl 0 0 (fun _=>[])) 0 (zG.max 0 (J3 (.agg [.sl 2 o og,.sl 8 (D7 0 m) mg]) 3 mo)) (.v .nilIface)))
  (h5:GH (.agg [.sl 2 o og,.sl 8 (D7 0 m) mg]) 3 mo=aC->Gq (.agg [.sl 2 o og,.sl 8 (D7 0 m) mg]) 3 mo=aC->
   Df aA (C7 zG W7 G5 zW) (K0 H0 w0) 106 aK OM (L106 o m og mg mo l l2 1 (Af [[.sl 2 (Vs (.agg [.sl 2 o og,.sl 8 (D7 0 m) mg]) 3 mo) (zH (Vt (.agg [.sl 2 o og,.sl 8 (D7 0 m) mg]) 3 mo))]]) ay (.sym .i64 (zG.max 0 (J3 (.agg [.sl 2 o og,.sl 8 (D7 0 m) mg]) 3 mo))) (zG.add .i64 0 1)) (s80 l l2) φ)
  (h6:GH (.agg [.sl 2 o og,.sl 8 (D7 0 m) mg]) 3 mo=ay->φ (vdS ay (.sl 0 0 (fun _=>[])) 0 0 (.er 0 329)))
  (h7:zG.le 0 (zG.Aa m)=ay->φ (vdS aC (.sl 0 0 (fun _=>[])) 0 0 (.v .nilIface))) :
  Df aA (C7 zG W7 G5 zW) (K0 H0 w0) 106 aK OM (L106 o m og mg mo l l2 0 (fun _=>[]) aC (.int .i64 0) 0) (s80 l l2) φ:=by
 refine NQ (fn:=pI) (tb:=aqK) (by kernel_rfl) (by kernel_rfl) ?_;refine E5 (bY _ _) (Vx _) ahW (pause:=FP) (m:=300) (n:=800) (ts:=[⟨106,aK,OM,L106 o m og mg mo l l2 1 (Af [[.sl 2 (Vs (.agg [.sl 2 o og,.sl 8 (D7 0 m) mg]) 3 mo) (zH (Vt (.agg [.sl 2 o og,.sl 8 (D7 0 m) mg]) 3 mo))]]) ay (.sym .i64 (zG.max 0 (J3 (.agg [.sl 2 o og,.sl 8 (D7 0 m) mg]) 3 mo))) (zG.add .i64 0 1),s80 l l2⟩]) ?_;exact ahU (by kernel_rfl) (nd (zG.le 0 (zG.Aa m)) (fun c=>an h1 (an h2 (nd (GH (.agg [.sl 2 o og,.sl 8 (D7 0 m) mg]) 3 mo) (fun c2=>nd (zG.nt (Gq (.agg [.sl 2 o og,.sl 8 (D7 0 m) mg]) 3 mo)) (fun c3=>h3 c2 (by grind [Bh])) (fun c3=>h5 c2 (by grind [Bh]))) (fun c2=>h6 c2)))) (fun c=>h7 c)) (by kernel_rfl)
end
end Go.Proofs
namespace Go.AL
open Go Go.Sx
theorem take_split{p:Nat->Ev}:∀(a b k:Nat) (σ:Au),takeN p σ k (a+b)=match takeN p σ k a with| .inl σ'=>takeN p σ' (k+a) b| .inr x=>.inr x
 |0,b,k,σ=>by rw[Nat.zero_add];rfl |a+1,b,k,σ=>by
  rw[show a+1+b=(a+b)+1 by omega,takeN,takeN];cases hf:(σ.feed (p k)).1 with
  |some e=>rfl |none=>
   show takeN p (σ.feed (p k)).2 (k+1) (a+b)=_;rw[take_split a b (k+1),show k+1+a=k+(a+1) by omega]
theorem amG{σ:Au}{e:Ev}:σ.rs.length<=(σ.feed e).2.rs.length:=by
 grind [Au.feed]
theorem take_len{p:Nat->Ev}:∀(r k:Nat) (σ σ':Au),takeN p σ k r=.inl σ'->σ.rs.length<=σ'.rs.length
 |0,k,σ,σ',h=>by
  have h:(Sum.inl σ:Au ⊕ (Nat×Nat))=.inl σ':=h;simp_all
 |r+1,k,σ,σ',h=>by
  unfold takeN at h;cases hf:(σ.feed (p k)).1 with
  |some e=>simp_all |none=>
   rw[hf] at h;exact Nat.le_trans amG (take_len r (k+1) _ σ' h)
theorem ahY{f:Nat->Option Nat}:∀{r k:Nat},(∀j,k<=j->j<k+r->f j=aK)->GV f k r=aK
 |0,k,_=>rfl |r+1,k,h=>by
  rw[GV,h k (Nat.le_refl _) (by omega)];exact ahY fun j h1 h2=>h j (by omega) (by omega)
end Go.AL
namespace Go.Pl
open Go Go.Sx Go.Proofs Go.Gm Go.Bf
section
variable{n m:Nat}{g h:Nat->List Sh}
theorem JZ.pre(P:JZ n g m h){i:Nat}(hi:i<=m):JZ n g i h:=
 ⟨P.o,Go.AL.Tz (o:=bf h) fun j hj=>ou P.p j (by omega),dA.2 fun k hk=>dA.1 P.r k (dD.2 (by grind)),P.k⟩
theorem TP(hok:(zX n g m h).okb=aC){i:Nat}(hi:i<=m):(zX n g i h).okb=aC/\(zX n g i h).n<=(zX n g m h).n:=by
 have hok:(!Go.AL.Gg n m&&(kE n m g h&&jy m (bf h)))=aC:=hok;rw[aG,aG,dM] at hok;obtain ⟨h1,h2,h3⟩:=hok;have e1:pO n i=ay:=by
  grind [pO]
 have e2:kE n i g h=aC:=by
  unfold kE Go.AL.Ui at h2 ⊢;cases hs:Go.AL.GV (fun k=>Go.AL.OI (bf (α:=Go.AL.Oj) g k)) 0 n with
  |some x=>simp_all |none=>
   rw[hs] at h2;simp only[Option.isNone_iff_eq_none] at h2 ⊢;exact Go.AL.ahY fun j a b=>Go.AL.Qz h2 j a (by omega)
 have sp:=Go.AL.take_split (p:=bf h) i (m - i) 0 jw;rw[show i+(m - i)=m by omega] at sp;have e3:jy i (bf h)=aC/\(o9 i (bf h)).rs.length<=(o9 m (bf h)).rs.length:=by
  unfold jy o9 vY;unfold jy vY at h3;cases hi':vZ (bf h) jw 0 i with
  |inr x=>
   simp_all
  |inl σ=>
   rw[hi'] at sp;refine ⟨rfl,?_⟩;cases hm:vZ (bf h) jw 0 m with
   |inr x=>grind |inl σ'=>
    rw[hm] at sp;exact Go.AL.take_len _ _ _ _ sp.symm
 refine ⟨?_,e3.2⟩;show (!Go.AL.Gg n i&&(kE n i g h&&jy i (bf h)))=aC;simp_all
theorem aqM{i:Nat}(hi:i<=m):D7 (i:Int) m=i:=by unfold D7;omega
theorem afl(hok:(zX n g m h).okb=aC):n<=8/\m<=400:=by
 have hok:(!Go.AL.Gg n m&&(kE n m g h&&jy m (bf h)))=aC:=hok;simp_all [aG,pO]
end
noncomputable def opB(s:Sh)(mo:Int):Bool:=hpB s&&((Vu s).okb&&(decide ((Vu s).n<=12)&&Gz mo))
noncomputable def Yw(s:Sh)(mo:Int):Bool:=!((IL s mo).1==2)
noncomputable def oyB(s:Sh)(mo:Int):Bool:=(IL s mo).1==0
noncomputable def oaN(s:Sh)(mo:Int):Nat:=if (IL s mo).1=0 then (IL s mo).2.1 else 0
noncomputable def oaF(s:Sh)(mo:Int):Nat->List Sh:=if (IL s mo).1=0 then alF s mo else fun _=>[]
noncomputable def oiI(s:Sh)(mo:Int):Int:=if (IL s mo).1=0 then 0 else ((IL s mo).2.1:Nat)
noncomputable def ocI(s:Sh)(mo:Int):Int:=(IL s mo).2.2
theorem Yx(ok yes:Nat->Bool)(cnt:Nat->Int):∀r i p,(KT ok yes cnt r i p).1<=2
 |0,i,p=>fK _ |r+1,i,p=>by
  rw[KT];cases ok i with
  |false=>simp |true=>cases yes i with
   |false=>simp |true=>exact Yx ok yes cnt r (i+1) _
end Go.Pl
namespace Go.Proofs
open Go Go.Sx Go.Pl Go.Gm Go.Bf
noncomputable def aqN:List Sh->Tree Sh
 |[s,t]=>match Ak t with
  |some mo=>.need (opB s mo) (.node (Yw s mo) (.leaf (.zQ [.agg [.b (oyB s mo),.sl 2 0 (fun _=>[]),.sl 1 (oaN s mo) (oaF s mo),.i .i64 (oiI s mo),.i .i64 (ocI s mo)],.v .nilIface]))
    (.leaf (.zQ [.agg [.b ay,.sl 2 0 (fun _=>[]),.sl 1 0 (fun _=>[]),.i .i64 0,.i .i64 0],.er 0 329])))
  |none=>.fail
 |_=>.fail
section
variable{H0:Mem}{w0:World}{φ:Sh->Prop}{o m:Nat}{og mg:Nat->List Sh}{mo:Int}{l l2:Nat}
theorem acd{y:Bool}{a a':Sh}{i p:Int}{e:Sh}(ha:Wk a a')(he:Wk e e):Wk (vdS y a i p e) (.zQ [.agg [.b y,.sl 2 0 (fun _=>[]),a',.i .i64 i,.i .i64 p],e]):=
 ⟨⟨.inl rfl,.inl ⟨rfl,rfl⟩,ha,rfl,rfl,trivial⟩,he,trivial⟩
theorem ahZ(P:JZ o og m mg)(hok:(zX o og m mg).okb=aC)(hn:(zX o og m mg).n<=12)(hmo:Gz mo=aC):∀r i p gg,i+r=m+1->1<=i->(∀k,k<i->gg k=alF (hsS o og m mg) mo k)->φ (oqS (hsS o og m mg) mo (oqR (hsS o og m mg) mo r i p))->
  Df aA (C7 zG W7 G5 zW) (K0 H0 w0) 106 aK OM (L106 o m og mg mo l l2 i gg ay (.sym .i64 p) (i:Nat)) (s80 l l2) (up φ)
 |0,i,p,gg,hi,h1,hg,hφ=>by
  have no {X:Prop} (c:zG.le (i:Int) (zG.Aa m)=aC):X:=by grind [Dy,Ad]
  exact ahX (fun c=>no c) (fun c=>no c) (fun c=>no c) (fun c=>no c) (fun c=>no c) (fun c=>no c) (fun _=>AB (acd (a':=.sl 1 i (alF (hsS o og m mg) mo)) (.inr ⟨rfl,rfl,hg⟩) rfl) hφ)
 |r+1,i,p,gg,hi,h1,hg,hφ=>by
  have fw:=afl hok;have hle:i<=m:=by omega
  have no {X:Prop} (c:zG.le (i:Int) (zG.Aa m)=ay):X:=by simp_all [Dy,Ad]
  have ep:D7 (i:Int) m=i:=aqM hle;obtain ⟨k1,k2⟩:=TP hok hle;have ga:gaB (.agg [.sl 2 o og,.sl 8 (D7 (i:Int) m) mg]) 3 mo=aC:=by
   rw[ep];exact ajN (P.pre hle) (by decide) hmo (by show ((zX o og i mg).okb&&decide ((zX o og i mg).n<=12))=aC;grind)
  have pf:pfB o (i:Int) m=aC:=by
   unfold pfB;rw[ep,aG];exact ⟨room_le (by omega) (by omega),room_le (by omega) (by omega)⟩
  rw[oqR,KT] at hφ;have nx:=ahZ P hok hn hmo r (i+1) (zG.max p (J3 (Nw (hsS o og m mg) i) 3 mo)) (zG.snoc gg i (Af [[.sl 2 (Vs (.agg [.sl 2 o og,.sl 8 i mg]) 3 mo) (zH (Vt (.agg [.sl 2 o og,.sl 8 i mg]) 3 mo))]])) (by omega) (by omega) (fun k hk=>by
   rw[Ef];split
   ·simp_all
   ·have:k=i:=by omega
    subst this;rw[pF];rfl)
  refine ahX (fun _=>pf) (fun _=>ga) (fun _ c2 c3=>?_) (fun _ _ _=>room_le (by rw[Cj];omega) (by omega)) (fun _ c2 c3=>?_) (fun _ c2=>?_) (fun c=>no c);all_goals rw[ep] at *
  ·have e2:GH (Nw (hsS o og m mg) i) 3 mo=aC:=c2
   have e3:Gq (Nw (hsS o og m mg) i) 3 mo=ay:=c3;rw[e2,e3] at hφ;exact AB (acd (a':=.sl 1 0 (fun _=>[])) (.inl ⟨rfl,rfl⟩) rfl) hφ
  ·have e2:GH (Nw (hsS o og m mg) i) 3 mo=aC:=c2
   have e3:Gq (Nw (hsS o og m mg) i) 3 mo=aC:=c3;rw[e2,e3] at hφ;have e4:zG.add .i64 (i:Int) 1=((i+1:Nat):Int):=add1 (by omega);rw[e4];exact nx hφ
  ·have e2:GH (Nw (hsS o og m mg) i) 3 mo=ay:=c2
   rw[e2] at hφ;exact AB (acd (a':=.sl 1 0 (fun _=>[])) (.inl ⟨rfl,rfl⟩) rfl) hφ
end
open Go Go.Sx Go.Pl Go.Gm Go.Bf
theorem O48:zZ aA (Ar W7) 48 aqN:=by
 intro H w Aq args φ hon hgl hr hφ;unfold aqN at hφ;split at hφ
 ·rename_i s t
  split at hφ
  ·rename_i mo e1
   obtain ⟨q1,q2,q3⟩:=hφ;unfold opB at q1;simp only[aG,decide_eq_true_eq] at q1;obtain ⟨b1,b2,b3,b4⟩:=q1;have b1':=b1;obtain ⟨o,og,m,mg,rfl,P⟩:=@of_decide_eq_true _ (aX _) b1;have hok:(zX o og m mg).okb=aC:=b2;have hn:(zX o og m mg).n<=12:=b3;have fw:=afl hok;have hφ:φ (oqS (hsS o og m mg) mo (IL (hsS o og m mg) mo)):=by
    have hk:=Yx (fun i=>GH (Nw (hsS o og m mg) i) 3 mo) (fun i=>Gq (Nw (hsS o og m mg) i) 3 mo) (fun i=>J3 (Nw (hsS o og m mg) i) 3 mo) (evN (hsS o og m mg)+1) 0 0;have hk:(IL (hsS o og m mg) mo).1<=2:=hk;unfold Yw oyB oaN oaF oiI ocI at q2;unfold Yw at q3;unfold oqS;generalize IL (hsS o og m mg) mo=x at *;obtain ⟨a,b,c⟩:=x;match a,hk with
    |0,_=>exact q2 rfl |1,_=>exact q2 rfl |2,_=>exact q3 rfl
   match args,hr with
   |[a0,a1],⟨r0,r1,_⟩=>
   have h69:kZ.ntmps=69:=by kernel_rfl
   refine Ja (C:=C7 zG W7 G5 zW) (bY _ _) (fn:=kZ) (C9:=[hsS o og m mg,.i .i64 mo]) (L:=L0) (by kernel_rfl) (by kernel_rfl) hon hgl ⟨r0,Dn e1 r1,trivial⟩ (aqL ?_);rw[h69];have mo2:1<=mo/\mo<=65536:=by
    simp_all [Gz]
   have tk:tkB (hsS o og m mg)=aC:=by simp_all [tkB]
   have e0:D7 0 m=0:=aqM (i:=0) (fK _);obtain ⟨k1,k2⟩:=TP hok (i:=0) (fK _);have ga:gaB (.agg [.sl 2 o og,.sl 8 (D7 0 m) mg]) 3 mo=aC:=by
    rw[e0];exact ajN (P.pre (fK _)) (by decide) b4 (by show ((zX o og 0 mg).okb&&decide ((zX o og 0 mg).n<=12))=aC;grind)
   have pf:pfB o 0 m=aC:=by
    unfold pfB;rw[e0,aG];exact ⟨room_le (by omega) (by omega),room_le (by omega) (by omega)⟩
   have cl:clB o m=aC:=by
    unfold clB;rw[aG];exact ⟨room_le (by omega) (by omega),room_le (by omega) (by omega)⟩
   have start (l l2:Nat):Df aA (C7 zG W7 G5 zW) (K0 H w) 106 aK OM (L106 o m og mg mo l l2 0 (fun _=>[]) aC (.int .i64 0) 0) (s80 l l2) (up φ):=by
    have hx:IL (hsS o og m mg) mo=oqR (hsS o og m mg) mo (m+1) 0 0:=rfl;rw[hx,oqR,KT] at hφ;have axS {X:Prop} (c:zG.le 0 (zG.Aa m)=ay):X:=by simp[Dy,Ad] at c
    refine amF pf ga (fun c2 c3=>?_) (fun c2 c3=>?_) (fun c2=>?_) (fun c=>axS c);all_goals rw[e0] at *
    ·have e2:GH (Nw (hsS o og m mg) 0) 3 mo=aC:=c2
     have e3:Gq (Nw (hsS o og m mg) 0) 3 mo=ay:=c3;rw[e2,e3] at hφ;exact AB (acd (a':=.sl 1 0 (fun _=>[])) (.inl ⟨rfl,rfl⟩) rfl) hφ
    ·have e2:GH (Nw (hsS o og m mg) 0) 3 mo=aC:=c2
     have e3:Gq (Nw (hsS o og m mg) 0) 3 mo=aC:=c3;rw[e2,e3] at hφ;exact ahZ P hok hn b4 m 1 _ _ (by omega) (by omega) (fun k hk=>by
      obtain rfl:k=0:=by omega
      rfl) hφ
    ·have e2:GH (Nw (hsS o og m mg) 0) 3 mo=ay:=c2
     rw[e2] at hφ;exact AB (acd (a':=.sl 1 0 (fun _=>[])) (.inl ⟨rfl,rfl⟩) rfl) hφ
   have ph3 (l l2:Nat):Df aA (C7 zG W7 G5 zW) (K0 H w) 106 aK [.code []] {L80 o m og mg mo l with tm:=(.val (yv l2)::[.ptr 6 0])++dL (18 - (1+1)) .any} (s80 l l2) (up φ):=by
    refine E5 (bY _ _) (Vx _) ahW (pause:=FP) (m:=300) (n:=800) (ts:=[⟨106,aK,OM,L106 o m og mg mo l l2 0 (fun _=>[]) aC (.int .i64 0) 0,s80 l l2⟩]) ?_;exact ahU (by kernel_rfl) (start l l2) (by kernel_rfl)
   have axT (l:Nat):Df aA (C7 zG W7 G5 zW) (K0 H w) 80 aK (.code ahT::k80) (L80 o m og mg mo l) (s48 l) (up φ):=by
    refine Qg (bY _ _) (Vx _) (fn:=oz) (EF:=pI) (g2:=106) (caps:=[.ptr 6 0]) (by kernel_rfl) (x:=.tmp 9) (ps:=#[10,11]) (ca:=Ai (zS oz) (0::ahT)) (cb:=Ai (zS oz) (1::ahT)) (by kernel_rfl) (by kernel_rfl) (by kernel_rfl) (by kernel_rfl) fun l2=>?_
    have h18:pI.ntmps=18:=by kernel_rfl
    rw[h18];exact ph3 l l2
   have ph2 (l:Nat):Df aA (C7 zG W7 G5 zW) (K0 H w) 80 aK [.code []] {L48 o m og mg mo with tm:=(.val (yv l)::[.ptr 3 0,.ptr 4 0])++dL (29 - (1+2)) .any} (s48 l) (up φ):=by
    refine E5 (bY _ _) (Vx _) ahW (pause:=FP) (m:=300) (n:=800) (ts:=[⟨80,aK,.code ahT::k80,L80 o m og mg mo l,s48 l⟩]) ?_;exact ahU (by kernel_rfl) (an cl (axT l)) (by kernel_rfl)
   refine E5 (bY _ _) (Vx _) ahW (pause:=FP) (m:=300) (n:=800) (ts:=[⟨48,aK,.code ahS::k48,L48 o m og mg mo,[]⟩]) ?_;have ph1:Df aA (C7 zG W7 G5 zW) (K0 H w) 48 aK (.code ahS::k48) (L48 o m og mg mo) [] (up φ):=by
    refine Qg (bY _ _) (Vx _) (fn:=kZ) (EF:=oz) (g2:=80) (caps:=[.ptr 3 0,.ptr 4 0]) (by kernel_rfl) (x:=.tmp 36) (ps:=#[37,38]) (ca:=Ai (zS kZ) (0::ahS)) (cb:=Ai (zS kZ) (1::ahS)) (by kernel_rfl) (by kernel_rfl) (by kernel_rfl) (by kernel_rfl) fun l=>?_
    have h29:oz.ntmps=29:=by kernel_rfl
    rw[h29];exact ph2 l
   have n1 {X:Prop} (c:zG.lt mo 1=aC):X:=by grind [zN]
   have n2 {X:Prop} (c:zG.lt 65536 mo=aC):X:=by grind [zN]
   have n3 {X:Prop} (c:zG.lt 12 (zG.Aa (tnN (hsS o og m mg)))=aC):X:=by
    grind [tnN,hsS,zN,Ad]
   exact ahU (by kernel_rfl) (nd (zG.lt mo 1) (fun c=>(n1 c:up φ (vdS ay (.sl 0 0 (fun _=>[])) 0 0 (.er 4 329)))) (fun _=>nd (zG.lt 65536 mo) (fun c=>(n2 c:up φ (vdS ay (.sl 0 0 (fun _=>[])) 0 0 (.er 4 329)))) (fun _=>an tk (nd (zG.lt 12 (zG.Aa (tnN (hsS o og m mg)))) (fun c=>(n3 c:up φ (vdS ay (.sl 0 0 (fun _=>[])) 0 0 (.er 1 329)))) (fun _=>ph1))))) (by kernel_rfl)
  ·exact hφ.elim
 ·exact hφ.elim
end Go.Proofs
namespace Go.Pl
open Go Go.Sx Go.Proofs Go.Gm Go.Bf
noncomputable def juB(s:Sh)(lv mo:Int):Bool:=opB s mo&&decide (1<=lv/\lv<=4)
noncomputable def KD(s:Sh)(lv mo:Int):Bool:=if lv=4 then Yw s mo else GH s lv mo
noncomputable def LJ(s:Sh)(lv mo:Int):Bool:=if lv=4 then oyB s mo else Gq s lv mo
noncomputable def jsN(s:Sh)(lv mo:Int):Nat:=if lv=4 then 0 else Vs s lv mo
noncomputable def jsF(s:Sh)(lv mo:Int):Nat->Qr:=if lv=4 then fun _=>default else Vt s lv mo
noncomputable def jaN(s:Sh)(lv mo:Int):Nat:=if lv=4 then oaN s mo else 0
noncomputable def jaF(s:Sh)(lv mo:Int):Nat->List Sh:=if lv=4 then oaF s mo else fun _=>[]
noncomputable def FW(s:Sh)(lv mo:Int):Int:=if lv=4 then oiI s mo else 0
noncomputable def jcI(s:Sh)(lv mo:Int):Int:=if lv=4 then ocI s mo else J3 s lv mo
noncomputable def jeB(k:Nat)(s:Sh)(lv mo:Int):Bool:=hpB s&&(decide (1<=lv/\lv<=4)&&(if k=4 then !Gz mo else Gz mo&&(!(CY s 1).okb&&(if k=0 then (CY s 1).Gy else !(CY s 1).Gy&&(CY s 1).e==k))))
noncomputable def jxI(s:Sh):Int:=(CY s 1).pos
noncomputable def jxN(s:Sh):Nat:=(CY s 1).e
end Go.Pl
namespace Go.Proofs
open Go Go.Sx Go.Pl Go.Gm Go.Bf
noncomputable def ZV:Nat->Option (List Sh->Tree Sh)
 |15=>ak ala |48=>ak aqN |_=>aK
def Ua(e:Sh):Sh:=.zQ [.agg [.b ay,.sl 2 0 (fun _=>[]),.sl 1 0 (fun _=>[]),.i .i64 0,.i .i64 0],e]
theorem LM{e:Sh}(he:Wk e e):Wk (.zQ [.agg [.b ay,.sl 0 0 (fun _=>[]),.sl 0 0 (fun _=>[]),.i .i64 0,.i .i64 0],e]) (Ua e):=
 ⟨⟨.inl rfl,.inl ⟨rfl,rfl⟩,.inl ⟨rfl,rfl⟩,rfl,rfl,trivial⟩,he,trivial⟩
noncomputable def adX:List Sh->Tree Sh
 |[s,t,u]=>match Ak t,Ak u with
  |some lv,ak mo=>.need (juB s lv mo) (.node (KD s lv mo) (.leaf (.zQ [.agg [.b (LJ s lv mo),.sl 2 (jsN s lv mo) (zH (jsF s lv mo)),.sl 1 (jaN s lv mo) (jaF s lv mo),.i .i64 (FW s lv mo),.i .i64 (jcI s lv mo)],.v .nilIface]))
    (.leaf (.zQ [.agg [.b ay,.sl 2 0 (fun _=>[]),.sl 1 0 (fun _=>[]),.i .i64 0,.i .i64 0],.er 0 329])))
  |_,_=>.fail
 |_=>.fail
theorem av1(stop:Nat->List Nat->Bool):AU aA (C7 zG W7 ZV stop):=kS (fun g F h=>by
 unfold ZV at h;grind [atp,O48]) fun g h=>by
 unfold ZV at h;split at h;all_goals first|(cases h;done) |kernel_rfl
theorem O26:zZ aA (Ar W7) 26 adX:=by
 intro H w Aq args φ hon hgl hr hφ;unfold adX at hφ;split at hφ
 ·rename_i s t u
  split at hφ
  ·rename_i lv mo e1 e2
   obtain ⟨q1,q2,q3⟩:=hφ;unfold juB at q1;rw[aG,decide_eq_true_eq] at q1;obtain ⟨q1,hlv⟩:=q1;have hop:=q1;unfold opB at q1;simp only[aG,decide_eq_true_eq] at q1;obtain ⟨b1,b2,b3,b4⟩:=q1;obtain ⟨o,og,m,mg,rfl,P⟩:=@of_decide_eq_true _ (aX _) b1;have hb (l:Int):(CY (hsS o og m mg) l).okb=aC:=by
    show ((zX o og m mg).okb&&decide ((zX o og m mg).n<=12))=aC;rw[show (zX o og m mg).okb=aC from b2,decide_eq_true (show (zX o og m mg).n<=12 from b3)];rfl
   match args,hr with
   |[a0,a1,a2],⟨r0,r1,r2,_⟩=>
   refine Ja (C:=C7 zG W7 ZV zW) (bY _ _) (fn:=qJ) (C9:=[hsS o og m mg,.i .i64 lv,.i .i64 mo]) (L:=L0) (by kernel_rfl) (by kernel_rfl) hon hgl ⟨r0,Dn e1 r1,Dn e2 r2,trivial⟩ ?_;have hn:qJ.ntmps=35:=by kernel_rfl
   refine Ey (bY _ _) (av1 _) (hold:=AX) (m:=300) (n:=400) (ts:=[]) ?_;rw[hn];have bud (c:KD (hsS o og m mg) lv mo=ay):up φ (.zQ [.agg [.b ay,.sl 0 0 (fun _=>[]),.sl 0 0 (fun _=>[]),.i .i64 0,.i .i64 0],.er 0 329]):=AB (LM rfl) (q3 c);have is4 (c:zG.eq lv 4=aC):lv=4:=by grind [Ac]
   have no4 (c:zG.eq lv 4=ay):lv≠4:=by grind [Ac]
   have a1 (c:zG.eq lv 4=aC) (c2:Yw (hsS o og m mg) mo=aC):up φ (.zQ [.agg [.b (oyB (hsS o og m mg) mo),.sl 2 0 (fun _=>[]),.sl 1 (oaN (hsS o og m mg) mo) (oaF (hsS o og m mg) mo),.i .i64 (oiI (hsS o og m mg) mo),.i .i64 (ocI (hsS o og m mg) mo)],.v .nilIface]):=by
    have e:=is4 c;have q:=q2 (by simp_all [KD]);unfold LJ jsN jsF jaN jaF FW jcI at q;rw[if_pos e,if_pos e,if_pos e,if_pos e,if_pos e,if_pos e,if_pos e] at q;exact AB (s':=.zQ [.agg [.b (oyB (hsS o og m mg) mo),.sl 2 0 (zH fun _=>(default:Qr)),.sl 1 (oaN (hsS o og m mg) mo) (oaF (hsS o og m mg) mo),.i .i64 (oiI (hsS o og m mg) mo),.i .i64 (ocI (hsS o og m mg) mo)],.v .nilIface]) ⟨⟨.inl rfl,.inl ⟨rfl,rfl⟩,.inr ⟨rfl,rfl,fun _ _=>rfl⟩,rfl,rfl,trivial⟩,rfl,trivial⟩ q
   have a2 (c:zG.eq lv 4=aC) (c2:Yw (hsS o og m mg) mo=ay):up φ (.zQ [.agg [.b ay,.sl 2 0 (fun _=>[]),.sl 1 0 (fun _=>[]),.i .i64 0,.i .i64 0],.er 0 329]):=
    AB (s':=Ua (.er 0 329)) ⟨⟨.inl rfl,.inl ⟨rfl,rfl⟩,.inl ⟨rfl,rfl⟩,rfl,rfl,trivial⟩,rfl,trivial⟩ (q3 (by simp_all [KD]))
   have a3 (c:zG.eq lv 4=ay) (c2:GH (hsS o og m mg) lv mo=aC):up φ (.zQ [.agg [.b (Gq (hsS o og m mg) lv mo),.sl 2 (Vs (hsS o og m mg) lv mo) (zH (Vt (hsS o og m mg) lv mo)),.sl 0 0 (fun _=>[]),.i .i64 0,.i .i64 (J3 (hsS o og m mg) lv mo)],.v .nilIface]):=by
    have e:=no4 c;have q:=q2 (by simp_all [KD]);unfold LJ jsN jsF jaN jaF FW jcI at q;rw[if_neg e,if_neg e,if_neg e,if_neg e,if_neg e,if_neg e,if_neg e] at q;exact AB (s':=.zQ [.agg [.b (Gq (hsS o og m mg) lv mo),.sl 2 (Vs (hsS o og m mg) lv mo) (zH (Vt (hsS o og m mg) lv mo)),.sl 1 0 (fun _=>[]),.i .i64 0,.i .i64 (J3 (hsS o og m mg) lv mo)],.v .nilIface]) ⟨⟨.inl rfl,.inr ⟨rfl,rfl,fun _ _=>rfl⟩,.inl ⟨rfl,rfl⟩,rfl,rfl,trivial⟩,rfl,trivial⟩ q
   have ga (c:zG.eq lv 4=ay):gaB (hsS o og m mg) lv mo=aC:=ajN P (by grind) b4 (hb lv);exact EI (nd (zG.eq lv 4) (fun c=>an hop (nd (Yw (hsS o og m mg) mo) (a1 c) (a2 c))) (fun c=>an (ga c) (nd (GH (hsS o og m mg) lv mo) (a3 c) (fun c2=>bud (by simp_all [KD]))))) (by kernel_rfl)
  ·exact hφ.elim
 ·exact hφ.elim
end Go.Proofs
namespace Go.Pl
open Go Go.Sx Go.Proofs Go.Gm Go.Bf
noncomputable def H6(s:Sh)(lv mo:Int):Nat:=if KD s lv mo=aC then (if LJ s lv mo=aC then 1 else 2) else 3
noncomputable def jvB(x:Nat)(s:Sh)(lv mo:Int):Bool:=juB s lv mo&&H6 s lv mo==x
noncomputable def lvF(s:Sh)(mo:Int):Nat->List Sh:=fun k=>[.i .i64 (H6 s (k+1:Nat) mo:Nat)]
end Go.Pl
namespace Go.Proofs
open Go Go.Sx Go.Pl
def LQ:List It:=[bF [0,1,0,1,1],bZ 0,bF [1,1,1]]
def alb:List It:=bF [0,0,1,0,1,1]::LQ
def alc(j:Nat)(gg:Nat->List Sh):Bool->SV×List (Nat×SB)
 |true=>(.zY,[]) |false=>(.gs 1,[(1,.own 3 1 j gg)])
def asG:Bool->Nat
 |true=>1 |false=>2
def SQ(o m:Nat)(og mg:Nat->List Sh)(mo:Int)(j:Nat)(gg:Nat->List Sh)(v:Bool)(i:Int):Core:=
 {tm:=FT 42 [(1,.sym .i64 mo),(2,.ptr 0 0),(6,(alc j gg v).1),(7,.sym .i64 i)],hp:=[(0,.box [.sh (.sl 2 o og),.sh (.sl 8 m mg)] 25)]++(alc j gg v).2,nx:=asG v,lim:=L0,tc:=[]}
noncomputable def aqR(x:Nat):List Sh->Tree Sh
 |[s,t,u]=>match Ak t,Ak u with
  |some lv,ak mo=>.need (jvB x s lv mo) (.leaf (match x with
   |1=>.zQ [.agg [.v (.bool aC),.sl 2 (jsN s lv mo) (zH (jsF s lv mo)),.sl 1 (jaN s lv mo) (jaF s lv mo),.i .i64 (FW s lv mo),.i .i64 (jcI s lv mo)],.v .nilIface] |2=>.zQ [.agg [.v (.bool ay),.sl 2 (jsN s lv mo) (zH (jsF s lv mo)),.sl 1 (jaN s lv mo) (jaF s lv mo),.i .i64 (FW s lv mo),.i .i64 (jcI s lv mo)],.v .nilIface] |_=>Ua (.er 0 329)))
  |_,_=>.fail
 |_=>.fail
noncomputable def QB(x:Nat):Nat->Option (List Sh->Tree Sh)
 |26=>ak (aqR x) |_=>aK
open Go.Gm Go.Bf
theorem axU(x:Nat):zZ aA (Ar W7) 26 (aqR x):=ahh O26 fun Aq φ hφ=>by
 unfold aqR at hφ;split at hφ
 ·rename_i s t u
  split at hφ
  ·rename_i lv mo e1 e2
   obtain ⟨q,hφ⟩:=hφ;unfold jvB H6 at q;rw[aG,beq_iff_eq] at q;obtain ⟨q1,q2⟩:=q;refine ⟨_,hφ,?_⟩;unfold adX;simp only[e1,e2];refine ⟨q1,fun c=>?_,fun c=>?_⟩
   ·rw[if_pos c] at q2
    cases hy:LJ s lv mo with
    |true=>
     rw[hy,if_pos rfl] at q2;subst q2;exact ⟨⟨.inr rfl,U7,U7,rfl,rfl,trivial⟩,rfl,trivial⟩
    |false=>
     rw[hy,if_neg (by simp)] at q2;subst q2;exact ⟨⟨.inr rfl,U7,U7,rfl,rfl,trivial⟩,rfl,trivial⟩
   ·rw[if_neg (by rw[c];simp)] at q2
    subst q2;exact ⟨⟨.inl rfl,.inl ⟨rfl,rfl⟩,.inl ⟨rfl,rfl⟩,rfl,rfl,trivial⟩,rfl,trivial⟩
  ·exact hφ.elim
 ·exact hφ.elim
theorem aqS(x:Nat)(stop:Nat->List Nat->Bool):AU aA (C7 zG W7 (QB x) stop):=kS (fun g F h=>by
 grind [QB,axU]) fun g h=>by
 unfold QB at h;split at h;all_goals first|(cases h;done) |kernel_rfl
section
variable{H0:Mem}{w0:World}{φ:Sh->Prop}{o m:Nat}{og mg:Nat->List Sh}{mo:Int}
theorem ald{x:Nat}(hx:x=1\/x=2\/x=3){i:Int}{j:Nat}{gg:Nat->List Sh}(hj:zG.room (zG.addN j 1) 8=aC)(hv:zG.le i 4=aC->jvB x (hsS o og m mg) i mo=aC)
  (nx:zG.le i 4=aC->Aw aA (C7 zG W7 noSpec zW) (K0 H0 w0) 25 LQ (SQ o m og mg mo (zG.addN j 1) (zG.snoc gg j (Af [[.i .i64 (x:Nat)]])) ay (zG.add .i64 i 1)) [] emp φ) (no:zG.le i 4=ay->φ (.zQ [.os 3 1 j gg,.v .nilIface])) :
  Aw aA (C7 zG W7 noSpec zW) (K0 H0 w0) 25 LQ (SQ o m og mg mo j gg ay i) [] emp φ:=by
 refine NU (s:=QB x) (stop:=zW) ?_;have nx:=fun c=>NU (s':=QB x) (stop':=zW) (nx c);refine G6 (fn:=qK) (tb:=alb) (by kernel_rfl) (by kernel_rfl) ?_;refine Ey (bY _ _) (aqS x _) (hold:=AX) (m:=300) (n:=400) (ts:=[⟨25,LQ,SQ o m og mg mo (zG.addN j 1) (zG.snoc gg j (Af [[.i .i64 (x:Nat)]])) ay (zG.add .i64 i 1),[]⟩]) ?_;have tm:=nd (zG.le i 4) (fun c=>an (hv c) (an hj (nx c))) no;rcases hx with rfl|rfl|rfl
 ·exact ab8 (by kernel_rfl) tm (by kernel_rfl)
 ·exact ab8 (by kernel_rfl) tm (by kernel_rfl)
 ·exact ab8 (by kernel_rfl) tm (by kernel_rfl)
theorem aqT{x:Nat}(hx:x=1\/x=2\/x=3)(hv:jvB x (hsS o og m mg) 1 mo=aC)
  (nx:Aw aA (C7 zG W7 noSpec zW) (K0 H0 w0) 25 LQ (SQ o m og mg mo 1 (Af [[.i .i64 (x:Nat)]]) ay (zG.add .i64 1 1)) [] emp φ) :
  Aw aA (C7 zG W7 noSpec zW) (K0 H0 w0) 25 LQ (SQ o m og mg mo 0 (fun _=>[]) aC 1) [] emp φ:=by
 refine NU (s:=QB x) (stop:=zW) ?_;have nx:=NU (s':=QB x) (stop':=zW) nx;refine G6 (fn:=qK) (tb:=alb) (by kernel_rfl) (by kernel_rfl) ?_;refine Ey (bY _ _) (aqS x _) (hold:=AX) (m:=300) (n:=400) (ts:=[⟨25,LQ,SQ o m og mg mo 1 (Af [[.i .i64 (x:Nat)]]) ay (zG.add .i64 1 1),[]⟩]) ?_;have tm:=nd (zG.le 1 4) (fun _=>an hv nx) (fun c=>(no2 c rfl:φ (.zQ [.sl 0 0 (fun _=>[]),.v .nilIface])));rcases hx with rfl|rfl|rfl
 ·exact ab8 (by kernel_rfl) tm (by kernel_rfl)
 ·exact ab8 (by kernel_rfl) tm (by kernel_rfl)
 ·exact ab8 (by kernel_rfl) tm (by kernel_rfl)
theorem adY(s:Sh)(lv mo:Int):H6 s lv mo=1\/H6 s lv mo=2\/H6 s lv mo=3:=by
 grind [H6]
theorem aqU{s:Sh}{lv:Int}(h:opB s mo=aC)(hl:1<=lv/\lv<=4):jvB (H6 s lv mo) s lv mo=aC:=by
 simp_all [jvB,juB,decide_eq_true]
theorem ale(h:opB (hsS o og m mg) mo=aC)(hφ:φ (.zQ [.sl 1 4 (lvF (hsS o og m mg) mo),.v .nilIface])):∀r i gg,i+r=4->1<=i->(∀k,k<i->gg k=lvF (hsS o og m mg) mo k)->
  Aw aA (C7 zG W7 noSpec zW) (K0 H0 w0) 25 LQ (SQ o m og mg mo i gg ay ((i+1:Nat):Int)) [] emp (up φ)
 |0,i,gg,hi,h1,hg=>by
  obtain rfl:i=4:=by omega
  have no {X:Prop} (c:zG.le ((4+1:Nat):Int) 4=aC):X:=by simp[Dy] at c
  exact ald (x:=1) (.inl rfl) (room_le (by rw[Cj];omega) (by omega)) (fun c=>no c) (fun c=>no c) (fun _=>AB (s':=.zQ [.sl 1 4 (lvF (hsS o og m mg) mo),.v .nilIface]) ⟨.inr ⟨rfl,rfl,hg⟩,rfl,trivial⟩ hφ)
 |r+1,i,gg,hi,h1,hg=>by
  have no {X:Prop} (c:zG.le ((i+1:Nat):Int) 4=ay):X:=by grind [Dy]
  have nx:=ale h hφ r (i+1) (zG.snoc gg i (Af [[.i .i64 (H6 (hsS o og m mg) ((i+1:Nat):Int) mo:Nat)]])) (by omega) (by omega) (fun k hk=>by
   rw[Ef];split
   ·simp_all
   ·have:k=i:=by omega
    subst this;rw[pF];rfl)
  have e:zG.add .i64 ((i+1:Nat):Int) 1=((i+1+1:Nat):Int):=add1 (by omega);exact ald (adY _ _ _) (room_le (by rw[Cj];omega) (by omega)) (fun _=>aqU h (by omega)) (fun _=>by rw[e];exact nx) (fun c=>no c)
end
noncomputable def alf:List Sh->Tree Sh
 |[s,t]=>match Ak t with
  |some mo=>.need (opB s mo) (.leaf (.zQ [.sl 1 4 (lvF s mo),.v .nilIface])) |none=>.fail
 |_=>.fail
theorem OLv:zZ aA (Ar W7) 25 alf:=by
 intro H w Aq args φ hon hgl hr hφ;unfold alf at hφ;split at hφ
 ·rename_i s t
  split at hφ
  ·rename_i mo e1
   obtain ⟨q1,hφ⟩:=hφ;have q2:=q1;unfold opB at q1;rw[aG] at q1;obtain ⟨o,og,m,mg,rfl,P⟩:=@of_decide_eq_true _ (aX _) q1.1;have hφ:φ (.zQ [.sl 1 4 (lvF (hsS o og m mg) mo),.v .nilIface]):=hφ;match args,hr with
   |[a0,a1],⟨r0,r1,_⟩=>
   refine Ja (C:=C7 zG W7 noSpec zW) (bY _ _) (fn:=qK) (C9:=[hsS o og m mg,.i .i64 mo]) (L:=L0) (by kernel_rfl) (by kernel_rfl) hon hgl ⟨r0,Dn e1 r1,trivial⟩ ?_;have hn:qK.ntmps=42:=by kernel_rfl
   refine Ey (bY _ _) (Kv _) (hold:=AX) (m:=300) (n:=400) (ts:=[⟨25,LQ,SQ o m og mg mo 0 (fun _=>[]) aC 1,[]⟩]) ?_;rw[hn];have l1:=ale (H0:=H) (w0:=w) q2 hφ 3 1 (Af [[.i .i64 (H6 (hsS o og m mg) 1 mo:Nat)]]) (by omega) (by omega) (fun k hk=>by
    obtain rfl:k=0:=by omega
    rfl)
   exact ab8 (by kernel_rfl) (aqT (adY _ 1 mo) (aqU q2 (by decide)) l1) (by kernel_rfl)
  ·exact hφ.elim
 ·exact hφ.elim
open Go Go.Sx Go.Pl Go.Gm Go.Bf
noncomputable def jeS(k:Nat)(s:Sh):Sh:=match k with
 |0=>.BM 109 (.pt [.i .i64 (jxI s),.er (jxN s) 329]) |k+1=>.er (k+1) 329
noncomputable def aqW(k:Nat):List Sh->Tree Sh
 |[s,t]=>match Ak t with
  |some mo=>.need (jeB k s 4 mo) (.leaf (Ua (jeS k s))) |none=>.fail
 |_=>.fail
noncomputable def aqX(k:Nat):List Sh->Tree Sh
 |[s,t,u]=>match Ak t,Ak u with
  |some lv,ak mo=>.need (jeB k s lv mo) (.leaf (Ua (jeS k s))) |_,_=>.fail
 |_=>.fail
noncomputable def Pz(F:List Sh->Tree Sh):Nat->Option (List Sh->Tree Sh)
 |20=>ak F |_=>aK
theorem asH{F:List Sh->Tree Sh}(hF:zZ aA (Ar W7) 20 F)(stop:Nat->List Nat->Bool):AU aA (C7 zG W7 (Pz F) stop):=kS (fun g F' h=>by
 grind [Pz]) fun g h=>by
 unfold Pz at h;split at h;all_goals first|(cases h;done) |kernel_rfl
def isK(k:Nat):Prop:=k=0\/k=1\/k=6\/k=4
theorem axW{k:Nat}(hk:isK k):zZ aA (Ar W7) 48 (aqW k):=by
 intro H w Aq args φ hon hgl hr hφ;unfold aqW at hφ;split at hφ
 ·rename_i s t
  split at hφ
  ·rename_i mo e1
   obtain ⟨q1,hφ⟩:=hφ;have hφ:φ (Ua (jeS k s)):=hφ;unfold jeB at q1;simp only[aG,decide_eq_true_eq] at q1;obtain ⟨b1,b2,b3⟩:=q1;have b1':=b1;obtain ⟨o,og,m,mg,rfl,P⟩:=@of_decide_eq_true _ (aX _) b1;match args,hr with
   |[a0,a1],⟨r0,r1,_⟩=>
   have h69:kZ.ntmps=69:=by kernel_rfl
   have go {F:List Sh->Tree Sh} (hF:zZ aA (Ar W7) 20 F) (hm:CQ (H8 aA (C7 zG W7 (Pz F) zW) (K0 H w) [] emp (up φ)) (AA (C7 zG W7 (Pz F) zW) AX 300 400 48 [.code []] (zL 69 [.agg [.sl 2 o og,.sl 8 m mg],.i .i64 mo] L0) [] [])) :
     Calls aA 48 [a0,a1].toArray w fun e w'=>∃v s H',e=.returned v/\φ s/\CV H w s v H' w':=by
    refine Ja (C:=C7 zG W7 (Pz F) zW) (bY _ _) (fn:=kZ) (C9:=[hsS o og m mg,.i .i64 mo]) (L:=L0) (by kernel_rfl) (by kernel_rfl) hon hgl ⟨r0,Dn e1 r1,trivial⟩ ?_;refine Ey (bY _ _) (asH hF _) (hold:=AX) (m:=300) (n:=400) (ts:=[]) ?_;assumption
   have E4 (c:Gz mo=ay):k=4:=yF fun h=>by
    simp_all
   have m1 (c:zG.lt mo 1=aC):Gz mo=ay:=by
    simp_all [Gz,zN,decide_eq_true_eq,decide_eq_false]
   have m2 (c:zG.lt 65536 mo=aC):Gz mo=ay:=by
    simp_all [Gz,zN,decide_eq_true_eq,decide_eq_false,Bool.and_false]
   have f4 (c:Gz mo=ay):up φ (.zQ [.agg [.b ay,.sl 0 0 (fun _=>[]),.sl 0 0 (fun _=>[]),.i .i64 0,.i .i64 0],.er 4 329]):=by
    have e:=E4 c;subst e;exact AB (LM rfl) hφ
   have m3 (c1:zG.lt mo 1=ay) (c2:zG.lt 65536 mo=ay):Gz mo=aC:=by
    simp_all [Gz,zN,decide_eq_false_iff_not,decide_eq_true]
   have tb (c1:zG.lt mo 1=ay) (c2:zG.lt 65536 mo=ay) (h4:k≠4):(CY (hsS o og m mg) 1).okb=ay/\(if k=0 then (CY (hsS o og m mg) 1).Gy else !(CY (hsS o og m mg) 1).Gy&&(CY (hsS o og m mg) 1).e==k)=aC:=by
    simp_all
   have tv0 (c1:zG.lt mo 1=ay) (c2:zG.lt 65536 mo=ay):k=0\/k=4->tvB 0 (hsS o og m mg)=aC:=fun h=>by
    rcases h with rfl|rfl
    ·obtain ⟨t1,t2⟩:=tb c1 c2 (by decide)
     have t2:(!(zX o og m mg).okb&&(zX o og m mg).Gy)=aC:=t2;simp_all [aG,tvB,Vu,hsS]
    simp_all
   have no4 {X:Prop} (c1:zG.lt mo 1=ay) (c2:zG.lt 65536 mo=ay) (h:k=4):X:=by
    simp_all
   rcases hk with rfl|rfl|rfl|rfl
   ·refine go (aqG 0) (EI (nd (zG.lt mo 1) (fun c=>f4 (m1 c)) (fun c1=>nd (zG.lt 65536 mo) (fun c=>f4 (m2 c)) (fun c2=>an (tv0 c1 c2 (.inl rfl)) (?x:up φ (.zQ [.agg [.b ay,.sl 0 0 (fun _=>[]),.sl 0 0 (fun _=>[]),.i .i64 0,.i .i64 0],.BM 109 (.pt [.i .i64 (tpI (hsS o og m mg)),.er (teN (hsS o og m mg)) 329])]))))) (by kernel_rfl))
    obtain ⟨t1,t2⟩:=tb c1 c2 (by decide);have t2:(!(zX o og m mg).okb&&(zX o og m mg).Gy)=aC:=t2;rw[aG,dM] at t2;have e:jxN (hsS o og m mg)=teN (hsS o og m mg):=by
     show (if (zX o og m mg).okb=aC then 1 else (zX o og m mg).e)=(zX o og m mg).e;grind
    have hφ:φ (Ua (.BM 109 (.pt [.i .i64 (tpI (hsS o og m mg)),.er (jxN (hsS o og m mg)) 329]))):=hφ;rw[e] at hφ;exact AB (LM rfl) hφ
   ·have big (c1:zG.lt mo 1=ay) (c2:zG.lt 65536 mo=ay):(zX o og m mg).okb=aC/\¬(zX o og m mg).n<=12:=by
     obtain ⟨t1,t2⟩:=tb c1 c2 (by decide);have t1:((zX o og m mg).okb&&decide ((zX o og m mg).n<=12))=ay:=t1;have t2:(!(!(zX o og m mg).okb&&(zX o og m mg).Gy)&&(if (zX o og m mg).okb=aC then 1 else (zX o og m mg).e)==1)=aC:=t2;grind [zX]
    have tk (c1:zG.lt mo 1=ay) (c2:zG.lt 65536 mo=ay):tkB (hsS o og m mg)=aC:=by
     unfold tkB;rw[b1'];exact (big c1 c2).1
    have hφ:φ (Ua (.er 1 329)):=hφ;exact go atr (EI (nd (zG.lt mo 1) (fun c=>f4 (m1 c)) (fun c1=>nd (zG.lt 65536 mo) (fun c=>f4 (m2 c)) (fun c2=>an (tk c1 c2) (nd (zG.lt 12 (zG.Aa (tnN (hsS o og m mg)))) (fun _=>AB (s:=.zQ [.agg [.b ay,.sl 0 0 (fun _=>[]),.sl 0 0 (fun _=>[]),.i .i64 0,.i .i64 0],.er 1 329]) (LM rfl) hφ) (fun c=>(by
     have:=(big c1 c2).2;have c:zG.lt 12 (zG.Aa (zX o og m mg).n)=ay:=c;grind [zN,Ad]:False)))))) (by kernel_rfl))
   ·have tv (c1:zG.lt mo 1=ay) (c2:zG.lt 65536 mo=ay):tvB 6 (hsS o og m mg)=aC:=by
     obtain ⟨t1,t2⟩:=tb c1 c2 (by decide);have t2:(!(!(zX o og m mg).okb&&(zX o og m mg).Gy)&&(if (zX o og m mg).okb=aC then 1 else (zX o og m mg).e)==6)=aC:=t2;cases hok:(zX o og m mg).okb with
     |true=>simp_all |false=>
      rw[hok] at t2;simp_all [tvB,Vu,hsS,zX]
    have hφ:φ (Ua (.er 6 329)):=hφ;exact go (aqG 6) (EI (nd (zG.lt mo 1) (fun c=>f4 (m1 c)) (fun c1=>nd (zG.lt 65536 mo) (fun c=>f4 (m2 c)) (fun c2=>an (tv c1 c2) (AB (s:=.zQ [.agg [.b ay,.sl 0 0 (fun _=>[]),.sl 0 0 (fun _=>[]),.i .i64 0,.i .i64 0],.er 6 329]) (LM rfl) hφ)))) (by kernel_rfl))
   ·have hφ:φ (Ua (.er 4 329)):=hφ
    exact go (aqG 6) (EI (nd (zG.lt mo 1) (fun c=>f4 (m1 c)) (fun c1=>nd (zG.lt 65536 mo) (fun c=>f4 (m2 c)) (fun c2=>(no4 c1 c2 rfl:tvB 6 (hsS o og m mg)=aC/\up φ (.zQ [.agg [.b ay,.sl 0 0 (fun _=>[]),.sl 0 0 (fun _=>[]),.i .i64 0,.i .i64 0],.er 6 329]))))) (by kernel_rfl))
  ·exact hφ.elim
 ·exact hφ.elim
theorem ZW{e:Sh}(he:Wk e e):Wk (.zQ [.agg [.b ay,.sl 2 0 (fun _=>[]),.sl 1 0 (fun _=>[]),.i .i64 0,.i .i64 0],e]) (Ua e):=
 ⟨⟨.inl rfl,.inl ⟨rfl,rfl⟩,.inl ⟨rfl,rfl⟩,rfl,rfl,trivial⟩,he,trivial⟩
noncomputable def Xo(k:Nat):Nat->Option (List Sh->Tree Sh)
 |15=>ak (aqF k) |48=>ak (aqW k) |_=>aK
theorem asI{k:Nat}(hk:isK k)(stop:Nat->List Nat->Bool):AU aA (C7 zG W7 (Xo k) stop):=kS (fun g F h=>by
 unfold Xo at h;grind [axL,axW]) fun g h=>by
 unfold Xo at h;split at h;all_goals first|(cases h;done) |kernel_rfl
theorem axX{k:Nat}(hk:isK k):zZ aA (Ar W7) 26 (aqX k):=by
 intro H w Aq args φ hon hgl hr hφ;unfold aqX at hφ;split at hφ
 ·rename_i s t u
  split at hφ
  ·rename_i lv mo e1 e2
   obtain ⟨q1,hφ⟩:=hφ;have hφ:φ (Ua (jeS k s)):=hφ;have q2:=q1;unfold jeB at q1;simp only[aG,decide_eq_true_eq] at q1;obtain ⟨b1,b2,b3⟩:=q1;have b1':=b1;obtain ⟨o,og,m,mg,rfl,P⟩:=@of_decide_eq_true _ (aX _) b1;match args,hr with
   |[a0,a1,a2],⟨r0,r1,r2,_⟩=>
   refine Ja (C:=C7 zG W7 (Xo k) zW) (bY _ _) (fn:=qJ) (C9:=[hsS o og m mg,.i .i64 lv,.i .i64 mo]) (L:=L0) (by kernel_rfl) (by kernel_rfl) hon hgl ⟨r0,Dn e1 r1,Dn e2 r2,trivial⟩ ?_;have hn:qJ.ntmps=35:=by kernel_rfl
   refine Ey (bY _ _) (asI hk _) (hold:=AX) (m:=300) (n:=400) (ts:=[]) ?_;rw[hn];have je (c:zG.eq lv 4=aC):jeB k (hsS o og m mg) 4 mo=aC:=by
    simp_all [Ac]
   have l3 (c:zG.eq lv 4=ay):1<=lv/\lv<=3:=by
    grind [Ac]
   have mk (h4:k≠4):Gz mo=aC/\(CY (hsS o og m mg) lv).okb=ay/\(if k=0 then (CY (hsS o og m mg) lv).Gy else !(CY (hsS o og m mg) lv).Gy&&(CY (hsS o og m mg) lv).e==k)=aC:=by
    rw[if_neg h4,aG,aG,dM] at b3;exact b3
   have ge (h4:k≠4) (c:zG.eq lv 4=ay):geB k (hsS o og m mg) lv mo=aC:=by
    simp_all [avO]
   rcases hk with rfl|rfl|rfl|rfl
   ·have e:Nv (hsS o og m mg) lv mo=jxN (hsS o og m mg):=by
     obtain ⟨x1,x2,_⟩:=mk (by decide);unfold Nv;rw[if_pos x1,if_neg (by rw[x2];simp)];rfl
    have hφ:φ (Ua (.BM 109 (.pt [.i .i64 (rpI (hsS o og m mg) lv mo),.er (jxN (hsS o og m mg)) 329]))):=hφ;have hφ2:=hφ;rw[<-e] at hφ2;exact EI (nd (zG.eq lv 4) (fun c=>an (je c) (AB (s:=.zQ [.agg [.b ay,.sl 2 0 (fun _=>[]),.sl 1 0 (fun _=>[]),.i .i64 0,.i .i64 0],jeS 0 (hsS o og m mg)]) (ZW rfl) hφ)) (fun c=>an (ge (by decide) c) (AB (s:=.zQ [.agg [.b ay,.sl 0 0 (fun _=>[]),.sl 0 0 (fun _=>[]),.i .i64 0,.i .i64 0],.BM 109 (.pt [.i .i64 (rpI (hsS o og m mg) lv mo),.er (Nv (hsS o og m mg) lv mo) 329])]) (LM rfl) hφ2))) (by kernel_rfl)
   ·have hφ:φ (Ua (.er 1 329)):=hφ
    exact EI (nd (zG.eq lv 4) (fun c=>an (je c) (AB (s:=.zQ [.agg [.b ay,.sl 2 0 (fun _=>[]),.sl 1 0 (fun _=>[]),.i .i64 0,.i .i64 0],.er 1 329]) (ZW rfl) hφ)) (fun c=>an (ge (by decide) c) (AB (s:=.zQ [.agg [.b ay,.sl 0 0 (fun _=>[]),.sl 0 0 (fun _=>[]),.i .i64 0,.i .i64 0],.er 1 329]) (LM rfl) hφ))) (by kernel_rfl)
   ·have hφ:φ (Ua (.er 6 329)):=hφ
    exact EI (nd (zG.eq lv 4) (fun c=>an (je c) (AB (s:=.zQ [.agg [.b ay,.sl 2 0 (fun _=>[]),.sl 1 0 (fun _=>[]),.i .i64 0,.i .i64 0],.er 6 329]) (ZW rfl) hφ)) (fun c=>an (ge (by decide) c) (AB (s:=.zQ [.agg [.b ay,.sl 0 0 (fun _=>[]),.sl 0 0 (fun _=>[]),.i .i64 0,.i .i64 0],.er 6 329]) (LM rfl) hφ))) (by kernel_rfl)
   ·have hφ:φ (Ua (.er 4 329)):=hφ
    have gm (c:zG.eq lv 4=ay):gmB (hsS o og m mg) lv mo=aC:=by
     rw[if_pos rfl] at b3;unfold gmB;rw[ajM P (l3 c),b3];rfl
    exact EI (nd (zG.eq lv 4) (fun c=>an (je c) (AB (s:=.zQ [.agg [.b ay,.sl 2 0 (fun _=>[]),.sl 1 0 (fun _=>[]),.i .i64 0,.i .i64 0],.er 4 329]) (ZW rfl) hφ)) (fun c=>an (gm c) (AB (s:=.zQ [.agg [.b ay,.sl 0 0 (fun _=>[]),.sl 0 0 (fun _=>[]),.i .i64 0,.i .i64 0],.er 4 329]) (LM rfl) hφ))) (by kernel_rfl)
  ·exact hφ.elim
 ·exact hφ.elim
end Go.Proofs
namespace Go.Gm
open Go.Bf
theorem adZ{α β:Type}{p:β->Bool}{q:α->Bool}{F:α->β}:∀{l:List α},(∀x∈l,p (F x)=q x)->(l.map F).find? p=(l.find? q).map F
 |[],_=>rfl |a::l,h=>by
  rw[jJ,vM,vM,h a dK];cases q a with
  |true=>rfl |false=>exact adZ fun x hx=>h x (dF _ hx)
section
variable{S S' κ κ':Type}[DecidableEq κ][DecidableEq κ']{g:Game S}{g':Game S'}{key:Nd S->κ}{key':Nd S'->κ'}{f:S'->S}{Q:Nd S'->Prop}
def Dq(f:S'->S)(nd:Nd S'):Nd S:=⟨nd.placed,f nd.st⟩
structure N8(g:Game S)(g':Game S')(f:S'->S)(Q:Nd S'->Prop):Prop where
 n:g.n=g'.n
 id:∀i,i<g'.n->g.id i=g'.id i
 com:∀i,i<g'.n->g.com i=g'.com i
 Oz:∀i,i<g'.n->g.Oz i=g'.Oz i
 mask:∀i,i<g'.n->g.mask i=g'.mask i
 all:g.all=g'.all
 run:∀nd,Q nd->∀i,i<g'.n->may g' nd.placed i=aC->g.run (f nd.st) i=(g'.run nd.st i).map f
 step:∀nd,Q nd->∀t∈next g' nd,Q t
theorem aqY(h:N8 g g' f Q)(p i:Nat)(hi:i<g'.n):may g p i=may g' p i:=by
 unfold may;rw[h.n,h.mask i hi]
theorem ajT(h:N8 g g' f Q){nd:Nd S'}(hq:Q nd){i:Nat}(hi:i<g'.n):EK g (Dq f nd) i=(EK g' nd i).map fun t=>(t.1,Dq f t.2):=by
 unfold EK;have e:may g (Dq f nd).placed i=may g' nd.placed i:=aqY h _ _ hi;rw[e];cases hm:may g' nd.placed i with
 |false=>rfl |true=>
  have hr:=h.run nd hq i hi hm;have hr:g.run (Dq f nd).st i=(g'.run nd.st i).map f:=hr;rw[if_pos rfl,if_pos rfl,hr,h.com i hi,h.Oz i hi,h.all,h.id i hi,List.map_append];have hs:((g'.run nd.st i).map f).isSome=(g'.run nd.st i).isSome:=by simp
  rw[hs];congr 1
  ·cases g'.com i<;>cases g'.run nd.st i<;>rfl
  ·split<;>rfl
theorem ace(h:N8 g g' f Q){nd:Nd S'}(hq:Q nd):turns g (Dq f nd)=(turns g' nd).map fun t=>(t.1,Dq f t.2):=by
 unfold turns;rw[h.n,List.map_flatMap,uN,uN];grind [List.map_congr_left,ajT]
theorem ad1(h:N8 g g' f Q){nd:Nd S'}(hq:Q nd):next g (Dq f nd)=(next g' nd).map (Dq f):=by
 unfold next;rw[ace h hq,qX,qX];rfl
theorem ad2(h:N8 g g' f Q)(nd:Nd S'):full g (Dq f nd)=full g' nd:=by unfold full;rw[h.n];rfl
variable(hk:∀x y,Q x->Q y->(key (Dq f x)=key (Dq f y)↔key' x=key' y))
include hk
theorem aqZ{o:List (Nd S')}(ho:∀x∈o,Q x){n:Nd S'}(hn:Q n):Jp key (o.map (Dq f)) (key (Dq f n))=Jp key' o (key' n):=by
 grind [Np]
theorem aq0{m:Nat}{o:List (Nd S')}(ho:∀x∈o,Q x){n:Nd S'}(hn:Q n):Gx key m (o.map (Dq f)) (Dq f n)=(Gx key' m o n).map (lg (Dq f)):=by
 unfold Gx;rw[aqZ hk ho hn,iy];grind
theorem ad3{m:Nat}:∀{l o:List (Nd S')},(∀x∈o,Q x)->(∀x∈l,Q x)->EJ key m (o.map (Dq f)) (l.map (Dq f))=(EJ key' m o l).map (lg (Dq f))
 |[],o,_,_=>rfl |n::l,o,ho,hl=>by
  rw[jJ,EJ,EJ,aq0 hk ho (hl n dK)];cases hp:Gx key' m o n with
  |none=>rfl |some o1=>exact ad3 (adC hp ho (hl n dK)) fun x hx=>hl x (dF _ hx)
theorem ah0(h:N8 g g' f Q){m:Nat}:∀{fu i:Nat} {o:List (Nd S')},(∀x∈o,Q x)->Lr key (next g) m fu (o.map (Dq f)) i=(Lr key' (next g') m fu o i).map (lg (Dq f))
 |0,_,_,_=>rfl |fu+1,i,o,ho=>by
  rw[Lr,Lr,iO];cases hi:o[i]? with
  |none=>rfl |some n=>
   have hn:=ho n (List.mem_of_getElem? hi);simp only[Option.map_some];rw[ad1 h hn,ad3 hk ho (h.step n hn)];cases hp:EJ key' m o (next g' n) with
   |none=>rfl |some o1=>exact ah0 h (TF hp ho (h.step n hn))
theorem QC(h:N8 g g' f Q):∀{r:List (Nd S')},(∀x∈r,Q x)->∀n,Q n->GY key (next g) (full g) (r.map (Dq f)) (key (Dq f n))=GY key' (next g') (full g') r (key' n)
 |[],_,_,_=>rfl |a::r,hr,n,hn=>by
  have ha:=hr a dK;have hr':=fun x hx=>hr x (dF a hx);rw[jJ,GY,GY];by_cases e:key' a=key' n
  ·rw[if_pos e,if_pos ((hk a n ha hn).2 e),ad2 h,ad1 h ha,List.any_map]
   congr 1;rw[Bool.eq_iff_iff,uO,uO];constructor
   ·intro ⟨t,ht,q⟩
    exact ⟨t,ht,by rw[<-QC h hr' t (h.step a ha t ht)];exact q⟩
   ·intro ⟨t,ht,q⟩
    exact ⟨t,ht,(QC h hr' t (h.step a ha t ht)).trans q⟩
  ·rw[if_neg e,if_neg (fun q=>e ((hk a n ha hn).1 q))]
   exact QC h hr' n hn
theorem ajU(h:N8 g g' f Q){s:S'}(hs:Q (start s))(m:Nat):EM g key (f s) m=(EM g' key' s m).map (lg (Dq f)):=by
 unfold EM;have:=ah0 hk h (m:=m) (fu:=m+1) (i:=0) (o:=[start s]) (fun x hx=>by
  simp_all)
 exact this
theorem alg(h:N8 g g' f Q){r:List (Nd S')}(hr:∀x∈r,Q x){n:Nd S'}(hn:Q n):U9 g key (r.map (Dq f)) (Dq f n)=U9 g' key' r n:=QC hk h hr n hn
theorem ah1(h:N8 g g' f Q){r:List (Nd S')}(hr:∀x∈r,Q x){s:S'}(hs:Q (start s)):Sj g key (f s) (r.map (Dq f))=Sj g' key' s r:=alg hk h hr hs
theorem acf(h:N8 g g' f Q){r:List (Nd S')}(hr:∀x∈r,Q x):∀fu (n:Nd S'),Q n->least g (U9 g key (r.map (Dq f))) fu (Dq f n)=least g' (U9 g' key' r) fu n
 |0,_,_=>rfl |fu+1,n,hn=>by
  rw[least,least,ad2 h,ace h hn];rw[adZ (p:=fun t=>U9 g key (r.map (Dq f)) t.2) (q:=fun t=>U9 g' key' r t.2) (F:=fun t=>(t.1,Dq f t.2)) fun t ht=>alg hk h hr (h.step n hn _ (fC.2 ⟨t,ht,rfl⟩))];cases hf:(turns g' n).find? fun t=>U9 g' key' r t.2 with
  |none=>rfl |some t=>
   have ht:=h.step n hn t.2 (fC.2 ⟨t,List.mem_of_find?_eq_some hf,rfl⟩);show (if full g' n=aC then [] else t.1::least g (U9 g key (r.map (Dq f))) fu (Dq f t.2))=_;rw[acf h hr fu t.2 ht]
theorem ajV(h:N8 g g' f Q){r:List (Nd S')}(hr:∀x∈r,Q x){s:S'}(hs:Q (start s)):Ls g key (f s) (r.map (Dq f))=Ls g' key' s r:=by
 unfold Ls;rw[ah1 hk h hr hs,h.n];split
 ·exact acf hk h hr _ _ hs
 ·rfl
omit hk in
end
end Go.Gm
namespace Go.Pl
open Go Go.Sx Go.Proofs Go.Gm Go.Bf
def Ht(l:List BK)(j:Nat):BK:=l.getD j Nc
def Vy(n:Nat):List BK->List Dd->Option (List BK)
 |l,[]=>ak l |l,d::r=>if d.ret=0 then Vy n l r else if Ym n (Ht l) d.obj d.op d.key d.val=aC then
   (if (Eh (Ht l d.obj.toNat) d.op d.key d.val).2.1=d.ret/\(Eh (Ht l d.obj.toNat) d.op d.key d.val).2.2=d.got then Vy n (l.set d.obj.toNat (Eh (Ht l d.obj.toNat) d.op d.key d.val).1) r else aK) else aK
def GX(n:Nat)(g0:SG)(l:List BK):SG:=fun j=>if j<n then Cb (Ht l j) else g0 j
def Ub(B:IG):Game (List BK) where
 n:=B.N
 id i:=(B.T i).id
 com i:=(B.T i).st==3||(B.T i).st==2
 Oz i:=!((B.T i).st==3)
 mask i:=(B.ms i).toNat
 run l i:=Vy B.k0 l (lst Dd (B.T i).k (B.T i).g)
 all:=B.lv==3
def Xp(nd:Nd (List BK)):Nat×List BK:=(nd.placed,nd.st)
section
variable{n:Nat}{g0:SG}
theorem ah2(l:List BK):∀j,j<n->GX n g0 l j=Cb (Ht l j):=fun _ hj=>if_pos hj
theorem aq1(l:List BK):∀j,j<n->DN n (GX n g0 l) j=Ht l j:=akC (ah2 l)
theorem amI(l:List BK)(k:Nat)(s:BK)(hk:k<l.length)(j:Nat):Ht (l.set k s) j=if j=k then s else Ht l j:=by
 grind [Ht]
theorem afr(n:Nat)(g0:SG):∀(dd:List Dd) (l:List BK) (i:Nat),l.length=n->
  match Vy n l dd with
  |some l'=>ES n (GX n g0 l) i dd=.inr (GX n g0 l')/\l'.length=n |none=>∃q,ES n (GX n g0 l) i dd=.inl q
 |[],l,i,hl=>⟨rfl,hl⟩ |d::dd,l,i,hl=>by
  unfold Vy ES;by_cases h0:d.ret=0
  ·rw[if_pos h0,if_pos h0]
   exact afr n g0 dd l (i+1) hl
  ·rw[if_neg h0,if_neg h0]
   have hok:TT n (GX n g0 l) d.obj d.op d.key d.val=Ym n (Ht l) d.obj d.op d.key d.val:=ab6 (aq1 l) _ _ _ _;rw[hok];by_cases h1:Ym n (Ht l) d.obj d.op d.key d.val=aC
   ·rw[if_pos h1,if_pos h1]
    obtain ⟨hi,_⟩:=ahM h1;have hi':0<=d.obj/\d.obj<n:=of_decide_eq_true hi;have hs:DN n (GX n g0 l) d.obj.toNat=Ht l d.obj.toNat:=aq1 l _ (by omega);have hr:ahf n (GX n g0 l) d.obj d.op d.key d.val=(Eh (Ht l d.obj.toNat) d.op d.key d.val).2.1:=by grind [ahf]
    have hgt:ahg n (GX n g0 l) d.obj d.op d.key d.val=(Eh (Ht l d.obj.toNat) d.op d.key d.val).2.2:=by grind [ahg]
    have hn:abt n (GX n g0 l) d.obj d.op d.key d.val=GX n g0 (l.set d.obj.toNat (Eh (Ht l d.obj.toNat) d.op d.key d.val).1):=by
     funext j;show (if Jm n d.obj=aC/\j=d.obj.toNat then Cb (Eh (DN n (GX n g0 l) d.obj.toNat) d.op d.key d.val).1 else GX n g0 l j)=if j<n then Cb (Ht (l.set d.obj.toNat _) j) else g0 j;rw[hs,amI _ _ _ (by omega)];by_cases e:j=d.obj.toNat
     ·simp_all
     ·rw[if_neg (fun q=>e q.2),if_neg e];rfl
    rw[hr,hgt,hn];by_cases h2:(Eh (Ht l d.obj.toNat) d.op d.key d.val).2.1=d.ret/\(Eh (Ht l d.obj.toNat) d.op d.key d.val).2.2=d.got
    ·rw[if_pos h2,if_pos h2]
     exact afr n g0 dd _ (i+1) (by simp_all)
    ·rw[if_neg h2,if_neg h2]
     exact ⟨_,rfl⟩
   simp_all
end
section
variable{lv:Int}{n:Nat}{og:Nat->List Sh}{B:Sr}
def QlP(lv:Int)(n:Nat)(og:Nat->List Sh)(B:Sr)(nd:Nd (List BK)):Prop:=nd.st.length=n/\QnP lv n og B (Dq (GX n (Hy og)) nd)
theorem ajW(nd:Nd (List BK))(hl:nd.st.length=n)(i:Nat):
  (Gb (Ba lv n og B)).run (GX n (Hy og) nd.st) i=((Ub (Ba lv n og B)).run nd.st i).map (GX n (Hy og))/\∀l',(Ub (Ba lv n og B)).run nd.st i=ak l'->l'.length=n:=by
 have h:=afr n (Hy og) (lst Dd ((Ba lv n og B).T i).k ((Ba lv n og B).T i).g) nd.st 0 hl;show (if TU n (GX n (Hy og) nd.st) ((Ba lv n og B).T i).k ((Ba lv n og B).T i).g=aC then ak (Oy n (GX n (Hy og) nd.st) ((Ba lv n og B).T i).k ((Ba lv n og B).T i).g) else aK)=(Vy n nd.st (lst Dd ((Ba lv n og B).T i).k ((Ba lv n og B).T i).g)).map (GX n (Hy og))/\∀l',Vy n nd.st (lst Dd ((Ba lv n og B).T i).k ((Ba lv n og B).T i).g)=ak l'->l'.length=n;unfold TU Oy U8 Yn;grind
theorem ZX(P:TbP n og B):N8 (Gb (Ba lv n og B)) (Ub (Ba lv n og B)) (GX n (Hy og)) (QlP lv n og B) where
 n:=rfl
 id _ _:=rfl
 com _ _:=rfl
 Oz _ _:=rfl
 mask _ _:=rfl
 all:=rfl
 run nd hq i _ _:=(ajW nd hq.1 i).1
 step nd hq t ht:=by
  have hG:=TN (lv:=lv) P;have hlen:t.st.length=n:=by
   unfold next turns at ht;obtain ⟨x,hx,rfl⟩:=fC.1 ht;obtain ⟨i,hi,hx⟩:=iL.1 hx;unfold EK at hx;split at hx
   ·rcases cZ.1 hx with hx|hx
    ·split at hx
     ·rename_i s e1 e2
      obtain rfl:x=_:=by simpa using hx
      exact (ajW (lv:=lv) (og:=og) (B:=B) nd hq.1 i).2 s e2
     ·cases hx
    ·split at hx
     ·obtain rfl:x=_:=by simpa using hx
      exact hq.1
     ·cases hx
   ·cases hx
  refine ⟨hlen,hG.step _ hq.2 _ ?_⟩;have key:N8 (Gb (Ba lv n og B)) (Ub (Ba lv n og B)) (GX n (Hy og)) (fun x=>x=nd/\x.st.length=n)\/True:=.inr trivial;unfold next turns at ht ⊢;obtain ⟨x,hx,rfl⟩:=fC.1 ht;obtain ⟨i,hi,hx⟩:=iL.1 hx;refine fC.2 ⟨(x.1,Dq (GX n (Hy og)) x.2),iL.2 ⟨i,hi,?_⟩,rfl⟩;have hr:=(ajW (lv:=lv) (og:=og) (B:=B) nd hq.1 i).1;unfold EK at hx ⊢;have em:may (Gb (Ba lv n og B)) (Dq (GX n (Hy og)) nd).placed i=may (Ub (Ba lv n og B)) nd.placed i:=rfl;rw[em];have hr':(Gb (Ba lv n og B)).run (Dq (GX n (Hy og)) nd).st i=((Ub (Ba lv n og B)).run nd.st i).map (GX n (Hy og)):=hr;rw[hr'];split at hx
  ·rename_i hm
   rw[if_pos hm];rcases cZ.1 hx with hx|hx
   ·refine List.mem_append_left _ ?_
    split at hx
    ·rename_i s e1 e2
     obtain rfl:x=_:=by simpa using hx
     rw[e2];have e1':(Gb (Ba lv n og B)).com i=aC:=e1;rw[e1'];exact rV.2 rfl
    ·cases hx
   ·refine List.mem_append_right _ ?_
    split at hx
    ·rename_i hc
     obtain rfl:x=_:=by simpa using hx
     have hc':(Gb (Ba lv n og B)).Oz i=aC/\((Gb (Ba lv n og B)).all=aC->(((Ub (Ba lv n og B)).run nd.st i).map (GX n (Hy og))).isSome=aC):=⟨hc.1,fun q=>by
      have:=hc.2 q;simp_all⟩
     rw[if_pos hc'];exact rV.2 rfl
    ·cases hx
  ·cases hx
theorem amJ{l l':List BK}(h1:l.length=n)(h2:l'.length=n)(h:∀j,j<n->Ht l j=Ht l' j):l=l':=by
 grind [List.ext_getElem,Ht,aV]
theorem ajX:∀x y,QlP lv n og B x->QlP lv n og B y->(BZ n (Dq (GX n (Hy og)) x)=BZ n (Dq (GX n (Hy og)) y)↔Xp x=Xp y):=fun x y hx hy=>by
 constructor
 ·intro h
  have e:=Yv _ _ hx.2 hy.2 h;obtain ⟨p,l⟩:=x;obtain ⟨p',l'⟩:=y;have e1:p=p':=congrArg Nd.placed e;have e2:GX n (Hy og) l=GX n (Hy og) l':=congrArg Nd.st e;have e3:l=l':=amJ hx.1 hy.1 fun j hj=>by
   have:=congrFun e2 j;grind [ah2,TA]
  rw[e1,e3]
 ·intro h
  obtain ⟨p,l⟩:=x;obtain ⟨p',l'⟩:=y;have h:(p,l)=(p',l'):=h;grind
def newL(n:Nat)(og:Nat->List Sh):List BK:=(aY n).map fun j=>newT (zJ og) j
theorem ajY:GX n (Hy og) (newL n og)=Hy og:=by
 funext j;unfold GX;split
 ·rename_i hj
  unfold Ht newL;rw[bQ,iO,rC hj];rfl
 ·rfl
theorem Xq(P:TbP n og B):QlP lv n og B (lK (newL n og)):=⟨by show (newL n og).length=n;unfold newL;simp,by
 have h:=(TN (lv:=lv) P).start;have e:Dq (GX n (Hy og)) (lK (newL n og))=⟨0,(Ba lv n og B).g0⟩:=by
  show (⟨0,GX n (Hy og) (newL n og)⟩:Nd SG)=⟨0,Hy og⟩;rw[ajY]
 grind⟩
end
open Go Go.Sx Go.Proofs Go.Gm Go.Bf
def ex(k t th o p v r:Int):List Sh:=[.i .i64 k,.i .i64 t,.i .i64 th,.i .i64 o,.i .i64 p,.i .i64 0,.i .i64 v,.i .i64 r]
def DW:Nat->List Sh:=Af [[.i .i64 1,.i .i64 0]]
def exL:List (List Sh):=[ex 1 1 0 0 0 0 0,ex 1 2 1 0 0 0 0,ex 2 1 0 0 1 0 0,ex 3 1 0 0 0 0 3,ex 2 2 0 0 1 0 0,ex 3 2 0 0 0 0 3,ex 2 1 0 0 2 1 0,ex 3 1 0 0 0 0 1,ex 2 2 0 0 2 2 0,ex 3 2 0 0 0 0 1,ex 4 1 0 0 0 0 0,ex 5 1 0 0 0 0 0,ex 4 2 0 0 0 0 0]
def FX:Nat->List Sh:=Af exL
def Ny:Nat->List Sh:=zG.snoc FX 13 (Af [ex 5 2 0 0 0 0 0])
section
variable{n m:Nat}{g h:Nat->List Sh}{lv:Int}
theorem av3(P:JZ n g m h)(hb:(CY (hsS n g m h) lv).okb=aC)(mo:Int):
  rsP (hsS n g m h) lv mo=(EM (Ub (CY (hsS n g m h) lv)) Xp (newL n g) mo.toNat).map (lg (Dq (GX n (Hy g))))/\
  ∀r,EM (Ub (CY (hsS n g m h) lv)) Xp (newL n g) mo.toNat=ak r->Gq (hsS n g m h) lv mo=Sj (Ub (CY (hsS n g m h) lv)) Xp (newL n g) r/\rtL (hsS n g m h) lv mo=(Ls (Ub (CY (hsS n g m h) lv)) Xp (newL n g) r).map Jy/\J3 (hsS n g m h) lv mo=((r.length:Nat):Int):=by
 have hT:((zX n g m h).okb&&decide ((zX n g m h).n<=12))=aC:=hb;rw[aG,decide_eq_true_eq] at hT;have T:=ajK P hT.1 hT.2;have hp:=ajU (key:=BZ n) (key':=Xp) (ajX (lv:=lv)) (ZX T) (Xq T) mo.toNat;rw[ajY] at hp;have e1:rsP (hsS n g m h) lv mo=(EM (Ub (CY (hsS n g m h) lv)) Xp (newL n g) mo.toNat).map (lg (Dq (GX n (Hy g)))):=hp;refine ⟨e1,fun r hr=>?_⟩;have hr':EM (Ub (Ba lv n g (zX n g m h))) Xp (newL n g) mo.toNat=ak r:=hr;have hq:∀x∈r,QlP lv n g (zX n g m h) x:=Pm (ZX T).step hr' (fun x hx=>by
  obtain rfl:x=lK (newL n g):=by simpa using hx
  exact Xq T)
 have eL:rsL (hsS n g m h) lv mo=r.map (Dq (GX n (Hy g))):=by unfold rsL;rw[e1,hr];rfl
 have hy:=ah1 (key:=BZ n) (key':=Xp) (ajX (lv:=lv)) (ZX T) hq (Xq T);have hs:=ajV (key:=BZ n) (key':=Xp) (ajX (lv:=lv)) (ZX T) hq (Xq T);rw[ajY] at hy hs;refine ⟨?_,?_,?_⟩
 ·unfold Gq;rw[eL];exact hy
 ·unfold rtL;rw[eL];exact congrArg (lg Jy) hs
 ·unfold J3;rw[eL,iy]
end
theorem exH:JZ 1 DW 13 FX:=⟨by kernel_rfl,by kernel_rfl,by kernel_rfl,by kernel_rfl⟩
theorem alh:JZ 1 DW 14 Ny:=⟨by kernel_rfl,by kernel_rfl,by kernel_rfl,by kernel_rfl⟩
theorem aq3:(CY (hsS 1 DW 13 FX) 1).okb=aC:=by kernel_rfl
theorem asJ:(CY (hsS 1 DW 14 Ny) 1).okb=aC:=by kernel_rfl
end Go.Pl
namespace Go.Sx
def Tree.way{α:Type}:Tree α->List AQ->Option (List AQ×α)
 | .leaf a,l=>ak (l,a) | .node b t f,l=>bif b then t.way l else f.way l | .need b t,l=>bif b then t.way l else aK | .must q t,l=>t.way (q++l) | .both _ _,_=>aK | .fail,_=>aK
theorem AQ.all_append:∀{l m:List AQ},cu (l++m)->cu l/\cu m
 |[],_,h=>⟨trivial,h⟩ |_::_,_,h=>let ⟨h1,h2⟩:=AQ.all_append h.2;⟨⟨h.1,h1⟩,h2⟩
theorem Tree.N9{α:Type}{φ:α->Prop}:∀{t:Tree α} {l q:List AQ} {a:α},t.way l=ak (q,a)->cu q->φ a->t.All φ/\cu l
 | .leaf _,_,_,_,h,hq,ha=>by cases h;exact ⟨ha,hq⟩ | .node b t f,l,q,a,h,hq,ha=>by
  cases b with
  |true=>exact ⟨⟨fun _=>(Tree.N9 (t:=t) h hq ha).1,fun e=>by cases e⟩,(Tree.N9 (t:=t) h hq ha).2⟩ |false=>exact ⟨⟨fun e=>(by cases e),fun _=>(Tree.N9 (t:=f) h hq ha).1⟩,(Tree.N9 (t:=f) h hq ha).2⟩
 | .need b t,l,q,a,h,hq,ha=>by
  cases b with
  |true=>exact ⟨⟨rfl,(Tree.N9 (t:=t) h hq ha).1⟩,(Tree.N9 (t:=t) h hq ha).2⟩ |false=>cases h
 | .must e t,l,q,a,h,hq,ha=>by
  have h1:=Tree.N9 (t:=t) (φ:=φ) h hq ha;have h2:=AQ.all_append h1.2;exact ⟨⟨h2.1,h1.1⟩,h2.2⟩
 | .both _ _,_,_,_,h,_,_=>by cases h | .fail,_,_,_,h,_,_=>by cases h
end Go.Sx
namespace Go.Pl
open Go Go.Sx
def ckR(α:Type)[xY α][DecidableEq α](n:Nat)(g:Nat->List Sh)(n0:Nat)(g0:Nat->List Sh):Bool:=ny α n g&&(Nat.beq n n0&&decide (nR α n g=nR α n0 g0))
end Go.Pl
namespace Go.Proofs
open Go Go.Sx Go.Pl
end Go.Proofs
namespace Go.Pl
open Go Go.Sx
theorem ZY{α:Type}[xY α][DecidableEq α]{n n0:Nat}{g g0:Nat->List Sh}(h:ckR α n g n0 g0=aC)(h0:ny α n0 g0=aC):n=n0/\∀j,j<n->g j=g0 j:=by
 unfold ckR at h;rw[aG,aG,decide_eq_true_eq] at h;obtain ⟨h1,h2,h3⟩:=h;obtain rfl:=Nat.eq_of_beq_eq_true h2;refine ⟨rfl,fun j hj=>?_⟩;rw[ou h1 j hj,ou h0 j hj];have e:∀(f:Nat->List Sh),(nR α n f)[j]?=ak (bf f j):=fun f=>by
  unfold nR;rw[iO,rC hj];rfl
 have e1:=e g;rw[h3,e g0] at e1;rw[dw e1]
end Go.Pl
namespace Go.Proofs
open Go Go.Sx Go.Pl Go.Gm
theorem Yy{H:Mem}{n m n0 m0:Nat}{o e o0 e0:Nat->List Sh}{v:Value}(h1:n=n0/\∀j,j<n->o j=o0 j)(h2:m=m0/\∀j,j<m->e j=e0 j)(hr:Rep H (.agg [.sl 2 n o,.sl 8 m e]) v):Rep H (hsS n0 o0 m0 e0) v:=by
 obtain ⟨rfl,h1⟩:=h1;obtain ⟨rfl,h2⟩:=h2;exact Lu hr ⟨fun _ r=>DZ r h1,fun _ r=>DZ r h2,trivial⟩
theorem TQ{P:Program}{gls:List (Nat×Sh)}{g:Nat}{F:List Sh->Tree Sh}(hF:zZ P gls g F){H:Mem}{w:World}{Aq:List Sh}{args:List Value}{φ:Sh->Prop}(hon:H.on w)(hg:BU gls H)(hr:CU H Aq args){s':Sh}(hφ:φ s')(h:(F Aq).All fun s=>Wk s s'):
  Calls P g args.toArray w fun e w'=>∃v s H',e=.returned v/\φ s/\CV H w s v H' w':=by
 refine (hF H w Aq args _ hon hg hr h).mono fun e w' ⟨v,s,H',he,hs,r⟩=>?_;obtain ⟨H2,r2⟩:=r.wk hs;exact ⟨v,s',H2,he,hφ,r2⟩
theorem ali:Gz 100=aC:=by kernel_rfl
theorem av4{P:Program}{C:Ctx}{K:Kx}{ts:List Lp}{R:Hp->Prop}{φ:Sh->Prop}{t:Tree DF}{q:List AQ}{s:Sh}(h:t.way []=ak (q,.ret s))(hq:cu q)(hs:φ s):CQ (H8 P C K ts R φ) t:=by
 rw[Nl];exact (Tree.N9 h hq hs).1
end Go.Proofs
