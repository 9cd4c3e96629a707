/- Own work. -/
import Derived.Test.YtldllpmodnbbiaaGreatDoorP08
open Int (ofNat)
open And renaming intro->eU
open Array renaming getElem?_eq_some_iff->bC
open Bool renaming true->ay,and_eq_true->aB,false->aA,eq_iff_iff->jK
open Classical renaming propDecidable->aI
open Go.IntKind renaming i64->bD
open Go.Proofs renaming W7->Af,akR->Ag,L0->jV
open Go.Proofs.C7 renaming OG->ig,ok->jD
open Go.Proofs.Tryz renaming prog->ak,f129->Ae,f130->pG,f82->oz,tys->lG,fns->mO,live->yO,tysB_->yP,fnsAre_->gI,mixed_->sD,entersB_->iR,f96->yQ,f94->qh,f95->yR,f75->iG,f107->Ah,f83->qA,f44->qE
open Go.Sx.BL renaming all->bZ,sh->aW,int->aC,nat->aZ,get->bY
open Go.Sx.C9 renaming ret->aN,at_->bU
open Go.Sx.It renaming code->aK,inBlock->aX
open Go.Sx.Sh renaming i->aQ,er->dP,sl->aG,DK->mP,pt->pJ,Az->bF,agg->bG
open Go.Sx.Tree renaming node->aP,leaf->aJ,need->aH
open Go.Value renaming nilIface->cZ
open Int renaming toNat_natCast->dA,ofNat->ah
open List renaming range->aU,all_eq_true->dh,mem_range->eF,getElem_mem->kS,map_congr_left->iJ,getElem?_eq_getElem->aV,getElem?_eq_some_iff->bf
open List.cons renaming inj->nI
open Nat renaming mul_le_mul_right->bW,beq->dK,sub_self->gK
open Option renaming some->aj,none->aF,isSome_iff_exists->dO
noncomputable section
namespace Go.Pl
open Go Go.Sx Go.Proofs
def ND(s:A8):Bool:=DN s.kind&&DN s.num&&s.q.all DN&&s.ps.all (fun p=>DN p.key&&DN p.val)&&decide (s.q.length<=100000/\s.ps.length<=100000)
def keysB(n:Nat)(d:Nat->A8):Bool:=decide (n<=1000)&&(aU n).all fun j=>ND (d j)
def ag7(l:List A8):List UInt8:=Eb (l.map keyS) [59,32]
def LK:Lk7 where
 key:=keyS
 join n g sep:=Eb (lst (List UInt8) n g) sep
theorem ali{s:A8}(h:ND s=ay):abI s.kind s.num (len s.q) (Am (nth s.q)) (len s.ps) (Am (nth s.ps))=ay:=by
 unfold ND at h;simp only[aB,ϟ] at h;obtain ⟨⟨⟨⟨h1,h2⟩,h3⟩,h4⟩,h5⟩:=h;unfold abI;simp only[aB,ϟ];refine ⟨⟨⟨⟨⟨⟨Cb _ _,Cb _ _⟩,h1⟩,h2⟩,?_⟩,?_⟩,h5⟩
 ·rw[H6]
  refine dh.2 fun j hj=>?_
  have hj:j<s.q.length:=eF.1 hj;simp_all [nth,dh,kS]
 ·rw[H6]
  refine dh.2 fun j hj=>?_
  have hj:j<s.ps.length:=eF.1 hj;simp_all [nth,dh,kS]
theorem anJ(s:A8):sQ s.kind s.num (len s.q) (Am (nth s.q)) (len s.ps) (Am (nth s.ps))=s:=by
 show (⟨s.kind,s.num,lst Int s.q.length (Am (nth s.q)),lst Pr s.ps.length (Am (nth s.ps))⟩:A8)=s;rw[Hy,Hy]
theorem alj{s:A8}(h:ND s=ay):(La s).length<=100001/\∀x∈La s,x.length<=50:=by
 unfold ND at h;simp only[aB,ϟ] at h;obtain ⟨⟨⟨⟨h1,h2⟩,h3⟩,h4⟩,h5⟩:=h;unfold La;refine ⟨?_,fun x hx=>?_⟩
 ·grind
 ·rcases List.mem_cons.1 hx with rfl|hx
  ·exact aea _
  ·split at hx
   ·grind [MR]
   ·split at hx
    ·grind [MR]
    grind [ag3]
theorem arj{s:A8}(h:ND s=ay):(keyS s).length<=6000000:=by
 obtain ⟨h1,h2⟩:=alj h;have h3:=aax (La s) [32] h2;grind [La,bW,keyS]
theorem alk{l:List A8}(hl:l.length<=1000)(h:∀s∈l,ND s=ay):JD (Eb (l.map keyS) [59,32])=ay:=by
 have h3:=aax (l.map keyS) [59,32] (m:=6000000) fun x hx=>by
  grind [arj]
 have h4:(l.map keyS).length*(6000000+[(59:UInt8),32].length)<=1000*6000002:=bW _ (by grind);exact ϱ (by omega)
end Go.Pl
namespace Go.Proofs
open Go Go.Sx Go.Pl
theorem aCT:AO ak (AZ W7) 105 (G35 LK):=O35.mono fun H Bl args φ hr h=>by
 unfold G35 at h;split at h
 ·split at h
  ·rename_i s2 s3 a hh b l hs2 hs3
   obtain ⟨h1,hφ⟩:=h;simp only[abI,aB] at h1;obtain ⟨⟨⟨⟨⟨⟨q1,q2⟩,q3⟩,q4⟩,q5⟩,q6⟩,q7⟩:=h1;simp only[F35,hs2,hs3];exact ⟨q1,q2,q3,q4,q5,q6,q7,hφ⟩
  ·exact h.elim
 ·exact h.elim
theorem aCU:AO ak (AZ W7) 106 (G56 LK):=fun H w Bl args φ on hg hr h=>by
 unfold G56 at h;split at h
 ·rename_i s0 sep
  split at h
  ·rename_i n g hs
   obtain ⟨h1,hφ⟩:=h;simp only[aed,aB] at h1;match args,hr with
   |[v,u],⟨hv,hu,_⟩=>exact O56 H w [.sl 1 n g,.str sep] [v,u] φ on hg ⟨Bz hs hv,hu,ϖ⟩ ⟨h1.1.1,h1.1.2,h1.2,hφ⟩
  ·exact h.elim
 ·exact h.elim
theorem O64:AO ak (AZ W7) 129 F64:=by
 refine CV (Ox Aw) 300 400 L0 Ae fun H w Bl args φ hrep h=>?_
 have hn:Ae.ntmps=10:=by kernel_rfl
 unfold F64 at h;split at h
 ·rename_i s0
  split at h
  ·rename_i n g hs
   obtain ⟨h1,hφ⟩:=h;match args,hrep with
   |[v],⟨hv,_⟩=>
    refine ⟨[.agg [.sl 4 n g]],⟨OW hv fun u hu=>Bz hs hu,ϖ⟩,?_⟩;rw[hn,a64 Ak W7 n g,Jp,QX,PL];exact ⟨le0 n,h1,h1,AY (s':=.sl 4 n g) (.inr ⟨rfl,rfl,fun _ _=>rfl⟩) hφ⟩
  ·exact h.elim
 ·exact h.elim
theorem OKs:∀g F,Oe LK g=aj F->AO ak (AZ W7) g F:=fun g F h=>by
 unfold Oe at h;grind [aCT,aCU,O64]
theorem alm(stop:Nat->List Nat->Bool):BJ ak (C7 Ak W7 (Oe LK) stop):=ig OKs fun g h=>by
 unfold Oe at h;split at h;all_goals first|(cases h;done) |kernel_rfl
theorem nd7:Qq mO=ay:=by kernel_rfl
def F32:ϵ
 |[.agg [s0]]=>match Dj 4 s0 with
  |some (n,g)=>.need (stB n g) (.need (keysB n (Ec n g)) (.leaf (.str (ag7 ((aU n).map (Ec n g)))))) |none=>.fail
 |_=>.fail
section
variable{H0:Mem}{w0:World}{φ:Sh->Prop}{n:Nat}{d:Nat->A8}
theorem apw(hn:n<=1000)(hd:∀j,j<n->ND (d j)=ay)(hφ:φ (.str (ag7 ((aU n).map d)))){l:Nat}:∀r k,k+r=n->0<k->
  Di ak (C7 Ak W7 (Oe LK) Aw) (K0 H0 w0) 130 aF WX (L63 n d l (k:Int) k (Am (nth (((aU k).map d).map keyS))) aA) (UF l) φ
 |r,k,hkr,h0=>by
  refine F6 (fn:=pG) (tb:=apv) (by kernel_rfl) (by kernel_rfl) ?_;refine F5 (jD _ _) (alm _) nd7 (pause:=GR) (m:=300) (n:=800) (ts:=[⟨130,aF,WX,L63 n d l ((k+1:Nat):Int) (k+1) (Am (nth (((aU (k+1)).map d).map keyS))) aA,UF l⟩]) ?_;refine (congrArg (Nq _) (aCS Ak W7 LK n d l k (k+1:Nat) k (k+1) (Am (nth (((aU k).map d).map keyS))) (Am (nth (((aU (k+1)).map d).map keyS))))).mpr ?_;rw[Jo];have hlen:(((aU k).map d).map keyS).length=k:=by simp
  simp only[Ar,AX,Cm,Ef,I7,dA,ad6];rw[anJ (d k)];refine ⟨fun h=>?_,fun h=>?_⟩
  ·have hlt:k<n:=by simp_all
   have hk:=ali (hd k hlt);have hr:Ak.room (k+1) 16=ay:=room_le (by omega) (by omega);have hin:decide (0<=(k:Int)/\(k:Int)<(n:Int))=ay:=by simp;omega
   have hw:bD.wrap ((k:Int)+1)=((k+1:Nat):Int):=by grind [CU]
   have hs:∀i,i<k+1->Ak.snoc (Am (nth (((aU k).map d).map keyS))) k (Bh [[.str (keyS (d k))]]) i=Am (nth (((aU (k+1)).map d).map keyS)) i:=fun i hi=>by
    have:=RS (((aU k).map d).map keyS) (keyS (d k)) (r:=[[.str (keyS (d k))]]) rfl i (by omega);simp_all [List.range_succ,List.map_append]
   have next:∃t:LY,([⟨130,aF,WX,L63 n d l ((k+1:Nat):Int) (k+1) (Am (nth (((aU (k+1)).map d).map keyS))) aA,UF l⟩]:List LY)[0]?=aj t/\Di ak (C7 Ak W7 (Oe LK) Aw) (K0 H0 w0) t.g t.r t.td t.c t.stk φ:=by
    match r,hkr with
    |0,hkr=>omega |r+1,hkr=>exact ⟨_,rfl,apw hn hd hφ r (k+1) (by omega) (by omega)⟩
   repeat' (first|exact ϖ|exact next|exact hk|exact hr|exact hin|exact hw|exact hs|exact rfl|refine eU ?_ ?_)
  ·have hk:k=n:=by grind
   subst hk;have e:lst (List UInt8) k (Am (nth (((aU k).map d).map keyS)))=((aU k).map d).map keyS:=aiz _ hlen;have hsh:JD (Eb (((aU k).map d).map keyS) [59,32])=ay:=alk (by grind) fun s hs=>by
    grind
   refine ⟨?_,?_⟩
   ·simp only[aed,aB]
    grind [Cb,room_le]
   ·show φ (.str (Eb (lst (List UInt8) k (Am (nth (((aU k).map d).map keyS)))) [59,32]))
    rw[e];exact hφ
end
theorem O32:AO ak (AZ W7) 82 F32:=by
 refine axx (C:=C7 Ak W7 (Oe LK) Aw) (jD _ _) (fn:=oz) (by kernel_rfl) (by kernel_rfl) fun H w Bl args φ hrep h=>?_
 have hn:oz.ntmps=17:=by kernel_rfl
 unfold F32 at h;split at h
 ·rename_i s0
  split at h
  ·rename_i n g hs
   obtain ⟨h1,h2,hφ⟩:=h;match args,hrep with
   |[v],⟨hv,_⟩=>
    refine ⟨[.agg [.sl 4 n (Df (Ec n g))]],⟨OW hv fun u hu=>DT (Bz hs hu) (TB h1),ϖ⟩,L0,?_⟩;generalize Ec n g=d at *;have hφ:φ (.str (ag7 ((aU n).map d))):=hφ;simp only[keysB,aB,ϟ] at h2;obtain ⟨h2,h3⟩:=h2;have hd:=G6 h3;refine F5 (jD _ _) (alm _) nd7 (pause:=GR) (m:=300) (n:=800) (ts:=[⟨82,aF,.code ald::k32,L32 n d,[]⟩]) ?_;rw[hn,a32 Ak W7 LK n d,Jo];refine ⟨⟨rfl,ϖ⟩,_,rfl,?_⟩;refine JB (jD _ _) (alm _) (fn:=oz) (Hq:=pG) (g2:=130) (caps:=[.ptr 1 0]) (by kernel_rfl) (x:=.tmp 7) (ps:=#[8,9]) (ca:=BA (AU oz) (0::ald)) (cb:=BA (AU oz) (1::ald)) (by kernel_rfl) (by kernel_rfl) (by kernel_rfl) (by kernel_rfl) fun l=>?_
    have hn63:pG.ntmps=20:=by kernel_rfl
    rw[hn63];refine F5 (jD _ _) (alm _) nd7 (pause:=GR) (m:=300) (n:=800) (ts:=[⟨130,aF,WX,L63 n d l ((0:Nat):Int) 0 noT ay,UF l⟩]) ?_;refine (congrArg (Nq _) (t32 Ak W7 LK n d l ((0:Nat):Int) 0 noT)).mpr ?_;rw[Jo];refine ⟨room_le (by omega) (by omega),?_,_,rfl,?_⟩
    ·repeat' (first|exact ϖ|exact rfl|exact fun _ _=>rfl|refine eU ?_ ?_)
    refine F6 (fn:=pG) (tb:=apv) (by kernel_rfl) (by kernel_rfl) ?_;refine F5 (jD _ _) (alm _) nd7 (pause:=GR) (m:=300) (n:=800) (ts:=[⟨130,aF,WX,L63 n d l ((1:Nat):Int) 1 (Am (nth (((aU 1).map d).map keyS))) aA,UF l⟩]) ?_;refine (congrArg (Nq _) (aCR Ak W7 LK n d l ((0:Nat):Int) ((1:Nat):Int) 0 1 noT (Am (nth (((aU 1).map d).map keyS))))).mpr ?_;rw[Jo];simp only[Ar,AX,Cm,Ef,I7,dA];rw[anJ (d 0)];refine ⟨fun h=>?_,fun h=>?_⟩
    ·have hlt:0<n:=by simp_all
     have hk:=ali (hd 0 hlt);have hin:decide (0<=((0:Nat):Int)/\((0:Nat):Int)<(n:Int))=ay:=by simp;omega
     have hw:bD.wrap (((0:Nat):Int)+1)=((1:Nat):Int):=by rfl
     have hs:∀i,i<1->Bh [[.str (keyS (d 0))]] i=Am (nth (((aU 1).map d).map keyS)) i:=fun i hi=>by
      obtain rfl:i=0:=by omega
      rfl
     have next:∃t:LY,([⟨130,aF,WX,L63 n d l ((1:Nat):Int) 1 (Am (nth (((aU 1).map d).map keyS))) aA,UF l⟩]:List LY)[0]?=aj t/\Di ak (C7 Ak W7 (Oe LK) Aw) (K0 H w) t.g t.r t.td t.c t.stk φ:=
      ⟨_,rfl,apw h2 hd hφ (n - 1) 1 (by omega) (by omega)⟩
     repeat' (first|exact ϖ|exact next|exact hk|exact hin|exact hw|exact hs|exact rfl|refine eU ?_ ?_)
    ·have:n=0:=by simp_all
     subst this;refine ⟨rfl,hφ⟩
  ·exact h.elim
 ·exact h.elim
end Go.Proofs
namespace Go.Sx
@[irreducible] def CB (ψ:C9->Prop) (t:Tree C9):Prop:=t.All ψ
theorem Dh(ψ:C9->Prop)(t:Tree C9):CB ψ t=t.All ψ:=by unfold CB;rfl
theorem TL{P:Program}{C:Ctx}{H0:Mem}{w0:World}[hC:BP P C](hold:Nat->Bool)(hF:BJ P C)(m n:Nat)(ts:List Py){g:Nat}{td:List It}{c:Core}{stk:List Fr}{R:Hp->Prop}{φ:Sh->Prop}
  (h:CB (IV P C (K0 H0 w0) ts R φ) (BD C hold m n g td c stk ts)):AB P C (K0 H0 w0) g td c stk R φ:=CW _ hF _ _ _ (by rw[Dh] at h;exact h) (hC:=hC)
theorem BZ{P:Program}{C:Ctx}{H0:Mem}{w0:World}[hC:BP P C](hF:BJ P C)(m n:Nat)(ts:List Py){g:Nat}{td:List It}{c:Core}{stk:List Fr}{R:Hp->Prop}{φ:Sh->Prop}(h:CB (IV P C (K0 H0 w0) ts R φ) (BD C Dy m n g td c stk ts)):AB P C (K0 H0 w0) g td c stk R φ:=TL _ hF m n ts h
end Go.Sx
namespace Go.Pl
theorem Vy{b:Bool}{P:Prop}(h:b=aA)(h2:b=ay):P:=by simp_all
end Go.Pl
namespace Go.Proofs
open Go Go.Sx Go.Pl
theorem Y5{P:Program}{gls:List (Nat×Sh)}{g:Nat}{F G:ϵ}(hF:AO P gls g F)(h:∀(Bl:List Sh) (φ:Sh->Prop),(G Bl).All φ->∃s':Sh,φ s'/\(F Bl).All fun s=>Wk s s'):AO P gls g G:=by
 intro H w Bl args φ hon hg hr hφ;obtain ⟨s',h1,h2⟩:=h Bl φ hφ;refine (hF H w Bl args _ hon hg hr h2).mono fun e w' ⟨v,s,H',he,hs,r⟩=>?_;obtain ⟨H2,r2⟩:=r.wk hs;grind
theorem J7{H:Mem}{k:IntKind}{n:Int}{v:Value}(h:Rep H (.i k n) v):Rep H (.v (.int k n)) v:=by
 cases h;exact .v _ rfl
theorem QY{st n:Nat}{g:ϝ}:Wk (.sl st n g) (.sl st n g):=.inr ⟨rfl,rfl,fun _ _=>rfl⟩
theorem add1{j:Nat}(h:j<=100000):Ak.add .i64 (j:Int) (ah 1)=((j+1:Nat):Int):=by
 show bD.wrap ((j:Int)+1)=_;grind [CU]
end Go.Proofs
namespace Go.Sx
def BL.dg:BL->BL
 | .int a _=>.int a a | .nat a _=>.nat a a | .bool a _=>.bool a a | .str a _=>.str a a | .val a _=>.val a a | .sh a _=>.sh a a | .get n g _=>.get n g g | .Um g _=>.Um g g | .mp M _=>.mp M M | .mg M _=>.mg M M
theorem I8:∀l:List BL,bZ (l.map BL.dg)
 |[]=>trivial |e::l=>⟨by cases e<;>first|rfl|exact fun _ _=>rfl,I8 l⟩
def Tree.dg{α:Type}:Tree α->Tree α
 | .leaf a=>.leaf a | .node b t f=>.node b t.dg f.dg | .need b t=>.need b t.dg | .must l t=>.must (l.map BL.dg) t.dg | .both t f=>.both t.dg f.dg | .fail=>.fail
def Tree.abJ{α:Type}(φ:α->Prop):Tree α->Prop
 | .leaf a=>φ a | .node b t f=>(b=ay->t.abJ φ)/\(b=aA->f.abJ φ) | .need b t=>b=ay/\t.abJ φ | .must _ t=>t.abJ φ | .both t f=>t.abJ φ/\f.abJ φ | .fail=>False
theorem Tree.aef{α:Type}{φ:α->Prop}:∀{t:Tree α},t.abJ φ->t.dg.All φ
 | .leaf _,h=>h | .node _ _ _,h=>⟨fun e=>Tree.aef (h.1 e),fun e=>Tree.aef (h.2 e)⟩ | .need _ _,h=>⟨h.1,Tree.aef h.2⟩ | .must l _,h=>⟨I8 l,Tree.aef h⟩ | .both _ _,h=>⟨Tree.aef h.1,Tree.aef h.2⟩ | .fail,h=>h
theorem JH{P:Prop}{ψ:C9->Prop}{t:Tree C9}(k:P)(e:P=t.All ψ:=by kernel_rfl):CB ψ t:=by
 simp_all [Dh]
theorem Ld{P:Prop}{ψ:C9->Prop}{t:Tree C9}(k:P)(h:t.dg=t:=by kernel_rfl)(e:P=t.abJ ψ:=by kernel_rfl):CB ψ t:=by
 grind [Dh,Tree.aef]
theorem nd(c:Bool){p q:Prop}(x:c=ay->p)(y:c=aA->q):(c=ay->p)/\(c=aA->q):=⟨x,y⟩
theorem an{a b:Prop}(x:a)(y:b):a/\b:=⟨x,y⟩
def C9.dg:C9->C9
 | .ret s=>.ret s | .at_ k l=>.at_ k (l.map BL.dg)
def Tree.dgE:Tree C9->Tree C9
 | .leaf a=>.leaf a.dg | .node b t f=>.node b t.dgE f.dgE | .need b t=>.need b t.dgE | .must l t=>.must (l.map BL.dg) t.dgE | .both t f=>.both t.dgE f.dgE | .fail=>.fail
def Tree.Vz(χ:Sh->Prop)(ξ:Nat->Prop):Tree C9->Prop
 | .leaf (.ret s)=>χ s | .leaf (.at_ k _)=>ξ k | .node b t f=>(b=ay->t.Vz χ ξ)/\(b=aA->f.Vz χ ξ) | .need b t=>b=ay/\t.Vz χ ξ | .must _ t=>t.Vz χ ξ | .both t f=>t.Vz χ ξ/\f.Vz χ ξ | .fail=>False
theorem Tree.abK{χ:Sh->Prop}{ξ:Nat->Prop}{ψ:C9->Prop}(h1:∀s,χ s->ψ (.ret s))(h2:∀k l,bZ l->ξ k->ψ (.at_ k l)):∀{t:Tree C9},t.Vz χ ξ->t.dgE.All ψ
 | .leaf (.ret s),h=>h1 s h | .leaf (.at_ k l),h=>h2 k _ (I8 l) h | .node _ _ _,h=>⟨fun e=>Tree.abK h1 h2 (h.1 e),fun e=>Tree.abK h1 h2 (h.2 e)⟩ | .need _ _,h=>⟨h.1,Tree.abK h1 h2 h.2⟩ | .must l _,h=>⟨I8 l,Tree.abK h1 h2 h⟩ | .both _ _,h=>⟨Tree.abK h1 h2 h.1,Tree.abK h1 h2 h.2⟩ | .fail,h=>h
section
variable{P:Program}{C:Ctx}{K:Kx}{φ:Sh->Prop}
def atS(P:Program)(C:Ctx)(K:Kx)(R:Hp->Prop)(φ:Sh->Prop)(ts:List Py)(k:Nat):Prop:=match ts[k]? with
 |some t=>AB P C K t.g t.td t.c t.stk R φ |none=>False
theorem D9{Q:Prop}{R:Hp->Prop}{ts:List Py}{t:Tree C9}(k:Q)(h:t.dgE=t:=by kernel_rfl)(e:Q=t.Vz φ (atS P C K R φ ts):=by kernel_rfl):CB (IV P C K ts R φ) t:=by
 rw[Dh,<-h];refine Tree.abK (fun s x=>x) (fun k l hl x=>?_) (e ▸ k:t.Vz φ (atS P C K R φ ts));unfold atS at x;split at x
 ·rename_i t' ht
  exact ⟨hl,t',ht,x⟩
 grind
end
def Tree.vT{α:Type}[Inhabited α](d:Sh->Option α):Tree C9->α
 | .leaf (.ret s)=>(d s).getD default | .node b t f=>bif b then t.vT d else f.vT d | .must _ t| .need _ t=>t.vT d |_=>default
def Tree.ND{α:Type}(d:Sh->Option α):Tree C9->Bool
 | .leaf (.ret s)=>(d s).isSome | .node b t f=>(t.ND d || !b)&&(f.ND d||b) | .must _ t=>t.ND d | .need b t=>b&&t.ND d |_=>aA
section
variable{α:Type}[Inhabited α]{d:Sh->Option α}{u:α->Sh}{ψ:C9->Prop}
theorem Tree.allT(hd:∀{s c},d s=aj c->s=u c):∀{t:Tree C9},t.ND d=ay->ψ (.ret (u (t.vT d)))->t.dg.All ψ
 | .leaf (.ret s),o,h=>by
  obtain ⟨c,hc⟩:=dO.1 o;have e:s=u ((d s).getD default):=by rw[hc];exact hd hc
  show ψ (.ret s);rw[e];exact h
 | .node b t f,o,h=>by
  have o:((t.ND d || !b)&&(f.ND d||b))=ay:=o;rw[aB] at o;exact ⟨fun e=>Tree.allT hd (by subst e;simpa using o.1) (by subst e;exact h),fun e=>Tree.allT hd (by subst e;simpa using o.2) (by subst e;exact h)⟩
 | .must l t,o,h=>⟨I8 l,Tree.allT hd (t:=t) o h⟩ | .need b t,o,h=>by
  have o:(b&&t.ND d)=ay:=o;rw[aB] at o;exact ⟨o.1,Tree.allT hd (t:=t) o.2 h⟩
def Ans(d:Sh->Option α)(t:Tree C9)(c:α):Prop:=t.dg=t/\t.ND d=ay/\t.vT d=c
theorem ag8(hd:∀{s c},d s=aj c->s=u c){t:Tree C9}{c:α}(k:ψ (.ret (u c)))(h:Ans d t c):CB ψ t:=by
 obtain ⟨h,o,rfl⟩:=h;rw[Dh,<-h];exact Tree.allT hd o k
end
def dI:Sh->Option Int
 | .i .i64 c=>aj c |_=>aF
def dB:Sh->Option Bool
 | .b c=>aj c |_=>aF
theorem anK{s:Sh}{c:Int}(h:dI s=aj c):s=.i .i64 c:=by
 unfold dI at h;split at h<;>cases h;rfl
theorem anL{s:Sh}{c:Bool}(h:dB s=aj c):s=.b c:=by
 unfold dB at h;split at h<;>cases h;rfl
theorem auv{ψ:C9->Prop}{t:Tree C9}(c:Int)(k:ψ (.ret (.i .i64 c)))(h:t.dg=t:=by kernel_rfl)(o:t.ND dI=ay:=by kernel_rfl)(e:t.vT dI=c:=by kernel_rfl):CB ψ t:=ag8 anK k ⟨h,o,e⟩
theorem azf{ψ:C9->Prop}{t:Tree C9}(c:Bool)(k:ψ (.ret (.b c)))(h:t.dg=t:=by kernel_rfl)(o:t.ND dB=ay:=by kernel_rfl)(e:t.vT dB=c:=by kernel_rfl):CB ψ t:=ag8 anL k ⟨h,o,e⟩
def Tree.go:Tree C9->List Bool->Tree C9
 | .must _ t,l| .need _ t,l=>t.go l | .node _ t f,b::l=>(bif b then t.go l else f.go l) |t,_=>t
def Tree.asks:Tree C9->List Bool->List Bool
 | .must _ t,l| .need _ t,l=>t.asks l | .node c t f,b::l=>c::(bif b then t.asks l else f.asks l) |_,_=>[]
def Tree.eqs:Tree C9->List Bool->Bool×List BL
 | .must m t,l=>((t.eqs l).1,m++(t.eqs l).2) | .need c t,l=>(c&&(t.eqs l).1,(t.eqs l).2) | .node _ t f,b::l=>(bif b then t.eqs l else f.eqs l) |_,_=>(ay,[])
theorem RX:∀{l m:List BL},bZ (l++m)->bZ l/\bZ m
 |[],_,h=>⟨ϖ,h⟩ |_::_,_,h=>⟨⟨h.1,(RX h.2).1⟩,(RX h.2).2⟩
theorem Tree.Y6{ψ:C9->Prop}:∀{t:Tree C9} {l:List Bool},t.asks l=l->(t.eqs l).1=ay->bZ (t.eqs l).2->(t.go l).All ψ->t.All ψ
 | .must m t,l,a,n,e,h=>⟨(RX e).1,Tree.Y6 (t:=t) a n (RX e).2 h⟩ | .need c t,l,a,n,e,h=>by
  have n:(c&&(t.eqs l).1)=ay:=n;rw[aB] at n;exact ⟨n.1,Tree.Y6 (t:=t) a n.2 e h⟩
 | .node c t f,[],a,n,e,h=>h | .node c t f,b::l,a,n,e,h=>by
  obtain ⟨rfl,a⟩:=nI a;cases c
  ·exact ⟨fun q=>(by cases q),fun _=>Tree.Y6 (t:=f) a n e h⟩
  ·exact ⟨fun _=>Tree.Y6 (t:=t) a n e h,fun q=>by cases q⟩
 | .leaf _,l,a,n,e,h| .both _ _,l,a,n,e,h| .fail,l,a,n,e,h=>by cases l<;>exact h
theorem Y7{ψ:C9->Prop}{t:Tree C9}{s:Sh}(l cs:List Bool)(hc:cs=l)(k:ψ (.ret s))(ha:t.asks l=cs:=by kernel_rfl)(hg:t.go l=.leaf (.ret s):=by kernel_rfl)
  (hn:(t.eqs l).1=ay:=by kernel_rfl) (he:(t.eqs l).2.map BL.dg=(t.eqs l).2:=by kernel_rfl):CB ψ t:=by
 rw[Dh];exact Tree.Y6 (ha.trans hc) hn (he ▸ I8 _) (by rw[hg];exact k)
def Tree.RY{α:Type}:Tree α->List Bool->List Bool×List BL×Tree α
 | .must m t,l=>match t.RY l with
  |(a,b,c)=>(a,m++b,c)
 | .need c t,ay::l=>match t.RY l with
  |(a,b,d)=>(c::a,b,d)
 | .node c t f,b::l=>match (bif b then t.RY l else f.RY l) with
  |(a,b,d)=>(c::a,b,d)
 |t,_=>([],[],t)
theorem Tree.NG{α:Type}{ψ:α->Prop}:∀{t:Tree α} {l:List Bool},(t.RY l).1=l->bZ (t.RY l).2.1->(t.RY l).2.2.All ψ->t.All ψ
 | .must m t,l,a,e,h=>⟨(RX e).1,Tree.NG (t:=t) a (RX e).2 h⟩ | .need c t,ay::l,a,e,h=>by
  have b:=nI a;exact ⟨b.1,Tree.NG (t:=t) b.2 e h⟩
 | .node c t f,b::l,a,e,h=>by
  have x:=nI a;cases b with
  |true=>exact ⟨fun _=>Tree.NG (t:=t) x.2 e h,fun q=>by rw[x.1] at q;cases q⟩ |false=>exact ⟨fun q=>(by rw[x.1] at q;cases q),fun _=>Tree.NG (t:=f) x.2 e h⟩
 | .need c t,[],_,_,h| .need c t,aA::_,_,_,h=>h | .node c t f,[],_,_,h=>h | .leaf _,l,a,e,h| .both _ _,l,a,e,h| .fail,l,a,e,h=>by cases l<;>exact h
def lqT:Tree C9->List BL
 | .leaf (.at_ _ q)=>q |_=>[]
def Y8:Nat->List Nat->List BL->List BL->List BL
 |_,_,_,[]=>[] |i,a::l,r::m,e::q=>bif dK a i then r::Y8 (i+1) l m q else e.dg::Y8 (i+1) (a::l) (r::m) q |i,l,m,e::q=>e.dg::Y8 (i+1) l m q
theorem PU:∀{q:List BL} {i:Nat} {l:List Nat} {m:List BL},bZ m->bZ (Y8 i l m q)
 |[],_,_,_,_=>by unfold Y8;trivial |e::q,i,[],m,h=>⟨(I8 [e]).1,PU h⟩ |e::q,i,a::l,[],h=>⟨(I8 [e]).1,PU h⟩ |e::q,i,a::l,r::m,h=>by
  unfold Y8;cases dK a i
  ·exact ⟨(I8 [e]).1,PU h⟩
  ·exact ⟨h.1,PU h.2⟩
theorem DC{P:Program}{C:Ctx}{K:Kx}{ts:List Py}{R:Hp->Prop}{φ:Sh->Prop}{t:Tree C9}{l cs:List Bool}(hc:cs=l)(k:Nat)(go:∃t,ts[k]?=aj t/\AB P C K t.g t.td t.c t.stk R φ)(p:List Nat:=[])(rem:List BL:=[])(hr:bZ rem:=by trivial)
  (ht:t.RY l=(cs,(t.RY l).2.1.map BL.dg,.leaf (.at_ k (Y8 0 p rem (lqT (t.RY l).2.2)))):=by kernel_rfl):CB (IV P C K ts R φ) t:=by
 rw[Dh];exact Tree.NG (l:=l) (by rw[ht];exact hc) (by rw[ht];exact I8 _) (by rw[ht];exact ⟨PU hr,go⟩)
theorem I9{ψ:C9->Prop}{t:Tree C9}{l cs:List Bool}(hc:cs=l){s:Sh}(h:ψ (.ret s))(ht:t.RY l=(cs,(t.RY l).2.1.map BL.dg,.leaf (.ret s)):=by kernel_rfl):CB ψ t:=by
 rw[Dh];exact Tree.NG (l:=l) (by rw[ht];exact hc) (by rw[ht];exact I8 _) (by rw[ht];exact h)
end Go.Sx
namespace Go.BX
open Go Go.Sx
abbrev Wd:=Go.Proofs.Wd
abbrev YW:=Go.Proofs.YW
abbrev NH:=Go.Proofs.AZ
abbrev W5:=Af
abbrev noSpec:=Go.Proofs.noSpec
def C5(A:Prim)(W:Wd)(spec:ϕ)(stop:Nat->List Nat->Bool):Ctx:=
 {A,tys:=lG,fns:=mO,spec,eqs:=[94,51],Xg:=[322],L9:=stop,gls:=NH W,live:=yO,pks:=[145],acU:=Go.Proofs.aph}
theorem aCW:YM ak lG [94,51]=ay:=by kernel_rfl
theorem aCX:akx ak [322]=ay:=by kernel_rfl
instance C5.ok(spec:ϕ)(stop:Nat->List Nat->Bool):BP ak (C5 Ak W5 spec stop):=
 ⟨YH yP,Px gI,rfl,sD,fun t i h hi xs ys w h1 h2 x y=>Wp (PE aCW t i h hi) xs ys w h1 h2 x y,U8 aCX,Ag⟩
theorem C5.OG{spec:ϕ}{stop:Nat->List Nat->Bool}(hs:∀g F,spec g=aj F->AO ak (NH W5) g F)(he:∀g,(spec g).isSome=ay->(mO.get g).isSome=ay):BJ ak (C5 Ak W5 spec stop):=
 ⟨hs,fun g h=>by
  rcases h with h|h
  ·exact FY gI iR g (he g h)
  ·exact FY gI iR g h,fun _ _ _ h=>(by cases h),fun _ _ _ h=>(by cases h)⟩
theorem Ej(stop:Nat->List Nat->Bool):BJ ak (C5 Ak W5 noSpec stop):=C5.OG (fun _ _ h=>by cases h) (fun _ h=>by cases h)
abbrev Ei:=Go.Proofs.Ei
abbrev Aw:=Go.Proofs.Aw
abbrev EP:=Go.Proofs.EP
abbrev L0:=jV
end Go.BX
namespace Go.BI
open Go Go.Sx
structure Oj where
 kind:Int
 init:Int
 deriving DecidableEq,Inhabited
structure Ev where
 kind:Int
 tx:Int
 thread:Int
 obj:Int
 op:Int
 key:Int
 val:Int
 ret:Int
 deriving DecidableEq,Inhabited
def obR(o:Oj):List Sh:=[.i .i64 o.kind,.i .i64 o.init]
def QZ(e:Ev):List Sh:=[.i .i64 e.kind,.i .i64 e.tx,.i .i64 e.thread,.i .i64 e.obj,.i .i64 e.op,.i .i64 e.key,.i .i64 e.val,.i .i64 e.ret]
def inR(n:Int):List Sh:=[.i .i64 n]
class Row(α:Type)where
 put:α->List Sh
 get:List Sh->Option α
 DL:∀l a,get l=aj a->put a=l
 get_put:∀a,get (put a)=aj a
 J4:α
instance:Row Oj where
 put:=obR
 get l:=match l with
  |[.i .i64 a,.i .i64 b]=>aj ⟨a,b⟩ |_=>aF
 DL l a h:=by
  split at h
  ·cases h;rfl
  ·cases h
 get_put a:=rfl
 J4:=⟨0,0⟩
instance:Row Ev where
 put:=QZ
 get l:=match l with
  |[.i .i64 a,.i .i64 b,.i .i64 c,.i .i64 d,.i .i64 e,.i .i64 f,.i .i64 g,.i .i64 h]=>aj ⟨a,b,c,d,e,f,g,h⟩ |_=>aF
 DL l a h:=by
  split at h
  ·cases h;rfl
  ·cases h
 get_put a:=rfl
 J4:=⟨0,0,0,0,0,0,0,0⟩
instance:Row Int where
 put:=inR
 get l:=match l with
  |[.i .i64 a]=>aj a |_=>aF
 DL l a h:=by
  split at h
  ·cases h;rfl
  ·cases h
 get_put a:=rfl
 J4:=0
def okB(α:Type)[Row α](n:Nat)(g:ϝ):Bool:=
 match n with
 |0=>ay |n+1=>okB α n g&&(Row.get (α:=α) (g n)).isSome
def Ap{α:Type}[Row α](g:ϝ)(i:Nat):α:=(Row.get (g i)).getD Row.J4
def lst(α:Type)[Row α](n:Nat)(g:ϝ):List α:=(aU n).map (Ap g)
def nth{α:Type}[Row α](l:List α)(i:Nat):α:=l.getD i Row.J4
def Am{α:Type}[Row α](o:Nat->α):ϝ:=fun j=>Row.put (o j)
section
variable{α:Type}[Row α]
theorem I5{n:Nat}{g:ϝ}(h:okB α n g=ay):∀i,i<n->g i=Row.put (Ap (α:=α) g i):=by
 induction n with
 |zero=>omega |succ n ih=>
  simp only[okB,aB] at h;grind [dO,Ap,Row.DL]
theorem Cb(o:Nat->α):∀n,okB α n (Am o)=ay
 |0=>rfl |n+1=>by simp[okB,Cb o n,Am,Row.get_put]
theorem Qr{g:ϝ}{o:Nat->α}:∀{n:Nat},(∀i,i<n->g i=Row.put (o i))->okB α n g=ay
 |0,_=>rfl |n+1,h=>by simp[okB,Qr (n:=n) fun i hi=>h i (by omega),h n (by omega),Row.get_put]
theorem MQ(o:Nat->α)(i:Nat):Ap (Am o) i=o i:=by simp[Ap,Am,Row.get_put]
@[simp] theorem FH (n:Nat) (g:ϝ):(lst α n g).length=n:=by simp[lst]
end
theorem DT{H:Mem}{st n:Nat}{g g':ϝ}{v:Value}(h:Rep H (.sl st n g) v)(hg:∀j,j<n->g j=g' j):Rep H (.sl st n g') v:=by
 cases h with
 |sl0 _ _ A cap hc=>exact .sl0 _ _ _ _ hc |sl _ _ _ b off cap c h1 h2 h3 h4 h5 h6=>exact .sl _ _ _ b off cap c h1 h2 (fun i hi=>by simp_all) h4 h5 fun i j s hi e=>h6 i j s hi (by simp_all)
theorem CY{α:Type}[Row α]{H:Mem}{st n:Nat}{g:ϝ}{v:Value}(h:Rep H (.sl st n g) v)(hg:okB α n g=ay):Rep H (.sl st n (Am (Ap (α:=α) g))) v:=
 DT h fun j hj=>I5 hg j hj
def len{α:Type}(l:List α):Nat:=l.length
open Go Go.Sx
theorem Ar(a b:Int):Ak.lt a b=decide (a<b):=rfl
theorem CS(a b:Int):Ak.le a b=decide (a<=b):=rfl
theorem AQ(a b:Int):Ak.eq a b=(a==b):=rfl
theorem AX(a:Int)(n:Nat):Ak.inB a n=decide (0<=a/\a<n):=rfl
theorem EX(a:Int)(n:Nat):Ak.upTo a n=decide (0<=a/\a<=n):=rfl
theorem Em(n b:Nat):Ak.room n b=decide (n*b<=140737488355328/\n<=maxLen):=rfl
theorem Cm(a:Int):Ak.toN a=a.toNat:=rfl
theorem AL(n:Nat):Ak.AV n=(n:Int):=rfl
theorem Dl(n m:Nat):Ak.addN n m=n+m:=rfl
theorem aar(n m:Nat):Ak.leN n m=decide (n<=m):=rfl
theorem BG(b:Bool):Ak.nt b=!b:=rfl
theorem agY(a b c:Bool):Ak.ite a b c=bif a then b else c:=rfl
theorem Ef(a b:Int):Ak.add .i64 a b=bD.wrap (a+b):=rfl
theorem OV(a b:Int):Ak.sub .i64 a b=bD.wrap (a - b):=rfl
theorem JC(a b:Int):Ak.max a b=if b>a then b else a:=rfl
theorem Dn(g:ϝ)(n:Nat)(h:ϝ)(i:Nat):Ak.snoc g n h i=if i<n then g i else h (i - n):=rfl
theorem CU{a:Int}(h1:-9223372036854775808<=a)(h2:a<=9223372036854775807):bD.wrap a=a:=by
 rw[IntKind.wrap_i64];omega
theorem I7:ah 1=1:=rfl
theorem maxLen_eq:maxLen=9223372036854775807:=rfl
theorem aas{α:Type}[Row α]{k:Nat}{o:Nat->α}{l:List (List Sh)}(h:Bh l 0=Row.put (o k)):∀i,i<k+1->Ak.snoc (Am o) k (Bh l) i=Am o i:=fun i hi=>by
 rw[Dn];split
 ·rfl
 ·have:i=k:=by omega
  subst this;rw[gK,h];rfl
def Cc(n b:Nat):Bool:=Ak.room n b
def idx(c:Int):Int:=bD.wrap ((if (0:Int)>c then 0 else c) - 1)
def inW(m:Nat)(c:Int):Bool:=decide (0<=idx c/\idx c<(m:Int))
def PW(c:Int):Int:=
 bif c==1 then 1 else bif c==2 then 1 else bif c==3 then 2 else bif c==4 then 2 else bif c==5 then 3 else bif c==6 then 3 else bif c==7 then 4 else bif c==8 then 4 else bif c==9 then 4 else 0
def H7(x y:Int):Bool:=
 bif x==2 then y==1 else bif x==3 then y==1 else bif x==5 then y==1 else bif x==7 then y==1 else bif x==1 then y==3 else bif x==4 then y==3 else
 bif x==6 then (bif y==2 then ay else y==3) else bif x==8 then (bif y==2 then ay else y==3) else bif x==9 then (bif y==2 then ay else y==3) else aA
end Go.BI
namespace Go.Pl
open Go Go.Sx Go.Proofs
def F1{α:Type}(u:α->Sh)(f:Int->α):ϵ
 |[t]=>match Bd t with
  |some a=>.leaf (u (f a)) |none=>.fail
 |_=>.fail
def F2{α:Type}(u:α->Sh)(f:Int->Int->α):ϵ
 |[t,v]=>match Bd t,Bd v with
  |some a,aj b=>.leaf (u (f a b)) |_,_=>.fail
 |_=>.fail
abbrev F1B:=F1 Sh.b
abbrev F1I:=F1 (aQ .i64)
abbrev F2B:=F2 Sh.b
def rn0(g n:Nat)(l:List Sh):Tree C9:=BD (C7 Ak W7 noSpec Ei) Dy 300 3000 g [.code []] (BH n l L0) [] []
end Go.Pl
namespace Go.Proofs
open Go Go.Sx Go.Pl
section
variable{α:Type}[Inhabited α]{d:Sh->Option α}{u:α->Sh}{g:Nat}
theorem fn1(hd:∀{s c},d s=aj c->s=u c)(hw:∀c,Wk (u c) (u c)){f:Int->α}(fn:Func)(h:∀a,Ans d (rn0 g fn.ntmps [.i .i64 a]) (f a))(hfn:(C7 Ak W7 noSpec Ei).fns.get g=aj fn:=by kernel_rfl)(hb:fn.body.isSome=ay:=by kernel_rfl):AO ak (AZ W7) g (F1 u f):=by
 refine CV (Ej Ei) 300 3000 L0 fn (hfn:=hfn) (hb:=hb) fun H w Bl args φ hrep hφ=>?_
 unfold F1 at hφ;split at hφ
 ·split at hφ
  ·rename_i a ha
   match args,hrep with
   |[v],⟨hv,_⟩=>exact ⟨[.i .i64 a],⟨Dz ha hv,ϖ⟩,by rw[<-Dh];exact ag8 hd (AY (hw _) hφ) (h a)⟩
  ·exact hφ.elim
 ·exact hφ.elim
theorem Hq(hd:∀{s c},d s=aj c->s=u c)(hw:∀c,Wk (u c) (u c)){f:Int->Int->α}(fn:Func)(h:∀a b,Ans d (rn0 g fn.ntmps [.i .i64 a,.i .i64 b]) (f a b))(hfn:(C7 Ak W7 noSpec Ei).fns.get g=aj fn:=by kernel_rfl)(hb:fn.body.isSome=ay:=by kernel_rfl):AO ak (AZ W7) g (F2 u f):=by
 refine CV (Ej Ei) 300 3000 L0 fn (hfn:=hfn) (hb:=hb) fun H w Bl args φ hrep hφ=>?_
 unfold F2 at hφ;split at hφ
 ·split at hφ
  ·rename_i a b ha hb
   match args,hrep with
   |[v,w],⟨hv,hw',_⟩=>exact ⟨[.i .i64 a,.i .i64 b],⟨Dz ha hv,Dz hb hw',ϖ⟩,by rw[<-Dh];exact ag8 hd (AY (hw _) hφ) (h a b)⟩
  ·exact hφ.elim
 ·exact hφ.elim
theorem azg{f:Int->Bool}(fn:Func)(h:∀a,Ans dB (rn0 g fn.ntmps [.i .i64 a]) (f a))(hfn:(C7 Ak W7 noSpec Ei).fns.get g=aj fn:=by kernel_rfl)(hb:fn.body.isSome=ay:=by kernel_rfl):AO ak (AZ W7) g (F1B f):=fn1 anL (fun _=>.inl rfl) fn h hfn hb
theorem azh{f:Int->Int->Bool}(fn:Func)(h:∀a b,Ans dB (rn0 g fn.ntmps [.i .i64 a,.i .i64 b]) (f a b))(hfn:(C7 Ak W7 noSpec Ei).fns.get g=aj fn:=by kernel_rfl)(hb:fn.body.isSome=ay:=by kernel_rfl):AO ak (AZ W7) g (F2B f):=Hq anL (fun _=>.inl rfl) fn h hfn hb
end
end Go.Proofs
namespace Go.BX
open Go Go.Sx Go.Pl Go.Proofs
abbrev F57:=F1I BI.PW
theorem O57:AO ak (AZ W7) 97 F57:=fn1 anK (fun _=>rfl) Tryz.f97 fun a=>⟨by kernel_rfl,by kernel_rfl,by kernel_rfl⟩
abbrev F67:=F2B BI.H7
theorem O67:AO ak (AZ W7) 125 F67:=azh Tryz.f125 fun a b=>⟨by kernel_rfl,by kernel_rfl,by kernel_rfl⟩
end Go.BX
namespace Go.Proofs
open Go Go.Sx Go.Pl
theorem aAE:AO ak (AZ W7) 116 (F1B valued):=azg Tryz.f116 fun a=>⟨by kernel_rfl,by kernel_rfl,
 (by kernel_rfl:_=bif a==2 then ay else bif a==3 then ay else bif a==5 then ay else a==7).trans (by unfold valued;grind)⟩
theorem aCY:AO ak (AZ W7) 117 (F1B keyed):=azg Tryz.f117 fun a=>⟨by kernel_rfl,by kernel_rfl,
 (by kernel_rfl:_=bif a==7 then ay else bif a==8 then ay else a==9).trans (by unfold keyed;grind)⟩
theorem aAF(a b:Int):Go.BI.H7 a b=bif a==2 then b==1 else bif a==3 then b==1 else bif a==5 then b==1 else bif a==7 then b==1 else bif a==1 then b==3 else bif a==4 then b==3 else
 bif a==6 then (bif b==3 then ay else b==2) else bif a==8 then (bif b==3 then ay else b==2) else bif a==9 then (bif b==3 then ay else b==2) else aA:=by
 have e:(bif b==2 then ay else b==3)=bif b==3 then ay else b==2:=by grind
 unfold Go.BI.H7;rw[e]
theorem aCZ:AO ak (AZ W7) 89 (F2B Go.BI.H7):=azh Tryz.f89 fun a b=>⟨by kernel_rfl,by kernel_rfl,by rw[aAF];kernel_rfl⟩
theorem auz:AO ak (AZ W7) 109 (F1I Fp):=by
 refine CV (Ej Ei) 300 800 L0 Tryz.f109 fun H w Bl args φ hrep hφ=>?_
 unfold F1I F1 at hφ;split at hφ
 ·split at hφ
  ·rename_i a ha
   match args,hrep with
   |[v],⟨hv,_⟩=>
    have hφ:φ (.i .i64 (Fp a)):=hφ;by_cases hb:1<=a/\a<=9
    ·refine ⟨[.v (.int .i64 a)],⟨ad8 ha hv,ϖ⟩,?_⟩
     rw[<-Dh];have:a=1\/a=2\/a=3\/a=4\/a=5\/a=6\/a=7\/a=8\/a=9:=by omega
     rcases this with rfl|rfl|rfl|rfl|rfl|rfl|rfl|rfl|rfl<;>exact auv _ (AY (s':=.i .i64 (Fp _)) rfl hφ)
    ·have e:Fp a=0:=by unfold Fp;grind
     rw[e] at hφ;have k:up φ (.i .i64 0):=AY (s':=.i .i64 0) rfl hφ;refine ⟨[.i .i64 a],⟨Dz ha hv,ϖ⟩,?_⟩;rw[<-Dh];exact JH (nd (Ak.lt a 1) (fun _=>k) fun p=>nd (Ak.lt 9 a) (fun _=>k) fun q=>(hb (by simp_all [Ar]):False))
  ·exact hφ.elim
 ·exact hφ.elim
end Go.Proofs
namespace Go.BI
open Go Go.Sx
open Go.Pl (Bd Dz)
def Le(e:Ev):Prop:=(1<=e.kind/\e.kind<=7)/\(e.kind=2->1<=e.op/\e.op<=9)/\(e.kind=3->1<=e.ret/\e.ret<=3)
def Lh(e:Ev):Prop:=
 (1<=e.tx/\e.tx<=1000)/\
 ((e.kind=1/\0<=e.thread/\e.thread<=7)\/(e.kind≠1/\e.thread=0))/\
 ((e.kind=2/\0<=e.obj/\e.obj<=7)\/(e.kind≠2/\e.obj=0))/\
 ((e.kind=2/\1<=e.op/\e.op<=9)\/(e.kind≠2/\e.op=0))/\
 ((e.kind=2/\7<=e.op/\0<=e.key/\e.key<=1000)\/(¬(e.kind=2/\7<=e.op)/\e.key=0))/\
 ((((e.kind=2/\(e.op=2\/e.op=3\/e.op=5\/e.op=7))\/(e.kind=3/\e.ret=3))/\-1000000000<=e.val/\e.val<=1000000000)\/(¬((e.kind=2/\(e.op=2\/e.op=3\/e.op=5\/e.op=7))\/(e.kind=3/\e.ret=3))/\e.val=0))/\
 ((e.kind=3/\1<=e.ret/\e.ret<=3)\/(e.kind≠3/\e.ret=0))
instance (e:Ev):Decidable (Le e):=by unfold Le;infer_instance
instance (e:Ev):Decidable (Lh e):=by unfold Lh;infer_instance
def Lj(e:Ev):Bool:=decide (Le e)
def fieldsB(e:Ev):Bool:=decide (Lh e)
def DN(n:Int):Bool:=decide (-9223372036854775808<=n/\n<=9223372036854775807)
def abL:List Sh->Option Ev
 |[a,b,c,d,e,f,g,h]=>match Bd a,Bd b,Bd c,Bd d,Bd e,Bd f,Bd g,Bd h with
  |some a,aj b,aj c,aj d,aj e,aj f,aj g,aj h=>aj ⟨a,b,c,d,e,f,g,h⟩ |_,_,_,_,_,_,_,_=>aF
 |_=>aF
theorem Qw{H:Mem}{l l':List Sh}{v:Value}(hv:Rep H (.agg l) v)(hl:l'.length=l.length)(h:∀(j:Nat) (s s':Sh),l[j]?=aj s->l'[j]?=aj s'->∀u,Rep H s u->Rep H s' u):Rep H (.agg l') v:=by
 cases hv with
 |agg _ vs h3 h4=>
  refine .agg _ vs (by omega) fun j s' v' e1 e2=>?_
  grind
theorem azi{H:Mem}{a b c d e f g h a' b' c' d' e' f' g' h':Sh}{v:Value}(hv:Rep H (.agg [a,b,c,d,e,f,g,h]) v)(q:∀u,(Rep H a u->Rep H a' u)/\(Rep H b u->Rep H b' u)/\(Rep H c u->Rep H c' u)/\(Rep H d u->Rep H d' u)/\(Rep H e u->Rep H e' u)/\(Rep H f u->Rep H f' u)/\(Rep H g u->Rep H g' u)/\(Rep H h u->Rep H h' u)):Rep H (.agg [a',b',c',d',e',f',g',h']) v:=
 Qw hv rfl fun j s s' e1 e2 u hu=>by
  obtain ⟨q0,q1,q2,q3,q4,q5,q6,q7⟩:=q u;match j,e1,e2 with
  |0,e1,e2|1,e1,e2|2,e1,e2|3,e1,e2|4,e1,e2|5,e1,e2|6,e1,e2|7,e1,e2=>cases e1;cases e2;simp_all |j+8,e1,e2=>simp at e1
theorem aeg{H:Mem}{l:List Sh}{e:Ev}{v:Value}(h:abL l=aj e)(hv:Rep H (.agg l) v):Rep H (.agg (QZ e)) v:=by
 unfold abL at h;split at h
 ·split at h
  ·cases h
   exact azi hv fun u=>⟨Dz ‹_›,Dz ‹_›,Dz ‹_›,Dz ‹_›,Dz ‹_›,Dz ‹_›,Dz ‹_›,Dz ‹_›⟩
  ·cases h
 ·cases h
def nl(b:Bool)(n:Int):Sh:=bif b then .v (.int .i64 n) else .i .i64 n
def BU(a:Bool)(e:Ev):List Sh:=[nl a e.kind,.i .i64 e.tx,.i .i64 e.thread,.i .i64 e.obj,nl (a&&e.kind==2) e.op,.i .i64 e.key,.i .i64 e.val,nl (a&&e.kind==3) e.ret]
theorem aiH{H:Mem}{b:Bool}{n:Int}{v:Value}(h:Rep H (.i .i64 n) v):Rep H (nl b n) v:=by
 cases b
 ·exact h
 ·cases h;exact .v _ rfl
theorem Y9{H:Mem}{e:Ev}{v:Value}(a b c:Bool)(h:Rep H (.agg (QZ e)) v):Rep H (.agg [nl a e.kind,.i .i64 e.tx,.i .i64 e.thread,.i .i64 e.obj,nl b e.op,.i .i64 e.key,.i .i64 e.val,nl c e.ret]) v:=
 azi h fun _=>⟨aiH,id,id,id,aiH,id,id,aiH⟩
theorem codes{k x t o p y v r:Int}(h:Le ⟨k,x,t,o,p,y,v,r⟩):(k=2/\(p=1\/p=2\/p=3\/p=4\/p=5\/p=6\/p=7\/p=8\/p=9))\/(k=3/\(r=1\/r=2\/r=3))\/k=1\/k=4\/k=5\/k=6\/k=7:=by
 obtain ⟨h1,h2,h3⟩:=h;simp only at h1 h2 h3;grind
def WY(k i:Int):Bool:=inW 4 k && !decide (i < -1000000000) && !decide (1000000000<i)&&(k==1||k==2||i==0)
def rgE(h:Bool)(lo hi n k:Int):Int:=bif h then bif Ak.lt n lo then 13 else bif Ak.lt hi n then 13 else k else k
def zrE(h:Bool)(n:Int)(k:Bool):Bool:=Ak.ite (Ak.eq (bif h then 0 else n) 0) k aA
def keyE(e:Ev):Bool:=e.kind==2&&decide (7<=e.op)
def auA(e:Ev):Bool:=e.kind==2&&(e.op==2||e.op==3||e.op==5||e.op==7)||e.kind==3&&e.ret==3
def auB(e:Ev):Int:=
 rgE ay 1 1000 e.tx (rgE (e.kind==1) 0 7 e.thread (rgE (e.kind==2) 0 7 e.obj (rgE (keyE e) 0 1000 e.key (rgE (auA e) (-1000000000) 1000000000 e.val
 (bif Ak.nt (zrE ay 0 (zrE ay 0 (zrE (e.kind==1) e.thread (zrE (e.kind==2) e.obj (zrE (e.kind==2) e.op (zrE (keyE e) e.key (zrE (auA e) e.val (zrE (e.kind==3) e.ret ay)))))))) then 13 else 0)))))
def dE:Sh->Option Int
 | .er g t=>bif dK t 322 && !Nat.beq g 0 then aj g else aF | .v .nilIface=>aj 0 |_=>aF
def uE(c:Int):Sh:=bif c==0 then .v .nilIface else .er c.toNat 322
theorem aAG{s:Sh}{c:Int}(h:dE s=aj c):s=uE c:=by
 unfold dE at h;split at h
 ·rename_i g t
  cases g with
  |zero=>simp at h |succ g=>
   cases hb:dK t 322<;>rw[hb] at h<;>cases h
   cases Nat.eq_of_beq_eq_true hb;rfl
 ·cases h;rfl
 ·cases h
def rn5(g n:Nat)(l:List Sh):Tree C9:=BD (Go.BX.C5 Ak Go.BX.W5 Go.BX.noSpec Go.BX.Ei) Dy 300 3000 g [.code []] (BH n l jV) [] []
end Go.BI
namespace Go.BX
open Go Go.Sx Go.BI
open Go.Pl (Bd Dz)
open Go.Pl (AY)
set_option maxHeartbeats 4000000 in
theorem axK{e:Ev}(h:Le e):Ans dE (rn5 96 75 [.agg (BU ay e)]) (auB e)/\auB e=bif fieldsB e then 0 else 13:=by
 obtain ⟨k,x,t,o,p,y,v,r⟩:=e;rcases codes h with ⟨rfl,rfl|rfl|rfl|rfl|rfl|rfl|rfl|rfl|rfl⟩ |⟨rfl,rfl|rfl|rfl⟩ |rfl|rfl|rfl|rfl|rfl
 all_goals exact ⟨⟨by as_aux_lemma=>kernel_rfl,by as_aux_lemma=>kernel_rfl,by as_aux_lemma=>kernel_rfl⟩,by simp[auB,rgE,zrE,keyE,auA,Ar,AQ,BG,agY,BI.fieldsB,Lh];grind (splits:=30)⟩
theorem axL{ψ:C9->Prop}{e:Ev}(hc:¬Le e)(hi:DN e.ret=ay)(k:ψ (.ret (.er 12 322))):∃a b c,CB ψ (rn5 96 75 [.agg [nl a e.kind,.i .i64 e.tx,.i .i64 e.thread,.i .i64 e.obj,nl b e.op,.i .i64 e.key,.i .i64 e.val,nl c e.ret]]):=by
 obtain ⟨kd,x,t,o,p,y,v,r⟩:=e;have hi:=ϑ hi;simp only[Le] at hc hi;by_cases a1:1<=kd/\kd<=7
 ·by_cases a3:kd=2
  ·subst a3
   exact ⟨ay,aA,aA,Y7 [aA,aA,aA,aA,aA,aA,aA,aA,aA] [Ak.eq p 1,Ak.eq p 2,Ak.eq p 3,Ak.eq p 4,Ak.eq p 5,Ak.eq p 6,Ak.eq p 7,Ak.eq p 8,Ak.eq p 9] (by simp[AQ];omega) k⟩
  obtain rfl:kd=3:=by omega
  have e:Ak.sub .i64 (Ak.max r 0) 1=(if 0>r then 0 else r) - 1:=by rw[JC,OV];split<;>rw[CU]<;>omega
  by_cases a4:r<1
  ·exact ⟨ay,aA,aA,Y7 [ay] [Ak.lt (Ak.sub .i64 (Ak.max r 0) 1) 0] (by simp[e,Ar];omega) k⟩
  ·exact ⟨ay,aA,aA,Y7 [aA,ay] [Ak.lt (Ak.sub .i64 (Ak.max r 0) 1) 0,Ak.le 3 (Ak.sub .i64 (Ak.max r 0) 1)] (by simp[e,Ar,CS];omega) k⟩
 ·exact ⟨aA,aA,aA,Y7 [aA,aA,aA,aA,aA,aA,aA] [Ak.eq kd 1,Ak.eq kd 4,Ak.eq kd 5,Ak.eq kd 6,Ak.eq kd 7,Ak.eq kd 2,Ak.eq kd 3] (by simp[AQ];omega) k⟩
def F56:ϵ
 |[.agg l]=>match abL l with
  |some e=>.need (DN e.ret) (.node (Lj e) (.node (BI.fieldsB e) (.leaf (.v .nilIface)) (.leaf (.er 13 322))) (.leaf (.er 12 322))) |none=>.fail
 |_=>.fail
theorem O56:AO ak (NH W5) 96 F56:=by
 refine CV (C:=C5 Ak W5 noSpec Ei) (Ej Ei) 300 3000 jV yQ fun H w Bl args φ hrep h=>?_
 unfold F56 at h;split at h
 ·split at h
  ·rename_i l e he
   obtain ⟨hi,h1,h2⟩:=h;match args,hrep with
   |[u],⟨hu,_⟩=>
    have hu:=aeg he hu;suffices q:∃a b c,CB (IV ak (C5 Ak W5 noSpec Ei) (K0 H w) [] emp (up φ)) (rn5 96 75 [.agg [nl a e.kind,.i .i64 e.tx,.i .i64 e.thread,.i .i64 e.obj,nl b e.op,.i .i64 e.key,.i .i64 e.val,nl c e.ret]]) from
     let ⟨a,b,c,q⟩:=q;⟨[.agg _],⟨Y9 a b c hu,ϖ⟩,by rw[<-Dh];exact q⟩
    cases hc:Lj e
    ·exact axL (of_decide_eq_false hc) hi (AY (s':=.er 12 322) rfl (h2 hc))
    ·obtain ⟨q,r⟩:=axK (ϑ hc)
     refine ⟨ay,_,_,ag8 aAG ?_ q⟩;rw[r];cases hf:BI.fieldsB e
     ·exact AY (s':=.er 13 322) rfl ((h1 hc).2 hf)
     ·exact AY (s':=.v .nilIface) rfl ((h1 hc).1 hf)
  ·exact h.elim
 ·exact h.elim
open Go.Pl (Bd Dz AY)
def F54:ϵ
 |[.agg [s,s']]=>match Bd s,Bd s' with
  |some k,aj i=>.node (WY k i) (.leaf (.v .nilIface)) (.leaf (.er 6 322)) |_,_=>.fail
 |_=>.fail
theorem OX{H:Mem}{s s' t t':Sh}{v:Value}(hv:Rep H (.agg [s,s']) v)(h1:∀u,Rep H s u->Rep H t u)(h2:∀u,Rep H s' u->Rep H t' u):Rep H (.agg [t,t']) v:=by
 cases hv with
 |agg _ vs h3 h4=>
  refine .agg _ vs h3 fun j s0 v' e1 e2=>?_
  grind
theorem aeh{k i:Int}(h:inW 4 k=aA\/i < -1000000000\/1000000000<i\/(¬k=1/\¬k=2/\¬i=0)):WY k i=aA:=by grind [WY]
theorem anM{k i:Int}(h:inW 4 k=ay)(h1:¬i < -1000000000)(h2:¬1000000000<i)(h3:k=1\/k=2\/i=0):WY k i=ay:=by grind [WY]
theorem dt{p:Prop}[Decidable p](h:decide p=ay):p:=ϑ h
theorem df{p:Prop}[Decidable p](h:decide p=aA):¬p:=of_decide_eq_false h
theorem nt{a b:Int}(h:Ak.nt (Ak.eq a b)=aA):a=b:=by simp_all [BG,AQ]
theorem nf{a b:Int}(h:Ak.nt (Ak.eq a b)=ay):¬a=b:=by simp_all [BG,AQ]
theorem O54:AO ak (NH W5) 94 F54:=by
 refine CV (C:=C5 Ak W5 noSpec Ei) (Ej Ei) 300 3000 jV qh fun H w Bl args φ hrep h=>?_
 unfold F54 at h;split at h
 ·split at h
  ·rename_i k i hk hi
   obtain ⟨h1,h2⟩:=h;match args,hrep with
   |[u],⟨hu,_⟩=>
    refine ⟨[.agg [.i .i64 k,.i .i64 i]],⟨OX hu (fun _=>Dz hk) (fun _=>Dz hi),ϖ⟩,?_⟩;rw[<-Dh];have k0 (q:WY k i=ay):up φ (.v .nilIface):=AY (s':=.v .nilIface) rfl (h1 q);have k7 (q:WY k i=aA):up φ (.er 6 322):=AY (s':=.er 6 322) rfl (h2 q);have e:inW 4 k=decide (0<=Ak.sub .i64 (Ak.max k 0) 1/\Ak.sub .i64 (Ak.max k 0) 1<4):=rfl;generalize Ak.sub .i64 (Ak.max k 0) 1=x at e ⊢;have wd {P:Prop} (c:inW 4 k=ay->P):=nd (Ak.lt x 0) (fun q=>k7 (aeh (.inl (by rw[e];have:=dt q;simp;omega)))) fun q1=>nd (Ak.le 4 x) (fun q=>k7 (aeh (.inl (by rw[e];have:=dt q;simp;omega)))) fun q2=>
     have h:0<=x/\x<4:=by have:=df q1;have:=df q2;omega
     have w:=nd aA (fun q=>(Bool.noConfusion q:up φ (.er 6 322))) fun _=>c (by rw[e];exact ϱ h);an (ϱ h:Ak.inB x 4=ay) (nd (Ak.eq x 0) (fun _=>w) fun a0=>nd (Ak.eq x 1) (fun _=>w) fun a1=>nd (Ak.eq x 2) (fun _=>w) fun a2=>nd (Ak.eq x 3) (fun _=>w) fun a3=>(by have:=df a0;have:=df a1;have:=df a2;have:=df a3;omega:False))
    have n {P:Prop} (y:¬i < -1000000000->¬1000000000<i->P):=nd (Ak.lt i (-1000000000)) (fun q=>k7 (aeh (.inr (.inl (dt q))))) fun q1=>nd (Ak.lt 1000000000 i) (fun q=>k7 (aeh (.inr (.inr (.inl (dt q)))))) fun q2=>y (df q1) (df q2);exact Ld (nd (Ak.eq k 1) (fun a=>wd fun hw=>n fun b c=>k0 (anM hw b c (.inl (dt a)))) fun a=>wd fun hw=>n fun b c=>
     nd (Ak.nt (Ak.eq k 2)) (fun d=>nd (Ak.nt (Ak.eq i 0)) (fun f=>k7 (aeh (.inr (.inr (.inr ⟨df a,nf d,nf f⟩))))) fun f=>k0 (anM hw b c (.inr (.inr (nt f))))) fun d=>k0 (anM hw b c (.inr (.inl (nt d)))))
  ·exact h.elim
 ·exact h.elim
def F55:ϵ
 |[s,.er e 322]=>match Bd s with
  |some x=>.leaf (.DK 184 (.pt [.i .i64 x,.er e 322])) |none=>.fail
 |_=>.fail
theorem O55:AO ak (NH W5) 95 F55:=by
 refine CV (C:=C5 Ak W5 noSpec Ei) (Ej Ei) 300 3000 jV yR fun H w Bl args φ hrep h=>?_
 unfold F55 at h;split at h
 ·rename_i s e
  split at h
  ·rename_i x hx
   match args,hrep with
   |[u,v],⟨hu,hv,_⟩=>exact ⟨[.i .i64 x,.er e 322],⟨Dz hx hu,hv,ϖ⟩,by rw[<-Dh];exact Ld (AY (s:=.DK 184 (.pt [.i .i64 x,.er e 322])) rfl h)⟩
  ·exact h.elim
 ·exact h.elim
theorem VA{H:Mem}{n m:Nat}{g h:ϝ}{v:Value}(hv:Rep H (.agg [.sl 2 n g,.sl 8 m h]) v)(hg:okB Oj n g=ay)(hk:okB Ev m h=ay):Rep H (.agg [.sl 2 n (Am (Ap (α:=Oj) g)),.sl 8 m (Am (Ap (α:=Ev) h))]) v:=by
 cases hv with
 |agg _ vs h1 h2=>
  refine .agg _ vs h1 fun j s v' e1 e2=>?_
  grind [CY]
def Ll:ϕ
 |94=>aj F54 |95=>aj F55 |96=>aj F56 |97=>aj F57 |_=>aF
theorem aC0:∀g F,Ll g=aj F->AO ak (NH W5) g F:=fun g F h=>by
 unfold Ll at h;grind [O54,O55,O56,O57]
theorem anN(stop:Nat->List Nat->Bool):BJ ak (C5 Ak W5 Ll stop):=C5.OG aC0 fun g h=>by
 unfold Ll at h;split at h;all_goals first|(cases h;done) |kernel_rfl
end Go.BX
namespace Go.Pl
open Go Go.Sx Go.Proofs
open Go.BI (Ev QZ Lj fieldsB Le Lh nl Y9)
def fld(h lo hi:Bool)(n k:Int):Int:=bif h then bif lo then bif !hi then 110 else k else 110 else bif !(n==0) then 110 else k
def auC(e:Ev):Int:=fld ay (decide (1<=e.tx)) (decide (e.tx<=1000)) e.tx (fld (e.kind==1) (decide (0<=e.thread)) (decide (e.thread<8)) e.thread
 (fld (e.kind==2) (decide (0<=e.obj)) (decide (e.obj<8)) e.obj (fld (e.kind==2) ay ay e.op
 (fld (e.kind==2&&keyed e.op) (decide (0<=e.key)) (decide (e.key<=1000)) e.key (fld (e.kind==2&&valued e.op||e.kind==3&&e.ret==3) (decide (-1000000000<=e.val)) (decide (e.val<=1000000000)) e.val
 (fld (e.kind==3) ay ay e.ret 0))))))
def XP(e:Ev):Int:=bif Lj e then bif Go.BI.fieldsB e then 0 else 110 else 108
theorem axM(h lo hi:Bool)(n k:Int):fld h lo hi n k=bif (bif h then lo&&hi else n==0) then k else 110:=by
 grind [fld]
theorem auD(a b:Bool)(x:Int):(bif a then bif b then x else 110 else 110)=bif a&&b then x else 110:=by grind
theorem auE{h lo hi:Bool}{n:Int}:(bif h then lo&&hi else n==0)=ay↔(h=ay/\lo=ay/\hi=ay)\/(¬h=ay/\n=0):=by grind
theorem axN{e:Ev}(h:Lj e=ay):auC e=XP e:=by
 have h1:Le e:=ϑ h;unfold XP auC;rw[h];simp only[axM,auD,ϰ];congr 1;rw[jK,show Go.BI.fieldsB e=ay↔Lh e from decide_eq_true_iff];unfold Lh;unfold Le at h1;simp only[aB,auE,ϟ,ϡ,Bool.or_eq_true,keyed,valued];grind
def aei:ϕ
 |109=>aj (F1I Fp) |_=>aF
def rn8(l:List Sh):Tree C9:=BD (C7 Ak W7 aei Ei) Dy 300 3000 85 [.code []] (BH Tryz.f85.ntmps [.agg l] L0) [] []
def auF:ϵ
 |[.agg l]=>match Go.BI.abL l with
  |some e=>.leaf (.i .i64 (XP e)) |none=>.fail
 |_=>.fail
end Go.Pl
namespace Go.Proofs
open Go Go.Sx Go.Pl
open Go.BI (Ev QZ Lj fieldsB Le Lh nl Y9)
theorem axO(stop:Nat->List Nat->Bool):BJ ak (C7 Ak W7 aei stop):=ig (fun g F h=>by
 grind [aei,auz]) fun g h=>by
 unfold aei at h;split at h;all_goals first|(cases h;done) |kernel_rfl
set_option maxHeartbeats 4000000 in
theorem axP{e:Ev}(h:Le e):Ans dI (rn8 (Go.BI.BU ay e)) (auC e):=by
 obtain ⟨k,x,t,o,p,y,v,r⟩:=e;rcases Go.BI.codes h with ⟨rfl,rfl|rfl|rfl|rfl|rfl|rfl|rfl|rfl|rfl⟩ |⟨rfl,rfl|rfl|rfl⟩ |rfl|rfl|rfl|rfl|rfl
 all_goals exact ⟨by as_aux_lemma=>kernel_rfl,by as_aux_lemma=>kernel_rfl,by as_aux_lemma=>kernel_rfl⟩
theorem aC2:AO ak (AZ W7) 85 auF:=by
 refine CV (axO Ei) 300 3000 L0 Tryz.f85 fun H w Bl args φ hrep hφ=>?_
 unfold auF at hφ;split at hφ
 ·rename_i l
  split at hφ
  ·rename_i e he
   match args,hrep with
   |[v],⟨hv,_⟩=>
    have hv:=Go.BI.aeg he hv;suffices q:∃a b c,CB (IV ak (C7 Ak W7 aei Ei) (K0 H w) [] emp (up φ)) (rn8 [nl a e.kind,.i .i64 e.tx,.i .i64 e.thread,.i .i64 e.obj,nl b e.op,.i .i64 e.key,.i .i64 e.val,nl c e.ret]) from
     let ⟨a,b,c,q⟩:=q;⟨[.agg _],⟨Y9 a b c hv,ϖ⟩,by rw[<-Dh];exact q⟩
    have k {c:Int} (h:c=XP e):up φ (.i .i64 c):=AY (s':=.i .i64 (XP e)) (by rw[h];exact rfl) hφ;clear hφ he;cases hc:Lj e
    ·replace k:up φ (.i .i64 108):=k (by simp_all [XP])
     have hc:¬Le e:=of_decide_eq_false hc;obtain ⟨kd,x,t,o,p,y,z,r⟩:=e;simp only[Le] at hc;by_cases a1:kd<1
     ·exact ⟨aA,aA,aA,Y7 [ay] [Ak.lt kd 1] (by simp[Ar,a1]) k⟩
     by_cases a2:7<kd
     ·exact ⟨aA,aA,aA,Y7 [aA,ay] [Ak.lt kd 1,Ak.lt 7 kd] (by simp[Ar,a1,a2]) k⟩
     by_cases a3:kd=2
     ·subst a3
      exact ⟨ay,aA,aA,Y7 [ay] [Ak.eq (Fp p) 0] (by grind [AQ,Fp]) k⟩
     obtain rfl:kd=3:=by omega
     by_cases a4:r<1
     ·exact ⟨ay,aA,aA,Y7 [ay] [Ak.lt r 1] (by simp[Ar,a4]) k⟩
     ·exact ⟨ay,aA,aA,Y7 [aA,ay] [Ak.lt r 1,Ak.lt 3 r] (by grind [Ar]) k⟩
    ·exact ⟨ay,_,_,ag8 anK (k (axN hc)) (axP (ϑ hc))⟩
  ·exact hφ.elim
 ·exact hφ.elim
end Go.Proofs
namespace Go.BX
open Go Go.Sx Go.BI
open Go.Proofs (LZ Y1)
def ag9:List It:=[aK [0,1,0,1,1,1],aX 2,aK [1,1,1,1]]
def azj:List It:=[aK [0,0,1,0,1,1,1],aK [0,1,0,1,1,1],aX 2,aK [1,1,1,1]]
def aha(n m:Nat)(o:Nat->Oj)(p:Nat->Ev)(c i:Int):Core:=
 {tm:=[.any,.ptr 0 0,.Eo]++rep [.any] 18++[.sh (.sl 2 n (Am o)),.sym .i64 c,.sym .i64 i]++rep [.any] 54,
  hp:=[(0,.box [.sh (.sl 2 n (Am o)),.sh (.sl 8 m (Am p))] 25)],nx:=1,lim:=L0,tc:=[]}
def XQ(n m:Nat)(o:Nat->Oj)(p:Nat->Ev)(c i:Int):Core:=
 {tm:=[.any,.ptr 0 0,.Eo]++rep [.any] 34++[.sh (.sl 8 m (Am p)),.sym .i64 c,.sym .i64 i]++rep [.any] 38,
  hp:=[(0,.box [.sh (.sl 2 n (Am o)),.sh (.sl 8 m (Am p))] 25)],nx:=1,lim:=L0,tc:=[]}
theorem a51(A:Prim)(W:Wd)(n m:Nat)(o:Nat->Oj)(p:Nat->Ev)(c' i':Int):BD (C5 A W Ll Aw) EP 300 200 75 [.code []] (BH 78 [.agg [.sl 2 n (Am o),.sl 8 m (Am p)]] L0) [] [⟨75,LZ,aha n m o p c' i',[]⟩]=aP (A.lt (ah 8) (A.AV n)) (aJ (aN (dP 5 322))) (aP (A.lt (ah 400) (A.AV m)) (aJ (aN (dP 5 322))) (aJ (bU 0 [aW (aG 2 n (Am o)) (aG 2 n (Am o)),aC (A.AV n) c',aC (ah 0) i',aW (aG 2 n (Am o)) (aG 2 n (Am o)),aW (aG 8 m (Am p)) (aG 8 m (Am p))]))):=by kernel_rfl
theorem b51(A:Prim)(W:Wd)(n m:Nat)(o:Nat->Oj)(p:Nat->Ev)(c i i' d' j':Int):BD (C5 A W Ll Aw) EP 300 200 75 Y1 (aha n m o p c i) [] [⟨75,LZ,aha n m o p c i',[]⟩,⟨75,ag9,XQ n m o p d' j',[]⟩]=aP (A.lt i c) (aH (A.inB i n) (aP (WY (o (A.toN i)).kind (o (A.toN i)).init) (aJ (bU 0 [aW (aG 2 n (Am o)) (aG 2 n (Am o)),aC c c,aC (A.add .i64 i (ah 1)) i',aW (aG 2 n (Am o)) (aG 2 n (Am o)),aW (aG 8 m (Am p)) (aG 8 m (Am p))])) (aJ (aN (mP 184 (pJ [aQ .i64 i,dP 6 322])))))) (aJ (bU 1 [aW (aG 8 m (Am p)) (aG 8 m (Am p)),aC (A.AV m) d',aC (ah 0) j',aW (aG 2 n (Am o)) (aG 2 n (Am o)),aW (aG 8 m (Am p)) (aG 8 m (Am p))])):=by kernel_rfl
theorem c51(A:Prim)(W:Wd)(n m:Nat)(o:Nat->Oj)(p:Nat->Ev)(c i i':Int):BD (C5 A W Ll Aw) EP 300 200 75 azj (XQ n m o p c i) [] [⟨75,ag9,XQ n m o p c i',[]⟩]=aP (A.lt i c) (aH (A.inB i m) (aH (DN ({kind:=(p (A.toN i)).kind,tx:=(p (A.toN i)).tx,thread:=(p (A.toN i)).thread,obj:=(p (A.toN i)).obj,op:=(p (A.toN i)).op,key:=(p (A.toN i)).key,val:=(p (A.toN i)).val,ret:=(p (A.toN i)).ret}:Ev).ret) (aP (Lj {kind:=(p (A.toN i)).kind,tx:=(p (A.toN i)).tx,thread:=(p (A.toN i)).thread,obj:=(p (A.toN i)).obj,op:=(p (A.toN i)).op,key:=(p (A.toN i)).key,val:=(p (A.toN i)).val,ret:=(p (A.toN i)).ret}) (aP (BI.fieldsB {kind:=(p (A.toN i)).kind,tx:=(p (A.toN i)).tx,thread:=(p (A.toN i)).thread,obj:=(p (A.toN i)).obj,op:=(p (A.toN i)).op,key:=(p (A.toN i)).key,val:=(p (A.toN i)).val,ret:=(p (A.toN i)).ret}) (aP (A.nt (A.eq (p (A.toN i)).kind (ah 2))) (aJ (bU 0 [aW (aG 8 m (Am p)) (aG 8 m (Am p)),aC c c,aC (A.add .i64 i (ah 1)) i',aW (aG 2 n (Am o)) (aG 2 n (Am o)),aW (aG 8 m (Am p)) (aG 8 m (Am p))])) (aP (A.le (A.AV n) (p (A.toN i)).obj) (aJ (aN (mP 184 (pJ [aQ .i64 i,dP 6 322])))) (aH (A.inB (p (A.toN i)).obj n) (aP (A.nt (A.eq (PW (p (A.toN i)).op) (o (A.toN (p (A.toN i)).obj)).kind)) (aJ (aN (mP 184 (pJ [aQ .i64 i,dP 7 322])))) (aJ (bU 0 [aW (aG 8 m (Am p)) (aG 8 m (Am p)),aC c c,aC (A.add .i64 i (ah 1)) i',aW (aG 2 n (Am o)) (aG 2 n (Am o)),aW (aG 8 m (Am p)) (aG 8 m (Am p))])))))) (aJ (aN (mP 184 (pJ [aQ .i64 i,dP 13 322]))))) (aJ (aN (mP 184 (pJ [aQ .i64 i,dP 12 322]))))))) (aJ (aN (Sh.v cZ))):=by kernel_rfl
end Go.BX
namespace Go.BI
open Go Go.Sx
def Lm(n:Nat)(o:Nat->Oj)(e:Ev):Option Nat:=
 bif Lj e then bif fieldsB e then bif e.kind==2 then bif decide ((n:Int)<=e.obj) then aj 6 else bif PW e.op==(o e.obj.toNat).kind then aF else aj 7 else aF else aj 13 else aj 12
def TM(o:Oj):Option Nat:=bif WY o.kind o.init then aF else aj 6
def IX(f:Nat->Option Nat):Nat->Nat->Option (Nat×Nat)
 |_,0=>aF |k,m+1=>match f k with
  |some e=>aj (k,e) |none=>IX f (k+1) m
def resE:Option (Nat×Nat)->Sh
 |none=>.v .nilIface |some (k,e)=>.DK 184 (.pt [.i .i64 (k:Int),.er e 322])
theorem Qx{e:Ev}(h:fieldsB e=ay)(hk:e.kind=2):0<=e.obj:=by
 have h:=ϑ h;simp_all [Lh]
end Go.BI
namespace Go.BX
open Go Go.Sx Go.BI
theorem aln{H0:Mem}{w0:World}{n m:Nat}{o:Nat->Oj}{p:Nat->Ev}{φ:Sh->Prop}(hm:m<=400)(hi:∀k,k<m->DN (p k).ret=ay):
  ∀rm k,k+rm=m->φ (resE (IX (fun k=>Lm n o (p k)) k rm))->AB ak (C5 Ak W5 Ll Aw) (K0 H0 w0) 75 ag9 (XQ n m o p (m:Int) k) [] emp φ
 |rm,k,hk,hφ=>by
  refine D6 iG azj ?_;refine CW EP (anN _) 300 200 [⟨75,ag9,XQ n m o p (m:Int) (k+1:Nat),[]⟩] ?_;rw[c51 Ak W5 n m o p (m:Int) k (k+1:Nat)];simp only[Ar,CS,AL,AX,Cm,AQ,BG,Ef,I7,Tree.All,IV,dA];have hstep:bD.wrap ((k:Int)+1)=((k+1:Nat):Int)\/m<k:=by
   grind [CU]
  refine ⟨fun h=>?_,fun h=>?_⟩
  ·have hlt:k<m:=by simp_all
   have hw:=hstep.resolve_right (by omega);match rm,hk,hφ with
   |0,hk,_=>omega |rm+1,hk,hφ=>
    have next:Lm n o (p k)=aF->AB ak (C5 Ak W5 Ll Aw) (K0 H0 w0) 75 ag9 (XQ n m o p (m:Int) (k+1:Nat)) [] emp φ:=fun hn=>aln hm hi rm (k+1) (by omega) (by simp_all [IX]);have bad:∀e,Lm n o (p k)=aj e->φ (.DK 184 (.pt [.i .i64 (k:Int),.er e 322])):=fun e he=>by
     simp_all [IX,resE]
    refine ⟨by simp;omega,hi k hlt,fun q1=>⟨fun q2=>⟨fun q3=>?_,fun q3=>⟨fun q4=>?_,fun q4=>⟨?_,fun q5=>?_,fun q5=>?_⟩⟩⟩,fun q2=>?_⟩,fun q1=>?_⟩
    ·refine ⟨⟨rfl,rfl,hw,rfl,rfl,ϖ⟩,_,rfl,next ?_⟩
     grind [Lm]
    ·simp_all [Lm]
    ·simp_all [Qx]
    ·grind [PW,Lm]
    ·have k2:((p k).kind==2)=ay:=by grind
     have k3:(PW (p k).op==(o (p k).obj.toNat).kind)=ay:=by grind
     refine ⟨⟨rfl,rfl,hw,rfl,rfl,ϖ⟩,_,rfl,next ?_⟩;grind [Lm]
    ·simp_all [Lm]
    simp_all [Lm]
  ·have:k=m:=by grind
   have:rm=0:=by omega
   subst this;exact hφ
end Go.BX
namespace Go.Pl
open Go Go.Sx Go.Proofs
open Go.BI (Ev QZ)
def Qe(n:Nat)(o:Nat->Oj)(e:Ev):Int:=if XP e≠0 then XP e else if e.kind≠2 then 0 else if (n:Int)<=e.obj then 109 else if Fp e.op=(o e.obj.toNat).kind then 0 else 111
def auG:ϕ
 |85=>aj auF |109=>aj (F1I Fp) |_=>aF
def F84:ϵ
 |[s,.agg l]=>match Dj 2 s,Go.BI.abL l with
  |some (n,g),aj e=>.need (okB Oj n g) (.leaf (.i .i64 (Qe n (Ap g) e))) |_,_=>.fail
 |_=>.fail
end Go.Pl
namespace Go.Proofs
open Go Go.Sx Go.Pl
open Go.BI (Ev QZ)
theorem aAJ(stop:Nat->List Nat->Bool):BJ ak (C7 Ak W7 auG stop):=ig (fun g F h=>by
 unfold auG at h;grind [aC2,auz]) fun g h=>by
 unfold auG at h;split at h;all_goals first|(cases h;done) |kernel_rfl
theorem axR{e:Ev}(h:XP e=0)(hk:e.kind=2):0<=e.obj:=by
 unfold XP at h;cases h1:Go.BI.Lj e<;>rw[h1] at h
 ·simp_all
 ·(cases h2:Go.BI.fieldsB e<;>rw[h2] at h)<;>simp_all [Go.BI.fieldsB,Go.BI.Qx]
theorem O84:AO ak (AZ W7) 69 F84:=by
 refine CV (aAJ Aw) 300 400 L0 Tryz.f69 fun H w Bl args φ hrep hφ=>?_
 unfold F84 at hφ;split at hφ
 ·rename_i s l
  split at hφ
  ·rename_i n g e h1 h2
   obtain ⟨ho,hφ⟩:=hφ;match args,hrep with
   |[u,v],⟨hu,hv,_⟩=>
    have k (c:Int) (h:c=Qe n (Ap g) e):up φ (.i .i64 c):=AY (s':=.i .i64 (Qe n (Ap g) e)) (by rw[h];exact rfl) hφ;refine ⟨[.sl 2 n (Am (Ap (α:=Oj) g)),.agg (QZ e)],⟨CY (Bz h1 hu) ho,Go.BI.aeg h2 hv,ϖ⟩,?_⟩;clear hφ;generalize Ap (α:=Oj) g=ob at *;rw[<-Dh];unfold Qe at k;refine Ld (nd (Ak.nt (Ak.eq (XP e) 0)) (fun q=>k (XP e) ?_) fun q1=>nd (Ak.nt (Ak.eq e.kind 2)) (fun q=>k 0 ?_) fun q2=>nd (Ak.le (Ak.AV n) e.obj) (fun q=>k 109 ?_) fun q3=>an (?_:Ak.inB e.obj n=ay)
     (nd (Ak.nt (Ak.eq (Fp e.op) (ob (Ak.toN e.obj)).kind)) (fun q=>k 111 ?_) fun q=>k 0 ?_))
    all_goals simp[BG,AQ,CS,AL,Cm,AX] at *
    ·simp[q]
    ·simp[q1,q]
    ·omega
    ·simp_all [axR]
    ·omega
    omega
  ·exact hφ.elim
 ·exact hφ.elim
end Go.Proofs
namespace Go.Pl
open Go Go.Sx
structure Lb7 where
 op:A8->Int->Int->Int->A8
 r:A8->Int->Int->Int->Int
 g:A8->Int->Int->Int->Int
 key:A8->List UInt8
 join:List (List UInt8)->List UInt8->List UInt8
 at_:Nat->ϝ->Int->A8
def aej(a:Nat):Bool:=Cc (a+1) 8
end Go.Pl
namespace Go.Proofs
open Go Go.Sx Go.Pl
def G33(L:Lb7):ϵ
 |[.agg [s0],t]=>match Dj 4 s0,Bd t with
  |some (n,g),aj i=>.need (stB n g) (.leaf (.Az [.agg [.i .i64 (L.at_ n g i).kind,.i .i64 (L.at_ n g i).num,.sl 1 (len (L.at_ n g i).q) (Am (nth (L.at_ n g i).q)),.sl 2 (len (L.at_ n g i).ps) (Am (nth (L.at_ n g i).ps))],.b (Gw n i)])) |_,_=>.fail
 |_=>.fail
def G42(L:Lb7):ϵ
 |[.agg [.i .i64 x,.i .i64 y,s2,s3],t,u,v]=>match Dj 1 s2,Dj 2 s3,Bd t,Bd u,Bd v with
  |some (a,h),aj (b,l),aj op,aj k,aj v=>.need (okB Int a h) (.need (okB Pr b l) (.need (aej a) (.node (Iz x op) (.leaf (.Az [.agg [.i .i64 0,.i .i64 0,.sl 1 0 FB,.sl 2 0 noP],.i .i64 0,.i .i64 0,.er 7 322])) (.node (Jr x y op k v) (.leaf (.Az [.agg [.i .i64 0,.i .i64 0,.sl 1 0 FB,.sl 2 0 noP],.i .i64 0,.i .i64 0,.er 13 322]))
    (.need (MS op b l) (.leaf (.Az [.agg [.i .i64 (L.op (sQ x y a h b l) op k v).kind,.i .i64 (L.op (sQ x y a h b l) op k v).num,.sl 1 (len (L.op (sQ x y a h b l) op k v).q) (Am (nth (L.op (sQ x y a h b l) op k v).q)),.sl 2 (len (L.op (sQ x y a h b l) op k v).ps) (Am (nth (L.op (sQ x y a h b l) op k v).ps))],.i .i64 (L.r (sQ x y a h b l) op k v),.i .i64 (L.g (sQ x y a h b l) op k v),.v .nilIface])))))))
  |_,_,_,_,_=>.fail
 |_=>.fail
def aek(L:Lb7):ϕ
 |136=>aj (G33 L) |137=>aj (G42 L) |138=>aj F54 |_=>aF
theorem a29(A:Prim)(W:Wd)(L:Lb7)(n:Nat)(d:Nat->A8)(i op k v:Int):BD (C7 A W (aek L) Aw) Dy 300 400 107 [.code []] (BH 52 [.agg [.sl 4 n (Df d)],.i .i64 i,.i .i64 op,.i .i64 k,.i .i64 v] L0) [] []=aH (stB n (Df d)) (aP (A.nt (Gw n i)) (aJ (aN (bF [bG [aG 0 0 fun _=>[]],aQ .i64 (ah 0),aQ .i64 (ah 0),dP 6 322]))) (aH (okB Int (len (L.at_ n (Df d) i).q) (Am (nth (L.at_ n (Df d) i).q))) (aH (okB Pr (len (L.at_ n (Df d) i).ps) (Am (nth (L.at_ n (Df d) i).ps))) (aH (aej (len (L.at_ n (Df d) i).q)) (aP (Iz (L.at_ n (Df d) i).kind op) (aJ (aN (bF [bG [aG 0 0 fun _=>[]],aQ .i64 (ah 0),aQ .i64 (ah 0),dP 7 322]))) (aP (Jr (L.at_ n (Df d) i).kind (L.at_ n (Df d) i).num op k v) (aJ (aN (bF [bG [aG 0 0 fun _=>[]],aQ .i64 (ah 0),aQ .i64 (ah 0),dP 13 322]))) (aH (MS op (len (L.at_ n (Df d) i).ps) (Am (nth (L.at_ n (Df d) i).ps))) (aH (Cc n 64) (aH (stB n (Df d)) (aJ (aN (bF [bG [aG 4 n (L6 n (Df d) i [aQ .i64 (L.op (sQ (L.at_ n (Df d) i).kind (L.at_ n (Df d) i).num (len (L.at_ n (Df d) i).q) (Am (nth (L.at_ n (Df d) i).q)) (len (L.at_ n (Df d) i).ps) (Am (nth (L.at_ n (Df d) i).ps))) op k v).kind,aQ .i64 (L.op (sQ (L.at_ n (Df d) i).kind (L.at_ n (Df d) i).num (len (L.at_ n (Df d) i).q) (Am (nth (L.at_ n (Df d) i).q)) (len (L.at_ n (Df d) i).ps) (Am (nth (L.at_ n (Df d) i).ps))) op k v).num,aG 1 (len (L.op (sQ (L.at_ n (Df d) i).kind (L.at_ n (Df d) i).num (len (L.at_ n (Df d) i).q) (Am (nth (L.at_ n (Df d) i).q)) (len (L.at_ n (Df d) i).ps) (Am (nth (L.at_ n (Df d) i).ps))) op k v).q) (Am (nth (L.op (sQ (L.at_ n (Df d) i).kind (L.at_ n (Df d) i).num (len (L.at_ n (Df d) i).q) (Am (nth (L.at_ n (Df d) i).q)) (len (L.at_ n (Df d) i).ps) (Am (nth (L.at_ n (Df d) i).ps))) op k v).q)),aG 2 (len (L.op (sQ (L.at_ n (Df d) i).kind (L.at_ n (Df d) i).num (len (L.at_ n (Df d) i).q) (Am (nth (L.at_ n (Df d) i).q)) (len (L.at_ n (Df d) i).ps) (Am (nth (L.at_ n (Df d) i).ps))) op k v).ps) (Am (nth (L.op (sQ (L.at_ n (Df d) i).kind (L.at_ n (Df d) i).num (len (L.at_ n (Df d) i).q) (Am (nth (L.at_ n (Df d) i).q)) (len (L.at_ n (Df d) i).ps) (Am (nth (L.at_ n (Df d) i).ps))) op k v).ps))])],aQ .i64 (L.r (sQ (L.at_ n (Df d) i).kind (L.at_ n (Df d) i).num (len (L.at_ n (Df d) i).q) (Am (nth (L.at_ n (Df d) i).q)) (len (L.at_ n (Df d) i).ps) (Am (nth (L.at_ n (Df d) i).ps))) op k v),aQ .i64 (L.g (sQ (L.at_ n (Df d) i).kind (L.at_ n (Df d) i).num (len (L.at_ n (Df d) i).q) (Am (nth (L.at_ n (Df d) i).q)) (len (L.at_ n (Df d) i).ps) (Am (nth (L.at_ n (Df d) i).ps))) op k v),Sh.v cZ])))))))))))):=by kernel_rfl
end Go.Proofs
namespace Go.Pl
open Go Go.Sx Go.Proofs
def L7:Lb7 where
 op s o k v:=(Ey s o k v).1
 r s o k v:=(Ey s o k v).2.1
 g s o k v:=(Ey s o k v).2.2
 key:=keyS
 join:=Eb
 at_ n g i:=atT n (Ec n g) i
end Go.Pl
namespace Go.Proofs
open Go Go.Sx Go.Pl
theorem aC6:AO ak (AZ W7) 136 (G33 L7):=O33
theorem aC7:AO ak (AZ W7) 137 (G42 L7):=O42
theorem OEs:∀g F,aek L7 g=aj F->AO ak (AZ W7) g F:=fun g F h=>by
 unfold aek at h;grind [aC6,aC7,O54]
theorem aC8(stop:Nat->List Nat->Bool):BJ ak (C7 Ak W7 (aek L7) stop):=ig OEs fun g h=>by
 unfold aek at h;split at h;all_goals first|(cases h;done) |kernel_rfl
def F29:ϵ
 |[.agg [s0],t,u,v,w]=>match Dj 4 s0,Bd t,Bd u,Bd v,Bd w with
  |some (n,g),aj i,aj op,aj k,aj v=>.need (stB n g) (.need (Cc n 64) (.node (Gw n i) (.need (aej (Ec n g i.toNat).q.length) (.node (Iz (Ec n g i.toNat).kind op) (.leaf (.Az [.agg [.sl 4 0 noT],.i .i64 0,.i .i64 0,.er 7 322])) (.node (Jr (Ec n g i.toNat).kind (Ec n g i.toNat).num op k v) (.leaf (.Az [.agg [.sl 4 0 noT],.i .i64 0,.i .i64 0,.er 13 322]))
    (.need (MS op (len (Ec n g i.toNat).ps) (Am (nth (Ec n g i.toNat).ps))) (.leaf (.Az [.agg [.sl 4 n (L6 n g i (DU (Ey (Ec n g i.toNat) op k v).1))],.i .i64 (Ey (Ec n g i.toNat) op k v).2.1,.i .i64 (Ey (Ec n g i.toNat) op k v).2.2,.v .nilIface]))))))
   (.leaf (.Az [.agg [.sl 4 0 noT],.i .i64 0,.i .i64 0,.er 6 322]))))
  |_,_,_,_,_=>.fail
 |_=>.fail
theorem O29:AO ak (AZ W7) 107 F29:=by
 refine CV (aC8 Aw) 300 400 L0 Ah fun H w Bl args φ hrep h=>?_
 have hn:Ah.ntmps=52:=by kernel_rfl
 unfold F29 at h;split at h
 ·rename_i s0 t u v ww
  split at h
  ·rename_i n g i op k vv hs ht hu hv hw
   obtain ⟨h1,h2,hin,hout⟩:=h;have hout:Gw n i=aA->φ (.Az [.agg [.sl 4 0 noT],.i .i64 0,.i .i64 0,.er 6 322]):=hout;match args,hrep with
   |[v0,v1,v2,v3,v4],⟨r0,r1,r2,r3,r4,_⟩=>
    refine ⟨[.agg [.sl 4 n (Df (Ec n g))],.i .i64 i,.i .i64 op,.i .i64 k,.i .i64 vv],⟨OW r0 fun u hu=>DT (Bz hs hu) (TB h1),Dz ht r1,Dz hu r2,Dz hv r3,Dz hw r4,ϖ⟩,?_⟩;have hrow:=TB h1;have her (T:Nat) (g0:Nat) (hp:φ (.Az [.agg [.sl 4 0 noT],.i .i64 0,.i .i64 0,.er g0 322])):up φ (.Az [.agg [.sl 0 0 fun _=>[]],.i .i64 (ah 0),.i .i64 (ah 0),.er g0 322]):=
     AY (s':=.Az [.agg [.sl 4 0 noT],.i .i64 0,.i .i64 0,.er g0 322]) ⟨⟨.inl ⟨rfl,rfl⟩,ϖ⟩,rfl,rfl,rfl,ϖ⟩ hp
    rw[hn,a29 Ak W7 L7 n (Ec n g) i op k vv];have e1:L7.at_ n (Df (Ec n g)) i=atT n (Ec n (Df (Ec n g))) i:=rfl;rw[e1];refine ⟨ad7 n _,fun e=>her 0 6 (hout (by grind [BG])),fun e=>?_⟩;have e:Gw n i=ay:=by grind [BG]
    obtain ⟨q1,q3,q4⟩:=hin e;have hlt:i.toNat<n:=by simp_all [Gw]
    have e2:atT n (Ec n (Df (Ec n g))) i=Ec n g i.toNat:=by simp_all [atT,atO]
    rw[e2,anJ];have q4:Iz (Ec n g i.toNat).kind op=aA->(Jr (Ec n g i.toNat).kind (Ec n g i.toNat).num op k vv=ay->φ (.Az [.agg [.sl 4 0 noT],.i .i64 0,.i .i64 0,.er 13 322]))/\(Jr (Ec n g i.toNat).kind (Ec n g i.toNat).num op k vv=aA->MS op (len (Ec n g i.toNat).ps) (Am (nth (Ec n g i.toNat).ps))=ay/\φ (.Az [.agg [.sl 4 n (L6 n g i (DU (Ey (Ec n g i.toNat) op k vv).1))],.i .i64 (Ey (Ec n g i.toNat) op k vv).2.1,.i .i64 (Ey (Ec n g i.toNat) op k vv).2.2,.v .nilIface])):=q4;refine ⟨Cb _ _,Cb _ _,q1,fun e=>her 0 7 (q3 e),fun e=>⟨fun e'=>her 0 13 ((q4 e).1 e'),fun e'=>⟨((q4 e).2 e').1,h2,ad7 n _,AY (s':=.Az [.agg [.sl 4 n (L6 n g i (DU (Ey (Ec n g i.toNat) op k vv).1))],.i .i64 (Ey (Ec n g i.toNat) op k vv).2.1,.i .i64 (Ey (Ec n g i.toNat) op k vv).2.2,.v .nilIface]) ⟨⟨.inr ⟨rfl,rfl,fun j hj=>?_⟩,ϖ⟩,rfl,rfl,rfl,ϖ⟩ ((q4 e).2 e').2⟩⟩⟩;unfold L6;split
    ·rfl
    simp_all
  ·exact h.elim
 ·exact h.elim
end Go.Proofs
namespace Go.Pl
open Go Go.Sx
structure CJ where
 id:Int
 th:Int
 st:Int
 bg:Int
 en:Int
 tr:Int
 k:Nat
 g:ϝ
instance:Inhabited CJ:=⟨⟨0,0,0,0,0,0,0,fun _=>[]⟩⟩
instance:Row CJ where
 put t:=[.i .i64 t.id,.i .i64 t.th,.i .i64 t.st,.i .i64 t.bg,.i .i64 t.en,.i .i64 t.tr,.sl 8 t.k t.g]
 get l:=match l with
  |[.i .i64 a,.i .i64 b,.i .i64 c,.i .i64 d,.i .i64 e,.i .i64 f,.sl 8 k g]=>aj ⟨a,b,c,d,e,f,k,g⟩ |_=>aF
 DL l a h:=by
  grind
 get_put a:=rfl
 J4:=default
structure Dd where
 obj:Int
 op:Int
 key:Int
 val:Int
 ret:Int
 got:Int
 at_:Int
 back:Int
 deriving DecidableEq,Inhabited
instance:Row Dd where
 put d:=[.i .i64 d.obj,.i .i64 d.op,.i .i64 d.key,.i .i64 d.val,.i .i64 d.ret,.i .i64 d.got,.i .i64 d.at_,.i .i64 d.back]
 get l:=match l with
  |[.i .i64 a,.i .i64 b,.i .i64 c,.i .i64 d,.i .i64 e,.i .i64 f,.i .i64 g,.i .i64 h]=>aj ⟨a,b,c,d,e,f,g,h⟩ |_=>aF
 DL l a h:=by
  grind
 get_put a:=rfl
 J4:=default
structure J8 where
 placed:Int
 n:Nat
 g:ϝ
instance:Inhabited J8:=⟨⟨0,0,fun _=>[]⟩⟩
instance:Row J8 where
 put x:=[.i .i64 x.placed,.sl 4 x.n x.g]
 get l:=match l with
  |[.i .i64 a,.sl 4 n g]=>aj ⟨a,n,g⟩ |_=>aF
 DL l a h:=by
  grind
 get_put a:=rfl
 J4:=default
structure UG where
 tx:Int
 com:Bool
 placed:Int
 n:Nat
 g:ϝ
instance:Inhabited UG:=⟨⟨0,aA,0,0,fun _=>[]⟩⟩
instance:Row UG where
 put x:=[.i .i64 x.tx,.b x.com,.i .i64 x.placed,.sl 4 x.n x.g]
 get l:=match l with
  |[.i .i64 t,.b c,.i .i64 a,.sl 4 n g]=>aj ⟨t,c,a,n,g⟩ |_=>aF
 DL l a h:=by
  grind
 get_put a:=rfl
 J4:=default
def OH(n:Nat)(d:Nat->A8)(i op k v:Int):Bool:=Gw n i && !Iz (d i.toNat).kind op && !Jr (d i.toNat).kind (d i.toNat).num op k v
def erN(n:Nat)(d:Nat->A8)(i op _k _v:Int):Nat:=if Gw n i=ay then (if Iz (d i.toNat).kind op=ay then 7 else 13) else 6
def ael(n:Nat)(d:Nat->A8)(i op:Int):Bool:=!Gw n i||(Go.Pl.aej (d i.toNat).q.length&&MS op (len (d i.toNat).ps) (Am (nth (d i.toNat).ps)))
def Za(n:Nat)(g:ϝ)(i op k v:Int):Bool:=OH n (Ec n g) i op k v
def ahb(n:Nat)(g:ϝ)(i op:Int):Bool:=stB n g&&(Cc n 64&&ael n (Ec n g) i op)
def erG(n:Nat)(g:ϝ)(i op k v:Int):Nat:=erN n (Ec n g) i op k v
def aem(n:Nat)(g:ϝ)(i op k v:Int):ϝ:=L6 n g i (DU (Ey (Ec n g i.toNat) op k v).1)
def alo(n:Nat)(g:ϝ)(i op k v:Int):Int:=(Ey (Ec n g i.toNat) op k v).2.1
def alp(n:Nat)(g:ϝ)(i op k v:Int):Int:=(Ey (Ec n g i.toNat) op k v).2.2
end Go.Pl
namespace Go.Proofs
open Go Go.Sx Go.Pl
def D29:ϵ
 |[.agg [s0],t,u,v,w]=>match Dj 4 s0,Bd t,Bd u,Bd v,Bd w with
  |some (n,g),aj i,aj op,aj k,aj v=>.need (ahb n g i op) (.node (Za n g i op k v)
   (.leaf (.Az [.agg [.sl 4 n (aem n g i op k v)],.i .i64 (alo n g i op k v),.i .i64 (alp n g i op k v),.v .nilIface]))
   (.leaf (.Az [.agg [.sl 4 0 noT],.i .i64 0,.i .i64 0,.er (erG n g i op k v) 322])))
  |_,_,_,_,_=>.fail
 |_=>.fail
def TN:ϕ
 |107=>aj D29 |_=>aF
def abM:List It:=[aK [0,1,0,1],aX 0,aK [1,1]]
def auJ:List It:=aK [0,0,1,0,1]::abM
def abN(n:Nat)(g:ϝ)(m:Nat)(dd:Nat->Dd)(i:Int):Core:={tm:=DF 54 [(2,.ptr 0 0),(4,.ptr 1 0),(12,.sh (.sl 8 m (Am dd))),(13,.sym .i64 (m:Int)),(14,.sym .i64 i)],hp:=[(0,.box [.sh (.sl 4 n g)] 153),(1,.box [.Bg] 153)],nx:=2,lim:=L0,tc:=[]}
theorem auK(A:Prim)(W:Wd)(n:Nat)(g:ϝ)(m:Nat)(dd:Nat->Dd)(i':Int){ψ:C9->Prop}(y1:ψ (bU 0 [aW (aG 8 m (Am dd)) (aG 8 m (Am dd)),aC (A.AV m) (ah m),aC (ah 0) i',aW (aG 4 n g) (aG 4 n g)])):CB ψ (BD (C7 A W TN Aw) Dy 300 400 83 [.code []] (BH 54 [.agg [.sl 4 n g],.sl 8 m (Am dd)] L0) [] [⟨83,abM,abN n g m dd i',[]⟩]):=by
 exact JH y1
theorem aen(A:Prim)(W:Wd)(n:Nat)(g g':ϝ)(m:Nat)(dd:Nat->Dd)(i i':Int){ψ:C9->Prop}{c0 c1 c2 c3 c4:Bool}(e0:A.lt i (ah m)=c0)(e1:A.eq (dd (A.toN i)).ret (ah 0)=c1)(e2:Za n g (dd (A.toN i)).obj (dd (A.toN i)).op (dd (A.toN i)).key (dd (A.toN i)).val=c2)(e3:A.nt (A.eq (alo n g (dd (A.toN i)).obj (dd (A.toN i)).op (dd (A.toN i)).key (dd (A.toN i)).val) (dd (A.toN i)).ret)=c3)(e4:A.nt (A.eq (alp n g (dd (A.toN i)).obj (dd (A.toN i)).op (dd (A.toN i)).key (dd (A.toN i)).val) (dd (A.toN i)).got)=c4)(h1:c0=ay->(A.inB i m)=ay)(h2:c0=ay->c1=aA->(ahb n g (dd (A.toN i)).obj (dd (A.toN i)).op)=ay)(y1:c0=ay->c1=ay->ψ (bU 0 [aW (aG 8 m (Am dd)) (aG 8 m (Am dd)),aC (ah m) (ah m),aC (A.add .i64 i (ah 1)) i',aW (aG 4 n g) (aG 4 n g')]))(y2:c0=ay->c1=aA->c2=ay->c3=ay->ψ (aN (bF [bG [aG 0 0 fun _=>[]],mP 184 (pJ [aQ .i64 i,dP 14 322])])))(y3:c0=ay->c1=aA->c2=ay->c3=aA->c4=ay->ψ (aN (bF [bG [aG 0 0 fun _=>[]],mP 184 (pJ [aQ .i64 i,dP 14 322])])))(y4:c0=ay->c1=aA->c2=ay->c3=aA->c4=aA->ψ (bU 0 [aW (aG 8 m (Am dd)) (aG 8 m (Am dd)),aC (ah m) (ah m),aC (A.add .i64 i (ah 1)) i',aW (aG 4 n (aem n g (dd (A.toN i)).obj (dd (A.toN i)).op (dd (A.toN i)).key (dd (A.toN i)).val)) (aG 4 n g')]))(y5:c0=ay->c1=aA->c2=aA->ψ (aN (bF [bG [aG 0 0 fun _=>[]],mP 184 (pJ [aQ .i64 i,dP (erG n g (dd (A.toN i)).obj (dd (A.toN i)).op (dd (A.toN i)).key (dd (A.toN i)).val) 322])])))(y6:c0=aA->ψ (aN (bF [bG [aG 4 n g],Sh.v cZ]))):CB ψ (BD (C7 A W TN Aw) Dy 300 400 83 auJ (abN n g m dd i) [] [⟨83,abM,abN n g' m dd i',[]⟩]):=by
 subst e0 e1 e2 e3 e4;exact JH (an (fun q0=>an (h1 q0) (an (y1 q0) (fun q1=>an (h2 q0 q1) (an (fun q2=>an (y2 q0 q1 q2) (fun q3=>an (y3 q0 q1 q2 q3) (y4 q0 q1 q2 q3))) (y5 q0 q1))))) y6)
end Go.Proofs
namespace Go.Pl
open Go Go.Sx Go.Proofs
def IY(n:Nat):ϝ->Nat->List Dd->(Nat×Nat) ⊕ (ϝ)
 |g,_,[]=>.inr g |g,i,d::l=>if d.ret=0 then IY n g (i+1) l else if Za n g d.obj d.op d.key d.val=ay then
   (if alo n g d.obj d.op d.key d.val=d.ret/\alp n g d.obj d.op d.key d.val=d.got then IY n (aem n g d.obj d.op d.key d.val) (i+1) l else .inl (i,14)) else .inl (i,erG n g d.obj d.op d.key d.val)
def WZ(n:Nat):ϝ->List Dd->Prop
 |_,[]=>True |g,d::l=>if d.ret=0 then WZ n g l else ahb n g d.obj d.op=ay/\(Za n g d.obj d.op d.key d.val=ay->WZ n (aem n g d.obj d.op d.key d.val) l)
end Go.Pl
namespace Go.Proofs
open Go Go.Sx Go.Pl
def auL(φ:Sh->Prop)(n:Nat):(Nat×Nat) ⊕ ϝ->Prop
 | .inr g=>φ (.Az [.agg [.sl 4 n g],.v .nilIface]) | .inl (i,e)=>φ (.Az [.agg [.sl 4 0 noT],.DK 184 (.pt [.i .i64 (i:Nat),.er e 322])])
theorem aiK(OD:AO ak (AZ W7) 107 D29)(stop:Nat->List Nat->Bool):BJ ak (C7 Ak W7 TN stop):=ig (fun g F h=>by
 grind [TN]) fun g h=>by
 unfold TN at h;split at h;all_goals first|(cases h;done) |kernel_rfl
section
variable{H0:Mem}{w0:World}{φ:Sh->Prop}{n m:Nat}{dd:Nat->Dd}
theorem aiL(OD:AO ak (AZ W7) 107 D29)(hm:m<=100000):∀r i g,i+r=m->WZ n g ((aU r).map fun j=>dd (i+j))->auL φ n (IY n g i ((aU r).map fun j=>dd (i+j)))->
  AB ak (C7 Ak W7 TN Aw) (K0 H0 w0) 83 abM (abN n g m dd (i:Nat)) [] emp (up φ)
 |0,i,g,hi,hf,hφ=>by
  refine D6 qA auJ ?_;refine BZ (aiK OD _) 300 400 [⟨83,abM,abN n g m dd 0,[]⟩] ?_;have lt {P:Prop} (h:Ak.lt (i:Int) (ah m)=ay):P:=by simp_all [Ar]
  have hφ:φ (.Az [.agg [.sl 4 n g],.v .nilIface]):=hφ;exact aen Ak W7 n g g m dd i 0 rfl rfl rfl rfl rfl (fun q=>lt q) (fun q=>lt q) (fun q=>lt q) (fun q=>lt q) (fun q=>lt q) (fun q=>lt q) (fun q=>lt q) (fun _=>AY (s':=.Az [.agg [.sl 4 n g],.v .nilIface]) ⟨⟨QY,ϖ⟩,rfl,ϖ⟩ hφ)
 |r+1,i,g,hi,hf,hφ=>by
  refine D6 qA auJ ?_;have w1:Ak.add .i64 (i:Int) (ah 1)=((i+1:Nat):Int):=add1 (by omega);have no {P:Prop} (h:Ak.lt (i:Int) (ah m)=aA):P:=by grind [Ar]
  have inb (h:Ak.lt (i:Int) (ah m)=ay):Ak.inB (i:Int) m=ay:=by simp[AX];omega
  have el:(aU (r+1)).map (fun j=>dd (i+j))=dd i::(aU r).map fun j=>dd (i+1+j):=by
   rw[List.range_succ_eq_map,List.map_cons,List.map_map];congr 1;grind [iJ]
  rw[el] at hf hφ;have bad (e:Nat) (h:φ (.Az [.agg [.sl 4 0 noT],.DK 184 (.pt [.i .i64 (i:Nat),.er e 322])])):up φ (.Az [.agg [.sl 0 0 fun _=>[]],.DK 184 (.pt [.i .i64 (i:Nat),.er e 322])]):=
   AY (s':=.Az [.agg [.sl 4 0 noT],.DK 184 (.pt [.i .i64 (i:Nat),.er e 322])]) ⟨⟨.inl ⟨rfl,rfl⟩,ϖ⟩,rfl,ϖ⟩ h
  by_cases h0:(dd i).ret=0
  ·have hf:WZ n g ((aU r).map fun j=>dd (i+1+j)):=by simp_all [WZ]
   have hφ:auL φ n (IY n g (i+1) ((aU r).map fun j=>dd (i+1+j))):=by simp_all [IY]
   have nx:=aiL OD hm r (i+1) g (by omega) hf hφ;refine BZ (aiK OD _) 300 400 [⟨83,abM,abN n g m dd ((i+1:Nat):Int),[]⟩] ?_;have c1 {P:Prop} (h:Ak.eq (dd i).ret (ah 0)=aA):P:=by simp_all [AQ]
   exact aen Ak W7 n g g m dd i _ rfl rfl rfl rfl rfl inb (fun _ q=>c1 q) (fun _ _=>⟨⟨rfl,rfl,w1,rfl,ϖ⟩,_,rfl,nx⟩) (fun _ q=>c1 q) (fun _ q=>c1 q) (fun _ q=>c1 q) (fun _ q=>c1 q) (fun q=>no q)
  ·have c1 {P:Prop} (h:Ak.eq (dd i).ret (ah 0)=ay):P:=(h0 (by grind [AQ])).elim
   unfold WZ at hf;rw[if_neg h0] at hf;unfold IY at hφ;rw[if_neg h0] at hφ;refine BZ (aiK OD _) 300 400 [⟨83,abM,abN n (aem n g (dd i).obj (dd i).op (dd i).key (dd i).val) m dd ((i+1:Nat):Int),[]⟩] ?_;have nte {a b:Int} (h:Ak.nt (Ak.eq a b)=ay):a≠b:=by grind [BG,AQ]
   have nfe {a b:Int} (h:Ak.nt (Ak.eq a b)=aA):a=b:=by grind [BG,AQ]
   refine aen Ak W7 n g _ m dd i _ rfl rfl rfl rfl rfl inb (fun _ _=>hf.1) (fun _ q=>c1 q) ?_ ?_ ?_ ?_ (fun q=>no q)
   ·intro _ _ q2 q3
    have q2:Za n g (dd i).obj (dd i).op (dd i).key (dd i).val=ay:=q2;rw[if_pos q2,if_neg fun e=>nte q3 e.1] at hφ
    exact bad 14 hφ
   ·intro _ _ q2 _ q4
    have q2:Za n g (dd i).obj (dd i).op (dd i).key (dd i).val=ay:=q2;rw[if_pos q2,if_neg fun e=>nte q4 e.2] at hφ
    exact bad 14 hφ
   ·intro _ _ q2 q3 q4
    have q2:Za n g (dd i).obj (dd i).op (dd i).key (dd i).val=ay:=q2;rw[if_pos q2,if_pos ⟨nfe q3,nfe q4⟩] at hφ;exact ⟨⟨rfl,rfl,w1,rfl,ϖ⟩,_,rfl,aiL OD hm r (i+1) _ (by omega) (hf.2 q2) hφ⟩
   ·intro _ _ q2
    have q2:Za n g (dd i).obj (dd i).op (dd i).key (dd i).val=aA:=q2;rw[if_neg (by rw[q2];simp)] at hφ;exact bad _ hφ
end
open Go Go.Sx Go.Pl
theorem azk:AO ak (AZ W7) 107 D29:=O29.mono fun H Bl args φ hr h=>by
 unfold D29 at h;split at h
 ·split at h
  ·rename_i n g i op k v e0 e1 e2 e3 e4
   obtain ⟨h1,h2,h3⟩:=h;unfold ahb at h1;rw[aB,aB] at h1;obtain ⟨a1,a2,a3⟩:=h1;unfold F29;simp only[e0,e1,e2,e3,e4];have no (e:Nat) (q:Za n g i op k v=aA) (q2:erG n g i op k v=e):φ (.Az [.agg [.sl 4 0 noT],.i .i64 0,.i .i64 0,.er e 322]):=by
    have:=h3 q;rw[q2] at this;exact this
   refine ⟨a1,a2,fun q=>?_,fun q=>no 6 ?_ ?_⟩
   ·have b3:aej (Ec n g i.toNat).q.length=ay/\MS op (len (Ec n g i.toNat).ps) (Am (nth (Ec n g i.toNat).ps))=ay:=by
     simp_all [ael]
    (refine ⟨b3.1,fun b=>no 7 ?_ ?_,fun b=>⟨fun c=>no 13 ?_ ?_,fun c=>⟨b3.2,h2 ?_⟩⟩⟩)<;>simp_all [Za,OH,erG,erN]
   ·simp_all [Za,OH]
   simp_all [erG,erN]
  ·exact h.elim
 ·exact h.elim
def apx(n:Nat)(g:ϝ)(l:List Dd):Bool:=@decide (WZ n g l) (aI _)
def aeo(n:Nat)(g:ϝ)(l:List Dd):Bool:=match IY n g 0 l with
 | .inr _=>ay | .inl _=>aA
def aep(n:Nat)(g:ϝ)(l:List Dd):ϝ:=match IY n g 0 l with
 | .inr g=>g | .inl _=>noT
def anO(n:Nat)(g:ϝ)(l:List Dd):Nat:=match IY n g 0 l with
 | .inr _=>0 | .inl (i,_)=>i
def anP(n:Nat)(g:ϝ)(l:List Dd):Nat:=match IY n g 0 l with
 | .inr _=>0 | .inl (_,e)=>e
def F76:ϵ
 |[.agg [s0],s1]=>match Dj 4 s0,Dj 8 s1 with
  |some (n,g),aj (m,h)=>.need (okB Dd m h) (.need (decide (m<=100000)) (.need (apx n g (lst Dd m h)) (.node (aeo n g (lst Dd m h))
   (.leaf (.Az [.agg [.sl 4 n (aep n g (lst Dd m h))],.v .nilIface]))
   (.leaf (.Az [.agg [.sl 4 0 noT],.DK 184 (.pt [.i .i64 (anO n g (lst Dd m h)),.er (anP n g (lst Dd m h)) 322])])))))
  |_,_=>.fail
 |_=>.fail
theorem O76:AO ak (AZ W7) 83 F76:=by
 refine CG (C7 Ak W7 TN Aw) qA fun H w Bl args φ hrep h=>?_
 have hn:qA.ntmps=54:=by kernel_rfl
 unfold F76 at h;split at h
 ·rename_i s0 s1
  split at h
  ·rename_i n g m hh e0 e1
   obtain ⟨h1,h2,h3,h4,h5⟩:=h;have h2:=ϑ h2;have h3:WZ n g (lst Dd m hh):=@ϑ _ (aI _) h3;match args,hrep with
   |[v,u],⟨rv,ru,_⟩=>
    have rv':Rep H (.agg [.sl 4 n g]) v:=by
     cases rv with
     |agg _ vs hl hr=>
      refine .agg _ _ hl fun j s' v' q1 q2=>?_
      grind [Bz]
    refine ⟨[.agg [.sl 4 n g],.sl 8 m (Am (Ap (α:=Dd) hh))],⟨rv',CY (Bz e1 ru) h1,ϖ⟩,L0,?_⟩;have hres:auL φ n (IY n g 0 (lst Dd m hh)):=by
     unfold aeo aep anO anP at *;cases hp:IY n g 0 (lst Dd m hh) with
     |inr g'=>rw[hp] at h4;exact h4 rfl |inl q=>
      obtain ⟨i,e⟩:=q;rw[hp] at h5;exact h5 rfl
    have el:lst Dd m hh=(aU m).map fun j=>Ap (α:=Dd) hh (0+j):=by
     simp_all [lst,Nat.zero_add]
    rw[el] at h3 hres;refine BZ (aiK azk _) 300 400 [⟨83,abM,abN n g m (Ap (α:=Dd) hh) ((0:Nat):Int),[]⟩] ?_;rw[hn];exact auK Ak W7 n g m (Ap (α:=Dd) hh) _ ⟨⟨rfl,rfl,rfl,rfl,ϖ⟩,_,rfl,aiL azk h2 m 0 g (by omega) h3 hres⟩
  ·exact h.elim
 ·exact h.elim
end Go.Proofs
namespace Go.Pl
open Go Go.Sx Go.Proofs
open Go.BI (Ev QZ)
def MV(o:Oj):Int:=bif En o.kind o.init then 109 else 0
def Jt(f:Nat->Int):Nat->Nat->Int×Nat
 |_,0=>(0,0) |k,r+1=>if f k=0 then Jt f (k+1) r else (f k,k)
def Lp(n:Nat)(o:Nat->Oj)(m:Nat)(p:Nat->Ev):Int×Nat:=
 if 8<n\/400<m then (105,0) else if (Jt (fun i=>MV (o i)) 0 n).1=0 then Jt (fun i=>Qe n o (p i)) 0 m else Jt (fun i=>MV (o i)) 0 n
def Og(c:Int×Nat):Sh:=.agg [.i .i64 c.1,.sl 1 (if c.1=0\/c.1=105 then 0 else 1) fun _=>[.i .i64 (c.2:Int)]]
def F83:ϵ
 |[.agg [s,t]]=>match Bd s,Bd t with
  |some k,aj i=>.leaf (.i .i64 (MV ⟨k,i⟩)) |_,_=>.fail
 |_=>.fail
def W9:ϕ
 |68=>aj F83 |69=>aj F84 |_=>aF
def F57:ϵ
 |[.agg [s,t]]=>match Dj 2 s,Dj 8 t with
  |some (n,g),aj (m,h)=>.need (okB Oj n g) (.need (Go.BI.okB Ev m h) (.leaf (Og (Lp n (Ap g) m (Go.BI.Ap h))))) |_,_=>.fail
 |_=>.fail
end Go.Pl
namespace Go.Proofs
open Go Go.Sx Go.Pl
open Go.BI (Ev QZ)
def ahc:List It:=[aK [0,1,0,1,1],aX 0,aK [1,1,1]]
def aDb:List It:=aK [0,0,1,0,1,1]::ahc
def aaH:List It:=[aK [0,1,0,1,1,1],aX 2,aK [1,1,1,1]]
def aAN:List It:=aK [0,0,1,0,1,1,1]::aaH
def alq(n m:Nat)(g h:ϝ)(i:Int):Core:={tm:=DF 57 [(1,.ptr 0 0),(2,.ptr 1 0),(3,.sym .i64 i)],hp:=[(0,.box [.sh (.sl 2 n g),.sh (.sl 8 m h)] 25),(1,.box [.int .i64 0,.Bg] 37)],nx:=2,lim:=L0,tc:=[]}
def aer(n m:Nat)(g h:ϝ)(i:Int):Core:={tm:=DF 57 [(1,.ptr 0 0),(2,.ptr 1 0),(5,.sym .i64 i)],hp:=[(0,.box [.sh (.sl 2 n g),.sh (.sl 8 m h)] 25),(1,.box [.int .i64 0,.Bg] 37)],nx:=2,lim:=L0,tc:=[]}
theorem O83:AO ak (AZ W7) 68 F83:=by
 refine CV (Ej Aw) 300 400 L0 Tryz.f68 fun H w Bl args φ hrep hφ=>?_
 unfold F83 at hφ;split at hφ
 ·split at hφ
  ·rename_i s t k i h1 h2
   match args,hrep with
   |[v],⟨hv,_⟩=>
    refine ⟨[.agg [.i .i64 k,.i .i64 i]],⟨OX hv (fun _ r=>Dz h1 r) (fun _ r=>Dz h2 r),ϖ⟩,?_⟩;rw[<-Dh];refine auv (bif decide (k<1) then 109 else bif decide (4<k) then 109 else bif decide (i < -1000000000) then 109 else bif decide (1000000000<i) then 109 else bif decide (2<k) then bif !(i==0) then 109 else 0 else 0) (AY (s':=.i .i64 (MV ⟨k,i⟩)) ?_ hφ);show aQ .i64 _=_;congr 1;have e:En k i=(decide (k<1)||decide (4<k)||decide (i < -1000000000)||decide (1000000000<i)||(decide (2<k) && !(i==0))):=by
     unfold En;rw[jK];simp;omega
    grind [MV,decide]
  ·exact hφ.elim
 ·exact hφ.elim
theorem anQ(stop:Nat->List Nat->Bool):BJ ak (C7 Ak W7 W9 stop):=ig (fun g F h=>by
 unfold W9 at h;grind [O83,O84]) fun g h=>by
 unfold W9 at h;split at h;all_goals first|(cases h;done) |kernel_rfl
theorem aAO{φ:Sh->Prop}{j:Nat}(h:φ (Og (0,j))):up φ (.agg [.i .i64 0,.sl 0 0 fun _=>[]]):=AY (s':=Og (0,j)) ⟨rfl,.inl ⟨rfl,rfl⟩,ϖ⟩ h
theorem apy{φ:Sh->Prop}{c:Int}{k:Nat}(h0:c≠0)(h1:c≠105)(h:φ (Og (c,k))):up φ (.agg [.i .i64 c,.os 3 1 1 (Bh [[.i .i64 (k:Int)]])]):=by
 unfold Og at h;rw[if_neg (by simp[h0,h1])] at h;exact AY (s':=.agg [.i .i64 c,.sl 1 1 fun _=>[.i .i64 (k:Int)]]) ⟨rfl,.inr ⟨rfl,rfl,fun i hi=>by
  obtain rfl:i=0:=by omega
  rfl⟩,ϖ⟩ h
theorem axT(e:Ev):XP e≠105:=by grind [XP,Go.BI.Lj,Go.BI.fieldsB]
theorem axU(n:Nat)(o:Nat->Oj)(e:Ev):Qe n o e≠105:=by
 grind [axT,Qe]
theorem axV(o:Oj):MV o≠105:=by grind [MV,En]
section
variable{H0:Mem}{w0:World}{φ:Sh->Prop}{n m:Nat}{o:Nat->Oj}{p:Nat->Ev}
theorem alr(hm:m<=400):∀r k,k+r=m->φ (Og (Jt (fun i=>Qe n o (p i)) k r))->AB ak (C7 Ak W7 W9 Aw) (K0 H0 w0) 44 aaH (aer n m (Am o) (Go.BI.Am p) (k:Nat)) [] emp (up φ)
 |r,k,hk,hφ=>by
  refine D6 qE aAN ?_;have e1:Ak.add .i64 (k:Int) 1=((k+1:Nat):Int):=add1 (by omega);have eo:=H6 (α:=Oj) o;refine BZ (anQ _) 300 400 [⟨44,aaH,aer n m (Am o) (Go.BI.Am p) (Ak.add .i64 (k:Int) 1),[]⟩] ?_;refine D9 (nd (Ak.lt (k:Int) (Ak.AV m)) (fun q=>an (?_:Ak.inB (k:Int) m=ay) (an (Cb o n) (nd (Ak.nt (Ak.eq (Qe n (Ap (Am o)) (p k)) 0))
   (fun a=>nd (Ak.eq (Qe n (Ap (Am o)) (p k)) 0) (fun b=>(?_:up φ (.agg [.i .i64 0,.sl 0 0 fun _=>[]]))) (fun b=>(?_:up φ (.agg [.i .i64 (Qe n (Ap (Am o)) (p k)),.os 3 1 1 (Bh [[.i .i64 (k:Int)]])]))))
   (fun a=>(?_:AB ak (C7 Ak W7 W9 Aw) (K0 H0 w0) 44 aaH (aer n m (Am o) (Go.BI.Am p) (Ak.add .i64 (k:Int) 1)) [] emp (up φ)))))) (fun q=>(?_:up φ (.agg [.i .i64 0,.sl 0 0 fun _=>[]]))))
  all_goals simp only[Ar,AL,BG,AQ,AX,eo] at *
  ·simp_all
  ·simp_all
  ·match r,hφ with
   |0,_=>simp_all |r+1,hφ=>
    have ne:Qe n o (p k)≠0:=by simpa using b
    simp_all [Jt,apy,axU]
  ·match r,hk,hφ with
   |0,hk,_=>simp_all |r+1,hk,hφ=>
    rw[show Ak.add .i64 (k:Int) 1=((k+1:Nat):Int) from e1];refine alr hm r (k+1) (by omega) ?_;simp_all [Jt]
  ·match r,hφ with
   |0,hφ=>exact aAO hφ |r+1,_=>grind
theorem apz(hn:n<=8)(hm:m<=400)(hB:(Jt (fun i=>MV (o i)) 0 n).1=0->φ (Og (Jt (fun i=>Qe n o (p i)) 0 m))):
  ∀r k,k+r=n->Jt (fun i=>MV (o i)) 0 n=Jt (fun i=>MV (o i)) k r->((Jt (fun i=>MV (o i)) 0 n).1≠0->φ (Og (Jt (fun i=>MV (o i)) 0 n)))->AB ak (C7 Ak W7 W9 Aw) (K0 H0 w0) 44 ahc (alq n m (Am o) (Go.BI.Am p) (k:Nat)) [] emp (up φ)
 |r,k,hk,he,hφ=>by
  refine D6 qE aDb ?_;have e1:Ak.add .i64 (k:Int) 1=((k+1:Nat):Int):=add1 (by omega);refine BZ (anQ _) 300 400 [⟨44,ahc,alq n m (Am o) (Go.BI.Am p) (Ak.add .i64 (k:Int) 1),[]⟩,⟨44,aaH,aer n m (Am o) (Go.BI.Am p) 0,[]⟩] ?_;refine D9 (nd (Ak.lt (k:Int) (Ak.AV n)) (fun q=>an (?_:Ak.inB (k:Int) n=ay) (nd (Ak.nt (Ak.eq (MV (o k)) 0))
   (fun a=>nd (Ak.eq (MV (o k)) 0) (fun b=>(?_:up φ (.agg [.i .i64 0,.sl 0 0 fun _=>[]]))) (fun b=>(?_:up φ (.agg [.i .i64 (MV (o k)),.os 3 1 1 (Bh [[.i .i64 (k:Int)]])]))))
   (fun a=>(?_:AB ak (C7 Ak W7 W9 Aw) (K0 H0 w0) 44 ahc (alq n m (Am o) (Go.BI.Am p) (Ak.add .i64 (k:Int) 1)) [] emp (up φ))))) (fun q=>(?_:AB ak (C7 Ak W7 W9 Aw) (K0 H0 w0) 44 aaH (aer n m (Am o) (Go.BI.Am p) 0) [] emp (up φ))))
  all_goals simp only[Ar,AL,BG,AQ,AX] at *
  ·simp_all
  ·simp_all
  ·match r,hk,he with
   |0,hk,_=>simp_all |r+1,hk,he=>
    have ne:MV (o k)≠0:=by simpa using b
    rw[show Jt (fun i=>MV (o i)) k (r+1)=(MV (o k),k) from if_neg ne] at he;grind [apy,axV]
  ·match r,hk,he with
   |0,hk,_=>simp_all |r+1,hk,he=>
    rw[show Ak.add .i64 (k:Int) 1=((k+1:Nat):Int) from e1];exact apz hn hm hB r (k+1) (by omega) (he.trans (if_pos (by simpa using a))) hφ
  ·match r,hk,he with
   |0,hk,he=>exact alr hm m 0 (by omega) (hB (by rw[he];rfl)) |r+1,hk,_=>grind
end
theorem O57:AO ak (AZ W7) 44 F57:=by
 refine CG (C7 Ak W7 W9 Aw) qE fun H w Bl args φ hrep hφ=>?_
 have hn:qE.ntmps=57:=by kernel_rfl
 unfold F57 at hφ;split at hφ
 ·rename_i s t
  split at hφ
  ·rename_i n g m h h1 h2
   obtain ⟨q1,q2,hφ⟩:=hφ;match args,hrep with
   |[v],⟨hv,_⟩=>
    refine ⟨[.agg [.sl 2 n (Am (Ap (α:=Oj) g)),.sl 8 m (Go.BI.Am (Go.BI.Ap (α:=Ev) h))]],⟨OX hv (fun _ u=>CY (Bz h1 u) q1) (fun _ u=>Go.BI.CY (Bz h2 u) q2),ϖ⟩,L0,?_⟩;have hφ:φ (Og (Lp n (Ap g) m (Go.BI.Ap h))):=hφ;generalize Ap (α:=Oj) g=o at *;generalize Go.BI.Ap (α:=Ev) h=p at *;refine BZ (anQ _) 300 400 [⟨44,ahc,alq n m (Am o) (Go.BI.Am p) 0,[]⟩] ?_;rw[hn];have big (q:8<n\/400<m):up φ (.agg [.i .i64 105,.sl 0 0 fun _=>[]]):=by
     unfold Lp at hφ;rw[if_pos q] at hφ;exact AY (s':=Og (105,0)) ⟨rfl,.inl ⟨rfl,rfl⟩,ϖ⟩ hφ
    refine D9 (nd (Ak.lt 8 (Ak.AV n)) (fun q=>big ?_) (fun q=>nd (Ak.lt 400 (Ak.AV m)) (fun a=>big ?_) (fun a=>
     (?_:AB ak (C7 Ak W7 W9 Aw) (K0 H w) 44 ahc (alq n m (Am o) (Go.BI.Am p) 0) [] emp (up φ)))))
    all_goals simp[Ar,AL] at *
    ·omega
    ·omega
    ·unfold Lp at hφ
     rw[if_neg (by omega)] at hφ;exact apz (k:=0) (by omega) (by omega) (fun z=>by simp_all) n (by omega) rfl (fun z=>by simp_all)
  ·exact hφ.elim
 ·exact hφ.elim
end Go.Proofs
namespace Go.BI
open Go Go.Sx
def Xa(n m:Nat)(o:Nat->Oj)(p:Nat->Ev):Option (Nat×Nat):=
 match IX (fun k=>TM (o k)) 0 n with
 |some x=>aj x |none=>IX (fun k=>Lm n o (p k)) 0 m
def auM(n m:Nat)(o:Nat->Oj)(p:Nat->Ev)(k:Nat):Nat->Option (Nat×Nat):=fun r=>
 match IX (fun k=>TM (o k)) k r with
 |some x=>aj x |none=>IX (fun k=>Lm n o (p k)) 0 m
end Go.BI
namespace Go.BX
open Go Go.Sx Go.BI
open Go.Proofs (LZ Y1)
theorem apA{H0:Mem}{w0:World}{n m:Nat}{o:Nat->Oj}{p:Nat->Ev}{φ:Sh->Prop}(hn:n<=8)(hm:m<=400)(hi:∀k,k<m->DN (p k).ret=ay):
  ∀rm k,k+rm=n->φ (resE (auM n m o p k rm))->AB ak (C5 Ak W5 Ll Aw) (K0 H0 w0) 75 LZ (aha n m o p (n:Int) k) [] emp φ
 |rm,k,hk,hφ=>by
  refine D6 iG Y1 ?_;refine CW EP (anN _) 300 200 [⟨75,LZ,aha n m o p (n:Int) (k+1:Nat),[]⟩,⟨75,ag9,XQ n m o p (m:Int) (0:Nat),[]⟩] ?_;rw[b51 Ak W5 n m o p (n:Int) k (k+1:Nat) (m:Int) (0:Nat)];simp only[Ar,AL,AX,Cm,Ef,I7,Tree.All,IV,dA];refine ⟨fun h=>?_,fun h=>?_⟩
  ·have hlt:k<n:=by simp_all
   have hw:bD.wrap ((k:Int)+1)=((k+1:Nat):Int):=by grind [CU]
   match rm,hk,hφ with
   |0,hk,_=>omega |rm+1,hk,hφ=>
    refine ⟨by simp;omega,fun q=>?_,fun q=>?_⟩
    ·have e:TM (o k)=aF:=by simp_all [TM]
     exact ⟨⟨rfl,rfl,hw,rfl,rfl,ϖ⟩,_,rfl,apA hn hm hi rm (k+1) (by omega) (by simp_all [auM,IX])⟩
    simp_all [TM,auM,IX,resE]
  ·have:k=n:=by grind
   have:rm=0:=by omega
   subst this;exact ⟨⟨rfl,rfl,rfl,rfl,rfl,ϖ⟩,_,rfl,aln hm hi m 0 (by omega) hφ⟩
end Go.BX
namespace Go.BI
open Go Go.Sx
def PX(m:Nat)(h:ϝ):Bool:=(aU m).all fun k=>DN (Ap (α:=Ev) h k).ret
def Lr(n m:Nat)(g h:ϝ):Int:=match Xa n m (Ap g) (Ap h) with|some (k,_)=>(k:Int) |none=>0
def PY(n m:Nat)(g h:ϝ):Nat:=match Xa n m (Ap g) (Ap h) with|some (_,e)=>e|none=>0
def EY(n m:Nat)(g h:ϝ):Bool:=(Xa n m (Ap g) (Ap h)).isNone
def FN(n m:Nat):Bool:=decide (8<n\/400<m)
end Go.BI
namespace Go.BX
open Go Go.Sx Go.BI
open Go.Proofs (LZ Y1)
def F51:ϵ
 |[.agg [.sl 2 n g,.sl 8 m h]]=>.need (okB Oj n g) (.need (okB Ev m h) (.need (PX m h) (.node (FN n m) (.leaf (.er 5 322)) (.node (EY n m g h) (.leaf (.v .nilIface)) (.leaf (.DK 184 (.pt [.i .i64 (Lr n m g h),.er (PY n m g h) 322]))))))) |_=>.fail
theorem O51:AO ak (NH W5) 75 F51:=by
 refine JA (C5 Ak W5 Ll Aw) iG fun H w Bl args φ hrep h=>?_
 have hn:iG.ntmps=78:=by kernel_rfl
 unfold F51 at h;split at h
 ·rename_i n g m h'
  obtain ⟨h1,h2,h3,h4,h5⟩:=h;match args,hrep with
  |[v],⟨hv,_⟩=>
   rw[hn];refine ⟨[.agg [.sl 2 n (Am (Ap (α:=Oj) g)),.sl 8 m (Am (Ap (α:=Ev) h'))]],⟨VA hv h1 h2,ϖ⟩,L0,?_⟩;refine CW EP (anN _) 300 200 [⟨75,LZ,aha n m (Ap g) (Ap h') (n:Int) (0:Nat),[]⟩] ?_;rw[a51 Ak W5 n m (Ap g) (Ap h') (n:Int) (0:Nat)];refine ⟨fun q=>h4 ?_,fun q=>⟨fun q'=>h4 ?_,fun q'=>⟨⟨rfl,rfl,rfl,rfl,rfl,ϖ⟩,_,rfl,?_⟩⟩⟩
   ·grind [Ar,AL,FN]
   ·grind [Ar,AL,FN]
   ·simp[Ar,AL] at q q'
    have h5:=h5 (by simp[FN];omega);refine apA (by omega) (by omega) (fun k hk=>?_) n 0 (by omega) ?_
    ·exact dh.1 h3 k (eF.2 hk)
    ·show φ (resE (Xa n m (Ap g) (Ap h')))
     obtain ⟨hT,hF⟩:=h5;unfold EY at hT hF;unfold Lr PY at hF;cases hb:Xa n m (Ap (α:=Oj) g) (Ap (α:=Ev) h') with
     |none=>rw[hb] at hT;exact hT rfl |some x=>rw[hb] at hF;exact hF rfl
 ·exact h.elim
open Go.Pl (Dj Bz)
theorem anR{H:Mem}{s0 s1 s0' s1':Sh}{v:Value}(hv:Rep H (.agg [s0,s1]) v)(h0:∀u,Rep H s0 u->Rep H s0' u)(h1:∀u,Rep H s1 u->Rep H s1' u):Rep H (.agg [s0',s1']) v:=by
 cases hv with
 |agg _ vs h2 h3=>
  refine .agg _ vs h2 fun j s v' e1 e2=>?_
  grind
def auN:ϵ
 |[.agg [s0,s1]]=>match Dj 2 s0,Dj 8 s1 with
  |some (n,g),aj (m,h)=>F51 [.agg [.sl 2 n g,.sl 8 m h]] |_,_=>.fail
 |_=>.fail
theorem aDd:AO ak (NH W5) 75 auN:=fun H w Bl args φ h1 h2 h3 h4=>by
 unfold auN at h4;split at h4
 ·rename_i s0 s1
  split at h4
  ·rename_i n g m h e1 e2
   match args,h3 with
   |[v],⟨hv,_⟩=>exact O51 H w [.agg [.sl 2 n g,.sl 8 m h]] [v] φ h1 h2 ⟨anR hv (fun u=>Bz e1) (fun u=>Bz e2),ϖ⟩ h4
  ·exact h4.elim
 ·exact h4.elim
end Go.BX
namespace Go.BI
open Go Go.Sx
def tmO(n:Nat)(l:List (Nat×SV)):List SV:=l.foldl (fun t p=>t.set p.1 p.2) (List.replicate n .any)
structure De where
 obj:Int
 op:Int
 key:Int
 val:Int
 ret:Int
 got:Int
 here:Int
 back:Int
 deriving DecidableEq,Inhabited
def deR(e:De):List Sh:=[.i .i64 e.obj,.i .i64 e.op,.i .i64 e.key,.i .i64 e.val,.i .i64 e.ret,.i .i64 e.got,.i .i64 e.here,.i .i64 e.back]
instance:Row De where
 put:=deR
 get l:=match l with
  |[.i .i64 a,.i .i64 b,.i .i64 c,.i .i64 d,.i .i64 e,.i .i64 f,.i .i64 g,.i .i64 h]=>aj ⟨a,b,c,d,e,f,g,h⟩ |_=>aF
 DL l a h:=by
  split at h
  ·cases h;rfl
  ·cases h
 get_put a:=rfl
 J4:=⟨0,0,0,0,0,0,0,0⟩
def Du(e:Ev):Bool:=Lj e&&fieldsB e&&DN e.ret
end Go.BI
namespace Go.BX
open Go Go.Sx Go.BI
def auP:ϵ
 |[.agg l]=>match abL l with
  |some e=>.need (Du e) (.leaf (.v .nilIface)) |none=>.fail
 |_=>.fail
def Kt:ϕ
 |96=>aj auP |97=>aj F57 |125=>aj F67 |_=>aF
def hpA(n m:Nat)(o:Nat->Oj)(many:Int)(gR:ϝ)(M1 M2:Int->Option Value)(f1 f2:List (Int×Bool×SV)):List (Nat×SB):=
 [(0,.box [.gs 6,.sym .i64 many,.gs 1,.mp 2,.mp 3] 190),(1,.own 191 1 m gR),(2,.fm .i64 M1 f1 [] aF),(3,.fm .i64 M2 f2 [] aF),(6,.own 94 2 n (Am o))]
def hpR(a b c d x y z:Int)(k:Nat)(gd:ϝ):List (Nat×SB):=
 [(4,.box [.sym .i64 a,.sym .i64 b,.sym .i64 c,.sym .i64 d,.sym .i64 x,.sym .i64 y,.gs 5,.sym .i64 z] 193),(5,.own 128 8 k gd)]
def evS(kind:Int)(e:Ev):SV:=.agg [.int .i64 kind,.sym .i64 e.tx,.sym .i64 e.thread,.sym .i64 e.obj,.sym .i64 e.op,.sym .i64 e.key,.sym .i64 e.val,.sym .i64 e.ret]
def LA(kind:Int)(e:Ev)(hp:List (Nat×SB)):Core:={tm:=tmO 168 [(0,.ptr 0 0),(1,evS kind e)],hp,nx:=7,lim:=L0,tc:=[]}
def toR(n m:Nat)(o:Nat->Oj)(gR:ϝ)(M1 M2:Int->Option Value)(e:Ev)(many' a' b' c' d' x' y' z':Int)(k':Nat)(gd':ϝ)(us:List (Int×Bool×SV)):Tt:=
 ⟨[(0,.box [.gs 6,.sym .i64 many',.gs 1,.mp 2,.mp 3] 190),(1,.own 191 1 m gR),(2,.fm .i64 M1 [(e.tx,ay,.ptr 4 0)] [] aF),(3,.fm .i64 M2 [] us aF),(6,.own 94 2 n (Am o)),
  (4,.box [.sym .i64 a',.sym .i64 b',.sym .i64 c',.sym .i64 d',.sym .i64 x',.sym .i64 y',.gs 5,.sym .i64 z'] 193),(5,.own 128 8 k' gd')],[0,4]⟩
def toN(n m:Nat)(o:Nat->Oj)(many':Int)(gR:ϝ)(M1 M2:Int->Option Value)(f1 f2:List (Int×Bool×SV)):Tt:=⟨hpA n m o many' gR M1 M2 f1 f2,[0]⟩
def toB(n m:Nat)(o:Nat->Oj)(gR:ϝ)(M1 M2:Int->Option Value)(e:Ev)(many' a' b' c' d' x' y' z':Int):Tt:=
 ⟨[(0,.box [.gs 6,.sym .i64 many',.gs 1,.mp 2,.mp 3] 190),(6,.own 94 2 n (Am o)),(1,.Ik 191 1 m gR [.ptr 4 0]),(2,.fm .i64 M1 [(e.tx,aA,.any)] [(e.tx,ay,.ptr 4 0),(e.tx,ay,.any)] aF),(3,.fm .i64 M2 [(e.thread,aA,.any)] [(e.thread,ay,.ptr 4 0),(e.thread,ay,.any)] aF),
  (4,.box [.sym .i64 a',.sym .i64 b',.sym .i64 c',.sym .i64 d',.sym .i64 x',.sym .i64 y',.Bg,.sym .i64 z'] 193)],[0]⟩
end Go.BX
namespace Go.BI
open Go Go.Sx
structure Rc where
 id:Int
 th:Int
 st:Int
 bg:Int
 en:Int
 tr:Int
 AA:List De
 stand:Int
structure Au where
 many:Nat
 rs:List Rc
def Au.H8(σ:Au)(k:Int):Option Nat:=σ.rs.findIdx? fun r=>r.id==k
def Rc.live(r:Rc):Bool:=!(r.stand==5)
def Au.KO(σ:Au)(k:Int):Option Nat:=σ.rs.findIdx? fun r=>r.th==k&&r.live
def FC{α:Type}(f:α->α):List α->List α
 |[]=>[] |[x]=>[f x] |x::y::l=>x::FC f (y::l)
def Rc.step(many:Nat)(e:Ev)(r:Rc):Nat ⊕ Rc:=
 bif e.kind==2 then bif r.stand==1 then .inr {r with stand:=2,AA:=r.AA++[⟨e.obj,e.op,e.key,e.val,0,0,many,-1⟩]} else .inl 11
 else bif e.kind==3 then bif r.stand==2 then bif H7 (r.AA.getLast?.getD Row.J4).op e.ret then .inr {r with stand:=1,AA:=FC (fun d=>{d with ret:=e.ret,got:=e.val,back:=many}) r.AA} else .inl 14 else .inl 11
 else bif e.kind==4 then bif r.stand==1 then .inr {r with stand:=3,tr:=many,st:=2} else .inl 11
 else bif e.kind==7 then bif r.stand==1 then .inr {r with stand:=4} else .inl 11
 else bif e.kind==5 then bif r.stand==3 then .inr {r with stand:=5,en:=many,st:=3} else .inl 11
 else bif r.stand==1||r.stand==2||r.stand==3||r.stand==4 then .inr {r with stand:=5,en:=many,st:=4} else .inl 11
def Au.feed(σ:Au)(e:Ev):Option Nat×Au:=
 match σ.H8 e.tx with
 |some i=>bif e.kind==1 then (aj 8,σ) else match Rc.step σ.many e (σ.rs.getD i ⟨0,0,0,0,0,0,[],0⟩) with
  | .inl k=>(aj k,σ) | .inr r=>(aF,⟨σ.many+1,σ.rs.set i r⟩)
 |none=>bif e.kind==1 then (match σ.KO e.thread with
  |some _=>(aj 9,σ) |none=>(aF,⟨σ.many+1,σ.rs++[⟨e.tx,e.thread,1,σ.many,-1,-1,[],1⟩]⟩)) else (aj 10,σ)
structure Au.OK(σ:Au):Prop where
 one:∀(i j:Nat) (r s:Rc),σ.rs[i]?=aj r->σ.rs[j]?=aj s->r.th=s.th->r.live=ay->s.live=ay->i=j
 deed:∀(i:Nat) (r:Rc),σ.rs[i]?=aj r->r.stand=2->r.AA≠[]
 stands:∀(i:Nat) (r:Rc),σ.rs[i]?=aj r->1<=r.stand/\r.stand<=5
 len:σ.rs.length<=σ.many
 dl:∀(i:Nat) (r:Rc),σ.rs[i]?=aj r->r.AA.length<=σ.many
end Go.BI
namespace Go.Sx
open Go.BI
def Es(b:Nat):Value:=.pointer (aj ⟨b,0,aF⟩)
structure Lay where
 p:Nat
 v0:Value
 v2:Value
 b1:Nat
 b2:Nat
 R:Nat->Nat
 D:Nat->Value
inductive Tg where
 |au|tx|NI|bu|ob
 |rc (i:Nat)
 |de (i:Nat)
 deriving DecidableEq
def Lay.blk(L:Lay)(n:Nat):Tg->Option Nat
 | .au=>aj L.p | .tx=>Ba L.v2 | .NI=>aj L.b1 | .bu=>aj L.b2 | .ob=>Ba L.v0 | .rc i=>if i<n then aj (L.R i) else aF
 | .de i=>if i<n then Ba (L.D i) else aF
def Zb(r:Rc)(d:Value):Array Value:=#[.int .i64 r.id,.int .i64 r.th,.int .i64 r.st,.int .i64 r.bg,.int .i64 r.en,.int .i64 r.tr,d,.int .i64 r.stand]
def deV(d:De):List Value:=[.int .i64 d.obj,.int .i64 d.op,.int .i64 d.key,.int .i64 d.val,.int .i64 d.ret,.int .i64 d.got,.int .i64 d.here,.int .i64 d.back]
structure D7(H:Mem)(w:World)(n0:Nat)(g0:ϝ)(σ:Au)(L:Lay):Prop where
 au:w.heap[L.p]?=aj (.cells #[L.v0,.int .i64 σ.many,L.v2,.map (aj L.b1),.map (aj L.b2)] 190 (0,0))
 ob:∃xs,w.ownsRow 0 94 2 L.v0 n0 xs/\CQ H 2 n0 g0 xs
 tx:w.ownsRow 0 191 1 L.v2 σ.rs.length ((aU σ.rs.length).map fun i=>Es (L.R i))
 NI:∃ms clk,w.heap[L.b1]?=aj (.map ms clk)/\FW .i64 ms.toList clk fun k=>(σ.H8 k).map fun i=>Es (L.R i)
 bu:∃ms clk,w.heap[L.b2]?=aj (.map ms clk)/\FW .i64 ms.toList clk fun k=>(σ.KO k).map fun i=>Es (L.R i)
 rc:∀i r,σ.rs[i]?=aj r->w.heap[L.R i]?=aj (.cells (Zb r (L.D i)) 193 (0,0))
 de:∀i r,σ.rs[i]?=aj r->w.ownsRow 0 128 8 (L.D i) r.AA.length (r.AA.flatMap deV)
 GH:∀s t b,L.blk σ.rs.length s=aj b->L.blk σ.rs.length t=aj b->s=t
 un:∀t b,L.blk σ.rs.length t=aj b->H b=aF
section
variable{H H':Mem}{w w':World}{n0:Nat}{g0:ϝ}{σ:Au}{L:Lay}
theorem aeu{e st n:Nat}{v:Value}{xs:List Value}{b:Nat}(h:w.ownsRow 0 e st v n xs)(hb:Ba v=aj b):b<w.heap.size:=by
 rcases h.2 with ⟨rfl,_⟩ |⟨g,cap,cur,rfl,_,hg,_⟩
 ·cases hb
 ·cases hb
  grind
theorem D7.lt(h:D7 H w n0 g0 σ L){t:Tg}{b:Nat}(hb:L.blk σ.rs.length t=aj b):b<w.heap.size:=by
 cases t with
 |au=>cases hb;exact (bC.1 h.au).1 |tx=>exact aeu h.tx hb |NI=>cases hb;obtain ⟨ms,clk,h1,_⟩:=h.NI;grind |bu=>cases hb;obtain ⟨ms,clk,h1,_⟩:=h.bu;grind |ob=>obtain ⟨xs,h1,_⟩:=h.ob;exact aeu h1 hb |rc i=>
  simp only[Lay.blk] at hb;split at hb
  ·rename_i hi
   cases hb;exact (bC.1 (h.rc i _ (aV hi))).1
  ·cases hb
 |de i=>
  simp only[Lay.blk] at hb;split at hb
  ·rename_i hi
   exact aeu (h.de i _ (aV hi)) hb
  ·cases hb
theorem D7.keep(h:D7 H w n0 g0 σ L)(hH:H.le H')(hw:∀t b,L.blk σ.rs.length t=aj b->w'.heap[b]?=w.heap[b]?)(hu:∀t b,L.blk σ.rs.length t=aj b->H' b=aF):D7 H' w' n0 g0 σ L:=by
 refine ⟨by rw[hw .au _ rfl];exact h.au,(let ⟨xs,h1,h2⟩:=h.ob;⟨xs,GX h1 fun b hb=>hw .ob b hb,h2.le hH⟩),GX h.tx fun b hb=>hw .tx b hb,?_,?_,fun i r hi=>?_,fun i r hi=>GX (h.de i r hi) fun b hb=>hw (.de i) b ?_,h.GH,hu⟩
 ·obtain ⟨ms,clk,h1,h2⟩:=h.NI
  exact ⟨ms,clk,by rw[hw .NI _ rfl];exact h1,h2⟩
 ·obtain ⟨ms,clk,h1,h2⟩:=h.bu
  exact ⟨ms,clk,by rw[hw .bu _ rfl];exact h1,h2⟩
 ·have hlt:=(bf.1 hi).1
  rw[hw (.rc i) _ (by simp[Lay.blk,hlt])];exact h.rc i r hi
 grind [bf,Lay.blk]
end
end Go.Sx
namespace Go.BI
open Go Go.Sx
theorem RS{α:Type}[Row α](l:List α)(a:α){r:List (List Sh)}(h:Bh r 0=Row.put a):∀i,i<l.length+1->Ak.snoc (Am (nth l)) l.length (Bh r) i=Am (nth (l++[a])) i:=fun i hi=>by
 rw[Dn];split
 ·simp_all [Am,nth,List.getD_eq_getElem?_getD]
 ·have:i=l.length:=by omega
  simp_all [gK,Am,nth]
end Go.BI
namespace Go.Sx
open Go.BI
def svE:Option Nat->SV
 |none=>.Eo |some k=>.sh (.er k 322)
def lqN:Tree (SV×Nat×List BL)->List BL
 | .leaf (_,_,q)=>q |_=>[]
theorem J9{ts:List Tt}{φ:SV->Nat->Prop}{t:Tree (SV×Nat×List BL)}{v:SV}{k:Nat}(l cs:List Bool)(hc:cs=l)(h:φ v k)(p:List Nat:=[])(rem:List BL:=[])(hr:bZ rem:=by trivial)
  (ht:t.RY l=(cs,(t.RY l).2.1.map BL.dg,.leaf (v,k,Y8 0 p rem (lqN (t.RY l).2.2))):=by kernel_rfl):Wq (adL ts φ) t:=by
 rw[adM];refine Tree.NG (l:=l) (by rw[ht];exact hc) (by rw[ht];exact I8 _) ?_;rw[ht];exact ⟨PU hr,h⟩
end Go.Sx
namespace Go.BI
open Go Go.Sx
def Rc.out(many:Nat)(e:Ev)(r:Rc):Option Nat×Nat×Rc:=
 match Rc.step many e r with
 | .inl k=>(aj k,many,r) | .inr r'=>(aF,many+1,r')
theorem PZ{α:Type}(f:α->α):∀l:List α,(FC f l).length=l.length
 |[]=>rfl |[_]=>rfl |_::y::l=>by simp[FC,PZ f (y::l)]
theorem ahd{α:Type}[Row α]{l:List α}(_h:l≠[]):nth l (l.length - 1)=l.getLast?.getD Row.J4:=by
 grind [nth]
theorem VB{α:Type}[Row α](f:α->α):∀(l:List α) (i:Nat),i<l.length->nth (FC f l) i=if i=l.length - 1 then f (nth l i) else nth l i
 |[],i,h=>by simp at h |[x],i,_=>by
  simp_all [FC,nth]
 |x::y::l,0,_=>by rfl |x::y::l,i+1,h=>by
  have ih:=VB f (y::l) i (by simpa using h);simp_all [nth,FC]
end Go.BI
namespace Go.BX
open Go Go.Sx Go.BI
theorem aDf:AO ak (NH W5) 96 auP:=O56.mono fun H Bl args φ hr h=>by
 clear hr;unfold auP at h;split at h
 ·rename_i l
  split at h
  ·rename_i e he
   obtain ⟨h1,h2⟩:=h;unfold Du at h1;simp only[aB] at h1;show (match abL l with|some e=>_|none=>_:Tree Sh).All φ
   rw[he];refine ⟨h1.2,fun _=>?_,fun q=>?_⟩
   ·refine ⟨fun _=>h2,fun q=>?_⟩
    simp_all
   simp_all
  ·exact h.elim
 ·exact h.elim
theorem aDg:∀g F,Kt g=aj F->AO ak (NH W5) g F:=fun g F h=>by
 unfold Kt at h;grind [aDf,O57,O67]
theorem VD(stop:Nat->List Nat->Bool):BJ ak (C5 Ak W5 Kt stop):=C5.OG aDg fun g h=>by
 unfold Kt at h;split at h;all_goals first|(cases h;done) |kernel_rfl
theorem eqS(a:Int):Ak.eq a a=ay:=by simp[AQ]
theorem wrapM{many:Nat}(hm:many<400):Ak.add .i64 (many:Int) 1=((many+1:Nat):Int):=by
 grind [Ef,CU]
def c3(many:Nat)(e:Ev)(l:List Bool):List Bool:=[Ak.eq (many:Int) 400,Du e,Ak.eq e.tx e.tx]++l
theorem azl{many:Nat}(hm:many<400):Ak.eq (many:Int) 400=aA:=by simp[AQ];omega
theorem IZ{many:Nat}{e:Ev}(hm:many<400)(hv:Du e=ay){l l':List Bool}(h:l=l'):c3 many e l=aA::ay::ay::l':=by
 unfold c3;rw[azl hm,hv,eqS,h];rfl
def Qy(n m:Nat)(o:Nat->Oj)(gR:ϝ)(M1 M2:Int->Option Value)(e:Ev)(many:Nat)(r:Rc)(us:List (Int×Bool×SV)):Tt:=
 toR n m o gR M1 M2 e many r.id r.th r.st r.bg r.en r.tr r.stand r.AA.length (Am (nth r.AA)) us
def Xb(r:Rc):List (Nat×SB):=hpR r.id r.th r.st r.bg r.en r.tr r.stand r.AA.length (Am (nth r.AA))
def FdM(kd:Int)(e:Ev)(hp:List (Nat×SB))(ts:List Tt)(φ:SV->Nat->Prop):Prop:=
 Wq (adL ts φ) ((run (C5 Ak W5 Kt Ei) 700 ay 77 [.code []] (LA kd e hp)).bind (toEnd ts))
section
variable{n m:Nat}{o:Nat->Oj}{many:Nat}{gR:ϝ}{M1 M2:Int->Option Value}
def hpF(n m:Nat)(o:Nat->Oj)(many:Nat)(gR:ϝ)(M1 M2:Int->Option Value)(e:Ev)(r:Rc):List (Nat×SB):=hpA n m o many gR M1 M2 [(e.tx,ay,.ptr 4 0)] []++Xb r
theorem anT(hm:many<400){e:Ev}(hv:Du {e with kind:=2}=ay)(o1:0<=e.obj)(o2:e.obj<n)(o3:PW e.op=(o e.obj.toNat).kind){l l':List Bool}(h:l=l'):
  [Ak.eq (many:Int) 400,Du {e with kind:=2},Ak.le (Ak.AV n) e.obj,Ak.inB e.obj n,Ak.nt (Ak.eq (PW e.op) (o (Ak.toN e.obj)).kind),Ak.eq e.tx e.tx]++l=aA::ay::aA::ay::aA::ay::l':=by
 rw[azl hm,hv,eqS,h,show Ak.le (Ak.AV n) e.obj=aA from decide_eq_false (by simp[AL];omega),show Ak.inB e.obj n=ay by simp[AX];omega,show Ak.nt (Ak.eq (PW e.op) (o (Ak.toN e.obj)).kind)=aA by simp[BG,AQ,Cm,o3]];rfl
theorem aAS(hm:many<400){e:Ev}(k2:2<=e.kind)(k7:e.kind<=7)(hv:Du e=ay)(r:Rc)(hl:r.AA.length<=1000)(hob:e.kind=2->0<=e.obj/\e.obj<n/\PW e.op=(o e.obj.toNat).kind)(hd:r.stand=2->r.AA≠[]):
  FdM e.kind e (hpF n m o many gR M1 M2 e r) [Qy n m o gR M1 M2 e (Rc.out many e r).2.1 (Rc.out many e r).2.2 [],Qy n m o gR M1 M2 e (Rc.out many e r).2.1 (Rc.out many e r).2.2 [(r.th,aA,.any)]]
   (fun sv k=>sv=svE (Rc.out many e r).1/\k=bif (e.kind==5||e.kind==6)&&(Rc.out many e r).1.isNone then 1 else 0):=by
 have hw:=wrapM hm;have hE (k:Int) (h:e.kind=k):Du {e with kind:=k}=ay:=by rw[<-h];exact hv
 have T (k:Int) (h:r.stand=k):Ak.eq r.stand k=ay:=ϱ h;have F (k:Int) (h:¬r.stand=k):Ak.eq r.stand k=aA:=decide_eq_false h;have up (r') (h:Rc.step many e r=.inr r'):Rc.out many e r=(aF,many+1,r'):=by unfold Rc.out;rw[h]
 have ub (k) (h:Rc.step many e r=.inl k):Rc.out many e r=(aj k,many,r):=by unfold Rc.out;rw[h]
 obtain hk|hk|hk|hk|hk|hk:e.kind=2\/e.kind=3\/e.kind=4\/e.kind=5\/e.kind=6\/e.kind=7:=by omega
 all_goals
  have hv:=hE _ hk;rw[hk]
 ·obtain ⟨o1,o2,o3⟩:=hob hk
  by_cases hs:r.stand=1
  ·rw[up {r with stand:=2,AA:=r.AA++[⟨e.obj,e.op,e.key,e.val,0,0,many,-1⟩]} (by simp[Rc.step,hk,hs])]
   unfold Qy;rw[<-hw];have hlen (d:De):r.AA.length+1=(r.AA++[d]).length:=by simp
   have hroom:Ak.room (Ak.addN r.AA.length 1) 64=ay:=by
    show decide ((r.AA.length+1)*64<=140737488355328/\r.AA.length+1<=maxLen)=ay;grind [maxLen_eq,ϱ]
   exact J9 _ _ (anT hm hv o1 o2 o3 (l:=[Ak.eq r.stand 1,Ak.room (Ak.addN r.AA.length 1) 64,Ak.room (Ak.addN r.AA.length 1) 64]) (by rw[T 1 hs,hroom])) ⟨rfl,rfl⟩ [15,16]
    [aZ (Ak.addN r.AA.length 1) (r.AA++[(⟨e.obj,e.op,e.key,e.val,0,0,many,-1⟩:De)]).length,bY (Ak.addN r.AA.length 1) (Ak.snoc (Am (nth r.AA)) r.AA.length (Bh [[.i .i64 e.obj,.i .i64 e.op,.i .i64 e.key,.i .i64 e.val,.i .i64 0,.i .i64 0,.i .i64 many,.i .i64 (-1)]])) (Am (nth (r.AA++[(⟨e.obj,e.op,e.key,e.val,0,0,many,-1⟩:De)])))]
    ⟨hlen _,RS (α:=De) _ _ rfl,ϖ⟩
  ·rw[ub 11 (by simp[Rc.step,hk,beq_false_of_ne hs])]
   exact J9 _ _ (anT hm hv o1 o2 o3 (l:=[Ak.eq r.stand 1]) (by rw[F 1 hs])) ⟨rfl,rfl⟩
 ·by_cases hs:r.stand=2
  ·have hd:=hd hs
   have hpos:=List.length_pos_iff.2 hd;have e1:Ak.sub .i64 (Ak.AV r.AA.length) (ah 1)=((r.AA.length - 1:Nat):Int):=by grind [OV,AL,CU,Int.ofNat_eq_natCast]
   have hix:Ak.toN (Ak.sub .i64 (Ak.AV r.AA.length) (ah 1))=r.AA.length - 1:=by rw[e1];rfl
   have hq:nth r.AA (Ak.toN (Ak.sub .i64 (Ak.AV r.AA.length) (ah 1)))=r.AA.getLast?.getD Row.J4:=by rw[hix];exact ahd hd
   have hi:Ak.inB (Ak.sub .i64 (Ak.AV r.AA.length) (ah 1)) r.AA.length=ay:=by
    rw[e1];simp[AX];omega
   have c6 (b) (hf:H7 (r.AA.getLast?.getD Row.J4).op e.ret=!b):[Ak.eq r.stand 2,Ak.inB (Ak.sub .i64 (Ak.AV r.AA.length) (ah 1)) r.AA.length,Ak.nt (H7 (nth r.AA (Ak.toN (Ak.sub .i64 (Ak.AV r.AA.length) (ah 1)))).op e.ret)]=[ay,ay,b]:=by
    rw[T 2 hs,hi,hq,hf,BG,Bool.not_not]
   cases hf:H7 (r.AA.getLast?.getD Row.J4).op e.ret with
   |true=>
    rw[up {r with stand:=1,AA:=FC (fun d=>{d with ret:=e.ret,got:=e.val,back:=many}) r.AA} (by simp[Rc.step,hk,hs,hf])]
    unfold Qy;rw[<-hw];exact J9 _ _ (IZ hm hv (c6 aA hf)) ⟨rfl,rfl⟩ [15,16]
     [aZ r.AA.length (FC (fun d:De=>{d with ret:=e.ret,got:=e.val,back:=(many:Int)}) r.AA).length,bY r.AA.length (Ak.upd (Ak.upd (Ak.upd (Am (nth r.AA)) (Ak.toN (Ak.sub .i64 (Ak.AV r.AA.length) (ah 1))) 4 [.i .i64 e.ret]) (Ak.toN (Ak.sub .i64 (Ak.AV r.AA.length) (ah 1))) 5 [.i .i64 e.val]) (Ak.toN (Ak.sub .i64 (Ak.AV r.AA.length) (ah 1))) 7 [.i .i64 many]) (Am (nth (FC (fun d:De=>{d with ret:=e.ret,got:=e.val,back:=(many:Int)}) r.AA)))]
     ⟨(PZ _ _).symm,fun i hi=>by
      rw[hix];simp only[Am];rw[VB _ _ _ hi];by_cases q:i=r.AA.length - 1
      ·rw[if_pos q]
       subst q;simp only[Ak,if_true];rfl
      ·rw[if_neg q]
       simp only[Ak,if_neg q];rfl,ϖ⟩
   |false=>
    rw[ub 14 (by simp[Rc.step,hk,hs,hf])];exact J9 _ _ (IZ hm hv (c6 ay hf)) ⟨rfl,rfl⟩
  ·rw[ub 11 (by simp[Rc.step,hk,beq_false_of_ne hs])]
   exact J9 _ (c3 many {e with kind:=3} [Ak.eq r.stand 2]) (IZ hm hv (by rw[F 2 hs])) ⟨rfl,rfl⟩
 ·by_cases hs:r.stand=1
  ·rw[up {r with stand:=3,tr:=many,st:=2} (by simp[Rc.step,hk,hs])]
   unfold Qy;rw[<-hw];exact J9 _ (c3 many {e with kind:=4} [Ak.eq r.stand 1]) (IZ hm hv (by rw[T 1 hs])) ⟨rfl,rfl⟩
  ·rw[ub 11 (by simp[Rc.step,hk,beq_false_of_ne hs])]
   exact J9 _ (c3 many {e with kind:=4} [Ak.eq r.stand 1]) (IZ hm hv (by rw[F 1 hs])) ⟨rfl,rfl⟩
 ·by_cases hs:r.stand=3
  ·rw[up {r with stand:=5,en:=many,st:=3} (by simp[Rc.step,hk,hs])]
   unfold Qy;rw[<-hw];exact J9 _ (c3 many {e with kind:=5} [Ak.eq r.stand 3]) (IZ hm hv (by rw[T 3 hs])) ⟨rfl,rfl⟩
  ·rw[ub 11 (by simp[Rc.step,hk,beq_false_of_ne hs])]
   exact J9 _ (c3 many {e with kind:=5} [Ak.eq r.stand 3]) (IZ hm hv (by rw[F 3 hs])) ⟨rfl,rfl⟩
 ·by_cases hs:1<=r.stand/\r.stand<=4
  ·rw[up {r with stand:=5,en:=many,st:=4} (by grind [Rc.step])]
   unfold Qy;rw[<-hw];obtain hs|hs|hs|hs:r.stand=1\/r.stand=2\/r.stand=3\/r.stand=4:=by omega
   ·exact J9 _ (c3 many {e with kind:=6} [Ak.eq r.stand 1]) (IZ hm hv (by rw[T 1 hs])) ⟨rfl,rfl⟩
   ·exact J9 _ (c3 many {e with kind:=6} [Ak.eq r.stand 1,Ak.eq r.stand 2]) (IZ hm hv (by rw[F 1 (by omega),T 2 hs])) ⟨rfl,rfl⟩
   ·exact J9 _ (c3 many {e with kind:=6} [Ak.eq r.stand 1,Ak.eq r.stand 2,Ak.eq r.stand 3]) (IZ hm hv (by rw[F 1 (by omega),F 2 (by omega),T 3 hs])) ⟨rfl,rfl⟩
   ·exact J9 _ (c3 many {e with kind:=6} [Ak.eq r.stand 1,Ak.eq r.stand 2,Ak.eq r.stand 3,Ak.eq r.stand 4]) (IZ hm hv (by rw[F 1 (by omega),F 2 (by omega),F 3 (by omega),T 4 hs])) ⟨rfl,rfl⟩
  ·rw[ub 11 (by grind [Rc.step])]
   exact J9 _ (c3 many {e with kind:=6} [Ak.eq r.stand 1,Ak.eq r.stand 2,Ak.eq r.stand 3,Ak.eq r.stand 4]) (IZ hm hv (by rw[F 1 (by omega),F 2 (by omega),F 3 (by omega),F 4 (by omega)])) ⟨rfl,rfl⟩
 ·by_cases hs:r.stand=1
  ·rw[up {r with stand:=4} (by simp[Rc.step,hk,hs])]
   unfold Qy;rw[<-hw];exact J9 _ (c3 many {e with kind:=7} [Ak.eq r.stand 1]) (IZ hm hv (by rw[T 1 hs])) ⟨rfl,rfl⟩
  ·rw[ub 11 (by simp[Rc.step,hk,beq_false_of_ne hs])]
   exact J9 _ (c3 many {e with kind:=7} [Ak.eq r.stand 1]) (IZ hm hv (by rw[F 1 hs])) ⟨rfl,rfl⟩
theorem axW(hm:many<400){e:Ev}(k2:2<=e.kind)(k7:e.kind<=7)(hv:Du e=ay)(hob:e.kind=2->0<=e.obj/\e.obj<n/\PW e.op=(o e.obj.toNat).kind):
  FdM e.kind e (hpA n m o many gR M1 M2 [(e.tx,aA,.any)] []) [toN n m o many gR M1 M2 [(e.tx,aA,.any)] []] (fun sv k=>sv=svE (aj 10)/\k=0):=by
 have hE (k:Int) (h:e.kind=k):c3 many {e with kind:=k} []=[aA,ay,ay]:=IZ hm (by rw[<-h];exact hv) rfl
 obtain hk|hk|hk|hk|hk|hk:e.kind=2\/e.kind=3\/e.kind=4\/e.kind=5\/e.kind=6\/e.kind=7:=by omega
 all_goals rw[hk]
 ·obtain ⟨o1,o2,o3⟩:=hob hk
  exact J9 _ _ (anT hm (by rw[<-hk];exact hv) o1 o2 o3 (l:=[]) rfl) ⟨rfl,rfl⟩
 all_goals exact J9 _ _ (hE _ hk) ⟨rfl,rfl⟩
theorem auQ(hm:many<400){e:Ev}(hk:e.kind=1)(hv:Du e=ay)(r:Rc):FdM 1 e (hpF n m o many gR M1 M2 e r) [Qy n m o gR M1 M2 e many r []] (fun sv k=>sv=svE (aj 8)/\k=0):=
 J9 _ (c3 many {e with kind:=1} []) (IZ hm (by rw[<-hk];exact hv) rfl) ⟨rfl,rfl⟩
theorem axX(hm:many<400){e:Ev}(hk:e.kind=1)(hv:Du e=ay)(q:Nat):FdM 1 e (hpA n m o many gR M1 M2 [(e.tx,aA,.any)] [(e.thread,ay,.val (.pointer (aj ⟨q,0,aF⟩)))])
  [toN n m o many gR M1 M2 [(e.tx,aA,.any)] [(e.thread,ay,.val (.pointer (aj ⟨q,0,aF⟩)))]] (fun sv k=>sv=svE (aj 9)/\k=0):=
 J9 _ (c3 many {e with kind:=1} [Ak.eq e.thread e.thread]) (IZ hm (by rw[<-hk];exact hv) (by rw[eqS])) ⟨rfl,rfl⟩
theorem auR(hm:many<400)(hl:m<=1000){e:Ev}(hk:e.kind=1)(hv:Du e=ay):FdM 1 e (hpA n m o many gR M1 M2 [(e.tx,aA,.any)] [(e.thread,aA,.any)])
  [toB n m o gR M1 M2 e (many+1:Nat) e.tx e.thread 1 many (-1) (-1) 1] (fun sv k=>sv=svE aF/\k=0):=by
 rw[<-wrapM hm];have hroom:Ak.room (Ak.addN m 1) 8=ay:=by
  show decide ((m+1)*8<=140737488355328/\m+1<=maxLen)=ay;grind [maxLen_eq,ϱ]
 exact J9 _ (c3 many {e with kind:=1} [Ak.eq e.thread e.thread,Ak.room (Ak.addN m 1) 8,Ak.eq e.tx e.tx,Ak.eq e.thread e.thread]) (IZ hm (by rw[<-hk];exact hv) (by rw[eqS,eqS,hroom])) ⟨rfl,rfl⟩
end
end Go.BX
