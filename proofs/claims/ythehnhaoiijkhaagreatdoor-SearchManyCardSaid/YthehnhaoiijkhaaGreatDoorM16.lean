/- SearchMany holds of the given program for every input: ErrTooMany comes just where a well-formed history has more than MaxTx transactions, whatever the budget; no conditions. -/
import Derived.Test.YthehnhaoiijkhaaGreatDoorM15
import Derived.ProofKit
import Derived.Deep.Slices
import Derived.Stop.LaidErr
import Derived.LaidMore
import Derived.OpenShut
import Derived.MakeChecks
import Derived.Test.YthehnhaoiijkhaaGreatDoorRows
import Derived.Carry
import Derived.Stop.Joined
import Derived.Test.YthehnhaoiijkhaaGreatDoorTie
import Derived.Test.YthehnhaoiijkhaaGreatDoorCards
open Int (ofNat)
open Bool renaming true->aC,and_eq_true->aH,false->ak
open Classical renaming propDecidable->bD
open Go.Addr renaming add->mW
open Go.DataW renaming trod->yZ,trod_int->pq,trod_struct->tH,trod_array->uH,TrodAll->qh
open Go.Gm renaming start->je
open Go.IntKind renaming i64->aT
open Go.MemPlace renaming row->pK
open Go.BF renaming IU->wu,lst->sH,Oj->iO,Ev->jl,okB->qG
open Go.BF.Row renaming get->wP
open Go.Proofs.Tryz renaming prog->aB,underlying46->uI,underlying329->tJ,underlying343->tK,underlying9->lN,underlying300->nG,checked->qO,f6->kR,func6->tN,params6->yJ,underlying3->l9
open Go.Value renaming int->iQ,okWide->lK
open Go.World renaming var?_cell->vG,doorLaid->wB
open Int renaming toNat->wz
open List renaming getElem?_map->gQ,map_map->pJ,all_eq_true->dK,mem_range->dN,getElem?_eq_getElem->aV,take->vC,drop->vF,getD_eq_getElem?_getD->aY,length->zf,length_map->dY
open Nat renaming eq_of_beq_eq_true->fG,add_assoc->jR,mul_one->zk
open Option renaming some->ay,none->aK,map_eq_some_iff->bV,getD_some->nX
open Option.some renaming inj->dD
namespace Go.Pl
open Go Go.Sx
theorem Xf{α:Type}[Go.BF.Row α][DecidableEq α]{n n0:Nat}{g g0:Nat->List Sh}(h:Zw α n g n0 g0=aC)(h0:qG α n0 g0=aC):n=n0/\∀j,j<n->g j=g0 j:=by
 unfold Zw at h;rw[aH,aH,decide_eq_true_eq] at h;obtain ⟨h1,h2,h3⟩:=h;obtain rfl:=fG h2;refine ⟨rfl,fun j hj=>?_⟩;rw[wu h1 j hj,wu h0 j hj];have e:∀(f:Nat->List Sh),(sH α n f)[j]?=ay (Go.BF.zY f j):=fun f=>by
  unfold sH;rw[gQ,List.getElem?_range hj];rfl
 have e1:=e g;rw[h3,e g0] at e1;rw[dD e1]
end Go.Pl
namespace Go.Proofs
open Go Go.Sx Go.Pl Go.Gm
theorem TD{H:Mem}{n m n0 m0:Nat}{o e o0 e0:Nat->List Sh}{v:Value}(h1:n=n0/\∀j,j<n->o j=o0 j)(h2:m=m0/\∀j,j<m->e j=e0 j)(hr:Rep H (.agg [.sl 2 n o,.sl 8 m e]) v):Rep H (hsS n0 o0 m0 e0) v:=by
 obtain ⟨rfl,h1⟩:=h1;obtain ⟨rfl,h2⟩:=h2;exact Qm hr ⟨fun _ r=>Ep r h1,fun _ r=>Ep r h2,trivial⟩
theorem TF{P:Program}{gls:List (Nat×Sh)}{g:Nat}{F:List Sh->Tree Sh}(hF:Aq P gls g F){H:Mem}{w:World}{AX:List Sh}{args:List Value}{φ:Sh->Prop}(hon:H.on w)(hg:CS gls H)(hr:Dq H AX args){s':Sh}(hφ:φ s')(h:(F AX).All fun s=>Wk s s'):
  Calls P g args.toArray w fun e w'=>∃v s H',e=.returned v/\φ s/\Eh H w s v H' w':=by
 refine (hF H w AX args _ hon hg hr h).mono fun e w' ⟨v,s,H',he,hs,r⟩=>?_;obtain ⟨H2,r2⟩:=r.wk hs;exact ⟨v,s',H2,he,hφ,r2⟩
theorem arK:rsB (hsS 1 Ef 13 Ip) 1 100=aC/\ryB (hsS 1 Ef 13 Ip) 1 100=aC/\rtL (hsS 1 Ef 13 Ip) 1 100=[⟨1,aC⟩,⟨2,ak⟩]/\rcI (hsS 1 Ef 13 Ip) 1 100=5:=by
 have h:=ajF exH Yn 100;have hr:=awM;split at hr
 ·rename_i r e
  obtain ⟨q1,q2,q3⟩:=h.2 r e;rw[aH,aH,beq_iff_eq,decide_eq_true_eq] at hr;refine ⟨?_,q1.trans hr.2.1,?_,?_⟩
  ·unfold rsB
   have e':EH (Kt (Dk (hsS 1 Ef 13 Ip) 1)) Po (newL 1 Ef) (wz 100)=ay r:=e;rw[h.1,e'];rfl
  ·rw[q2,hr.2.2];rfl
  ·rw[q3,hr.1];rfl
 ·cases hr
theorem aqn:rsB (hsS 1 Ef 13 Ip) 1 4=ak:=by
 have h:=ajF exH Yn 4;have h4:=Option.isNone_iff_eq_none.1 awN;unfold rsB;have e':EH (Kt (Dk (hsS 1 Ef 13 Ip) 1)) Po (newL 1 Ef) (wz 4)=aK:=h4;rw[h.1,e'];rfl
theorem aqo:rsB (hsS 1 Ef 14 Zv) 1 100=aC/\ryB (hsS 1 Ef 14 Zv) 1 100=ak/\rcI (hsS 1 Ef 14 Zv) 1 100=3/\rtL (hsS 1 Ef 14 Zv) 1 100=[]:=by
 have h:=ajF aqk akS 100;have hr:=awO;split at hr
 ·rename_i r e
  obtain ⟨q1,q2,q3⟩:=h.2 r e;rw[aH,beq_iff_eq,Bool.not_eq_true'] at hr;refine ⟨?_,q1.trans hr.2,?_,?_⟩
  ·unfold rsB
   have e':EH (Kt (Dk (hsS 1 Ef 14 Zv) 1)) Po (newL 1 Ef) (wz 100)=ay r:=e;rw[h.1,e'];rfl
  ·rw[q3,hr.1];rfl
  ·rw[q2]
   unfold JD;rw[if_neg (by rw[hr.2];simp)];rfl
 ·cases hr
theorem auW(u:Nat->List Sh):nxL (hsS 1 Ef 13 Ip) 1 0 u=[⟨1,aC⟩,⟨2,aC⟩,⟨2,ak⟩]/\(wkO (hsS 1 Ef 13 Ip) 1 0 u).isSome=aC:=by
 refine ⟨?_,rfl⟩;have hT:((Bv 1 Ef 13 Ip).okb&&decide ((Bv 1 Ef 13 Ip).n<=12))=aC:=Yn;rw[aH,decide_eq_true_eq] at hT;have T:=ae8 exH hT.1 hT.2;have ht:=Ve (Xd (lv:=1) T) (SH (lv:=1) T);have e:Du (Gw 1 (Hr Ef)) (je (newL 1 Ef))=⟨0,(Dk (hsS 1 Ef 13 Ip) 1).g0⟩:=by
  show (⟨0,Gw 1 (Hr Ef) (newL 1 Ef)⟩:Nd SG)=⟨0,Hr Ef⟩;rw[afh]
 rw[e] at ht;show ((turns (Gb (Dk (hsS 1 Ef 13 Ip) 1)) ⟨0,(Dk (hsS 1 Ef 13 Ip) 1).g0⟩).map fun t=>D6 t.1)=_;have ht':turns (Gb (Dk (hsS 1 Ef 13 Ip) 1)) ⟨0,(Dk (hsS 1 Ef 13 Ip) 1).g0⟩=(turns (Kt (Dk (hsS 1 Ef 13 Ip) 1)) (je (newL 1 Ef))).map fun t=>(t.1,Du (Gw 1 (Hr Ef)) t.2):=ht;rw[ht',pJ];have en:=awP;have e2:((turns (Kt (Dk (hsS 1 Ef 13 Ip) 1)) (je (newL 1 Ef))).map ((fun t:(Int×Bool)×Nd SG=>D6 t.1) ∘ fun t=>(t.1,Du (Gw 1 (Hr Ef)) t.2)))=((turns (Kt (Dk (hsS 1 Ef 13 Ip) 1)) (je (newL 1 Ef))).map (·.1)).map D6:=by
  rw[pJ];rfl
 rw[e2,en];rfl
theorem akT:QM 100=aC:=by kernel_rfl
theorem awQ:QM 4=aC:=by kernel_rfl
theorem awR:Aq aB (AY W7) 15 aql:=by
 intro H w AX args φ hon hgl hr hφ;unfold aql at hφ;split at hφ
 ·rename_i n o m e t u
  split at hφ
  ·rename_i lv mo e1 e2
   cases c1:(Zw iO n o 1 Ef&&lv==1)<;>simp only[c1,cond_true,cond_false] at hφ
   ·exact hφ.elim
   rw[aH,beq_iff_eq] at c1;obtain ⟨c1,rfl⟩:=c1;have k1:=Xf c1 exH.o;match args,hr with
   |[a0,a1,a2],⟨r0,r1,r2,_⟩=>
   have s2 {k:Nat} {f f':Nat->List Sh} (h:∀j,j<k->f j=f' j):Wk (.sl 2 k f) (.sl 2 k f'):=.inr ⟨rfl,rfl,h⟩;cases c2:Zw jl m e 13 Ip<;>simp only[c2,cond_true,cond_false] at hφ
   ·cases c3:(Zw jl m e 14 Zv&&mo==100)<;>simp only[c3,cond_true,cond_false] at hφ
    ·exact hφ.elim
    rw[aH,beq_iff_eq] at c3;obtain ⟨c3,rfl⟩:=c3;have k2:=Xf c3 aqk.p;refine TF akL hon hgl (AX:=[hsS 1 Ef 14 Zv,t,u]) ⟨TD k1 k2 r0,r1,r2,trivial⟩ hφ ?_;unfold adV;simp only[e1,e2];obtain ⟨b1,b2,b3,b4⟩:=aqo;refine ⟨afe aqk (by decide) akT akS,fun _=>?_,fun c=>(by rw[b1] at c;cases c)⟩;refine ⟨⟨.inl (by rw[b2]),?_,by rw[b3];rfl,trivial⟩,rfl,trivial⟩;unfold rtN rtR;rw[b4];exact .inl ⟨rfl,rfl⟩
   ·have k2:=Xf c2 exH.p
    cases c3:(mo==100)<;>simp only[c3,cond_true,cond_false] at hφ
    ·cases c4:(mo==4)<;>simp only[c4,cond_true,cond_false] at hφ
     ·exact hφ.elim
     rw[beq_iff_eq] at c4;subst c4;refine TF akL hon hgl (AX:=[hsS 1 Ef 13 Ip,t,u]) ⟨TD k1 k2 r0,r1,r2,trivial⟩ hφ ?_;unfold adV;simp only[e1,e2];refine ⟨afe exH (by decide) awQ Yn,fun c=>(by rw[aqn] at c;cases c),fun _=>?_⟩;exact ⟨⟨.inl rfl,.inl ⟨rfl,rfl⟩,rfl,trivial⟩,rfl,trivial⟩
    ·rw[beq_iff_eq] at c3
     subst c3;refine TF akL hon hgl (AX:=[hsS 1 Ef 13 Ip,t,u]) ⟨TD k1 k2 r0,r1,r2,trivial⟩ hφ ?_;unfold adV;simp only[e1,e2];obtain ⟨b1,b2,b3,b4⟩:=arK;refine ⟨afe exH (by decide) akT Yn,fun _=>?_,fun c=>(by rw[b1] at c;cases c)⟩;refine ⟨⟨.inl (by rw[b2]),?_,by rw[b4];rfl,trivial⟩,rfl,trivial⟩;unfold rtN rtR;rw[b3];refine .inr ⟨rfl,rfl,fun j hj=>?_⟩;have hj:j<2:=hj;match j,hj with
     |0,_=>rfl |1,_=>rfl
  ·exact hφ.elim
 ·exact hφ.elim
theorem awS:Aq aB (AY W7) 16 aqm:=by
 intro H w AX args φ hon hgl hr hφ;unfold aqm at hφ;split at hφ
 ·rename_i n o m e t v
  split at hφ
  ·rename_i lv k u e1 e2
   cases c1:(Zw iO n o 1 Ef&&(lv==1&&(Zw jl m e 13 Ip&&Nat.beq k 0)))<;>simp only[c1,cond_true,cond_false] at hφ
   ·exact hφ.elim
   rw[aH,aH,aH,beq_iff_eq] at c1;obtain ⟨c1,rfl,c2,c3⟩:=c1;obtain rfl:=fG c3;have k1:=Xf c1 exH.o;have k2:=Xf c2 exH.p;match args,hr with
   |[a0,a1,a2],⟨r0,r1,r2,_⟩=>
   refine TF ash hon hgl (AX:=[hsS 1 Ef 13 Ip,t,v]) ⟨TD k1 k2 r0,r1,r2,trivial⟩ hφ ?_;unfold akN;simp only[e1,e2];obtain ⟨b1,b2⟩:=auW u;refine ⟨?_,?_,rfl,trivial⟩
   ·unfold naB
    rw[ach exH (by decide),Yn,b2];rfl
   ·unfold nxN nxR
    rw[b1];refine .inr ⟨rfl,rfl,fun j hj=>?_⟩;have hj:j<3:=hj;match j,hj with
    |0,_=>rfl |1,_=>rfl |2,_=>rfl
  ·exact hφ.elim
 ·exact hφ.elim
theorem auY{P:Program}{C:Ctx}{K:Kx}{ts:List Ns}{R:Hp->Prop}{φ:Sh->Prop}{t:Tree D7}{q:List Bh}{s:Sh}(h:t.way []=ay (q,.ret s))(hq:Bh.all q)(hs:φ s):Cb (Jw P C K ts R φ) t:=by
 rw[Ql];exact (Tree.NT h hq hs).1
theorem aqp:A8 aB C11:=by
 have h:=C7.ok Xe Ak;exact ⟨h.1,h.2,h.3,h.4,h.5,h.6,h.7⟩
theorem awT:Bz aB C11:=by
 have h:=C7.UK (stop:=Ak) (spec:=Xe) (fun g F h=>by
  unfold Xe at h;split at h
  ·cases h;exact awR
  ·cases h;exact awS
  ·cases h;exact auP
  ·cases h) fun g h=>by
  unfold Xe at h;split at h;all_goals first|(cases h;done) |kernel_rfl
 exact ⟨h.1,h.2,h.3,h.4⟩
theorem Ye:Aq aB (AY W7) 11 W11:=by
 refine FM (C:=C11) aqp (fn:=Tryz.f11) (by kernel_rfl) (by kernel_rfl) fun H w AX args φ hrep h=>?_
 have hn:Tryz.f11.ntmps=94:=by kernel_rfl
 unfold W11 at h;split at h
 ·refine ⟨[],hrep,L0,?_⟩
  refine ED aqp awT (hold:=Bg) (m:=900) (n:=3000) (ts:=[]) ?_;rw[hn];have hφ:φ (.v (.bool aC)):=h;exact auY w11 trivial (BH (s':=.v (.bool aC)) (.inr rfl) hφ)
 ·exact h.elim
end Go.Proofs
namespace Go.Sx
open Go.RowKit Go.ChangeShapes Go.WideShapes Go.Deep
def En(w:World):Mem:=fun b=>w.heap[b]?
theorem ama(w:World):(En w).on w:=fun _ _ h=>h
theorem Xg{w:World}{a:Addr}{v:Value}(h:w.cell? a=ay v):hcell (En w) a.block a.off=ay v/\a.spot=aK:=by
 unfold World.cell? at h;unfold hcell En;split at h
 ·rename_i c t f hb
  rw[hb];cases hs:a.spot with
  |none=>simp only[hs,Option.isSome_none,Bool.false_eq_true,if_false] at h;exact ⟨h,rfl⟩ |some x=>simp[hs] at h
 ·cases h
section
variable{H:Type}{enc:TypeId×Value->H}{P:Program}{w:World}{base:Nat}{spare:Nat->Bool}{held:Bool}
def aqr(P:Program)(fs:Array Field)(k:Nat):Bool:=
 fs.size==k&&(List.range k).all fun i=>match fs[i]? with
  |some f=>f.offset==i&&(match P.underlying f.type with|some (.int .i64)=>aC|_=>ak)&&P.cellsOf f.type==1
  |none=>ak
def rowB(P:Program)(e k:Nat):Bool:=
 match P.underlying e with
 |some (.int .i64)=>k==1&&P.cellsOf e==1 |some (.struct fs)=>aqr P fs k&&P.cellsOf e==k |_=>ak
def int64(n:Int):Prop:=(Lit.int .i64 n).wf=aC
theorem ahI{e k fuel:Nat}{cs:List Value}{x:DataW H×List MemPlace}(hr:rowB P e k=aC)(h:yZ enc P w base spare held fuel e cs=ay x):
  ∃ns:List Int,ns.length=k/\cs=ns.map (iQ .i64)/\∀n∈ns,int64 n:=by
 unfold rowB at hr;split at hr
 ·rename_i hu
  simp only[aH,beq_iff_eq] at hr;obtain ⟨n,rfl,_,hw⟩:=pq hu h;exact ⟨[n],hr.1.symm,rfl,fun m hm=>by simp at hm;subst hm;exact hw⟩
 ·rename_i fs hu
  simp only[aH,beq_iff_eq] at hr;obtain ⟨hf,hc⟩:=hr;unfold aqr at hf;simp only[aH,beq_iff_eq] at hf;obtain ⟨hk,hf⟩:=hf;obtain ⟨xs,m,_,_,hlen,hxs,hel⟩:=tH hu h;rw[hc] at hlen;have cell:∀i,i<k->∃n,cs[i]?=ay (.int .i64 n)/\int64 n:=fun i hi=>by
   have q:=dK.1 hf i (dN.2 hi);split at q
   ·rename_i f hfi
    simp only[aH,beq_iff_eq] at q;obtain ⟨⟨ho,ht⟩,h1⟩:=q;have ht:P.underlying f.type=ay (.int .i64):=by
     split at ht
     ·assumption
     ·cases ht
    have q2:=hel i f hfi;rw[ho,h1] at q2;have hxi:i<xs.length:=by rw[hxs,hk];exact hi
    rw[aV hxi] at q2;obtain ⟨n,e1,_,e3⟩:=pq ht q2;refine ⟨n,?_,e3⟩;have:(vC 1 (vF i cs))[0]?=ay (.int .i64 n):=by rw[e1];rfl
    simpa using this
   ·cases q
  clear hel h hf;have:∀(j:Nat) (l:List Value),l.length=j->(∀i,i<j->∃n,l[i]?=ay (.int .i64 n)/\int64 n)->∃ns:List Int,ns.length=j/\l=ns.map (iQ .i64)/\∀n∈ns,int64 n:=by
   intro j;induction j with
   |zero=>intro l hl _;exact ⟨[],rfl,by simpa using hl,fun _ h=>by simp at h⟩ |succ j ih=>
    intro l hl hc;match l,hl with
    |v::l,hl=>
     obtain ⟨ns,h1,h2,h3⟩:=ih l (by simpa using hl) fun i hi=>by simpa using hc (i+1) (by omega)
     obtain ⟨n,q1,q2⟩:=hc 0 (by omega);simp at q1;subst q1;exact ⟨n::ns,by simp[h1],by simp[h2],fun m hm=>by
      rcases List.mem_cons.1 hm with rfl|hm
      ·exact q2
      ·exact h3 m hm⟩
  exact this k cs hlen cell
 ·cases hr
def GZ(ns:List Int):List Sh:=ns.map (Sh.i .i64)
theorem ajG{w:World}{base:Nat}{a:Addr}{n:Nat}{cs:List Value}(h:w.cells? base a n=ay cs):cs.length=n/\∀j,j<n->w.cell? (a.add j)=cs[j]?:=by
 unfold World.cells? at h;split at h
 ·have:∀(l:List Nat) (cs:List Value),l.mapM (fun i=>w.cell? (a.add i))=ay cs->cs.length=l.length/\∀(j:Nat) (i:Nat),l[j]?=ay i->w.cell? (a.add i)=cs[j]?:=by
   intro l;induction l with
   |nil=>intro cs h;simp at h;subst h;exact ⟨rfl,fun j i e=>by simp at e⟩ |cons x l ih=>
    intro cs h;rw[List.mapM_cons] at h;simp only[Option.bind_eq_bind,Option.bind_eq_some_iff,Option.pure_def] at h;obtain ⟨v,h1,vs,h2,h3⟩:=h;cases h3;obtain ⟨e1,e2⟩:=ih vs h2;refine ⟨by simp[e1],fun j i e=>?_⟩;match j,e with
    |0,e=>simp at e;subst e;simpa using h1 |j+1,e=>simpa using e2 j i (by simpa using e)
  obtain ⟨e1,e2⟩:=this _ _ h;rw[List.length_range] at e1;exact ⟨e1,fun j hj=>e2 j j (by simp[hj])⟩
 ·cases h
theorem ahJ(a:Addr)(n:Nat):(a.add n).off=a.off+n/\(a.add n).block=a.block:=by
 unfold mW;split
 ·subst_vars;exact ⟨rfl,rfl⟩
 ·exact ⟨rfl,rfl⟩
theorem add_add'(a:Addr)(i j:Nat):(a.add i).add j=a.add (i+j):=by
 unfold mW;by_cases hi:i=0<;>by_cases hj:j=0<;>simp[hi,hj,jR]
theorem acn{t e k fuel:Nat}{cs:List Value}{x:DataW H×List MemPlace}(ht:P.underlying t=ay (.slice e))(hr:rowB P e k=aC)(hk:P.cellsOf e=k)(h0:0<k)
  (h:yZ enc P w base spare held fuel t cs=ay x) :
  ∃v n g,cs=[v]/\Rep (En w) (.sl k n g) v/\∀i,i<n->∃ns:List Int,ns.length=k/\g i=GZ ns/\∀n∈ns,int64 n:=by
 rcases open_slice ht h with ⟨rfl,_⟩ |⟨a,len,cap,m,n,D,Pl,rfl,hb,hl,hcap,hm,_,hel⟩
 ·exact ⟨_,0,fun _=>[],rfl,.sl0 _ _ _ _ (Nat.zero_le _),fun i hi=>by omega⟩
 have hlm:len<=m:=by rw[hm];split<;>omega
 rw[hk] at hel;have row:∀i,i<len->∃ns:List Int,ns.length=k/\w.cells? base (a.add (i*k)) k=ay (ns.map (iQ .i64))/\∀n∈ns,int64 n:=fun i hi=>by
  obtain ⟨cs',h1,h2⟩:=hel i (by omega);obtain ⟨ns,e1,rfl,e3⟩:=ahI hr h2;exact ⟨ns,e1,h1,e3⟩
 by_cases hz:len=0
 ·subst hz
  exact ⟨_,0,fun _=>[],rfl,.sl0 _ _ _ _ hcap,fun i hi=>by omega⟩
 let N:Nat->List Int:=fun i=>if h:i<len then (row i h).choose else []
 have hN:∀i,i<len->(N i).length=k/\w.cells? base (a.add (i*k)) k=ay ((N i).map (iQ .i64))/\∀n∈N i,int64 n:=fun i hi=>by
  simp only[N,dif_pos hi];exact (row i hi).choose_spec
 have cell:∀i j,i<len->j<k->w.cell? (a.add (i*k+j))=((N i).map (iQ .i64))[j]?:=fun i j hi hj=>by
  have:=(ajG (hN i hi).2.1).2 j hj;rwa[add_add'] at this
 have hspot:a.spot=aK:=by
  have h1:=cell 0 0 (by omega) h0;have:∃v,w.cell? a=ay v:=by
   have hl0:=(hN 0 (by omega)).1;match hq:N 0 with
   |[]=>rw[hq] at hl0;simp at hl0;omega |x::r=>
    rw[hq] at h1;simp[mW] at h1;exact ⟨_,h1⟩
  obtain ⟨v,hv⟩:=this;exact (Xg hv).2
 obtain ⟨blk,off,spot⟩:=a;simp only at hspot;subst hspot;refine ⟨_,len,fun i=>GZ (N i),rfl,.sl _ _ _ blk off cap (fun i j=>((N i).map (iQ .i64)).getD j .nilFunc) hl hcap (fun i hi=>by simp[GZ,(hN i hi).1]) (fun i j hi hj=>?_) (fun i j hi hj=>?_) (fun i j s hi e=>?_),fun i hi=>⟨N i,(hN i hi).1,rfl,(hN i hi).2.2⟩⟩
 ·have h1:=cell i j hi hj
  have hlt:j<((N i).map (iQ .i64)).length:=by simpa[(hN i hi).1] using hj
  rw[aV hlt] at h1;have h2:=(Xg h1).1;rw[(ahJ _ _).1,(ahJ _ _).2] at h2;simp only[jR] at h2 ⊢;rw[h2,aY,aV hlt];rfl
 ·have hlt:j<(N i).length:=by rw[(hN i hi).1];exact hj
  simp[aY,hlt];rfl
 ·simp only[GZ,gQ,bV] at e
  obtain ⟨n,h3,rfl⟩:=e;simp[aY,h3];exact .i _ _
def aqs(P:Program)(t:Nat)(k0 k1:Nat):Bool:=
 match P.underlying t with
 |some (.struct fs)=>fs.size==2&&P.cellsOf t==2&&(match fs[0]?,fs[1]? with
  |some f0,ay f1=>f0.offset==0&&f1.offset==1&&P.cellsOf f0.type==1&&P.cellsOf f1.type==1&&(match P.underlying f0.type,P.underlying f1.type with
   |some (.slice e0),ay (.slice e1)=>rowB P e0 k0&&P.cellsOf e0==k0&&rowB P e1 k1&&P.cellsOf e1==k1 |_,_=>ak)
  |_,_=>ak)
 |_=>ak
theorem amb{t k0 k1:Nat}{v:Value}{d:DataW H}{ps:List MemPlace}(hp:aqs P t k0 k1=aC)(h00:0<k0)(h01:0<k1){b0:Nat}(hval:lK P w .any b0 t v)(hd:DataW.Trod enc P w base spare held t v d ps):
  ∃n0 g0 n1 g1,Rep (En w) (.agg [.sl k0 n0 g0,.sl k1 n1 g1]) v/\(∀i,i<n0->∃ns:List Int,ns.length=k0/\g0 i=GZ ns/\∀n∈ns,int64 n)/\∀i,i<n1->∃ns:List Int,ns.length=k1/\g1 i=GZ ns/\∀n∈ns,int64 n:=by
 unfold aqs at hp;split at hp
 ·rename_i fs hu
  unfold lK at hval;rw[hu] at hval;obtain ⟨cs,rfl,hsz,_⟩:=hval;simp only[aH,beq_iff_eq] at hp;obtain ⟨⟨h2,hc⟩,hp⟩:=hp;split at hp
  ·rename_i f0 f1 hf0 hf1
   simp only[aH,beq_iff_eq] at hp;obtain ⟨⟨⟨⟨o0,o1⟩,c0⟩,c1⟩,hp⟩:=hp;split at hp
   ·rename_i e0 e1 hs0 hs1
    simp only[aH,beq_iff_eq] at hp;obtain ⟨⟨⟨r0,q0⟩,r1⟩,q1⟩:=hp;obtain ⟨fuel,hd⟩:=hd;obtain ⟨xs,m,_,_,hlen,hxs,hel⟩:=tH hu hd;have a0:=hel 0 f0 hf0;have a1:=hel 1 f1 hf1;rw[o0,c0,aV (by rw[hxs,h2];decide)] at a0;rw[o1,c1,aV (by rw[hxs,h2];decide)] at a1;obtain ⟨v0,n0,g0,x0,y0,z0⟩:=acn hs0 r0 q0 h00 a0;obtain ⟨v1,n1,g1,x1,y1,z1⟩:=acn hs1 r1 q1 h01 a1;rw[hc] at hsz;obtain ⟨l⟩:=cs;match l,hsz with
    |[u0,u1],_=>
     simp[Value.cells] at x0 x1;subst x0 x1;refine ⟨n0,g0,n1,g1,.agg _ _ rfl fun j s v e1 e2=>?_,z0,z1⟩;match j,e1,e2 with
     |0,e1,e2=>simp at e1 e2;subst e1 e2;exact y0 |1,e1,e2=>simp at e1 e2;subst e1 e2;exact y1 |j+2,e1,_=>simp at e1
   ·cases hp
  ·cases hp
 ·cases hp
end
open Go.RowKit Go.ChangeShapes Go.WideShapes Go.Deep
theorem TG{P:Program}{W:World}{n:String}{g:Nat}{cs:Array Value}(hg:P.globalNamed n=ay g)(h:W.var? P n=ay cs):∃e f,W.heap[g]?=ay (.cells cs e f):=by
 unfold World.var? at h;rw[hg] at h;simp only[Option.bind_some] at h;split at h
 ·rename_i c e f hb
  cases h;exact ⟨_,_,hb⟩
 ·cases h
theorem aqt{P:Program}{n nm:String}{text:List UInt8}{r:List (String×DataW Unit)}{W:World}{g:Nat}{ti tp te ts:TypeId}{ms:Array (String×TypeId)}{f:Field}
  (h:laidMet P ((n,.iface nm (.ptr (.agg [.lit (.string text)])))::r) W)
  (hg:P.globalNamed n=ay g) (ht:(P.globals[g]?).map (·.type)=ay ti) (hi:P.underlying ti=ay (.interface ms)) (hrow:∀u,P.typeName? 3 u=ay nm->u=tp)
  (hp:P.underlying tp=ay (.pointer te)) (he:P.underlying te=ay (.struct #[f])) (hft:f.type=ts) (hfo:f.offset=0) (hs:P.underlying ts=ay .string) (hc:P.cellsOf te=1) (hcs:P.cellsOf ts=1) :
  FH (En W) g (.er g tp):=by
 obtain ⟨ps,⟨g0,t0,cs0,f0,p0,q0,hg0,ht0,hv0,hd0,_,e0⟩,_,hrows⟩:=h;obtain rfl:=dD (hg.symm.trans hg0);obtain rfl:=dD (ht.symm.trans ht0);subst e0;obtain ⟨l0⟩:=cs0;have ok0:∀u v,l0=[.iface u v]->lK P W .any 0 u v:=fun u v e=>by
  subst e;exact (hrows g 0 (by simp[pK])).2 u v (by simpa using vG hg0 hv0 0)
 obtain ⟨a0,s0,rfl,hc0,hs0,hz0,rfl⟩:=errorString_of_trod hi hrow hp he hft hfo hs hc hcs hd0 ok0;obtain ⟨c0,t0,hb0⟩:=(hrows a0.block a0.off (by simp[pK])).1;obtain ⟨e,f,hh⟩:=TG hg hv0;have h1:hcell (En W) g 0=ay (.iface tp (.pointer (ay a0))):=by
  unfold hcell En;rw[hh];rfl
 exact ⟨_,h1,.er g tp a0 c0 t0 h1 hb0,rfl⟩
theorem ajH{P:Program}{n:String}{texts:List (List UInt8)}{r:List (String×DataW Unit)}{W:World}{g:Nat}{t e:TypeId}{k:Nat}
  (h:laidMet P ((n,.agg (texts.map fun s=>.lit (.string s)))::r) W)
  (hg:P.globalNamed n=ay g) (ht:(P.globals[g]?).map (·.type)=ay t) (hu:P.underlying t=ay (.array k e)) (he:P.underlying e=ay .string) (hce:P.cellsOf e=1) (hct:P.cellsOf t=texts.length) :
  FH (En W) g (.Aj (texts.map Sh.str)):=by
 obtain ⟨ps,⟨g0,t0,cs0,f0,p0,q0,hg0,ht0,hv0,hd0,_,e0⟩,_,hrows⟩:=h;obtain rfl:=dD (hg.symm.trans hg0);obtain rfl:=dD (ht.symm.trans ht0);obtain ⟨e1,f1,hh⟩:=TG hg hv0;obtain ⟨xs,m,_,hx,hlen,hxs,hel⟩:=uH hu hd0;have hxs':xs.map (·.1)=texts.map fun s=>.lit (.string s):=by
  have:=congrArg Prod.fst hx;simp at this;exact this.symm
 have hkt:k=texts.length:=by
  have:=congrArg zf hxs';simp at this;omega
 subst hkt;have cell:∀j (hj:j<texts.length),cs0[j]?=ay (.string ⟨texts[j].toArray⟩):=fun j hj=>by
  have q:=hel j hj;rw[hce,zk] at q;have hxj:j<xs.length:=by omega
  rw[aV hxj] at q;obtain ⟨s,q1,q2,_⟩:=DataW.trod_string he q;have q3:(xs.map (·.1))[j]?=ay (.lit (.string texts[j])):=by rw[hxs'];simp[hj]
  have q4:(xs[j]).1=.lit (.string texts[j]):=by
   rw[gQ,aV hxj] at q3;simpa using q3
  rw[q2] at q4;simp at q4;have q5:(vC 1 (vF j cs0.toList))[0]?=ay (.string s):=by rw[q1];rfl
  have q6:cs0[j]?=ay (.string s):=by simpa using q5
  rw[q6];obtain ⟨⟨l⟩⟩:=s;have:l=texts[j]:=q4;subst this;rfl
 refine ⟨⟨cs0,e1,f1,hh,by rw[dY,<-hct,<-hlen];simp⟩,fun j=>.string ⟨(texts.getD j []).toArray⟩,fun j hj=>?_,fun j s hs=>?_⟩
 ·have hj':j<texts.length:=by simpa using hj
  refine ⟨?_,rfl⟩;unfold hcell En;rw[hh];simp only[cell j hj',aY,aV hj',nX]
 ·rw[gQ,bV] at hs
  obtain ⟨l,h1,rfl⟩:=hs;show Rep (En W) (.str l) (.string ⟨(texts.getD j []).toArray⟩);rw[aY,h1];exact .str l
theorem ajI{P:Program}{n:String}{kd:IntKind}{texts:List Int}{r:List (String×DataW Unit)}{W:World}{g:Nat}{t e:TypeId}{k:Nat}
  (h:laidMet P ((n,.agg (texts.map fun s=>.lit (.int kd s)))::r) W)
  (hg:P.globalNamed n=ay g) (ht:(P.globals[g]?).map (·.type)=ay t) (hu:P.underlying t=ay (.array k e)) (he:P.underlying e=ay (.int kd)) (hce:P.cellsOf e=1) (hct:P.cellsOf t=texts.length) :
  FH (En W) g (.Aj (texts.map (Sh.i kd))):=by
 obtain ⟨ps,⟨g0,t0,cs0,f0,p0,q0,hg0,ht0,hv0,hd0,_,e0⟩,_,hrows⟩:=h;obtain rfl:=dD (hg.symm.trans hg0);obtain rfl:=dD (ht.symm.trans ht0);obtain ⟨e1,f1,hh⟩:=TG hg hv0;obtain ⟨xs,m,_,hx,hlen,hxs,hel⟩:=uH hu hd0;have hxs':xs.map (·.1)=texts.map fun s=>.lit (.int kd s):=by
  have:=congrArg Prod.fst hx;simp at this;exact this.symm
 have hkt:k=texts.length:=by
  have:=congrArg zf hxs';simp at this;omega
 subst hkt;have cell:∀j (hj:j<texts.length),cs0[j]?=ay (.int kd texts[j]):=fun j hj=>by
  have q:=hel j hj;rw[hce,zk] at q;have hxj:j<xs.length:=by omega
  rw[aV hxj] at q;obtain ⟨s,q1,q2,_⟩:=pq he q;have q3:(xs.map (·.1))[j]?=ay (.lit (.int kd texts[j])):=by rw[hxs'];simp[hj]
  have q4:(xs[j]).1=.lit (.int kd texts[j]):=by
   rw[gQ,aV hxj] at q3;simpa using q3
  rw[q2] at q4;simp at q4;have q5:(vC 1 (vF j cs0.toList))[0]?=ay (.int kd s):=by rw[q1];rfl
  have q6:cs0[j]?=ay (.int kd s):=by simpa using q5
  rw[q6];rw[q4]
 refine ⟨⟨cs0,e1,f1,hh,by rw[dY,<-hct,<-hlen];simp⟩,fun j=>.int kd (texts.getD j 0),fun j hj=>?_,fun j s hs=>?_⟩
 ·have hj':j<texts.length:=by simpa using hj
  refine ⟨?_,rfl⟩;unfold hcell En;rw[hh];simp only[cell j hj',aY,aV hj',nX]
 ·rw[gQ,bV] at hs
  obtain ⟨l,h1,rfl⟩:=hs;show Rep (En W) (.i kd l) (.int kd (texts.getD j 0));rw[aY,h1];exact .i kd l
def ad1(H:Mem)(W:World)(g:Nat)(text:List UInt8):Prop:=∃a T s,hcell H g 0=ay (.iface T (.pointer (ay a)))/\W.cell? a=ay (.string s)/\s.data.toList=text
theorem ad1.ne{H:Mem}{W:World}{g g':Nat}{t t':List UInt8}(h:ad1 H W g t)(h':ad1 H W g' t')(hne:t≠t'):hcell H g 0≠hcell H g' 0:=by
 obtain ⟨a,T,s,h1,h2,h3⟩:=h;obtain ⟨a',T',s',q1,q2,q3⟩:=h';intro e;rw[h1,q1] at e;cases e;rw[h2] at q2;cases q2;exact hne (h3.symm.trans q3)
theorem aqu{P:Program}{n nm:String}{text:List UInt8}{r:List (String×DataW Unit)}{W:World}{g:Nat}{ti tp te ts:TypeId}{ms:Array (String×TypeId)}{f:Field}
  (h:laidMet P ((n,.iface nm (.ptr (.agg [.lit (.string text)])))::r) W)
  (hg:P.globalNamed n=ay g) (ht:(P.globals[g]?).map (·.type)=ay ti) (hi:P.underlying ti=ay (.interface ms)) (hrow:∀u,P.typeName? 3 u=ay nm->u=tp)
  (hp:P.underlying tp=ay (.pointer te)) (he:P.underlying te=ay (.struct #[f])) (hft:f.type=ts) (hfo:f.offset=0) (hs:P.underlying ts=ay .string) (hc:P.cellsOf te=1) (hcs:P.cellsOf ts=1) :
  ad1 (En W) W g text:=by
 obtain ⟨ps,⟨g0,t0,cs0,f0,p0,q0,hg0,ht0,hv0,hd0,_,e0⟩,_,hrows⟩:=h;obtain rfl:=dD (hg.symm.trans hg0);obtain rfl:=dD (ht.symm.trans ht0);subst e0;obtain ⟨l0⟩:=cs0;have ok0:∀u v,l0=[.iface u v]->lK P W .any 0 u v:=fun u v e=>by
  subst e;exact (hrows g 0 (by simp[pK])).2 u v (by simpa using vG hg0 hv0 0)
 obtain ⟨a0,s0,rfl,hc0,hs0,hz0,rfl⟩:=errorString_of_trod hi hrow hp he hft hfo hs hc hcs hd0 ok0;obtain ⟨e,f,hh⟩:=TG hg hv0;have h1:hcell (En W) g 0=ay (.iface tp (.pointer (ay a0))):=by
  unfold hcell En;rw[hh];rfl
 exact ⟨a0,tp,s0,h1,hc0,hs0⟩
end Go.Sx
namespace Go.Proofs
open Go Go.Sx Go.RowKit Go.ChangeShapes
theorem aqv : "*" ++ "errors.errorString" = "*errors.errorString" :=by decide
theorem asj(u:TypeId)(h:aB.typeName? 3 u=ay "*errors.errorString"):u=329:=
 typeName_ptr_named (nm:= "errors.errorString") (by rw[aqv];kernel_rfl) (by kernel_rfl) (by decide) u (by rw[aqv];exact h)
theorem TQ{n:String}{text:List UInt8}{r:List (String×DataW Unit)}{W:World}{g:Nat}(h:laidMet aB ((n,.iface "*errors.errorString" (.ptr (.agg [.lit (.string text)])))::r) W)
  (hg:aB.globalNamed n=ay g) (ht:(aB.globals[g]?).map (·.type)=ay 46):FH (En W) g (.er g 329)/\ad1 (En W) W g text:=
 ⟨aqt h hg ht uI asj tJ tK rfl rfl lN (by kernel_rfl) (by kernel_rfl),aqu h hg ht uI asj tJ tK rfl rfl lN (by kernel_rfl) (by kernel_rfl)⟩
theorem st7{n:String}{texts:List (List UInt8)}{r:List (String×DataW Unit)}{W:World}{g t k:Nat}(h:laidMet aB ((n,.agg (texts.map fun s=>.lit (.string s)))::r) W)
  (hg:aB.globalNamed n=ay g) (ht:(aB.globals[g]?).map (·.type)=ay t) (hu:aB.underlying t=ay (.array k 9)) (hct:aB.cellsOf t=texts.length):FH (En W) g (.Aj (texts.map Sh.str)):=
 ajH h hg ht hu lN (by kernel_rfl) hct
open YthehnhaoiijkhaaGreatDoor.Rows in
abbrev laid7:List (String×DataW Unit):=searchBudgetRow.laid
def ahK:List (Nat×List UInt8):=[(0,[116,104,101,32,115,101,97,114,99,104,32,104,97,115,32,115,101,101,110,32,116,111,111,32,109,117,99,104]),(1,[116,111,111,32,109,97,110,121,32,116,114,97,110,115,97,99,116,105,111,110,115,32,116,111,32,98,101,32,106,117,100,103,101,100]),(2,[110,111,32,108,101,118,101,108]),(3,[110,111,32,99,101,114,116,105,102,105,99,97,116,101]),(4,[116,104,101,114,101,32,105,115,32,110,111,110,101]),(5,[105,116,32,119,97,115,32,115,116,111,112,112,101,100]),(6,[116,111,111,32,109,97,110,121]),(7,[110,111,32,111,98,106,101,99,116]),(8,[110,111,32,111,112,101,114,97,116,105,111,110,32,111,102,32,116,104,97,116,32,111,98,106,101,99,116]),(9,[105,116,32,104,97,115,32,98,101,103,117,110,32,97,108,114,101,97,100,121]),(10,[116,104,101,32,116,104,114,101,97,100,32,105,115,32,98,117,115,121]),(11,[110,111,32,115,117,99,104,32,116,114,97,110,115,97,99,116,105,111,110]),(12,[105,116,32,100,111,101,115,32,110,111,116,32,99,111,109,101,32,104,101,114,101]),(13,[110,111,32,97,110,115,119,101,114,32,111,102,32,116,104,97,116,32,111,112,101,114,97,116,105,111,110]),(14,[110,111,32,115,117,99,104,32,99,111,100,101]),(15,[110,111,32,101,118,101,110,116])]
theorem TR(n:Nat){g:Nat}{t:List UInt8}(h:ahK[n]?=ay (g,t)):(g,t)∈ahK:=List.mem_of_getElem? h
theorem ajJ:(ahK.all fun p=>ahK.all fun q=>p.1==q.1||p.2 != q.2)=aC:=by decide +kernel
theorem amd{W:World}(h:laidMetH aB laid7 W):CS (AY W7) (En W):=by
 rw[MakeChecks.laidMetH_plain _ _ _ (by kernel_rfl)] at h;have z0:=h;have z1:=z0.tail;have z2:=z1.tail;have e23:FH (En W) 23 (.Aj (pow10.map (Sh.i .u64))):=ajI (kd:=.u64) (texts:=pow10) z2 (by kernel_rfl) (by kernel_rfl) Tryz.underlying322 Tryz.underlying315 (by kernel_rfl) (by kernel_rfl);have z3:=z2.tail;have e6:=TQ (g:=6) z3 (by kernel_rfl) (by kernel_rfl);have z4:=z3.tail;have e14:=TQ (g:=14) z4 (by kernel_rfl) (by kernel_rfl);have z5:=z4.tail;have e7:=TQ (g:=7) z5 (by kernel_rfl) (by kernel_rfl);have z6:=z5.tail;have e15:=TQ (g:=15) z6 (by kernel_rfl) (by kernel_rfl);have z7:=z6.tail;have e8:=TQ (g:=8) z7 (by kernel_rfl) (by kernel_rfl);have z8:=z7.tail;have e13:=TQ (g:=13) z8 (by kernel_rfl) (by kernel_rfl);have z9:=z8.tail;have e11:=TQ (g:=11) z9 (by kernel_rfl) (by kernel_rfl);have z10:=z9.tail;have e9:=TQ (g:=9) z10 (by kernel_rfl) (by kernel_rfl);have z11:=z10.tail;have e10:=TQ (g:=10) z11 (by kernel_rfl) (by kernel_rfl);have z12:=z11.tail;have e12:=TQ (g:=12) z12 (by kernel_rfl) (by kernel_rfl);have z13:=z12.tail;have e2:=TQ (g:=2) z13 (by kernel_rfl) (by kernel_rfl);have z14:=z13.tail;have e1:=TQ (g:=1) z14 (by kernel_rfl) (by kernel_rfl);have z15:=z14.tail;have e0:=TQ (g:=0) z15 (by kernel_rfl) (by kernel_rfl);have z16:=z15.tail;have e3:=TQ (g:=3) z16 (by kernel_rfl) (by kernel_rfl);have z17:=z16.tail;have e4:=TQ (g:=4) z17 (by kernel_rfl) (by kernel_rfl);have z18:=z17.tail;have e5:=TQ (g:=5) z18 (by kernel_rfl) (by kernel_rfl);have z19:=z18.tail;have e16:FH (En W) 16 (.Aj (Wx W7 16 4)):=st7 (texts:=[W7 16 0,W7 16 1,W7 16 2,W7 16 3]) z19 (by kernel_rfl) (by kernel_rfl) nG (by kernel_rfl);have z20:=z19.tail;have e17:FH (En W) 17 (.Aj (Wx W7 17 7)):=st7 (texts:=[W7 17 0,W7 17 1,W7 17 2,W7 17 3,W7 17 4,W7 17 5,W7 17 6]) z20 (by kernel_rfl) (by kernel_rfl) Tryz.underlying301 (by kernel_rfl);have z21:=z20.tail;have e18:FH (En W) 18 (.Aj (Wx W7 18 9)):=st7 (texts:=[W7 18 0,W7 18 1,W7 18 2,W7 18 3,W7 18 4,W7 18 5,W7 18 6,W7 18 7,W7 18 8]) z21 (by kernel_rfl) (by kernel_rfl) Tryz.underlying302 (by kernel_rfl);have z22:=z21.tail;have e19:FH (En W) 19 (.Aj (Wx W7 19 3)):=st7 (texts:=[W7 19 0,W7 19 1,W7 19 2]) z22 (by kernel_rfl) (by kernel_rfl) Tryz.underlying303 (by kernel_rfl);have z23:=z22.tail;have e20:FH (En W) 20 (.Aj (Wx W7 20 4)):=st7 (texts:=[W7 20 0,W7 20 1,W7 20 2,W7 20 3]) z23 (by kernel_rfl) (by kernel_rfl) nG (by kernel_rfl);have z24:=z23.tail;have e21:FH (En W) 21 (.Aj (Wx W7 21 4)):=st7 (texts:=[W7 21 0,W7 21 1,W7 21 2,W7 21 3]) z24 (by kernel_rfl) (by kernel_rfl) nG (by kernel_rfl);have tx:∀g T,zX (AY W7) g=ay (.er g T)->∃t,(g,t)∈ahK/\ad1 (En W) W g t:=fun g T hg=>by
  match g,hg with
  |0,_=>exact ⟨_,TR 0 rfl,e0.2⟩ |1,_=>exact ⟨_,TR 1 rfl,e1.2⟩ |2,_=>exact ⟨_,TR 2 rfl,e2.2⟩ |3,_=>exact ⟨_,TR 3 rfl,e3.2⟩ |4,_=>exact ⟨_,TR 4 rfl,e4.2⟩ |5,_=>exact ⟨_,TR 5 rfl,e5.2⟩ |6,_=>exact ⟨_,TR 6 rfl,e6.2⟩ |7,_=>exact ⟨_,TR 7 rfl,e7.2⟩ |8,_=>exact ⟨_,TR 8 rfl,e8.2⟩ |9,_=>exact ⟨_,TR 9 rfl,e9.2⟩ |10,_=>exact ⟨_,TR 10 rfl,e10.2⟩ |11,_=>exact ⟨_,TR 11 rfl,e11.2⟩ |12,_=>exact ⟨_,TR 12 rfl,e12.2⟩ |13,_=>exact ⟨_,TR 13 rfl,e13.2⟩ |14,_=>exact ⟨_,TR 14 rfl,e14.2⟩ |15,_=>exact ⟨_,TR 15 rfl,e15.2⟩ |16,hg=>cases hg |17,hg=>cases hg |18,hg=>cases hg |19,hg=>cases hg |20,hg=>cases hg |21,hg=>cases hg |22,hg=>cases hg |23,hg=>cases hg |n+24,hg=>simp[AY,zX] at hg
 refine ⟨fun g s hg=>?_,fun g g' T T' h1 h2 hne=>?_⟩
 ·match g,hg with
  |0,hg=>cases hg;exact e0.1 |1,hg=>cases hg;exact e1.1 |2,hg=>cases hg;exact e2.1 |3,hg=>cases hg;exact e3.1 |4,hg=>cases hg;exact e4.1 |5,hg=>cases hg;exact e5.1 |6,hg=>cases hg;exact e6.1 |7,hg=>cases hg;exact e7.1 |8,hg=>cases hg;exact e8.1 |9,hg=>cases hg;exact e9.1 |10,hg=>cases hg;exact e10.1 |11,hg=>cases hg;exact e11.1 |12,hg=>cases hg;exact e12.1 |13,hg=>cases hg;exact e13.1 |14,hg=>cases hg;exact e14.1 |15,hg=>cases hg;exact e15.1 |16,hg=>cases hg;exact e16 |17,hg=>cases hg;exact e17 |18,hg=>cases hg;exact e18 |19,hg=>cases hg;exact e19 |20,hg=>cases hg;exact e20 |21,hg=>cases hg;exact e21 |22,hg=>cases hg |23,hg=>cases hg;exact e23 |n+24,hg=>simp[AY,zX] at hg
 ·obtain ⟨t,m1,q1⟩:=tx g T h1
  obtain ⟨t',m2,q2⟩:=tx g' T' h2;refine q1.ne q2 fun e=>?_
  have:=dK.1 (dK.1 ajJ _ m1) _ m2;subst e;simp[hne] at this
end Go.Proofs
namespace Go.Sx
open Go.RowKit Go.ChangeShapes Go.WideShapes Go.Deep Go.Pl
theorem Eh.below{H:Mem}{w w':World}{s:Sh}{v:Value}{H':Mem}(h:Eh H w s v H' w'):Below w.heap.size w w':=⟨h.os,h.tape,h.output,h.size,h.old⟩
def ZT(P:Program)(ts:List TypeId):Bool:=ts.all fun t=>P.readableRec t&&decide (t<P.types.size)
section
variable{H:Type}{enc:TypeId×Value->H}{P:Program}
theorem aco(hl:laidOutB P=aC){W W':World}(hb:Below W.heap.size W W'):
  ∀{ts:List TypeId} {vs:List Value} {ds:List (DataW H)} {p:List MemPlace},ZT P ts=aC->qh enc P W 0 (fun _=>aC) aC ts vs ds p->(∀x∈p,x.block<W.heap.size)->
   qh enc P W' 0 (fun b=>decide (b<W.heap.size)) aC ts vs ds p
 |[],_,_,_,_,h,_=>by
  obtain ⟨rfl,rfl,rfl⟩:=trodAll_nil h;exact rfl
 |t::ts,_,_,_,hr,h,hlt=>by
  obtain ⟨v,vs1,d,ds1,a,b,rfl,rfl,rfl,h1,h2⟩:=trodAll_cons h;simp only[ZT,List.all_cons,aH,decide_eq_true_eq] at hr;exact ⟨a,b,Below.trod hl hr.1.1 hr.1.2 h1 hb fun x hx=>hlt x (List.mem_append_left _ hx),aco hl hb (by simp only[ZT];exact hr.2) h2 fun x hx=>hlt x (List.mem_append_right _ hx),rfl⟩
theorem ame(hl:laidOutB P=aC){f:Func}{s:ChangeSpec}{W W':World}{args:Array Value}{t:TypeId}{ds gs:List (DataW H)}{before:List MemPlace}(hs:s.vars=[])(hr:ZT P f.params.toList=aC)(ht:f.resultTypes=#[t])(hu:P.underlying t=ay .bool)
  (hW:DataW.Whole enc P f.params.toList s.vars ak W args.toList ds gs before) (hb:Below W.heap.size W W')
  (h1:(s.fn H (ds++gs)).results=[.lit (.bool aC)]) (h2:(s.fn H (ds++gs)).args=ds) (h3:(s.fn H (ds++gs)).vars=[]) :
  s.post enc P f ak aC ak ak W args (.bool aC) W':=by
 have hlt:=hW.lt;have hW0:=hW;obtain ⟨p,q,hA,hV,e,hfz,hnd⟩:=hW;rw[hs] at hV;obtain ⟨rfl,rfl⟩:=trodVars_none hV;subst e;refine ⟨ds,[],p++[],[],p,[],hW0,?_,?_,?_,Below.frame hb _,fun e=>by cases e⟩
 ·rw[h1,ht]
  exact trodAll_mk1 (shut_bool hu aC)
 ·rw[h2]
  exact aco hl hb hr hA fun x hx=>hlt x (by simpa using hx)
 ·rw[h3,hs]
  exact rfl
end
open Go.RowKit Go.ChangeShapes Go.WideShapes Go.Deep Go.Pl
theorem amf{n:Nat}{g:Nat->List Sh}(h:∀i,i<n->∃ns:List Int,ns.length=2/\g i=GZ ns/\∀n∈ns,int64 n):Qd n (zY (α:=Oj) g)=aC:=by
 unfold Qd;refine dK.2 fun j hj=>?_
 obtain ⟨ns,h1,h2,h3⟩:=h j (dN.1 hj);match ns,h1 with
 |[a,b],_=>
  have e:zY (α:=Oj) g j=⟨a,b⟩:=by
   unfold zY;rw[h2];rfl
  rw[e];have:=h3 a (by simp);unfold int64 at this;have h1:aT.min=-9223372036854775808:=by decide
  have h2:aT.max=9223372036854775807:=by decide
  simp[Lit.wf,IntKind.wrap] at this;unfold CQ;simp;omega
section
variable{H:Type}{enc:TypeId×Value->H}{P:Program}{w:World}{base:Nat}{spare:Nat->Bool}{held:Bool}
end
open Go.RowKit Go.ChangeShapes Go.WideShapes Go.Deep
theorem acp{α:Type}[BF.Row α]{k n:Nat}{g:Nat->List Sh}(hk:∀ns:List Int,ns.length=k->(wP (α:=α) (GZ ns)).isSome=aC)(h:∀i,i<n->∃ns:List Int,ns.length=k/\g i=GZ ns/\∀n∈ns,int64 n):qG α n g=aC:=by
 induction n with
 |zero=>rfl |succ n ih=>
  obtain ⟨ns,h1,h2,_⟩:=h n (by omega);simp only[qG,ih fun i hi=>h i (by omega),Bool.true_and];rw[h2];exact hk ns h1
theorem aqw{n:Nat}{g:Nat->List Sh}(h:∀i,i<n->∃ns:List Int,ns.length=2/\g i=GZ ns/\∀n∈ns,int64 n):qG iO n g=aC:=acp (fun ns hn=>by
 match ns,hn with
 |[a,b],_=>rfl) h
theorem aqx{n:Nat}{g:Nat->List Sh}(h:∀i,i<n->∃ns:List Int,ns.length=8/\g i=GZ ns/\∀n∈ns,int64 n):qG jl n g=aC:=acp (fun ns hn=>by
 match ns,hn with
 |[a,b,c,d,e,f,x,y],_=>rfl) h
theorem amg{n:Nat}{g:Nat->List Sh}(h:∀i,i<n->∃ns:List Int,ns.length=8/\g i=GZ ns/\∀n∈ns,int64 n):BF.Qs n g=aC:=dK.2 fun i hi=>by
 obtain ⟨ns,h1,h2,h3⟩:=h i (dN.1 hi);match ns,h1 with
 |[a,b,c,d,e,f,x,y],_=>
  have hy:=h3 y (by simp);unfold BF.zY;rw[h2];have e:((wP (GZ [a,b,c,d,e,f,x,y])).getD BF.Row.Jk:jl).ret=y:=rfl;rw[e];have hy:(Lit.int .i64 y).wf=aC:=hy;simp only[Lit.wf,aH,decide_eq_true_eq] at hy;exact decide_eq_true hy
theorem Eh.auZ{H:Mem}{w w':World}{b:Bool}{v:Value}{H':Mem}(h:Eh H w (.v (.bool b)) v H' w'):v=.bool b:=by
 obtain ⟨E1,_,_,h1,_⟩:=h.res 0;exact h1
end Go.Sx
namespace Go.Proofs.YthehnhaoiijkhaaGreatDoor
open Go.ChangeShapes Go.WideShapes Go.ChangeAt Go.WideMaps Go.WideElems Go.RowKit Go.Sx Go.Pl
theorem aqy{n m:Nat}{g h:Nat->List Sh}(a:∀i,i<n->∃ns:List Int,ns.length=2/\g i=GZ ns/\∀n∈ns,int64 n)(b:∀i,i<m->∃ns:List Int,ns.length=8/\h i=GZ ns/\∀n∈ns,int64 n):hpB (.agg [.sl 2 n g,.sl 8 m h])=aC:=
 @decide_eq_true _ (bD _) ⟨n,g,m,h,rfl,aqw a,aqx b,amg b,amf a⟩
theorem awZ:ownKnob aB.godebug=aK:=by kernel_rfl
theorem amh:laidOutB aB=aC:=by kernel_rfl
theorem au0(os:Os)(args:Array Value):laidMetH aB laid7 ((wB aB 400 os).forCall (fun _ _=>0) ⟨#[],args,[]⟩).memory:=
 laidMetH_of_parts3 (fuel:=8) (laidMet_of_run' 8 (by kernel_rfl) (by kernel_rfl)) (by kernel_rfl) (by kernel_rfl)
set_option maxRecDepth 100000 in
theorem lifted6(os:Os)(started:os.Started)(H:Type)(enc:TypeId×Value->H):
  ReturnsInHanded {} qO os 6 .any (fun w args=>(Rows.searchManySpec.pre enc aB kR [] ak w args/\laidMetH aB laid7 w)/\sizedMet enc aB kR (OpenSpec.ofChange Rows.searchManySpec) ak w args)
   (Rows.searchManySpec.post enc aB kR ak aC ak ak):=by
 refine returnsInHanded_of_change_and (C:=qO) (X:=fun w _=>laidMetH aB laid7 w) (fun _ _ _ hh h=>h.of_heap hh) awZ started (by kernel_rfl) tN
  (ChangeSpec.witness_shaped (enc:=enc) (C:=qO) (os:=os) (X:=fun w _=>laidMetH aB laid7 w) ak (wB aB 400 os) #[.agg #[.slice aK 0 0,.slice aK 0 0],.int .i64 0,.int .i64 0] 8 rfl (World.shaped_of_RefB (by kernel_rfl) (by kernel_rfl)) (by kernel_rfl) (by kernel_rfl) (by kernel_rfl) (au0 os _)) ?_
 intro W base args ds gs before hval0 hW _ _ hL _;have hval:∀(j:Nat) t v,kR.params[j]?=ay t->args[j]?=ay v->lK aB W .any base t v:=hval0;have hW':=hW;obtain ⟨p,q,hA0,hV,e,hfz,hnd⟩:=hW;obtain ⟨rfl,rfl⟩:=trodVars_none hV;have hA:qh enc aB W 0 (fun _=>aC) aC kR.params.toList args.toList ds p:=hA0;rw[yJ] at hA hval;obtain ⟨v0,vs0,d0,ds0,p0,q0,ea,rfl,rfl,t0,hA⟩:=trodAll_cons hA;obtain ⟨v1,vs1,d1,ds1,p1,q1,rfl,rfl,rfl,t1,hA⟩:=trodAll_cons hA;obtain ⟨v2,vs2,d2,ds2,p2,q2,rfl,rfl,rfl,t2,hA⟩:=trodAll_cons hA;obtain ⟨rfl,rfl,rfl⟩:=trodAll_nil hA;have at_:∀(j:Nat) v,[v0,v1,v2][j]?=ay v->args[j]?=ay v:=fun j v h=>by rw[<-Array.getElem?_toList,ea];exact h
 obtain ⟨n0,g0,m0,h0,r0,a0,b0⟩:=amb (k0:=2) (k1:=8) (by kernel_rfl) (by decide) (by decide) (hval 0 25 v0 rfl (at_ 0 v0 rfl)) t0;obtain ⟨x1,rfl,_,_,_⟩:=open_int l9 (hval 1 3 v1 rfl (at_ 1 v1 rfl)) t1;obtain ⟨x2,rfl,_,_,_⟩:=open_int l9 (hval 2 3 v2 rfl (at_ 2 v2 rfl)) t2;have hc:=(O6 Ye) (En W) W [.agg [.sl 2 n0 g0,.sl 8 m0 h0],.i .i64 x1,.i .i64 x2] [v0,.int .i64 x1,.int .i64 x2] (fun s=>s=.v (.bool aC)) (ama W) (amd hL)
  ⟨r0,.i _ _,.i _ _,trivial⟩ ⟨aqy a0 b0,rfl⟩
 have eargs:args=[v0,.int .i64 x1,.int .i64 x2].toArray:=by rw[<-ea]
 rw[eargs];refine hc.mono fun e W' ⟨v,s,H',he,hs,hr⟩=>?_;subst he hs;obtain rfl:=hr.auZ;refine ⟨_,rfl,ame amh rfl (by kernel_rfl) (by kernel_rfl) Tryz.underlying4 (by rw[eargs] at hW';exact hW') hr.below rfl rfl rfl⟩
theorem searchMany_holds:Rows.SearchManySaid:=
 OpenClaim.holds_of_wide 6 kR rfl rfl rfl rfl rfl rfl rfl ⟨rfl,rfl,rfl,rfl,rfl⟩ rfl rfl rfl rfl rfl (by kernel_rfl) tN (by kernel_rfl)
  (of_decide_eq_true (by kernel_rfl)) (by unfold Func.isWrapper;first|(rw[if_pos (by decide +kernel)];kernel_rfl) |(rw[if_neg (by decide +kernel)];exact ⟨rfl,rfl⟩))
  (fun os started H enc _=>lifted6 os started H enc)
open Go
theorem searchMany_card:Rows.SearchManyCardSaid:=
 Claim7.holds_tied_plain_at .later [] [.data,.data,.data,.sentinel,.sentinel,.sentinel,.sentinel,.sentinel,.sentinel,.sentinel,.sentinel,.sentinel,.sentinel,.sentinel,.sentinel,.sentinel,.sentinel,.sentinel,.sentinel,.data,.data,.data,.data,.data,.data] aC (aC, "81e67fd4d3bd142d930eaa45586bdb8ac6b198972cce1b631dceec920cefaf18") aC
  searchMany_holds (fun _ h=>by cases h) (by kernel_rfl) (fun _ h=>by cases h) searchMany_row_tie rfl ⟨rfl,rfl⟩ (by kernel_rfl) rfl
  (fun f fn hf hfn=>by
   obtain rfl:f=6:=dD ((show aB.funcNamed "umpire/umpirelaw12.SearchMany" = ay 6 by kernel_rfl).symm.trans hf) |>.symm
   obtain rfl:fn=kR:=(dD (tN.symm.trans hfn)).symm;exact ⟨by kernel_rfl,fun j t ht=>by
    rw[yJ] at ht;have hm:t∈[25,3,3]:=by simpa using Array.mem_of_getElem? ht
    have hall:([25,3,3].all fun u=>!Tryz.prog.wantsStandIn u)=aC:=by kernel_rfl
    exact (show aB.wantsStandIn t=ak by simpa using dK.1 hall t hm)⟩)
  (by kernel_rfl)
#print axioms searchMany_card
end Go.Proofs.YthehnhaoiijkhaaGreatDoor
