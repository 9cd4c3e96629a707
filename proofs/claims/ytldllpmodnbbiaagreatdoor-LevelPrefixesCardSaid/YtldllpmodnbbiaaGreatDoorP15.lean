/- Own work. -/
import Derived.Test.YtldllpmodnbbiaaGreatDoorP14
import Derived.ProofKit
import Derived.Deep.Slices
import Derived.Stop.LaidErr
import Derived.LaidMore
import Derived.OpenShut
import Derived.MakeChecks
open Int (ofNat)
open Bool renaming false->aA,true->ay,and_eq_true->aB,not_eq_true'->jy
open Classical renaming propDecidable->aI
open Go.Addr renaming add->lJ
open Go.DataW renaming trod->zB,trod_int->nZ,trod_struct->sS,trod_array->uD
open Go.Gm renaming start->dM
open Go.MemPlace renaming row->uz
open Go.BI renaming Ap->aO,I5->gW,EY->kN,takeB->iE,FN->pX,Oj->dU,H9->lV,Ol->jl,takeN->xq,Row->yV,okB->gG,lst->nO,Ev->fA
open Go.BI.Au renaming nil->iw
open Go.Proofs.C7 renaming OG->ig,ok->jD
open Go.Proofs.ED renaming OG->iF
open Go.Proofs.Tryz renaming prog->ak,f7->ku,f42->kM,f30->oD,f32->jC,f11->qY,f3->iY,f17->oG
open Go.Rg renaming Ea->kF
open Go.Sx.BL renaming int->aC,get->bY,all->bZ
open Go.Sx.It renaming code->aK,inBlock->aX
open Go.Sx.Sh renaming i->aQ,b->iL
open Go.Sx.Tree renaming NG->yX
open Go.Value renaming int->iW,okWide->mQ
open Int renaming ofNat->ah
open Int.ofNat renaming inj->jf
open List renaming all_eq_true->dh,mem_range->eF,replicate->dD,getElem?_map->iU,getElem?_eq_getElem->aV,take->vS,drop->vU,getD_eq_getElem?_getD->bI,length->uw
open List.cons renaming injEq->dF
open Nat renaming le_refl->bM,zero_le->fH,sub_self->gK,beq->dK,eq_of_beq_eq_true->gU,add_assoc->rC,mul_one->zJ
open Option renaming some->aj,none->aF,isNone_iff_eq_none->nY,isSome_iff_exists->dO,map_eq_some_iff->bH,getD_some->sU
open Option.some renaming inj->bP
open Prod.mk renaming injEq->jo
noncomputable section
namespace Go.Rg
open Go Go.Sx Go.Pl Go.Proofs Go.Gm Go.Bf
def td7:List It:=[aK [0,0,1,1,1,1,1,1,1,1,1],aX 0,aK [1,1,1,1,1,1,1,1,1,1]]
def ab4:List It:=[aK [0,1,0,1,0,1,0,0,0,1,1,1,1,1,1,1,1,1],aX 2,aK [1,1,0,1,0,0,0,1,1,1,1,1,1,1,1,1],aX 1]++td7
def VW:List It:=[aK [0,1,0,0,1,0,0,1,0,1,0,1,0,0,0,1,1,1,1,1,1,1,1,1],aX 4,aX 3,aK [1,1,0,0,1,0,1,0,1,0,0,0,1,1,1,1,1,1,1,1,1]]++ab4
def ac7:List FT->SV×List (Nat×SB)×Nat
 |[]=>(.Bg,[],5) |a::r=>(.gs 5,[(5,.own 89 2 (r.length+1) (Am (nth (a::r))))],6)
def L7(lv:Int)(n:Nat)(T:Nat->CJ)(C:List Int)(no:Nat)(g0:ϝ)(o:List (Nd (List A8)))(f:Nat->Bool)(cnt:Int)(acc:List FT)(l:List (Nat×SV)):Core:=
 {tm:=DF 122 ([(6,.ptr 0 0),(7,.ptr 1 0),(8,.ptr 2 0),(9,.ptr 3 0),(10,.sh (.sl 2 o.length (Am (nth (o.map (Ce no)))))),(12,.sh (.sl 1 o.length (fnB f))),(13,.ptr 4 0)]++l),
  hp:=[(0,.box [.bool aA,.Bg,.int .i64 0] 34),(1,.box [.int .i64 0,.Bg] 37),(2,.box (gmV lv n T C no g0) 70),(3,.box [.int .i64 0,.sh (.sl 1 0 FB)] 37),(4,.box [.bool ay,(ac7 acc).1,.sym .i64 cnt] 34)]++(ac7 acc).2.1,nx:=(ac7 acc).2.2,lim:=L0,tc:=[]}
def nxI(o:List (Nd (List A8))):Option PlT->SV
 |none=>.int .i64 (-1) |some t=>.sym .i64 ((LU o t.2).getD 0:Nat)
def aT(acc:List FT):Option PlT->List FT
 |none=>acc |some t=>acc++[Gj t.1]
theorem aqi{o:List (Nd (List A8))}{t:Nd (List A8)}{j:Nat}(h:LU o t=aj j):j<o.length/\BR o j=t:=by
 unfold LU at h;rw[List.findIdx?_eq_some_iff_getElem] at h;obtain ⟨h1,h2,_⟩:=h;exact ⟨h1,by simpa[BR,h1] using acN (ϑ h2)⟩
section
variable{lv:Int}{n:Nat}{T:Nat->CJ}{C:List Int}{no:Nat}{g0:ϝ}{H0:Mem}{w0:World}{φ:Sh->Prop}{o:List (Nd (List A8))}{k i:Nat}{cnt:Int}{acc:List FT}{s0:ϕ}
abbrev enO(lv:Int)(T:Nat->CJ)(C:List Int)(no:Nat)(o:List (Nd (List A8))):Nat->Bool:=fun j=>Hg (CX lv T C no) (BR o j)
abbrev G7(lv:Int)(n:Nat)(T:Nat->CJ)(C:List Int)(no:Nat)(g0:ϝ)(o:List (Nd (List A8)))(cnt:Int)(s0:ϕ)(H0:Mem)(w0:World)(φ:Sh->Prop)(td:List It)(acc:List FT)(l:List (Nat×SV)):Prop:=
 AB ak (ED Ak W7 s0 Aw) (K0 H0 w0) 7 td (L7 lv n T C no g0 o (enO lv T C no o) cnt acc l) [] emp (up φ)
theorem awz(P:UK lv n T C no)(ho:∀x∈o,IE no C.length x)(hl:o.length<=65536)(hk:k<o.length)(hi:i<C.length)(cm:Bool)(ha:acc.length<=100){x:Option (Nd (List A8))}(hx:Fa (CX lv T C no) (BR o k).placed (BR o k).st i cm=x)(hox:∀t,x=aj t->IE no C.length t/\∃j,LU o t=aj j)
  (nx:G7 lv n T C no g0 o cnt s0 H0 w0 φ VW (aT acc (ndT (CX lv T C no) ((CX lv T C no).id i) cm x)) [(14,.sym .i64 (k:Int)),(15,nxI o (ndT (CX lv T C no) ((CX lv T C no).id i) cm x)),(16,.sym .i64 (i:Int)),(17,.int .i64 (bif cm then 1 else 2))]) :
  G7 lv n T C no g0 o cnt s0 H0 w0 φ VW acc [(14,.sym .i64 (k:Int)),(15,.int .i64 (-1)),(16,.sym .i64 (i:Int)),(17,.int .i64 (bif cm then 0 else 1))]:=by
 have hnd:IE no C.length (BR o k):=ho _ (by simp[BR,hk]);have hR:nth (o.map (Ce no)) (Ak.toN (k:Int))=Ce no (BR o k):=Uj o hk;have inb:Ak.inB (k:Int) o.length=ay:=by simp[AX];omega
 refine D6 ku (aK [0,0,1,0,0,1,0,0,1,0,1,0,1,0,0,0,1,1,1,1,1,1,1,1,1]::VW) ?_;cases x with
 |none=>
  refine Bq (s:=LH lv n T C no g0 (BR o k).placed (BR o k).st i cm aF (LG o) (dR [])) (stop:=Aw) ?_;have nx:=Bq (s':=LH lv n T C no g0 (BR o k).placed (BR o k).st i cm aF (LG o) (dR [])) (stop':=Aw) nx;refine BZ (afC P g0 _ hi hnd.lt cm _ _ _ _) 300 400 [⟨7,VW,L7 lv n T C no g0 o (enO lv T C no o) cnt acc [(14,.sym .i64 (k:Int)),(15,.int .i64 (-1)),(16,.sym .i64 (i:Int)),(17,.int .i64 (bif cm then 1 else 2))],[]⟩] ?_;have hc:=BN inb (IK (n:=n) (g0:=g0) hnd hx hR (IK (n:=n) (g0:=g0) hnd hx hR (l:=[]) rfl));cases acc<;>cases cm<;>exact DC hc 0 ⟨_,rfl,nx⟩
 |some t=>
  obtain ⟨ht,q,hq⟩:=hox t rfl;obtain ⟨hql,hqt⟩:=aqi hq;have hrw:Ap (α:=J8) (Am (nth (o.map (Ce no))))=nth (o.map (Ce no)):=Nr _;have hfi:UJ (Sz (Ap (Am (nth (o.map (Ce no))))) (LG o) no (dR t.st) (t.placed:Nat)) o.length 0=(q:Int):=by
   grind [aoC]
  have hld:enO lv T C no o (Ak.toN (UJ (Sz (Ap (Am (nth (o.map (Ce no))))) (LG o) no (dR t.st) (t.placed:Nat)) o.length 0))=Hg (CX lv T C no) t:=by
   rw[hfi];show Hg _ (BR o q)=_;rw[hqt]
  refine Bq (s:=LH lv n T C no g0 (BR o k).placed (BR o k).st i cm (aj t) (LG o) (dR t.st)) (stop:=Aw) ?_;have nx:=Bq (s':=LH lv n T C no g0 (BR o k).placed (BR o k).st i cm (aj t) (LG o) (dR t.st)) (stop':=Aw) nx;have k1 {l l':List Bool} (h:l=l'):=BN inb (IK (n:=n) (g0:=g0) hnd hx hR (IK (n:=n) (g0:=g0) hnd hx hR (l:=(okB J8 o.length (Am (nth (o.map (Ce no))))&&fdB o.length (Ap (Am (nth (o.map (Ce no))))) (LG o) no (DJ (dR t.st)) (dR t.st)) ::
   Ak.inB (UJ (Sz (Ap (Am (nth (o.map (Ce no))))) (LG o) no (dR t.st) (t.placed:Nat)) o.length 0) o.length::l) (l':=ay::ay::l') (by
   rw[show okB J8 o.length (Am (nth (o.map (Ce no))))=ay from Cb _ _,hfi,hrw,aoD ho (by omega) ht,show Ak.inB (q:Int) o.length=ay by simp[AX];omega,h];rfl)))
  cases hb:Hg (CX lv T C no) t with
  |false=>
   rw[show ndT (CX lv T C no) ((CX lv T C no).id i) cm (aj t)=aF by simp[ndT,hb]] at nx;refine BZ (afC P g0 _ hi hnd.lt cm _ _ _ _) 300 400 [⟨7,VW,L7 lv n T C no g0 o (enO lv T C no o) cnt acc [(14,.sym .i64 (k:Int)),(15,.int .i64 (-1)),(16,.sym .i64 (i:Int)),(17,.int .i64 (bif cm then 1 else 2))],[]⟩] ?_;have hc:=k1 (BN (hld.trans hb) (rfl:[]=[]));cases acc<;>cases cm<;>exact DC hc 0 ⟨_,rfl,nx⟩
  |true=>
   rw[show ndT (CX lv T C no) ((CX lv T C no).id i) cm (aj t)=aj (((CX lv T C no).id i,cm),t) by simp[ndT,hb]] at nx;have c12:Ak.inB (i:Int) C.length=ay:=by simp[AX];omega
   have mem:nth C i∈C:=by
    simp_all [nth]
   have c13:Ak.inB (nth C (Ak.toN (i:Int))) n=ay:=by
    have:=P.ci _ mem;show Ak.inB (nth C i) n=ay;simp[AX];omega
   have hrow:[aQ .i64 (T (Ak.toN (nth C (Ak.toN (i:Int))))).id,.b cm]=Row.put (Gj (((CX lv T C no).id i,cm))):=by
    show [aQ .i64 (T (Ak.toN (nth C i))).id,.b cm]=_;rw[awi (T:=T) hi];rfl
   have hnx:UJ (Sz (Ap (Am (nth (o.map (Ce no))))) (LG o) no (dR t.st) (t.placed:Nat)) o.length 0=((LU o t).getD 0:Nat):=by simp_all
   refine BZ (afC P g0 _ hi hnd.lt cm _ _ _ _) 300 400 [⟨7,VW,L7 lv n T C no g0 o (enO lv T C no o) cnt (aT acc (aj (((CX lv T C no).id i,cm),t))) [(14,.sym .i64 (k:Int)),(15,.sym .i64 ((LU o t).getD 0:Nat)),(16,.sym .i64 (i:Int)),(17,.int .i64 (bif cm then 1 else 2))],[]⟩] ?_;cases acc with
   |nil=>
    have hc:=k1 (BN (hld.trans hb) (BN c12 (BN c13 (rfl:[]=[]))));cases cm<;>exact DC hc 0 ⟨_,rfl,nx⟩ [3,17] [aC (UJ (Sz (Ap (Am (nth (o.map (Ce no))))) (LG o) no (dR t.st) (t.placed:Nat)) o.length 0) ((LU o t).getD 0:Nat),bY 1 (Bh [[aQ .i64 (T (Ak.toN (nth C (Ak.toN (i:Int))))).id,.b _]]) (Am (nth [Gj (((CX lv T C no).id i,_))]))]
     ⟨hnx,fun j hj=>by
      obtain rfl:j=0:=by omega
      exact hrow,ϖ⟩
   |cons a r=>
    have c14:Ak.room (Ak.addN (a::r).length 1) 16=ay:=room_le (by rw[Dl];omega) (by omega);have hln:Ak.addN (a::r).length 1=(r++[Gj (((CX lv T C no).id i,cm))]).length+1:=by rw[List.length_append];rfl
    have hc:=k1 (BN (hld.trans hb) (BN c12 (BN c13 (BN c14 (BN c14 (rfl:[]=[]))))));cases cm<;>exact DC hc 0 ⟨_,rfl,nx⟩ [3,16,17] [aC (UJ (Sz (Ap (Am (nth (o.map (Ce no))))) (LG o) no (dR t.st) (t.placed:Nat)) o.length 0) ((LU o t).getD 0:Nat),BL.nat (Ak.addN (a::r).length 1) ((r++[Gj (((CX lv T C no).id i,_))]).length+1),
     bY (Ak.addN (a::r).length 1) (Ak.snoc (Am (nth (a::r))) (a::r).length (Bh [[aQ .i64 (T (Ak.toN (nth C (Ak.toN (i:Int))))).id,.b _]])) (Am (nth (a::r++[Gj (((CX lv T C no).id i,_))])))]
     ⟨hnx,hln,fun j hj=>Ib (a::r) _ _ hrow j hj,ϖ⟩
theorem aoK(c:Nat)(z:Option PlT)(hz:c=2\/(z≠aF/\(c=0\/c=1)))
  (nx:G7 lv n T C no g0 o cnt s0 H0 w0 φ ab4 acc [(14,.sym .i64 (k:Int)),(15,nxI o z),(16,.sym .i64 (Ak.add .i64 (i:Int) (ah 1)))]) :
  G7 lv n T C no g0 o cnt s0 H0 w0 φ VW acc [(14,.sym .i64 (k:Int)),(15,nxI o z),(16,.sym .i64 (i:Int)),(17,.int .i64 (c:Int))]:=by
 have nx:=Bq (s':=noSpec) (stop':=Aw) nx;refine D6 ku (aK [0,0,1,0,0,1,0,0,1,0,1,0,1,0,0,0,1,1,1,1,1,1,1,1,1]::VW) ?_;refine Bq (s:=noSpec) (stop:=Aw) ?_;refine BZ (iF (fun _ _ h=>by cases h) fun _ h=>by cases h) 300 400 [⟨7,ab4,L7 lv n T C no g0 o (enO lv T C no o) cnt acc [(14,.sym .i64 (k:Int)),(15,nxI o z),(16,.sym .i64 (Ak.add .i64 (i:Int) (ah 1)))],[]⟩] ?_;have k1 (x:Nat):[Ak.lt (x:Int) 0]=[aA]:=by rfl
 rcases hz with rfl|⟨hz,rfl|rfl⟩
 ·cases z<;>cases acc<;>exact DC (l:=[]) (cs:=[]) rfl 0 ⟨_,rfl,nx⟩
 ·cases z with
  |none=>simp_all |some t=>cases acc<;>exact DC (k1 ((LU o t.2).getD 0)) 0 ⟨_,rfl,nx⟩
 ·cases z with
  |none=>simp_all |some t=>cases acc<;>exact DC (k1 ((LU o t.2).getD 0)) 0 ⟨_,rfl,nx⟩
theorem aEe(P:UK lv n T C no)(ho:∀x∈o,IE no C.length x)(hl:o.length<=65536)(hk:k<o.length)(hi:i<C.length)(ha:acc.length<=100){x0 x1:Option (Nd (List A8))}(h0:Fa (CX lv T C no) (BR o k).placed (BR o k).st i ay=x0)(h1:Fa (CX lv T C no) (BR o k).placed (BR o k).st i aA=x1)
  (hx:∀t,x0=aj t\/x1=aj t->IE no C.length t/\∃j,LU o t=aj j) (z:Option PlT)
  (nx:∀z',z'=z.or ((ndT (CX lv T C no) ((CX lv T C no).id i) ay x0).or (ndT (CX lv T C no) ((CX lv T C no).id i) aA x1))->G7 lv n T C no g0 o cnt s0 H0 w0 φ ab4 (aT acc z') [(14,.sym .i64 (k:Int)),(15,nxI o z'),(16,.sym .i64 (Ak.add .i64 (i:Int) (ah 1)))]) :
  G7 lv n T C no g0 o cnt s0 H0 w0 φ VW (aT acc z) [(14,.sym .i64 (k:Int)),(15,nxI o z),(16,.sym .i64 (i:Int)),(17,.int .i64 (bif ay then 0 else 1))]:=by
 cases z with
 |some t=>exact aoK 0 _ (.inr ⟨by simp,.inl rfl⟩) (nx _ (by simp)) |none=>
  refine awz P ho hl hk hi ay ha h0 (fun t e=>hx t (.inl e)) ?_;generalize ndT (CX lv T C no) ((CX lv T C no).id i) ay x0=z1 at *;cases z1 with
  |some t=>exact aoK 1 _ (.inr ⟨by simp,.inr rfl⟩) (nx _ (by simp)) |none=>
   refine awz P ho hl hk hi aA ha h1 (fun t e=>hx t (.inr e)) ?_;exact aoK 2 _ (.inl rfl) (nx _ (by simp))
theorem aqj(P:UK lv n T C no)(ho:∀x∈o,IE no C.length x)(hl:o.length<=65536)(hk:k<o.length)(ha:acc.length<=100)(hE:∀t∈next (CX lv T C no) (BR o k),IE no C.length t/\∃j,LU o t=aj j):
  ∀r i (z:Option PlT),i+r=C.length->(∃t,z.or (fdT (CX lv T C no) (BR o k) i r)=aj t)->
  (∀t,z.or (fdT (CX lv T C no) (BR o k) i r)=aj t->G7 lv n T C no g0 o cnt s0 H0 w0 φ td7 (aT acc (aj t)) [(14,.sym .i64 ((LU o t.2).getD 0:Nat))])->
  G7 lv n T C no g0 o cnt s0 H0 w0 φ ab4 (aT acc z) [(14,.sym .i64 (k:Int)),(15,nxI o z),(16,.sym .i64 (i:Int))]
 |0,i,z,hi,⟨t,ht⟩,nx=>by
  obtain rfl:z=aj t:=by
   simp_all [fdT,abZ]
  refine D6 ku (aK [0,0,1,0,1,0,1,0,0,0,1,1,1,1,1,1,1,1,1]::ab4) ?_;have nx:=Bq (s':=noSpec) (stop':=Aw) (nx t ht);refine Bq (s:=noSpec) (stop:=Aw) ?_;refine BZ (iF (fun _ _ h=>by cases h) fun _ h=>by cases h) 300 400 [⟨7,td7,L7 lv n T C no g0 o (enO lv T C no o) cnt (aT acc (aj t)) [(14,.sym .i64 ((LU o t.2).getD 0:Nat))],[]⟩] ?_;generalize aT acc (aj t)=a at *;cases a<;>exact DC (l:=[aA]) (cs:=[Ak.lt (i:Int) C.length]) (by simp[Ar];omega) 0 ⟨_,rfl,nx⟩
 |r+1,i,z,hi,hz,nx=>by
  have hc:=P.cl;have hi':i<C.length:=by omega
  have go:G7 lv n T C no g0 o cnt s0 H0 w0 φ VW (aT acc z) [(14,.sym .i64 (k:Int)),(15,nxI o z),(16,.sym .i64 (i:Int)),(17,.int .i64 (bif ay then 0 else 1))]:=by
   refine aEe P ho hl hk hi' ha rfl rfl (fun t ht=>hE t (by rcases ht with h|h<;>exact afA (g:=CX lv T C no) hi' h)) z fun z' hz'=>?_
   have e:z.or (fdT (CX lv T C no) (BR o k) i (r+1))=z'.or (fdT (CX lv T C no) (BR o k) (i+1) r):=by simp_all [ar8,aoF,Option.or_assoc]
   rw[e] at nx hz;rw[show Ak.add .i64 (i:Int) (ah 1)=((i+1:Nat):Int) from add1 (by omega)];exact aqj P ho hl hk ha hE r (i+1) z' (by omega) hz nx
  refine D6 ku (aK [0,0,1,0,1,0,1,0,0,0,1,1,1,1,1,1,1,1,1]::ab4) ?_;have go:=Bq (s':=noSpec) (stop':=Aw) go;refine Bq (s:=noSpec) (stop:=Aw) ?_;refine BZ (iF (fun _ _ h=>by cases h) fun _ h=>by cases h) 300 400 [⟨7,VW,L7 lv n T C no g0 o (enO lv T C no o) cnt (aT acc z) [(14,.sym .i64 (k:Int)),(15,nxI o z),(16,.sym .i64 (i:Int)),(17,.int .i64 (bif ay then 0 else 1))],[]⟩] ?_;generalize aT acc z=a at *;cases z<;>cases a<;>exact DC (l:=[ay]) (cs:=[Ak.lt (i:Int) C.length]) (by simp[Ar];omega) 0 ⟨_,rfl,go⟩
def fdS(y:Bool)(l:List FT)(cnt:Int):Sh:=.Az [.agg [.b y,.sl 2 l.length (Am (nth l)),.i .i64 cnt],.agg [.i .i64 0,.sl 1 0 FB]]
theorem aqk{s:List A8}{m:Nat}{Q:Nd (List A8)->Prop}(P:UK lv n T C no)(A:SE (CX lv T C no) s m Q o)(hq:∀x,Q x->IE no C.length x)(hl:o.length<=65536):
  ∀F k acc,k<o.length->Hg (CX lv T C no) (BR o k)=ay->C.length+1<=F+rk (CX lv T C no) (BR o k)->acc.length+F<=C.length+1->
  φ (fdS ay (acc++(least (CX lv T C no) (Hg (CX lv T C no)) F (BR o k)).map Gj) cnt)->
  G7 lv n T C no g0 o cnt s0 H0 w0 φ td7 acc [(14,.sym .i64 (k:Int))]
 |0,k,acc,hk,he,hr,ha,hφ=>by
  have:=ayH (G:=CX lv T C no) (BR o k);grind [CX]
 |F+1,k,acc,hk,he,hr,ha,hφ=>by
  have hcl:=P.cl;have hok:∀x∈o,IE no C.length x:=fun x hx=>hq x (A.all x hx);have inb:Ak.inB (k:Int) o.length=ay:=by simp[AX];omega
  have hko:o[k]?=aj (BR o k):=by simp[BR,hk]
  have hv:Ak.eq (nth (o.map (Ce no)) (Ak.toN (k:Int))).placed ((2^C.length - 1:Nat):Int)=full (CX lv T C no) (BR o k):=by
   rw[show nth (o.map (Ce no)) (Ak.toN (k:Int))=Ce no (BR o k) from Uj o hk,Bool.eq_iff_iff,AQ,ϡ];unfold full;rw[ϟ];exact ⟨fun h=>jf h,fun h=>congrArg ah h⟩
  refine D6 ku (aK [0,0,0,1,1,1,1,1,1,1,1,1]::td7) ?_;cases hf:full (CX lv T C no) (BR o k) with
  |true=>
   rw[amw _ _ hf,List.map_nil,List.append_nil] at hφ;refine Bq (s:=ab3) (stop:=Aw) ?_;refine BZ (aoE _) 300 400 [] ?_;have hc:[Ak.inB (k:Int) o.length,decide (C.length<=62),Ak.nt (Ak.eq (nth (o.map (Ce no)) (Ak.toN (k:Int))).placed ((2^C.length - 1:Nat):Int))]=[ay,ay,aA]:=by rw[inb,ϱ hcl,hv,hf];rfl
   cases acc with
   |nil=>exact I9 hc (s:=.Az [.agg [.b ay,.sl 0 0 (fun _=>[]),.i .i64 cnt],.agg [.i .i64 0,.sl 1 0 FB]]) (AY (s':=fdS ay [] cnt) ⟨⟨.inl rfl,.inl ⟨rfl,rfl⟩,rfl,ϖ⟩,⟨rfl,.inl ⟨rfl,rfl⟩,ϖ⟩,ϖ⟩ hφ) |cons a r=>exact I9 hc (s:=.Az [.agg [.b ay,.os 89 2 (r.length+1) (Am (nth (a::r))),.i .i64 cnt],.agg [.i .i64 0,.sl 1 0 FB]]) (AY (s':=fdS ay (a::r) cnt) ⟨⟨.inl rfl,.inr ⟨rfl,rfl,fun _ _=>rfl⟩,rfl,ϖ⟩,⟨rfl,.inl ⟨rfl,rfl⟩,ϖ⟩,ϖ⟩ hφ)
  |false=>
   obtain ⟨t,h1,h2,h3⟩:=awr he hf;have hE:∀t∈next (CX lv T C no) (BR o k),IE no C.length t/\∃j,LU o t=aj j:=fun t ht=>by
    obtain ⟨j,a1,_⟩:=A.at hko ht;grind
   have go:=aqj (φ:=φ) (s0:=ab3) (H0:=H0) (w0:=w0) (g0:=g0) (n:=n) (cnt:=cnt) P hok hl hk (acc:=acc) (by omega) hE C.length 0 aF (by omega) ⟨t,h1⟩ fun t' ht'=>by
    have et:t'=t:=bP (ht'.symm.trans h1);subst et;obtain ⟨_,j,hj⟩:=hE t'.2 (Ul h2);obtain ⟨hjl,hjt⟩:=aqi hj;rw[hj];have hrk:=Sm t'.2 (Ul h2);refine Bq (aqk P A hq hl F j (acc++[Gj t'.1]) hjl (by simp_all) (by grind) (by grind) ?_);simp_all [List.append_assoc,amv]
   refine Bq (s:=ab3) (stop:=Aw) ?_;refine BZ (aoE _) 300 400 [⟨7,ab4,L7 lv n T C no g0 o (enO lv T C no o) cnt acc [(14,.sym .i64 (k:Int)),(15,.int .i64 (-1)),(16,.sym .i64 ((0:Nat):Int))],[]⟩] ?_;have hc:[Ak.inB (k:Int) o.length,decide (C.length<=62),Ak.nt (Ak.eq (nth (o.map (Ce no)) (Ak.toN (k:Int))).placed ((2^C.length - 1:Nat):Int))]=[ay,ay,ay]:=by rw[inb,ϱ hcl,hv,hf];rfl
   cases acc<;>exact DC hc 0 ⟨_,rfl,go⟩
end
def aql(s:Sh)(lv:Int)(B:Qg)(no:Nat)(g0:ϝ):ϵ
 |[a,t]=>match Bd t with
  |some z=>.need (NS a s) (.need (decide (z=lv)) (.leaf (.Az [SC lv B.n B.T (D5 lv B.T 0 B.n) no g0,.agg [.i .i64 0,.sl 1 0 FB]]))) |none=>.fail
 |_=>.fail
def amx(s:Sh)(lv:Int)(c:Int)(k:Nat)(f:ϝ):ϵ
 |[a,t]=>match Bd t with
  |some z=>.need (NS a s) (.need (decide (z=lv)) (.leaf (.Az [zgS,.agg [.i .i64 c,.sl 1 k f]]))) |none=>.fail
 |_=>.fail
section
variable{n m:Nat}{g h:ϝ}{lv mo:Int}
theorem azE(P:IC n g m h)(hlv:lv=1\/lv=2\/lv=3)(hok:(Bj n g m h).okb=ay)(hn:(Bj n g m h).n<=12):AO ak (AZ W7) 19 (aql (hsS n g m h) lv (Bj n g m h) n (DJ (Ja (Ap g)))):=
 (awl P hlv).mono fun H Bl args φ hr hφ=>by
  unfold aql at hφ;split at hφ
  ·split at hφ
   ·rename_i e
    obtain ⟨h1,h2,h3⟩:=hφ;unfold D13;simp only[e];exact ⟨h1,h2,fun _=>⟨fun _=>h3,fun q=>by simp_all⟩,fun q=>by simp_all⟩
   ·exact hφ.elim
  ·exact hφ.elim
theorem aEf(P:IC n g m h)(hlv:lv=1\/lv=2\/lv=3)(hno:¬((Bj n g m h).okb=ay/\(Bj n g m h).n<=12)):∃(c:Int) (k:Nat) (f:ϝ),c≠0/\AO ak (AZ W7) 19 (amx (hsS n g m h) lv c k f):=by
 cases hok:(Bj n g m h).okb with
 |true=>
  refine ⟨118,0,FB,by decide,(awl P hlv).mono fun H Bl args φ hr hφ=>?_⟩;unfold amx at hφ;split at hφ
  ·split at hφ
   ·rename_i e
    obtain ⟨h1,h2,h3⟩:=hφ;unfold D13;simp only[e];exact ⟨h1,h2,fun _=>⟨fun q=>(hno ⟨hok,ϑ q⟩).elim,fun _=>h3⟩,fun q=>by simp_all⟩
   ·exact hφ.elim
  ·exact hφ.elim
 |false=>
  refine ⟨(wE n (Ap g) m (aO h)).1,if (wE n (Ap g) m (aO h)).1=0\/(wE n (Ap g) m (aO h)).1=105 then 0 else 1,fun _=>[.i .i64 ((wE n (Ap g) m (aO h)).2:Int)],aoq P hok,(awl P hlv).mono fun H Bl args φ hr hφ=>?_⟩;unfold amx at hφ;split at hφ
  ·split at hφ
   ·rename_i e
    obtain ⟨h1,h2,h3⟩:=hφ;unfold D13;simp only[e];exact ⟨h1,h2,fun q=>(by simp_all),fun _=>h3⟩
   ·exact hφ.elim
  ·exact hφ.elim
theorem aqm(T:TbP n g (Bj n g m h)){nd:Nd (List A8)}(hq:QlP lv n g (Bj n g m h) nd):IE n (D5 lv (Bj n g m h).T 0 (Bj n g m h).n).length nd where
 lt:=by
  have h1:nd.placed<2^(Ic lv (Bj n g m h).n (Bj n g m h).T).length:=hq.2.1;grind [Zy,aoA,ZH]
 len:=hq.1
 few:=T.o
 inv j hj:=by
  obtain ⟨_,d,hd⟩:=hq.2;have hr:=avP (lv:=lv) T (Eh (Ig n (I4 g)) nd);have e:=hd.row j hj;have e2:(Eh (Ig n (I4 g)) nd).st j=DU (Dk nd.st j):=afo nd.st j hj;have:Dk nd.st j=d j:=RQ (e2.symm.trans e);rw[this];exact (hd.inv j hj).up (by omega)
theorem afD(T:TbP n g (Bj n g m h)):∀nd,QlP lv n g (Bj n g m h) nd->∀t∈next (Rk lv n g m h) nd,QlP lv n g (Bj n g m h) t:=fun nd hq t ht=>by
 unfold Rk at ht;rw[ajl lv n g] at ht;exact (OL T).step nd hq t ht
end
def F7g(s:Sh)(lv mo:Int):ϵ
 |[a,t,u]=>match Bd t,Bd u with
  |some x,aj y=>.need (NS a s) (.need (decide (x=lv/\y=mo)) (.leaf (.Az [.agg [.b (Ii s lv mo),.sl 2 (LQ s lv mo) (Am (NT s lv mo)),.i .i64 (JF s lv mo)],.agg [.i .i64 0,.sl 1 0 FB]]))) |_,_=>.fail
 |_=>.fail
def F7b(s:Sh)(lv mo:Int)(c:Int)(k:Nat)(f:ϝ):ϵ
 |[a,t,u]=>match Bd t,Bd u with
  |some x,aj y=>.need (NS a s) (.need (decide (x=lv/\y=mo)) (.leaf (.Az [.agg [.b aA,.sl 2 0 FB,.i .i64 0],.agg [.i .i64 c,.sl 1 k f]]))) |_,_=>.fail
 |_=>.fail
def WH(s:Sh)(lv:Int)(B:Qg)(no:Nat)(g0:ϝ)(l:List A8)(mo:Int)(r:Option (List (Nd (List A8))))(F3:ϵ):ϕ
 |19=>aj (aql s lv B no g0) |20=>aj (F20 lv B.n B.T (D5 lv B.T 0 B.n) no l mo r) |22=>aj F3 |_=>aF
def acO(s:Sh)(lv:Int)(c:Int)(k:Nat)(f:ϝ):ϕ
 |19=>aj (amx s lv c k f) |20=>aj fun _=>.fail |22=>aj fun _=>.fail |_=>aF
section
variable{n m:Nat}{g h:ϝ}{lv mo:Int}
theorem awD{s:Sh}{B:Qg}{no:Nat}{g0:ϝ}{l:List A8}{r:Option (List (Nd (List A8)))}{F3:ϵ}(O:AO ak (AZ W7) 19 (aql s lv B no g0))(O2:AO ak (AZ W7) 20 (F20 lv B.n B.T (D5 lv B.T 0 B.n) no l mo r))(O3:AO ak (AZ W7) 22 F3)(stop:Nat->List Nat->Bool):
  BJ ak (ED Ak W7 (WH s lv B no g0 l mo r F3) stop):=iF (fun g F h=>by
 unfold WH at h;grind) fun g h=>by
 unfold WH at h;split at h;all_goals first|(cases h;done) |kernel_rfl
theorem aBW{s:Sh}{c:Int}{k:Nat}{f:ϝ}(O:AO ak (AZ W7) 19 (amx s lv c k f))(stop:Nat->List Nat->Bool):BJ ak (ED Ak W7 (acO s lv c k f) stop):=iF (fun g F h=>by
 unfold acO at h;split at h
 ·simp_all
 ·cases h;exact fun H w Bl args φ hon hg hr hφ=>hφ.elim
 ·cases h;exact fun H w Bl args φ hon hg hr hφ=>hφ.elim
 ·cases h) fun g h=>by
 unfold acO at h;split at h;all_goals first|(cases h;done) |kernel_rfl
theorem aqn{n:Nat}{T:Nat->CJ}{C:List Int}{no:Nat}{s:List A8}{g0:ϝ}(h:∀j,j<no->g0 j=DJ (dR s) j):isG lv n T C no s (SC lv n T C no g0)=ay:=@ϱ _ (aI _) ⟨g0,rfl,h⟩
theorem awE{n:Nat}{T:Nat->CJ}{C:List Int}{no:Nat}{g0:ϝ}:awp lv n T C no (SC lv n T C no g0)=ay:=@ϱ _ (aI _) ⟨g0,rfl⟩
theorem awF{no:Nat}{o:List (Nd (List A8))}:awq no o o.length (Am (nth (o.map (Ce no))))=ay:=@ϱ _ (aI _) ⟨rfl,fun _ _=>rfl⟩
theorem VX{s:Sh}:NS s s=ay:=@ϱ _ (aI _) rfl
theorem O7g(P:IC n g m h)(hlv:lv=1\/lv=2\/lv=3)(hok:(Bj n g m h).okb=ay)(hn:(Bj n g m h).n<=12)(hm:1<=mo/\mo<=65536){r:List (Nd (List A8))}(hr:paO lv mo n g m h=aj r):AO ak (AZ W7) 7 (F7g (hsS n g m h) lv mo):=by
 have T:=aaY P hok hn;have Gp:=aqb T hlv;obtain ⟨ey,et,ec⟩:=ab2 P hok hn hr;have A:SE (Rk lv n g m h) (newL n g) mo.toNat (QlP lv n g (Bj n g m h)) r:=⟨hr,by omega,afD T,Jy T⟩;have hq:=fun x (hx:QlP lv n g (Bj n g m h) x)=>aqm T hx;have hl:=(P6 A.m1 hr).2;have hl1:=(P6 A.m1 hr).1;have X3:=azC (mo:=mo) Gp hm hq (afD T) (Jy T);rw[show ER (CX lv (Bj n g m h).T (D5 lv (Bj n g m h).T 0 (Bj n g m h).n) n) E8 (newL n g) mo.toNat=aj r from hr] at X3;have fk:=awD (l:=newL n g) (r:=aj r) (azE P hlv hok hn) X3 (aEa Gp A hq (by omega));have hR:=newR T;have e0:BR r 0=dM (newL n g):=by
  obtain ⟨t,e,_⟩:=Zr hr;rw[e];rfl
 have ey:Ii (hsS n g m h) lv mo=Hg (Rk lv n g m h) (dM (newL n g)):=ey.trans A.yes;have et':Hg (Rk lv n g m h) (dM (newL n g))=ay->rtL (hsS n g m h) lv mo=(least (Rk lv n g m h) (Hg (Rk lv n g m h)) ((Rk lv n g m h).n+1) (dM (newL n g))).map Gj:=fun e=>by rw[et,A.steps e]
 have et2:Hg (Rk lv n g m h) (dM (newL n g))=aA->rtL (hsS n g m h) lv mo=[]:=fun e=>by simp_all [IB]
 have hrk:(Rk lv n g m h).n<=(Rk lv n g m h).n+rk (Rk lv n g m h) (dM (newL n g)):=by omega
 unfold Rk at *;generalize Bj n g m h=B at *;refine CG (ED Ak W7 (WH (hsS n g m h) lv B n (DJ (Ja (Ap g))) (newL n g) mo (aj r) (F22 lv B.n B.T (D5 lv B.T 0 B.n) n r)) Aw) ku fun H w0 Bl args φ hrep hφ=>?_
 have h122:ku.ntmps=122:=by kernel_rfl
 unfold F7g at hφ;split at hφ
 ·split at hφ
  ·rename_i a t u _ _ x y e1 e2
   obtain ⟨q1,q2,hφ⟩:=hφ;have q1:a=hsS n g m h:=@ϑ _ (aI _) q1;obtain ⟨rfl,rfl⟩:=ϑ q2;subst q1;have hφ:φ (.Az [.agg [.b (Ii (hsS n g m h) x y),.sl 2 (rtL (hsS n g m h) x y).length (Am (nth (rtL (hsS n g m h) x y))),.i .i64 (JF (hsS n g m h) x y)],.agg [.i .i64 0,.sl 1 0 FB]]):=hφ;rw[ey,ec] at hφ;match args,hrep with
   |[a0,a1,a2],⟨r0,r1,r2,_⟩=>
    refine ⟨[hsS n g m h,.i .i64 x,.i .i64 y],⟨r0,Dz e1 r1,Dz e2 r2,ϖ⟩,L0,?_⟩;rw[h122];have inb:Ak.inB 0 r.length=ay:=by simp[AX];omega
    have hc (b:Bool) (hb:Hg (CX x B.T (D5 x B.T 0 B.n) n) (dM (newL n g))=b):[NS (hsS n g m h) (hsS n g m h),decide (x=x),Ak.nt (Ak.eq 0 0),isG x B.n B.T (D5 x B.T 0 B.n) n (newL n g) (SC x B.n B.T (D5 x B.T 0 B.n) n (DJ (Ja (Ap g)))),decide (y=y),Ak.nt ay,awp x B.n B.T (D5 x B.T 0 B.n) n (SC x B.n B.T (D5 x B.T 0 B.n) n (DJ (Ja (Ap g)))),awq n r r.length (Am (nth (r.map (Ce n)))),Ak.inB 0 r.length,Ak.nt (Hg (CX x B.T (D5 x B.T 0 B.n) n) (BR r 0))]=[ay,ay,aA,ay,ay,aA,ay,ay,ay,!b]:=by
     rw[VX,aqn hR,awE,awF,inb,e0,hb,ϱ rfl,ϱ rfl];rfl
    cases hb:Hg (CX x B.T (D5 x B.T 0 B.n) n) (dM (newL n g)) with
    |true=>
     rw[hb,et' hb] at hφ;have go:=aqk (φ:=φ) (s0:=WH (hsS n g m h) x B n (DJ (Ja (Ap g))) (newL n g) y (aj r) (F22 x B.n B.T (D5 x B.T 0 B.n) n r)) (H0:=H) (w0:=w0) (g0:=DJ (Ja (Ap g))) (cnt:=((r.length:Nat):Int)) Gp A hq (by omega) ((CX x B.T (D5 x B.T 0 B.n) n).n+1) 0 [] (by omega) (by simp_all) (by simp_all [CX]) (by simp[CX]) (by rw[e0];exact hφ);refine BZ (fk _) 300 400 [⟨7,td7,L7 x B.n B.T (D5 x B.T 0 B.n) n (DJ (Ja (Ap g))) r (enO x B.T (D5 x B.T 0 B.n) n r) ((r.length:Nat):Int) [] [(14,.sym .i64 ((0:Nat):Int))],[]⟩] ?_;exact DC (hc ay hb) 0 ⟨_,rfl,go⟩ [12] [BL.bool (Hg (CX x B.T (D5 x B.T 0 B.n) n) (BR r 0)) ay] ⟨by rw[e0];exact hb,ϖ⟩
    |false=>
     rw[hb,et2 hb] at hφ;refine BZ (fk _) 300 400 [] ?_;exact I9 (hc aA hb) (s:=.Az [.agg [.b (Hg (CX x B.T (D5 x B.T 0 B.n) n) (BR r 0)),.sl 0 0 (fun _=>[]),.i .i64 ((r.length:Nat):Int)],.agg [.i .i64 0,.sl 1 0 FB]]) (by
      rw[e0,hb];exact AY (s':=fdS aA [] ((r.length:Nat):Int)) ⟨⟨.inl rfl,.inl ⟨rfl,rfl⟩,rfl,ϖ⟩,⟨rfl,.inl ⟨rfl,rfl⟩,ϖ⟩,ϖ⟩ hφ)
  ·exact hφ.elim
 ·exact hφ.elim
theorem O7b(P:IC n g m h)(hlv:lv=1\/lv=2\/lv=3)(hm:1<=mo/\mo<=65536)(hno:¬((Bj n g m h).okb=ay/\(Bj n g m h).n<=12/\(paO lv mo n g m h).isSome=ay)):∃(c:Int) (k:Nat) (f:ϝ),c≠0/\AO ak (AZ W7) 7 (F7b (hsS n g m h) lv mo c k f):=by
 have h122:ku.ntmps=122:=by kernel_rfl
 by_cases hg:(Bj n g m h).okb=ay/\(Bj n g m h).n<=12
 ·obtain ⟨hok,hn⟩:=hg
  have hr:paO lv mo n g m h=aF:=by
   simp_all
  have T:=aaY P hok hn;have Gp:=aqb T hlv;have hq:=fun x (hx:QlP lv n g (Bj n g m h) x)=>aqm T hx;have X3:=azC (mo:=mo) Gp hm hq (afD T) (Jy T);rw[show ER (CX lv (Bj n g m h).T (D5 lv (Bj n g m h).T 0 (Bj n g m h).n) n) E8 (newL n g) mo.toNat=aF from hr] at X3;have fk:=awD (l:=newL n g) (r:=aF) (azE P hlv hok hn) X3 (F3:=fun _=>.fail) fun H w Bl args φ hon hg hr hφ=>hφ.elim
  have hR:=newR T;generalize Bj n g m h=B at *;refine ⟨119,0,FB,by decide,CG (ED Ak W7 (WH (hsS n g m h) lv B n (DJ (Ja (Ap g))) (newL n g) mo aF fun _=>.fail) Aw) ku fun H w0 Bl args φ hrep hφ=>?_⟩;unfold F7b at hφ;split at hφ
  ·split at hφ
   ·rename_i a t u _ _ x y e1 e2
    obtain ⟨q1,q2,hφ⟩:=hφ;have q1:a=hsS n g m h:=@ϑ _ (aI _) q1;obtain ⟨rfl,rfl⟩:=ϑ q2;subst q1;match args,hrep with
    |[a0,a1,a2],⟨r0,r1,r2,_⟩=>
     refine ⟨[hsS n g m h,.i .i64 x,.i .i64 y],⟨r0,Dz e1 r1,Dz e2 r2,ϖ⟩,L0,?_⟩;rw[h122];refine BZ (fk _) 300 400 [] ?_;exact I9 (l:=[ay,ay,aA,ay,ay,ay]) (cs:=[NS (hsS n g m h) (hsS n g m h),decide (x=x),Ak.nt (Ak.eq 0 0),isG x B.n B.T (D5 x B.T 0 B.n) n (newL n g) (SC x B.n B.T (D5 x B.T 0 B.n) n (DJ (Ja (Ap g)))),decide (y=y),Ak.nt aA]) (by rw[VX,aqn hR,ϱ rfl,ϱ rfl];rfl) (s:=.Az [.agg [.b aA,.sl 0 0 (fun _=>[]),.i .i64 0],.agg [.i .i64 119,.sl 0 0 (fun _=>[])]])
      (AY (s':=.Az [.agg [.b aA,.sl 2 0 FB,.i .i64 0],.agg [.i .i64 119,.sl 1 0 FB]]) ⟨⟨.inl rfl,.inl ⟨rfl,rfl⟩,rfl,ϖ⟩,⟨rfl,.inl ⟨rfl,rfl⟩,ϖ⟩,ϖ⟩ hφ)
   ·exact hφ.elim
  ·exact hφ.elim
 ·obtain ⟨c,k,f,hc,O⟩:=aEf P hlv hg
  refine ⟨c,k,f,hc,CG (ED Ak W7 (acO (hsS n g m h) lv c k f) Aw) ku fun H w0 Bl args φ hrep hφ=>?_⟩;unfold F7b at hφ;split at hφ
  ·split at hφ
   ·rename_i a t u _ _ x y e1 e2
    obtain ⟨q1,q2,hφ⟩:=hφ;have q1:a=hsS n g m h:=@ϑ _ (aI _) q1;obtain ⟨rfl,rfl⟩:=ϑ q2;subst q1;match args,hrep with
    |[a0,a1,a2],⟨r0,r1,r2,_⟩=>
     refine ⟨[hsS n g m h,.i .i64 x,.i .i64 y],⟨r0,Dz e1 r1,Dz e2 r2,ϖ⟩,L0,?_⟩;rw[h122];refine BZ (aBW O _) 300 400 [] ?_;exact I9 (l:=[ay,ay,ay]) (cs:=[NS (hsS n g m h) (hsS n g m h),decide (x=x),Ak.nt (Ak.eq c 0)]) (by rw[VX,ϱ rfl,show Ak.nt (Ak.eq c 0)=ay by simp[BG,AQ,hc]]) (s:=.Az [.agg [.b aA,.sl 0 0 (fun _=>[]),.i .i64 0],.agg [.i .i64 c,.sl 1 k f]])
      (AY (s':=.Az [.agg [.b aA,.sl 2 0 FB,.i .i64 0],.agg [.i .i64 c,.sl 1 k f]]) ⟨⟨.inl rfl,.inl ⟨rfl,rfl⟩,rfl,ϖ⟩,⟨rfl,.inr ⟨rfl,rfl,fun _ _=>rfl⟩,ϖ⟩,ϖ⟩ hφ)
   ·exact hφ.elim
  ·exact hφ.elim
end
end Go.Rg
namespace Go.Pl
open Go Go.Sx Go.Proofs Go.Gm Go.Bf
def clB(o m:Nat):Bool:=Ak.room o 16&&Ak.room m 64
end Go.Pl
namespace Go.Proofs
open Go Go.Sx Go.Pl Go.Gm Go.Bf
def D45:ϵ
 |[.agg [.sl 2 o og,.sl 8 m mg]]=>.need (clB o m) (.leaf (.agg [.sl 2 o og,.sl 8 m mg])) |_=>.fail
theorem O45:AO ak (AZ W7) 16 D45:=by
 refine CG (C7 Ak W7 noSpec Aw) Tryz.f16 fun H w Bl args φ hrep h=>?_
 have hn:Tryz.f16.ntmps=18:=by kernel_rfl
 unfold D45 at h;split at h
 ·rename_i o og m mg
  obtain ⟨q1,hφ⟩:=h;refine ⟨[.agg [.sl 2 o og,.sl 8 m mg]],hrep,L0,?_⟩;refine BZ (Ej _) 300 400 [] ?_;rw[hn];unfold clB at q1;rw[aB] at q1;obtain ⟨ro,rm⟩:=q1;have leo:Ak.le (ah 0) (Ak.AV o)=ay:=le0 o;have lem:Ak.le (ah 0) (Ak.AV m)=ay:=le0 m;have ro1:Ak.room (Ak.toN (Ak.AV o)) 16=ay:=by rw[PL];exact ro
  have rm1:Ak.room (Ak.toN (Ak.AV m)) 64=ay:=by rw[PL];exact rm
  have ro2:Ak.room (Ak.addN 0 o) 16=ay:=by rw[Jp];exact ro
  have rm2:Ak.room (Ak.addN 0 m) 64=ay:=by rw[Jp];exact rm
  have fin:up φ (.agg [.os 94 2 (Ak.addN 0 o) (Ak.snoc (fun _=>[]) 0 og),.os 51 8 (Ak.addN 0 m) (Ak.snoc (fun _=>[]) 0 mg)]):=by
   rw[Jp,Jp,QX,QX];exact AY (s':=.agg [.sl 2 o og,.sl 8 m mg]) ⟨.inr ⟨rfl,rfl,fun _ _=>rfl⟩,.inr ⟨rfl,rfl,fun _ _=>rfl⟩,ϖ⟩ hφ
  exact Ld (an leo (an ro1 (an ro2 (an lem (an rm1 (an rm2 (an lem (an rm1 (an ro2 (an rm2 (an lem (an rm1 (an leo (an ro1 (an ro2 (an rm2 fin))))))))))))))))
 ·exact h.elim
open Go Go.Sx Go.Pl
def Jd:ϕ
 |31=>aj apY |40=>aj awt |43=>aj D21 |16=>aj D45 |_=>aF
def amA:List Nat:=[0,1,0,1,1,1,1,1,1]
def k48:List It:=[aX 0,aK [1,1,1,1,1,1,1]]
def azF:List SV:=DF 69 [(4,.ptr 0 0),(5,.ptr 1 0),(8,.ptr 2 0),(36,.fn 32 [.ptr 3 0,.ptr 4 0])]
def awG(j:Nat)(gg:ϝ):Bool->SV×List (Nat×SB)
 |true=>(.Bg,[]) |false=>(.gs 7,[(7,.own 32 1 j gg)])
def aEh(o m:Nat)(og mg:ϝ)(mo:Int)(j:Nat)(gg:ϝ)(v:Bool)(p:SV):List (Nat×SB):=
 [(0,.box [.bool aA,.Bg,.Bg,.int .i64 0,.int .i64 0] 54),(1,.box [.Eo] 46),(2,.box [.bool ay,.Bg,(awG j gg v).1,.int .i64 0,p] 54),(3,.box [.sh (.sl 2 o og),.sh (.sl 8 m mg)] 25),(4,.box [.sym .i64 mo] 3)]
def L48(o m:Nat)(og mg:ϝ)(mo:Int):Core:={tm:=azF,hp:=aEh o m og mg mo 0 (fun _=>[]) ay (.int .i64 0),nx:=5,lim:=L0,tc:=[]}
def s48(l:Nat):List Fw:=[⟨30,aF,k48,azF,aj (l,amA,.ready)⟩]
def amB:List Nat:=[0,1,1]
def k80:List It:=[aX 0]
def azG:List SV:=DF 29 [(2,.ptr 4 0),(3,.ptr 5 0),(9,.fn 42 [.ptr 6 0])]
def azH(o m:Nat)(og mg:ϝ)(mo:Int)(l:Nat)(j:Nat)(gg:ϝ)(v:Bool)(p:SV):List (Nat×SB):=
 [(0,.box [.bool aA,.Bg,.Bg,.int .i64 0,.int .i64 0] 54),(1,.box [.Eo] 46),(2,.box [.bool ay,.Bg,(awG j gg v).1,.int .i64 0,p] 54),(4,.box [.sym .i64 mo] 3),(5,.box [.val (yv l)] 98),(6,.box [.sh (.sl 2 o og),.sh (.sl 8 m mg)] 25)]++(awG j gg v).2
def aEi:Bool->Nat
 |true=>7 |false=>8
def L80(o m:Nat)(og mg:ϝ)(mo:Int)(l:Nat):Core:={tm:=azG,hp:=azH o m og mg mo l 0 (fun _=>[]) ay (.int .i64 0),nx:=7,lim:=L0,tc:=[]}
def s80(l l2:Nat):List Fw:=⟨32,aF,k80,azG,aj (l2,amB,.ready)⟩::s48 l
def Rl:List It:=[aK [0,1],aX 0]
def awH:List It:=aK [0,0,1]::Rl
def L106(o m:Nat)(og mg:ϝ)(mo:Int)(l l2:Nat)(j:Nat)(gg:ϝ)(v:Bool)(p:SV)(i:Int):Core:=
 {tm:=DF 18 [(0,.val (yv l2)),(1,.ptr 6 0),(3,.sym .i64 i)],hp:=azH o m og mg mo l j gg v p,nx:=aEi v,lim:=L0,tc:=[]}
end Go.Proofs
namespace Go.Sx
section
variable{P:Program}{C:Ctx}{K:Kx}{φ:Sh->Prop}
def atW(P:Program)(C:Ctx)(K:Kx)(φ:Sh->Prop)(ts:List LY)(k:Nat):Prop:=match ts[k]? with
 |some t=>Di P C K t.g t.r t.td t.c t.stk φ |none=>False
theorem amC{Q:Prop}{ts:List LY}{t:Tree C9}(k:Q)(h:t.dgE=t:=by kernel_rfl)(e:Q=t.Vz φ (atW P C K φ ts):=by kernel_rfl):Nq (aao P C K ts φ) t:=by
 rw[Jo,<-h];refine Tree.abK (fun s x=>x) (fun k l hl x=>?_) (e ▸ k:t.Vz φ (atW P C K φ ts));unfold atW at x;split at x
 ·rename_i t' ht
  exact ⟨hl,t',ht,x⟩
 grind
theorem amD{H:Mem}{w:World}{g:Nat}{td:List It}{c:Core}(hgo:Di P C (K0 H w) g aF td c [] φ):AB P C (K0 H w) g td c [] emp φ:=fun H1 E w1 a items ms cs fn1 atJ st hi hs hx=>by
 cases ms with
 |cons _ _=>exact hs.elim |nil=>
  have:=hgo H1 E w1 a items [] [] [] cs fn1 (fun _=>aF) atJ st hi (fun _ hy=>by cases hy) rfl (by simp) (fun b o e=>by cases e);obtain ⟨a',w',v,s,H',todo,fn0,q1,q2,q3⟩:=this;refine ⟨a',w',v,s,H',todo,fn0,q1,?_,q3⟩;have e:(base g).at a items=Dc (bq g (Vh aF) (marks [])) a items:=(Ws g a items).symm;rw[e];exact q2
end
end Go.Sx
namespace Go.Pl
open Go Go.Sx Go.Proofs Go.Gm Go.Bf
def Qj(s:Sh)(i:Nat):Sh:=match s with
 | .agg [a,.sl 8 _ h]=>.agg [a,.sl 8 i h] |s=>s
def evN(s:Sh):Nat:=match s with
 | .agg [_,.sl 8 m _]=>m |_=>0
def ZK(ok yes:Nat->Bool)(cnt:Nat->Int):Nat->Nat->Int->Nat×Nat×Int
 |0,i,p=>(0,i,p) |r+1,i,p=>bif ok i then (bif yes i then ZK ok yes cnt r (i+1) (Ak.max p (cnt i)) else (1,i,Ak.max p (cnt i))) else (2,i,p)
def oqR(s:Sh)(mo:Int):Nat->Nat->Int->Nat×Nat×Int:=ZK (fun i=>KQ (Qj s i) 3 mo) (fun i=>Ii (Qj s i) 3 mo) (fun i=>JF (Qj s i) 3 mo)
def SH(s:Sh)(mo:Int):Nat×Nat×Int:=oqR s mo (evN s+1) 0 0
def alF(s:Sh)(mo:Int):ϝ:=fun i=>[.sl 2 (LQ (Qj s i) 3 mo) (Am (NT (Qj s i) 3 mo))]
def oqS(s:Sh)(mo:Int)(x:Nat×Nat×Int):Sh:=match x.1 with
 |0=>.Az [.agg [.b ay,.sl 2 0 (fun _=>[]),.sl 1 x.2.1 (alF s mo),.i .i64 0,.i .i64 x.2.2],.v .nilIface] |1=>.Az [.agg [.b aA,.sl 2 0 (fun _=>[]),.sl 1 0 (fun _=>[]),.i .i64 (x.2.1:Nat),.i .i64 x.2.2],.v .nilIface] |_=>.Az [.agg [.b aA,.sl 2 0 (fun _=>[]),.sl 1 0 (fun _=>[]),.i .i64 0,.i .i64 0],.er 0 322]
end Go.Pl
namespace Go.Proofs
open Go Go.Sx Go.Pl Go.Gm Go.Bf
theorem X4(stop:Nat->List Nat->Bool):BJ ak (C7 Ak W7 Jd stop):=ig (fun g F h=>by
 unfold Jd at h;grind [azw,aEb,O21,O45]) fun g h=>by
 unfold Jd at h;split at h;all_goals first|(cases h;done) |kernel_rfl
theorem ahL:Qq Tryz.fns=ay:=by kernel_rfl
section
variable{H0:Mem}{w0:World}{φ:Sh->Prop}{o m:Nat}{og mg:ϝ}{mo:Int}{l l2:Nat}
def vdS(y:Bool)(a:Sh)(i p:Int)(e:Sh):Sh:=.Az [.agg [.b y,.sl 0 0 (fun _=>[]),a,.i .i64 i,.i .i64 p],e]
theorem amE{j:Nat}{gg:ϝ}{p i:Int}
  (h1:Ak.le i (Ak.AV m)=ay->pfB o i m=ay)
  (h2:Ak.le i (Ak.AV m)=ay->gaB (.agg [.sl 2 o og,.sl 8 (DR i m) mg]) 3 mo=ay)
  (h3:Ak.le i (Ak.AV m)=ay->KQ (.agg [.sl 2 o og,.sl 8 (DR i m) mg]) 3 mo=ay->Ii (.agg [.sl 2 o og,.sl 8 (DR i m) mg]) 3 mo=aA->φ (vdS aA (.sl 0 0 (fun _=>[])) i (Ak.max p (JF (.agg [.sl 2 o og,.sl 8 (DR i m) mg]) 3 mo)) (.v .nilIface)))
  (h4:Ak.le i (Ak.AV m)=ay->KQ (.agg [.sl 2 o og,.sl 8 (DR i m) mg]) 3 mo=ay->Ii (.agg [.sl 2 o og,.sl 8 (DR i m) mg]) 3 mo=ay->Ak.room (Ak.addN j 1) 24=ay)
  (h5:Ak.le i (Ak.AV m)=ay->KQ (.agg [.sl 2 o og,.sl 8 (DR i m) mg]) 3 mo=ay->Ii (.agg [.sl 2 o og,.sl 8 (DR i m) mg]) 3 mo=ay->
   Di ak (C7 Ak W7 Jd Aw) (K0 H0 w0) 42 aF Rl (L106 o m og mg mo l l2 (Ak.addN j 1) (Ak.snoc gg j (Bh [[.sl 2 (LQ (.agg [.sl 2 o og,.sl 8 (DR i m) mg]) 3 mo) (Am (NT (.agg [.sl 2 o og,.sl 8 (DR i m) mg]) 3 mo))]])) aA (.sym .i64 (Ak.max p (JF (.agg [.sl 2 o og,.sl 8 (DR i m) mg]) 3 mo))) (Ak.add .i64 i 1)) (s80 l l2) φ)
  (h6:Ak.le i (Ak.AV m)=ay->KQ (.agg [.sl 2 o og,.sl 8 (DR i m) mg]) 3 mo=aA->φ (vdS aA (.sl 0 0 (fun _=>[])) 0 0 (.er 0 322)))
  (h7:Ak.le i (Ak.AV m)=aA->φ (vdS ay (.os 32 1 j gg) 0 p (.v .nilIface))) :
  Di ak (C7 Ak W7 Jd Aw) (K0 H0 w0) 42 aF Rl (L106 o m og mg mo l l2 j gg aA (.sym .i64 p) i) (s80 l l2) φ:=by
 refine F6 (fn:=kM) (tb:=awH) (by kernel_rfl) (by kernel_rfl) ?_;refine F5 (jD _ _) (X4 _) ahL (pause:=GR) (m:=300) (n:=800) (ts:=[⟨42,aF,Rl,L106 o m og mg mo l l2 (Ak.addN j 1) (Ak.snoc gg j (Bh [[.sl 2 (LQ (.agg [.sl 2 o og,.sl 8 (DR i m) mg]) 3 mo) (Am (NT (.agg [.sl 2 o og,.sl 8 (DR i m) mg]) 3 mo))]])) aA (.sym .i64 (Ak.max p (JF (.agg [.sl 2 o og,.sl 8 (DR i m) mg]) 3 mo))) (Ak.add .i64 i 1),s80 l l2⟩]) ?_;exact amC (nd (Ak.le i (Ak.AV m)) (fun c=>an (h1 c) (an (h2 c) (nd (KQ (.agg [.sl 2 o og,.sl 8 (DR i m) mg]) 3 mo) (fun c2=>nd (Ak.nt (Ii (.agg [.sl 2 o og,.sl 8 (DR i m) mg]) 3 mo)) (fun c3=>h3 c c2 (by grind [BG])) (fun c3=>an (h4 c c2 (by grind [BG])) (h5 c c2 (by grind [BG])))) (fun c2=>h6 c c2)))) (fun c=>h7 c))
theorem asa(h1:pfB o 0 m=ay)(h2:gaB (.agg [.sl 2 o og,.sl 8 (DR 0 m) mg]) 3 mo=ay)
  (h3:KQ (.agg [.sl 2 o og,.sl 8 (DR 0 m) mg]) 3 mo=ay->Ii (.agg [.sl 2 o og,.sl 8 (DR 0 m) mg]) 3 mo=aA->φ (vdS aA (.sl 0 0 (fun _=>[])) 0 (Ak.max 0 (JF (.agg [.sl 2 o og,.sl 8 (DR 0 m) mg]) 3 mo)) (.v .nilIface)))
  (h5:KQ (.agg [.sl 2 o og,.sl 8 (DR 0 m) mg]) 3 mo=ay->Ii (.agg [.sl 2 o og,.sl 8 (DR 0 m) mg]) 3 mo=ay->
   Di ak (C7 Ak W7 Jd Aw) (K0 H0 w0) 42 aF Rl (L106 o m og mg mo l l2 1 (Bh [[.sl 2 (LQ (.agg [.sl 2 o og,.sl 8 (DR 0 m) mg]) 3 mo) (Am (NT (.agg [.sl 2 o og,.sl 8 (DR 0 m) mg]) 3 mo))]]) aA (.sym .i64 (Ak.max 0 (JF (.agg [.sl 2 o og,.sl 8 (DR 0 m) mg]) 3 mo))) (Ak.add .i64 0 1)) (s80 l l2) φ)
  (h6:KQ (.agg [.sl 2 o og,.sl 8 (DR 0 m) mg]) 3 mo=aA->φ (vdS aA (.sl 0 0 (fun _=>[])) 0 0 (.er 0 322)))
  (h7:Ak.le 0 (Ak.AV m)=aA->φ (vdS ay (.sl 0 0 (fun _=>[])) 0 0 (.v .nilIface))) :
  Di ak (C7 Ak W7 Jd Aw) (K0 H0 w0) 42 aF Rl (L106 o m og mg mo l l2 0 (fun _=>[]) ay (.int .i64 0) 0) (s80 l l2) φ:=by
 refine F6 (fn:=kM) (tb:=awH) (by kernel_rfl) (by kernel_rfl) ?_;refine F5 (jD _ _) (X4 _) ahL (pause:=GR) (m:=300) (n:=800) (ts:=[⟨42,aF,Rl,L106 o m og mg mo l l2 1 (Bh [[.sl 2 (LQ (.agg [.sl 2 o og,.sl 8 (DR 0 m) mg]) 3 mo) (Am (NT (.agg [.sl 2 o og,.sl 8 (DR 0 m) mg]) 3 mo))]]) aA (.sym .i64 (Ak.max 0 (JF (.agg [.sl 2 o og,.sl 8 (DR 0 m) mg]) 3 mo))) (Ak.add .i64 0 1),s80 l l2⟩]) ?_;exact amC (nd (Ak.le 0 (Ak.AV m)) (fun c=>an h1 (an h2 (nd (KQ (.agg [.sl 2 o og,.sl 8 (DR 0 m) mg]) 3 mo) (fun c2=>nd (Ak.nt (Ii (.agg [.sl 2 o og,.sl 8 (DR 0 m) mg]) 3 mo)) (fun c3=>h3 c2 (by grind [BG])) (fun c3=>h5 c2 (by grind [BG]))) (fun c2=>h6 c2)))) (fun c=>h7 c))
end
end Go.Proofs
namespace Go.BI
open Go Go.Sx
theorem take_split{p:Nat->Ev}:∀(a b k:Nat) (σ:Au),takeN p σ k (a+b)=match takeN p σ k a with| .inl σ'=>takeN p σ' (k+a) b| .inr x=>.inr x
 |0,b,k,σ=>by rw[Nat.zero_add];rfl |a+1,b,k,σ=>by
  rw[show a+1+b=(a+b)+1 by omega,takeN,takeN];cases hf:(σ.feed (p k)).1 with
  |some e=>rfl |none=>
   show takeN p (σ.feed (p k)).2 (k+1) (a+b)=_;rw[take_split a b (k+1),show k+1+a=k+(a+1) by omega]
theorem asb{σ:Au}{e:Ev}:σ.rs.length<=(σ.feed e).2.rs.length:=by
 grind [Au.feed]
theorem take_len{p:Nat->Ev}:∀(r k:Nat) (σ σ':Au),takeN p σ k r=.inl σ'->σ.rs.length<=σ'.rs.length
 |0,k,σ,σ',h=>by
  have h:(Sum.inl σ:Au ⊕ (Nat×Nat))=.inl σ':=h;simp_all
 |r+1,k,σ,σ',h=>by
  unfold takeN at h;cases hf:(σ.feed (p k)).1 with
  |some e=>simp_all |none=>
   rw[hf] at h;exact Nat.le_trans asb (take_len r (k+1) _ σ' h)
theorem amF{f:Nat->Option Nat}:∀{r k:Nat},(∀j,k<=j->j<k+r->f j=aF)->IX f k r=aF
 |0,k,_=>rfl |r+1,k,h=>by
  rw[IX,h k (bM _) (by omega)];exact amF fun j h1 h2=>h j (by omega) (by omega)
end Go.BI
namespace Go.Pl
open Go Go.Sx Go.Proofs Go.Gm Go.Bf
section
variable{n m:Nat}{g h:ϝ}
theorem IC.pre(P:IC n g m h){i:Nat}(hi:i<=m):IC n g i h:=
 ⟨P.o,Go.BI.Qr (o:=aO h) fun j hj=>gW P.p j (by omega),dh.2 fun k hk=>dh.1 P.r k (eF.2 (by grind)),P.k⟩
theorem ajs(hok:(Bj n g m h).okb=ay){i:Nat}(hi:i<=m):(Bj n g i h).okb=ay/\(Bj n g i h).n<=(Bj n g m h).n:=by
 have hok:(!Go.BI.FN n m&&(kN n m g h&&iE m (aO h)))=ay:=hok;rw[aB,aB,jy] at hok;obtain ⟨h1,h2,h3⟩:=hok;have e1:pX n i=aA:=by
  grind [pX]
 have e2:kN n i g h=ay:=by
  unfold kN Go.BI.Xa at h2 ⊢;cases hs:Go.BI.IX (fun k=>Go.BI.TM (aO (α:=dU) g k)) 0 n with
  |some x=>simp_all |none=>
   rw[hs] at h2;simp only[nY] at h2 ⊢;exact Go.BI.amF fun j a b=>Go.BI.TY h2 j a (by omega)
 have sp:=Go.BI.take_split (p:=aO h) i (m - i) 0 iw;rw[show i+(m - i)=m by omega] at sp;have e3:iE i (aO h)=ay/\(lV i (aO h)).rs.length<=(lV m (aO h)).rs.length:=by
  unfold iE lV jl;unfold iE jl at h3;cases hi':xq (aO h) iw 0 i with
  |inr x=>
   simp_all
  |inl σ=>
   rw[hi'] at sp;refine ⟨rfl,?_⟩;cases hm:xq (aO h) iw 0 m with
   |inr x=>grind |inl σ'=>
    rw[hm] at sp;exact Go.BI.take_len _ _ _ _ sp.symm
 refine ⟨?_,e3.2⟩;show (!Go.BI.FN n i&&(kN n i g h&&iE i (aO h)))=ay;simp_all
theorem afE{i:Nat}(hi:i<=m):DR (i:Int) m=i:=by unfold DR;omega
theorem aqo(hok:(Bj n g m h).okb=ay):n<=8/\m<=400:=by
 have hok:(!Go.BI.FN n m&&(kN n m g h&&iE m (aO h)))=ay:=hok;simp_all [aB,pX]
end
def opB(s:Sh)(mo:Int):Bool:=hpB s&&((tbS s).okb&&(decide ((tbS s).n<=12)&&Uf mo))
def owB(s:Sh)(mo:Int):Bool:=!((SH s mo).1==2)
def oyB(s:Sh)(mo:Int):Bool:=(SH s mo).1==0
def oaN(s:Sh)(mo:Int):Nat:=if (SH s mo).1=0 then (SH s mo).2.1 else 0
def oaF(s:Sh)(mo:Int):ϝ:=if (SH s mo).1=0 then alF s mo else fun _=>[]
def oiI(s:Sh)(mo:Int):Int:=if (SH s mo).1=0 then 0 else ((SH s mo).2.1:Nat)
def ocI(s:Sh)(mo:Int):Int:=(SH s mo).2.2
theorem ahM(ok yes:Nat->Bool)(cnt:Nat->Int):∀r i p,(ZK ok yes cnt r i p).1<=2
 |0,i,p=>fH _ |r+1,i,p=>by
  rw[ZK];cases ok i with
  |false=>simp |true=>cases yes i with
   |false=>simp |true=>exact ahM ok yes cnt r (i+1) _
end Go.Pl
namespace Go.Proofs
open Go Go.Sx Go.Pl Go.Gm Go.Bf
def awJ:ϵ
 |[s,t]=>match Bd t with
  |some mo=>.need (opB s mo) (.node (owB s mo) (.leaf (.Az [.agg [.b (oyB s mo),.sl 2 0 (fun _=>[]),.sl 1 (oaN s mo) (oaF s mo),.i .i64 (oiI s mo),.i .i64 (ocI s mo)],.v .nilIface]))
    (.leaf (.Az [.agg [.b aA,.sl 2 0 (fun _=>[]),.sl 1 0 (fun _=>[]),.i .i64 0,.i .i64 0],.er 0 322])))
  |none=>.fail
 |_=>.fail
section
variable{H0:Mem}{w0:World}{φ:Sh->Prop}{o m:Nat}{og mg:ϝ}{mo:Int}{l l2:Nat}
theorem afG{y:Bool}{a a':Sh}{i p:Int}{e:Sh}(ha:Wk a a')(he:Wk e e):Wk (vdS y a i p e) (.Az [.agg [.b y,.sl 2 0 (fun _=>[]),a',.i .i64 i,.i .i64 p],e]):=
 ⟨⟨.inl rfl,.inl ⟨rfl,rfl⟩,ha,rfl,rfl,ϖ⟩,he,ϖ⟩
theorem amH(P:IC o og m mg)(hok:(Bj o og m mg).okb=ay)(hn:(Bj o og m mg).n<=12)(hmo:Uf mo=ay):∀r i p gg,i+r=m+1->1<=i->(∀k,k<i->gg k=alF (hsS o og m mg) mo k)->φ (oqS (hsS o og m mg) mo (oqR (hsS o og m mg) mo r i p))->
  Di ak (C7 Ak W7 Jd Aw) (K0 H0 w0) 42 aF Rl (L106 o m og mg mo l l2 i gg aA (.sym .i64 p) (i:Nat)) (s80 l l2) (up φ)
 |0,i,p,gg,hi,h1,hg,hφ=>by
  have no {X:Prop} (c:Ak.le (i:Int) (Ak.AV m)=ay):X:=by grind [CS,AL]
  exact amE (fun c=>no c) (fun c=>no c) (fun c=>no c) (fun c=>no c) (fun c=>no c) (fun c=>no c) (fun _=>AY (afG (a':=.sl 1 i (alF (hsS o og m mg) mo)) (.inr ⟨rfl,rfl,hg⟩) rfl) hφ)
 |r+1,i,p,gg,hi,h1,hg,hφ=>by
  have fw:=aqo hok;have hle:i<=m:=by omega
  have no {X:Prop} (c:Ak.le (i:Int) (Ak.AV m)=aA):X:=by simp_all [CS,AL]
  have ep:DR (i:Int) m=i:=afE hle;obtain ⟨k1,k2⟩:=ajs hok hle;have ga:gaB (.agg [.sl 2 o og,.sl 8 (DR (i:Int) m) mg]) 3 mo=ay:=by
   rw[ep];exact aoH (P.pre hle) (by decide) hmo (by show ((Bj o og i mg).okb&&decide ((Bj o og i mg).n<=12))=ay;grind)
  have pf:pfB o (i:Int) m=ay:=by
   unfold pfB;rw[ep,aB];exact ⟨room_le (by omega) (by omega),room_le (by omega) (by omega)⟩
  rw[oqR,ZK] at hφ;have nx:=amH P hok hn hmo r (i+1) (Ak.max p (JF (Qj (hsS o og m mg) i) 3 mo)) (Ak.snoc gg i (Bh [[.sl 2 (LQ (.agg [.sl 2 o og,.sl 8 i mg]) 3 mo) (Am (NT (.agg [.sl 2 o og,.sl 8 i mg]) 3 mo))]])) (by omega) (by omega) (fun k hk=>by
   rw[Dn];split
   ·simp_all
   ·have:k=i:=by omega
    subst this;rw[gK];rfl)
  refine amE (fun _=>pf) (fun _=>ga) (fun _ c2 c3=>?_) (fun _ _ _=>room_le (by rw[Dl];omega) (by omega)) (fun _ c2 c3=>?_) (fun _ c2=>?_) (fun c=>no c);all_goals rw[ep] at *
  ·have e2:KQ (Qj (hsS o og m mg) i) 3 mo=ay:=c2
   have e3:Ii (Qj (hsS o og m mg) i) 3 mo=aA:=c3;rw[e2,e3] at hφ;exact AY (afG (a':=.sl 1 0 (fun _=>[])) (.inl ⟨rfl,rfl⟩) rfl) hφ
  ·have e2:KQ (Qj (hsS o og m mg) i) 3 mo=ay:=c2
   have e3:Ii (Qj (hsS o og m mg) i) 3 mo=ay:=c3;rw[e2,e3] at hφ;have e4:Ak.add .i64 (i:Int) 1=((i+1:Nat):Int):=add1 (by omega);rw[e4];exact nx hφ
  ·have e2:KQ (Qj (hsS o og m mg) i) 3 mo=aA:=c2
   rw[e2] at hφ;exact AY (afG (a':=.sl 1 0 (fun _=>[])) (.inl ⟨rfl,rfl⟩) rfl) hφ
end
open Go Go.Sx Go.Pl Go.Gm Go.Bf
theorem O48:AO ak (AZ W7) 30 awJ:=by
 intro H w Bl args φ hon hgl hr hφ;unfold awJ at hφ;split at hφ
 ·rename_i s t
  split at hφ
  ·rename_i mo e1
   obtain ⟨q1,q2,q3⟩:=hφ;unfold opB at q1;simp only[aB,ϟ] at q1;obtain ⟨b1,b2,b3,b4⟩:=q1;have b1':=b1;obtain ⟨o,og,m,mg,rfl,P⟩:=@ϑ _ (aI _) b1;have hok:(Bj o og m mg).okb=ay:=b2;have hn:(Bj o og m mg).n<=12:=b3;have fw:=aqo hok;have hφ:φ (oqS (hsS o og m mg) mo (SH (hsS o og m mg) mo)):=by
    have hk:=ahM (fun i=>KQ (Qj (hsS o og m mg) i) 3 mo) (fun i=>Ii (Qj (hsS o og m mg) i) 3 mo) (fun i=>JF (Qj (hsS o og m mg) i) 3 mo) (evN (hsS o og m mg)+1) 0 0;have hk:(SH (hsS o og m mg) mo).1<=2:=hk;unfold owB oyB oaN oaF oiI ocI at q2;unfold owB at q3;unfold oqS;generalize SH (hsS o og m mg) mo=x at *;obtain ⟨a,b,c⟩:=x;match a,hk with
    |0,_=>exact q2 rfl |1,_=>exact q2 rfl |2,_=>exact q3 rfl
   match args,hr with
   |[a0,a1],⟨r0,r1,_⟩=>
   have h69:oD.ntmps=69:=by kernel_rfl
   refine Sv (C:=C7 Ak W7 Jd Aw) (jD _ _) (fn:=oD) (FD:=[hsS o og m mg,.i .i64 mo]) (L:=L0) (by kernel_rfl) (by kernel_rfl) hon hgl ⟨r0,Dz e1 r1,ϖ⟩ (amD ?_);rw[h69];have mo2:1<=mo/\mo<=65536:=by
    simp_all [Uf]
   have tk:tkB (hsS o og m mg)=ay:=by simp_all [tkB]
   have e0:DR 0 m=0:=afE (i:=0) (fH _);obtain ⟨k1,k2⟩:=ajs hok (i:=0) (fH _);have ga:gaB (.agg [.sl 2 o og,.sl 8 (DR 0 m) mg]) 3 mo=ay:=by
    rw[e0];exact aoH (P.pre (fH _)) (by decide) b4 (by show ((Bj o og 0 mg).okb&&decide ((Bj o og 0 mg).n<=12))=ay;grind)
   have pf:pfB o 0 m=ay:=by
    unfold pfB;rw[e0,aB];exact ⟨room_le (by omega) (by omega),room_le (by omega) (by omega)⟩
   have cl:clB o m=ay:=by
    unfold clB;rw[aB];exact ⟨room_le (by omega) (by omega),room_le (by omega) (by omega)⟩
   have start (l l2:Nat):Di ak (C7 Ak W7 Jd Aw) (K0 H w) 42 aF Rl (L106 o m og mg mo l l2 0 (fun _=>[]) ay (.int .i64 0) 0) (s80 l l2) (up φ):=by
    have hx:SH (hsS o og m mg) mo=oqR (hsS o og m mg) mo (m+1) 0 0:=rfl;rw[hx,oqR,ZK] at hφ;have aEk {X:Prop} (c:Ak.le 0 (Ak.AV m)=aA):X:=by simp[CS,AL] at c
    refine asa pf ga (fun c2 c3=>?_) (fun c2 c3=>?_) (fun c2=>?_) (fun c=>aEk c);all_goals rw[e0] at *
    ·have e2:KQ (Qj (hsS o og m mg) 0) 3 mo=ay:=c2
     have e3:Ii (Qj (hsS o og m mg) 0) 3 mo=aA:=c3;rw[e2,e3] at hφ;exact AY (afG (a':=.sl 1 0 (fun _=>[])) (.inl ⟨rfl,rfl⟩) rfl) hφ
    ·have e2:KQ (Qj (hsS o og m mg) 0) 3 mo=ay:=c2
     have e3:Ii (Qj (hsS o og m mg) 0) 3 mo=ay:=c3;rw[e2,e3] at hφ;exact amH P hok hn b4 m 1 _ _ (by omega) (by omega) (fun k hk=>by
      obtain rfl:k=0:=by omega
      rfl) hφ
    ·have e2:KQ (Qj (hsS o og m mg) 0) 3 mo=aA:=c2
     rw[e2] at hφ;exact AY (afG (a':=.sl 1 0 (fun _=>[])) (.inl ⟨rfl,rfl⟩) rfl) hφ
   have ph3 (l l2:Nat):Di ak (C7 Ak W7 Jd Aw) (K0 H w) 42 aF [.code []] {L80 o m og mg mo l with tm:=(.val (yv l2)::[.ptr 6 0])++dD (18 - (1+1)) .any} (s80 l l2) (up φ):=by
    refine F5 (jD _ _) (X4 _) ahL (pause:=GR) (m:=300) (n:=800) (ts:=[⟨42,aF,Rl,L106 o m og mg mo l l2 0 (fun _=>[]) ay (.int .i64 0) 0,s80 l l2⟩]) ?_;exact amC (start l l2)
   have aEl (l:Nat):Di ak (C7 Ak W7 Jd Aw) (K0 H w) 32 aF (.code amB::k80) (L80 o m og mg mo l) (s48 l) (up φ):=by
    refine JB (jD _ _) (X4 _) (fn:=jC) (Hq:=kM) (g2:=42) (caps:=[.ptr 6 0]) (by kernel_rfl) (x:=.tmp 9) (ps:=#[10,11]) (ca:=BA (AU jC) (0::amB)) (cb:=BA (AU jC) (1::amB)) (by kernel_rfl) (by kernel_rfl) (by kernel_rfl) (by kernel_rfl) fun l2=>?_
    have h18:kM.ntmps=18:=by kernel_rfl
    rw[h18];exact ph3 l l2
   have ph2 (l:Nat):Di ak (C7 Ak W7 Jd Aw) (K0 H w) 32 aF [.code []] {L48 o m og mg mo with tm:=(.val (yv l)::[.ptr 3 0,.ptr 4 0])++dD (29 - (1+2)) .any} (s48 l) (up φ):=by
    refine F5 (jD _ _) (X4 _) ahL (pause:=GR) (m:=300) (n:=800) (ts:=[⟨32,aF,.code amB::k80,L80 o m og mg mo l,s48 l⟩]) ?_;exact amC (an cl (aEl l))
   refine F5 (jD _ _) (X4 _) ahL (pause:=GR) (m:=300) (n:=800) (ts:=[⟨30,aF,.code amA::k48,L48 o m og mg mo,[]⟩]) ?_;have ph1:Di ak (C7 Ak W7 Jd Aw) (K0 H w) 30 aF (.code amA::k48) (L48 o m og mg mo) [] (up φ):=by
    refine JB (jD _ _) (X4 _) (fn:=oD) (Hq:=jC) (g2:=32) (caps:=[.ptr 3 0,.ptr 4 0]) (by kernel_rfl) (x:=.tmp 36) (ps:=#[37,38]) (ca:=BA (AU oD) (0::amA)) (cb:=BA (AU oD) (1::amA)) (by kernel_rfl) (by kernel_rfl) (by kernel_rfl) (by kernel_rfl) fun l=>?_
    have h29:jC.ntmps=29:=by kernel_rfl
    rw[h29];exact ph2 l
   have n1 {X:Prop} (c:Ak.lt mo 1=ay):X:=by grind [Ar]
   have n2 {X:Prop} (c:Ak.lt 65536 mo=ay):X:=by grind [Ar]
   have n3 {X:Prop} (c:Ak.lt 12 (Ak.AV (tnN (hsS o og m mg)))=ay):X:=by
    grind [tnN,hsS,Ar,AL]
   exact amC (nd (Ak.lt mo 1) (fun c=>(n1 c:up φ (vdS aA (.sl 0 0 (fun _=>[])) 0 0 (.er 1 322)))) (fun _=>nd (Ak.lt 65536 mo) (fun c=>(n2 c:up φ (vdS aA (.sl 0 0 (fun _=>[])) 0 0 (.er 1 322)))) (fun _=>an tk (nd (Ak.lt 12 (Ak.AV (tnN (hsS o og m mg)))) (fun c=>(n3 c:up φ (vdS aA (.sl 0 0 (fun _=>[])) 0 0 (.er 2 322)))) (fun _=>ph1)))))
  ·exact hφ.elim
 ·exact hφ.elim
end Go.Proofs
namespace Go.Pl
open Go Go.Sx Go.Proofs Go.Gm Go.Bf
def juB(s:Sh)(lv mo:Int):Bool:=opB s mo&&decide (1<=lv/\lv<=4)
def X5(s:Sh)(lv mo:Int):Bool:=if lv=4 then owB s mo else KQ s lv mo
def jyB(s:Sh)(lv mo:Int):Bool:=if lv=4 then oyB s mo else Ii s lv mo
def jsN(s:Sh)(lv mo:Int):Nat:=if lv=4 then 0 else LQ s lv mo
def jsF(s:Sh)(lv mo:Int):Nat->FT:=if lv=4 then fun _=>default else NT s lv mo
def jaN(s:Sh)(lv mo:Int):Nat:=if lv=4 then oaN s mo else 0
def jaF(s:Sh)(lv mo:Int):ϝ:=if lv=4 then oaF s mo else fun _=>[]
def jpI(s:Sh)(lv mo:Int):Int:=if lv=4 then oiI s mo else 0
def jcI(s:Sh)(lv mo:Int):Int:=if lv=4 then ocI s mo else JF s lv mo
end Go.Pl
namespace Go.Proofs
open Go Go.Sx Go.Pl Go.Gm Go.Bf
def acP:ϕ
 |31=>aj apY |30=>aj awJ |_=>aF
def vd0(e:Sh):Sh:=.Az [.agg [.b aA,.sl 2 0 (fun _=>[]),.sl 1 0 (fun _=>[]),.i .i64 0,.i .i64 0],e]
theorem ayQ{e:Sh}(he:Wk e e):Wk (.Az [.agg [.b aA,.sl 0 0 (fun _=>[]),.sl 0 0 (fun _=>[]),.i .i64 0,.i .i64 0],e]) (vd0 e):=
 ⟨⟨.inl rfl,.inl ⟨rfl,rfl⟩,.inl ⟨rfl,rfl⟩,rfl,rfl,ϖ⟩,he,ϖ⟩
def amI:ϵ
 |[s,t,u]=>match Bd t,Bd u with
  |some lv,aj mo=>.need (juB s lv mo) (.node (X5 s lv mo) (.leaf (.Az [.agg [.b (jyB s lv mo),.sl 2 (jsN s lv mo) (Am (jsF s lv mo)),.sl 1 (jaN s lv mo) (jaF s lv mo),.i .i64 (jpI s lv mo),.i .i64 (jcI s lv mo)],.v .nilIface]))
    (.leaf (.Az [.agg [.b aA,.sl 2 0 (fun _=>[]),.sl 1 0 (fun _=>[]),.i .i64 0,.i .i64 0],.er 0 322])))
  |_,_=>.fail
 |_=>.fail
theorem aB5(stop:Nat->List Nat->Bool):BJ ak (C7 Ak W7 acP stop):=ig (fun g F h=>by
 unfold acP at h;grind [azw,O48]) fun g h=>by
 unfold acP at h;split at h;all_goals first|(cases h;done) |kernel_rfl
theorem O26:AO ak (AZ W7) 13 amI:=by
 intro H w Bl args φ hon hgl hr hφ;unfold amI at hφ;split at hφ
 ·rename_i s t u
  split at hφ
  ·rename_i lv mo e1 e2
   obtain ⟨q1,q2,q3⟩:=hφ;unfold juB at q1;rw[aB,ϟ] at q1;obtain ⟨q1,hlv⟩:=q1;have hop:=q1;unfold opB at q1;simp only[aB,ϟ] at q1;obtain ⟨b1,b2,b3,b4⟩:=q1;obtain ⟨o,og,m,mg,rfl,P⟩:=@ϑ _ (aI _) b1;have hb (l:Int):(Jg (hsS o og m mg) l).okb=ay:=by
    show ((Bj o og m mg).okb&&decide ((Bj o og m mg).n<=12))=ay;rw[show (Bj o og m mg).okb=ay from b2,ϱ (show (Bj o og m mg).n<=12 from b3)];rfl
   match args,hr with
   |[a0,a1,a2],⟨r0,r1,r2,_⟩=>
   refine Sv (C:=C7 Ak W7 acP Aw) (jD _ _) (fn:=Tryz.f13) (FD:=[hsS o og m mg,.i .i64 lv,.i .i64 mo]) (L:=L0) (by kernel_rfl) (by kernel_rfl) hon hgl ⟨r0,Dz e1 r1,Dz e2 r2,ϖ⟩ ?_;have hn:Tryz.f13.ntmps=35:=by kernel_rfl
   refine BZ (aB5 _) 300 400 [] ?_;rw[hn];have bud (c:X5 (hsS o og m mg) lv mo=aA):up φ (.Az [.agg [.b aA,.sl 0 0 (fun _=>[]),.sl 0 0 (fun _=>[]),.i .i64 0,.i .i64 0],.er 0 322]):=AY (ayQ rfl) (q3 c);have is4 (c:Ak.eq lv 4=ay):lv=4:=by grind [AQ]
   have no4 (c:Ak.eq lv 4=aA):lv≠4:=by grind [AQ]
   have a1 (c:Ak.eq lv 4=ay) (c2:owB (hsS o og m mg) mo=ay):up φ (.Az [.agg [.b (oyB (hsS o og m mg) mo),.sl 2 0 (fun _=>[]),.sl 1 (oaN (hsS o og m mg) mo) (oaF (hsS o og m mg) mo),.i .i64 (oiI (hsS o og m mg) mo),.i .i64 (ocI (hsS o og m mg) mo)],.v .nilIface]):=by
    have e:=is4 c;have q:=q2 (by simp_all [X5]);unfold jyB jsN jsF jaN jaF jpI jcI at q;rw[if_pos e,if_pos e,if_pos e,if_pos e,if_pos e,if_pos e,if_pos e] at q;exact AY (s':=.Az [.agg [.b (oyB (hsS o og m mg) mo),.sl 2 0 (Am fun _=>(default:FT)),.sl 1 (oaN (hsS o og m mg) mo) (oaF (hsS o og m mg) mo),.i .i64 (oiI (hsS o og m mg) mo),.i .i64 (ocI (hsS o og m mg) mo)],.v .nilIface]) ⟨⟨.inl rfl,.inl ⟨rfl,rfl⟩,.inr ⟨rfl,rfl,fun _ _=>rfl⟩,rfl,rfl,ϖ⟩,rfl,ϖ⟩ q
   have a2 (c:Ak.eq lv 4=ay) (c2:owB (hsS o og m mg) mo=aA):up φ (.Az [.agg [.b aA,.sl 2 0 (fun _=>[]),.sl 1 0 (fun _=>[]),.i .i64 0,.i .i64 0],.er 0 322]):=
    AY (s':=vd0 (.er 0 322)) ⟨⟨.inl rfl,.inl ⟨rfl,rfl⟩,.inl ⟨rfl,rfl⟩,rfl,rfl,ϖ⟩,rfl,ϖ⟩ (q3 (by simp_all [X5]))
   have a3 (c:Ak.eq lv 4=aA) (c2:KQ (hsS o og m mg) lv mo=ay):up φ (.Az [.agg [.b (Ii (hsS o og m mg) lv mo),.sl 2 (LQ (hsS o og m mg) lv mo) (Am (NT (hsS o og m mg) lv mo)),.sl 0 0 (fun _=>[]),.i .i64 0,.i .i64 (JF (hsS o og m mg) lv mo)],.v .nilIface]):=by
    have e:=no4 c;have q:=q2 (by simp_all [X5]);unfold jyB jsN jsF jaN jaF jpI jcI at q;rw[if_neg e,if_neg e,if_neg e,if_neg e,if_neg e,if_neg e,if_neg e] at q;exact AY (s':=.Az [.agg [.b (Ii (hsS o og m mg) lv mo),.sl 2 (LQ (hsS o og m mg) lv mo) (Am (NT (hsS o og m mg) lv mo)),.sl 1 0 (fun _=>[]),.i .i64 0,.i .i64 (JF (hsS o og m mg) lv mo)],.v .nilIface]) ⟨⟨.inl rfl,.inr ⟨rfl,rfl,fun _ _=>rfl⟩,.inl ⟨rfl,rfl⟩,rfl,rfl,ϖ⟩,rfl,ϖ⟩ q
   have ga (c:Ak.eq lv 4=aA):gaB (hsS o og m mg) lv mo=ay:=aoH P (by grind) b4 (hb lv);exact JH (nd (Ak.eq lv 4) (fun c=>an hop (nd (owB (hsS o og m mg) mo) (a1 c) (a2 c))) (fun c=>an (ga c) (nd (KQ (hsS o og m mg) lv mo) (a3 c) (fun c2=>bud (by simp_all [X5])))))
  ·exact hφ.elim
 ·exact hφ.elim
end Go.Proofs
namespace Go.Pl
open Go Go.Sx Go.Proofs Go.Gm Go.Bf
def JJ(s:Sh)(lv mo:Int):Nat:=if X5 s lv mo=ay then (if jyB s lv mo=ay then 1 else 2) else 3
def jvB(x:Nat)(s:Sh)(lv mo:Int):Bool:=juB s lv mo&&JJ s lv mo==x
def lvF(s:Sh)(mo:Int):ϝ:=fun k=>[.i .i64 (JJ s (k+1:Nat) mo:Nat)]
end Go.Pl
namespace Go.Proofs
open Go Go.Sx Go.Pl
def OM:List It:=[aK [0,1,0,1,1],aX 0,aK [1,1,1]]
def aqp:List It:=aK [0,0,1,0,1,1]::OM
def aqr(j:Nat)(gg:ϝ):Bool->SV×List (Nat×SB)
 |true=>(.Bg,[]) |false=>(.gs 1,[(1,.own 3 1 j gg)])
def ayR:Bool->Nat
 |true=>1 |false=>2
def VY(o m:Nat)(og mg:ϝ)(mo:Int)(j:Nat)(gg:ϝ)(v:Bool)(i:Int):Core:=
 {tm:=DF 42 [(1,.sym .i64 mo),(2,.ptr 0 0),(6,(aqr j gg v).1),(7,.sym .i64 i)],hp:=[(0,.box [.sh (.sl 2 o og),.sh (.sl 8 m mg)] 25)]++(aqr j gg v).2,nx:=ayR v,lim:=L0,tc:=[]}
def awM(x:Nat):ϵ
 |[s,t,u]=>match Bd t,Bd u with
  |some lv,aj mo=>.need (jvB x s lv mo) (.leaf (match x with
   |1=>.Az [.agg [.v (.bool ay),.sl 2 (jsN s lv mo) (Am (jsF s lv mo)),.sl 1 (jaN s lv mo) (jaF s lv mo),.i .i64 (jpI s lv mo),.i .i64 (jcI s lv mo)],.v .nilIface] |2=>.Az [.agg [.v (.bool aA),.sl 2 (jsN s lv mo) (Am (jsF s lv mo)),.sl 1 (jaN s lv mo) (jaF s lv mo),.i .i64 (jpI s lv mo),.i .i64 (jcI s lv mo)],.v .nilIface] |_=>vd0 (.er 0 322)))
  |_,_=>.fail
 |_=>.fail
def Jc(x:Nat):ϕ
 |13=>aj (awM x) |_=>aF
open Go.Gm Go.Bf
theorem aEm(x:Nat):AO ak (AZ W7) 13 (awM x):=Y5 O26 fun Bl φ hφ=>by
 unfold awM at hφ;split at hφ
 ·rename_i s t u
  split at hφ
  ·rename_i lv mo e1 e2
   obtain ⟨q,hφ⟩:=hφ;unfold jvB JJ at q;rw[aB,ϡ] at q;obtain ⟨q1,q2⟩:=q;refine ⟨_,hφ,?_⟩;unfold amI;simp only[e1,e2];refine ⟨q1,fun c=>?_,fun c=>?_⟩
   ·rw[if_pos c] at q2
    cases hy:jyB s lv mo with
    |true=>
     rw[hy,if_pos rfl] at q2;subst q2;exact ⟨⟨.inr rfl,QY,QY,rfl,rfl,ϖ⟩,rfl,ϖ⟩
    |false=>
     rw[hy,if_neg (by simp)] at q2;subst q2;exact ⟨⟨.inr rfl,QY,QY,rfl,rfl,ϖ⟩,rfl,ϖ⟩
   ·rw[if_neg (by rw[c];simp)] at q2
    subst q2;exact ⟨⟨.inl rfl,.inl ⟨rfl,rfl⟩,.inl ⟨rfl,rfl⟩,rfl,rfl,ϖ⟩,rfl,ϖ⟩
  ·exact hφ.elim
 ·exact hφ.elim
theorem VQ(x:Nat)(stop:Nat->List Nat->Bool):BJ ak (C7 Ak W7 (Jc x) stop):=ig (fun g F h=>by
 grind [Jc,aEm]) fun g h=>by
 unfold Jc at h;split at h;all_goals first|(cases h;done) |kernel_rfl
section
variable{H0:Mem}{w0:World}{φ:Sh->Prop}{o m:Nat}{og mg:ϝ}{mo:Int}
theorem aqs{x:Nat}(hx:x=1\/x=2\/x=3){i:Int}{j:Nat}{gg:ϝ}(hj:Ak.room (Ak.addN j 1) 8=ay)(hv:Ak.le i 4=ay->jvB x (hsS o og m mg) i mo=ay)
  (nx:Ak.le i 4=ay->AB ak (C7 Ak W7 noSpec Aw) (K0 H0 w0) 11 OM (VY o m og mg mo (Ak.addN j 1) (Ak.snoc gg j (Bh [[.i .i64 (x:Nat)]])) aA (Ak.add .i64 i 1)) [] emp φ) (no:Ak.le i 4=aA->φ (.Az [.os 3 1 j gg,.v .nilIface])) :
  AB ak (C7 Ak W7 noSpec Aw) (K0 H0 w0) 11 OM (VY o m og mg mo j gg aA i) [] emp φ:=by
 refine kF (s:=Jc x) (stop:=Aw) ?_;have nx:=fun c=>kF (s':=Jc x) (stop':=Aw) (nx c);refine D6 qY aqp ?_;refine BZ (VQ x _) 300 400 [⟨11,OM,VY o m og mg mo (Ak.addN j 1) (Ak.snoc gg j (Bh [[.i .i64 (x:Nat)]])) aA (Ak.add .i64 i 1),[]⟩] ?_;have tm:=nd (Ak.le i 4) (fun c=>an (hv c) (an hj (nx c))) no;rcases hx with rfl|rfl|rfl
 ·exact D9 tm
 ·exact D9 tm
 ·exact D9 tm
theorem awN{x:Nat}(hx:x=1\/x=2\/x=3)(hv:jvB x (hsS o og m mg) 1 mo=ay)
  (nx:AB ak (C7 Ak W7 noSpec Aw) (K0 H0 w0) 11 OM (VY o m og mg mo 1 (Bh [[.i .i64 (x:Nat)]]) aA (Ak.add .i64 1 1)) [] emp φ) :
  AB ak (C7 Ak W7 noSpec Aw) (K0 H0 w0) 11 OM (VY o m og mg mo 0 (fun _=>[]) ay 1) [] emp φ:=by
 refine kF (s:=Jc x) (stop:=Aw) ?_;have nx:=kF (s':=Jc x) (stop':=Aw) nx;refine D6 qY aqp ?_;refine BZ (VQ x _) 300 400 [⟨11,OM,VY o m og mg mo 1 (Bh [[.i .i64 (x:Nat)]]) aA (Ak.add .i64 1 1),[]⟩] ?_;have tm:=nd (Ak.le 1 4) (fun _=>an hv nx) (fun c=>(Vy c rfl:φ (.Az [.sl 0 0 (fun _=>[]),.v .nilIface])));rcases hx with rfl|rfl|rfl
 ·exact D9 tm
 ·exact D9 tm
 ·exact D9 tm
theorem ahN(s:Sh)(lv mo:Int):JJ s lv mo=1\/JJ s lv mo=2\/JJ s lv mo=3:=by
 grind [JJ]
theorem awO{s:Sh}{lv:Int}(h:opB s mo=ay)(hl:1<=lv/\lv<=4):jvB (JJ s lv mo) s lv mo=ay:=by
 simp_all [jvB,juB,ϱ]
theorem aqt(h:opB (hsS o og m mg) mo=ay)(hφ:φ (.Az [.sl 1 4 (lvF (hsS o og m mg) mo),.v .nilIface])):∀r i gg,i+r=4->1<=i->(∀k,k<i->gg k=lvF (hsS o og m mg) mo k)->
  AB ak (C7 Ak W7 noSpec Aw) (K0 H0 w0) 11 OM (VY o m og mg mo i gg aA ((i+1:Nat):Int)) [] emp (up φ)
 |0,i,gg,hi,h1,hg=>by
  obtain rfl:i=4:=by omega
  have no {X:Prop} (c:Ak.le ((4+1:Nat):Int) 4=ay):X:=by simp[CS] at c
  exact aqs (x:=1) (.inl rfl) (room_le (by rw[Dl];omega) (by omega)) (fun c=>no c) (fun c=>no c) (fun _=>AY (s':=.Az [.sl 1 4 (lvF (hsS o og m mg) mo),.v .nilIface]) ⟨.inr ⟨rfl,rfl,hg⟩,rfl,ϖ⟩ hφ)
 |r+1,i,gg,hi,h1,hg=>by
  have no {X:Prop} (c:Ak.le ((i+1:Nat):Int) 4=aA):X:=by grind [CS]
  have nx:=aqt h hφ r (i+1) (Ak.snoc gg i (Bh [[.i .i64 (JJ (hsS o og m mg) ((i+1:Nat):Int) mo:Nat)]])) (by omega) (by omega) (fun k hk=>by
   rw[Dn];split
   ·simp_all
   ·have:k=i:=by omega
    subst this;rw[gK];rfl)
  have e:Ak.add .i64 ((i+1:Nat):Int) 1=((i+1+1:Nat):Int):=add1 (by omega);exact aqs (ahN _ _ _) (room_le (by rw[Dl];omega) (by omega)) (fun _=>awO h (by omega)) (fun _=>by rw[e];exact nx) (fun c=>no c)
end
def aqu:ϵ
 |[s,t]=>match Bd t with
  |some mo=>.need (opB s mo) (.leaf (.Az [.sl 1 4 (lvF s mo),.v .nilIface])) |none=>.fail
 |_=>.fail
theorem OLv:AO ak (AZ W7) 11 aqu:=by
 intro H w Bl args φ hon hgl hr hφ;unfold aqu at hφ;split at hφ
 ·rename_i s t
  split at hφ
  ·rename_i mo e1
   obtain ⟨q1,hφ⟩:=hφ;have q2:=q1;unfold opB at q1;rw[aB] at q1;obtain ⟨o,og,m,mg,rfl,P⟩:=@ϑ _ (aI _) q1.1;have hφ:φ (.Az [.sl 1 4 (lvF (hsS o og m mg) mo),.v .nilIface]):=hφ;match args,hr with
   |[a0,a1],⟨r0,r1,_⟩=>
   refine Sv (C:=C7 Ak W7 noSpec Aw) (jD _ _) (fn:=qY) (FD:=[hsS o og m mg,.i .i64 mo]) (L:=L0) (by kernel_rfl) (by kernel_rfl) hon hgl ⟨r0,Dz e1 r1,ϖ⟩ ?_;have hn:qY.ntmps=42:=by kernel_rfl
   refine BZ (Ej _) 300 400 [⟨11,OM,VY o m og mg mo 0 (fun _=>[]) ay 1,[]⟩] ?_;rw[hn];have l1:=aqt (H0:=H) (w0:=w) q2 hφ 3 1 (Bh [[.i .i64 (JJ (hsS o og m mg) 1 mo:Nat)]]) (by omega) (by omega) (fun k hk=>by
    obtain rfl:k=0:=by omega
    rfl)
   exact D9 (awN (ahN _ 1 mo) (awO q2 (by decide)) l1)
  ·exact hφ.elim
 ·exact hφ.elim
end Go.Proofs
namespace Go.Sx
def Tree.way{α:Type}:Tree α->List BL->Option (List BL×α)
 | .leaf a,l=>aj (l,a) | .node b t f,l=>bif b then t.way l else f.way l | .need b t,l=>bif b then t.way l else aF | .must q t,l=>t.way (q++l) | .both _ _,_=>aF | .fail,_=>aF
theorem BL.all_append:∀{l m:List BL},bZ (l++m)->bZ l/\bZ m
 |[],_,h=>⟨ϖ,h⟩ |_::_,_,h=>let ⟨h1,h2⟩:=BL.all_append h.2;⟨⟨h.1,h1⟩,h2⟩
theorem Tree.QI{α:Type}{φ:α->Prop}:∀{t:Tree α} {l q:List BL} {a:α},t.way l=aj (q,a)->bZ q->φ a->t.All φ/\bZ l
 | .leaf _,_,_,_,h,hq,ha=>by cases h;exact ⟨ha,hq⟩ | .node b t f,l,q,a,h,hq,ha=>by
  cases b with
  |true=>exact ⟨⟨fun _=>(Tree.QI (t:=t) h hq ha).1,fun e=>by cases e⟩,(Tree.QI (t:=t) h hq ha).2⟩ |false=>exact ⟨⟨fun e=>(by cases e),fun _=>(Tree.QI (t:=f) h hq ha).1⟩,(Tree.QI (t:=f) h hq ha).2⟩
 | .need b t,l,q,a,h,hq,ha=>by
  cases b with
  |true=>exact ⟨⟨rfl,(Tree.QI (t:=t) h hq ha).1⟩,(Tree.QI (t:=t) h hq ha).2⟩ |false=>cases h
 | .must e t,l,q,a,h,hq,ha=>by
  have h1:=Tree.QI (t:=t) (φ:=φ) h hq ha;have h2:=BL.all_append h1.2;exact ⟨⟨h2.1,h1.1⟩,h2.2⟩
 | .both _ _,_,_,_,h,_,_=>by cases h | .fail,_,_,_,h,_,_=>by cases h
end Go.Sx
namespace Go.Pl
open Go Go.Sx
def ckR(α:Type)[yV α][DecidableEq α](n:Nat)(g:ϝ)(n0:Nat)(g0:ϝ):Bool:=gG α n g&&(dK n n0&&decide (nO α n g=nO α n0 g0))
theorem acQ{α:Type}[yV α][DecidableEq α]{n n0:Nat}{g g0:ϝ}(h:ckR α n g n0 g0=ay)(h0:gG α n0 g0=ay):n=n0/\∀j,j<n->g j=g0 j:=by
 unfold ckR at h;rw[aB,aB,ϟ] at h;obtain ⟨h1,h2,h3⟩:=h;obtain rfl:=gU h2;refine ⟨rfl,fun j hj=>?_⟩;rw[gW h1 j hj,gW h0 j hj];have e:∀(f:ϝ),(nO α n f)[j]?=aj (aO f j):=fun f=>by
  unfold nO;rw[iU,List.getElem?_range hj];rfl
 have e1:=e g;rw[h3,e g0] at e1;rw[bP e1]
end Go.Pl
namespace Go.Proofs
open Go Go.Sx Go.Pl Go.Gm Go.Bf
theorem aa7{H:Mem}{n m n0 m0:Nat}{o e o0 e0:ϝ}{v:Value}(h1:n=n0/\∀j,j<n->o j=o0 j)(h2:m=m0/\∀j,j<m->e j=e0 j)(hr:Rep H (.agg [.sl 2 n o,.sl 8 m e]) v):Rep H (hsS n0 o0 m0 e0) v:=by
 obtain ⟨rfl,h1⟩:=h1;obtain ⟨rfl,h2⟩:=h2;exact Lu hr ⟨fun _ r=>DT r h1,fun _ r=>DT r h2,ϖ⟩
theorem WI{P:Program}{gls:List (Nat×Sh)}{g:Nat}{F:ϵ}(hF:AO P gls g F){H:Mem}{w:World}{Bl:List Sh}{args:List Value}{φ:Sh->Prop}(hon:H.on w)(hg:DI gls H)(hr:EN H Bl args){s':Sh}(hφ:φ s')(h:(F Bl).All fun s=>Wk s s'):
  Calls P g args.toArray w fun e w'=>∃v s H',e=.returned v/\φ s/\Dx H w s v H' w':=by
 refine (hF H w Bl args _ hon hg hr h).mono fun e w' ⟨v,s,H',he,hs,r⟩=>?_;obtain ⟨H2,r2⟩:=r.wk hs;exact ⟨v,s',H2,he,hφ,r2⟩
theorem aqv:Uf 100=ay:=by kernel_rfl
theorem aB6{P:Program}{C:Ctx}{K:Kx}{ts:List Py}{R:Hp->Prop}{φ:Sh->Prop}{t:Tree C9}{q:List BL}{s:Sh}(h:t.way []=aj (q,.ret s))(hq:bZ q)(hs:φ s):CB (IV P C K ts R φ) t:=by
 rw[Dh];exact (Tree.QI h hq hs).1
end Go.Proofs
namespace Go.Pl
open Go Go.Sx Go.Proofs Go.Gm Go.Bf
theorem afI{ok ok' yes azI:Nat->Bool}{cnt cnt':Nat->Int}:∀(r i:Nat) (p:Int),(∀k,i<=k->k<i+r->ok k=ok' k/\(ok k=ay->yes k=azI k/\cnt k=cnt' k))->ZK ok yes cnt r i p=ZK ok' azI cnt' r i p
 |0,i,p,h=>rfl |r+1,i,p,h=>by
  obtain ⟨h1,h2⟩:=h i (bM _) (by omega);rw[ZK,ZK,<-h1];cases hb:ok i with
  |false=>rfl |true=>
   obtain ⟨h3,h4⟩:=h2 hb;rw[<-h3,<-h4];cases yes i with
   |false=>rfl |true=>exact afI r (i+1) _ fun k a b=>h k (by omega) (by omega)
def pD(n:Nat)(g h:ϝ)(lv mo:Int)(i:Nat):Option (List (Nd (List A8))):=ER (VP (Jg (hsS n g i h) lv)) E8 (newL n g) mo.toNat
def yD(n:Nat)(g h:ϝ)(lv mo:Int)(i:Nat):Bool:=match pD n g h lv mo i with
 |some r=>QE (VP (Jg (hsS n g i h) lv)) E8 (newL n g) r |none=>aA
def cD(n:Nat)(g h:ϝ)(lv mo:Int)(i:Nat):Int:=match pD n g h lv mo i with
 |some r=>(r.length:Nat) |none=>0
section
variable{n m:Nat}{g h:ϝ}{lv mo:Int}
theorem aoP(P:IC n g m h)(hb:(Jg (hsS n g m h) lv).okb=ay):KQ (hsS n g m h) lv mo=(pD n g h lv mo m).isSome/\(KQ (hsS n g m h) lv mo=ay->Ii (hsS n g m h) lv mo=yD n g h lv mo m/\JF (hsS n g m h) lv mo=cD n g h lv mo m):=by
 obtain ⟨h1,h2⟩:=aBK P hb mo;have e:KQ (hsS n g m h) lv mo=(pD n g h lv mo m).isSome:=by
  unfold KQ pD;rw[h1];cases ER (VP (Jg (hsS n g m h) lv)) E8 (newL n g) mo.toNat<;>rfl
 refine ⟨e,fun c=>?_⟩;rw[e] at c;obtain ⟨r,hr⟩:=dO.1 c;obtain ⟨q1,q2,q3⟩:=h2 r hr;unfold yD cD;rw[hr];exact ⟨q1,q3⟩
theorem aqw(P:IC n g m h)(hok:(Bj n g m h).okb=ay)(hn:(Bj n g m h).n<=12):SH (hsS n g m h) mo=ZK (fun i=>(pD n g h 3 mo i).isSome) (yD n g h 3 mo) (cD n g h 3 mo) (m+1) 0 0:=
 afI (ok:=fun i=>KQ (Qj (hsS n g m h) i) 3 mo) (yes:=fun i=>Ii (Qj (hsS n g m h) i) 3 mo) (cnt:=fun i=>JF (Qj (hsS n g m h) i) 3 mo) (m+1) 0 0 fun k _ hk=>by
  obtain ⟨k1,k2⟩:=ajs hok (i:=k) (by omega);have hb:(Jg (hsS n g k h) 3).okb=ay:=by
   show ((Bj n g k h).okb&&decide ((Bj n g k h).n<=12))=ay;rw[k1,ϱ (by omega:(Bj n g k h).n<=12)];rfl
  exact aoP (P.pre (by omega)) hb
end
theorem VZ:(Bj 1 EU 13 Ij).okb=ay/\(Bj 1 EU 13 Ij).n<=12:=by
 have h:((Bj 1 EU 13 Ij).okb&&decide ((Bj 1 EU 13 Ij).n<=12))=ay:=awm;rw[aB,ϟ] at h;exact h
theorem acR:(Bj 1 EU 14 Qi).okb=ay/\(Bj 1 EU 14 Qi).n<=12:=by
 have h:((Bj 1 EU 14 Qi).okb&&decide ((Bj 1 EU 14 Qi).n<=12))=ay:=ayB;rw[aB,ϟ] at h;exact h
theorem xq1:(ZK (fun i=>(pD 1 EU Ij 3 100 i).isSome) (yD 1 EU Ij 3 100) (cD 1 EU Ij 3 100) 14 0 0).1=0:=by kernel_rfl
theorem xq2:(ZK (fun i=>(pD 1 EU Ij 3 2 i).isSome) (yD 1 EU Ij 3 2) (cD 1 EU Ij 3 2) 14 0 0).1=2:=by kernel_rfl
theorem xq3:(fun x:Nat×Nat×Int=>(x.1,x.2.1)) (ZK (fun i=>(pD 1 EU Qi 3 100 i).isSome) (yD 1 EU Qi 3 100) (cD 1 EU Qi 3 100) 15 0 0)=(1,14):=by kernel_rfl
theorem xr1:((pD 1 EU Ij 1 100 13).isSome&&yD 1 EU Ij 1 100 13&&(pD 1 EU Ij 2 100 13).isSome&&yD 1 EU Ij 2 100 13&&(pD 1 EU Ij 3 100 13).isSome&&yD 1 EU Ij 3 100 13)=ay:=by kernel_rfl
theorem xr2:((pD 1 EU Ij 1 2 13).isNone&&(pD 1 EU Ij 2 2 13).isNone&&(pD 1 EU Ij 3 2 13).isNone)=ay:=by kernel_rfl
end Go.Pl
namespace Go.Proofs
open Go Go.Sx Go.Pl
def lvS(x:Int):List (List Sh):=[[.i .i64 x],[.i .i64 x],[.i .i64 x],[.i .i64 x]]
def awP:ϵ
 |[.agg [.sl 2 n o,.sl 8 m e],t]=>match Bd t with
  |some mo=>bif ckR dU n o 1 EU&&ckR fA m e 13 Ij then
    bif mo==100 then .leaf (.Az [.sl 1 4 (Bh (lvS 1)),.v .nilIface]) else bif mo==2 then .leaf (.Az [.sl 1 4 (Bh (lvS 3)),.v .nilIface]) else .fail
   else .fail
  |none=>.fail
 |_=>.fail
def awQ:ϵ
 |[.agg [.sl a n o,.sl b m e],t,u]=>match Bd t,Bd u with
  |some lv,aj mo=>bif lv==4 then
    bif dK n 0&&dK m 0 then bif mo==1 then .leaf (.Az [.agg [.b ay,.sl 2 0 (fun _=>[]),.sl 1 1 (oaF (hsS 0 (fun _=>[]) 0 (fun _=>[])) 1),.i .i64 0,.i .i64 (ocI (hsS 0 (fun _=>[]) 0 (fun _=>[])) 1)],.v .nilIface]) else .fail
    else bif dK a 2&&dK b 8&&ckR dU n o 1 EU&&ckR fA m e 14 Qi&&mo==100 then .leaf (.Az [.agg [.b aA,.sl 2 0 (fun _=>[]),.sl 1 0 (fun _=>[]),.i .i64 14,.i .i64 (ocI (hsS 1 EU 14 Qi) 100)],.v .nilIface]) else .fail
   else .fail
  |_,_=>.fail
 |_=>.fail
def ZL:ϕ
 |11=>aj awP |13=>aj awQ |_=>aF
def C23:Ctx:={C7 Ak W7 ZL Ei with lits:=ay}
theorem w23:Tree.way (BD C23 Dy 900 3000 4 [.code []] (BH 100 [] L0) [] []) []=aj ([],C9.ret (iL ay)):=by kernel_rfl
end Go.Proofs
namespace Go.Pl
open Go Go.Sx Go.Proofs Go.Gm Go.Bf
theorem ajy{n m:Nat}{g h:ϝ}{mo:Int}(P:IC n g m h)(hok:(Bj n g m h).okb=ay)(hn:(Bj n g m h).n<=12)(hm:Uf mo=ay):opB (hsS n g m h) mo=ay:=by
 have hp:hpB (hsS n g m h)=ay:=@ϱ _ (aI _) ⟨n,g,m,h,rfl,P⟩;unfold opB;rw[hp,show (tbS (hsS n g m h)).okb=ay from hok,ϱ (show (tbS (hsS n g m h)).n<=12 from hn),hm];rfl
theorem aEp:Uf 2=ay:=by kernel_rfl
theorem aEq:Uf 1=ay:=by kernel_rfl
theorem azJ(lv:Int):(Jg (hsS 1 EU 13 Ij) lv).okb=ay:=awm
theorem ayT:∀k,k<4->JJ (hsS 1 EU 13 Ij) ((k+1:Nat):Int) 100=1:=fun k hk=>by
 have h:=xr1;simp only[aB] at h;obtain ⟨⟨⟨⟨⟨a1,b1⟩,a2⟩,b2⟩,a3⟩,b3⟩:=h;have go (lv:Int) (h4:lv≠4) (a:(pD 1 EU Ij lv 100 13).isSome=ay) (b:yD 1 EU Ij lv 100 13=ay):JJ (hsS 1 EU 13 Ij) lv 100=1:=by
  obtain ⟨e1,e2⟩:=aoP (mo:=100) exH (azJ lv);have r:=e1.trans a;have y:=(e2 r).1.trans b;unfold JJ X5 jyB;rw[if_neg h4,if_neg h4,if_pos r,if_pos y]
 match k,hk with
 |0,_=>exact go 1 (by decide) a1 b1 |1,_=>exact go 2 (by decide) a2 b2 |2,_=>exact go 3 (by decide) a3 b3 |3,_=>
  have e:=(congrArg (fun x:Nat×Nat×Int=>x.1) (aqw (mo:=100) exH VZ.1 VZ.2)).trans xq1;have e:(SH (hsS 1 EU 13 Ij) 100).1=0:=e;show JJ (hsS 1 EU 13 Ij) 4 100=1;unfold JJ X5 jyB owB oyB;rw[if_pos rfl,if_pos rfl,e];rfl
theorem ayU:∀k,k<4->JJ (hsS 1 EU 13 Ij) ((k+1:Nat):Int) 2=3:=fun k hk=>by
 have h:=xr2;simp only[aB] at h;obtain ⟨⟨a1,a2⟩,a3⟩:=h;have go (lv:Int) (h4:lv≠4) (a:(pD 1 EU Ij lv 2 13).isNone=ay):JJ (hsS 1 EU 13 Ij) lv 2=3:=by
  obtain ⟨e1,e2⟩:=aoP (mo:=2) exH (azJ lv);rw[nY.1 a] at e1;unfold JJ X5;rw[if_neg h4,e1];rfl
 match k,hk with
 |0,_=>exact go 1 (by decide) a1 |1,_=>exact go 2 (by decide) a2 |2,_=>exact go 3 (by decide) a3 |3,_=>
  have e:=(congrArg (fun x:Nat×Nat×Int=>x.1) (aqw (mo:=2) exH VZ.1 VZ.2)).trans xq2;have e:(SH (hsS 1 EU 13 Ij) 2).1=2:=e;show JJ (hsS 1 EU 13 Ij) 4 2=3;unfold JJ X5 owB;rw[if_pos rfl,e];rfl
theorem azK:IC 0 (fun _=>[]) 0 (fun _=>[]):=⟨rfl,rfl,rfl,rfl⟩
theorem aqx:(Bj 0 (fun _=>[]) 0 (fun _=>[])).okb=ay:=by kernel_rfl
theorem aB7:(fun x:Nat×Nat×Int=>(x.1,x.2.1)) (SH (hsS 0 (fun _=>[]) 0 (fun _=>[])) 1)=(0,1):=by
 rw[aqw azK aqx (by decide:(0:Nat)<=12)];kernel_rfl
end Go.Pl
namespace Go.Proofs
open Go Go.Sx Go.Pl Go.Gm Go.Bf
theorem amJ{H:Mem}{a n:Nat}{g g':ϝ}{b:Nat}{v:Value}(hn:n=0)(h:Rep H (.sl a n g) v):Rep H (.sl b 0 g') v:=by
 subst hn;exact Gg h (.inl ⟨rfl,rfl⟩)
theorem aEr:AO ak (AZ W7) 11 awP:=by
 intro H w Bl args φ hon hgl hr hφ;unfold awP at hφ;split at hφ
 ·rename_i n o m e t
  split at hφ
  ·rename_i mo e1
   cases c1:(ckR dU n o 1 EU&&ckR fA m e 13 Ij)<;>simp only[c1,ϰ,ϗ] at hφ
   ·exact hφ.elim
   rw[aB] at c1;have k1:=acQ c1.1 exH.o;have k2:=acQ c1.2 exH.p;match args,hr with
   |[a0,a1],⟨r0,r1,_⟩=>
   cases c2:(mo==100)<;>simp only[c2,ϰ,ϗ] at hφ
   ·cases c3:(mo==2)<;>simp only[c3,ϰ,ϗ] at hφ
    ·exact hφ.elim
    rw[ϡ] at c3;subst c3;refine WI OLv hon hgl (Bl:=[hsS 1 EU 13 Ij,t]) ⟨aa7 k1 k2 r0,r1,ϖ⟩ hφ ?_;unfold aqu;simp only[e1];refine ⟨ajy exH VZ.1 VZ.2 aEp,.inr ⟨rfl,rfl,fun k hk=>?_⟩,rfl,ϖ⟩;show [aQ .i64 (JJ (hsS 1 EU 13 Ij) ((k+1:Nat):Int) 2:Nat)]=_;rw[ayU k hk];match k,hk with
    |0,_=>rfl |1,_=>rfl |2,_=>rfl |3,_=>rfl
   ·rw[ϡ] at c2
    subst c2;refine WI OLv hon hgl (Bl:=[hsS 1 EU 13 Ij,t]) ⟨aa7 k1 k2 r0,r1,ϖ⟩ hφ ?_;unfold aqu;simp only[e1];refine ⟨ajy exH VZ.1 VZ.2 aqv,.inr ⟨rfl,rfl,fun k hk=>?_⟩,rfl,ϖ⟩;show [aQ .i64 (JJ (hsS 1 EU 13 Ij) ((k+1:Nat):Int) 100:Nat)]=_;rw[ayT k hk];match k,hk with
    |0,_=>rfl |1,_=>rfl |2,_=>rfl |3,_=>rfl
  ·exact hφ.elim
 ·exact hφ.elim
theorem aEs:AO ak (AZ W7) 13 awQ:=by
 intro H w Bl args φ hon hgl hr hφ;unfold awQ at hφ;split at hφ
 ·rename_i a n o b m e t u
  split at hφ
  ·rename_i lv mo e1 e2
   cases c0:(lv==4)<;>simp only[c0,ϰ,ϗ] at hφ
   ·exact hφ.elim
   rw[ϡ] at c0;subst c0;match args,hr with
   |[a0,a1,a2],⟨r0,r1,r2,_⟩=>
   cases c1:(dK n 0&&dK m 0)<;>simp only[c1,ϰ,ϗ] at hφ
   ·cases c2:(dK a 2&&dK b 8&&ckR dU n o 1 EU&&ckR fA m e 14 Qi&&mo==100)<;>simp only[c2,ϰ,ϗ] at hφ
    ·exact hφ.elim
    simp only[aB,ϡ] at c2;obtain ⟨⟨⟨⟨x1,x2⟩,x3⟩,x4⟩,rfl⟩:=c2;obtain rfl:=gU x1;obtain rfl:=gU x2;have k1:=acQ x3 aqa.o;have k2:=acQ x4 aqa.p;refine WI O26 hon hgl (Bl:=[hsS 1 EU 14 Qi,t,u]) ⟨aa7 k1 k2 r0,r1,r2,ϖ⟩ hφ ?_;have q:(SH (hsS 1 EU 14 Qi) 100).1=1/\(SH (hsS 1 EU 14 Qi) 100).2.1=14:=by
     have h:=xq3;rw[<-aqw (mo:=100) aqa acR.1 acR.2,jo] at h;exact h
    have j1:X5 (hsS 1 EU 14 Qi) 4 100=ay:=by unfold X5 owB;rw[if_pos rfl,q.1];rfl
    have j2:jyB (hsS 1 EU 14 Qi) 4 100=aA:=by unfold jyB oyB;rw[if_pos rfl,q.1];rfl
    have j3:jaN (hsS 1 EU 14 Qi) 4 100=0:=by unfold jaN oaN;rw[if_pos rfl,q.1];rfl
    have j4:jpI (hsS 1 EU 14 Qi) 4 100=14:=by unfold jpI oiI;rw[if_pos rfl,q.1,q.2];rfl
    have j5:jcI (hsS 1 EU 14 Qi) 4 100=ocI (hsS 1 EU 14 Qi) 100:=by unfold jcI;rw[if_pos rfl]
    have j6:jsN (hsS 1 EU 14 Qi) 4 100=0:=by unfold jsN;rw[if_pos rfl]
    unfold amI;simp only[e1,e2];refine ⟨by unfold juB;rw[ajy aqa acR.1 acR.2 aqv];rfl,fun _=>?_,fun c=>by rw[j1] at c;cases c⟩;rw[j2,j3,j4,j5,j6];exact ⟨⟨.inl rfl,.inl ⟨rfl,rfl⟩,.inl ⟨rfl,rfl⟩,rfl,rfl,ϖ⟩,rfl,ϖ⟩
   ·rw[aB] at c1
    have n0:=gU c1.1;have m0:=gU c1.2;cases c2:(mo==1)<;>simp only[c2,ϰ,ϗ] at hφ
    ·exact hφ.elim
    rw[ϡ] at c2;subst c2;refine WI O26 hon hgl (Bl:=[hsS 0 (fun _=>[]) 0 (fun _=>[]),t,u]) ⟨Lu r0 ⟨fun _ r=>amJ n0 r,fun _ r=>amJ m0 r,ϖ⟩,r1,r2,ϖ⟩ hφ ?_;have h:=aB7;rw[jo] at h;have q:(SH (hsS 0 (fun _=>[]) 0 (fun _=>[])) 1).1=0:=h.1;have q2:(SH (hsS 0 (fun _=>[]) 0 (fun _=>[])) 1).2.1=1:=h.2;have j1:X5 (hsS 0 (fun _=>[]) 0 (fun _=>[])) 4 1=ay:=by unfold X5 owB;rw[if_pos rfl,q];rfl
    have j2:jyB (hsS 0 (fun _=>[]) 0 (fun _=>[])) 4 1=ay:=by unfold jyB oyB;rw[if_pos rfl,q];rfl
    have j3:jaN (hsS 0 (fun _=>[]) 0 (fun _=>[])) 4 1=1:=by unfold jaN oaN;rw[if_pos rfl,q,if_pos rfl,q2]
    have j3f:jaF (hsS 0 (fun _=>[]) 0 (fun _=>[])) 4 1=oaF (hsS 0 (fun _=>[]) 0 (fun _=>[])) 1:=by unfold jaF;rw[if_pos rfl]
    have j4:jpI (hsS 0 (fun _=>[]) 0 (fun _=>[])) 4 1=0:=by unfold jpI oiI;rw[if_pos rfl,q];rfl
    have j5:jcI (hsS 0 (fun _=>[]) 0 (fun _=>[])) 4 1=ocI (hsS 0 (fun _=>[]) 0 (fun _=>[])) 1:=by unfold jcI;rw[if_pos rfl]
    have j6:jsN (hsS 0 (fun _=>[]) 0 (fun _=>[])) 4 1=0:=by unfold jsN;rw[if_pos rfl]
    unfold amI;simp only[e1,e2];refine ⟨by unfold juB;rw[ajy azK aqx (by decide:(0:Nat)<=12) aEq];rfl,fun _=>?_,fun c=>by rw[j1] at c;cases c⟩;rw[j2,j3,j3f,j4,j5,j6];exact ⟨⟨.inl rfl,.inl ⟨rfl,rfl⟩,QY,rfl,rfl,ϖ⟩,rfl,ϖ⟩
  ·exact hφ.elim
 ·exact hφ.elim
theorem awR:BP ak C23:=by
 have h:=jD ZL Ei;exact ⟨h.1,h.2,h.3,h.4,h.5,h.6,h.7⟩
theorem aEt:BJ ak C23:=by
 have h:=ig (stop:=Ei) (spec:=ZL) (fun g F h=>by
  unfold ZL at h;split at h
  ·cases h;exact aEr
  ·cases h;exact aEs
  ·cases h) fun g h=>by
  unfold ZL at h;split at h;all_goals first|(cases h;done) |kernel_rfl
 exact ⟨h.1,h.2,h.3,h.4⟩
theorem O23:AO ak (AZ W7) 4 W11:=by
 refine CG (C23) Tryz.f4 (hC:=awR) fun H w Bl args φ hrep h=>?_
 have hn:Tryz.f4.ntmps=100:=by kernel_rfl
 unfold W11 at h;split at h
 ·refine ⟨[],hrep,L0,?_⟩
  refine BZ (hC:=awR) aEt 900 3000 [] ?_;rw[hn];have hφ:φ (.v (.bool ay)):=h;exact aB6 w23 trivial (AY (s':=.v (.bool ay)) (.inr rfl) hφ)
 ·exact h.elim
end Go.Proofs
namespace Go.Sx
section
variable{P:Program}{C:Ctx}{K:Kx}{φ:Sh->Prop}
theorem NV{ts:List LY}{t:Tree C9}{l cs:List Bool}(hc:cs=l)(k:Nat)(go:∃t,ts[k]?=aj t/\Di P C K t.g t.r t.td t.c t.stk φ)(p:List Nat:=[])(rem:List BL:=[])(hr:bZ rem:=by trivial)
  (ht:t.RY l=(cs,(t.RY l).2.1.map BL.dg,.leaf (.at_ k (Y8 0 p rem (lqT (t.RY l).2.2)))):=by kernel_rfl):Nq (aao P C K ts φ) t:=by
 rw[Jo];exact yX (l:=l) (by rw[ht];exact hc) (by rw[ht];exact I8 _) (by rw[ht];exact ⟨PU hr,go⟩)
theorem ajz{ts:List LY}{t:Tree C9}{l cs:List Bool}(hc:cs=l){s:Sh}(h:φ s)(ht:t.RY l=(cs,(t.RY l).2.1.map BL.dg,.leaf (.ret s)):=by kernel_rfl):Nq (aao P C K ts φ) t:=by
 rw[Jo];exact yX (l:=l) (by rw[ht];exact hc) (by rw[ht];exact I8 _) (by rw[ht];exact h)
end
end Go.Sx
namespace Go.Pl
open Go Go.Sx
structure ZM where
 y:Bool
 k:Nat
 f:ϝ
 c:Int
instance:Inhabited ZM:=⟨⟨aA,0,fun _=>[],0⟩⟩
instance:Row ZM where
 put x:=[.b x.y,.sl 2 x.k x.f,.i .i64 x.c]
 get l:=match l with
  |[.b a,.sl 2 n g,.i .i64 c]=>aj ⟨a,n,g,c⟩ |_=>aF
 DL l a h:=by
  grind
 get_put a:=rfl
 J4:=default
end Go.Pl
namespace Go.Rg
open Go Go.Sx Go.Pl Go.Proofs Go.Gm Go.Bf
def okS(s:Sh)(mo:Int):Bool:=(Jg s 3).okb&&KQ s 3 mo
def wf7(s:Sh)(mo:Int):Bool:=@decide (∃n g m h,s=hsS n g m h/\IC n g m h/\1<=mo/\mo<=65536) (aI _)
def aqy(s:Sh)(mo:Int)(x:Int×Nat×(ϝ)):Prop:=x.1≠0/\AO ak (AZ W7) 7 (F7b s 3 mo x.1 x.2.1 x.2.2)
def Qa(s:Sh)(mo:Int):Int×Nat×(ϝ):=@dite _ (∃x,aqy s mo x) (aI _) (fun h=>Classical.choose h) fun _=>(1,0,FB)
def F7w:ϵ
 |[a,t,u]=>match Bd t,Bd u with
  |some x,aj mo=>.need (wf7 a mo&&decide (x=3)) (.node (okS a mo) (.leaf (.Az [.agg [.b (Ii a 3 mo),.sl 2 (LQ a 3 mo) (Am (NT a 3 mo)),.i .i64 (JF a 3 mo)],.agg [.i .i64 0,.sl 1 0 FB]]))
    (.leaf (.Az [.agg [.b aA,.sl 2 0 FB,.i .i64 0],.agg [.i .i64 (Qa a mo).1,.sl 1 (Qa a mo).2.1 (Qa a mo).2.2]])))
  |_,_=>.fail
 |_=>.fail
def spec3:ϕ
 |4=>aj W11 |7=>aj F7w |8=>aj D8 |9=>aj D19 |16=>aj D45 |31=>aj D15 |43=>aj D21 |_=>aF
def wS:Nat->SV
 |0=>.Bg |_+1=>.gs 6
def wH(W:Nat->ZM):Nat->List (Nat×SB)
 |0=>[] |k+1=>[(6,.own 34 3 (k+1) (Am W))]
def hp3(n m:Nat)(g h:ϝ)(mo stop:Int)(w:Nat)(W:Nat->ZM)(five:SB):List (Nat×SB):=
 [(0,.box [.sym .i64 stop] 3),(1,.box [.bool aA] 4),(2,.box [wS w] 31),(3,.box [.sh (.sl 2 n g),.sh (.sl 8 m h)] 25),(4,.box [.sym .i64 mo] 3),(5,five)]++wH W w
def tm3:List (Nat×SV):=[(5,.ptr 0 0),(6,.ptr 1 0),(8,.fn 17 [.ptr 3 0,.ptr 4 0]),(9,.ptr 2 0)]
def tdW:List It:=[aK [0,1,0,1,1,1,1,1,1],aX 0,aK [1,1,1,1,1,1,1]]
def L3w(n m:Nat)(g h:ϝ)(mo stop:Int)(w:Nat)(W:Nat->ZM)(i:Int):Core:=
 {tm:=DF 132 (tm3++[(1,.sym .i64 mo),(3,.ptr 5 0),(10,.sym .i64 i)]),hp:=hp3 n m g h mo stop w W (.box [.sh (.sl 2 n g),.sh (.sl 8 m h)] 25),nx:=7,lim:=L0,tc:=[]}
def tdR:List It:=[aK [0,1,0,1,1,1,1,1,1,1],aX 2,aK [1,1,1,1,1,1,1,1]]
def L3r(n m:Nat)(g h:ϝ)(mo stop:Int)(w:Nat)(W:Nat->ZM)(q:Int):Core:=
 {tm:=DF 132 (tm3++[(13,.ptr 5 0)]),hp:=hp3 n m g h mo stop w W (.box [.sym .i64 q] 3),nx:=7,lim:=L0,tc:=[]}
def pR3:List Nat:=[0,1,0,1,0,0,1,0,0,1,0,1,1,1,1,1,1,1]
def k3:List It:=[aX 4,aK [1,1,0,0,1,0,0,1,0,1,1,1,1,1,1,1],aX 3,aK [1,1,0,0,1,0,1,1,1,1,1,1,1]]++tdR
def azL:List SV:=DF 132 (tm3++[(13,.ptr 5 0),(14,.ptr 7 0),(65,.fn 17 [.ptr 3 0,.ptr 4 0])])
def awU(n m:Nat)(g h:ϝ)(mo stop:Int)(w:Nat)(W:Nat->ZM)(q j:Int):List (Nat×SB):=hp3 n m g h mo stop w W (.box [.sym .i64 q] 3)++[(7,.box [.sym .i64 j] 3)]
def L3t(n m:Nat)(g h:ϝ)(mo stop:Int)(w:Nat)(W:Nat->ZM)(q j:Int):Core:={tm:=azL,hp:=awU n m g h mo stop w W q j,nx:=8,lim:=L0,tc:=[]}
def s3(l:Nat):List Fw:=[⟨3,aF,k3,azL,aj (l,pR3,.ready)⟩]
def pI:List Nat:=[0,1,1]
def kI:List It:=[aX 0]
def azM:List SV:=DF 22 [(3,.ptr 8 0),(8,.fn 32 [.ptr 9 0,.ptr 10 0])]
def L17(n m:Nat)(g h:ϝ)(mo stop:Int)(w:Nat)(W:Nat->ZM)(q j:Int)(l:Nat):Core:=
 {tm:=azM,hp:=awU n m g h mo stop w W q j++[(8,.box [.val (yv l)] 61),(9,.box [.sh (.sl 2 n g),.sh (.sl 8 m h)] 25),(10,.box [.sym .i64 mo] 3)],nx:=11,lim:=L0,tc:=[]}
def s17(l l2:Nat):List Fw:=⟨17,aF,kI,azM,aj (l2,pI,.ready)⟩::s3 l
def alf:List SV:=DF 29 [(2,.ptr 10 0),(3,.ptr 11 0),(9,.fn 42 [.ptr 12 0])]
def ale(n m:Nat)(g h:ϝ)(mo stop:Int)(w:Nat)(W:Nat->ZM)(q j:Int)(l l2:Nat):List (Nat×SB):=
 awU n m g h mo stop w W q j++[(8,.box [.val (yv l)] 61),(10,.box [.sym .i64 mo] 3),(11,.box [.val (yv l2)] 98),(12,.box [.sh (.sl 2 n g),.sh (.sl 8 m h)] 25)]
def L32(n m:Nat)(g h:ϝ)(mo stop:Int)(w:Nat)(W:Nat->ZM)(q j:Int)(l l2:Nat):Core:=
 {tm:=alf,hp:=ale n m g h mo stop w W q j l l2,nx:=13,lim:=L0,tc:=[]}
def UF(l l2 l3:Nat):List Fw:=⟨32,aF,kI,alf,aj (l3,pI,.ready)⟩::s17 l l2
def J6:List It:=[aK [0,1],aX 0]
def azN:List It:=aK [0,0,1]::J6
def L42(n m:Nat)(g h:ϝ)(mo stop:Int)(w:Nat)(W:Nat->ZM)(q j:Int)(l l2 l3:Nat)(i:Int):Core:=
 {tm:=DF 18 [(0,.val (yv l3)),(1,.ptr 12 0),(3,.sym .i64 i)],hp:=ale n m g h mo stop w W q j l l2,nx:=13,lim:=L0,tc:=[]}
section
variable{n m:Nat}{g h:ϝ}{mo:Int}
theorem afK(P:IC n g m h):okS (hsS n g m h) mo=ay↔(Bj n g m h).okb=ay/\(Bj n g m h).n<=12/\(paO 3 mo n g m h).isSome=ay:=by
 have hb:(Jg (hsS n g m h) 3).okb=((Bj n g m h).okb&&decide ((Bj n g m h).n<=12)):=rfl;unfold okS KQ;grind [ab1]
theorem aCd{s:Sh}(e:∃x,aqy s mo x):aqy s mo (Qa s mo):=by
 simp_all [Qa,Classical.choose_spec]
theorem awV(P:IC n g m h)(hm:1<=mo/\mo<=65536)(hk:okS (hsS n g m h) mo=aA):aqy (hsS n g m h) mo (Qa (hsS n g m h) mo):=by
 obtain ⟨c,k,f,hc,O⟩:=O7b (lv:=3) P (.inr (.inr rfl)) hm fun e=>by grind [afK]
 exact aCd ⟨(c,k,f),hc,O⟩
theorem O7w:AO ak (AZ W7) 7 F7w:=by
 intro H w Bl args φ hon hgl hr hφ;unfold F7w at hφ;split at hφ
 ·rename_i a t u
  split at hφ
  ·rename_i x mo e1 e2
   obtain ⟨q1,hT,hF⟩:=hφ;rw[aB,ϟ] at q1;obtain ⟨b1,rfl⟩:=q1;obtain ⟨n,g,m,h,rfl,P,hm⟩:=@ϑ _ (aI _) b1;cases hk:okS (hsS n g m h) mo with
   |true=>
    obtain ⟨hok,hn,hs⟩:=(afK P).1 hk;obtain ⟨r,hr'⟩:=dO.1 hs;refine O7g (lv:=3) P (.inr (.inr rfl)) hok hn hm hr' H w _ _ φ hon hgl hr ?_;unfold F7g;simp only[e1,e2];exact ⟨VX,by simp,hT hk⟩
   |false=>
    refine (awV P hm hk).2 H w _ _ φ hon hgl hr ?_;unfold F7b;simp only[e1,e2];exact ⟨VX,by simp,hF hk⟩
  ·exact hφ.elim
 ·exact hφ.elim
end
theorem aqz(Kq:AO ak (AZ W7) 4 W11)(stop:Nat->List Nat->Bool):BJ ak (C7 Ak W7 spec3 stop):=ig (fun g F h=>by
 unfold spec3 at h;grind [O7w,O8p,aBA,O45,O15,O21]) fun g h=>by
 unfold spec3 at h;split at h;all_goals first|(cases h;done) |kernel_rfl
theorem Qb(Kq:AO ak (AZ W7) 4 W11){H0:Mem}{w0:World}{ts:List LY}{g:Nat}{r:Option (Nat×Nat)}{td:List It}{c:Core}{stk:List Fw}{φ:Sh->Prop}(h:Nq (aao ak (C7 Ak W7 spec3 Aw) (K0 H0 w0) ts φ) (agU (C7 Ak W7 spec3 Aw) GR 300 800 g r td c stk ts)):Di ak (C7 Ak W7 spec3 Aw) (K0 H0 w0) g r td c stk φ:=F5 (jD _ _) (aqz Kq _) ahL h
def W3(n:Nat)(g h:ϝ)(mo:Int)(i:Nat):ZM:=⟨Ii (hsS n g i h) 3 mo,LQ (hsS n g i h) 3 mo,Am (NT (hsS n g i h) 3 mo),JF (hsS n g i h) 3 mo⟩
structure WnP(n m:Nat)(g h:ϝ)(mo:Int)(w:Nat):Prop where
 le:w<=m+1
 ok:∀j,j<w->1<=mo/\okS (hsS n g j h) mo=ay
 no:w<=m->¬(1<=mo/\okS (hsS n g w h) mo=ay)
section
variable{H0:Mem}{w0:World}{φ:Sh->Prop}{n m:Nat}{g h:ϝ}{mo stop:Int}
theorem ayX{i:Nat}(P:IC n g i h)(hm:1<=mo/\mo<=65536):wf7 (hsS n g i h) mo=ay:=@ϱ _ (aI _) ⟨n,g,i,h,rfl,P,hm⟩
theorem awW(Kq:AO ak (AZ W7) 4 W11)(P:IC n g m h)(hn:n<=100)(hm:m<=70)(hmo:mo<=150)
  (nx:∀w,WnP n m g h mo w->Di ak (C7 Ak W7 spec3 Aw) (K0 H0 w0) 3 aF tdR (L3r n m g h mo stop w (W3 n g h mo) 0) [] (up φ)) :
  ∀r i,i+r=m+1->(∀j,j<i->1<=mo/\okS (hsS n g j h) mo=ay)->
  Di ak (C7 Ak W7 spec3 Aw) (K0 H0 w0) 3 aF tdW (L3w n m g h mo stop i (W3 n g h mo) (i:Int)) [] (up φ)
 |0,i,hi,ho=>by
  have nx:=nx i ⟨by omega,ho,fun q=>by omega⟩;refine F6 (fn:=iY) (tb:=aK [0,0,1,0,1,1,1,1,1,1]::tdW) (by kernel_rfl) (by kernel_rfl) ?_;refine Qb Kq (ts:=[⟨3,aF,tdR,L3r n m g h mo stop i (W3 n g h mo) 0,[]⟩]) ?_;have c0:[Ak.le (i:Int) (Ak.AV m)]=[aA]:=by simp[CS,AL];omega
  obtain ⟨k,rfl⟩:∃k,i=k+1:=⟨m,by omega⟩;exact NV c0 0 ⟨_,rfl,nx⟩
 |r+1,i,hi,ho=>by
  refine F6 (fn:=iY) (tb:=aK [0,0,1,0,1,1,1,1,1,1]::tdW) (by kernel_rfl) (by kernel_rfl) ?_;have c0:Ak.le (i:Int) (Ak.AV m)=ay:=by simp[CS,AL];omega
  by_cases h1:1<=mo
  ·have c1:Ak.le 1 mo=ay:=by simp[CS];omega
   have ep:DR (i:Int) m=i:=afE (by omega);have P':=P.pre (i:=i) (by omega);have c2:(gG dU n g&&(Cc n 16&&decide (n<=100000)))=ay:=by
    rw[P'.o,show Cc n 16=ay from room_le (by omega) (by omega),ϱ (by omega)];rfl
   have c3:(gG fA (DR (i:Int) m) h&&(Cc (DR (i:Int) m) 64&&decide (DR (i:Int) m<=100000)))=ay:=by
    rw[ep,P'.p,show Cc i 64=ay from room_le (by omega) (by omega),ϱ (by omega)];rfl
   have c4:(wf7 (.agg [.sl 2 n g,.sl 8 (DR (i:Int) m) h]) mo&&decide ((3:Int)=3))=ay:=by
    rw[ep,show wf7 (.agg [.sl 2 n g,.sl 8 i h]) mo=ay from ayX P' (by omega)];rfl
   cases hk:okS (hsS n g i h) mo with
   |true=>
    have c5:okS (.agg [.sl 2 n g,.sl 8 (DR (i:Int) m) h]) mo=ay:=by rw[ep];exact hk
    have c6:Ak.room (Ak.addN i 1) 40=ay:=room_le (by rw[Dl];omega) (by omega);have nx:=awW Kq P hn hm hmo nx r (i+1) (by omega) fun j hj=>by
     grind
    rw[<-add1 (j:=i) (by omega)] at nx;refine Qb Kq (ts:=[⟨3,aF,tdW,L3w n m g h mo stop (i+1) (W3 n g h mo) (Ak.add .i64 (i:Int) (ah 1)),[]⟩]) ?_;have hrow:[iL (Ii (.agg [.sl 2 n g,.sl 8 (DR (i:Int) m) h]) 3 mo),.sl 2 (LQ (.agg [.sl 2 n g,.sl 8 (DR (i:Int) m) h]) 3 mo) (Am (NT (.agg [.sl 2 n g,.sl 8 (DR (i:Int) m) h]) 3 mo)),.i .i64 (JF (.agg [.sl 2 n g,.sl 8 (DR (i:Int) m) h]) 3 mo)]=Row.put (W3 n g h mo i):=by rw[ep];rfl
    cases i with
    |zero=>
     exact NV (BN c0 (BN c1 (BN c2 (BN c3 (BN c4 (BN c5 (BN (show Ak.nt (Ak.eq 0 0)=aA from rfl) (rfl:[]=[])))))))) 0 ⟨_,rfl,nx⟩ [9] [bY 1 (Bh [[iL (Ii (.agg [.sl 2 n g,.sl 8 (DR ((0:Nat):Int) m) h]) 3 mo),.sl 2 (LQ (.agg [.sl 2 n g,.sl 8 (DR ((0:Nat):Int) m) h]) 3 mo) (Am (NT (.agg [.sl 2 n g,.sl 8 (DR ((0:Nat):Int) m) h]) 3 mo)),.i .i64 (JF (.agg [.sl 2 n g,.sl 8 (DR ((0:Nat):Int) m) h]) 3 mo)]]) (Am (W3 n g h mo))]
      ⟨fun j hj=>by
       obtain rfl:j=0:=by omega
       exact hrow,ϖ⟩
    |succ k=>
     exact NV (BN c0 (BN c1 (BN c2 (BN c3 (BN c4 (BN c5 (BN (show Ak.nt (Ak.eq 0 0)=aA from rfl) (BN c6 (rfl:[]=[]))))))))) 0 ⟨_,rfl,nx⟩ [9] [bY (Ak.addN (k+1) 1) (Ak.snoc (Am (W3 n g h mo)) (k+1) (Bh [[iL (Ii (.agg [.sl 2 n g,.sl 8 (DR ((k+1:Nat):Int) m) h]) 3 mo),.sl 2 (LQ (.agg [.sl 2 n g,.sl 8 (DR ((k+1:Nat):Int) m) h]) 3 mo) (Am (NT (.agg [.sl 2 n g,.sl 8 (DR ((k+1:Nat):Int) m) h]) 3 mo)),.i .i64 (JF (.agg [.sl 2 n g,.sl 8 (DR ((k+1:Nat):Int) m) h]) 3 mo)]])) (Am (W3 n g h mo))]
      ⟨fun j hj=>by
       rw[Dn];split
       ·rfl
       ·obtain rfl:j=k+1:=by
         grind [Dl]
        rw[gK];exact hrow,ϖ⟩
   |false=>
    have c5:okS (.agg [.sl 2 n g,.sl 8 (DR (i:Int) m) h]) mo=aA:=by rw[ep];exact hk
    have c6:Ak.nt (Ak.eq (Qa (.agg [.sl 2 n g,.sl 8 (DR (i:Int) m) h]) mo).1 0)=ay:=by
     rw[ep];have:=(awV P' (by omega) hk).1;simp[BG,AQ];exact this
    have nx:=nx i ⟨by omega,ho,fun _ q=>by simp_all⟩;refine Qb Kq (ts:=[⟨3,aF,tdR,L3r n m g h mo stop i (W3 n g h mo) 0,[]⟩]) ?_;cases i<;>exact NV (l:=[ay,ay,ay,ay,ay,aA,ay]) (cs:=[_,_,_,_,_,_,_]) (by
     rw[dF,dF,dF,dF,dF,dF,dF];exact ⟨c0,c1,c2,c3,c4,c5,c6,rfl⟩) 0 ⟨_,rfl,nx⟩
  ·have c1:Ak.le 1 mo=aA:=by simp[CS];omega
   have nx:=nx i ⟨by omega,ho,fun _ q=>h1 q.1⟩;refine Qb Kq (ts:=[⟨3,aF,tdR,L3r n m g h mo stop i (W3 n g h mo) 0,[]⟩]) ?_;cases i<;>exact NV (l:=[ay,aA]) (cs:=[_,_]) (by rw[dF,dF];exact ⟨c0,c1,rfl⟩) 0 ⟨_,rfl,nx⟩
end
open Go Go.Sx Go.Pl Go.Proofs Go.Gm Go.Bf
section
variable{H0:Mem}{w0:World}{φ:Sh->Prop}{n m:Nat}{g h:ϝ}{mo stop:Int}{w:Nat}
theorem ayY(Kq:AO ak (AZ W7) 4 W11)(W:Nat->ZM)(hn:n<=100)(hm:m<=70)(q:Int)
  (nx:∀l l2 l3,Di ak (C7 Ak W7 spec3 Aw) (K0 H0 w0) 42 aF J6 (L42 n m g h mo stop w W q 0 l l2 l3 0) (UF l l2 l3) φ) :
  Di ak (C7 Ak W7 spec3 Aw) (K0 H0 w0) 3 aF (.code pR3::k3) (L3t n m g h mo stop w W q 0) [] φ:=by
 have cl:[clB n m]=[ay]:=by
  unfold clB;rw[show Ak.room n 16=ay from room_le (by omega) (by omega),show Ak.room m 64=ay from room_le (by omega) (by omega)];rfl
 have p4 (l l2 l3:Nat):Di ak (C7 Ak W7 spec3 Aw) (K0 H0 w0) 42 aF [.code []] {L32 n m g h mo stop w W q 0 l l2 with tm:=(.val (yv l3)::[.ptr 12 0])++dD (18 - (1+1)) .any} (UF l l2 l3) φ:=by
  refine Qb Kq (ts:=[⟨42,aF,J6,L42 n m g h mo stop w W q 0 l l2 l3 0,UF l l2 l3⟩]) ?_;cases w<;>exact NV (l:=[]) (cs:=[]) rfl 0 ⟨_,rfl,nx l l2 l3⟩
 have p3b (l l2:Nat):Di ak (C7 Ak W7 spec3 Aw) (K0 H0 w0) 32 aF (.code pI::kI) (L32 n m g h mo stop w W q 0 l l2) (s17 l l2) φ:=by
  refine JB (jD _ _) (aqz Kq _) (fn:=jC) (Hq:=kM) (g2:=42) (caps:=[.ptr 12 0]) (by kernel_rfl) (x:=.tmp 9) (ps:=#[10,11]) (ca:=BA (AU jC) (0::pI)) (cb:=BA (AU jC) (1::pI)) (by kernel_rfl) (by kernel_rfl) (by kernel_rfl) (by kernel_rfl) fun l3=>?_
  have h18:kM.ntmps=18:=by kernel_rfl
  rw[h18];exact p4 l l2 l3
 have p3 (l l2:Nat):Di ak (C7 Ak W7 spec3 Aw) (K0 H0 w0) 32 aF [.code []] {L17 n m g h mo stop w W q 0 l with tm:=(.val (yv l2)::[.ptr 9 0,.ptr 10 0])++dD (29 - (1+2)) .any} (s17 l l2) φ:=by
  refine Qb Kq (ts:=[⟨32,aF,.code pI::kI,L32 n m g h mo stop w W q 0 l l2,s17 l l2⟩]) ?_;cases w<;>exact NV cl 0 ⟨_,rfl,p3b l l2⟩
 have p2b (l:Nat):Di ak (C7 Ak W7 spec3 Aw) (K0 H0 w0) 17 aF (.code pI::kI) (L17 n m g h mo stop w W q 0 l) (s3 l) φ:=by
  refine JB (jD _ _) (aqz Kq _) (fn:=oG) (Hq:=jC) (g2:=32) (caps:=[.ptr 9 0,.ptr 10 0]) (by kernel_rfl) (x:=.tmp 8) (ps:=#[9,10]) (ca:=BA (AU oG) (0::pI)) (cb:=BA (AU oG) (1::pI)) (by kernel_rfl) (by kernel_rfl) (by kernel_rfl) (by kernel_rfl) fun l2=>?_
  have h29:jC.ntmps=29:=by kernel_rfl
  rw[h29];exact p3 l l2
 have p2 (l:Nat):Di ak (C7 Ak W7 spec3 Aw) (K0 H0 w0) 17 aF [.code []] {L3t n m g h mo stop w W q 0 with tm:=(.val (yv l)::[.ptr 3 0,.ptr 4 0])++dD (22 - (1+2)) .any} (s3 l) φ:=by
  refine Qb Kq (ts:=[⟨17,aF,.code pI::kI,L17 n m g h mo stop w W q 0 l,s3 l⟩]) ?_;cases w<;>exact NV (l:=[]) (cs:=[]) rfl 0 ⟨_,rfl,p2b l⟩
 refine JB (jD _ _) (aqz Kq _) (fn:=iY) (Hq:=oG) (g2:=17) (caps:=[.ptr 3 0,.ptr 4 0]) (by kernel_rfl) (x:=.tmp 65) (ps:=#[66,67]) (ca:=BA (AU iY) (0::pR3)) (cb:=BA (AU iY) (1::pR3)) (by kernel_rfl) (by kernel_rfl) (by kernel_rfl) (by kernel_rfl) fun l=>?_
 have h22:oG.ntmps=22:=by kernel_rfl
 rw[h22];exact p2 l
theorem afL{S:Type}{g:Game S}{ld:Nd S->Bool}:∀f nd,(least g ld f nd).length<=f
 |0,nd=>bM _ |f+1,nd=>by
  rw[least];split
  ·simp
  ·split
   ·simp
   ·exact Nat.succ_le_succ (afL f _)
theorem aoQ{S κ:Type}[DecidableEq κ]{g:Game S}{key:Nd S->κ}{s:S}{r:List (Nd S)}:(IB g key s r).length<=g.n+1:=by
 unfold IB;grind [afL]
theorem awX{k:Nat}{f:Nat->FT}:ssB k (Am f) k (Am f)=ay:=by
 simp_all [ssB]
theorem awY(Kq:AO ak (AZ W7) 4 W11)(P:IC n g m h)(hn:n<=100)(hm:m<=70)(hmo:mo<=150)(hw:WnP n m g h mo w)(q:Int){l l2 l3:Nat}
  (nx:Di ak (C7 Ak W7 spec3 Aw) (K0 H0 w0) 3 aF tdR (L3r n m g h mo stop w (W3 n g h mo) (Ak.add .i64 q (ah 1))) [] φ):∀r i,i+r=w->
  Di ak (C7 Ak W7 spec3 Aw) (K0 H0 w0) 42 aF J6 (L42 n m g h mo stop w (W3 n g h mo) q (i:Int) l l2 l3 (i:Int)) (UF l l2 l3) φ
 |0,i,hi=>by
  obtain rfl:i=w:=by omega
  refine F6 (fn:=kM) (tb:=azN) (by kernel_rfl) (by kernel_rfl) ?_;refine Qb Kq (ts:=[⟨3,aF,tdR,L3r n m g h mo stop i (W3 n g h mo) (Ak.add .i64 q (ah 1)),[]⟩]) ?_;have ce:Ak.nt (Ak.eq (i:Int) (Ak.AV i))=aA:=by simp[BG,AQ,AL]
  by_cases hlt:i<=m
  ·have c0:Ak.le (i:Int) (Ak.AV m)=ay:=by simp[CS,AL];omega
   have ep:DR (i:Int) m=i:=afE hlt;have P':=P.pre (i:=i) hlt;have c1:pfB n (i:Int) m=ay:=by
    unfold pfB;rw[ep,aB];exact ⟨room_le (by omega) (by omega),room_le (by omega) (by omega)⟩
   have c2:hsB (.agg [.sl 2 n g,.sl 8 (DR (i:Int) m) h]) 3=ay:=by
    rw[ep];exact @ϱ _ (aI _) ⟨n,g,i,h,rfl,P',by decide,by decide⟩
   have c3:VO (.agg [.sl 2 n g,.sl 8 (DR (i:Int) m) h]) 3 mo=aA:=by
    rw[ep];have no:=hw.no hlt;unfold okS KQ hsS at no;simp_all [VO,Uf,aB]
   cases hra:raB (.agg [.sl 2 n g,.sl 8 (DR (i:Int) m) h]) 3 mo with
   |true=>cases i<;>exact NV (BN c0 (BN c1 (BN c2 (BN c3 (BN hra (BN ce (rfl:[]=[]))))))) 0 ⟨_,rfl,nx⟩ |false=>cases i<;>exact NV (BN c0 (BN c1 (BN c2 (BN c3 (BN hra (BN ce (rfl:[]=[]))))))) 0 ⟨_,rfl,nx⟩
  ·have c0:Ak.le (i:Int) (Ak.AV m)=aA:=by simp[CS,AL];omega
   cases i<;>exact NV (BN c0 (BN ce (rfl:[]=[]))) 0 ⟨_,rfl,nx⟩
 |r+1,i,hi=>by
  have hlt:i<=m:=by have:=hw.le;omega
  obtain ⟨hm1,hk⟩:=hw.ok i (by omega);have ih:=awY Kq P hn hm hmo hw q (l:=l) (l2:=l2) (l3:=l3) nx r (i+1) (by omega);rw[<-add1 (j:=i) (by omega)] at ih;refine F6 (fn:=kM) (tb:=azN) (by kernel_rfl) (by kernel_rfl) ?_;refine Qb Kq (ts:=[⟨42,aF,J6,L42 n m g h mo stop w (W3 n g h mo) q (Ak.add .i64 (i:Int) (ah 1)) l l2 l3 (Ak.add .i64 (i:Int) (ah 1)),UF l l2 l3⟩,⟨3,aF,tdR,L3r n m g h mo stop w (W3 n g h mo) (Ak.add .i64 q (ah 1)),[]⟩]) ?_;obtain ⟨k,rfl⟩:∃k,w=k+1:=⟨w - 1,by omega⟩;have c0:Ak.le (i:Int) (Ak.AV m)=ay:=by simp[CS,AL];omega
  have ep:DR (i:Int) m=i:=afE hlt;have P':=P.pre (i:=i) hlt;have c1:pfB n (i:Int) m=ay:=by
   unfold pfB;rw[ep,aB];exact ⟨room_le (by omega) (by omega),room_le (by omega) (by omega)⟩
  have c2:hsB (.agg [.sl 2 n g,.sl 8 (DR (i:Int) m) h]) 3=ay:=by
   rw[ep];exact @ϱ _ (aI _) ⟨n,g,i,h,rfl,P',by decide,by decide⟩
  have c3:VO (.agg [.sl 2 n g,.sl 8 (DR (i:Int) m) h]) 3 mo=ay:=by
   rw[ep];unfold okS KQ hsS at hk;unfold VO Uf;grind
  have c4:Ak.le (Ak.AV (k+1)) (i:Int)=aA:=by simp[CS,AL];omega
  have c5:Ak.nt (Ak.eq (i:Int) (i:Int))=aA:=by simp[BG,AQ]
  have c6:Ak.inB (i:Int) (k+1)=ay:=by simp[AX];omega
  have c7:Ak.nt (Ak.beq (Ii (.agg [.sl 2 n g,.sl 8 (DR (i:Int) m) h]) 3 mo) (W3 n g h mo (Ak.toN (i:Int))).y)=aA:=by
   rw[ep];show Ak.nt (Ak.beq (Ii (hsS n g i h) 3 mo) (Ii (hsS n g i h) 3 mo))=aA;cases Ii (hsS n g i h) 3 mo<;>rfl
  have c9:Ak.nt (Ak.eq (JF (.agg [.sl 2 n g,.sl 8 (DR (i:Int) m) h]) 3 mo) (W3 n g h mo (Ak.toN (i:Int))).c)=aA:=by
   rw[ep];show Ak.nt (Ak.eq (JF (hsS n g i h) 3 mo) (JF (hsS n g i h) 3 mo))=aA;grind [AQ]
  have hlen:LQ (hsS n g i h) 3 mo<=100000:=by
   obtain ⟨hok,hn',hs⟩:=(afK P').1 hk;obtain ⟨r,hr⟩:=dO.1 hs;obtain ⟨_,et,_⟩:=ab2 P' hok hn' hr;unfold LQ;rw[et,List.length_map];have h1:=aoQ (g:=Rk 3 n g i h) (key:=E8) (s:=newL n g) (r:=r);have h2:(Rk 3 n g i h).n<=(Bj n g i h).n:=ZG 3 (Bj n g i h).T (Bj n g i h).n 0;omega
  have c11:amf (LQ (.agg [.sl 2 n g,.sl 8 (DR (i:Int) m) h]) 3 mo) (Am (NT (.agg [.sl 2 n g,.sl 8 (DR (i:Int) m) h]) 3 mo)) (W3 n g h mo (Ak.toN (i:Int))).k (W3 n g h mo (Ak.toN (i:Int))).f=ay:=by
   rw[ep];show amf (LQ (hsS n g i h) 3 mo) (Am (NT (hsS n g i h) 3 mo)) (LQ (hsS n g i h) 3 mo) (Am (NT (hsS n g i h) 3 mo))=ay;simp_all [amf,Cb,ϱ]
  have c12:Ak.nt (ssB (LQ (.agg [.sl 2 n g,.sl 8 (DR (i:Int) m) h]) 3 mo) (Am (NT (.agg [.sl 2 n g,.sl 8 (DR (i:Int) m) h]) 3 mo)) (W3 n g h mo (Ak.toN (i:Int))).k (W3 n g h mo (Ak.toN (i:Int))).f)=aA:=by
   rw[ep];show Ak.nt (ssB (LQ (hsS n g i h) 3 mo) (Am (NT (hsS n g i h) 3 mo)) (LQ (hsS n g i h) 3 mo) (Am (NT (hsS n g i h) 3 mo)))=aA;rw[awX];rfl
  have hd {a b:List Bool} (e:a=b):=BN c0 (BN c1 (BN c2 (BN c3 (BN c4 (BN c5 (BN c6 (BN c7 (BN c6 (BN c9 (BN c6 (BN c11 (BN c12 e))))))))))));cases hq:Ak.eq q 0 with
  |false=>exact NV (hd (BN hq (rfl:[]=[]))) 0 ⟨_,rfl,ih⟩ |true=>cases hs:Ak.eq (Ak.add .i64 (i:Int) (ah 1)) stop with
   |false=>exact NV (hd (BN hq (BN hs (rfl:[]=[])))) 0 ⟨_,rfl,ih⟩ |true=>cases hl:Ak.nt (Ak.eq (Ak.add .i64 (i:Int) (ah 1)) (Ak.AV (k+1))) with
    |false=>exact NV (hd (BN hq (BN hs (BN hl (rfl:[]=[]))))) 1 ⟨_,rfl,nx⟩ |true=>exact NV (hd (BN hq (BN hs (BN hl (BN hq (BN (show Ak.nt (Ak.eq (Ak.add .i64 (i:Int) (ah 1)) stop)=aA by rw[hs];rfl) (rfl:[]=[]))))))) 1 ⟨_,rfl,nx⟩
theorem rounds(Kq:AO ak (AZ W7) 4 W11)(P:IC n g m h)(hn:n<=100)(hm:m<=70)(hmo:mo<=150)(hw:WnP n m g h mo w)(hφ:φ (.b ay)):∀r q:Nat,q+r=2->
  Di ak (C7 Ak W7 spec3 Aw) (K0 H0 w0) 3 aF tdR (L3r n m g h mo stop w (W3 n g h mo) (q:Int)) [] φ
 |0,q,hq=>by
  obtain rfl:q=2:=by omega
  refine F6 (fn:=iY) (tb:=aK [0,0,1,0,1,1,1,1,1,1,1]::tdR) (by kernel_rfl) (by kernel_rfl) ?_;refine Qb Kq (ts:=[]) ?_;cases w<;>exact ajz (l:=[aA]) (cs:=[Ak.lt ((2:Nat):Int) 2]) rfl (s:=.b ay) hφ
 |r+1,q,hq=>by
  have nx:=rounds Kq P hn hm hmo hw hφ r (q+1) (by omega);rw[<-add1 (j:=q) (by omega)] at nx;refine F6 (fn:=iY) (tb:=aK [0,0,1,0,1,1,1,1,1,1,1]::tdR) (by kernel_rfl) (by kernel_rfl) ?_;refine Qb Kq (ts:=[⟨3,aF,.code pR3::k3,L3t n m g h mo stop w (W3 n g h mo) (q:Int) 0,[]⟩]) ?_;have go:=ayY (stop:=stop) (w:=w) (mo:=mo) (g:=g) (h:=h) (H0:=H0) (w0:=w0) (φ:=φ) Kq (W3 n g h mo) hn hm (q:Int) fun l l2 l3=>awY Kq P hn hm hmo hw (q:Int) nx w 0 (by omega);cases w<;>exact NV (l:=[ay]) (cs:=[Ak.lt (q:Int) 2]) (by simp[Ar];omega) 0 ⟨_,rfl,go⟩
end
def F3:ϵ
 |[s,t,u]=>match Bd t,Bd u with
  |some _,aj _=>.need (hpB s) (.leaf (.v (.bool ay))) |_,_=>.fail
 |_=>.fail
theorem O3(Kq:AO ak (AZ W7) 4 W11):AO ak (AZ W7) 3 F3:=by
 intro H w Bl args φ hon hgl hr hφ;unfold F3 at hφ;split at hφ
 ·rename_i s t u
  split at hφ
  ·rename_i mo stop e1 e2
   obtain ⟨q1,hφ⟩:=hφ;obtain ⟨n,g,m,h,rfl,P⟩:=@ϑ _ (aI _) q1;have hφ:φ (.v (.bool ay)):=hφ;have hn:iY.ntmps=132:=by kernel_rfl
   match args,hr with
   |[a0,a1,a2],⟨r0,r1,r2,_⟩=>
   have T:up φ (.b ay):=AY (s':=.v (.bool ay)) (.inr rfl) hφ;refine Sv (C:=C7 Ak W7 spec3 Aw) (jD _ _) (fn:=iY) (FD:=[hsS n g m h,.i .i64 mo,.i .i64 stop]) (L:=L0) (by kernel_rfl) (by kernel_rfl) hon hgl ⟨r0,Dz e1 r1,Dz e2 r2,ϖ⟩ (amD ?_);rw[hn];cases k1:Ak.le (Ak.AV n) 100 with
   |false=>
    refine Qb Kq (ts:=[]) ?_;exact ajz (BN k1 (rfl:[]=[])) (s:=.b ay) T
   |true=>cases k2:Ak.nt (Ak.le (Ak.AV m) 70) with
    |true=>
     refine Qb Kq (ts:=[]) ?_;exact ajz (BN k1 (BN k2 (rfl:[]=[]))) (s:=.b ay) T
    |false=>cases k3:Ak.lt 150 mo with
     |true=>
      refine Qb Kq (ts:=[]) ?_;exact ajz (BN k1 (BN k2 (BN k3 (rfl:[]=[])))) (s:=.b ay) T
     |false=>
      have hn':n<=100:=by grind [CS,AL]
      have hm':m<=70:=by grind [BG,CS,AL]
      have hmo:mo<=150:=by simp_all [Ar]
      have cl:clB n m=ay:=by
       unfold clB;rw[show Ak.room n 16=ay from room_le (by omega) (by omega),show Ak.room m 64=ay from room_le (by omega) (by omega)];rfl
      have go:=awW (stop:=stop) (H0:=H) (w0:=w) (φ:=φ) Kq P hn' hm' hmo (fun w hw=>rounds Kq P hn' hm' hmo hw T 2 0 rfl) (m+1) 0 (by omega) fun j hj=>by omega
      refine Qb Kq (ts:=[⟨3,aF,tdW,L3w n m g h mo stop 0 (W3 n g h mo) ((0:Nat):Int),[]⟩]) ?_;exact NV (BN k1 (BN k2 (BN k3 (BN cl (rfl:[]=[]))))) 0 ⟨_,rfl,go⟩
  ·exact hφ.elim
 ·exact hφ.elim
end Go.Rg
namespace Go.Sx
open Go.RowKit Go.ChangeShapes Go.WideShapes Go.Deep
def EW(w:World):Mem:=fun b=>w.heap[b]?
theorem asf(w:World):(EW w).on w:=fun _ _ h=>h
theorem ZN{w:World}{a:Addr}{v:Value}(h:w.cell? a=aj v):hcell (EW w) a.block a.off=aj v/\a.spot=aF:=by
 unfold World.cell? at h;unfold hcell EW;(split at h)<;>simp_all
section
variable{H:Type}{enc:TypeId×Value->H}{P:Program}{w:World}{base:Nat}{spare:Nat->Bool}{held:Bool}
def awZ(P:Program)(fs:Array Field)(k:Nat):Bool:=
 fs.size==k&&(List.range k).all fun i=>match fs[i]? with
  |some f=>f.offset==i&&(match P.underlying f.type with|some (.int .i64)=>ay|_=>aA)&&P.cellsOf f.type==1
  |none=>aA
def rowB(P:Program)(e k:Nat):Bool:=
 match P.underlying e with
 |some (.int .i64)=>k==1&&P.cellsOf e==1 |some (.struct fs)=>awZ P fs k&&P.cellsOf e==k |_=>aA
def int64(n:Int):Prop:=(Lit.int .i64 n).wf=ay
theorem amL{e k fuel:Nat}{cs:List Value}{x:DataW H×List MemPlace}(hr:rowB P e k=ay)(h:zB enc P w base spare held fuel e cs=aj x):
  ∃ns:List Int,ns.length=k/\cs=ns.map (iW .i64)/\∀n∈ns,int64 n:=by
 unfold rowB at hr;split at hr
 ·rename_i hu
  simp only[aB,ϡ] at hr;obtain ⟨n,rfl,_,hw⟩:=nZ hu h;exact ⟨[n],hr.1.symm,rfl,fun m hm=>by simp at hm;subst hm;exact hw⟩
 ·rename_i fs hu
  simp only[aB,ϡ] at hr;obtain ⟨hf,hc⟩:=hr;unfold awZ at hf;simp only[aB,ϡ] at hf;obtain ⟨hk,hf⟩:=hf;obtain ⟨xs,m,_,_,hlen,hxs,hel⟩:=sS hu h;rw[hc] at hlen;have cell:∀i,i<k->∃n,cs[i]?=aj (.int .i64 n)/\int64 n:=fun i hi=>by
   have q:=dh.1 hf i (eF.2 hi);split at q
   ·rename_i f hfi
    simp only[aB,ϡ] at q;obtain ⟨⟨ho,ht⟩,h1⟩:=q;have ht:P.underlying f.type=aj (.int .i64):=by
     grind
    have q2:=hel i f hfi;rw[ho,h1] at q2;have hxi:i<xs.length:=by omega
    rw[aV hxi] at q2;obtain ⟨n,e1,_,e3⟩:=nZ ht q2;refine ⟨n,?_,e3⟩;have:(vS 1 (vU i cs))[0]?=aj (.int .i64 n):=by rw[e1];rfl
    grind
   ·cases q
  clear hel h hf;have:∀(j:Nat) (l:List Value),l.length=j->(∀i,i<j->∃n,l[i]?=aj (.int .i64 n)/\int64 n)->∃ns:List Int,ns.length=j/\l=ns.map (iW .i64)/\∀n∈ns,int64 n:=by
   intro j;induction j with
   |zero=>simp |succ j ih=>
    intro l hl hc;match l,hl with
    |v::l,hl=>
     obtain ⟨ns,h1,h2,h3⟩:=ih l (by grind) fun i hi=>by grind
     obtain ⟨n,q1,q2⟩:=hc 0 (by omega);simp at q1;subst q1;exact ⟨n::ns,by simp[h1],by simp[h2],fun m hm=>by
      grind⟩
  simp_all
 ·cases hr
def IG(ns:List Int):List Sh:=ns.map (aQ .i64)
theorem aoR{w:World}{base:Nat}{a:Addr}{n:Nat}{cs:List Value}(h:w.cells? base a n=aj cs):cs.length=n/\∀j,j<n->w.cell? (a.add j)=cs[j]?:=by
 unfold World.cells? at h;split at h
 ·have:∀(l:List Nat) (cs:List Value),l.mapM (fun i=>w.cell? (a.add i))=aj cs->cs.length=l.length/\∀(j:Nat) (i:Nat),l[j]?=aj i->w.cell? (a.add i)=cs[j]?:=by
   intro l;induction l with
   |nil=>simp |cons x l ih=>
    intro cs h;rw[List.mapM_cons] at h;simp only[Option.bind_eq_bind,Option.bind_eq_some_iff,Option.pure_def] at h;grind
  obtain ⟨e1,e2⟩:=this _ _ h;grind
 ·cases h
theorem aw0(a:Addr)(n:Nat):(a.add n).off=a.off+n/\(a.add n).block=a.block:=by
 grind [lJ]
theorem add_add'(a:Addr)(i j:Nat):(a.add i).add j=a.add (i+j):=by
 grind [lJ,rC]
theorem afM{t e k fuel:Nat}{cs:List Value}{x:DataW H×List MemPlace}(ht:P.underlying t=aj (.slice e))(hr:rowB P e k=ay)(hk:P.cellsOf e=k)(h0:0<k)
  (h:zB enc P w base spare held fuel t cs=aj x) :
  ∃v n g,cs=[v]/\Rep (EW w) (.sl k n g) v/\∀i,i<n->∃ns:List Int,ns.length=k/\g i=IG ns/\∀n∈ns,int64 n:=by
 rcases open_slice ht h with ⟨rfl,_⟩ |⟨a,len,cap,m,n,D,Pl,rfl,hb,hl,hcap,hm,_,hel⟩
 ·exact ⟨_,0,fun _=>[],rfl,.sl0 _ _ _ _ (fH _),fun i hi=>by omega⟩
 have hlm:len<=m:=by grind
 rw[hk] at hel;have row:∀i,i<len->∃ns:List Int,ns.length=k/\w.cells? base (a.add (i*k)) k=aj (ns.map (iW .i64))/\∀n∈ns,int64 n:=fun i hi=>by
  obtain ⟨cs',h1,h2⟩:=hel i (by omega);grind [amL]
 by_cases hz:len=0
 ·subst hz
  exact ⟨_,0,fun _=>[],rfl,.sl0 _ _ _ _ hcap,fun i hi=>by omega⟩
 let N:Nat->List Int:=fun i=>if h:i<len then (row i h).choose else []
 have hN:∀i,i<len->(N i).length=k/\w.cells? base (a.add (i*k)) k=aj ((N i).map (iW .i64))/\∀n∈N i,int64 n:=fun i hi=>by
  grind
 have cell:∀i j,i<len->j<k->w.cell? (a.add (i*k+j))=((N i).map (iW .i64))[j]?:=fun i j hi hj=>by
  grind [aoR,add_add']
 have hspot:a.spot=aF:=by
  have h1:=cell 0 0 (by omega) h0;have:∃v,w.cell? a=aj v:=by
   grind [lJ]
  obtain ⟨v,hv⟩:=this;exact (ZN hv).2
 obtain ⟨blk,off,spot⟩:=a;simp only at hspot;subst hspot;refine ⟨_,len,fun i=>IG (N i),rfl,.sl _ _ _ blk off cap (fun i j=>((N i).map (iW .i64)).getD j .nilFunc) hl hcap (fun i hi=>by simp_all [IG]) (fun i j hi hj=>?_) (fun i j hi hj=>?_) (fun i j s hi e=>?_),fun i hi=>⟨N i,(hN i hi).1,rfl,(hN i hi).2.2⟩⟩
 ·grind [aV,ZN,aw0,rC]
 ·have hlt:j<(N i).length:=by simp_all
  simp[bI,hlt];rfl
 ·simp only[IG,iU,bH] at e
  obtain ⟨n,h3,rfl⟩:=e;simp[bI,h3];exact .i _ _
def aw1(P:Program)(t:Nat)(k0 k1:Nat):Bool:=
 match P.underlying t with
 |some (.struct fs)=>fs.size==2&&P.cellsOf t==2&&(match fs[0]?,fs[1]? with
  |some f0,aj f1=>f0.offset==0&&f1.offset==1&&P.cellsOf f0.type==1&&P.cellsOf f1.type==1&&(match P.underlying f0.type,P.underlying f1.type with
   |some (.slice e0),aj (.slice e1)=>rowB P e0 k0&&P.cellsOf e0==k0&&rowB P e1 k1&&P.cellsOf e1==k1 |_,_=>aA)
  |_,_=>aA)
 |_=>aA
theorem asg{t k0 k1:Nat}{v:Value}{d:DataW H}{ps:List MemPlace}(hp:aw1 P t k0 k1=ay)(h00:0<k0)(h01:0<k1){b0:Nat}(hval:mQ P w .any b0 t v)(hd:DataW.Trod enc P w base spare held t v d ps):
  ∃n0 g0 n1 g1,Rep (EW w) (.agg [.sl k0 n0 g0,.sl k1 n1 g1]) v/\(∀i,i<n0->∃ns:List Int,ns.length=k0/\g0 i=IG ns/\∀n∈ns,int64 n)/\∀i,i<n1->∃ns:List Int,ns.length=k1/\g1 i=IG ns/\∀n∈ns,int64 n:=by
 unfold aw1 at hp;split at hp
 ·rename_i fs hu
  unfold mQ at hval;rw[hu] at hval;obtain ⟨cs,rfl,hsz,_⟩:=hval;simp only[aB,ϡ] at hp;obtain ⟨⟨h2,hc⟩,hp⟩:=hp;split at hp
  ·rename_i f0 f1 hf0 hf1
   simp only[aB,ϡ] at hp;obtain ⟨⟨⟨⟨o0,o1⟩,c0⟩,c1⟩,hp⟩:=hp;split at hp
   ·rename_i e0 e1 hs0 hs1
    simp only[aB,ϡ] at hp;obtain ⟨⟨⟨r0,q0⟩,r1⟩,q1⟩:=hp;obtain ⟨fuel,hd⟩:=hd;obtain ⟨xs,m,_,_,hlen,hxs,hel⟩:=sS hu hd;have a0:=hel 0 f0 hf0;have a1:=hel 1 f1 hf1;rw[o0,c0,aV (by omega)] at a0;rw[o1,c1,aV (by omega)] at a1;obtain ⟨v0,n0,g0,x0,y0,z0⟩:=afM hs0 r0 q0 h00 a0;obtain ⟨v1,n1,g1,x1,y1,z1⟩:=afM hs1 r1 q1 h01 a1;rw[hc] at hsz;obtain ⟨l⟩:=cs;match l,hsz with
    |[u0,u1],_=>
     simp[Value.cells] at x0 x1;subst x0 x1;refine ⟨n0,g0,n1,g1,.agg _ _ rfl fun j s v e1 e2=>?_,z0,z1⟩;grind
   ·cases hp
  ·cases hp
 ·cases hp
end
open Go.RowKit Go.ChangeShapes Go.WideShapes Go.Deep
theorem WJ{P:Program}{W:World}{n:String}{g:Nat}{cs:Array Value}(hg:P.globalNamed n=aj g)(h:W.var? P n=aj cs):∃e f,W.heap[g]?=aj (.cells cs e f):=by
 grind [World.var?]
theorem aw2{P:Program}{n nm:String}{text:List UInt8}{r:List (String×DataW Unit)}{W:World}{g:Nat}{ti tp te ts:TypeId}{ms:Array (String×TypeId)}{f:Field}
  (h:laidMet P ((n,.iface nm (.ptr (.agg [.lit (.string text)])))::r) W)
  (hg:P.globalNamed n=aj g) (ht:(P.globals[g]?).map (·.type)=aj ti) (hi:P.underlying ti=aj (.interface ms)) (hrow:∀u,P.typeName? 3 u=aj nm->u=tp)
  (hp:P.underlying tp=aj (.pointer te)) (he:P.underlying te=aj (.struct #[f])) (hft:f.type=ts) (hfo:f.offset=0) (hs:P.underlying ts=aj .string) (hc:P.cellsOf te=1) (hcs:P.cellsOf ts=1) :
  GI (EW W) g (.er g tp):=by
 obtain ⟨ps,⟨g0,t0,cs0,f0,p0,q0,hg0,ht0,hv0,hd0,_,e0⟩,_,hrows⟩:=h;obtain rfl:=bP (hg.symm.trans hg0);obtain rfl:=bP (ht.symm.trans ht0);subst e0;obtain ⟨l0⟩:=cs0;have ok0:∀u v,l0=[.iface u v]->mQ P W .any 0 u v:=fun u v e=>by
  subst e;exact (hrows g 0 (by simp[uz])).2 u v (by simpa using World.var?_cell hg0 hv0 0)
 obtain ⟨a0,s0,rfl,hc0,hs0,hz0,rfl⟩:=errorString_of_trod hi hrow hp he hft hfo hs hc hcs hd0 ok0;obtain ⟨c0,t0,hb0⟩:=(hrows a0.block a0.off (by simp[uz])).1;obtain ⟨e,f,hh⟩:=WJ hg hv0;have h1:hcell (EW W) g 0=aj (.iface tp (.pointer (aj a0))):=by
  simp_all [hcell,EW]
 exact ⟨_,h1,.er g tp a0 c0 t0 h1 hb0,rfl⟩
theorem aoS{P:Program}{n:String}{texts:List (List UInt8)}{r:List (String×DataW Unit)}{W:World}{g:Nat}{t e:TypeId}{k:Nat}
  (h:laidMet P ((n,.agg (texts.map fun s=>.lit (.string s)))::r) W)
  (hg:P.globalNamed n=aj g) (ht:(P.globals[g]?).map (·.type)=aj t) (hu:P.underlying t=aj (.array k e)) (he:P.underlying e=aj .string) (hce:P.cellsOf e=1) (hct:P.cellsOf t=texts.length) :
  GI (EW W) g (.Az (texts.map Sh.str)):=by
 obtain ⟨ps,⟨g0,t0,cs0,f0,p0,q0,hg0,ht0,hv0,hd0,_,e0⟩,_,hrows⟩:=h;obtain rfl:=bP (hg.symm.trans hg0);obtain rfl:=bP (ht.symm.trans ht0);obtain ⟨e1,f1,hh⟩:=WJ hg hv0;obtain ⟨xs,m,_,hx,hlen,hxs,hel⟩:=uD hu hd0;have hxs':xs.map (·.1)=texts.map fun s=>.lit (.string s):=by
  simp_all
 have hkt:k=texts.length:=by
  have:=congrArg uw hxs';grind
 subst hkt;have cell:∀j (hj:j<texts.length),cs0[j]?=aj (.string ⟨texts[j].toArray⟩):=fun j hj=>by
  have q:=hel j hj;rw[hce,zJ] at q;have hxj:j<xs.length:=by omega
  rw[aV hxj] at q;obtain ⟨s,q1,q2,_⟩:=DataW.trod_string he q;have q3:(xs.map (·.1))[j]?=aj (.lit (.string texts[j])):=by simp_all
  have q4:(xs[j]).1=.lit (.string texts[j]):=by
   grind
  rw[q2] at q4;simp at q4;have q5:(vS 1 (vU j cs0.toList))[0]?=aj (.string s):=by rw[q1];rfl
  have q6:cs0[j]?=aj (.string s):=by grind
  rw[q6];obtain ⟨⟨l⟩⟩:=s;simp_all
 refine ⟨⟨cs0,e1,f1,hh,by simp_all⟩,fun j=>.string ⟨(texts.getD j []).toArray⟩,fun j hj=>?_,fun j s hs=>?_⟩
 ·have hj':j<texts.length:=by grind
  refine ⟨?_,rfl⟩;simp_all [hcell,EW,bI,sU]
 ·rw[iU,bH] at hs
  obtain ⟨l,h1,rfl⟩:=hs;show Rep (EW W) (.str l) (.string ⟨(texts.getD j []).toArray⟩);rw[bI,h1];exact .str l
theorem aoT{P:Program}{n:String}{kd:IntKind}{texts:List Int}{r:List (String×DataW Unit)}{W:World}{g:Nat}{t e:TypeId}{k:Nat}
  (h:laidMet P ((n,.agg (texts.map fun s=>.lit (.int kd s)))::r) W)
  (hg:P.globalNamed n=aj g) (ht:(P.globals[g]?).map (·.type)=aj t) (hu:P.underlying t=aj (.array k e)) (he:P.underlying e=aj (.int kd)) (hce:P.cellsOf e=1) (hct:P.cellsOf t=texts.length) :
  GI (EW W) g (.Az (texts.map (aQ kd))):=by
 obtain ⟨ps,⟨g0,t0,cs0,f0,p0,q0,hg0,ht0,hv0,hd0,_,e0⟩,_,hrows⟩:=h;obtain rfl:=bP (hg.symm.trans hg0);obtain rfl:=bP (ht.symm.trans ht0);obtain ⟨e1,f1,hh⟩:=WJ hg hv0;obtain ⟨xs,m,_,hx,hlen,hxs,hel⟩:=uD hu hd0;have hxs':xs.map (·.1)=texts.map fun s=>.lit (.int kd s):=by
  simp_all
 have hkt:k=texts.length:=by
  have:=congrArg uw hxs';grind
 subst hkt;have cell:∀j (hj:j<texts.length),cs0[j]?=aj (.int kd texts[j]):=fun j hj=>by
  have q:=hel j hj;rw[hce,zJ] at q;have hxj:j<xs.length:=by omega
  rw[aV hxj] at q;obtain ⟨s,q1,q2,_⟩:=nZ he q;have q3:(xs.map (·.1))[j]?=aj (.lit (.int kd texts[j])):=by simp_all
  have q4:(xs[j]).1=.lit (.int kd texts[j]):=by
   grind
  rw[q2] at q4;simp at q4;have q5:(vS 1 (vU j cs0.toList))[0]?=aj (.int kd s):=by rw[q1];rfl
  grind
 refine ⟨⟨cs0,e1,f1,hh,by simp_all⟩,fun j=>.int kd (texts.getD j 0),fun j hj=>?_,fun j s hs=>?_⟩
 ·have hj':j<texts.length:=by grind
  refine ⟨?_,rfl⟩;simp_all [hcell,EW,bI,sU]
 ·rw[iU,bH] at hs
  obtain ⟨l,h1,rfl⟩:=hs;show Rep (EW W) (.i kd l) (.int kd (texts.getD j 0));rw[bI,h1];exact .i kd l
end Go.Sx
