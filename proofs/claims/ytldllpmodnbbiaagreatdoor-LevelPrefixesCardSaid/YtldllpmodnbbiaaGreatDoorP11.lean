/- Own work. -/
import Derived.Test.YtldllpmodnbbiaaGreatDoorP10
open Int (ofNat)
open And renaming intro->eU
open Bool renaming false->aA,true->ay,and_eq_true->aB
open Classical renaming propDecidable->aI
open Go.IntKind renaming i64->bD
open Go.BI renaming Am->aS,nth->bJ,PZ->pO,VB->rP,TR->sJ,Cb->eY
open Go.BI.Au renaming nil->iw,feed->kU
open Go.BI.Rc renaming step->fD
open Go.BI.Row renaming J4->je,put->iP
open Go.Proofs renaming akR->Ag,E5->rU
open Go.Proofs.C7 renaming OG->ig
open Go.Proofs.Tryz renaming prog->ak,f118->vK,f51->wV,f55->yT,f54->nK,f40->nM
open Go.Sx.BL renaming int->aC,nat->aZ,get->bY
open Go.Sx.C9 renaming ret->aN,at_->bU
open Go.Sx.It renaming code->aK,inBlock->aX,reg->nU
open Go.Sx.SB renaming box->jZ,fm->nJ
open Go.Sx.SV renaming Eo->gV,sh->eG,agg->jW,ptr->jY,Bg->kE,mp->rO
open Go.Sx.Sh renaming i->aQ,Az->bF,agg->bG,sl->aG,os->fF
open Int renaming ofNat->ah,toNat_natCast->dA
open List renaming append_assoc->iI,all_eq_true->dh,mem_range->eF,getD_eq_getElem?_getD->bI,mem_of_getElem?->bK,getElem?_eq_some_iff->bf,mem_iff_getElem?->dw,mem_append->bQ,length_pos_iff->rQ,getElem?_append_left->gY
open Nat renaming sub_self->gK,zero_add->fU,blt->fC,le_trans->fE
open Option renaming some->aj,none->aF
open Option.some renaming inj->bP
noncomputable section
namespace Go.Rg
open Go Go.Sx Go.Pl Go.Proofs
def aeN:ϕ
 |109=>aj (F1I Fp) |117=>aj (F1B keyed) |116=>aj (F1B valued) |_=>aF
def aaO:List It:=[aK [0,0,1,1],aX 0,aK [1,1,1]]
def aA0:List It:=aK [0,0,0,1,1]::aaO
def aeO(x y:Int)(l r:List Int)(key i:Int):Core:={tm:=DF 38 [(1,.sym .i64 key),(2,.ptr 0 0),(6,.sym .i64 i)],hp:=[(0,.box [.sym .i64 x,.sym .i64 y,.sh (.sl 1 (len l) (Am (nth l))),.sh (.sl 1 (len r) (Am (nth r)))] 122)],nx:=1,lim:=L0,tc:=[]}
def an4(c:Int):ϵ
 |[.agg [.i .i64 x,.i .i64 y,s2,s3],t,u,w]=>match Dj 1 s2,Dj 1 s3,Bd t,Bd u,Bd w with
  |some (a,g),aj (b,h),aj op,aj k,aj v=>.need (okB Int a g) (.need (okB Int b h) (.need (isC x y op k v c) (.leaf (.v (.int .i64 c))))) |_,_,_,_,_=>.fail
 |_=>.fail
def an5(l:List Int):ϵ
 |[.agg [.i .i64 _,.i .i64 _,s2,s3],t]=>match Dj 1 s2,Dj 1 s3,Bd t with
  |some (a,g),aj (b,h),aj k=>.need (isL l a g) (.need (okB Int b h) (.leaf (.Az [.i .i64 (ah (Bo l k)),.b (hasK l k)]))) |_,_,_=>.fail
 |_=>.fail
def an6:ϵ
 |[.sl 1 n g]=>.need (Ko n g) (.leaf (.os 3 1 n (F9 g))) |_=>.fail
def FK(c:Int)(l:List Int):ϕ
 |91=>aj (an4 c) |118=>aj (an5 l) |92=>aj an6 |_=>aF
def Oi(x y:Int)(l r:List Int):Sh:=.agg [.i .i64 x,.i .i64 y,.sl 1 (len l) (Am (nth l)),.sl 1 (len r) (Am (nth r))]
def arT(y op v:Int):Int:=bif op==3 then bif decide (KN y v < -1000000000000000) then 110 else bif decide (1000000000000000<KN y v) then 110 else 0 else 0
def arV(y op v:Int):Int:=bif decide (v < -1000000000) then 110 else bif decide (1000000000<v) then 110 else arT y op v
def arW(y op v:Int):Int:=bif !(valued op) then bif !(v==0) then 110 else arV y op v else arV y op v
def arK(y op k v:Int):Int:=bif decide (k<0) then 110 else bif decide (1000<k) then 110 else arW y op v
def arM(x y op k v:Int):Int:=bif x==0 then 111 else bif !(Fp op==x) then 111 else bif !(keyed op) then bif !(k==0) then 110 else arK y op k v else arK y op k v
theorem aA3(x y op k v:Int):arM x y op k v=Fv x y op k v:=by
 unfold arM Fv;by_cases h0:x=0
 ·simp[h0]
 by_cases h1:Fp op=x
 ·have e0:(x==0)=aA:=by grind
  rw[if_neg (by simp[h0,h1]),e0];simp only[h1,beq_self_eq_true,Bool.not_true,ϗ];have eT:arT y op v=if op=3/\(KN y v < -1000000000000000\/1000000000000000<KN y v) then 110 else 0:=by
   unfold arT;grind
  have eV:arV y op v=if v < -1000000000\/1000000000<v then 110 else arT y op v:=by
   unfold arV;grind
  have eW:arW y op v=if (valued op=aA/\v≠0) then 110 else arV y op v:=by
   unfold arW;grind
  grind [arK,arW]
 grind
def avm:ϵ
 |[.agg [.i .i64 x,.i .i64 y,s2,s3],t,u,w]=>match Dj 1 s2,Dj 1 s3,Bd t,Bd u,Bd w with
  |some (a,g),aj (b,h),aj op,aj k,aj v=>.need (okB Int a g) (.need (okB Int b h) (.leaf (.i .i64 (Fv x y op k v)))) |_,_,_,_,_=>.fail
 |_=>.fail
theorem ax6(stop:Nat->List Nat->Bool):BJ ak (C7 Ak W7 aeN stop):=ig (fun g F h=>by
 unfold aeN at h;grind [auz,aCY,aAE]) fun g h=>by
 unfold aeN at h;split at h;all_goals first|(cases h;done) |kernel_rfl
theorem aeP{H:Mem}{x y:Int}{s2 s3:Sh}{a b:Nat}{g h:ϝ}{v:Value}(h2:Dj 1 s2=aj (a,g))(h3:Dj 1 s3=aj (b,h))(ha:okB Int a g=ay)(hb:okB Int b h=ay)(r:Rep H (.agg [.i .i64 x,.i .i64 y,s2,s3]) v):
  Rep H (Oi x y (lst Int a g) (lst Int b h)) v:=
 HY r (fun _ hu=>IQ (Bz h2 hu) ha) (fun _ hu=>IQ (Bz h3 hu) hb)
theorem aDu:AO ak (AZ W7) 91 avm:=by
 refine CV (ax6 Aw) 300 400 L0 Tryz.f91 fun H w Bl args φ hrep h=>?_
 have hn:Tryz.f91.ntmps=67:=by kernel_rfl
 unfold avm at h;split at h
 ·rename_i x y s2 s3 t u ww
  split at h
  ·rename_i a g b hh op k v h2 h3 ht hu hw
   obtain ⟨ha,hb,hφ⟩:=h;have hφ:φ (.i .i64 (Fv x y op k v)):=hφ;match args,hrep with
   |[v1,v2,v3,v4],⟨r1,r2,r3,r4,_⟩=>
    refine ⟨[Oi x y (lst Int a g) (lst Int b hh),.i .i64 op,.i .i64 k,.i .i64 v],⟨aeP h2 h3 ha hb r1,Js ht r2,Js hu r3,Js hw r4,ϖ⟩,?_⟩;have key:∀c:Int,c=Fv x y op k v->up φ (.i .i64 c):=fun c e=>AY (s':=.i .i64 (Fv x y op k v)) (by rw[e];exact rfl) hφ;rw[hn,<-Dh];exact auv (arM x y op k v) (key _ (aA3 x y op k v))
  ·exact h.elim
 ·exact h.elim
theorem aA4(c:Int):AO ak (AZ W7) 91 (an4 c):=aaL aDu fun Bl φ h=>by
 unfold an4 at h;split at h
 ·split at h
  ·rename_i e1 e2 e3 e4 e5
   obtain ⟨ha,hb,hc,hφ⟩:=h;refine ⟨.i64,c,hφ,?_⟩;unfold avm;simp only[e1,e2,e3,e4,e5];refine ⟨ha,hb,?_⟩;show aQ .i64 _=_;rw[ϑ hc]
  ·exact h.elim
 ·exact h.elim
theorem aA5:AO ak (AZ W7) 92 an6:=by
 intro H w Bl args φ hon hg hr hφ;refine O13 H w Bl args φ hon hg hr ?_;unfold an6 at hφ;unfold F13;split at hφ
 ·obtain ⟨h1,h2⟩:=hφ
  have h1:(_&&_)=ay:=h1;rw[aB] at h1;exact ⟨h1.1,h1.2,h2⟩
 simp_all
section
variable{H0:Mem}{w0:World}{φ:Sh->Prop}
theorem alL{x y key:Int}{l r:List Int}(hl:l.length<=1000000000)(hφ:φ (.Az [.i .i64 (ah (Bo l key)),.b (hasK l key)])):
  ∀m k,k+m=l.length->(∀j,j<k->nth l j<key)->AB ak (C7 Ak W7 noSpec Aw) (K0 H0 w0) 118 aaO (aeO x y l r key (k:Nat)) [] emp φ
 |m,k,hk,hE=>by
  refine D6 vK aA0 ?_;refine BZ (Ej _) 300 400 [⟨118,aaO,aeO x y l r key (Ak.add .i64 (k:Int) 1),[]⟩] ?_;have fin (hp:Bo l key=k) (b:Bool) (hb:hasK l key=b):φ (.Az [.i .i64 (k:Int),.b b]):=by
   simp_all
  have inb (h:Ak.lt (k:Int) (Ak.AV (len l))=ay):k<l.length:=by grind [Ar,AL,len]
  have out (h:Ak.lt (k:Int) (Ak.AV (len l))=aA):k=l.length:=by grind [Ar,AL,len]
  have e1:Ak.add .i64 (k:Int) 1=((k+1:Nat):Int):=by
   show bD.wrap ((k:Int)+1)=_;grind [CU]
  refine D9 (nd (Ak.lt (k:Int) (Ak.AV (len l))) (fun h=>an (by simp[AX,len,inb h]:Ak.inB (k:Int) (len l)=ay) (nd (Ak.lt (nth l k) key) (fun h'=>(?_:AB ak (C7 Ak W7 noSpec Aw) (K0 H0 w0) 118 aaO (aeO x y l r key (Ak.add .i64 (k:Int) 1)) [] emp φ))
   (fun h'=>nd (Ak.lt (k:Int) (Ak.AV (len l))) (fun _=>an (by simp[AX,len,inb h]:Ak.inB (k:Int) (len l)=ay) (?_:φ (.Az [.i .i64 (k:Int),.b (Ak.eq (nth l k) key)]))) (fun h2=>(?_:φ (.Az [.i .i64 (k:Int),.b aA]))))))
   (fun h=>nd (Ak.lt (k:Int) (Ak.AV (len l))) (fun h2=>an (by simp_all:Ak.inB (k:Int) (len l)=ay) (?_:φ (.Az [.i .i64 (k:Int),.b (Ak.eq (nth l k) key)]))) (fun _=>(?_:φ (.Az [.i .i64 (k:Int),.b aA])))))
  ·rw[show Ak.add .i64 (k:Int) 1=((k+1:Nat):Int) from e1]
   have:=inb h;match m,hk with
   |0,hk=>omega |m+1,hk=>
    refine alL hl hφ m (k+1) (by omega) fun j hj=>?_
    grind [Ar]
  ·have h:=inb h
   have h':¬nth l k<key:=by grind [Ar]
   have hp:=aeF (by omega) hE fun _=>h'
   simp_all [hasK,AQ]
  ·simp_all
  ·simp_all
  ·have h:=out h
   have hp:=aeF (l:=l) (key:=key) (i:=k) (by omega) hE (by omega);simp_all [hasK]
end
theorem aDv(l:List Int):AO ak (AZ W7) 118 (an5 l):=by
 refine JA (C7 Ak W7 noSpec Aw) vK fun H w Bl args φ hrep h=>?_
 have hn:vK.ntmps=38:=by kernel_rfl
 unfold an5 at h;split at h
 ·rename_i x y s2 s3 t
  split at h
  ·rename_i a g b hh k h2 h3 ht
   obtain ⟨ha,hb,hφ⟩:=h;have ha:(_&&_)=ay:=ha;rw[aB] at ha;obtain ⟨ha,hl⟩:=ha;obtain ⟨hl,hlen⟩:=ϑ hl;match args,hrep with
   |[v1,v2],⟨r1,r2,_⟩=>
    have hrs:=aeP h2 h3 ha hb r1;rw[hl] at hrs;refine ⟨[Oi x y l (lst Int b hh),.i .i64 k],⟨hrs,Js ht r2,ϖ⟩,L0,?_⟩;refine BZ (Ej _) 300 400 [⟨118,aaO,aeO x y l (lst Int b hh) k 0,[]⟩] ?_;rw[hn];exact D9 (alL hlen hφ l.length 0 (by omega) fun j hj=>by omega:AB ak (C7 Ak W7 noSpec Aw) (K0 H w) 118 aaO (aeO x y l (lst Int b hh) k 0) [] emp φ)
  ·exact h.elim
 ·exact h.elim
open Go Go.Sx Go.Pl Go.Proofs
theorem af9(A:Prim)(W:Wd)(x y op k v:Int)(l r:List Int){ψ:C9->Prop}(h1:(okB Int (len l) (Am (nth l)))=ay)(h2:(okB Int (len r) (Am (nth r)))=ay)(h3:(isC x y op k v (ah 110))=ay)(y1:ψ (aN (bF [bG [aQ .i64 (ah 0),aQ .i64 (ah 0),aG 0 0 fun (_x:Nat)=>[],aG 0 0 fun (_x:Nat)=>[]],aQ .i64 (ah 0),aQ .i64 (ah 0),aQ .i64 (ah 110)]))):CB ψ (BD (C7 A W (FK 110 l) Aw) Dy 300 400 73 [.code []] (BH 92 [Oi x y l r,.i .i64 op,.i .i64 k,.i .i64 v] L0) [] []):=by
 exact JH (an h1 (an h2 (an h3 y1)))
theorem aga(A:Prim)(W:Wd)(x y op k v:Int)(l r:List Int){ψ:C9->Prop}(h1:(okB Int (len l) (Am (nth l)))=ay)(h2:(okB Int (len r) (Am (nth r)))=ay)(h3:(isC x y op k v (ah 111))=ay)(y1:ψ (aN (bF [bG [aQ .i64 (ah 0),aQ .i64 (ah 0),aG 0 0 fun (_x:Nat)=>[],aG 0 0 fun (_x:Nat)=>[]],aQ .i64 (ah 0),aQ .i64 (ah 0),aQ .i64 (ah 111)]))):CB ψ (BD (C7 A W (FK 111 l) Aw) Dy 300 400 73 [.code []] (BH 92 [Oi x y l r,.i .i64 op,.i .i64 k,.i .i64 v] L0) [] []):=by
 exact JH (an h1 (an h2 (an h3 y1)))
theorem alM(A:Prim)(W:Wd)(x y k v:Int)(l r:List Int){ψ:C9->Prop}(h1:(okB Int (len l) (Am (nth l)))=ay)(h2:(okB Int (len r) (Am (nth r)))=ay)(h3:(isC x y (ah 1) k v (ah 0))=ay)(h4:(Ko (len l) (Am (nth l)))=ay)(h5:(Ko (len r) (Am (nth r)))=ay)(y1:ψ (aN (bF [bG [aQ .i64 x,aQ .i64 y,fF 3 1 (len l) (F9 (Am (nth l))),fF 3 1 (len r) (F9 (Am (nth r)))],aQ .i64 (ah 3),aQ .i64 y,aQ .i64 (ah 0)]))):CB ψ (BD (C7 A W (FK 0 l) Aw) Dy 300 400 73 [.code []] (BH 92 [Oi x y l r,.v (.int .i64 1),.i .i64 k,.i .i64 v] L0) [] []):=by
 exact Ld (an h1 (an h2 (an h3 (an h4 (an h5 (an h5 (an h4 (an h5 y1))))))))
theorem alN(A:Prim)(W:Wd)(x y k v:Int)(l r:List Int){ψ:C9->Prop}(h1:(okB Int (len l) (Am (nth l)))=ay)(h2:(okB Int (len r) (Am (nth r)))=ay)(h3:(isC x y (ah 2) k v (ah 0))=ay)(h4:(Ko (len l) (Am (nth l)))=ay)(h5:(Ko (len r) (Am (nth r)))=ay)(y1:ψ (aN (bF [bG [aQ .i64 x,aQ .i64 v,fF 3 1 (len l) (F9 (Am (nth l))),fF 3 1 (len r) (F9 (Am (nth r)))],aQ .i64 (ah 1),aQ .i64 (ah 0),aQ .i64 (ah 0)]))):CB ψ (BD (C7 A W (FK 0 l) Aw) Dy 300 400 73 [.code []] (BH 92 [Oi x y l r,.v (.int .i64 2),.i .i64 k,.i .i64 v] L0) [] []):=by
 exact Ld (an h1 (an h2 (an h3 (an h4 (an h5 (an h5 (an h4 (an h5 y1))))))))
theorem alO(A:Prim)(W:Wd)(x y k v:Int)(l r:List Int){ψ:C9->Prop}(h1:(okB Int (len l) (Am (nth l)))=ay)(h2:(okB Int (len r) (Am (nth r)))=ay)(h3:(isC x y (ah 3) k v (ah 0))=ay)(h4:(Ko (len l) (Am (nth l)))=ay)(h5:(Ko (len r) (Am (nth r)))=ay)(y1:ψ (aN (bF [bG [aQ .i64 x,aQ .i64 (A.add .i64 y v),fF 3 1 (len l) (F9 (Am (nth l))),fF 3 1 (len r) (F9 (Am (nth r)))],aQ .i64 (ah 1),aQ .i64 (ah 0),aQ .i64 (ah 0)]))):CB ψ (BD (C7 A W (FK 0 l) Aw) Dy 300 400 73 [.code []] (BH 92 [Oi x y l r,.v (.int .i64 3),.i .i64 k,.i .i64 v] L0) [] []):=by
 exact Ld (an h1 (an h2 (an h3 (an h4 (an h5 (an h5 (an h4 (an h5 y1))))))))
theorem alP(A:Prim)(W:Wd)(x y k v:Int)(l r:List Int){ψ:C9->Prop}(h1:(okB Int (len l) (Am (nth l)))=ay)(h2:(okB Int (len r) (Am (nth r)))=ay)(h3:(isC x y (ah 4) k v (ah 0))=ay)(h4:(Ko (len l) (Am (nth l)))=ay)(h5:(Ko (len r) (Am (nth r)))=ay)(y1:ψ (aN (bF [bG [aQ .i64 x,aQ .i64 y,fF 3 1 (len l) (F9 (Am (nth l))),fF 3 1 (len r) (F9 (Am (nth r)))],aQ .i64 (ah 3),aQ .i64 y,aQ .i64 (ah 0)]))):CB ψ (BD (C7 A W (FK 0 l) Aw) Dy 300 400 73 [.code []] (BH 92 [Oi x y l r,.v (.int .i64 4),.i .i64 k,.i .i64 v] L0) [] []):=by
 exact Ld (an h1 (an h2 (an h3 (an h4 (an h5 (an h5 (an h4 (an h5 y1))))))))
theorem alQ(A:Prim)(W:Wd)(x y k v:Int)(l r:List Int){ψ:C9->Prop}(h1:(okB Int (len l) (Am (nth l)))=ay)(h2:(okB Int (len r) (Am (nth r)))=ay)(h3:(isC x y (ah 5) k v (ah 0))=ay)(h4:(Ko (len l) (Am (nth l)))=ay)(h5:(Ko (len r) (Am (nth r)))=ay)(h6:(A.room (A.addN (len r) 1) 8)=ay)(y1:ψ (aN (bF [bG [aQ .i64 x,aQ .i64 y,fF 3 1 (len l) (F9 (Am (nth l))),fF 3 1 (A.addN (len r) 1) (A.snoc (F9 (Am (nth r))) (len r) (Bh [[aQ .i64 v]]))],aQ .i64 (ah 1),aQ .i64 (ah 0),aQ .i64 (ah 0)]))):CB ψ (BD (C7 A W (FK 0 l) Aw) Dy 300 400 73 [.code []] (BH 92 [Oi x y l r,.v (.int .i64 5),.i .i64 k,.i .i64 v] L0) [] []):=by
 exact Ld (an h1 (an h2 (an h3 (an h4 (an h5 (an h5 (an h4 (an h5 (an h6 y1)))))))))
theorem alR(A:Prim)(W:Wd)(x y k v:Int)(l r:List Int){ψ:C9->Prop}{c0:Bool}(e0:A.eq (A.AV (len r)) (ah 0)=c0)(h1:(okB Int (len l) (Am (nth l)))=ay)(h2:(okB Int (len r) (Am (nth r)))=ay)(h3:(isC x y (ah 6) k v (ah 0))=ay)(h4:(Ko (len l) (Am (nth l)))=ay)(h5:(Ko (len r) (Am (nth r)))=ay)(h6:c0=aA->(A.upTo (ah 1) (len r))=ay)(h7:c0=aA->(Ko (A.E5 (len r) 1) fun (j:Nat)=>Am (nth r) (A.addN (Int.toNat 1) j))=ay)(h8:c0=aA->(A.inB (ah 0) (len r))=ay)(y1:c0=ay->ψ (aN (bF [bG [aQ .i64 x,aQ .i64 y,fF 3 1 (len l) (F9 (Am (nth l))),fF 3 1 (len r) (F9 (Am (nth r)))],aQ .i64 (ah 2),aQ .i64 (ah 0),aQ .i64 (ah 0)])))(y2:c0=aA->ψ (aN (bF [bG [aQ .i64 x,aQ .i64 y,fF 3 1 (len l) (F9 (Am (nth l))),fF 3 1 (A.E5 (len r) 1) (F9 fun (j:Nat)=>Am (nth r) (A.addN (Int.toNat 1) j))],aQ .i64 (ah 3),aQ .i64 (nth r 0),aQ .i64 (ah 0)]))):CB ψ (BD (C7 A W (FK 0 l) Aw) Dy 300 400 73 [.code []] (BH 92 [Oi x y l r,.v (.int .i64 6),.i .i64 k,.i .i64 v] L0) [] []):=by
 subst e0;exact Ld (an h1 (an h2 (an h3 (an h4 (an h5 (an h5 (an h4 (an h5 (an y1 (fun q0=>an (h6 q0) (an (h7 q0) (an (h8 q0) (y2 q0)))))))))))))
theorem alS(A:Prim)(W:Wd)(x y k v:Int)(l r:List Int){ψ:C9->Prop}{c0:Bool}(e0:hasK l k=c0)(h1:(okB Int (len l) (Am (nth l)))=ay)(h2:(okB Int (len r) (Am (nth r)))=ay)(h3:(isC x y (ah 7) k v (ah 0))=ay)(h4:(Ko (len l) (Am (nth l)))=ay)(h5:(Ko (len r) (Am (nth r)))=ay)(h6:(isL l (len l) (Am (nth l)))=ay)(h7:c0=ay->(A.inB (ah (Bo l k)) (len r))=ay)(h8:c0=aA->(A.upTo (ah (Bo l k)) (len l))=ay)(h9:c0=aA->(Ko (A.toN (ah (Bo l k))) (Am (nth l)))=ay)(h10:c0=aA->(A.room (A.addN (A.toN (ah (Bo l k))) 1) 8)=ay)(h11:c0=aA->(Ko (A.E5 (len l) (A.toN (ah (Bo l k)))) fun (j:Nat)=>Am (nth l) (A.addN (A.toN (ah (Bo l k))) j))=ay)(h12:c0=aA->(A.room (A.addN (A.addN (A.toN (ah (Bo l k))) 1) (A.E5 (len l) (A.toN (ah (Bo l k))))) 8)=ay)(h13:c0=aA->(A.upTo (ah (Bo l k)) (len r))=ay)(XU:c0=aA->(Ko (A.toN (ah (Bo l k))) (Am (nth r)))=ay)(h15:c0=aA->(Ko (A.E5 (len r) (A.toN (ah (Bo l k)))) fun (j:Nat)=>Am (nth r) (A.addN (A.toN (ah (Bo l k))) j))=ay)(h16:c0=aA->(A.room (A.addN (A.addN (A.toN (ah (Bo l k))) 1) (A.E5 (len r) (A.toN (ah (Bo l k))))) 8)=ay)(y1:c0=ay->ψ (aN (bF [bG [aQ .i64 x,aQ .i64 y,fF 3 1 (len l) (F9 (Am (nth l))),fF 3 1 (len r) (A.upd (F9 (Am (nth r))) (A.toN (ah (Bo l k))) 0 [aQ .i64 v])],aQ .i64 (ah 1),aQ .i64 (ah 0),aQ .i64 (ah 0)])))(y2:c0=aA->ψ (aN (bF [bG [aQ .i64 x,aQ .i64 y,fF 3 1 (A.addN (A.addN (A.toN (ah (Bo l k))) 1) (A.E5 (len l) (A.toN (ah (Bo l k))))) (A.snoc (A.snoc (F9 (Am (nth l))) (A.toN (ah (Bo l k))) (Bh [[aQ .i64 k]])) (A.addN (A.toN (ah (Bo l k))) 1) (F9 fun (j:Nat)=>Am (nth l) (A.addN (A.toN (ah (Bo l k))) j))),fF 3 1 (A.addN (A.addN (A.toN (ah (Bo l k))) 1) (A.E5 (len r) (A.toN (ah (Bo l k))))) (A.snoc (A.snoc (F9 (Am (nth r))) (A.toN (ah (Bo l k))) (Bh [[aQ .i64 v]])) (A.addN (A.toN (ah (Bo l k))) 1) (F9 fun (j:Nat)=>Am (nth r) (A.addN (A.toN (ah (Bo l k))) j)))],aQ .i64 (ah 1),aQ .i64 (ah 0),aQ .i64 (ah 0)]))):CB ψ (BD (C7 A W (FK 0 l) Aw) Dy 300 400 73 [.code []] (BH 92 [Oi x y l r,.v (.int .i64 7),.i .i64 k,.i .i64 v] L0) [] []):=by
 subst e0;exact Ld (an h1 (an h2 (an h3 (an h4 (an h5 (an h5 (an h4 (an h5 (an h6 (an h2 (an (fun q0=>an (h7 q0) (y1 q0)) (fun q0=>an (h8 q0) (an (h9 q0) (an (h10 q0) (an (h8 q0) (an (h11 q0) (an (h12 q0) (an (h8 q0) (an (h10 q0) (an (h11 q0) (an (h12 q0) (an (h8 q0) (an (h10 q0) (an (h11 q0) (an (h12 q0) (an (h9 q0) (an (h10 q0) (an (h8 q0) (an (h11 q0) (an (h12 q0) (an (h8 q0) (an (h10 q0) (an (h11 q0) (an (h12 q0) (an (h8 q0) (an (h9 q0) (an (h10 q0) (an (h11 q0) (an (h12 q0) (an (h8 q0) (an (h9 q0) (an (h10 q0) (an (h11 q0) (an (h12 q0) (an (h9 q0) (an (h10 q0) (an (h11 q0) (an (h12 q0) (an (h8 q0) (an (h9 q0) (an (h10 q0) (an (h8 q0) (an (h11 q0) (an (h12 q0) (an (h8 q0) (an (h10 q0) (an (h11 q0) (an (h12 q0) (an (h8 q0) (an (h9 q0) (an (h10 q0) (an (h11 q0) (an (h12 q0) (an (h8 q0) (an (h8 q0) (an (h9 q0) (an (h10 q0) (an (h11 q0) (an (h12 q0) (an (h8 q0) (an (h8 q0) (an (h9 q0) (an (h10 q0) (an (h11 q0) (an (h12 q0) (an (h9 q0) (an (h10 q0) (an (h11 q0) (an (h12 q0) (an (h8 q0) (an (h9 q0) (an (h10 q0) (an (h11 q0) (an (h12 q0) (an (h13 q0) (an (XU q0) (an (h10 q0) (an (h13 q0) (an (h15 q0) (an (h16 q0) (an (h13 q0) (an (h10 q0) (an (h15 q0) (an (h16 q0) (an (h13 q0) (an (h10 q0) (an (h15 q0) (an (h16 q0) (an (XU q0) (an (h10 q0) (an (h13 q0) (an (h15 q0) (an (h16 q0) (an (h13 q0) (an (h10 q0) (an (h15 q0) (an (h16 q0) (an (h13 q0) (an (XU q0) (an (h10 q0) (an (h15 q0) (an (h16 q0) (an (h13 q0) (an (XU q0) (an (h10 q0) (an (h15 q0) (an (h16 q0) (an (XU q0) (an (h10 q0) (an (h15 q0) (an (h16 q0) (an (h13 q0) (an (XU q0) (an (h10 q0) (an (h13 q0) (an (h15 q0) (an (h16 q0) (an (h13 q0) (an (h10 q0) (an (h15 q0) (an (h16 q0) (an (h13 q0) (an (XU q0) (an (h10 q0) (an (h15 q0) (an (h16 q0) (an (h13 q0) (an (h13 q0) (an (XU q0) (an (h10 q0) (an (h15 q0) (an (h16 q0) (an (h13 q0) (an (h13 q0) (an (XU q0) (an (h10 q0) (an (h15 q0) (an (h16 q0) (an (XU q0) (an (h10 q0) (an (h15 q0) (an (h16 q0) (an (h13 q0) (an (XU q0) (an (h10 q0) (an (h15 q0) (an (h16 q0) (y2 q0))))))))))))))))))))))))))))))))))))))))))))))))))))))))))))))))))))))))))))))))))))))))))))))))))))))))))))))))))))))))))))))))))))))))))))))))))))))))))))))
theorem alT(A:Prim)(W:Wd)(x y k v:Int)(l r:List Int){ψ:C9->Prop}{c0:Bool}(e0:A.nt (hasK l k)=c0)(h1:(okB Int (len l) (Am (nth l)))=ay)(h2:(okB Int (len r) (Am (nth r)))=ay)(h3:(isC x y (ah 8) k v (ah 0))=ay)(h4:(Ko (len l) (Am (nth l)))=ay)(h5:(Ko (len r) (Am (nth r)))=ay)(h6:(isL l (len l) (Am (nth l)))=ay)(h7:c0=aA->(A.inB (ah (Bo l k)) (len r))=ay)(y1:c0=ay->ψ (aN (bF [bG [aQ .i64 x,aQ .i64 y,fF 3 1 (len l) (F9 (Am (nth l))),fF 3 1 (len r) (F9 (Am (nth r)))],aQ .i64 (ah 2),aQ .i64 (ah 0),aQ .i64 (ah 0)])))(y2:c0=aA->ψ (aN (bF [bG [aQ .i64 x,aQ .i64 y,fF 3 1 (len l) (F9 (Am (nth l))),fF 3 1 (len r) (F9 (Am (nth r)))],aQ .i64 (ah 3),aQ .i64 (nth r (A.toN (ah (Bo l k)))),aQ .i64 (ah 0)]))):CB ψ (BD (C7 A W (FK 0 l) Aw) Dy 300 400 73 [.code []] (BH 92 [Oi x y l r,.v (.int .i64 8),.i .i64 k,.i .i64 v] L0) [] []):=by
 subst e0;exact Ld (an h1 (an h2 (an h3 (an h4 (an h5 (an h5 (an h4 (an h5 (an h6 (an h2 (an y1 (fun q0=>an (h7 q0) (y2 q0)))))))))))))
theorem alU(A:Prim)(W:Wd)(x y k v:Int)(l r:List Int){ψ:C9->Prop}{c0:Bool}(e0:A.nt (hasK l k)=c0)(h1:(okB Int (len l) (Am (nth l)))=ay)(h2:(okB Int (len r) (Am (nth r)))=ay)(h3:(isC x y (ah 9) k v (ah 0))=ay)(h4:(Ko (len l) (Am (nth l)))=ay)(h5:(Ko (len r) (Am (nth r)))=ay)(h6:(isL l (len l) (Am (nth l)))=ay)(h7:c0=aA->(A.upTo (ah (Bo l k)) (len l))=ay)(h8:c0=aA->(Ko (A.toN (ah (Bo l k))) (Am (nth l)))=ay)(h9:c0=aA->(A.upTo (A.add .i64 (ah (Bo l k)) (ah 1)) (len l))=ay)(h10:c0=aA->(Ko (A.E5 (len l) (A.toN (A.add .i64 (ah (Bo l k)) (ah 1)))) fun (j:Nat)=>Am (nth l) (A.addN (A.toN (A.add .i64 (ah (Bo l k)) 1)) j))=ay)(h11:c0=aA->(A.room (A.addN (A.toN (ah (Bo l k))) (A.E5 (len l) (A.toN (A.add .i64 (ah (Bo l k)) (ah 1))))) 8)=ay)(h12:c0=aA->(A.upTo (ah (Bo l k)) (len r))=ay)(h13:c0=aA->(Ko (A.toN (ah (Bo l k))) (Am (nth r)))=ay)(XU:c0=aA->(A.upTo (A.add .i64 (ah (Bo l k)) (ah 1)) (len r))=ay)(h15:c0=aA->(Ko (A.E5 (len r) (A.toN (A.add .i64 (ah (Bo l k)) (ah 1)))) fun (j:Nat)=>Am (nth r) (A.addN (A.toN (A.add .i64 (ah (Bo l k)) 1)) j))=ay)(h16:c0=aA->(A.room (A.addN (A.toN (ah (Bo l k))) (A.E5 (len r) (A.toN (A.add .i64 (ah (Bo l k)) (ah 1))))) 8)=ay)(h17:c0=aA->(A.inB (ah (Bo l k)) (len r))=ay)(y1:c0=ay->ψ (aN (bF [bG [aQ .i64 x,aQ .i64 y,fF 3 1 (len l) (F9 (Am (nth l))),fF 3 1 (len r) (F9 (Am (nth r)))],aQ .i64 (ah 2),aQ .i64 (ah 0),aQ .i64 (ah 0)])))(y2:c0=aA->ψ (aN (bF [bG [aQ .i64 x,aQ .i64 y,fF 3 1 (A.addN (A.toN (ah (Bo l k))) (A.E5 (len l) (A.toN (A.add .i64 (ah (Bo l k)) (ah 1))))) (A.snoc (F9 (Am (nth l))) (A.toN (ah (Bo l k))) (F9 fun (j:Nat)=>Am (nth l) (A.addN (A.toN (A.add .i64 (ah (Bo l k)) 1)) j))),fF 3 1 (A.addN (A.toN (ah (Bo l k))) (A.E5 (len r) (A.toN (A.add .i64 (ah (Bo l k)) (ah 1))))) (A.snoc (F9 (Am (nth r))) (A.toN (ah (Bo l k))) (F9 fun (j:Nat)=>Am (nth r) (A.addN (A.toN (A.add .i64 (ah (Bo l k)) 1)) j)))],aQ .i64 (ah 3),aQ .i64 (nth r (A.toN (ah (Bo l k)))),aQ .i64 (ah 0)]))):CB ψ (BD (C7 A W (FK 0 l) Aw) Dy 300 400 73 [.code []] (BH 92 [Oi x y l r,.v (.int .i64 9),.i .i64 k,.i .i64 v] L0) [] []):=by
 subst e0;exact Ld (an h1 (an h2 (an h3 (an h4 (an h5 (an h5 (an h4 (an h5 (an h6 (an h2 (an y1 (fun q0=>an (h7 q0) (an (h8 q0) (an (h9 q0) (an (h10 q0) (an (h11 q0) (an (h9 q0) (an (h8 q0) (an (h10 q0) (an (h11 q0) (an (h9 q0) (an (h7 q0) (an (h8 q0) (an (h10 q0) (an (h11 q0) (an (h12 q0) (an (h13 q0) (an (XU q0) (an (h15 q0) (an (h16 q0) (an (XU q0) (an (h13 q0) (an (h15 q0) (an (h16 q0) (an (XU q0) (an (h12 q0) (an (h13 q0) (an (h15 q0) (an (h16 q0) (an (h17 q0) (y2 q0)))))))))))))))))))))))))))))))))))))))))
theorem ax7(c:Int)(l:List Int)(stop:Nat->List Nat->Bool):BJ ak (C7 Ak W7 (FK c l) stop):=ig (fun g F h=>by
 unfold FK at h;grind [aA4,aDv,aA5]) fun g h=>by
 unfold FK at h;split at h;all_goals first|(cases h;done) |kernel_rfl
def apJ:ϵ
 |[.agg [.i .i64 x,.i .i64 y,s2,s3],t,u,w]=>match Dj 1 s2,Dj 1 s3,Bd t,Bd u,Bd w with
  |some (a,g),aj (b,h),aj op,aj k,aj v=>.need (okB Int a g) (.need (okB Int b h) (.need (aiP a b) (.need (ave x a b) (.node (isC x y op k v 0) (.leaf (anY (TV ⟨x,y,lst Int a g,lst Int b h⟩ op k v))) (.leaf (.Az [.agg [.i .i64 0,.i .i64 0,.sl 1 0 FB,.sl 1 0 FB],.i .i64 0,.i .i64 0,.i .i64 (Fv x y op k v)])))))) |_,_,_,_,_=>.fail
 |_=>.fail
section
variable{φ:Sh->Prop}{x y k v:Int}{l r:List Int}
theorem JE{op num ret got:Int}{kk vv:List Int}{n m:Nat}{g h:ϝ}(hφ:φ (anY (TV ⟨x,y,l,r⟩ op k v)))(hR:TV ⟨x,y,l,r⟩ op k v=(⟨x,num,kk,vv⟩,ret,got))(h1:Si n g kk)(h2:Si m h vv):
  up φ (.Az [.agg [.i .i64 x,.i .i64 num,.os 3 1 n g,.os 3 1 m h],.i .i64 ret,.i .i64 got,.i .i64 0]):=by
 rw[hR] at hφ;exact AY (s':=anY (⟨x,num,kk,vv⟩,ret,got)) ⟨⟨rfl,rfl,.inr ⟨rfl,h1.1,h1.2⟩,.inr ⟨rfl,h2.1,h2.2⟩,ϖ⟩,rfl,rfl,rfl,ϖ⟩ hφ
end
theorem aA6:AO ak (AZ W7) 73 apJ:=by
 intro H w Bl args φ hon hg hrep h;have hn:Tryz.f73.ntmps=92:=by kernel_rfl
 unfold apJ at h;split at h
 ·rename_i x y s2 s3 t u ww
  split at h
  ·rename_i a g b hh op k v h2 h3 ht hu hw
   obtain ⟨ha,hb,hs,hm,hyes,hno⟩:=h;have hs:=ϑ hs;match args,hrep with
   |[v1,v2,v3,v4],⟨r1,r2,r3,r4,_⟩=>
    have hst:=aeP h2 h3 ha hb r1;have hlen1:(lst Int a g).length=a:=FH ..;have hlen2:(lst Int b hh).length=b:=FH ..;rw[<-hlen1,<-hlen2] at hs;have hm:x=4->(lst Int a g).length=(lst Int b hh).length:=by
     grind [ave]
    generalize lst Int a g=l at *;generalize lst Int b hh=r at *;have r2':=Js ht r2;have r3':=Js hu r3;have r4':=Js hw r4;have go (FD:List Sh) (hr:EN H FD [v1,v2,v3,v4]) (c:Int) (ha:CB (IV ak (C7 Ak W7 (FK c l) Aw) (K0 H w) [] emp (up φ)) (BD (C7 Ak W7 (FK c l) Aw) Dy 300 400 73 [.code []] (BH 92 FD L0) [] [])) :
      Calls ak 73 #[v1,v2,v3,v4] w fun e w'=>∃v s H',e=.returned v/\φ s/\Dx H w s v H' w':=by
     refine (Y0 (C:=C7 Ak W7 (FK c l) Aw) (fn:=Tryz.f73) (C7.ok _ _) (by kernel_rfl) (by kernel_rfl) hon hg hr (φ:=up φ) (L:=L0) ?_).mono fun e w' ⟨v,s,H',he,⟨s',hw,hs⟩,r⟩=>?_
     ·exact BZ (ax7 _ _ _) _ _ _ ha
     ·obtain ⟨H2,r2⟩:=r.wk hw
      grind
    have k1:okB Int (len l) (Am (nth l))=ay:=Cb _ _;have k2:okB Int (len r) (Am (nth r))=ay:=Cb _ _;cases hc:isC x y op k v 0 with
    |false=>
     have hno:=hno hc;have hc:Fv x y op k v≠0:=of_decide_eq_false hc;have:Fv x y op k v=110\/Fv x y op k v=111:=by
      grind [Fv]
     rcases this with e|e
     ·rw[e] at hno
      refine go [Oi x y l r,.i .i64 op,.i .i64 k,.i .i64 v] ⟨hst,r2',r3',r4',ϖ⟩ 110 ?_;refine af9 Ak W7 x y op k v l r k1 k2 (ϱ e) ?_;exact AY (s':=.Az [.agg [.i .i64 0,.i .i64 0,.sl 1 0 FB,.sl 1 0 FB],.i .i64 0,.i .i64 0,.i .i64 110]) ⟨⟨rfl,rfl,.inl ⟨rfl,rfl⟩,.inl ⟨rfl,rfl⟩,ϖ⟩,rfl,rfl,rfl,ϖ⟩ hno
     ·rw[e] at hno
      refine go [Oi x y l r,.i .i64 op,.i .i64 k,.i .i64 v] ⟨hst,r2',r3',r4',ϖ⟩ 111 ?_;refine aga Ak W7 x y op k v l r k1 k2 (ϱ e) ?_;exact AY (s':=.Az [.agg [.i .i64 0,.i .i64 0,.sl 1 0 FB,.sl 1 0 FB],.i .i64 0,.i .i64 0,.i .i64 111]) ⟨⟨rfl,rfl,.inl ⟨rfl,rfl⟩,.inl ⟨rfl,rfl⟩,ϖ⟩,rfl,rfl,rfl,ϖ⟩ hno
    |true=>
     have hyes:=hyes hc;have hx:x≠0/\Fp op=x:=by
      have hc:Fv x y op k v=0:=ϑ hc;grind [Fv]
     have hop:op=1\/op=2\/op=3\/op=4\/op=5\/op=6\/op=7\/op=8\/op=9:=by
      grind [Fp]
     have p1:Ko (len l) (Am (nth l))=ay:=Jv (DW l) (show l.length<=_ by omega);have p2:Ko (len r) (Am (nth r))=ay:=Jv (DW r) (show r.length<=_ by omega);have pL:isL l (len l) (Am (nth l))=ay:=by
      unfold isL;rw[aB];exact ⟨k1,ϱ ⟨Hy l,by omega⟩⟩
     have hpos:=avd l k;rcases hop with rfl|rfl|rfl|rfl|rfl|rfl|rfl|rfl|rfl
     ·refine go [Oi x y l r,.v (.int .i64 1),.i .i64 k,.i .i64 v] ⟨hst,J7 r2',r3',r4',ϖ⟩ 0 ?_
      refine alM Ak W7 x y k v l r k1 k2 hc p1 p2 ?_;exact JE hyes rfl (Dv (DW l)) (Dv (DW r))
     ·refine go [Oi x y l r,.v (.int .i64 2),.i .i64 k,.i .i64 v] ⟨hst,J7 r2',r3',r4',ϖ⟩ 0 ?_
      refine alN Ak W7 x y k v l r k1 k2 hc p1 p2 ?_;exact JE hyes rfl (Dv (DW l)) (Dv (DW r))
     ·refine go [Oi x y l r,.v (.int .i64 3),.i .i64 k,.i .i64 v] ⟨hst,J7 r2',r3',r4',ϖ⟩ 0 ?_
      refine alO Ak W7 x y k v l r k1 k2 hc p1 p2 ?_;exact JE hyes rfl (Dv (DW l)) (Dv (DW r))
     ·refine go [Oi x y l r,.v (.int .i64 4),.i .i64 k,.i .i64 v] ⟨hst,J7 r2',r3',r4',ϖ⟩ 0 ?_
      refine alP Ak W7 x y k v l r k1 k2 hc p1 p2 ?_;exact JE hyes rfl (Dv (DW l)) (Dv (DW r))
     ·refine go [Oi x y l r,.v (.int .i64 5),.i .i64 k,.i .i64 v] ⟨hst,J7 r2',r3',r4',ϖ⟩ 0 ?_
      refine alQ Ak W7 x y k v l r k1 k2 hc p1 p2 (room_le (show r.length+1<=_ by omega) (by omega)) ?_;refine JE hyes rfl (Dv (DW l)) ?_;exact MX (Dv (DW r)) (aaM v)
     ·refine go [Oi x y l r,.v (.int .i64 6),.i .i64 k,.i .i64 v] ⟨hst,J7 r2',r3',r4',ϖ⟩ 0 ?_
      refine alR Ak W7 x y k v l r rfl k1 k2 hc p1 p2 ?_ ?_ ?_ ?_ ?_
      ·grind [AQ,AL,len,EX]
      ·intro e
       have:r.length≠0:=by grind [AQ,AL,len]
       exact Jv (G8 (l:=r) (q:=1) (by omega) rfl) (show r.length - 1<=_ by omega)
      ·grind [AQ,AL,len,AX]
      ·intro e
       have:r.length=0:=by grind [AQ,AL,len]
       obtain rfl:r=[]:=List.length_eq_zero_iff.1 this;exact JE hyes rfl (Dv (DW l)) (Dv (DW []))
      ·intro e
       have:r.length≠0:=by grind [AQ,AL,len]
       match r,this with
       |a::r,_=>
        exact JE hyes rfl (Dv (DW l)) (Dv (G8 (l:=a::r) (q:=1) (by simp) rfl))
     ·have hlr:=hm hx.2.symm
      have hpr:Bo l k<=r.length:=by omega
      refine go [Oi x y l r,.v (.int .i64 7),.i .i64 k,.i .i64 v] ⟨hst,J7 r2',r3',r4',ϖ⟩ 0 ?_;refine alS Ak W7 x y k v l r rfl k1 k2 hc p1 p2 pL ?_ ?_ ?_ ?_ ?_ ?_ ?_ ?_ ?_ ?_ ?_ ?_
      ·simp_all [Bo,hasK,AX,len]
      ·simp_all [EX,len]
      ·intro _;exact Jv (GY hpos) (show Bo l k<=_ by omega)
      ·intro _;exact room_le (show Bo l k+1<=_ by omega) (by omega)
      ·intro _;exact Jv (G8 (l:=l) (q:=Bo l k) hpos rfl) (show l.length - Bo l k<=_ by omega)
      ·intro _;exact room_le (show Bo l k+1+(l.length - Bo l k)<=_ by omega) (by omega)
      ·simp_all [EX,len]
      ·intro _;exact Jv (GY hpr) (show Bo l k<=_ by omega)
      ·intro _;exact Jv (G8 (l:=r) (q:=Bo l k) hpr rfl) (show r.length - Bo l k<=_ by omega)
      ·intro _;exact room_le (show Bo l k+1+(r.length - Bo l k)<=_ by omega) (by omega)
      ·intro hk
       have hlt:Bo l k<l.length:=by simp_all [hasK]
       refine JE hyes (kk:=l) (vv:=r.set (Bo l k) v) (num:=y) (ret:=1) (got:=0) ?_ (Dv (DW l)) (arA v (show Bo l k<r.length by omega));show (ite _ _ _,_,_)=_;simp_all
      ·intro hk
       refine JE hyes (kk:=l.take (Bo l k)++k::l.drop (Bo l k)) (vv:=r.take (Bo l k)++v::r.drop (Bo l k)) (num:=y) (ret:=1) (got:=0) ?_ ?_ ?_
       ·show (ite _ _ _,_,_)=_
        simp_all
       ·have:=MX (MX (GY hpos) (aaM k)) (G8 (l:=l) (q:=Bo l k) hpos rfl)
        rw[iI] at this;exact this
       ·have:=MX (MX (GY hpr) (aaM v)) (G8 (l:=r) (q:=Bo l k) hpr rfl)
        rw[iI] at this;exact this
     ·refine go [Oi x y l r,.v (.int .i64 8),.i .i64 k,.i .i64 v] ⟨hst,J7 r2',r3',r4',ϖ⟩ 0 ?_
      refine alT Ak W7 x y k v l r rfl k1 k2 hc p1 p2 pL ?_ ?_ ?_
      ·intro e
       have hk:hasK l k=ay:=by grind [BG]
       have hlr:=hm hx.2.symm;simp_all [Bo,hasK,AX,len]
      ·intro e
       have hk:hasK l k=aA:=by grind [BG]
       refine JE hyes ?_ (Dv (DW l)) (Dv (DW r));show (_,ite _ _ _,ite _ _ _)=_;simp_all
      ·intro e
       have hk:hasK l k=ay:=by grind [BG]
       refine JE hyes ?_ (Dv (DW l)) (Dv (DW r));show (_,ite _ _ _,ite _ _ _)=_;simp only[hk];rfl
     ·have hlr:=hm hx.2.symm
      have hadd:Ak.add .i64 (ah (Bo l k)) (ah 1)=((Bo l k+1:Nat):Int):=by
       show bD.wrap ((Bo l k:Int)+1)=_;grind [CU]
      have hlt (e:Ak.nt (hasK l k)=aA):Bo l k+1<=l.length/\Bo l k+1<=r.length:=by
       grind [hasK,BG,Bo]
      refine go [Oi x y l r,.v (.int .i64 9),.i .i64 k,.i .i64 v] ⟨hst,J7 r2',r3',r4',ϖ⟩ 0 ?_;have eqL:(fun j:Nat=>Am (nth l) (Ak.addN (Ak.toN (Ak.add .i64 (ah (Bo l k)) 1)) j))=Am fun j=>nth l (Bo l k+1+j):=by
       rw[show Ak.add .i64 (ah (Bo l k)) 1=((Bo l k+1:Nat):Int) from hadd];rfl
      have XV:(fun j:Nat=>Am (nth r) (Ak.addN (Ak.toN (Ak.add .i64 (ah (Bo l k)) 1)) j))=Am fun j=>nth r (Bo l k+1+j):=by
       rw[show Ak.add .i64 (ah (Bo l k)) 1=((Bo l k+1:Nat):Int) from hadd];rfl
      refine alU Ak W7 x y k v l r rfl k1 k2 hc p1 p2 pL ?_ ?_ ?_ ?_ ?_ ?_ ?_ ?_ ?_ ?_ ?_ ?_ ?_
      ·simp_all [EX,len]
      ·intro _;exact Jv (GY hpos) (show Bo l k<=_ by omega)
      ·grind [EX,len]
      ·intro e;have:=hlt e;rw[eqL,hadd];exact Jv (G8 (l:=l) (q:=Bo l k+1) this.1 rfl) (show l.length - (Bo l k+1)<=_ by omega)
      ·intro e;have:=hlt e;rw[hadd];exact room_le (show Bo l k+(l.length - (Bo l k+1))<=_ by omega) (by omega)
      ·simp_all [EX,len]
      ·intro e;have:=hlt e;exact Jv (GY (show Bo l k<=r.length by omega)) (show Bo l k<=_ by omega)
      ·grind [EX,len]
      ·intro e;have:=hlt e;rw[XV,hadd];exact Jv (G8 (l:=r) (q:=Bo l k+1) this.2 rfl) (show r.length - (Bo l k+1)<=_ by omega)
      ·intro e;have:=hlt e;rw[hadd];exact room_le (show Bo l k+(r.length - (Bo l k+1))<=_ by omega) (by omega)
      ·grind [AX,len]
      ·intro e
       have hk:hasK l k=aA:=by grind [BG]
       refine JE hyes (kk:=l) (vv:=r) (num:=y) (ret:=2) (got:=0) ?_ (Dv (DW l)) (Dv (DW r));show (ite _ _ _,ite _ _ _,ite _ _ _)=_;simp_all
      ·intro e
       have q:=hlt e;have hk:hasK l k=ay:=by grind [BG]
       rw[eqL,XV,hadd];refine JE hyes (kk:=l.take (Bo l k)++l.drop (Bo l k+1)) (vv:=r.take (Bo l k)++r.drop (Bo l k+1)) (num:=y) (ret:=3) (got:=nth r (Bo l k)) ?_ (MX (GY hpos) (G8 (l:=l) q.1 rfl)) (MX (GY (show Bo l k<=r.length by omega)) (G8 (l:=r) q.2 rfl));show (ite _ _ _,ite _ _ _,ite _ _ _)=_;simp_all
  ·exact h.elim
 ·exact h.elim
open Go Go.Sx Go.Pl Go.Proofs
def apK(d:Nat->Rf):ϵ
 |[s]=>match Dj 4 s with
  |some (n,g)=>.need (P5 d n g) (.need (Cc n 64) (.leaf (.os 122 4 n (DJ d)))) |none=>.fail
 |_=>.fail
def an7(r:Rf):ϵ
 |[.agg [.i .i64 x,.i .i64 y,s2,s3],t,u,w]=>match Bd t,Bd u,Bd w with
  |some op,aj k,aj v=>.need (isR r x y s2 s3) (.need (wfU r) (.node (isC r.kind r.num op k v 0)
    (.leaf (.Az [.agg [.i .i64 (Q7 r op k v).kind,.i .i64 (Q7 r op k v).num,.sl 1 (len (Q7 r op k v).keys) (Am (nth (Q7 r op k v).keys)),.sl 1 (len (Q7 r op k v).vals) (Am (nth (Q7 r op k v).vals))],.i .i64 (opR r op k v),.i .i64 (opV r op k v),.v (.int .i64 0)]))
    (.node (isC r.kind r.num op k v 110) (.leaf (.Az [.agg [.i .i64 0,.i .i64 0,.sl 1 0 FB,.sl 1 0 FB],.i .i64 0,.i .i64 0,.v (.int .i64 110)])) (.leaf (.Az [.agg [.i .i64 0,.i .i64 0,.sl 1 0 FB,.sl 1 0 FB],.i .i64 0,.i .i64 0,.v (.int .i64 111)])))))
  |_,_,_=>.fail
 |_=>.fail
def Zh(d:Nat->Rf)(r:Rf):ϕ
 |73=>aj (an7 r) |51=>aj (apK d) |_=>aF
def ahr:List It:=[aK [0,1,0,1,1],aX 0,aK [1,1,1]]
def azp:List It:=aK [0,0,1,0,1,1]::ahr
def ahs(n:Nat)(d:Nat->Rf)(i:Int)(k:Nat)(gg:ϝ):Core:={tm:=DF 22 [(0,.sh (.sl 4 n (DJ d))),(3,.gs 0),(4,.sym .i64 i)],hp:=[(0,.own 122 4 k gg)],nx:=1,lim:=L0,tc:=[]}
theorem avn(A:Prim)(W:Wd)(n:Nat)(d:Nat->Rf)(i':Int)(k':Nat)(Je:ϝ){ψ:C9->Prop}(h1:(A.le (ah 0) (A.AV n))=ay)(h2:(A.room (A.toN (A.AV n)) 64)=ay)(y1:ψ (bU 0 [BL.sh (aG 4 n (DJ d)) (aG 4 n (DJ d)),aC (ah 0) i',aZ 0 k',bY 0 (fun (_x:Nat)=>[]) Je])):CB ψ (BD (C7 A W noSpec Aw) Dy 300 400 51 [.code []] (BH 22 [.sl 4 n (DJ d)] L0) [] [⟨51,ahr,ahs n d i' k' Je,[]⟩]):=by
 exact JH (an h1 (an h2 y1))
theorem avo(A:Prim)(W:Wd)(n:Nat)(d:Nat->Rf)(i i':Int)(k k':Nat)(gg Je:ϝ){ψ:C9->Prop}(h1:(A.lt i (A.AV n))=ay->(A.inB i n)=ay)(h2:(A.lt i (A.AV n))=ay->(A.room (A.addN k 1) 64)=ay)(y1:(A.lt i (A.AV n))=ay->ψ (bU 0 [BL.sh (aG 4 n (DJ d)) (aG 4 n (DJ d)),aC (A.add .i64 i (ah 1)) i',aZ (A.addN k 1) k',bY (A.addN k 1) (A.snoc gg k (Bh [[aQ .i64 (d (A.toN i)).kind,aQ .i64 (d (A.toN i)).num,aG 1 (len (d (A.toN i)).keys) (Am (nth (d (A.toN i)).keys)),aG 1 (len (d (A.toN i)).vals) (Am (nth (d (A.toN i)).vals))]])) Je]))(y2:(A.lt i (A.AV n))=aA->ψ (aN (fF 122 4 k gg))):CB ψ (BD (C7 A W noSpec Aw) Dy 300 400 51 azp (ahs n d i k gg) [] [⟨51,ahr,ahs n d i' k' Je,[]⟩]):=by
 exact JH (an (fun q0=>an (h1 q0) (an (h2 q0) (y1 q0))) y2)
theorem avp(A:Prim)(W:Wd)(n:Nat)(d:Nat->Rf)(r:Rf)(i op k v:Int){ψ:C9->Prop}(h1:(A.lt i (ah 0))=aA->(A.le (A.AV n) i)=aA->(A.inB i n)=ay)(h2:(A.lt i (ah 0))=aA->(A.le (A.AV n) i)=aA->(isR r (d (A.toN i)).kind (d (A.toN i)).num (aG 1 (len (d (A.toN i)).keys) (Am (nth (d (A.toN i)).keys))) (aG 1 (len (d (A.toN i)).vals) (Am (nth (d (A.toN i)).vals))))=ay)(h3:(A.lt i (ah 0))=aA->(A.le (A.AV n) i)=aA->(wfU r)=ay)(h4:(A.lt i (ah 0))=aA->(A.le (A.AV n) i)=aA->(isC r.kind r.num op k v (ah 0))=ay->(P5 d n (DJ d))=ay)(h5:(A.lt i (ah 0))=aA->(A.le (A.AV n) i)=aA->(isC r.kind r.num op k v (ah 0))=ay->(Cc n 64)=ay)(y1:(A.lt i (ah 0))=ay->ψ (aN (bF [aG 0 0 fun (_x:Nat)=>[],aQ .i64 (ah 0),aQ .i64 (ah 0),aQ .i64 (ah 109)])))(y2:(A.lt i (ah 0))=aA->(A.le (A.AV n) i)=ay->ψ (aN (bF [aG 0 0 fun (_x:Nat)=>[],aQ .i64 (ah 0),aQ .i64 (ah 0),aQ .i64 (ah 109)])))(y3:(A.lt i (ah 0))=aA->(A.le (A.AV n) i)=aA->(isC r.kind r.num op k v (ah 0))=ay->ψ (aN (bF [fF 122 4 n (A.upd (DJ d) (A.toN i) 0 [aQ .i64 (Q7 r op k v).kind,aQ .i64 (Q7 r op k v).num,aG 1 (len (Q7 r op k v).keys) (Am (nth (Q7 r op k v).keys)),aG 1 (len (Q7 r op k v).vals) (Am (nth (Q7 r op k v).vals))]),aQ .i64 (opR r op k v),aQ .i64 (opV r op k v),aQ .i64 (ah 0)])))(y4:(A.lt i (ah 0))=aA->(A.le (A.AV n) i)=aA->(isC r.kind r.num op k v (ah 0))=aA->(isC r.kind r.num op k v (ah 110))=ay->ψ (aN (bF [aG 0 0 fun (_x:Nat)=>[],aQ .i64 (ah 0),aQ .i64 (ah 0),aQ .i64 (ah 110)])))(y5:(A.lt i (ah 0))=aA->(A.le (A.AV n) i)=aA->(isC r.kind r.num op k v (ah 0))=aA->(isC r.kind r.num op k v (ah 110))=aA->ψ (aN (bF [aG 0 0 fun (_x:Nat)=>[],aQ .i64 (ah 0),aQ .i64 (ah 0),aQ .i64 (ah 111)]))):CB ψ (BD (C7 A W (Zh d r) Aw) Dy 300 400 50 [.code []] (BH 53 [.sl 4 n (DJ d),.i .i64 i,.i .i64 op,.i .i64 k,.i .i64 v] L0) [] []):=by
 exact JH (an y1 (fun q0=>an (y2 q0) (fun q1=>an (h1 q0 q1) (an (h2 q0 q1) (an (h3 q0 q1) (an (fun q2=>an (h4 q0 q1 q2) (an (h5 q0 q1 q2) (an (h1 q0 q1) (y3 q0 q1 q2)))) (fun q2=>an (y4 q0 q1 q2) (y5 q0 q1 q2))))))))
theorem aht{H H':Mem}{w w':World}{v:Value}{X:Sh}{a b c:Int}(r:Dx H w (.Az [X,.i .i64 a,.i .i64 b,.i .i64 c]) v H' w'):Dx H w (.Az [X,.i .i64 a,.i .i64 b,.v (.int .i64 c)]) v H' w':=
 ⟨r.Ji,r.on,r.os,r.tape,r.output,r.size,r.old,r.fresh,fun b0=>by
  obtain ⟨E1,a1,a2,⟨⟨vs⟩,e,hd⟩,a4⟩:=r.res b0;refine ⟨E1,a1,a2,⟨⟨vs⟩,e,?_⟩,a4⟩;match vs,hd with
  |[a,b,c,d],⟨h1,h2,h3,h4,_⟩=>exact ⟨h1,h2,h3,h4,ϖ⟩⟩
theorem Zi{d:Nat->Rf}{n:Nat}{g:ϝ}(h:P5 d n g=ay):∀j,j<n->g j=DJ d j:=@ϑ _ (aI _) h
theorem Zj{d:Nat->Rf}{n:Nat}{g:ϝ}(h:∀j,j<n->g j=DJ d j):P5 d n g=ay:=@ϱ _ (aI _) h
theorem aA7(r:Rf):AO ak (AZ W7) 73 (an7 r):=by
 intro H w Bl args φ hon hg hr hφ;have key:(apJ Bl).All fun s=>∃X a b c,s=.Az [X,.i .i64 a,.i .i64 b,.i .i64 c]/\φ (.Az [X,.i .i64 a,.i .i64 b,.v (.int .i64 c)]):=by
  unfold an7 at hφ;split at hφ
  ·rename_i x y s2 s3 t u ww
   split at hφ
   ·rename_i op k v ht hu hw
    obtain ⟨h1,h2,h3,h4⟩:=hφ;have h1:[.i .i64 x,.i .i64 y,s2,s3]=Q5 r:=@ϑ _ (aI _) h1;unfold Q5 at h1;injection h1 with e1 e2
    injection e2 with e2 e3
    injection e3 with e3 e4
    injection e4 with e4 _
    injection e1 with _ e1
    injection e2 with _ e2
    subst e1 e2 e3 e4;have h2:(_&&_)=ay:=h2;rw[aB] at h2;have sl1 (l:List Int):Dj 1 (.sl 1 (len l) (Am (nth l)))=aj (len l,Am (nth l)):=rfl;unfold apJ;simp only[ht,hu,hw,sl1];refine ⟨Cb _ _,Cb _ _,h2.1,h2.2,fun q=>?_,fun q=>?_⟩
    ·have e:=h3 q
     have l1:lst Int (len r.keys) (Am (nth r.keys))=r.keys:=Hy _;have l2:lst Int (len r.vals) (Am (nth r.vals))=r.vals:=Hy _;rw[l1,l2];exact ⟨_,_,_,_,rfl,e⟩
    ·obtain ⟨h5,h6⟩:=h4 q
     refine ⟨_,_,_,_,rfl,?_⟩;cases q2:isC r.kind r.num op k v 110 with
     |true=>
      have q2':Fv r.kind r.num op k v=110:=ϑ q2;rw[q2'];exact h5 q2
     |false=>
      have q':Fv r.kind r.num op k v≠0:=of_decide_eq_false q;have q2':Fv r.kind r.num op k v≠110:=of_decide_eq_false q2;have:Fv r.kind r.num op k v=111:=by
       grind [Fv]
      rw[this];exact h6 q2
   ·exact hφ.elim
  ·exact hφ.elim
 refine (aA6 H w Bl args _ hon hg hr key).mono fun e w' ⟨v,s,H',he,⟨X,a,b,c,hs,hφ⟩,r⟩=>?_;subst hs;exact ⟨v,_,H',he,hφ,aht r⟩
section
variable{H0:Mem}{w0:World}{φ:Sh->Prop}
theorem apL{n:Nat}{d:Nat->Rf}(hr:Cc n 64=ay)(hφ:φ (.os 122 4 n (DJ d))):
  ∀m k,k+m=n->AB ak (C7 Ak W7 noSpec Aw) (K0 H0 w0) 51 ahr (ahs n d (k:Int) k (DJ d)) [] emp φ
 |m,k,hk=>by
  obtain ⟨hr1,hr2⟩:=Fg hr;refine D6 wV azp ?_;refine BZ (Ej _) 300 400 [⟨51,ahr,ahs n d (k+1:Nat) (k+1) (DJ d),[]⟩] ?_;refine avo Ak W7 n d k (k+1:Nat) k (k+1) (DJ d) (DJ d) ?_ ?_ ?_ ?_
  ·simp_all [Ar,AL,AX]
  ·intro h
   simp[Ar,AL] at h;show decide ((k+1)*64<=140737488355328/\k+1<=maxLen)=ay;grind
  ·intro h
   simp[Ar,AL] at h;refine ⟨⟨rfl,?_,rfl,fun j hj=>?_,ϖ⟩,_,rfl,?_⟩
   ·show bD.wrap ((k:Int)+1)=_
    grind [CU]
   ·have hj:j<k+1:=hj
    rw[Dn];split
    ·rfl
    ·obtain rfl:j=k:=by omega
     simp only[Cm,dA,gK];rfl
   ·match m,hk with
    |0,hk=>omega |m+1,hk=>exact apL hr hφ m (k+1) (by omega)
  ·intro h
   have:k=n:=by grind [Ar,AL]
   subst this;exact hφ
end
theorem azq(d:Nat->Rf):AO ak (AZ W7) 51 (apK d):=by
 refine JA (C7 Ak W7 noSpec Aw) wV fun H w Bl args φ hrep h=>?_
 have hn:wV.ntmps=22:=by kernel_rfl
 unfold apK at h;split at h
 ·split at h
  ·rename_i n g hs
   obtain ⟨h1,h2,hφ⟩:=h;match args,hrep with
   |[v],⟨r1,_⟩=>
    refine ⟨[.sl 4 n (DJ d)],⟨DT (Bz hs r1) (Zi h1),ϖ⟩,L0,?_⟩;refine BZ (Ej _) 300 400 [⟨51,ahr,ahs n d (0:Nat) 0 (DJ d),[]⟩] ?_;rw[hn];refine avn Ak W7 n d (0:Nat) 0 (DJ d) ?_ h2 ⟨⟨rfl,rfl,rfl,fun j hj=>by omega,ϖ⟩,_,rfl,?_⟩
    ·rfl
    ·exact apL h2 hφ n 0 (by omega)
  ·exact h.elim
 ·exact h.elim
theorem aA8(d:Nat->Rf)(r:Rf)(stop:Nat->List Nat->Bool):BJ ak (C7 Ak W7 (Zh d r) stop):=ig (fun g F h=>by
 unfold Zh at h;grind [aA7,azq]) fun g h=>by
 unfold Zh at h;split at h;all_goals first|(cases h;done) |kernel_rfl
def F89(d:Nat->Rf):ϵ
 |[s,t,u,w,z]=>match Dj 4 s,Bd t,Bd u,Bd w,Bd z with
  |some (n,g),aj i,aj op,aj k,aj v=>.need (P5 d n g) (.need (Cc n 64) (.node (Gw n i)
    (.need (wfU (d i.toNat)) (.node (isC (d i.toNat).kind (d i.toNat).num op k v 0)
     (.leaf (.Az [.sl 4 n (L6 n (DJ d) i (Q5 (Q7 (d i.toNat) op k v))),.i .i64 (opR (d i.toNat) op k v),.i .i64 (opV (d i.toNat) op k v),.v (.int .i64 0)]))
     (.node (isC (d i.toNat).kind (d i.toNat).num op k v 110) (.leaf (.Az [.sl 0 0 noT,.i .i64 0,.i .i64 0,.v (.int .i64 110)])) (.leaf (.Az [.sl 0 0 noT,.i .i64 0,.i .i64 0,.v (.int .i64 111)])))))
    (.leaf (.Az [.sl 0 0 noT,.i .i64 0,.i .i64 0,.v (.int .i64 109)]))))
  |_,_,_,_,_=>.fail
 |_=>.fail
theorem O89(d:Nat->Rf):AO ak (AZ W7) 50 (F89 d):=by
 intro H w Bl args φ hon hg hrep h;have hn:Tryz.f50.ntmps=53:=by kernel_rfl
 unfold F89 at h;split at h
 ·rename_i s t u w' z
  split at h
  ·rename_i n g i op k v hs ht hu hw hz
   obtain ⟨h1,h2,hin,hout⟩:=h;match args,hrep with
   |[v1,v2,v3,v4,v5],⟨r1,r2,r3,r4,r5,_⟩=>
    have hr:EN H [.sl 4 n (DJ d),.i .i64 i,.i .i64 op,.i .i64 k,.i .i64 v] [v1,v2,v3,v4,v5]:=⟨DT (Bz hs r1) (Zi h1),Js ht r2,Js hu r3,Js hw r4,Js hz r5,ϖ⟩;have key:Calls ak 50 #[v1,v2,v3,v4,v5] w fun e w'=>∃v s H',e=.returned v/\(∃X a b c,s=.Az [X,.i .i64 a,.i .i64 b,.i .i64 c]/\φ (.Az [X,.i .i64 a,.i .i64 b,.v (.int .i64 c)]))/\Dx H w s v H' w':=by
     refine (Y0 (C:=C7 Ak W7 (Zh d (d i.toNat)) Aw) (fn:=Tryz.f50) (C7.ok _ _) (by kernel_rfl) (by kernel_rfl) hon hg hr (φ:=up fun s=>∃X a b c,s=.Az [X,.i .i64 a,.i .i64 b,.i .i64 c]/\φ (.Az [X,.i .i64 a,.i .i64 b,.v (.int .i64 c)])) (L:=L0) ?_).mono fun e w' ⟨v,s,H',he,⟨s',hw,hs⟩,r⟩=>?_
     ·rw[hn]
      refine BZ (aA8 _ _ _) 300 400 [] ?_;have out (c:Int) (hφ:φ (.Az [.sl 0 0 noT,.i .i64 0,.i .i64 0,.v (.int .i64 c)])):up (fun s=>∃X a b c,s=.Az [X,.i .i64 a,.i .i64 b,.i .i64 c]/\φ (.Az [X,.i .i64 a,.i .i64 b,.v (.int .i64 c)])) (.Az [.sl 0 0 fun _=>[],.i .i64 0,.i .i64 0,.i .i64 c]):=
       AY (s':=.Az [.sl 0 0 noT,.i .i64 0,.i .i64 0,.i .i64 c]) ⟨.inl ⟨rfl,rfl⟩,rfl,rfl,rfl,ϖ⟩ ⟨_,_,_,_,rfl,hφ⟩
      have ok (h0:Ak.lt i (ah 0)=aA) (h0':Ak.le (Ak.AV n) i=aA):Gw n i=ay:=by
       simp_all [Ar,CS,AL,Gw]
      refine avp Ak W7 n d (d i.toNat) i op k v ?_ ?_ ?_ ?_ ?_ ?_ ?_ ?_ ?_ ?_
      ·assumption
      ·intro q q';exact @ϱ _ (aI _) rfl
      ·intro q q';exact (hin (ok q q')).1
      ·intro q q' _;exact Zj fun _ _=>rfl
      ·simp_all
      ·intro q;exact out 109 (hout (by grind [Ar,Gw]))
      ·intro q q';exact out 109 (hout (by simp_all [CS,AL,Gw]))
      ·intro q q' q2
       obtain ⟨_,h3,_⟩:=hin (ok q q');have h3:=h3 q2;refine AY (s':=.Az [.sl 4 n (L6 n (DJ d) i (Q5 (Q7 (d i.toNat) op k v))),.i .i64 (opR (d i.toNat) op k v),.i .i64 (opV (d i.toNat) op k v),.i .i64 0]) ⟨.inr ⟨rfl,rfl,fun j hj=>?_⟩,rfl,rfl,rfl,ϖ⟩ ⟨_,_,_,_,rfl,h3⟩;simp_all [OY,Cm,L6,DJ,Q5]
      ·intro q q' q2 q3
       obtain ⟨_,_,h4⟩:=hin (ok q q');exact out 110 ((h4 q2).1 q3)
      ·intro q q' q2 q3
       obtain ⟨_,_,h4⟩:=hin (ok q q');exact out 111 ((h4 q2).2 q3)
     ·obtain ⟨H2,r2⟩:=r.wk hw
      grind
    refine key.mono fun e w' ⟨v,s,H',he,⟨X,a,b,c,hs,hφ⟩,r⟩=>?_;subst hs;exact ⟨v,_,H',he,hφ,aht r⟩
  ·exact h.elim
 ·exact h.elim
end Go.Rg
namespace Go.Proofs
open Go Go.Sx Go.Pl
open Go.BI (Ev QZ De Rc)
def ax8(g:Nat):Bool:=Nat.beq g 45
def Q9:List It:=[nU [0,0,0,1,0,0,1,0,1,1,1,1] [5,6],aK [1,0,0,1,0,0,1,0,1,1,1,1],aX 1,aK [1,1,0,0,1,0,1,1,1,1]]++F8
def Xe(n:Nat)(o:Nat->Oj)(m:Nat)(ev:ϝ)(k:Nat)(G:ϝ)(c:Nat)(gc:ϝ)(ft:Int)(fk:Nat)(fg:ϝ)(i q:Int)(l:List SV):Core:=
 {tm:=DF 38 [(1,.ptr 0 0),(2,.Bg),(3,.ptr 1 0),(4,.ptr 2 0),(5,.ptr 3 0),(6,.sym .i64 i),(28,.agg l)],
  hp:=[(0,.box [.sh (.sl 2 n (Am o)),.sh (.sl 8 m ev)] 25),(1,.box [.int .i64 0,.Bg] 37),(2,.box [.sym .i64 ft,.sh (.sl 1 fk fg)] 37),(3,.box [.sh (.sl 2 n (Am o)),.gs 4,.gs 5,.sym .i64 q] 118),(4,.own 87 7 k G),(5,.own 3 1 c gc)],nx:=6,lim:=L0,tc:=[]}
def evK(kd:Int)(e:Ev):List SV:=[.int .i64 kd,.sym .i64 e.tx,.sym .i64 e.thread,.sym .i64 e.obj,.sym .i64 e.op,.sym .i64 e.key,.sym .i64 e.val,.sym .i64 e.ret]
section
variable{H0:Mem}{w0:World}{φ:Sh->Prop}{n m:Nat}{o:Nat->Oj}{p:Nat->Ev}{k c:Nat}{G gc:ϝ}{ft:Int}{fk:Nat}{fg:ϝ}{i:Nat}{q:Int}
theorem QC(kd:Int)(hk:i<m->(p i).kind=kd)(hend:¬i<m->φ (.Az [.os 87 7 k G,.agg [.i .i64 ft,.sl 1 fk fg]]))
  (hgo:i<m->AB ak (ED Ak W7 FI Aw) (K0 H0 w0) 34 Q9 (Xe n o m (aS p) k G c gc ft fk fg (i:Nat) q (evK kd (p i))) [] emp φ) :
  AB ak (ED Ak W7 FI Aw) (K0 H0 w0) 34 F8 (Gs n o m (aS p) k G c gc ft fk fg (i:Nat) q) [] emp φ:=by
 refine D6 Tryz.f34 aDt ?_;refine TL ax8 (TU _) 300 800 [⟨34,Q9,Xe n o m (aS p) k G c gc ft fk fg (i:Nat) q (evK (p i).kind (p i)),[]⟩] ?_;have inb (h:Ak.lt (i:Int) (Ak.AV m)=ay):i<m:=by grind [Ar,AL]
 have out (h:Ak.lt (i:Int) (Ak.AV m)=aA):¬i<m:=by grind [Ar,AL]
 exact D9 (nd (Ak.lt (i:Int) (Ak.AV m)) (fun h=>an (by simp[AX,inb h]:Ak.inB (i:Int) m=ay)
  (by simp_all:AB ak (ED Ak W7 FI Aw) (K0 H0 w0) 34 Q9 (Xe n o m (aS p) k G c gc ft fk fg (i:Nat) q (evK (p i).kind (p i))) [] emp φ)) (fun h=>hend (out h)))
end
end Go.Proofs
namespace Go.Sx
def pS(x y:SV):Prop:=∀(H:Mem) (E:Env) (v:Value),Den H E x v->Den H E y v
def pL:List SV->List SV->Prop
 |[],[]=>True |x::l,y::m=>pS x y/\pL l m |_,_=>False
def pB:SB->SB->Prop
 | .box l e,.box m f=>e=f/\pL l m |a,b=>a=b
def pH:List (Nat×SB)->List (Nat×SB)->Prop
 |[],[]=>True |(i,a)::l,(j,b)::m=>i=j/\pB a b/\pH l m |_,_=>False
def apM:List Fr->List Fr->Prop
 |[],[]=>True |f::s,f'::s'=>f.g=f'.g/\f.td=f'.td/\pL f.tm f'.tm/\apM s s' |_,_=>False
structure pC(c c':Core):Prop where
 tm:pL c.tm c'.tm
 hp:pH c.hp c'.hp
 nx:c.nx=c'.nx
 lim:c.lim=c'.lim
 tc:c.tc=c'.tc
theorem pS.any{x:SV}:pS x .any:=fun _ _ _ _=>trivial
theorem acH{H:Mem}{E:Env}:∀{l m:List SV} {vs:List Value},pL l m->AP H E l vs->AP H E m vs
 |[],[],[],_,_=>trivial |_::_,_::_,_::_,⟨h1,h2⟩,⟨d1,d2⟩=>⟨h1 _ _ _ d1,acH h2 d2⟩ |[],_::_,_,h,_=>h.elim |_::_,[],_,h,_=>h.elim |_::_,_::_,[],_,hd=>hd.elim |[],[],_::_,_,hd=>hd.elim
theorem pS.sl{st n:Nat}{g g':ϝ}(h:∀j,j<n->g j=g' j):pS (.sh (.sl st n g)) (.sh (.sl st n g')):=fun H E v hd=>by
 have hd:Rep H (.sl st n g) v:=hd;show Rep H (.sl st n g') v;cases hd with
 |sl0 _ _ A cap hc=>exact .sl0 _ _ _ _ hc |sl _ _ _ b off cap c h1 h2 h3 h4 h5 h6=>exact .sl _ _ _ b off cap c h1 h2 (fun i hi=>by simp_all) h4 h5 fun i j s hi e=>h6 i j s hi (by simp_all)
theorem pL.set{x y:SV}(h:pS x y):∀{l m:List SV} (i:Nat),pL l m->pL (l.set i x) (m.set i y)
 |[],[],_,_=>trivial |_::_,_::_,0,⟨_,h2⟩=>⟨h,h2⟩ |_::_,_::_,i+1,⟨h1,h2⟩=>⟨h1,pL.set h i h2⟩ |[],_::_,_,h=>h.elim |_::_,[],_,h=>h.elim
section
variable{P:Program}{C:Ctx}{K:Kx}{H H':Mem}{E E':Env}{w w':World}
theorem an8{id:Nat}{a b:SB}(h:pB a b)(he:Ho K H E w id a):Ho K H E w id b/\Bv E id a=Bv E id b:=by
 cases a with
 |box l e=>
  cases b with
  |box m f=>
   obtain ⟨rfl,h⟩:=h;obtain ⟨b,cs,h1,h2,h3,h4⟩:=he;exact ⟨⟨b,cs,h1,h2,acH h h3,h4⟩,rfl⟩
  |_=>simp[pB] at h
 |_=>
  simp only[pB] at h;subst h;exact ⟨he,rfl⟩
theorem acI:∀{l m:List (Nat×SB)} {i:Nat} {b:SB},pH l m->Aq m i=aj b->∃a,Aq l i=aj a/\pB a b
 |[],[],_,_,_,h=>by simp[Aq] at h |(i,a)::l,(j,b)::m,k,sb,⟨h1,h2,h3⟩,h=>by
  subst h1;simp only[Aq] at h ⊢;cases hk:(i==k)<;>simp only[hk,ϰ,ϗ] at h ⊢
  ·exact acI h3 h
  simp_all
 |[],_::_,_,_,h,_=>h.elim |_::_,[],_,_,h,_=>h.elim
theorem St.aiS{c c':Core}{a:Act}(st:St C K H E w c a)(h:pC c c'):St C K H E w c' a:=by
 refine ⟨acH h.tm st.den,⟨fun id sb hl=>?_,fun id id' sb sb' b l1 l2 o1 o2=>?_⟩,st.CP,fun i h1 h2=>st.free i (by rw[h.nx];exact h1) (by rw[h.lim];exact h2),st.gl,st.defers⟩
 ·obtain ⟨x,h1,h2⟩:=acI h.hp hl
  exact (an8 h2 (st.hp.ent _ _ h1)).1
 ·obtain ⟨x,h1,h2⟩:=acI h.hp l1
  obtain ⟨y,h3,h4⟩:=acI h.hp l2;exact st.hp.GH _ _ _ _ _ h1 h3 (by rw[(an8 h2 (st.hp.ent _ _ h1)).2];exact o1) (by rw[(an8 h4 (st.hp.ent _ _ h3)).2];exact o2)
theorem Hw.aiS:∀{s s':List Fr} {ms:List Frame},Hw C H E s ms->apM s s'->Hw C H E s' ms
 |[],[],[],_,_=>trivial |f::s,f'::s',m::ms,⟨⟨fn,a,items,h1,h2,h3,h4,h5⟩,h6⟩,⟨e1,e2,e3,e4⟩=>
  ⟨⟨fn,a,items,by simp_all,acH e3 h2,h3,by simp_all,by simp_all⟩,Hw.aiS h6 e4⟩
 |[],[],_::_,h,_=>h.elim |_::_,_,[],h,_=>h.elim |[],_::_,_,_,h=>h.elim |_::_,[],_::_,_,h=>h.elim
theorem apN{g:Nat}:∀{s s':List Fr} {g:Nat},apM s s'->Ur g s'=Ur g s
 |[],[],_,_=>rfl |f::s,f'::s',_,⟨e1,_,_,e4⟩=>by simp only[Ur];rw[e1];exact apN (g:=0) e4 |[],_::_,_,h=>h.elim |_::_,[],_,h=>h.elim
theorem Zk{g:Nat}{td:List It}{c c':Core}{stk KL:List Fr}{R:Hp->Prop}{φ:Sh->Prop}(hle:pC c c')(hs:apM stk KL)(h:AB P C K g td c' KL R φ):AB P C K g td c stk R φ:=by
 intro H E w a items ms cs fn hfn st hi hst hx;have:=h H E w a items ms cs fn hfn (st.aiS hle) hi (hst.aiS hs) hx;rw[apN (g:=0) hs] at this;exact this
end
end Go.Sx
namespace Go.BI
open Go Go.Sx
theorem Nr{α:Type}[Row α](o:Nat->α):Ap (Am o)=o:=funext fun i=>MQ o i
def takeN(p:Nat->Ev):Au->Nat->Nat->Au ⊕ (Nat×Nat)
 |σ,_,0=>.inl σ |σ,k,r+1=>match (σ.feed (p k)).1 with
  |none=>takeN p (σ.feed (p k)).2 (k+1) r |some e=>.inr (k,e)
def Ol(m:Nat)(p:Nat->Ev):Au ⊕ (Nat×Nat):=takeN p iw 0 m
def takeB(m:Nat)(p:Nat->Ev):Bool:=match Ol m p with| .inl _=>ay| .inr _=>aA
def H9(m:Nat)(p:Nat->Ev):Au:=match Ol m p with| .inl σ=>σ| .inr _=>iw
def VJ(m:Nat)(p:Nat->Ev):Int:=match Ol m p with| .inl _=>0| .inr (k,_)=>k
def VK(m:Nat)(p:Nat->Ev):Nat:=match Ol m p with| .inl _=>0| .inr (_,e)=>e
def resT:Au ⊕ (Nat×Nat)->Sh
 | .inl σ=>.Az [.os 87 7 σ.rs.length (Go.BX.TS Fq dfn (BO σ)),.v .nilIface] | .inr (k,e)=>.Az [.sl 0 0 fun _=>[],.DK 184 (.pt [.i .i64 (k:Int),.er e 322])]
structure aeR(n m:Nat)(o:Nat->Oj)(p:Nat->Ev):Prop where
 small:n<=8/\m<=400
 valid:∀k,k<m->Du (p k)=ay
 obj:∀k,k<m->(p k).kind=2->0<=(p k).obj/\(p k).obj<n/\PW (p k).op=(o (p k).obj.toNat).kind
theorem TY{f:Nat->Option Nat}:∀{r k:Nat},IX f k r=aF->∀j,k<=j->j<k+r->f j=aF
 |0,k,_,j,h1,h2=>by omega |r+1,k,h,j,h1,h2=>by
  simp only[IX] at h;cases hf:f k with
  |some e=>simp_all |none=>
   rw[hf] at h;by_cases q:j=k
   ·simp_all
   ·exact TY h j (by omega) (by omega)
theorem aeS{n m:Nat}{o:Nat->Oj}{p:Nat->Ev}(h1:FN n m=aA)(h2:(Xa n m o p).isNone=ay)(h3:∀k,k<m->DN (p k).ret=ay):aeR n m o p:=by
 unfold FN at h1;have h1:¬(8<n\/400<m):=by grind
 have key:∀k,k<m->Lm n o (p k)=aF:=fun k hk=>by
  unfold Xa at h2;cases hs:IX (fun k=>TM (o k)) 0 n with
  |some x=>simp_all |none=>
   rw[hs] at h2;exact TY (Option.isNone_iff_eq_none.1 h2) k (by omega) (by omega)
 have parts:∀k,k<m->Lj (p k)=ay/\fieldsB (p k)=ay/\((p k).kind=2->(p k).obj<n/\PW (p k).op=(o (p k).obj.toNat).kind):=fun k hk=>by
  have h:=key k hk;unfold Lm at h;grind
 exact ⟨by omega,fun k hk=>by
  simp_all [Du],fun k hk hk2=>by
  simp_all [Qx]⟩
end Go.BI
namespace Go.BX
open Go Go.Sx Go.BI
theorem ax9:∀g F,aeC g=aj F->AO ak (NH W5) g F:=fun g F h=>by
 grind [aeC,aDd]
theorem aeT:BP ak (CT Ak W5):=by
 have h:=C5.ok aeC Aw;exact ⟨h.1,h.2,h.3,h.4,h.5,h.6,Ag⟩
theorem CTf:BJ ak (CT Ak W5):=by
 have h:=C5.OG (stop:=Aw) ax9 fun g h=>by
  unfold aeC at h;split at h;all_goals first|(cases h;done) |kernel_rfl
 exact ⟨h.1,h.2,h.3,h.4⟩
theorem Zl{n b:Nat}(h:n<=100000)(hb:b<=1000):Ak.room n b=ay:=by
 rw[Em,ϟ];have h1:n*b<=100000*1000:=Nat.mul_le_mul h hb;grind [maxLen]
theorem avq{H0:Mem}{w0:World}{N:Nat}{rs:Nat->Rc}{φ:Sh->Prop}(hN:N<=1000)(hD:∀k,k<N->Fq (rs k)<=1000)(hφ:φ (.Az [.os 87 7 N (TS Fq dfn rs),.v .nilIface])):
  ∀rm k,k+rm=N->AB ak (CT Ak W5) (K0 H0 w0) 55 tdT (ahl Fq dfn N rs (N:Int) k k (TS Fq dfn rs)) frX emp φ
 |rm,k,hk=>by
  refine D6 yT tbT ?_;refine akE aeT CTf (hold:=EP) (m:=300) (n:=400) (ts:=[⟨55,tdT,ahl Fq dfn N rs (N:Int) (k+1:Nat) (k+1) (TS Fq dfn rs),frX⟩]) ?_;rw[f32 Ak W5 Fq dfn N rs (N:Int) k (k+1:Nat) k (k+1) (TS Fq dfn rs) (TS Fq dfn rs)];simp only[Ar,CS,AL,AX,Cm,Ef,Dl,I7,Tree.All,IV,dA,fU];refine ⟨fun h=>?_,fun h=>?_⟩
  ·have hlt:k<N:=by simp_all
   have hd:=hD k hlt;have hw:bD.wrap ((k:Int)+1)=((k+1:Nat):Int):=by grind [CU]
   have hle:decide (ah 0<=ah (Fq (rs k)))=ay:=by simp
   have hr1:Ak.room (Fq (rs k)) 64=ay:=Zl (by omega) (by omega);have hr2:Ak.room (k+1) 72=ay:=Zl (by omega) (by omega);have eqD:Ak.snoc (fun _=>[]) 0 (dfn (rs k))=dfn (rs k):=by
    rfl
   match rm,hk with
   |0,hk=>omega |rm+1,hk=>
    refine ⟨by simp;omega,hle,hr1,hr1,hle,hr1,hr1,?_,hle,hr1,hr1,?_,hr2,⟨rfl,rfl,hw,rfl,fun i hi=>?_,ϖ⟩,_,rfl,avq hN hD hφ rm (k+1) (by omega)⟩
    ·repeat' (first|exact ϖ|refine eU rfl ?_)
    ·repeat' (first|exact ϖ|refine eU rfl ?_)
    ·rw[Dn,eqD]
     by_cases q:i<k
     ·rw[if_pos q]
     ·rw[if_neg q]
      have:i=k:=by omega
      subst this;rw[gK];rfl
  grind
theorem aBa{H0:Mem}{w0:World}{n:Nat}{o:Nat->Oj}{σ:Au}{b:Nat}{φ:Sh->Prop}(hI:σ.OK)(hm:σ.many<=400)(hφ:φ (resT (.inl σ))):
  AB ak (CT Ak W5) (K0 H0 w0) 40 ahk (LX (.val (.pointer (aj ⟨b,0,aF⟩)))) [] (MW n o σ b) φ:=by
 have hlen:=hI.len;refine akB (X:=Lay) (u:=.pointer (aj ⟨b,0,aF⟩)) (y:=fun L=>auX Fq dfn L.v0 σ.many σ.rs.length (BO σ) L.b1 L.b2) (fun H E h w hR _ hat=>arw hR hat) (i:=14) rfl fun L=>?_
 show AB ak (CT Ak W5) (K0 H0 w0) 40 ahk (LX (auX Fq dfn L.v0 σ.many σ.rs.length (BO σ) L.b1 L.b2)) [] emp φ;refine CW EP (hC:=aeT) CTf 300 400 [⟨55,tdT,ahl Fq dfn σ.rs.length (BO σ) (σ.rs.length:Int) (0:Nat) 0 (TS Fq dfn (BO σ)),frX⟩] ?_;rw[e32 Ak W5 Fq dfn L.v0 σ.many σ.rs.length (BO σ) L.b1 L.b2 (σ.rs.length:Int) (0:Nat) 0 (TS Fq dfn (BO σ))];refine ⟨by rfl,Zl (by simp[Cm,AL];omega) (by omega),⟨rfl,rfl,rfl,rfl,fun i hi=>by omega,ϖ⟩,_,rfl,avq (by omega) (fun k hk=>?_) hφ _ 0 (fU _)⟩;have:=hI.dl k _ (TT hk);show (BO σ k).AA.length<=1000;omega
theorem aya{H:Mem}{E:Env}{e:Ev}{v:Value}(h:Den H E (.agg [.sym .i64 e.kind,.sym .i64 e.tx,.sym .i64 e.thread,.sym .i64 e.obj,.sym .i64 e.op,.sym .i64 e.key,.sym .i64 e.val,.sym .i64 e.ret]) v):v=evV e:=by
 obtain ⟨⟨vs⟩,rfl,hd⟩:=h;match vs,hd with
 |[a,b,c,d,e,f,g,h],⟨h1,h2,h3,h4,h5,h6,h7,h8,_⟩=>
  cases h1;cases h2;cases h3;cases h4;cases h5;cases h6;cases h7;cases h8;rfl
theorem Zm{H0:Mem}{w0:World}{n m:Nat}{o:Nat->Oj}{p:Nat->Ev}{b:Nat}{φ:Sh->Prop}(hg:aeR n m o p):
  ∀rm k σ,k+rm=m->σ.OK->σ.many=k->φ (resT (takeN p σ k rm))->AB ak (CT Ak W5) (K0 H0 w0) 54 Zf (LT m p b (m:Int) k) Uw (MW n o σ b) φ
 |rm,k,σ,hk,hI,aBb,hφ=>by
  have hs:=hg.small;refine D6 nK azm ?_;refine CW aaJ (hC:=aeT) CTf 300 400 [⟨54,tdP,LP m p b (m:Int) k (p k) .any,Uw⟩,⟨40,ahk,LX (.val (.pointer (aj ⟨b,0,aF⟩))),[]⟩] ?_;rw[b32 Ak W5 m p b (m:Int) k k];refine ⟨fun h=>?_,fun h=>?_⟩
  ·have hlt:k<m:=by simp_all [Ar]
   match rm,hk,hφ with
   |0,hk,_=>omega |rm+1,hk,hφ=>
    refine ⟨by simp[AX];omega,⟨rfl,rfl,rfl,rfl,rfl,rfl,rfl,rfl,rfl,rfl,rfl,rfl,rfl,rfl,ϖ⟩,_,rfl,?_⟩;refine akz (fn:=nK) (g2:=77) (args:=[.val (.pointer (aj ⟨b,0,aF⟩)),.agg [.sym .i64 (p k).kind,.sym .i64 (p k).tx,.sym .i64 (p k).thread,.sym .i64 (p k).obj,.sym .i64 (p k).op,.sym .i64 (p k).key,.sym .i64 (p k).val,.sym .i64 (p k).ret]]) (dst:=aj 34) (Ih:=tdQ) (by kernel_rfl) (by kernel_rfl) (CTf.en 77 (.inr (by kernel_rfl))) ⟨rfl,by kernel_rfl,by kernel_rfl⟩
     (aAU (fun H E v=>aya) hI (by omega) (hg.valid k hlt) (hg.obj k hlt)) ?_
    show AB ak (CT Ak W5) (K0 H0 w0) 54 tdQ (LP m p b (m:Int) k (p k) (svE (σ.feed (p k)).1)) Uw (MW n o (σ.feed (p k)).2 b) φ;cases hx:(σ.feed (p k)).1 with
    |none=>
     refine CW aaJ (hC:=aeT) CTf 300 400 [⟨54,Zf,LT m p b (m:Int) (k+1:Nat),Uw⟩] ?_;have e:=c32 Ak W5 m p b (m:Int) k (k+1:Nat) (p k);rw[show svE aF=gV from rfl,e];refine ⟨⟨rfl,rfl,rfl,?_,ϖ⟩,_,rfl,Zm hg rm (k+1) _ (by omega) (hI.feed (hg.valid k hlt)) (by rw[TR hx,aBb]) (by simp_all [takeN])⟩;show Ak.add .i64 (k:Int) (ah 1)=((k+1:Nat):Int);grind [Ef,I7,CU]
    |some e=>
     refine CW aaJ (hC:=aeT) CTf 300 400 [] ?_;rw[show svE (aj e)=eG (.er e 322) from rfl,d32 Ak W5 m p b (m:Int) k (p k) e];have hφ':φ (resT (.inr (k,e))):=by simp_all [takeN]
     exact hφ'
  ·have:k=m:=by grind [Ar]
   have:rm=0:=by omega
   subst this;exact ⟨⟨rfl,ϖ⟩,_,rfl,aBa hI (by omega) hφ⟩
def aoV:Sh:=.sl 0 0 fun _=>[]
def F32:ϵ
 |[.agg [.sl 2 n g,.sl 8 m h]]=>.need (okB Oj n g) (.need (okB Ev m h) (.need (PX m h) (.node (FN n m) (.leaf (.Az [.sl 0 0 fun _=>[],.er 5 322])) (.node (EY n m g h)
   (.node (takeB m (Ap h)) (.leaf (.Az [.os 87 7 (H9 m (Ap h)).rs.length (TS Fq dfn (BO (H9 m (Ap h)))),.v .nilIface])) (.leaf (.Az [.sl 0 0 fun _=>[],.DK 184 (.pt [.i .i64 (VJ m (Ap h)),.er (VK m (Ap h)) 322])])))
   (.leaf (.Az [.sl 0 0 fun _=>[],.DK 184 (.pt [.i .i64 (Lr n m g h),.er (PY n m g h) 322])]))))))
 |_=>.fail
theorem O32:AO ak (NH W5) 40 F32:=by
 refine JA (CT Ak W5) nM (hC:=aeT) fun H w Bl args φ hrep h=>?_
 have hn:nM.ntmps=16:=by kernel_rfl
 unfold F32 at h;split at h
 ·rename_i n g m h'
  obtain ⟨h1,h2,h3,h4,h5⟩:=h;match args,hrep with
  |[v],⟨hv,_⟩=>
   rw[hn];refine ⟨[.agg [.sl 2 n (Am (Ap (α:=Oj) g)),.sl 8 m (Am (Ap (α:=Ev) h'))]],⟨VA hv h1 h2,ϖ⟩,L0,?_⟩;refine akD aeT CTf (hold:=apE) (m:=300) (n:=400) ?_;rw[a32 Ak W5 n m (Ap g) (Ap h'),adP];have hret:∀k,k<m->DN (Ap (α:=Ev) h' k).ret=ay:=fun k hk=>dh.1 h3 k (eF.2 hk);have hb0:FN n m=aA->FN n 0=aA:=fun q=>by
    simp_all [FN,decide_eq_false]
   have hgd:EY n m (Am (Ap (α:=Oj) g)) (Am (Ap (α:=Ev) h'))=EY n m g h':=by
    rfl
   refine ⟨Cb _ _,Cb _ _,dh.2 fun k hk=>?_,fun q=>h4 q,fun q=>⟨fun q2=>?_,fun q2=>?_⟩⟩
   ·simp_all [Nr,eF]
   ·have q3:EY n m g h'=ay:=hgd ▸ q2
    obtain ⟨hT,hF⟩:=(h5 q).1 q3;have G:=aeS q q3 hret;have hs:=G.small;have fin:∀b,AB ak (CT Ak W5) (K0 H w) 54 Zf (LT m (Ap h') b (m:Int) (0:Nat)) Uw (MW n (Ap g) iw b) φ:=fun b=>by
     refine Zm G m 0 iw (by omega) Au.OK.nil rfl ?_;show φ (resT (Ol m (Ap h')));unfold takeB at hT hF;unfold H9 at hT;unfold VJ VK at hF;cases hx:Ol m (Ap (α:=Ev) h') with
     |inl σ=>rw[hx] at hT;exact hT rfl |inr x=>rw[hx] at hF;exact hF rfl
    have own:∀nx tc,AB ak (CT Ak W5) (K0 H w) 54 Zf ⟨[jW [eG (aG 2 n (Am (Ap (α:=Oj) g))),eG (aG 8 m (Am (Ap (α:=Ev) h')))],jY 1 0,SV.Fj,gV,gV,jY 6 0,gV]++rep [.any] 6++[.bool aA]++rep [.any] 8++[.bool aA,.any,.any,eG (aG 8 m (Am (Ap (α:=Ev) h'))),.sym .i64 (Ak.AV m),.int .i64 (ah 0)]++rep [.any] 16,
      [(0,jZ [eG (aG 2 n (Am (Ap (α:=Oj) g))),eG (aG 8 m (Am (Ap (α:=Ev) h')))] 25),(1,jZ [eG (aG 2 n (Am (Ap (α:=Oj) g))),eG (aG 8 m (Am (Ap (α:=Ev) h')))] 25),(3,SB.own 94 2 (Ak.addN 0 n) (Ak.snoc (Bh []) 0 (Am (Ap (α:=Oj) g)))),(4,nJ .i64 (fun _=>aF) [] [] aF),(5,nJ .i64 (fun _=>aF) [] [] aF),(6,jZ [SV.gs 3,SV.int .i64 (ah 0),kE,rO 4,rO 5] 190)],nx,L0,tc⟩
      [{g:=40,td:=[nU [0,1] [1,2,3,4,5,6],aK [1,1]],tm:=[jW [eG (aG 2 n (Am (Ap (α:=Oj) g))),eG (aG 8 m (Am (Ap (α:=Ev) h')))],jY 0 0,kE,gV,.any,.any,.any,jW [eG (aG 2 n (Am (Ap (α:=Oj) g))),eG (aG 8 m (Am (Ap (α:=Ev) h')))]]++rep [.any] 8}] emp φ:=fun nx tc=>by
     refine abE (R':=MW n (Ap g) iw) (i0:=6) (fun i=>fC i 3) (fun H E w h hon hh hd=>au4 (n:=n) (n':=Ak.addN 0 n) (o:=Ap g) (o':=Ak.snoc (Bh []) 0 (Am (Ap (α:=Oj) g))) (fun i hi=>by rfl) (fU n) rfl hh hd) fun b=>?_
     refine Zk (c':=LT m (Ap h') b (m:Int) (0:Nat)) (KL:=Uw) ⟨?_,ϖ,rfl,rfl,rfl⟩ ⟨rfl,rfl,?_,ϖ⟩ (fin b)
     ·repeat' (first|exact ϖ|refine eU pS.any ?_|refine eU (fun _ _ _ h=>h) ?_)
     ·repeat' (first|exact ϖ|refine eU pS.any ?_|refine eU (fun _ _ _ h=>h) ?_)
    have nil:n=0->∀nx tc,AB ak (CT Ak W5) (K0 H w) 54 Zf ⟨[jW [eG (aG 2 n (Am (Ap (α:=Oj) g))),eG (aG 8 m (Am (Ap (α:=Ev) h')))],jY 1 0,SV.Fj,gV,gV,jY 4 0,gV]++rep [.any] 6++[.bool aA]++rep [.any] 8++[.bool aA,.any,.any,eG (aG 8 m (Am (Ap (α:=Ev) h'))),.sym .i64 (Ak.AV m),.int .i64 (ah 0)]++rep [.any] 16,
      [(0,jZ [eG (aG 2 n (Am (Ap (α:=Oj) g))),eG (aG 8 m (Am (Ap (α:=Ev) h')))] 25),(1,jZ [eG (aG 2 n (Am (Ap (α:=Oj) g))),eG (aG 8 m (Am (Ap (α:=Ev) h')))] 25),(2,nJ .i64 (fun _=>aF) [] [] aF),(3,nJ .i64 (fun _=>aF) [] [] aF),(4,jZ [kE,SV.int .i64 (ah 0),kE,rO 2,rO 3] 190)],nx,L0,tc⟩
      [{g:=40,td:=[nU [0,1] [1,2,3,4,5,6],aK [1,1]],tm:=[jW [eG (aG 2 n (Am (Ap (α:=Oj) g))),eG (aG 8 m (Am (Ap (α:=Ev) h')))],jY 0 0,kE,gV,.any,.any,.any,jW [eG (aG 2 n (Am (Ap (α:=Oj) g))),eG (aG 8 m (Am (Ap (α:=Ev) h')))]]++rep [.any] 8}] emp φ:=fun hz nx tc=>by
     refine abE (R':=MW n (Ap g) iw) (i0:=4) (fun i=>fC i 2) (fun H E w h hon hh hd=>au5 (n:=n) (o:=Ap g) hz rfl hh hd) fun b=>?_
     refine Zk (c':=LT m (Ap h') b (m:Int) (0:Nat)) (KL:=Uw) ⟨?_,ϖ,rfl,rfl,rfl⟩ ⟨rfl,rfl,?_,ϖ⟩ (fin b)
     ·repeat' (first|exact ϖ|refine eU pS.any ?_|refine eU (fun _ _ _ h=>h) ?_)
     ·repeat' (first|exact ϖ|refine eU pS.any ?_|refine eU (fun _ _ _ h=>h) ?_)
    have hrm:Ak.room (Ak.addN 0 n) 16=ay:=by rw[Dl,fU];grind [Zl]
    refine ⟨Cb _ _,rfl,rfl,fun q4=>?_,fun _=>⟨fun _=>⟨fun q5=>⟨nil (by grind [aar]) _ _,hrm,own _ _⟩,fun _=>⟨hrm,own _ _⟩⟩,fun q5=>?_⟩⟩
    ·simp_all
    ·exfalso
     unfold EY Xa at q3 q5;rw[Nr] at q5;grind [IX,TM,Ap]
   ·have q3:EY n m g h'=aA:=hgd ▸ q2
    have:=(h5 q).2 q3;assumption
 ·exact h.elim
end Go.BX
namespace Go.Pl
open Go Go.Sx Go.Proofs
open Go.BI (Ev De Rc Au nth BO FC H7 Du)
def waR(r:Rc):Bool:=waB r.AA.length (bJ r.AA)
structure apO(c:Bool)(r:Rc):Prop where
 en:0<=r.en↔r.stand=5
 tr:r.stand≠5->(0<=r.tr↔r.stand=3)
 cn:r.stand≠5->(c=ay↔r.stand=4)
 wa:r.stand≠5->r.stand≠3->r.stand≠4->(waR r=ay↔r.stand=2)
structure Zn(σ:Au)(cs:List Int):Prop where
 st:∀r∈σ.rs,apO (cs.contains r.id) r
 id:∀(i j:Nat) (r s:Rc),σ.rs[i]?=aj r->σ.rs[j]?=aj s->r.id=s.id->i=j
 own:∀x∈cs,∃r∈σ.rs,r.id=x
 len:cs.length<=σ.many
def Ua(kd:Int)(c:Bool)(r:Rc):Bool:=
 bif decide (0<=r.en) then aA
 else bif kd==2||kd==4||kd==7 then !(decide (0<=r.tr)||c) && !waR r
 else bif kd==3 then !(decide (0<=r.tr)||c)&&waR r
 else bif kd==5 then decide (0<=r.tr) else ay
def G9(σ:Au)(cs:List Int)(e:Ev):Int:=
 match σ.H8 e.tx with
 |some i=>bif e.kind==1 then 114 else bif Ua e.kind (cs.contains e.tx) (BO σ i) then (bif e.kind==3 && !H7 ((BO σ i).AA.getLast?.getD je).op e.ret then 112 else 0) else 116 |none=>bif e.kind==1 then (match σ.KO e.thread with
  |some _=>115 |none=>0) else 113
def Zo(cs:List Int)(e:Ev):List Int:=if e.kind=7 then cs++[e.tx] else cs
theorem by_some{σ:Au}{x:Int}{i:Nat}(h:σ.H8 x=aj i):∃r,σ.rs[i]?=aj r/\r.id=x:=by
 have:=List.findIdx?_eq_some_iff_getElem.1 h;grind
theorem KA{σ:Au}{i:Nat}{r:Rc}(h:σ.rs[i]?=aj r):BO σ i=r:=by
 simp_all [BO,bI]
theorem alV{kd:Int}{c:Bool}{r:Rc}(h:apO c r)(h1:1<=r.stand/\r.stand<=5)(hk:2<=kd/\kd<=7)(many:Nat)(e:Ev)(he:e.kind=kd):
  ((fD many e r).isRight=ay↔Ua kd c r=ay/\(kd=3->H7 (r.AA.getLast?.getD je).op e.ret=ay)):=by
 obtain ⟨a1,a2,a3,a4⟩:=h;have hs:r.stand=1\/r.stand=2\/r.stand=3\/r.stand=4\/r.stand=5:=by omega
 have hkk:kd=2\/kd=3\/kd=4\/kd=5\/kd=6\/kd=7:=by omega
 unfold fD Ua;grind
theorem aeV{σ:Au}{cs:List Int}{e:Ev}(hI:Zn σ cs)(hO:σ.OK)(hv:1<=e.kind/\e.kind<=7):G9 σ cs e=0↔(σ.feed e).1=aF:=by
 unfold G9 kU;cases hb:σ.H8 e.tx with
 |some i=>
  obtain ⟨r,hr,hid⟩:=by_some hb;have hg:σ.rs.getD i ⟨0,0,0,0,0,0,[],0⟩=r:=by simp_all
  simp only[KA hr,hg];by_cases k1:e.kind=1
  ·simp[k1]
  ·have b1:(e.kind==1)=aA:=by grind
   simp only[b1,ϗ];have hc:=alV (kd:=e.kind) (hI.st r (bK hr)) (hO.stands i r hr) (by omega) σ.many e rfl;grind
 |none=>
  grind
theorem ayb(a b c d e f g:Int):waR ⟨a,b,c,d,e,f,[],g⟩=aA:=rfl
theorem ayc(r:Rc)(d:De)(hd:d.back<0)(st:Int):waR {r with stand:=st,AA:=r.AA++[d]}=ay:=by
 grind [waR,waB,bJ]
theorem aBd(r:Rc)(f:De->De)(hf:∀d,0<=(f d).back)(st:Int):waR {r with stand:=st,AA:=FC f r.AA}=aA:=by
 unfold waR waB;have hl:=pO f r.AA;grind [rP]
theorem avr{many:Nat}{e:Ev}{r r':Rc}{c:Bool}(h:apO c r)(h1:1<=r.stand/\r.stand<=5)(hk:2<=e.kind/\e.kind<=7)(hs:fD many e r=.inr r'):apO (c||e.kind==7) r'/\r'.id=r.id:=by
 obtain ⟨a1,a2,a3,a4⟩:=h;have hkk:e.kind=2\/e.kind=3\/e.kind=4\/e.kind=5\/e.kind=6\/e.kind=7:=by omega
 have hst:r.stand=1\/r.stand=2\/r.stand=3\/r.stand=4\/r.stand=5:=by omega
 unfold fD at hs;rcases hkk with k|k|k|k|k|k<;>rcases hst with q|q|q|q|q<;>simp[k,q] at hs a1 a2 a3 a4 ⊢
 ·subst hs
  exact ⟨⟨by grind,by grind,by grind,fun _ _ _=>⟨fun _=>rfl,fun _=>ayc r _ (show (-1:Int)<0 by decide) 2⟩⟩,rfl⟩
 ·cases hf:H7 (r.AA.getLast?.getD je).op e.ret
  ·simp_all
  ·rw[hf] at hs
   have hs:Sum.inr _=Sum.inr r':=hs;cases hs;exact ⟨⟨by grind,by grind,by grind,fun _ _ _=>⟨fun h=>(by simp_all [aBd]),fun h=>by simp at h⟩⟩,rfl⟩
 ·subst hs
  exact ⟨⟨by grind,by simp,by grind,by simp⟩,rfl⟩
 ·subst hs
  exact ⟨⟨by simp,by simp,by simp,by simp⟩,rfl⟩
 all_goals
  subst hs;exact ⟨⟨by simp<;>omega,by simp<;>omega,by simp,by simp⟩,rfl⟩
theorem apP(cs:List Int)(e:Ev)(x:Int):(Zo cs e).contains x=(cs.contains x||(e.kind==7&&e.tx==x)):=by
 unfold Zo;grind
theorem ahu{σ:Au}{cs:List Int}{e:Ev}(hI:Zn σ cs)(hO:σ.OK)(hv:1<=e.kind/\e.kind<=7)(h:(σ.feed e).1=aF):Zn (σ.feed e).2 (Zo cs e):=by
 have hm:=sJ h;have hl:(Zo cs e).length<=(σ.feed e).2.many:=by
  have:=hI.len;grind [Zo]
 revert h hm hl;unfold kU;cases hb:σ.H8 e.tx with
 |some i=>
  obtain ⟨r,hr,hid⟩:=by_some hb;have hg:σ.rs.getD i ⟨0,0,0,0,0,0,[],0⟩=r:=by simp_all
  simp only[hg];by_cases k1:e.kind=1
  ·simp[k1]
  have b1:(e.kind==1)=aA:=by grind
  simp only[b1,ϗ];cases h2:fD σ.many e r with
  |inl k=>simp |inr r'=>
   intro _ _ hl;have hlt:=(bf.1 hr).1;obtain ⟨q1,q2⟩:=avr (hI.st r (bK hr)) (hO.stands i r hr) (by omega) h2;have at_:∀{j:Nat} {s:Rc},(σ.rs.set i r')[j]?=aj s->(j=i/\s=r')\/(j≠i/\σ.rs[j]?=aj s):=fun {j s} hj=>by
    grind
   refine ⟨fun s hs=>?_,fun a b x y ha hb e1=>?_,fun x hx=>?_,hl⟩
   ·obtain ⟨j,hj⟩:=dw.1 hs
    rcases at_ hj with ⟨rfl,rfl⟩ |⟨hn,hj'⟩
    ·grind [apP]
    ·have hne:s.id≠e.tx:=fun q=>hn (hI.id j i s r hj' hr (by rw[q,hid]))
     rw[apP,show (e.tx==s.id)=aA by grind,Bool.and_false,Bool.or_false];exact hI.st s (bK hj')
   ·rcases at_ ha with ⟨rfl,rfl⟩ |⟨n1,ha'⟩<;>rcases at_ hb with ⟨rfl,rfl⟩ |⟨n2,hb'⟩
    ·rfl
    ·exact (n2 (hI.id _ _ _ _ hr hb' (by omega)).symm).elim
    ·exact (n1 (hI.id _ _ _ _ ha' hr (by omega))).elim
    ·exact hI.id _ _ _ _ ha' hb' e1
   ·have hin:∀y,(∃s∈σ.rs,s.id=y)->∃s∈σ.rs.set i r',s.id=y:=fun y ⟨s,hs,e1⟩=>by
     grind [dw]
    unfold Zo at hx;split at hx
    ·rcases bQ.1 hx with hx|hx
     ·exact hin x (hI.own x hx)
     grind
    ·exact hin x (hI.own x hx)
 |none=>
  have hno:∀s∈σ.rs,s.id≠e.tx:=fun s hs=>by
   have:=List.findIdx?_eq_none_iff.1 hb s hs;simp_all
  cases k1:(e.kind==1) with
  |false=>simp |true=>
   have k1':e.kind=1:=by grind
   simp only[ϰ];cases hbu:σ.KO e.thread with
   |some j=>simp |none=>
    intro _ _ hl;have hc:Zo cs e=cs:=if_neg (by omega);rw[hc] at hl ⊢;refine ⟨fun s hs=>?_,fun a b x y ha hb e1=>?_,fun x hx=>?_,hl⟩
    ·rcases bQ.1 hs with hs|hs
     ·exact hI.st s hs
     ·obtain rfl:s=_:=by simpa using hs
      have:cs.contains e.tx=aA:=by
       rw[Bool.eq_false_iff];intro q;obtain ⟨s,h1,h2⟩:=hI.own e.tx (by simpa using q);simp_all
      exact ⟨by simp,by simp,by simp_all,fun _ _ _=>by rw[ayb];simp⟩
    ·have at_:∀{j:Nat} {s x:Rc},(σ.rs++[x])[j]?=aj s->(j=σ.rs.length/\s=x)\/(j<σ.rs.length/\σ.rs[j]?=aj s):=fun {j s x} hj=>by
      grind
     rcases at_ ha with ⟨rfl,rfl⟩ |⟨n1,ha'⟩<;>rcases at_ hb with ⟨rfl,rfl⟩ |⟨n2,hb'⟩
     ·rfl
     ·grind
     ·grind
     ·exact hI.id _ _ _ _ ha' hb' e1
    ·obtain ⟨s,h1,h2⟩:=hI.own x hx
     grind
theorem aeW:Zn iw []:=⟨fun r hr=>(nomatch hr),fun i j r s h=>(by simp[iw] at h),fun x hx=>(nomatch hx),Nat.le_refl _⟩
open Go.BI (Ev QZ De Rc)
def jX(tx:Nat->Rc)(k:Nat)(e:Ev):Int:=fdX (Ap (EZ tx)) k e.tx
def bX(tx:Nat->Rc)(k:Nat)(e:Ev):Int:=byX (Ap (EZ tx)) k e.thread
def cX(gc:ϝ)(c:Nat)(r:Rc):Bool:=cnX (Ap gc) c r.id
def wX(r:Rc):Bool:=waB r.AA.length (Go.BI.Ap (aS (bJ r.AA)))
def fX(r:Rc)(e:Ev):Bool:=Go.BI.H7 (bJ r.AA (Ak.toN (Ak.sub .i64 (Ak.AV r.AA.length) 1))).op e.ret
def LM(r:Rc)(st en tr:Int)(D:Sh):List Sh:=[.i .i64 r.id,.i .i64 r.th,.i .i64 st,.i .i64 r.bg,.i .i64 en,.i .i64 tr,D]
def Et(i:Nat)(c:Int):Sh:=.Az [.sl 0 0 fun _=>[],.agg [.i .i64 c,.os 3 1 1 (Bh [[.i .i64 (i:Int)]])]]
structure RdP(n:Nat)(o:Nat->Oj)(k:Nat)(tx:Nat->Rc)(c:Nat)(gc:ϝ)(e:Ev)(q:Int):Prop where
 hq:Ak.eq q 400=aA
 on:Qe n o e=0
 ht:okB VI k (EZ tx)=ay
 hk:k<=1000
 hc:okB Int c gc=ay
 hl:c<=1000
 hd:∀j,j<k->(tx j).AA.length<=1000
end Go.Pl
namespace Go.Proofs
open Go Go.Sx Go.Pl
open Go.BI (Ev QZ De Rc)
section
variable{H0:Mem}{w0:World}{φ:Sh->Prop}{n m:Nat}{o:Nat->Oj}{ev:ϝ}{k c:Nat}{tx:Nat->Rc}{gc:ϝ}{ft:Int}{fk:Nat}{fg:ϝ}{i:Nat}{q:Int}{e:Ev}
theorem apQ{f:Nat->Bool}:∀r k,UH f k r<((k+r:Nat):Int)
 |0,k=>by unfold UH;omega |r+1,k=>by
  unfold UH;split
  ·omega
  ·have:=apQ (f:=f) r (k+1);omega
theorem Gi(h:Ak.lt (jX tx k e) 0=aA):Ak.inB (jX tx k e) k=ay:=by
 have:=apQ (f:=fun j=>(Ap (α:=VI) (EZ tx) j).id==e.tx) k 0;simp_all [jX,Ar,fdX,AX]
theorem NM(P:RdP n o k tx c gc e q)(h:Ak.lt (jX tx k e) 0=aA):(tx (Ak.toN (jX tx k e))).AA.length<=1000:=by
 have:=Gi h;simp[AX] at this;exact P.hd _ (by simp[Cm];omega)
theorem aBe(P:RdP n o k tx c gc e q):decide (Qe n (Ap (Am o)) e=0)=ay:=by
 rw[show Ap (Am o)=o from H6 o];exact ϱ P.on
theorem Ub{kd:Int}(P:RdP n o k tx c gc e q)(ke:e.kind=kd):decide (Qe n (Ap (Am o)) ⟨kd,e.tx,e.thread,e.obj,e.op,e.key,e.val,e.ret⟩=0)=ay:=by subst ke;exact aBe P
theorem aiT{r:Rc}(hd:r.AA.length<=1000)(h:wX r=ay):Ak.inB (Ak.sub .i64 (Ak.AV r.AA.length) 1) r.AA.length=ay:=by
 grind [wX,waB,E5,AX]
theorem arF(P:RdP n o k tx c gc e q)(ke:e.kind=1)(hr:Ak.room (k+1) 72=ay)(hb:∀x:Int,x≠0->(bif Ak.le 0 (jX tx k e) then 114 else bif Ak.le 0 (bX tx k e) then 115 else 0)=x->φ (Et i x))
  (hgo:(bif Ak.le 0 (jX tx k e) then 114 else bif Ak.le 0 (bX tx k e) then 115 else 0:Int)=0->AB ak (ED Ak W7 FI Aw) (K0 H0 w0) 34 F8 (Gs n o m ev (k+1) (Ak.snoc (EZ tx) k (Bh [[.i .i64 e.tx,.i .i64 e.thread,.i .i64 1,.i .i64 q,.i .i64 (-1),.i .i64 (-1),.sl 0 0 fun _=>[]]])) c gc ft fk fg (Ak.add .i64 (i:Int) 1) (Ak.add .i64 q 1)) [] emp φ) :
  AB ak (ED Ak W7 FI Aw) (K0 H0 w0) 34 Q9 (Xe n o m ev k (EZ tx) c gc ft fk fg (i:Nat) q (evK 1 e)) [] emp φ:=by
 refine BZ (TU _) 300 800 [⟨34,F8,(Gs n o m ev (k+1) (Ak.snoc (EZ tx) k (Bh [[.i .i64 e.tx,.i .i64 e.thread,.i .i64 1,.i .i64 q,.i .i64 (-1),.i .i64 (-1),.sl 0 0 fun _=>[]]])) c gc ft fk fg (Ak.add .i64 (i:Int) 1) (Ak.add .i64 q 1)),[]⟩] ?_;exact D9 (nd (Ak.eq q 400) (fun a=>(Vy P.hq a:φ (Et i 105))) fun _=>an (Cb o n) (an (Ub P ke) (an P.ht (an (ϱ P.hk) (nd (Ak.le 0 (jX tx k e)) (fun a=>(hb 114 (by decide) (by rw[a];rfl):φ (Et i 114))) fun a=>an P.ht (an (ϱ P.hk) (nd (Ak.le 0 (bX tx k e)) (fun b=>(hb 115 (by decide) (by grind):φ (Et i 115))) fun b=>an hr (an hr (hgo (by grind):AB ak (ED Ak W7 FI Aw) (K0 H0 w0) 34 F8 (Gs n o m ev (k+1) (Ak.snoc (EZ tx) k (Bh [[.i .i64 e.tx,.i .i64 e.thread,.i .i64 1,.i .i64 q,.i .i64 (-1),.i .i64 (-1),.sl 0 0 fun _=>[]]])) c gc ft fk fg (Ak.add .i64 (i:Int) 1) (Ak.add .i64 q 1)) [] emp φ)))))))))
theorem arG(P:RdP n o k tx c gc e q)(ke:e.kind=2)(hr:Ak.lt (jX tx k e) 0=aA->Ak.room ((tx (Ak.toN (jX tx k e))).AA.length+1) 64=ay)(hb:∀x:Int,x≠0->(bif Ak.lt (jX tx k e) 0 then 113 else bif Ak.le 0 (tx (Ak.toN (jX tx k e))).en then 116 else bif Ak.le 0 (tx (Ak.toN (jX tx k e))).tr then 116 else bif Ak.nt (cX gc c (tx (Ak.toN (jX tx k e)))) then bif Ak.nt (Ak.nt (wX (tx (Ak.toN (jX tx k e))))) then 116 else 0 else 116)=x->φ (Et i x))
  (hgo:(bif Ak.lt (jX tx k e) 0 then 113 else bif Ak.le 0 (tx (Ak.toN (jX tx k e))).en then 116 else bif Ak.le 0 (tx (Ak.toN (jX tx k e))).tr then 116 else bif Ak.nt (cX gc c (tx (Ak.toN (jX tx k e)))) then bif Ak.nt (Ak.nt (wX (tx (Ak.toN (jX tx k e))))) then 116 else 0 else 116:Int)=0->AB ak (ED Ak W7 FI Aw) (K0 H0 w0) 34 F8 (Gs n o m ev k (Ak.upd (EZ tx) (Ak.toN (jX tx k e)) 0 (LM (tx (Ak.toN (jX tx k e))) (tx (Ak.toN (jX tx k e))).st (tx (Ak.toN (jX tx k e))).en (tx (Ak.toN (jX tx k e))).tr (.sl 8 ((tx (Ak.toN (jX tx k e))).AA.length+1) (Ak.snoc (aS (bJ (tx (Ak.toN (jX tx k e))).AA)) (tx (Ak.toN (jX tx k e))).AA.length (Bh [[.i .i64 e.obj,.i .i64 e.op,.i .i64 e.key,.i .i64 e.val,.i .i64 0,.i .i64 0,.i .i64 q,.i .i64 (-1)]]))))) c gc ft fk fg (Ak.add .i64 (i:Int) 1) (Ak.add .i64 q 1)) [] emp φ) :
  AB ak (ED Ak W7 FI Aw) (K0 H0 w0) 34 Q9 (Xe n o m ev k (EZ tx) c gc ft fk fg (i:Nat) q (evK 2 e)) [] emp φ:=by
 refine BZ (TU _) 300 800 [⟨34,F8,(Gs n o m ev k (Ak.upd (EZ tx) (Ak.toN (jX tx k e)) 0 (LM (tx (Ak.toN (jX tx k e))) (tx (Ak.toN (jX tx k e))).st (tx (Ak.toN (jX tx k e))).en (tx (Ak.toN (jX tx k e))).tr (.sl 8 ((tx (Ak.toN (jX tx k e))).AA.length+1) (Ak.snoc (aS (bJ (tx (Ak.toN (jX tx k e))).AA)) (tx (Ak.toN (jX tx k e))).AA.length (Bh [[.i .i64 e.obj,.i .i64 e.op,.i .i64 e.key,.i .i64 e.val,.i .i64 0,.i .i64 0,.i .i64 q,.i .i64 (-1)]]))))) c gc ft fk fg (Ak.add .i64 (i:Int) 1) (Ak.add .i64 q 1)),[]⟩] ?_;exact D9 (nd (Ak.eq q 400) (fun a=>(Vy P.hq a:φ (Et i 105))) fun _=>an (Cb o n) (an (Ub P ke) (an P.ht (an (ϱ P.hk) (nd (Ak.lt (jX tx k e) 0) (fun a=>(hb 113 (by decide) (by rw[a];rfl):φ (Et i 113))) fun j0=>an (Gi j0) (nd (Ak.le 0 (tx (Ak.toN (jX tx k e))).en) (fun a=>(hb 116 (by decide) (by grind):φ (Et i 116))) fun a=>nd (Ak.le 0 (tx (Ak.toN (jX tx k e))).tr) (fun b=>(hb 116 (by decide) (by simp_all):φ (Et i 116))) fun b=>an P.hc (an (ϱ P.hl) (nd (Ak.nt (cX gc c (tx (Ak.toN (jX tx k e))))) (fun x=>an (eY (bJ (tx (Ak.toN (jX tx k e))).AA) (tx (Ak.toN (jX tx k e))).AA.length) (an (ϱ (NM P j0)) (nd (Ak.nt (Ak.nt (wX (tx (Ak.toN (jX tx k e)))))) (fun y=>(hb 116 (by decide) (by simp_all):φ (Et i 116))) fun y=>an P.ht (an (ϱ P.hk) (an (Gi j0) (an (eY (bJ (tx (Ak.toN (jX tx k e))).AA) (tx (Ak.toN (jX tx k e))).AA.length) (an (ϱ (NM P j0)) (an (hr j0) (an (Gi j0) (hgo (by simp_all):AB ak (ED Ak W7 FI Aw) (K0 H0 w0) 34 F8 (Gs n o m ev k (Ak.upd (EZ tx) (Ak.toN (jX tx k e)) 0 (LM (tx (Ak.toN (jX tx k e))) (tx (Ak.toN (jX tx k e))).st (tx (Ak.toN (jX tx k e))).en (tx (Ak.toN (jX tx k e))).tr (.sl 8 ((tx (Ak.toN (jX tx k e))).AA.length+1) (Ak.snoc (aS (bJ (tx (Ak.toN (jX tx k e))).AA)) (tx (Ak.toN (jX tx k e))).AA.length (Bh [[.i .i64 e.obj,.i .i64 e.op,.i .i64 e.key,.i .i64 e.val,.i .i64 0,.i .i64 0,.i .i64 q,.i .i64 (-1)]]))))) c gc ft fk fg (Ak.add .i64 (i:Int) 1) (Ak.add .i64 q 1)) [] emp φ)))))))))) fun x=>(hb 116 (by decide) (by simp_all):φ (Et i 116))))))))))
theorem arH(P:RdP n o k tx c gc e q)(ke:e.kind=3)(hb:∀x:Int,x≠0->(bif Ak.lt (jX tx k e) 0 then 113 else bif Ak.le 0 (tx (Ak.toN (jX tx k e))).en then 116 else bif Ak.le 0 (tx (Ak.toN (jX tx k e))).tr then 116 else bif Ak.nt (cX gc c (tx (Ak.toN (jX tx k e)))) then bif Ak.nt (wX (tx (Ak.toN (jX tx k e)))) then 116 else bif Ak.nt (fX (tx (Ak.toN (jX tx k e))) e) then 112 else 0 else 116)=x->φ (Et i x))
  (hgo:(bif Ak.lt (jX tx k e) 0 then 113 else bif Ak.le 0 (tx (Ak.toN (jX tx k e))).en then 116 else bif Ak.le 0 (tx (Ak.toN (jX tx k e))).tr then 116 else bif Ak.nt (cX gc c (tx (Ak.toN (jX tx k e)))) then bif Ak.nt (wX (tx (Ak.toN (jX tx k e)))) then 116 else bif Ak.nt (fX (tx (Ak.toN (jX tx k e))) e) then 112 else 0 else 116:Int)=0->AB ak (ED Ak W7 FI Aw) (K0 H0 w0) 34 F8 (Gs n o m ev k (Ak.upd (EZ tx) (Ak.toN (jX tx k e)) 0 (LM (tx (Ak.toN (jX tx k e))) (tx (Ak.toN (jX tx k e))).st (tx (Ak.toN (jX tx k e))).en (tx (Ak.toN (jX tx k e))).tr (.sl 8 (tx (Ak.toN (jX tx k e))).AA.length (Ak.upd (Ak.upd (Ak.upd (aS (bJ (tx (Ak.toN (jX tx k e))).AA)) (Ak.toN (Ak.sub .i64 (Ak.AV (tx (Ak.toN (jX tx k e))).AA.length) 1)) 4 [.i .i64 e.ret]) (Ak.toN (Ak.sub .i64 (Ak.AV (tx (Ak.toN (jX tx k e))).AA.length) 1)) 5 [.i .i64 e.val]) (Ak.toN (Ak.sub .i64 (Ak.AV (tx (Ak.toN (jX tx k e))).AA.length) 1)) 7 [.i .i64 q])))) c gc ft fk fg (Ak.add .i64 (i:Int) 1) (Ak.add .i64 q 1)) [] emp φ) :
  AB ak (ED Ak W7 FI Aw) (K0 H0 w0) 34 Q9 (Xe n o m ev k (EZ tx) c gc ft fk fg (i:Nat) q (evK 3 e)) [] emp φ:=by
 refine BZ (TU _) 300 800 [⟨34,F8,(Gs n o m ev k (Ak.upd (EZ tx) (Ak.toN (jX tx k e)) 0 (LM (tx (Ak.toN (jX tx k e))) (tx (Ak.toN (jX tx k e))).st (tx (Ak.toN (jX tx k e))).en (tx (Ak.toN (jX tx k e))).tr (.sl 8 (tx (Ak.toN (jX tx k e))).AA.length (Ak.upd (Ak.upd (Ak.upd (aS (bJ (tx (Ak.toN (jX tx k e))).AA)) (Ak.toN (Ak.sub .i64 (Ak.AV (tx (Ak.toN (jX tx k e))).AA.length) 1)) 4 [.i .i64 e.ret]) (Ak.toN (Ak.sub .i64 (Ak.AV (tx (Ak.toN (jX tx k e))).AA.length) 1)) 5 [.i .i64 e.val]) (Ak.toN (Ak.sub .i64 (Ak.AV (tx (Ak.toN (jX tx k e))).AA.length) 1)) 7 [.i .i64 q])))) c gc ft fk fg (Ak.add .i64 (i:Int) 1) (Ak.add .i64 q 1)),[]⟩] ?_;exact D9 (nd (Ak.eq q 400) (fun a=>(Vy P.hq a:φ (Et i 105))) fun _=>an (Cb o n) (an (Ub P ke) (an P.ht (an (ϱ P.hk) (nd (Ak.lt (jX tx k e) 0) (fun a=>(hb 113 (by decide) (by rw[a];rfl):φ (Et i 113))) fun j0=>an (Gi j0) (nd (Ak.le 0 (tx (Ak.toN (jX tx k e))).en) (fun a=>(hb 116 (by decide) (by grind):φ (Et i 116))) fun a=>nd (Ak.le 0 (tx (Ak.toN (jX tx k e))).tr) (fun b=>(hb 116 (by decide) (by simp_all):φ (Et i 116))) fun b=>an P.hc (an (ϱ P.hl) (nd (Ak.nt (cX gc c (tx (Ak.toN (jX tx k e))))) (fun x=>an (eY (bJ (tx (Ak.toN (jX tx k e))).AA) (tx (Ak.toN (jX tx k e))).AA.length) (an (ϱ (NM P j0)) (nd (Ak.nt (wX (tx (Ak.toN (jX tx k e))))) (fun y=>(hb 116 (by decide) (by simp_all):φ (Et i 116))) fun y=>an (aiT (NM P j0) (by grind [BG])) (nd (Ak.nt (fX (tx (Ak.toN (jX tx k e))) e)) (fun z=>(hb 112 (by decide) (by simp_all):φ (Et i 112))) fun z=>an P.ht (an (ϱ P.hk) (an (Gi j0) (an (eY (bJ (tx (Ak.toN (jX tx k e))).AA) (tx (Ak.toN (jX tx k e))).AA.length) (an (ϱ (NM P j0)) (an (aiT (NM P j0) (by grind [BG])) (an (aiT (NM P j0) (by grind [BG])) (an (aiT (NM P j0) (by grind [BG])) (an (Gi j0) (hgo (by simp_all):AB ak (ED Ak W7 FI Aw) (K0 H0 w0) 34 F8 (Gs n o m ev k (Ak.upd (EZ tx) (Ak.toN (jX tx k e)) 0 (LM (tx (Ak.toN (jX tx k e))) (tx (Ak.toN (jX tx k e))).st (tx (Ak.toN (jX tx k e))).en (tx (Ak.toN (jX tx k e))).tr (.sl 8 (tx (Ak.toN (jX tx k e))).AA.length (Ak.upd (Ak.upd (Ak.upd (aS (bJ (tx (Ak.toN (jX tx k e))).AA)) (Ak.toN (Ak.sub .i64 (Ak.AV (tx (Ak.toN (jX tx k e))).AA.length) 1)) 4 [.i .i64 e.ret]) (Ak.toN (Ak.sub .i64 (Ak.AV (tx (Ak.toN (jX tx k e))).AA.length) 1)) 5 [.i .i64 e.val]) (Ak.toN (Ak.sub .i64 (Ak.AV (tx (Ak.toN (jX tx k e))).AA.length) 1)) 7 [.i .i64 q])))) c gc ft fk fg (Ak.add .i64 (i:Int) 1) (Ak.add .i64 q 1)) [] emp φ))))))))))))) fun x=>(hb 116 (by decide) (by simp_all):φ (Et i 116))))))))))
theorem arI(P:RdP n o k tx c gc e q)(ke:e.kind=4)(hb:∀x:Int,x≠0->(bif Ak.lt (jX tx k e) 0 then 113 else bif Ak.le 0 (tx (Ak.toN (jX tx k e))).en then 116 else bif Ak.le 0 (tx (Ak.toN (jX tx k e))).tr then 116 else bif Ak.nt (cX gc c (tx (Ak.toN (jX tx k e)))) then bif Ak.nt (Ak.nt (wX (tx (Ak.toN (jX tx k e))))) then 116 else 0 else 116)=x->φ (Et i x))
  (hgo:(bif Ak.lt (jX tx k e) 0 then 113 else bif Ak.le 0 (tx (Ak.toN (jX tx k e))).en then 116 else bif Ak.le 0 (tx (Ak.toN (jX tx k e))).tr then 116 else bif Ak.nt (cX gc c (tx (Ak.toN (jX tx k e)))) then bif Ak.nt (Ak.nt (wX (tx (Ak.toN (jX tx k e))))) then 116 else 0 else 116:Int)=0->AB ak (ED Ak W7 FI Aw) (K0 H0 w0) 34 F8 (Gs n o m ev k (Ak.upd (EZ tx) (Ak.toN (jX tx k e)) 0 (LM (tx (Ak.toN (jX tx k e))) 2 (tx (Ak.toN (jX tx k e))).en q (.sl 8 (tx (Ak.toN (jX tx k e))).AA.length (aS (bJ (tx (Ak.toN (jX tx k e))).AA))))) c gc ft fk fg (Ak.add .i64 (i:Int) 1) (Ak.add .i64 q 1)) [] emp φ) :
  AB ak (ED Ak W7 FI Aw) (K0 H0 w0) 34 Q9 (Xe n o m ev k (EZ tx) c gc ft fk fg (i:Nat) q (evK 4 e)) [] emp φ:=by
 refine BZ (TU _) 300 800 [⟨34,F8,(Gs n o m ev k (Ak.upd (EZ tx) (Ak.toN (jX tx k e)) 0 (LM (tx (Ak.toN (jX tx k e))) 2 (tx (Ak.toN (jX tx k e))).en q (.sl 8 (tx (Ak.toN (jX tx k e))).AA.length (aS (bJ (tx (Ak.toN (jX tx k e))).AA))))) c gc ft fk fg (Ak.add .i64 (i:Int) 1) (Ak.add .i64 q 1)),[]⟩] ?_;exact D9 (nd (Ak.eq q 400) (fun a=>(Vy P.hq a:φ (Et i 105))) fun _=>an (Cb o n) (an (Ub P ke) (an P.ht (an (ϱ P.hk) (nd (Ak.lt (jX tx k e) 0) (fun a=>(hb 113 (by decide) (by rw[a];rfl):φ (Et i 113))) fun j0=>an (Gi j0) (nd (Ak.le 0 (tx (Ak.toN (jX tx k e))).en) (fun a=>(hb 116 (by decide) (by grind):φ (Et i 116))) fun a=>nd (Ak.le 0 (tx (Ak.toN (jX tx k e))).tr) (fun b=>(hb 116 (by decide) (by simp_all):φ (Et i 116))) fun b=>an P.hc (an (ϱ P.hl) (nd (Ak.nt (cX gc c (tx (Ak.toN (jX tx k e))))) (fun x=>an (eY (bJ (tx (Ak.toN (jX tx k e))).AA) (tx (Ak.toN (jX tx k e))).AA.length) (an (ϱ (NM P j0)) (nd (Ak.nt (Ak.nt (wX (tx (Ak.toN (jX tx k e)))))) (fun y=>(hb 116 (by decide) (by simp_all):φ (Et i 116))) fun y=>an P.ht (an (ϱ P.hk) (an (Gi j0) (an (eY (bJ (tx (Ak.toN (jX tx k e))).AA) (tx (Ak.toN (jX tx k e))).AA.length) (an (ϱ (NM P j0)) (an (Gi j0) (hgo (by simp_all):AB ak (ED Ak W7 FI Aw) (K0 H0 w0) 34 F8 (Gs n o m ev k (Ak.upd (EZ tx) (Ak.toN (jX tx k e)) 0 (LM (tx (Ak.toN (jX tx k e))) 2 (tx (Ak.toN (jX tx k e))).en q (.sl 8 (tx (Ak.toN (jX tx k e))).AA.length (aS (bJ (tx (Ak.toN (jX tx k e))).AA))))) c gc ft fk fg (Ak.add .i64 (i:Int) 1) (Ak.add .i64 q 1)) [] emp φ))))))))) fun x=>(hb 116 (by decide) (by simp_all):φ (Et i 116))))))))))
theorem arJ(P:RdP n o k tx c gc e q)(ke:e.kind=5)(hb:∀x:Int,x≠0->(bif Ak.lt (jX tx k e) 0 then 113 else bif Ak.le 0 (tx (Ak.toN (jX tx k e))).en then 116 else bif Ak.nt (Ak.le 0 (tx (Ak.toN (jX tx k e))).tr) then 116 else 0)=x->φ (Et i x))
  (hgo:(bif Ak.lt (jX tx k e) 0 then 113 else bif Ak.le 0 (tx (Ak.toN (jX tx k e))).en then 116 else bif Ak.nt (Ak.le 0 (tx (Ak.toN (jX tx k e))).tr) then 116 else 0:Int)=0->AB ak (ED Ak W7 FI Aw) (K0 H0 w0) 34 F8 (Gs n o m ev k (Ak.upd (EZ tx) (Ak.toN (jX tx k e)) 0 (LM (tx (Ak.toN (jX tx k e))) 3 q (tx (Ak.toN (jX tx k e))).tr (.sl 8 (tx (Ak.toN (jX tx k e))).AA.length (aS (bJ (tx (Ak.toN (jX tx k e))).AA))))) c gc ft fk fg (Ak.add .i64 (i:Int) 1) (Ak.add .i64 q 1)) [] emp φ) :
  AB ak (ED Ak W7 FI Aw) (K0 H0 w0) 34 Q9 (Xe n o m ev k (EZ tx) c gc ft fk fg (i:Nat) q (evK 5 e)) [] emp φ:=by
 refine BZ (TU _) 300 800 [⟨34,F8,(Gs n o m ev k (Ak.upd (EZ tx) (Ak.toN (jX tx k e)) 0 (LM (tx (Ak.toN (jX tx k e))) 3 q (tx (Ak.toN (jX tx k e))).tr (.sl 8 (tx (Ak.toN (jX tx k e))).AA.length (aS (bJ (tx (Ak.toN (jX tx k e))).AA))))) c gc ft fk fg (Ak.add .i64 (i:Int) 1) (Ak.add .i64 q 1)),[]⟩] ?_;exact D9 (nd (Ak.eq q 400) (fun a=>(Vy P.hq a:φ (Et i 105))) fun _=>an (Cb o n) (an (Ub P ke) (an P.ht (an (ϱ P.hk) (nd (Ak.lt (jX tx k e) 0) (fun a=>(hb 113 (by decide) (by rw[a];rfl):φ (Et i 113))) fun j0=>an (Gi j0) (nd (Ak.le 0 (tx (Ak.toN (jX tx k e))).en) (fun a=>(hb 116 (by decide) (by grind):φ (Et i 116))) fun a=>nd (Ak.le 0 (tx (Ak.toN (jX tx k e))).tr) (fun b=>nd (Ak.nt (Ak.le 0 (tx (Ak.toN (jX tx k e))).tr)) (fun y=>(hb 116 (by decide) (by simp_all):φ (Et i 116))) fun y=>an P.ht (an (ϱ P.hk) (an (Gi j0) (an (eY (bJ (tx (Ak.toN (jX tx k e))).AA) (tx (Ak.toN (jX tx k e))).AA.length) (an (ϱ (NM P j0)) (an (Gi j0) (hgo (by simp_all):AB ak (ED Ak W7 FI Aw) (K0 H0 w0) 34 F8 (Gs n o m ev k (Ak.upd (EZ tx) (Ak.toN (jX tx k e)) 0 (LM (tx (Ak.toN (jX tx k e))) 3 q (tx (Ak.toN (jX tx k e))).tr (.sl 8 (tx (Ak.toN (jX tx k e))).AA.length (aS (bJ (tx (Ak.toN (jX tx k e))).AA))))) c gc ft fk fg (Ak.add .i64 (i:Int) 1) (Ak.add .i64 q 1)) [] emp φ))))))) fun b=>an P.hc (an (ϱ P.hl) (nd (Ak.nt (Ak.le 0 (tx (Ak.toN (jX tx k e))).tr)) (fun y=>(hb 116 (by decide) (by simp_all):φ (Et i 116))) fun y=>an P.ht (an (ϱ P.hk) (an (Gi j0) (an (eY (bJ (tx (Ak.toN (jX tx k e))).AA) (tx (Ak.toN (jX tx k e))).AA.length) (an (ϱ (NM P j0)) (an (Gi j0) (hgo (by simp_all):AB ak (ED Ak W7 FI Aw) (K0 H0 w0) 34 F8 (Gs n o m ev k (Ak.upd (EZ tx) (Ak.toN (jX tx k e)) 0 (LM (tx (Ak.toN (jX tx k e))) 3 q (tx (Ak.toN (jX tx k e))).tr (.sl 8 (tx (Ak.toN (jX tx k e))).AA.length (aS (bJ (tx (Ak.toN (jX tx k e))).AA))))) c gc ft fk fg (Ak.add .i64 (i:Int) 1) (Ak.add .i64 q 1)) [] emp φ))))))))))))))
theorem arL(P:RdP n o k tx c gc e q)(ke:e.kind=6)(hb:∀x:Int,x≠0->(bif Ak.lt (jX tx k e) 0 then 113 else bif Ak.le 0 (tx (Ak.toN (jX tx k e))).en then 116 else 0)=x->φ (Et i x))
  (hgo:(bif Ak.lt (jX tx k e) 0 then 113 else bif Ak.le 0 (tx (Ak.toN (jX tx k e))).en then 116 else 0:Int)=0->AB ak (ED Ak W7 FI Aw) (K0 H0 w0) 34 F8 (Gs n o m ev k (Ak.upd (EZ tx) (Ak.toN (jX tx k e)) 0 (LM (tx (Ak.toN (jX tx k e))) 4 q (tx (Ak.toN (jX tx k e))).tr (.sl 8 (tx (Ak.toN (jX tx k e))).AA.length (aS (bJ (tx (Ak.toN (jX tx k e))).AA))))) c gc ft fk fg (Ak.add .i64 (i:Int) 1) (Ak.add .i64 q 1)) [] emp φ) :
  AB ak (ED Ak W7 FI Aw) (K0 H0 w0) 34 Q9 (Xe n o m ev k (EZ tx) c gc ft fk fg (i:Nat) q (evK 6 e)) [] emp φ:=by
 refine BZ (TU _) 300 800 [⟨34,F8,(Gs n o m ev k (Ak.upd (EZ tx) (Ak.toN (jX tx k e)) 0 (LM (tx (Ak.toN (jX tx k e))) 4 q (tx (Ak.toN (jX tx k e))).tr (.sl 8 (tx (Ak.toN (jX tx k e))).AA.length (aS (bJ (tx (Ak.toN (jX tx k e))).AA))))) c gc ft fk fg (Ak.add .i64 (i:Int) 1) (Ak.add .i64 q 1)),[]⟩] ?_;exact D9 (nd (Ak.eq q 400) (fun a=>(Vy P.hq a:φ (Et i 105))) fun _=>an (Cb o n) (an (Ub P ke) (an P.ht (an (ϱ P.hk) (nd (Ak.lt (jX tx k e) 0) (fun a=>(hb 113 (by decide) (by rw[a];rfl):φ (Et i 113))) fun j0=>an (Gi j0) (nd (Ak.le 0 (tx (Ak.toN (jX tx k e))).en) (fun a=>(hb 116 (by decide) (by grind):φ (Et i 116))) fun a=>nd (Ak.le 0 (tx (Ak.toN (jX tx k e))).tr) (fun b=>an P.ht (an (ϱ P.hk) (an (Gi j0) (an (eY (bJ (tx (Ak.toN (jX tx k e))).AA) (tx (Ak.toN (jX tx k e))).AA.length) (an (ϱ (NM P j0)) (an (Gi j0) (hgo (by grind):AB ak (ED Ak W7 FI Aw) (K0 H0 w0) 34 F8 (Gs n o m ev k (Ak.upd (EZ tx) (Ak.toN (jX tx k e)) 0 (LM (tx (Ak.toN (jX tx k e))) 4 q (tx (Ak.toN (jX tx k e))).tr (.sl 8 (tx (Ak.toN (jX tx k e))).AA.length (aS (bJ (tx (Ak.toN (jX tx k e))).AA))))) c gc ft fk fg (Ak.add .i64 (i:Int) 1) (Ak.add .i64 q 1)) [] emp φ))))))) fun b=>an P.hc (an (ϱ P.hl) (an P.ht (an (ϱ P.hk) (an (Gi j0) (an (eY (bJ (tx (Ak.toN (jX tx k e))).AA) (tx (Ak.toN (jX tx k e))).AA.length) (an (ϱ (NM P j0)) (an (Gi j0) (hgo (by grind):AB ak (ED Ak W7 FI Aw) (K0 H0 w0) 34 F8 (Gs n o m ev k (Ak.upd (EZ tx) (Ak.toN (jX tx k e)) 0 (LM (tx (Ak.toN (jX tx k e))) 4 q (tx (Ak.toN (jX tx k e))).tr (.sl 8 (tx (Ak.toN (jX tx k e))).AA.length (aS (bJ (tx (Ak.toN (jX tx k e))).AA))))) c gc ft fk fg (Ak.add .i64 (i:Int) 1) (Ak.add .i64 q 1)) [] emp φ))))))))))))))
theorem arN(P:RdP n o k tx c gc e q)(ke:e.kind=7)(hr:Ak.room (c+1) 8=ay)(hb:∀x:Int,x≠0->(bif Ak.lt (jX tx k e) 0 then 113 else bif Ak.le 0 (tx (Ak.toN (jX tx k e))).en then 116 else bif Ak.le 0 (tx (Ak.toN (jX tx k e))).tr then 116 else bif Ak.nt (cX gc c (tx (Ak.toN (jX tx k e)))) then bif Ak.nt (Ak.nt (wX (tx (Ak.toN (jX tx k e))))) then 116 else 0 else 116)=x->φ (Et i x))
  (hgo:(bif Ak.lt (jX tx k e) 0 then 113 else bif Ak.le 0 (tx (Ak.toN (jX tx k e))).en then 116 else bif Ak.le 0 (tx (Ak.toN (jX tx k e))).tr then 116 else bif Ak.nt (cX gc c (tx (Ak.toN (jX tx k e)))) then bif Ak.nt (Ak.nt (wX (tx (Ak.toN (jX tx k e))))) then 116 else 0 else 116:Int)=0->AB ak (ED Ak W7 FI Aw) (K0 H0 w0) 34 F8 (Gs n o m ev k (Ak.upd (EZ tx) (Ak.toN (jX tx k e)) 0 (LM (tx (Ak.toN (jX tx k e))) (tx (Ak.toN (jX tx k e))).st (tx (Ak.toN (jX tx k e))).en (tx (Ak.toN (jX tx k e))).tr (.sl 8 (tx (Ak.toN (jX tx k e))).AA.length (aS (bJ (tx (Ak.toN (jX tx k e))).AA))))) (c+1) (Ak.snoc gc c (Bh [[.i .i64 (tx (Ak.toN (jX tx k e))).id]])) ft fk fg (Ak.add .i64 (i:Int) 1) (Ak.add .i64 q 1)) [] emp φ) :
  AB ak (ED Ak W7 FI Aw) (K0 H0 w0) 34 Q9 (Xe n o m ev k (EZ tx) c gc ft fk fg (i:Nat) q (evK 7 e)) [] emp φ:=by
 refine BZ (TU _) 300 800 [⟨34,F8,(Gs n o m ev k (Ak.upd (EZ tx) (Ak.toN (jX tx k e)) 0 (LM (tx (Ak.toN (jX tx k e))) (tx (Ak.toN (jX tx k e))).st (tx (Ak.toN (jX tx k e))).en (tx (Ak.toN (jX tx k e))).tr (.sl 8 (tx (Ak.toN (jX tx k e))).AA.length (aS (bJ (tx (Ak.toN (jX tx k e))).AA))))) (c+1) (Ak.snoc gc c (Bh [[.i .i64 (tx (Ak.toN (jX tx k e))).id]])) ft fk fg (Ak.add .i64 (i:Int) 1) (Ak.add .i64 q 1)),[]⟩] ?_;exact D9 (nd (Ak.eq q 400) (fun a=>(Vy P.hq a:φ (Et i 105))) fun _=>an (Cb o n) (an (Ub P ke) (an P.ht (an (ϱ P.hk) (nd (Ak.lt (jX tx k e) 0) (fun a=>(hb 113 (by decide) (by rw[a];rfl):φ (Et i 113))) fun j0=>an (Gi j0) (nd (Ak.le 0 (tx (Ak.toN (jX tx k e))).en) (fun a=>(hb 116 (by decide) (by grind):φ (Et i 116))) fun a=>nd (Ak.le 0 (tx (Ak.toN (jX tx k e))).tr) (fun b=>(hb 116 (by decide) (by simp_all):φ (Et i 116))) fun b=>an P.hc (an (ϱ P.hl) (nd (Ak.nt (cX gc c (tx (Ak.toN (jX tx k e))))) (fun x=>an (eY (bJ (tx (Ak.toN (jX tx k e))).AA) (tx (Ak.toN (jX tx k e))).AA.length) (an (ϱ (NM P j0)) (nd (Ak.nt (Ak.nt (wX (tx (Ak.toN (jX tx k e)))))) (fun y=>(hb 116 (by decide) (by simp_all):φ (Et i 116))) fun y=>an P.ht (an (ϱ P.hk) (an (Gi j0) (an (eY (bJ (tx (Ak.toN (jX tx k e))).AA) (tx (Ak.toN (jX tx k e))).AA.length) (an (ϱ (NM P j0)) (an hr (an hr (an (Gi j0) (hgo (by simp_all):AB ak (ED Ak W7 FI Aw) (K0 H0 w0) 34 F8 (Gs n o m ev k (Ak.upd (EZ tx) (Ak.toN (jX tx k e)) 0 (LM (tx (Ak.toN (jX tx k e))) (tx (Ak.toN (jX tx k e))).st (tx (Ak.toN (jX tx k e))).en (tx (Ak.toN (jX tx k e))).tr (.sl 8 (tx (Ak.toN (jX tx k e))).AA.length (aS (bJ (tx (Ak.toN (jX tx k e))).AA))))) (c+1) (Ak.snoc gc c (Bh [[.i .i64 (tx (Ak.toN (jX tx k e))).id]])) ft fk fg (Ak.add .i64 (i:Int) 1) (Ak.add .i64 q 1)) [] emp φ))))))))))) fun x=>(hb 116 (by decide) (by simp_all):φ (Et i 116))))))))))
end
end Go.Proofs
namespace Go.Pl
open Go Go.Sx Go.Proofs
open Go.BI (Ev QZ De Rc Au BO H7 FC)
theorem WE{α:Type}{q:α->Bool}:∀(l:List α) (k:Nat) (f:Nat->Bool),(∀(j:Nat) (x:α),l[j]?=aj x->f (k+j)=q x)->UH f k l.length=match l.findIdx? q with
  |some i=>((k+i:Nat):Int) |none=>-1
 |[],k,f,h=>rfl |a::l,k,f,h=>by
  have h0:f k=q a:=h 0 a rfl;rw[List.length_cons,UH,List.findIdx?_cons,h0];cases hq:q a with
  |true=>rfl |false=>
   simp only[Bool.false_eq_true,if_false];rw[WE (q:=q) l (k+1) f fun j x hj=>by rw[<-h (j+1) x (by grind)];grind];grind
theorem aaP(σ:Au)(e:Ev):jX (BO σ) σ.rs.length e=match σ.H8 e.tx with
  |some i=>(i:Int) |none=>-1:=by
 have:=WE (q:=fun r=>r.id==e.tx) σ.rs 0 (fun j=>(Ap (α:=VI) (EZ (BO σ)) j).id==e.tx) fun j x hj=>by
  rw[fU];show ((BO σ j).id==e.tx)=_;rw[KA hj]
 simp_all [jX,fdX,Au.H8]
theorem aBf{σ:Au}{cs:List Int}(hI:Zn σ cs)(_hO:σ.OK)(e:Ev):bX (BO σ) σ.rs.length e=match σ.KO e.thread with
  |some i=>(i:Int) |none=>-1:=by
 have:=WE (q:=fun r=>r.th==e.thread&&r.live) σ.rs 0 (fun j=>(Ap (α:=VI) (EZ (BO σ)) j).th==e.thread&&decide ((Ap (α:=VI) (EZ (BO σ)) j).en<0)) fun j x hj=>by
  rw[fU];show ((BO σ j).th==e.thread&&decide ((BO σ j).en<0))=_;rw[KA hj];have h1:=(hI.st x (bK hj)).en;congr 1;unfold Go.BI.Rc.live;grind
 simp_all [bX,byX,Au.KO]
theorem acJ(cs:List Int)(r:Rc):cX (Am (nth cs)) cs.length r=cs.contains r.id:=by
 have:=WE (q:=fun x=>x==r.id) cs 0 (fun j=>Ap (α:=Int) (Am (nth cs)) j==r.id) fun j x hj=>by
  simp_all [fU,H6,nth]
 unfold cX cnX;grind
theorem aiU(r:Rc):wX r=waR r:=by
 rfl
theorem aBg{r:Rc}(h:r.AA≠[])(hl:r.AA.length<=1000)(e:Ev):fX r e=H7 (r.AA.getLast?.getD je).op e.ret:=by
 simp_all [rQ,fX,rU,Cm,Go.BI.ahd]
def rT(fg:ϝ)(p:Nat->Ev):Nat->Nat->Au->List Int->Sh
 |_,0,σ,_=>.Az [.os 87 7 σ.rs.length (EZ (BO σ)),.agg [.i .i64 0,.sl 1 0 fg]] |i,r+1,σ,cs=>if G9 σ cs (p i)=0 then rT fg p (i+1) r (σ.feed (p i)).2 (Zo cs (p i)) else Et i (G9 σ cs (p i))
theorem O1{σ:Au}{i:Nat}{r':Rc}{row:List Sh}{D:Sh}{many:Nat}(hi:i<σ.rs.length)(hrow:row=LM r' r'.st r'.en r'.tr D)(hD:∀(H:Mem) (u:Value),Rep H D u->Rep H (.sl 8 r'.AA.length (aS (bJ r'.AA))) u):
  QB σ.rs.length (Ak.upd (EZ (BO σ)) i 0 row) (EZ (BO ⟨many,σ.rs.set i r'⟩)):=fun j hj=>by
 subst hrow;rw[OY];by_cases e:j=i
 ·subst e
  have:BO ⟨many,σ.rs.set j r'⟩ j=r':=KA (by simp[hi]);rw[if_pos rfl];have e2:EZ (BO ⟨many,σ.rs.set j r'⟩) j=LM r' r'.st r'.en r'.tr (.sl 8 r'.AA.length (aS (bJ r'.AA))):=by grind [EZ,LM]
  rw[e2];refine ⟨rfl,fun a s' h=>?_⟩;match a,h with
  |0,h|1,h|2,h|3,h|4,h|5,h=>exact ⟨s',h,fun _ _ q=>q⟩ |6,h=>
   obtain rfl:=bP h;exact ⟨D,rfl,hD⟩
  |a+7,h=>simp[LM] at h
 ·have:BO ⟨many,σ.rs.set i r'⟩ j=BO σ j:=by
   grind [BO]
  have e2:EZ (BO ⟨many,σ.rs.set i r'⟩) j=EZ (BO σ) j:=by unfold EZ;rw[this]
  rw[if_neg e,e2];exact ⟨rfl,fun a s' h=>⟨s',h,fun _ _ q=>q⟩⟩
theorem arO{σ:Au}{r':Rc}{row:List Sh}{D:Sh}{many:Nat}(hrow:row=LM r' r'.st r'.en r'.tr D)(hD:∀(H:Mem) (u:Value),Rep H D u->Rep H (.sl 8 r'.AA.length (aS (bJ r'.AA))) u):
  QB (σ.rs.length+1) (Ak.snoc (EZ (BO σ)) σ.rs.length (Bh [row])) (EZ (BO ⟨many,σ.rs++[r']⟩)):=fun j hj=>by
 subst hrow;rw[Dn];by_cases e:j<σ.rs.length
 ·have:BO ⟨many,σ.rs++[r']⟩ j=BO σ j:=by
   unfold BO;rw[bI,bI,gY e]
  have e2:EZ (BO ⟨many,σ.rs++[r']⟩) j=EZ (BO σ) j:=by unfold EZ;rw[this]
  rw[if_pos e,e2];exact ⟨rfl,fun a s' h=>⟨s',h,fun _ _ q=>q⟩⟩
 ·obtain rfl:j=σ.rs.length:=by omega
  have:BO ⟨many,σ.rs++[r']⟩ σ.rs.length=r':=KA (by simp);have e2:EZ (BO ⟨many,σ.rs++[r']⟩) σ.rs.length=LM r' r'.st r'.en r'.tr (.sl 8 r'.AA.length (aS (bJ r'.AA))):=by grind [EZ,LM]
  rw[if_neg e,gK,e2];refine ⟨rfl,fun a s' h=>?_⟩;match a,h with
  |0,h|1,h|2,h|3,h|4,h|5,h=>exact ⟨s',h,fun _ _ q=>q⟩ |6,h=>
   obtain rfl:=bP h;exact ⟨D,rfl,hD⟩
  |a+7,h=>simp[LM] at h
theorem aoa{l:List De}{d:De}(_hd:d=⟨d.obj,d.op,d.key,d.val,d.ret,d.got,d.here,d.back⟩)(H:Mem)(u:Value)(h:Rep H (.sl 8 (l.length+1) (Ak.snoc (aS (bJ l)) l.length (Bh [[.i .i64 d.obj,.i .i64 d.op,.i .i64 d.key,.i .i64 d.val,.i .i64 d.ret,.i .i64 d.got,.i .i64 d.here,.i .i64 d.back]]))) u):
  Rep H (.sl 8 (l++[d]).length (aS (bJ (l++[d])))) u:=by
 rw[List.length_append];refine DT h fun j hj=>?_
 rw[Dn];split
 ·rename_i q
  show iP _=iP _;simp_all [bJ,bI]
 ·rename_i q
  obtain rfl:j=l.length:=by grind
  rw[gK];show _=iP (bJ (l++[d]) l.length);have:bJ (l++[d]) l.length=d:=by simp[bJ]
  rw[this];rfl
theorem arP{l:List De}{e:Ev}{m:Int}(h0:l≠[])(hl:l.length<=1000)(H:Mem)(u:Value)(h:Rep H (.sl 8 l.length (Ak.upd (Ak.upd (Ak.upd (aS (bJ l)) (Ak.toN (Ak.sub .i64 (Ak.AV l.length) 1)) 4 [.i .i64 e.ret]) (Ak.toN (Ak.sub .i64 (Ak.AV l.length) 1)) 5 [.i .i64 e.val]) (Ak.toN (Ak.sub .i64 (Ak.AV l.length) 1)) 7 [.i .i64 m])) u):
  Rep H (.sl 8 (FC (fun d=>{d with ret:=e.ret,got:=e.val,back:=m}) l).length (aS (bJ (FC (fun d=>{d with ret:=e.ret,got:=e.val,back:=m}) l)))) u:=by
 have hp:=rQ.2 h0;rw[rU hp hl,show Ak.toN ((l.length - 1:Nat):Int)=l.length - 1 from by rfl] at h;rw[pO];refine DT h fun j hj=>?_
 simp only[OY];show _=iP (bJ (FC _ l) j);rw[rP _ l j hj];by_cases e:j=l.length - 1
 ·simp only[if_pos e];rfl
 ·simp only[if_neg e];rfl
section
variable{σ:Au}{cs:List Int}{e:Ev}
theorem apR(hI:Zn σ cs)(hO:σ.OK)(ke:e.kind=1):(bif Ak.le 0 (jX (BO σ) σ.rs.length e) then 114 else bif Ak.le 0 (bX (BO σ) σ.rs.length e) then 115 else 0:Int)=G9 σ cs e:=by
 grind [aaP,aBf,G9,CS]
theorem aiV(hO:σ.OK)(hl:σ.many<=1000)(ke:e.kind=2\/e.kind=4\/e.kind=7):(bif Ak.lt (jX (BO σ) σ.rs.length e) 0 then 113 else bif Ak.le 0 (BO σ (Ak.toN (jX (BO σ) σ.rs.length e))).en then 116 else bif Ak.le 0 (BO σ (Ak.toN (jX (BO σ) σ.rs.length e))).tr then 116 else bif Ak.nt (cX (Am (nth cs)) cs.length (BO σ (Ak.toN (jX (BO σ) σ.rs.length e)))) then bif Ak.nt (Ak.nt (wX (BO σ (Ak.toN (jX (BO σ) σ.rs.length e))))) then 116 else 0 else 116:Int)=G9 σ cs e:=by
 have h1:(e.kind==1)=aA:=by simp;omega
 unfold G9;rw[aaP];cases h:σ.H8 e.tx with
 |none=>simp[h1,Ar] |some i=>
  obtain ⟨r,hr,hid⟩:=by_some h;have hd:r.AA.length<=1000:=fE (hO.dl i r hr) hl;simp only[h1,ϗ,Ar,Cm,dA,KA hr,show ¬((i:Int)<0) by omega,decide_false,acJ,aiU,hid,BG,CS];grind [Ua,decide,waR]
theorem ayd(hO:σ.OK)(hl:σ.many<=1000)(ke:e.kind=3):(bif Ak.lt (jX (BO σ) σ.rs.length e) 0 then 113 else bif Ak.le 0 (BO σ (Ak.toN (jX (BO σ) σ.rs.length e))).en then 116 else bif Ak.le 0 (BO σ (Ak.toN (jX (BO σ) σ.rs.length e))).tr then 116 else bif Ak.nt (cX (Am (nth cs)) cs.length (BO σ (Ak.toN (jX (BO σ) σ.rs.length e)))) then bif Ak.nt (wX (BO σ (Ak.toN (jX (BO σ) σ.rs.length e)))) then 116 else bif Ak.nt (fX (BO σ (Ak.toN (jX (BO σ) σ.rs.length e))) e) then 112 else 0 else 116:Int)=G9 σ cs e:=by
 have h1:(e.kind==1)=aA:=by simp;omega
 unfold G9;rw[aaP];cases h:σ.H8 e.tx with
 |none=>simp[h1,Ar] |some i=>
  obtain ⟨r,hr,hid⟩:=by_some h;have hd:r.AA.length<=1000:=fE (hO.dl i r hr) hl;simp only[h1,ϗ,Ar,Cm,dA,KA hr,show ¬((i:Int)<0) by omega,decide_false,acJ,aiU,hid,BG,CS];unfold Ua;rw[ke];cases decide (0<=r.en)
  ·(cases decide (0<=r.tr))<;>grind [decide,waR,waB,aBg,H7,je]
  ·rfl
theorem aye(hO:σ.OK)(hl:σ.many<=1000)(ke:e.kind=5):(bif Ak.lt (jX (BO σ) σ.rs.length e) 0 then 113 else bif Ak.le 0 (BO σ (Ak.toN (jX (BO σ) σ.rs.length e))).en then 116 else bif Ak.nt (Ak.le 0 (BO σ (Ak.toN (jX (BO σ) σ.rs.length e))).tr) then 116 else 0:Int)=G9 σ cs e:=by
 have h1:(e.kind==1)=aA:=by simp;omega
 unfold G9;rw[aaP];cases h:σ.H8 e.tx with
 |none=>simp[h1,Ar] |some i=>
  obtain ⟨r,hr,hid⟩:=by_some h;have hd:r.AA.length<=1000:=fE (hO.dl i r hr) hl;simp only[h1,ϗ,Ar,Cm,dA,KA hr,show ¬((i:Int)<0) by omega,decide_false,BG,CS];unfold Ua;grind
theorem ayf(hO:σ.OK)(hl:σ.many<=1000)(ke:e.kind=6):(bif Ak.lt (jX (BO σ) σ.rs.length e) 0 then 113 else bif Ak.le 0 (BO σ (Ak.toN (jX (BO σ) σ.rs.length e))).en then 116 else 0:Int)=G9 σ cs e:=by
 have h1:(e.kind==1)=aA:=by simp;omega
 unfold G9;rw[aaP];cases h:σ.H8 e.tx with
 |none=>simp[h1,Ar] |some i=>
  obtain ⟨r,hr,hid⟩:=by_some h;have hd:r.AA.length<=1000:=fE (hO.dl i r hr) hl;simp only[h1,ϗ,Ar,Cm,dA,KA hr,show ¬((i:Int)<0) by omega,decide_false,CS];simp_all [Ua,decide]
end
open Go Go.Sx Go.Proofs
open Go.BI (Ev QZ De Rc Au BO H7 FC Du)
section
variable{σ:Au}{cs:List Int}{e:Ev}
theorem Ju(h1:e.kind≠1)(hc:G9 σ cs e=0)(hf:(σ.feed e).1=aF):∃i r r',jX (BO σ) σ.rs.length e=((i:Nat):Int)/\σ.rs[i]?=aj r/\r.id=e.tx/\fD σ.many e r=.inr r'/\(σ.feed e).2=⟨σ.many+1,σ.rs.set i r'⟩:=by
 have b1:(e.kind==1)=aA:=by grind
 rw[aaP];unfold G9 at hc;revert hf;unfold kU;grind [by_some]
theorem aaI(h1:e.kind=1)(hf:(σ.feed e).1=aF):(σ.feed e).2=⟨σ.many+1,σ.rs++[⟨e.tx,e.thread,1,σ.many,-1,-1,[],1⟩]⟩:=by
 grind [kU]
end
section
variable{m:Nat}{e:Ev}{r r':Rc}
theorem ayg(ke:e.kind=2)(hs:fD m e r=.inr r'):r'={r with stand:=2,AA:=r.AA++[⟨e.obj,e.op,e.key,e.val,0,0,m,-1⟩]}:=by
 grind [fD]
theorem ayh(ke:e.kind=4)(hs:fD m e r=.inr r'):r'={r with stand:=3,tr:=m,st:=2}:=by
 grind [fD]
theorem ayi(ke:e.kind=7)(hs:fD m e r=.inr r'):r'={r with stand:=4}:=by
 grind [fD]
theorem ayj(ke:e.kind=5)(hs:fD m e r=.inr r'):r'={r with stand:=5,en:=m,st:=3}:=by
 grind [fD]
theorem ayk(ke:e.kind=6)(hs:fD m e r=.inr r'):r'={r with stand:=5,en:=m,st:=4}:=by
 grind [fD]
theorem ayl(ke:e.kind=3)(hs:fD m e r=.inr r'):r.stand=2/\r'={r with stand:=1,AA:=FC (fun d=>{d with ret:=e.ret,got:=e.val,back:=m}) r.AA}:=by
 grind [fD,H7,je]
end
end Go.Pl
namespace Go.Proofs
open Go Go.Sx Go.Pl
open Go.BI (Ev QZ De Rc Au BO H7 FC Du)
section
variable{H0:Mem}{w0:World}{φ:Sh->Prop}{n m:Nat}{o:Nat->Oj}{p:Nat->Ev}{fg:ϝ}
theorem QD{ev G gc:ϝ}{k c fk:Nat}{ft i q i' q':Int}{σ:Au}{cs:List Int}(hk:k=σ.rs.length)(hw:QB k G (EZ (BO σ)))(hc:c=cs.length)(hw2:QB c gc (Am (nth cs)))(hi:i=i')(hq:q=q')
  (hgo:AB ak (ED Ak W7 FI Aw) (K0 H0 w0) 34 F8 (Gs n o m ev σ.rs.length (EZ (BO σ)) cs.length (Am (nth cs)) ft fk fg i' q') [] emp φ) :
  AB ak (ED Ak W7 FI Aw) (K0 H0 w0) 34 F8 (Gs n o m ev k G c gc ft fk fg i q) [] emp φ:=by
 subst hk hc hi hq;exact Ir (id:=4) rfl hw (Ir (id:=5) rfl hw2 hgo)
theorem MZ{n:Nat}{G:ϝ}:QB n G G:=fun _ _=>⟨rfl,fun _ s' h=>⟨s',h,fun _ _ q=>q⟩⟩
theorem alW(tx:Nat->Rc):∀k,okB VI k (EZ tx)=ay
 |0=>rfl |k+1=>by show (okB VI k (EZ tx)&&_)=ay;rw[alW tx k];rfl
theorem Zm(hm:m<=400)(hon:∀j,j<m->Qe n o (p j)=0)(hv:∀j,j<m->Du (p j)=ay):
  ∀r i σ cs,i+r=m->σ.OK->σ.many=i->Zn σ cs->φ (rT fg p i r σ cs)->
   AB ak (ED Ak W7 FI Aw) (K0 H0 w0) 34 F8 (Gs n o m (aS p) σ.rs.length (EZ (BO σ)) cs.length (Am (nth cs)) 0 0 fg (i:Nat) (i:Nat)) [] emp φ
 |0,i,σ,cs,hir,hO,hM,hI,hφ=>by
  have:¬i<m:=by omega
  exact QC (p i).kind (fun _=>rfl) (fun _=>hφ) (fun h=>(this h).elim)
 |r+1,i,σ,cs,hir,hO,hM,hI,hφ=>by
  have him:i<m:=by omega
  have hval:=hv i him;have hkd:=Go.BI.QA hval;have hlen:=hO.len;have hcl:=hI.len;have e1:Ak.add .i64 (i:Int) 1=((i+1:Nat):Int):=add1 (by omega);have P:RdP n o σ.rs.length (BO σ) cs.length (Am (nth cs)) (p i) (i:Nat):=⟨by simp[AQ];omega,hon i him,alW _ _,by omega,Cb _ _,by omega,fun j hj=>by
   have:=hO.dl j _ (Go.BI.TT hj);omega⟩
  unfold rT at hφ;have bad (x:Int) (hx:x≠0) (hc:G9 σ cs (p i)=x):φ (Et i x):=by
   simp_all
  have good (hc:G9 σ cs (p i)=0):((σ.feed (p i)).1=aF/\(σ.feed (p i)).2.OK/\(σ.feed (p i)).2.many=i+1/\Zn (σ.feed (p i)).2 (Zo cs (p i)))/\
    AB ak (ED Ak W7 FI Aw) (K0 H0 w0) 34 F8 (Gs n o m (aS p) (σ.feed (p i)).2.rs.length (EZ (BO (σ.feed (p i)).2)) (Zo cs (p i)).length (Am (nth (Zo cs (p i)))) 0 0 fg ((i+1:Nat):Int) ((i+1:Nat):Int)) [] emp φ:=by
   have hf:=(aeV hI hO hkd).1 hc;have h2:=hO.feed hval;have h3:=sJ hf;have h4:=ahu hI hO hkd hf;rw[if_pos hc] at hφ;exact ⟨⟨hf,h2,by omega,h4⟩,Zm hm hon hv r (i+1) _ _ (by omega) h2 (by omega) h4 hφ⟩
  have hcs (h:(p i).kind≠7):Zo cs (p i)=cs:=if_neg h;have hkk:(p i).kind=1\/(p i).kind=2\/(p i).kind=3\/(p i).kind=4\/(p i).kind=5\/(p i).kind=6\/(p i).kind=7:=by omega
  rcases hkk with ke|ke|ke|ke|ke|ke|ke
  ·refine QC 1 (fun _=>ke) (fun h=>(h him).elim) fun _=>?_
   refine arF P ke (room_le (by omega) (by omega)) (fun x hx hc=>bad x hx (by grind [apR])) fun hc=>?_
   obtain ⟨⟨hf,_⟩,hgo⟩:=good (by grind [apR]);have hσ:=aaI ke hf;rw[hcs (by omega),hσ] at hgo;refine QD (by simp) ?_ rfl MZ e1 e1 hgo;refine arO (D:=.sl 0 0 fun _=>[]) (by rw[hM];rfl) fun H u h=>?_
   cases h with
   |sl0 _ _ A cap hc=>exact .sl0 _ _ _ _ hc |sl _ _ _ b off cap c h1 h2 h3 h4 h5 h6=>exact .sl0 _ _ _ _ h2
  ·refine QC 2 (fun _=>ke) (fun h=>(h him).elim) fun _=>?_
   have hcd:=aiV (σ:=σ) (cs:=cs) (e:=p i) hO (by omega) (.inl ke);refine arG P ke (fun j0=>room_le (by grind [NM]) (by omega)) (fun x hx hc=>bad x hx (by omega)) fun hc=>?_
   obtain ⟨⟨hf,_⟩,hgo⟩:=good (by omega);obtain ⟨j,r0,r1,hj,hr,hid,hs,hσ⟩:=Ju (by omega) (by rw[<-hcd];exact hc) hf;have hlt:=(bf.1 hr).1;have hjn:Ak.toN (jX (BO σ) σ.rs.length (p i))=j:=by grind [Cm]
   rw[hcs (by omega),hσ] at hgo;rw[hjn,KA hr];have hs:=ayg ke hs;refine QD (by simp) ?_ rfl MZ e1 e1 hgo;exact O1 hlt (by rw[hs];rfl) fun H u h=>by
    grind [aoa]
  ·refine QC 3 (fun _=>ke) (fun h=>(h him).elim) fun _=>?_
   have hcd:=ayd (σ:=σ) (cs:=cs) (e:=p i) hO (by omega) ke;refine arH P ke (fun x hx hc=>bad x hx (by omega)) fun hc=>?_
   obtain ⟨⟨hf,_⟩,hgo⟩:=good (by omega);obtain ⟨j,r0,r1,hj,hr,hid,hs,hσ⟩:=Ju (by omega) (by rw[<-hcd];exact hc) hf;have hlt:=(bf.1 hr).1;have hjn:Ak.toN (jX (BO σ) σ.rs.length (p i))=j:=by grind [Cm]
   rw[hcs (by omega),hσ] at hgo;rw[hjn,KA hr];obtain ⟨h2,hs⟩:=ayl ke hs;have hne:=hO.deed j r0 hr h2;have hdl:=hO.dl j r0 hr;refine QD (by simp) ?_ rfl MZ e1 e1 hgo;exact O1 hlt (by rw[hs];rfl) fun H u h=>by
    grind [arP]
  ·refine QC 4 (fun _=>ke) (fun h=>(h him).elim) fun _=>?_
   have hcd:=aiV (σ:=σ) (cs:=cs) (e:=p i) hO (by omega) (.inr (.inl ke));refine arI P ke (fun x hx hc=>bad x hx (by omega)) fun hc=>?_
   obtain ⟨⟨hf,_⟩,hgo⟩:=good (by omega);obtain ⟨j,r0,r1,hj,hr,hid,hs,hσ⟩:=Ju (by omega) (by rw[<-hcd];exact hc) hf;have hlt:=(bf.1 hr).1;have hjn:Ak.toN (jX (BO σ) σ.rs.length (p i))=j:=by grind [Cm]
   rw[hcs (by omega),hσ] at hgo;rw[hjn,KA hr];have hs:=ayh ke hs;refine QD (by simp) ?_ rfl MZ e1 e1 hgo;exact O1 hlt (by rw[hs,hM];rfl) fun H u h=>by simp_all
  ·refine QC 5 (fun _=>ke) (fun h=>(h him).elim) fun _=>?_
   have hcd:=aye (σ:=σ) (cs:=cs) (e:=p i) hO (by omega) ke;refine arJ P ke (fun x hx hc=>bad x hx (by omega)) fun hc=>?_
   obtain ⟨⟨hf,_⟩,hgo⟩:=good (by omega);obtain ⟨j,r0,r1,hj,hr,hid,hs,hσ⟩:=Ju (by omega) (by rw[<-hcd];exact hc) hf;have hlt:=(bf.1 hr).1;have hjn:Ak.toN (jX (BO σ) σ.rs.length (p i))=j:=by grind [Cm]
   rw[hcs (by omega),hσ] at hgo;rw[hjn,KA hr];have hs:=ayj ke hs;refine QD (by simp) ?_ rfl MZ e1 e1 hgo;exact O1 hlt (by rw[hs,hM];rfl) fun H u h=>by simp_all
  ·refine QC 6 (fun _=>ke) (fun h=>(h him).elim) fun _=>?_
   have hcd:=ayf (σ:=σ) (cs:=cs) (e:=p i) hO (by omega) ke;refine arL P ke (fun x hx hc=>bad x hx (by omega)) fun hc=>?_
   obtain ⟨⟨hf,_⟩,hgo⟩:=good (by omega);obtain ⟨j,r0,r1,hj,hr,hid,hs,hσ⟩:=Ju (by omega) (by rw[<-hcd];exact hc) hf;have hlt:=(bf.1 hr).1;have hjn:Ak.toN (jX (BO σ) σ.rs.length (p i))=j:=by grind [Cm]
   rw[hcs (by omega),hσ] at hgo;rw[hjn,KA hr];have hs:=ayk ke hs;refine QD (by simp) ?_ rfl MZ e1 e1 hgo;exact O1 hlt (by rw[hs,hM];rfl) fun H u h=>by simp_all
  ·refine QC 7 (fun _=>ke) (fun h=>(h him).elim) fun _=>?_
   have hcd:=aiV (σ:=σ) (cs:=cs) (e:=p i) hO (by omega) (.inr (.inr ke));refine arN P ke (room_le (by omega) (by omega)) (fun x hx hc=>bad x hx (by omega)) fun hc=>?_
   obtain ⟨⟨hf,_⟩,hgo⟩:=good (by omega);obtain ⟨j,r0,r1,hj,hr,hid,hs,hσ⟩:=Ju (by omega) (by rw[<-hcd];exact hc) hf;have hlt:=(bf.1 hr).1;have hjn:Ak.toN (jX (BO σ) σ.rs.length (p i))=j:=by grind [Cm]
   have aDx:Zo cs (p i)=cs++[(p i).tx]:=if_pos ke;rw[aDx,hσ] at hgo;rw[hjn,KA hr];have hs:=ayi ke hs;refine QD (by simp) ?_ (by simp) ?_ e1 e1 hgo
   ·exact O1 hlt (by rw[hs];rfl) fun H u h=>by simp_all
   ·intro a ha
    have:Ak.snoc (Am (nth cs)) cs.length (Bh [[.i .i64 r0.id]]) a=Am (nth (cs++[(p i).tx])) a:=by
     rw[Dn];split
     ·rename_i q
      show Row.put _=Row.put _;simp_all [nth,bI]
     ·rename_i q
      obtain rfl:a=cs.length:=by omega
      rw[gK,hid];show _=Row.put (nth (cs++[(p i).tx]) cs.length);have:nth (cs++[(p i).tx]) cs.length=(p i).tx:=by simp[nth]
      rw[this];rfl
    simp_all
end
end Go.Proofs
namespace Go.Pl
open Go Go.Sx Go.Proofs
def plN(n:Nat)(g:ϝ)(m:Nat)(h:ϝ):Bool:=okB Dd m h&&(decide (m<=100000)&&apx n g (lst Dd m h))
def plO(n:Nat)(g:ϝ)(m:Nat)(h:ϝ):Bool:=aeo n g (lst Dd m h)
def plS(n:Nat)(g:ϝ)(m:Nat)(h:ϝ):ϝ:=aep n g (lst Dd m h)
def Zp(n:Nat)(g:ϝ)(m:Nat)(h:ϝ):Int:=anO n g (lst Dd m h)
def plE(n:Nat)(g:ϝ)(m:Nat)(h:ϝ):Nat:=anP n g (lst Dd m h)
end Go.Pl
namespace Go.Proofs
open Go Go.Sx Go.Pl
def D76:ϵ
 |[.agg [s0],s1]=>match Dj 4 s0,Dj 8 s1 with
  |some (n,g),aj (m,h)=>.need (plN n g m h) (.node (plO n g m h)
   (.leaf (.Az [.agg [.sl 4 n (plS n g m h)],.v .nilIface]))
   (.leaf (.Az [.agg [.sl 4 0 noT],.DK 184 (.pt [.i .i64 (Zp n g m h),.er (plE n g m h) 322])])))
  |_,_=>.fail
 |_=>.fail
def Zq:ϕ
 |83=>aj D76 |_=>aF
def JM(lv:Int)(N:Nat)(T:Nat->CJ)(N':Nat)(mk:Nat->Int)(k0:Nat)(g0:ϝ):List Sh:=[.i .i64 lv,.sl 7 N (Am T),.sl 1 N' (Am mk),.sl 4 k0 g0]
def apS:List It:=[aK [0,1,0,1,1],aX 0,aK [1,1,1]]
def azr:List It:=aK [0,0,1,0,1,1]::apS
def avs(lv:Int)(N:Nat)(T:Nat->CJ)(N':Nat)(mk:Nat->Int)(k0:Nat)(g0:ϝ)(p:Int)(n:Nat)(g:ϝ)(m:Nat)(R:Nat->UG)(i:Int):Core:={tm:=DF 104 [(0,.Iu 4 1 (fun _=>JM lv N T N' mk k0 g0) 0 0),(3,.ptr 0 0),(5,.gs 1),(15,.sh (.sl 7 N (Am T))),(16,.sym .i64 (N:Int)),(17,.sym .i64 i)],hp:=[(0,.box [.sym .i64 p,.sh (.sl 4 n g)] 155),(1,.own 169 4 m (Am R))],nx:=2,lim:=L0,tc:=[]}
end Go.Proofs
namespace Go.Bf
section
variable{α κ:Type}[DecidableEq κ](key:α->κ)(next:α->List α)
def Jw(o:List α)(k:κ):Bool:=o.any fun n=>decide (key n=k)
def GV(m:Nat)(o:List α)(n:α):Option (List α):=if Jw key o (key n)=ay then aj o else if o.length=m then aF else aj (o++[n])
def EJ(m:Nat):List α->List α->Option (List α)
 |o,[]=>aj o |o,n::l=>match GV key m o n with
  |none=>aF |some o'=>EJ m o' l
def Na(m:Nat):Nat->List α->Nat->Option (List α)
 |0,o,_=>aj o |f+1,o,i=>match o[i]? with
  |none=>aj o |some n=>match EJ key m o (next n) with
   |none=>aF |some o'=>Na m f o' (i+1)
variable{key next}
theorem arR{m:Nat}{o o':List α}{n:α}(h:GV key m o n=aj o'):∃t,o'=o++t/\t.length<=1/\(o.length<=m->o'.length<=m):=by
 unfold GV at h;split at h
 ·simp_all
 ·split at h
  ·cases h
  ·cases h;exact ⟨[n],rfl,by simp,fun h=>by simp;omega⟩
theorem Nb{m:Nat}:∀{l o o':List α},EJ key m o l=aj o'->∃t,o'=o++t/\(o.length<=m->o'.length<=m)
 |[],o,o',h=>by cases h;simp |n::l,o,o',h=>by
  simp only[EJ] at h;cases hp:GV key m o n with
  |none=>simp_all |some o1=>
   rw[hp] at h;obtain ⟨t,rfl,_,h1⟩:=arR hp;obtain ⟨t',rfl,h2⟩:=Nb h;simp_all
theorem Zr{m:Nat}:∀{f i:Nat} {o r:List α},Na key next m f o i=aj r->∃t,r=o++t/\(o.length<=m->r.length<=m)
 |0,_,o,r,h=>by cases h;simp |f+1,i,o,r,h=>by
  simp only[Na] at h;cases hi:o[i]? with
  |none=>simp_all |some n=>
   rw[hi] at h;simp only at h;cases hp:EJ key m o (next n) with
   |none=>simp_all |some o1=>
    rw[hp] at h;obtain ⟨t,rfl,h1⟩:=Nb hp;obtain ⟨t',rfl,h2⟩:=Zr h;simp_all
end
end Go.Bf
