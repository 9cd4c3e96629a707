/- Own work. -/
import Derived.Test.YtldllpmodnbbiaaGreatDoorP13
import Derived.KernelRfl
open Int (ofNat)
open Bool renaming true->ay,false->aA,and_eq_true->aB,eq_iff_iff->jK
open Classical renaming propDecidable->aI
open Go.Gm renaming start->dM
open Go.IntKind renaming u64->jM,wrap_u64->rV,i64->bD
open Go.BI renaming Ap->aO,I5->gW,Ev->fA,Am->aS,okB->gG,Oj->dU
open Go.BI.Row renaming put->iP
open Go.Proofs.C7 renaming OG->ig
open Go.Proofs.ED renaming OG->iF
open Go.Proofs.Tryz renaming prog->ak,f37->xk,f36->qV,f20->lD,f22->kL,f12->qW,f26->qX
open Go.Sx.BL renaming get->bY
open Go.Sx.It renaming code->aK,inBlock->aX
open Int renaming ofNat->ah,ofNat_eq_natCast->jF
open Int.ofNat renaming inj->jf
open List renaming length_append->cO,getD_eq_getElem?_getD->bI,getElem?_map->iU,getElem?_eq_getElem->aV,length_map->dH,getElem_mem->kS,range->aU,map_append->jR,mem_range->eF,map->kT,pairwise_singleton->pK,find?_cons->oP
open List.cons renaming injEq->dF
open Nat renaming le_refl->bM,sub_self->gK,lt_trans->zA,pow_lt_pow_right->iD,pow_pos->zI
open Option renaming some->aj,none->aF
open Option.some renaming inj->bP
noncomputable section
namespace Go.Rg
open Go Go.Sx Go.Pl Go.Proofs
theorem aft{H:Mem}{l:List Sh}{x:CJ}{v:Value}(h:Row.get (α:=CJ) l=aj x)(r:Rep H (.agg l) v):Rep H (.agg (Row.put x)) v:=by
 grind [Row.DL]
theorem aD2:AO ak (AZ W7) 49 D73:=by
 refine CV (Ej Aw) 300 400 L0 Tryz.f49 fun H w Bl args φ hrep h=>?_
 unfold D73 at h;split at h
 ·split at h
  ·rename_i l t x lv h1 h2
   have hφ:φ (.b (Qh x.st lv)):=h;match args,hrep with
   |[v,u],⟨hv,hu,_⟩=>
    refine ⟨[.agg (Row.put x),.i .i64 lv],⟨aft h1 hv,Dz h2 hu,ϖ⟩,?_⟩;rw[<-Dh];refine azf (bif lv==1 then (bif x.st==3 then ay else x.st==2) else bif lv==2 then (bif x.st==3 then ay else x.st==2) else bif lv==3 then ay else aA) (AY (s':=.b (Qh x.st lv)) (.inl ?_) hφ);grind [Qh]
  ·exact h.elim
 ·exact h.elim
theorem aD3:AO ak (AZ W7) 48 D94:=by
 refine CV (Ej Aw) 300 400 L0 Tryz.f48 fun H w Bl args φ hrep h=>?_
 unfold D94 at h;split at h
 ·split at h
  ·rename_i l r x y h1 h2
   have hφ:φ (.b (P7 x.en y.bg)):=h;match args,hrep with
   |[v,u],⟨hv,hu,_⟩=>
    refine ⟨[.agg (Row.put x),.agg (Row.put y)],⟨aft h1 hv,aft h2 hu,ϖ⟩,?_⟩;rw[<-Dh];refine azf (bif decide (0<=x.en) then decide (x.en<y.bg) else aA) (AY (s':=.b (P7 x.en y.bg)) (.inl ?_) hφ);simp_all [P7,decide]
  ·exact h.elim
 ·exact h.elim
def awc(b:Bool):ϵ
 |[.agg l,t]=>match Row.get (α:=CJ) l,Bd t with
  |some x,aj lv=>.need (decide (Qh x.st lv=b)) (.leaf (.v (.bool b))) |_,_=>.fail
 |_=>.fail
def awd(b:Bool):ϵ
 |[.agg l,.agg r]=>match Row.get (α:=CJ) l,Row.get (α:=CJ) r with
  |some x,aj y=>.need (decide (P7 x.en y.bg=b)) (.leaf (.v (.bool b))) |_,_=>.fail
 |_=>.fail
theorem aD4(b:Bool):AO ak (AZ W7) 49 (awc b):=Y5 aD2 fun Bl φ h=>by
 unfold awc at h;split at h
 ·split at h
  ·rename_i e1 e2
   obtain ⟨hc,hφ⟩:=h;refine ⟨.v (.bool b),hφ,?_⟩;unfold D73;simp only[e1,e2];rw[ϑ hc];exact .inr rfl
  ·exact h.elim
 ·exact h.elim
theorem aD5(b:Bool):AO ak (AZ W7) 48 (awd b):=Y5 aD3 fun Bl φ h=>by
 unfold awd at h;split at h
 ·split at h
  ·rename_i e1 e2
   obtain ⟨hc,hφ⟩:=h;refine ⟨.v (.bool b),hφ,?_⟩;unfold D94;simp only[e1,e2];rw[ϑ hc];exact .inr rfl
  ·exact h.elim
 ·exact h.elim
def UA(b:Bool):ϕ
 |49=>aj (awc b) |_=>aF
def abY:List It:=[aK [0,1,0,1,1],aX 0,aK [1,1,1]]
def aD6:List It:=aK [0,0,1,0,1,1]::abY
def afu(n:Nat)(T:Nat->CJ)(lv:Int)(c:Nat)(G:ϝ)(i:Int):Core:={tm:=DF 24 [(0,.sh (.sl 7 n (Am T))),(1,.sym .i64 lv),(5,.gs 0),(6,.sym .i64 i)],hp:=[(0,.own 3 1 c G)],nx:=1,lim:=L0,tc:=[]}
theorem aoz(b:Bool)(stop:Nat->List Nat->Bool):BJ ak (C7 Ak W7 (UA b) stop):=ig (fun g F h=>by
 grind [UA,aD4]) fun g h=>by
 unfold UA at h;split at h;all_goals first|(cases h;done) |kernel_rfl
def D5(lv:Int)(T:Nat->CJ):Nat->Nat->List Int
 |_,0=>[] |i,r+1=>(if Qh (T i).st lv=ay then [(i:Int)] else [])++D5 lv T (i+1) r
theorem ZG(lv:Int)(T:Nat->CJ):∀r i,(D5 lv T i r).length<=r
 |0,_=>bM _ |r+1,i=>by
  have:=ZG lv T r (i+1);grind [D5,cO]
theorem Dv{L:List Int}{x:Int}:QB (L.length+1) (Ak.snoc (Am (nth L)) L.length (Bh [[Sh.i .i64 x]])) (Am (nth (L++[x]))):=fun j hj=>by
 have e:Ak.snoc (Am (nth L)) L.length (Bh [[Sh.i .i64 x]]) j=Am (nth (L++[x])) j:=by
  rw[Dn];split
  ·rename_i q
   show Row.put _=Row.put _;simp_all [nth,bI]
  ·rename_i q
   obtain rfl:j=L.length:=by omega
   rw[gK];show _=Row.put (nth (L++[x]) L.length);have:nth (L++[x]) L.length=x:=by simp[nth]
   rw[this];rfl
 simp_all
section
variable{H0:Mem}{w0:World}{φ:Sh->Prop}{n:Nat}{T:Nat->CJ}{lv:Int}{b0:Bool}
theorem ajg(hn:n<=1000):∀r i L,i+r=n->L.length<=i->φ (.os 3 1 (L++D5 lv T i r).length (Am (nth (L++D5 lv T i r))))->
  AB ak (C7 Ak W7 (UA b0) Aw) (K0 H0 w0) 37 abY (afu n T lv L.length (Am (nth L)) (i:Nat)) [] emp φ
 |r,i,L,hir,hL,hφ=>by
  refine Ea (s:=UA (Qh (T i).st lv)) (stop:=Aw) ?_;refine D6 xk aD6 ?_;have e1:Ak.add .i64 (i:Int) 1=((i+1:Nat):Int):=add1 (by omega);have inb (h:Ak.lt (i:Int) (Ak.AV n)=ay):i<n:=by grind [Ar,AL]
  have fin (h:Ak.lt (i:Int) (Ak.AV n)=aA):φ (.os 3 1 L.length (Am (nth L))):=by
   have h:¬i<n:=by grind [Ar,AL]
   obtain rfl:r=0:=by omega
   simp_all [D5,List.append_nil]
  cases hb:Qh (T i).st lv with
  |true=>
   refine BZ (aoz _ _) 300 800 [⟨37,abY,afu n T lv (L.length+1) (Ak.snoc (Am (nth L)) L.length (Bh [[.i .i64 (i:Int)]])) (Ak.add .i64 (i:Int) 1),[]⟩] ?_;refine D9 (nd (Ak.lt (i:Int) (Ak.AV n)) (fun h=>an (by simp[AX,inb h]:Ak.inB (i:Int) n=ay) (an (ϱ hb:decide (Qh (T i).st lv=ay)=ay) (an (room_le (by omega) (by omega):Ak.room (L.length+1) 8=ay)
    (?_:AB ak (C7 Ak W7 (UA ay) Aw) (K0 H0 w0) 37 abY (afu n T lv (L.length+1) (Ak.snoc (Am (nth L)) L.length (Bh [[.i .i64 (i:Int)]])) (Ak.add .i64 (i:Int) 1)) [] emp φ)))) (fun h=>fin h))
   have h:=inb (by assumption);match r,hir,hφ with
   |0,hir,_=>omega |r+1,hir,hφ=>
    rw[show Ak.add .i64 (i:Int) 1=((i+1:Nat):Int) from e1];unfold D5 at hφ;rw[if_pos hb,<-List.append_assoc] at hφ;refine Ir (id:=0) rfl Dv ?_;have:=Ea (s:=UA b0) (s':=UA ay) (stop:=Aw) (stop':=Aw) (ajg hn r (i+1) (L++[(i:Int)]) (by omega) (by simp;omega) hφ);rw[cO] at this;exact this
  |false=>
   refine BZ (aoz _ _) 300 800 [⟨37,abY,afu n T lv L.length (Am (nth L)) (Ak.add .i64 (i:Int) 1),[]⟩] ?_;refine D9 (nd (Ak.lt (i:Int) (Ak.AV n)) (fun h=>an (by simp[AX,inb h]:Ak.inB (i:Int) n=ay) (an (ϱ hb:decide (Qh (T i).st lv=aA)=ay)
    (?_:AB ak (C7 Ak W7 (UA aA) Aw) (K0 H0 w0) 37 abY (afu n T lv L.length (Am (nth L)) (Ak.add .i64 (i:Int) 1)) [] emp φ))) (fun h=>fin h))
   have h:=inb (by assumption);match r,hir,hφ with
   |0,hir,_=>omega |r+1,hir,hφ=>
    rw[show Ak.add .i64 (i:Int) 1=((i+1:Nat):Int) from e1];unfold D5 at hφ;rw[if_neg (by rw[hb];simp),List.nil_append] at hφ;exact Ea (s:=UA b0) (stop:=Aw) (ajg hn r (i+1) L (by omega) (by omega) hφ)
end
def ap5:ϵ
 |[s,t]=>match Dj 7 s,Bd t with
  |some (n,g),aj lv=>.need (okB CJ n g) (.need (decide (n<=400)) (.leaf (.sl 1 (D5 lv (Ap g) 0 n).length (Am (nth (D5 lv (Ap g) 0 n)))))) |_,_=>.fail
 |_=>.fail
theorem azz:AO ak (AZ W7) 37 ap5:=by
 refine CG (C7 Ak W7 (UA ay) Aw) xk fun H w Bl args φ hrep hφ=>?_
 have hn:xk.ntmps=24:=by kernel_rfl
 unfold ap5 at hφ;split at hφ
 ·split at hφ
  ·rename_i s t n g lv h1 h2
   obtain ⟨q1,q2,hφ⟩:=hφ;have q2:=ϑ q2;match args,hrep with
   |[a,b],⟨ra,rb,_⟩=>
    refine ⟨[.sl 7 n (Am (Ap (α:=CJ) g)),.i .i64 lv],⟨CY (Bz h1 ra) q1,Dz h2 rb,ϖ⟩,L0,?_⟩;rw[hn];have hφ:φ (.sl 1 (D5 lv (Ap g) 0 n).length (Am (nth (D5 lv (Ap g) 0 n)))):=hφ;generalize Ap (α:=CJ) g=T at *;refine BZ (aoz _ _) 300 800 [⟨37,abY,afu n T lv 0 (fun _=>[]) 0,[]⟩] ?_;refine D9 (?_:AB ak (C7 Ak W7 (UA ay) Aw) (K0 H w) 37 abY (afu n T lv 0 (fun _=>[]) 0) [] emp (up φ));refine Ir (id:=0) (G':=Am (nth ([]:List Int))) rfl (fun j hj=>by omega) (ajg (by omega) n 0 [] (by omega) (bM _) ?_);exact AY (s':=.sl 1 (D5 lv T 0 n).length (Am (nth (D5 lv T 0 n)))) (.inr ⟨rfl,rfl,fun _ _=>rfl⟩) hφ
  ·exact hφ.elim
 ·exact hφ.elim
open Go Go.Sx Go.Pl Go.Proofs
def NU(b:Bool):ϕ
 |48=>aj (awd b) |37=>aj ap5 |_=>aF
def Ov:List It:=[aK [0,1,0,1,1,1,1,1],aX 0,aK [1,1,1,1,1,1]]
def ay8:List It:=aK [0,0,1,0,1,1,1,1,1]::Ov
def Ot:List It:=[aK [0,1,0,1,0,0,1,0,0,1,0,1,1,1,1,1],aX 2,aK [1,1,0,0,1,0,0,1,0,1,1,1,1,1],aX 1,aK [1,1,0,0,1,0,1,1,1,1,1]]++Ov
def aBG:List It:=aK [0,0,1,0,1,0,0,1,0,0,1,0,1,1,1,1,1]::Ot
def SA(n:Nat)(T:Nat->CJ)(lv:Int)(c:Nat)(cs:Nat->Int)(k:Nat)(G:ϝ)(i:Int):Core:={tm:=DF 64 [(0,.sh (.sl 7 n (Am T))),(1,.int .i64 lv),(6,.sh (.sl 1 c (Am cs))),(7,.gs 0),(8,.sym .i64 i)],hp:=[(0,.own 3 1 k G)],nx:=1,lim:=L0,tc:=[]}
def P9(n:Nat)(T:Nat->CJ)(lv:Int)(c:Nat)(cs:Nat->Int)(k:Nat)(G:ϝ)(i x j:Int):Core:={tm:=DF 64 [(0,.sh (.sl 7 n (Am T))),(1,.int .i64 lv),(6,.sh (.sl 1 c (Am cs))),(7,.gs 0),(8,.sym .i64 i),(9,.sym .i64 x),(10,.sym .i64 j)],hp:=[(0,.own 3 1 k G)],nx:=1,lim:=L0,tc:=[]}
theorem Ui(b:Bool)(stop:Nat->List Nat->Bool):BJ ak (C7 Ak W7 (NU b) stop):=ig (fun g F h=>by
 unfold NU at h;grind [aD5,azz]) fun g h=>by
 unfold NU at h;split at h;all_goals first|(cases h;done) |kernel_rfl
theorem aml{j:Nat}(hj:j<62):Ak.conv .u64 (j:Int)=(j:Int):=by
 show jM.wrap (j:Int)=_;rw[rV];omega
theorem ajh{X j:Nat}(hX:X<2^62)(hj:j<62):Ak.bin .or .i64 (X:Int) (Ak.bin .shl .i64 1 (Ak.conv .u64 (j:Int)))=((X|||1<<<j:Nat):Int):=by
 grind [aml,or_eq,zA]
theorem afv{j:Nat}(_hj:j<62):Ak.le 0 (Ak.conv .u64 (j:Int))=ay:=by
 rfl
def FX(T:Nat->CJ)(C:List Int):List CJ:=C.map fun x=>T x.toNat
theorem aji{T:Nat->CJ}{C:List Int}{j:Nat}(h:j<C.length):(FX T C)[j]?=aj (T (nth C j).toNat):=by
 simp_all [FX,nth,bI]
theorem ZH(T:Nat->CJ)(C:List Int):(FX T C).length=C.length:=dH ..
section
variable{H0:Mem}{w0:World}{φ:Sh->Prop}{n:Nat}{T:Nat->CJ}{lv:Int}{b0:Bool}{C:List Int}
theorem amm(hlv:lv=1\/lv=2\/lv=3)(hc:C.length<=62)(hC:∀x∈C,0<=x/\x<n){i:Nat}(hi:i<C.length){M:List Int}(hM:M.length=i)(nx:AB ak (C7 Ak W7 (NU b0) Aw) (K0 H0 w0) 36 Ov (SA n T lv C.length (nth C) (M++[Jf lv (FX T C) i]).length (Am (nth (M++[Jf lv (FX T C) i]))) ((i+1:Nat):Int)) [] emp φ):
  ∀r j X,j+r=C.length->X<2^62->QF lv (T (nth C i).toNat).bg j ((FX T C).drop j) X=QF lv (nth (FX T C) i).bg 0 (FX T C) 0->
  AB ak (C7 Ak W7 (NU b0) Aw) (K0 H0 w0) 36 Ot (P9 n T lv C.length (nth C) M.length (Am (nth M)) (i:Nat) ((X:Nat):Int) (j:Nat)) [] emp φ
 |r,j,X,hjr,hX,hm=>by
  refine Ea (s:=NU (P7 (T (nth C j).toNat).en (T (nth C i).toNat).bg)) (stop:=Aw) ?_;refine D6 qV aBG ?_;have e1:Ak.add .i64 (j:Int) 1=((j+1:Nat):Int):=add1 (by omega);have e2:Ak.add .i64 (i:Int) 1=((i+1:Nat):Int):=add1 (by omega);have inb (h:Ak.lt (j:Int) (Ak.AV C.length)=ay):j<C.length:=by grind [Ar,AL]
  have mem {a:Nat} (h:a<C.length):0<=nth C a/\nth C a<n:=hC _ (by
   simp_all [nth,bI,kS])
  have ib {a:Nat} (h:a<C.length):Ak.inB (nth C a) n=ay:=by simp_all [AX]
  have ic {a:Nat} (h:a<C.length):Ak.inB (a:Int) C.length=ay:=by simp[AX];omega
  have fin (h:Ak.lt (j:Int) (Ak.AV C.length)=aA) (b:Bool):AB ak (C7 Ak W7 (NU b) Aw) (K0 H0 w0) 36 Ov (SA n T lv C.length (nth C) (M.length+1) (Ak.snoc (Am (nth M)) M.length (Bh [[.i .i64 ((X:Nat):Int)]])) (Ak.add .i64 (i:Int) 1)) [] emp φ:=by
   have h:¬j<C.length:=by grind [Ar,AL]
   have hX2:X=QF lv (nth (FX T C) i).bg 0 (FX T C) 0:=by
    rw[<-hm,List.drop_eq_nil_of_le (by rw[ZH];omega)];rfl
   rw[e2];refine Ir (id:=0) rfl Dv ?_;have e3:((X:Nat):Int)=Jf lv (FX T C) i:=by rw[hX2];rfl
   rw[e3];have:=Ea (s':=NU b) (stop':=Aw) nx;rw[cO] at this;exact this
  have room:Ak.room (M.length+1) 8=ay:=room_le (by omega) (by omega);have go (h:j<C.length) (X':Nat) (hX':X'<2^62) (b:Bool) (hx:(if lv≠1/\P7 (T (nth C j).toNat).en (T (nth C i).toNat).bg=ay then X|||1<<<j else X)=X'):AB ak (C7 Ak W7 (NU b) Aw) (K0 H0 w0) 36 Ot (P9 n T lv C.length (nth C) M.length (Am (nth M)) (i:Nat) ((X':Nat):Int) (Ak.add .i64 (j:Int) 1)) [] emp φ:=by
   match r,hjr with
   |0,hjr=>omega |r+1,hjr=>
    rw[e1];refine Ea (s:=NU b0) (stop:=Aw) (amm hlv hc hC hi hM nx r (j+1) X' (by omega) hX' ?_);have hd:(FX T C).drop j=T (nth C j).toNat::(FX T C).drop (j+1):=by
     have hl:j<(FX T C).length:=by rw[ZH];exact h
     have:=aji (T:=T) h;grind [aV,List.drop_eq_getElem_cons,bP]
    simp_all [QF]
  have aGw (h:j<C.length):X|||1<<<j<2^62:=Nat.or_lt_two_pow hX (by rw[Nat.shiftLeft_eq,Nat.one_mul];exact iD (by decide) (by omega));rcases hlv with rfl|rfl|rfl
  ·generalize P7 (T (nth C j).toNat).en (T (nth C i).toNat).bg=bb
   refine BZ (Ui _ _) 300 800 [⟨36,Ot,P9 n T 1 C.length (nth C) M.length (Am (nth M)) (i:Nat) ((X:Nat):Int) (Ak.add .i64 (j:Int) 1),[]⟩,⟨36,Ov,SA n T 1 C.length (nth C) (M.length+1) (Ak.snoc (Am (nth M)) M.length (Bh [[.i .i64 ((X:Nat):Int)]])) (Ak.add .i64 (i:Int) 1),[]⟩] ?_;exact D9 (nd (Ak.lt (j:Int) (Ak.AV C.length)) (fun h=>go (inb h) X hX bb (if_neg (fun q=>q.1 rfl))) (fun h=>an room (fin h bb)))
  ·cases hb:P7 (T (nth C j).toNat).en (T (nth C i).toNat).bg with
   |false=>
    refine BZ (Ui _ _) 300 800 [⟨36,Ot,P9 n T 2 C.length (nth C) M.length (Am (nth M)) (i:Nat) ((X:Nat):Int) (Ak.add .i64 (j:Int) 1),[]⟩,⟨36,Ov,SA n T 2 C.length (nth C) (M.length+1) (Ak.snoc (Am (nth M)) M.length (Bh [[.i .i64 ((X:Nat):Int)]])) (Ak.add .i64 (i:Int) 1),[]⟩] ?_;exact D9 (nd (Ak.lt (j:Int) (Ak.AV C.length)) (fun h=>an (ic (inb h)) (an (ib (inb h)) (an (ic hi) (an (ib hi) (an (ϱ hb:decide (P7 (T (nth C j).toNat).en (T (nth C i).toNat).bg=aA)=ay) (go (inb h) X hX aA (if_neg (fun q=>by simp_all)))))))) (fun h=>an room (fin h aA)))
   |true=>
    refine BZ (Ui _ _) 300 800 [⟨36,Ot,P9 n T 2 C.length (nth C) M.length (Am (nth M)) (i:Nat) (Ak.bin .or .i64 ((X:Nat):Int) (Ak.bin .shl .i64 1 (Ak.conv .u64 (j:Int)))) (Ak.add .i64 (j:Int) 1),[]⟩,⟨36,Ov,SA n T 2 C.length (nth C) (M.length+1) (Ak.snoc (Am (nth M)) M.length (Bh [[.i .i64 ((X:Nat):Int)]])) (Ak.add .i64 (i:Int) 1),[]⟩] ?_;exact D9 (nd (Ak.lt (j:Int) (Ak.AV C.length)) (fun h=>an (ic (inb h)) (an (ib (inb h)) (an (ic hi) (an (ib hi) (an (ϱ hb:decide (P7 (T (nth C j).toNat).en (T (nth C i).toNat).bg=ay)=ay) (an (afv (by grind):Ak.le 0 (Ak.conv .u64 (j:Int))=ay) (by grind [ajh]:AB ak (C7 Ak W7 (NU ay) Aw) (K0 H0 w0) 36 Ot (P9 n T 2 C.length (nth C) M.length (Am (nth M)) (i:Nat) (Ak.bin .or .i64 ((X:Nat):Int) (Ak.bin .shl .i64 1 (Ak.conv .u64 (j:Int)))) (Ak.add .i64 (j:Int) 1)) [] emp φ))))))) (fun h=>an room (fin h ay)))
  ·cases hb:P7 (T (nth C j).toNat).en (T (nth C i).toNat).bg with
   |false=>
    refine BZ (Ui _ _) 300 800 [⟨36,Ot,P9 n T 3 C.length (nth C) M.length (Am (nth M)) (i:Nat) ((X:Nat):Int) (Ak.add .i64 (j:Int) 1),[]⟩,⟨36,Ov,SA n T 3 C.length (nth C) (M.length+1) (Ak.snoc (Am (nth M)) M.length (Bh [[.i .i64 ((X:Nat):Int)]])) (Ak.add .i64 (i:Int) 1),[]⟩] ?_;exact D9 (nd (Ak.lt (j:Int) (Ak.AV C.length)) (fun h=>an (ic (inb h)) (an (ib (inb h)) (an (ic hi) (an (ib hi) (an (ϱ hb:decide (P7 (T (nth C j).toNat).en (T (nth C i).toNat).bg=aA)=ay) (go (inb h) X hX aA (if_neg (fun q=>by simp_all)))))))) (fun h=>an room (fin h aA)))
   |true=>
    refine BZ (Ui _ _) 300 800 [⟨36,Ot,P9 n T 3 C.length (nth C) M.length (Am (nth M)) (i:Nat) (Ak.bin .or .i64 ((X:Nat):Int) (Ak.bin .shl .i64 1 (Ak.conv .u64 (j:Int)))) (Ak.add .i64 (j:Int) 1),[]⟩,⟨36,Ov,SA n T 3 C.length (nth C) (M.length+1) (Ak.snoc (Am (nth M)) M.length (Bh [[.i .i64 ((X:Nat):Int)]])) (Ak.add .i64 (i:Int) 1),[]⟩] ?_;exact D9 (nd (Ak.lt (j:Int) (Ak.AV C.length)) (fun h=>an (ic (inb h)) (an (ib (inb h)) (an (ic hi) (an (ib hi) (an (ϱ hb:decide (P7 (T (nth C j).toNat).en (T (nth C i).toNat).bg=ay)=ay) (an (afv (by grind):Ak.le 0 (Ak.conv .u64 (j:Int))=ay) (by grind [ajh]:AB ak (C7 Ak W7 (NU ay) Aw) (K0 H0 w0) 36 Ot (P9 n T 3 C.length (nth C) M.length (Am (nth M)) (i:Nat) (Ak.bin .or .i64 ((X:Nat):Int) (Ak.bin .shl .i64 1 (Ak.conv .u64 (j:Int)))) (Ak.add .i64 (j:Int) 1)) [] emp φ))))))) (fun h=>an room (fin h ay)))
theorem ap6(hlv:lv=1\/lv=2\/lv=3)(hc:C.length<=62)(hC:∀x∈C,0<=x/\x<n)(hφ:φ (.Az [.os 3 1 C.length (Am (nth ((aU C.length).map (Jf lv (FX T C))))),.i .i64 0])):∀r i,i+r=C.length->
  AB ak (C7 Ak W7 (NU b0) Aw) (K0 H0 w0) 36 Ov (SA n T lv C.length (nth C) i (Am (nth ((aU i).map (Jf lv (FX T C))))) (i:Nat)) [] emp φ
 |r,i,hir=>by
  refine D6 qV ay8 ?_;have inb (h:Ak.lt (i:Int) (Ak.AV C.length)=ay):i<C.length:=by grind [Ar,AL]
  refine BZ (Ui _ _) 300 800 [⟨36,Ot,P9 n T lv C.length (nth C) i (Am (nth ((aU i).map (Jf lv (FX T C))))) (i:Nat) 0 0,[]⟩] ?_;refine D9 (nd (Ak.lt (i:Int) (Ak.AV C.length)) (fun h=>(?_:AB ak (C7 Ak W7 (NU b0) Aw) (K0 H0 w0) 36 Ot (P9 n T lv C.length (nth C) i (Am (nth ((aU i).map (Jf lv (FX T C))))) (i:Nat) 0 0) [] emp φ))
   (fun h=>(?_:φ (.Az [.os 3 1 i (Am (nth ((aU i).map (Jf lv (FX T C))))),.i .i64 0]))))
  ·have h:=inb h
   match r,hir with
   |0,hir=>omega |r+1,hir=>
    have hl:((aU i).map (Jf lv (FX T C))).length=i:=by simp
    have hn:nth (FX T C) i=T (nth C i).toNat:=by
     simp_all [aji,nth,bI]
    have nx:=ap6 hlv hc hC hφ r (i+1) (by omega);rw[List.range_succ,jR] at nx;have:=amm (b0:=b0) (H0:=H0) (w0:=w0) (φ:=φ) (T:=T) hlv hc hC h hl (by simp_all) C.length 0 0 (by omega) (by decide) (by simp_all);simp_all
  ·have h:¬i<C.length:=by grind [Ar,AL]
   grind
end
def awe:ϵ
 |[s,t]=>match Dj 7 s,Bd t with
  |some (n,g),aj lv=>.need (okB CJ n g) (.need (decide (n<=62)) (.need (decide (1<=lv/\lv<=3)) (.leaf (.Az [.sl 1 (D5 lv (Ap g) 0 n).length (Am (Jf lv (FX (Ap g) (D5 lv (Ap g) 0 n)))),.i .i64 0])))) |_,_=>.fail
 |_=>.fail
theorem ajj(lv:Int)(T:Nat->CJ):∀r i,∀x∈D5 lv T i r,(i:Int)<=x/\x<((i+r:Nat):Int)
 |0,i,x,hx=>by cases hx |r+1,i,x,hx=>by
  unfold D5 at hx;rcases List.mem_append.1 hx with hx|hx
  ·grind
  ·have:=ajj lv T r (i+1) x hx
   omega
theorem aD7:AO ak (AZ W7) 36 awe:=by
 refine CG (C7 Ak W7 (NU ay) Aw) qV fun H w Bl args φ hrep hφ=>?_
 have hn:qV.ntmps=64:=by kernel_rfl
 unfold awe at hφ;split at hφ
 ·split at hφ
  ·rename_i s t n g lv h1 h2
   obtain ⟨q1,q2,q3,hφ⟩:=hφ;have q2:=ϑ q2;have q3:=ϑ q3;have hlv:lv=1\/lv=2\/lv=3:=by omega
   match args,hrep with
   |[a,b],⟨ra,rb,_⟩=>
    refine ⟨[.sl 7 n (Am (Ap (α:=CJ) g)),.v (.int .i64 lv)],⟨CY (Bz h1 ra) q1,J7 (Dz h2 rb),ϖ⟩,L0,?_⟩;rw[hn];have hφ:φ (.Az [.sl 1 (D5 lv (Ap g) 0 n).length (Am (Jf lv (FX (Ap g) (D5 lv (Ap g) 0 n)))),.i .i64 0]):=hφ;generalize Ap (α:=CJ) g=T at *;have hcl:=ZG lv T n 0;have nx:AB ak (C7 Ak W7 (NU ay) Aw) (K0 H w) 36 Ov (SA n T lv (D5 lv T 0 n).length (nth (D5 lv T 0 n)) 0 (fun _=>[]) 0) [] emp (up φ):=by
     refine Ir (id:=0) (G':=Am (nth ((aU 0).map (Jf lv (FX T (D5 lv T 0 n)))))) rfl (fun j hj=>by omega) (ap6 hlv (by omega) (fun x hx=>?_) ?_ (D5 lv T 0 n).length 0 (by omega))
     ·have:=ajj lv T n 0 x hx
      omega
     ·refine AY (s':=.Az [.sl 1 (D5 lv T 0 n).length (Am (Jf lv (FX T (D5 lv T 0 n)))),.i .i64 0]) ⟨.inr ⟨rfl,rfl,fun j hj=>?_⟩,rfl,ϖ⟩ hφ
      show Row.put _=Row.put _;simp_all [nth]
    have hT:okB CJ n (Am T)=ay:=Cb T n;have h4:decide (n<=400)=ay:=ϱ (by omega);have h62:Ak.lt 62 (Ak.AV (D5 lv (Ap (Am T)) 0 n).length)=aA:=by
     grind [Ap,Am,H6,Ar,AL]
    have e:Ap (α:=CJ) (Am T)=T:=H6 T;have nx2:AB ak (C7 Ak W7 (NU ay) Aw) (K0 H w) 36 Ov (SA n T lv (D5 lv (Ap (Am T)) 0 n).length (nth (D5 lv (Ap (Am T)) 0 n)) 0 (fun _=>[]) 0) [] emp (up φ):=by simp_all
    rcases hlv with rfl|rfl|rfl
    ·refine BZ (Ui _ _) 300 800 [⟨36,Ov,SA n T 1 (D5 1 (Ap (Am T)) 0 n).length (nth (D5 1 (Ap (Am T)) 0 n)) 0 (fun _=>[]) 0,[]⟩] ?_
     exact D9 (an hT (an h4 (nd (Ak.lt 62 (Ak.AV (D5 1 (Ap (Am T)) 0 n).length)) (fun a=>(Vy h62 a:up φ (.Az [.sl 0 0 fun _=>[],.i .i64 118]))) (fun _=>nx2))))
    ·refine BZ (Ui _ _) 300 800 [⟨36,Ov,SA n T 2 (D5 2 (Ap (Am T)) 0 n).length (nth (D5 2 (Ap (Am T)) 0 n)) 0 (fun _=>[]) 0,[]⟩] ?_
     exact D9 (an hT (an h4 (nd (Ak.lt 62 (Ak.AV (D5 2 (Ap (Am T)) 0 n).length)) (fun a=>(Vy h62 a:up φ (.Az [.sl 0 0 fun _=>[],.i .i64 118]))) (fun _=>nx2))))
    ·refine BZ (Ui _ _) 300 800 [⟨36,Ov,SA n T 3 (D5 3 (Ap (Am T)) 0 n).length (nth (D5 3 (Ap (Am T)) 0 n)) 0 (fun _=>[]) 0,[]⟩] ?_
     exact D9 (an hT (an h4 (nd (Ak.lt 62 (Ak.AV (D5 3 (Ap (Am T)) 0 n).length)) (fun a=>(Vy h62 a:up φ (.Az [.sl 0 0 fun _=>[],.i .i64 118]))) (fun _=>nx2))))
  ·exact hφ.elim
 ·exact hφ.elim
open Go Go.Sx Go.Pl Go.Proofs Go.Gm Go.Bf
def ap7(l:List A8):ϕ
 |38=>aj (F62 l) |_=>aF
theorem awf(l:List A8)(stop:Nat->List Nat->Bool):BJ ak (C7 Ak W7 (ap7 l) stop):=ig (fun g F h=>by
 grind [ap7,O62]) fun g h=>by
 unfold ap7 at h;split at h;all_goals first|(cases h;done) |kernel_rfl
def SC(lv:Int)(n:Nat)(T:Nat->CJ)(C:List Int)(no:Nat)(g0:ϝ):Sh:=.agg [.i .i64 lv,.sl 7 n (Am T),.sl 1 C.length (Am (nth C)),.sl 1 C.length (Am (Jf lv (FX T C))),.sl 4 no g0]
def CX(lv:Int)(T:Nat->CJ)(C:List Int)(no:Nat):Game (List A8) where
 n:=C.length
 id i:=(nth (FX T C) i).id
 com i:=(nth (FX T C) i).st==3||(nth (FX T C) i).st==2
 abo i:=!((nth (FX T C) i).st==3)
 mask i:=(Jf lv (FX T C) i).toNat
 run l i:=Hf no l (lst Dd (nth (FX T C) i).k (nth (FX T C) i).g)
 all:=lv==3
def Fa(g:Game (List A8))(S:Nat)(l:List A8)(i:Nat)(cm:Bool):Option (Nd (List A8)):=
 if may g S i=ay then
  (if cm=ay then (if g.com i=ay then (g.run l i).map fun l'=>⟨S|||1<<<i,l'⟩ else aF)
  else if g.abo i=ay/\(g.all=ay->(g.run l i).isSome=ay) then aj ⟨S|||1<<<i,l⟩ else aF)
 else aF
structure UK(lv:Int)(n:Nat)(T:Nat->CJ)(C:List Int)(no:Nat):Prop where
 lv:lv=1\/lv=2\/lv=3
 cl:C.length<=62
 ci:∀x∈C,0<=x/\x<n
 dd:∀i,i<n->okB Dd (T i).k (T i).g=ay/\(T i).k<=1000
def D38(lv:Int)(n:Nat)(T:Nat->CJ)(C:List Int)(no:Nat)(g0:ϝ)(S:Nat)(l:List A8)(i:Nat)(cm:Bool):ϵ
 |[a,.agg [.i .i64 x,.sl 4 m g],t,.v (.bool y)]=>match Bd t with
  |some z=>.need (NS a (SC lv n T C no g0)) (.need (decide (x=(S:Int)/\m=no/\z=(i:Int)/\y=cm)) (.need (srB l m g) (.node (Fa (CX lv T C no) S l i cm).isSome
    (.leaf (.Az [.agg [.i .i64 (((Fa (CX lv T C no) S l i cm).getD ⟨0,[]⟩).placed:Nat),.sl 4 no (DJ (dR ((Fa (CX lv T C no) S l i cm).getD ⟨0,[]⟩).st))],.v (.bool ay)]))
    (.leaf (.Az [.agg [.i .i64 0,.sl 4 0 noT],.v (.bool aA)])))))
  |none=>.fail
 |_=>.fail
theorem awg(S i:Nat):S&&&2^i=if S.testBit i=ay then 2^i else 0:=Nat.eq_of_testBit_eq fun j=>by
 grind
theorem awh{S i:Nat}(hS:S<2^63)(hi:i<62):Ak.nt (Ak.eq (Ak.bin .and .i64 (S:Int) (Ak.bin .shl .i64 1 (Ak.conv .u64 (i:Int)))) 0)=S.testBit i:=by
 rw[aml hi,show Ak.bin .shl .i64 1 (i:Int)=((2^i:Nat):Int) from ae2 (by omega),alY hS (iD (by decide) (by omega)),awg];grind [zI,BG,AQ]
theorem or_bit{S i:Nat}(hS:S<2^62)(hi:i<62):Ak.bin .or .i64 (S:Int) (Ak.bin .shl .i64 1 (Ak.conv .u64 (i:Int)))=((S|||1<<<i:Nat):Int):=ajh hS hi
theorem aa4{n:Nat}:∀{dd:List Dd} {l:List A8} {i:Nat},Hf n l dd=aF->(Oq n l dd i).1≠0
 |[],l,i,h=>by cases h |d::r,l,i,h=>by
  unfold Hf at h;unfold Oq;split
  ·rename_i z
   rw[if_pos z] at h;exact aa4 h
  ·rename_i z
   rw[if_neg z] at h;split
   ·rename_i ok
    rw[if_pos ok] at h;split
    ·rename_i e
     rw[if_pos e] at h;exact aa4 h
    omega
   ·rename_i no
    have:okM n (dR l) d.obj d.op d.key d.val=aA:=by
     have:=aeK (n:=n) (d:=Dk l) (i:=d.obj) (op:=d.op) (k:=d.key) (v:=d.val);rw[show (fun j=>toR (Dk l j))=dR l from rfl] at this;simp_all
    grind [aeG,okM,of_decide_eq_false,isC]
theorem awi{T:Nat->CJ}{C:List Int}{i:Nat}(h:i<C.length):T (Ak.toN (nth C i))=nth (FX T C) i:=by
 have:=aji (T:=T) h;have e:nth (FX T C) i=((FX T C)[i]?).getD Row.J4:=by rfl
 rw[e,this];rfl
theorem awj{b:Bool}{P:Prop}(h:b=ay)(h2:b=aA):P:=by simp_all
theorem O38{lv:Int}{n:Nat}{T:Nat->CJ}{C:List Int}{no:Nat}(P:UK lv n T C no)(g0:ϝ){S:Nat}(l:List A8){i:Nat}(hi:i<C.length)(hS:S<2^C.length)(cm:Bool):
  AO ak (AZ W7) 24 (D38 lv n T C no g0 S l i cm):=by
 refine CG (C7 Ak W7 (ap7 l) Aw) Tryz.f24 fun H w Bl args φ hrep hφ=>?_
 have hn:Tryz.f24.ntmps=100:=by kernel_rfl
 unfold D38 at hφ;split at hφ
 ·rename_i a x m g t y
  split at hφ
  ·rename_i z hz
   obtain ⟨q1,q2,q3,hT,hF⟩:=hφ;have q1:a=SC lv n T C no g0:=@ϑ _ (aI _) q1;obtain ⟨rfl,rfl,rfl,rfl⟩:=ϑ q2;subst q1;match args,hrep with
   |[a0,a1,a2,a3],⟨r0,r1,r2,r3,_⟩=>
    refine ⟨[SC lv n T C m g0,.agg [.i .i64 (S:Int),.sl 4 m g],.i .i64 (i:Int),.v (.bool y)],⟨r0,r1,Dz hz r2,r3,ϖ⟩,L0,?_⟩;rw[hn];have hcl:=P.cl;have azA:S<2^62:=Nat.lt_of_lt_of_le hS (Nat.pow_le_pow_right (by decide) hcl);have aD8:S<2^63:=zA azA (by decide);have k1:=afv (show i<62 by omega);have k2:Ak.inB (i:Int) C.length=ay:=by simp[AX];omega
    have mem:nth C i∈C:=by
     simp_all [nth,bI,kS]
    have k3:Ak.inB (nth C i) n=ay:=by have:=P.ci _ mem;simp[AX];omega
    have hd:=P.dd (Ak.toN (nth C i)) (by have:=P.ci _ mem;simp[Cm];omega);have eX:=awi (T:=T) hi;have b1:=awh aD8 (show i<62 by omega);have b2:Ak.nt (Ak.eq (Ak.bin .andNot .i64 (Jf lv (FX T C) i) (S:Int)) 0)=!((aU C.length).all fun j=>!(Jf lv (FX T C) i).toNat.testBit j||S.testBit j):=by
     unfold Jf;rw[Int.toNat_natCast];grind [ahA,ae9,zI,ZH]
    have hmay:may (CX lv T C m) S i=(!S.testBit i&&(aU C.length).all fun j=>!(Jf lv (FX T C) i).toNat.testBit j||S.testBit j):=rfl;have ap8 (h:Fa (CX lv T C m) S l i y=aF):up φ (.Az [.agg [.i .i64 0,.sl 0 0 fun _=>[]],.b aA]):=by
     have:=hF (by rw[h];rfl);exact AY (s':=.Az [.agg [.i .i64 0,.sl 4 0 noT],.v (.bool aA)]) ⟨⟨rfl,.inl ⟨rfl,rfl⟩,ϖ⟩,.inr rfl,ϖ⟩ this
    have ajk (l':List A8) (g':ϝ) (hg:∀j,j<m->g' j=DJ (dR l') j) (h:Fa (CX lv T C m) S l i y=aj ⟨S|||1<<<i,l'⟩):up φ (.Az [.agg [.i .i64 (Ak.bin .or .i64 (S:Int) (Ak.bin .shl .i64 1 (Ak.conv .u64 (i:Int)))),.sl 4 m g'],.b ay]):=by
     have:=hT (by rw[h];rfl);rw[h] at this;rw[or_bit azA (by omega)];exact AY (s':=.Az [.agg [.i .i64 ((S|||1<<<i:Nat):Int),.sl 4 m (DJ (dR l'))],.v (.bool ay)]) ⟨⟨rfl,.inr ⟨rfl,rfl,hg⟩,ϖ⟩,.inr rfl,ϖ⟩ this
    have hrow:=(@ϑ _ (aI _) q3:SrP m g 49000 l/\m<=8).1.row;have z0:Ak.nt (Ak.eq 0 0)=aA:=rfl;have hk:decide ((T (Ak.toN (nth C i))).k<=1000)=ay:=ϱ hd.2;have pe (p:Zp m l (lst Dd (T (Ak.toN (nth C i))).k (T (Ak.toN (nth C i))).g)=aA):Ak.nt (Ak.eq (Oq m l (lst Dd (T (Ak.toN (nth C i))).k (T (Ak.toN (nth C i))).g) 0).1 0)=ay:=by
     have:Hf m l (lst Dd (T (Ak.toN (nth C i))).k (T (Ak.toN (nth C i))).g)=aF:=by
      simp_all [Zp]
     simp_all [aa4,BG,AQ]
    have hm1 (a:(Ak.nt (Ak.eq (Ak.bin .and .i64 (S:Int) (Ak.bin .shl .i64 1 (Ak.conv .u64 (i:Int)))) 0))=ay):may (CX lv T C m) S i=aA:=by simp_all
    have hm2 (b:(Ak.nt (Ak.eq (Ak.bin .andNot .i64 (Jf lv (FX T C) i) (S:Int)) 0))=ay):may (CX lv T C m) S i=aA:=by
     simp_all
    have hm3 (a:(Ak.nt (Ak.eq (Ak.bin .and .i64 (S:Int) (Ak.bin .shl .i64 1 (Ak.conv .u64 (i:Int)))) 0))=aA) (b:(Ak.nt (Ak.eq (Ak.bin .andNot .i64 (Jf lv (FX T C) i) (S:Int)) 0))=aA):may (CX lv T C m) S i=ay:=by
     simp_all
    have m0 (h:may (CX lv T C m) S i=aA):Fa (CX lv T C m) S l i y=aF:=by simp_all [Fa]
    have hrun:(CX lv T C m).run l i=Hf m l (lst Dd (T (Ak.toN (nth C i))).k (T (Ak.toN (nth C i))).g):=by rw[eX];rfl
    have hcom:(CX lv T C m).com i=((T (Ak.toN (nth C i))).st==3||(T (Ak.toN (nth C i))).st==2):=by rw[eX];rfl
    have aGx:(CX lv T C m).abo i=!((T (Ak.toN (nth C i))).st==3):=by rw[eX];rfl
    have hP (p:Zp m l (lst Dd (T (Ak.toN (nth C i))).k (T (Ak.toN (nth C i))).g)=ay):Hf m l (lst Dd (T (Ak.toN (nth C i))).k (T (Ak.toN (nth C i))).g)=aj (plL m l (lst Dd (T (Ak.toN (nth C i))).k (T (Ak.toN (nth C i))).g)):=by
     unfold Zp at p;unfold plL;cases h:Hf m l (lst Dd (T (Ak.toN (nth C i))).k (T (Ak.toN (nth C i))).g) with
     |none=>simp_all |some l'=>rfl
    have hN (p:Zp m l (lst Dd (T (Ak.toN (nth C i))).k (T (Ak.toN (nth C i))).g)=aA):Hf m l (lst Dd (T (Ak.toN (nth C i))).k (T (Ak.toN (nth C i))).g)=aF:=by
     simp_all [Zp]
    cases y with
    |true=>
     refine BZ (awf _ _) 300 800 [] ?_;refine D9 (an k1 (an k2 (an k3 (nd (Ak.nt (Ak.eq (Ak.bin .and .i64 (S:Int) (Ak.bin .shl .i64 1 (Ak.conv .u64 (i:Int)))) 0)) (fun a=>(?_:up φ (.Az [.agg [.i .i64 0,.sl 0 0 fun _=>[]],.b aA]))) fun a=>an k2 (nd (Ak.nt (Ak.eq (Ak.bin .andNot .i64 (Jf lv (FX T C) i) (S:Int)) 0)) (fun b=>(?_:up φ (.Az [.agg [.i .i64 0,.sl 0 0 fun _=>[]],.b aA]))) fun b=>
      nd (Ak.nt (Ak.eq (T (Ak.toN (nth C i))).st 3)) (fun c=>nd (Ak.nt (Ak.eq (T (Ak.toN (nth C i))).st 2)) (fun d=>(?_:up φ (.Az [.agg [.i .i64 0,.sl 0 0 fun _=>[]],.b aA]))) fun d=>an q3 (an hd.1 (an hk (nd (Zp m l (lst Dd (T (Ak.toN (nth C i))).k (T (Ak.toN (nth C i))).g)) (fun p=>nd (Ak.nt (Ak.eq 0 0)) (fun a=>(Vy z0 a:up φ (.Az [.agg [.i .i64 0,.sl 0 0 fun _=>[]],.b aA]))) fun _=>(?_:up φ (.Az [.agg [.i .i64 (Ak.bin .or .i64 (S:Int) (Ak.bin .shl .i64 1 (Ak.conv .u64 (i:Int)))),.sl 4 m (DJ (dR (plL m l (lst Dd (T (Ak.toN (nth C i))).k (T (Ak.toN (nth C i))).g))))],.b ay]))) fun p=>nd (Ak.nt (Ak.eq (Oq m l (lst Dd (T (Ak.toN (nth C i))).k (T (Ak.toN (nth C i))).g) 0).1 0)) (fun _=>(?_:up φ (.Az [.agg [.i .i64 0,.sl 0 0 fun _=>[]],.b aA]))) fun a=>(awj (pe p) a:up φ (.Az [.agg [.i .i64 (Ak.bin .or .i64 (S:Int) (Ak.bin .shl .i64 1 (Ak.conv .u64 (i:Int)))),.sl 0 0 fun _=>[]],.b ay])))))) fun c=>an q3 (an hd.1 (an hk (nd (Zp m l (lst Dd (T (Ak.toN (nth C i))).k (T (Ak.toN (nth C i))).g)) (fun p=>nd (Ak.nt (Ak.eq 0 0)) (fun a=>(Vy z0 a:up φ (.Az [.agg [.i .i64 0,.sl 0 0 fun _=>[]],.b aA]))) fun _=>(?_:up φ (.Az [.agg [.i .i64 (Ak.bin .or .i64 (S:Int) (Ak.bin .shl .i64 1 (Ak.conv .u64 (i:Int)))),.sl 4 m (DJ (dR (plL m l (lst Dd (T (Ak.toN (nth C i))).k (T (Ak.toN (nth C i))).g))))],.b ay]))) fun p=>nd (Ak.nt (Ak.eq (Oq m l (lst Dd (T (Ak.toN (nth C i))).k (T (Ak.toN (nth C i))).g) 0).1 0)) (fun _=>(?_:up φ (.Az [.agg [.i .i64 0,.sl 0 0 fun _=>[]],.b aA]))) fun a=>(awj (pe p) a:up φ (.Az [.agg [.i .i64 (Ak.bin .or .i64 (S:Int) (Ak.bin .shl .i64 1 (Ak.conv .u64 (i:Int)))),.sl 0 0 fun _=>[]],.b ay]))))))))))
     ·simp_all
     ·simp_all
     ·refine ap8 ?_
      unfold Fa;rw[if_pos (hm3 a b),if_pos rfl,if_neg];rw[hcom];simp[BG,AQ] at c d;simp[c,d]
     ·refine ajk _ _ (fun _ _=>rfl) ?_
      unfold Fa;rw[if_pos (hm3 a b),if_pos rfl,if_pos (by rw[hcom];simp[BG,AQ] at d;simp[d]),hrun,hP p];rfl
     ·refine ap8 ?_
      unfold Fa;rw[if_pos (hm3 a b),if_pos rfl,hrun,hN p];split<;>rfl
     ·refine ajk _ _ (fun _ _=>rfl) ?_
      unfold Fa;rw[if_pos (hm3 a b),if_pos rfl,if_pos (by rw[hcom];simp[BG,AQ] at c;simp[c]),hrun,hP p];rfl
     ·refine ap8 ?_
      unfold Fa;rw[if_pos (hm3 a b),if_pos rfl,hrun,hN p];split<;>rfl
    |false=>
     refine BZ (awf _ _) 300 800 [] ?_;refine D9 (an k1 (an k2 (an k3 (nd (Ak.nt (Ak.eq (Ak.bin .and .i64 (S:Int) (Ak.bin .shl .i64 1 (Ak.conv .u64 (i:Int)))) 0)) (fun a=>(?_:up φ (.Az [.agg [.i .i64 0,.sl 0 0 fun _=>[]],.b aA]))) fun a=>an k2 (nd (Ak.nt (Ak.eq (Ak.bin .andNot .i64 (Jf lv (FX T C) i) (S:Int)) 0)) (fun b=>(?_:up φ (.Az [.agg [.i .i64 0,.sl 0 0 fun _=>[]],.b aA]))) fun b=>
      nd (Ak.eq (T (Ak.toN (nth C i))).st 3) (fun c=>(?_:up φ (.Az [.agg [.i .i64 0,.sl 0 0 fun _=>[]],.b aA]))) fun c=>nd (Ak.nt (Ak.eq lv 3)) (fun d=>(?_:up φ (.Az [.agg [.i .i64 (Ak.bin .or .i64 (S:Int) (Ak.bin .shl .i64 1 (Ak.conv .u64 (i:Int)))),.sl 4 m g],.b ay]))) fun d=>an q3 (an hd.1 (an hk (nd (Zp m l (lst Dd (T (Ak.toN (nth C i))).k (T (Ak.toN (nth C i))).g)) (fun p=>nd (Ak.nt (Ak.eq 0 0)) (fun a=>(Vy z0 a:up φ (.Az [.agg [.i .i64 0,.sl 0 0 fun _=>[]],.b aA]))) fun _=>(?_:up φ (.Az [.agg [.i .i64 (Ak.bin .or .i64 (S:Int) (Ak.bin .shl .i64 1 (Ak.conv .u64 (i:Int)))),.sl 4 m g],.b ay]))) fun p=>nd (Ak.nt (Ak.eq (Oq m l (lst Dd (T (Ak.toN (nth C i))).k (T (Ak.toN (nth C i))).g) 0).1 0)) (fun _=>(?_:up φ (.Az [.agg [.i .i64 0,.sl 0 0 fun _=>[]],.b aA]))) fun a=>(awj (pe p) a:up φ (.Az [.agg [.i .i64 (Ak.bin .or .i64 (S:Int) (Ak.bin .shl .i64 1 (Ak.conv .u64 (i:Int)))),.sl 4 m g],.b ay]))))))))))
     ·simp_all
     ·simp_all
     ·simp_all [Fa,if_neg,AQ]
     ·refine ajk l g hrow ?_
      unfold Fa;rw[if_pos (hm3 a b),if_neg (by simp),if_pos];refine ⟨by simp_all [AQ],fun q=>?_⟩;simp[BG,AQ] at d;have q:(lv==3)=ay:=q;simp_all
     ·refine ajk l g hrow ?_
      simp_all [Fa,if_neg,AQ]
     ·refine ap8 ?_
      unfold Fa;rw[if_pos (hm3 a b),if_neg (by simp),if_neg];intro q;simp[BG,AQ] at d;have:=q.2 (show (lv==3)=ay by simpa using d);simp_all
  ·exact hφ.elim
 ·exact hφ.elim
def ap9(s:Sh)(B:Qg)(w:Int×Nat):ϕ
 |34=>aj (D32 s B w) |35=>aj F34 |36=>aj awe |37=>aj ap5 |_=>aF
def zgS:Sh:=.agg [.i .i64 0,.sl 7 0 noT,.sl 1 0 noT,.sl 1 0 noT,.sl 4 0 noT]
def D13(s:Sh)(lv:Int)(B:Qg)(w:Int×Nat)(no:Nat)(g0:ϝ):ϵ
 |[a,t]=>match Bd t with
  |some z=>.need (NS a s) (.need (decide (z=lv)) (.node B.okb (.node (decide (B.n<=12)) (.leaf (.Az [SC lv B.n B.T (D5 lv B.T 0 B.n) no g0,.agg [.i .i64 0,.sl 1 0 FB]])) (.leaf (.Az [zgS,.agg [.i .i64 118,.sl 1 0 FB]])))
    (.leaf (.Az [zgS,Og w]))))
  |none=>.fail
 |_=>.fail
section
variable{n m:Nat}{g h:ϝ}
theorem aBJ(P:IC n g m h)(stop:Nat->List Nat->Bool):BJ ak (C7 Ak W7 (ap9 (hsS n g m h) (Bj n g m h) (wE n (Ap g) m (aO h))) stop):=ig (fun g F h=>by
 unfold ap9 at h;grind [aDR,aD1,aD7,azz]) fun g h=>by
 unfold ap9 at h;split at h;all_goals first|(cases h;done) |kernel_rfl
theorem awl(P:IC n g m h){lv:Int}(hlv:lv=1\/lv=2\/lv=3):AO ak (AZ W7) 19 (D13 (hsS n g m h) lv (Bj n g m h) (wE n (Ap g) m (aO h)) n (DJ (Ja (Ap g)))):=by
 have hwe:=fun e=>aoq P e
 have hob:=fun e=>acL P e
 have hf:=aBJ P (Aw);have ho:okB Oj n g=ay:=Qr (o:=Ap g) fun j hj=>(aaX (gW P.o j hj)).1;generalize Bj n g m h=B at *;generalize wE n (Ap g) m (aO h)=w at *;refine CG (C7 Ak W7 (ap9 (hsS n g m h) B w) Aw) Tryz.f19 fun H w0 Bl args φ hrep hφ=>?_
 have hn:Tryz.f19.ntmps=48:=by kernel_rfl
 unfold D13 at hφ;split at hφ
 ·rename_i a t
  split at hφ
  ·rename_i z hz
   obtain ⟨q1,q2,hT,hF⟩:=hφ;have q1:a=hsS n g m h:=@ϑ _ (aI _) q1;obtain rfl:=ϑ q2;subst q1;match args,hrep with
   |[a0,a1],⟨r0,r1,_⟩=>
    refine ⟨[hsS n g m h,.i .i64 z],⟨r0,Dz hz r1,ϖ⟩,L0,?_⟩;rw[hn];have k0:NS (hsS n g m h) (hsS n g m h)=ay:=@ϱ _ (aI _) rfl;have hl3:decide (1<=z/\z<=3)=ay:=ϱ (by omega);have eT:Ap (α:=CJ) (Am B.T)=B.T:=H6 B.T;have zg:Wk (.agg [.i .i64 0,.sl 0 0 fun _=>[],.sl 0 0 fun _=>[],.sl 0 0 fun _=>[],.sl 0 0 fun _=>[]]) zgS:=⟨rfl,.inl ⟨rfl,rfl⟩,.inl ⟨rfl,rfl⟩,.inl ⟨rfl,rfl⟩,.inl ⟨rfl,rfl⟩,ϖ⟩;have big (a:Ak.lt 12 (Ak.AV B.n)=ay) (hok:B.okb=ay):up φ (.Az [.agg [.i .i64 0,.sl 0 0 fun _=>[],.sl 0 0 fun _=>[],.sl 0 0 fun _=>[],.sl 0 0 fun _=>[]],.agg [.i .i64 118,.sl 0 0 fun _=>[]]]):=by
     have:¬B.n<=12:=by grind [Ar,AL]
     exact AY (s':=.Az [zgS,.agg [.i .i64 118,.sl 1 0 FB]]) ⟨zg,⟨rfl,.inl ⟨rfl,rfl⟩,ϖ⟩,ϖ⟩ ((hT hok).2 (decide_eq_false this))
    refine BZ hf 300 800 [] ?_;refine D9 (an k0 (nd B.okb
     (fun hok=>nd (Ak.nt (Ak.eq 0 0)) (fun a=>(Vy rfl a:up φ (.Az [.agg [.i .i64 0,.sl 0 0 fun _=>[],.sl 0 0 fun _=>[],.sl 0 0 fun _=>[],.sl 0 0 fun _=>[]],.agg [.i .i64 0,.sl 1 0 FB]]))) fun _=>
      nd (Ak.lt 12 (Ak.AV B.n)) (fun a=>big a hok) fun a=>an ho (an (?_:okO n (Ap g)=ay) (an (Cb B.T B.n) (an (?_:decide (B.n<=62)=ay) (an hl3 (an (Cb B.T B.n) (an (?_:decide (B.n<=400)=ay)
       (?_:up φ (.Az [.agg [.i .i64 z,.sl 7 B.n (Am B.T),.sl 1 (D5 z (Ap (Am B.T)) 0 B.n).length (Am (nth (D5 z (Ap (Am B.T)) 0 B.n))),.sl 1 (D5 z (Ap (Am B.T)) 0 B.n).length (Am (Jf z (FX (Ap (Am B.T)) (D5 z (Ap (Am B.T)) 0 B.n)))),.sl 4 n (DJ (Ja (Ap g)))],.agg [.i .i64 0,.sl 1 0 FB]])))))))))
     (fun hno=>nd (Ak.nt (Ak.eq w.1 0)) (fun _=>(?_:up φ (.Az [.agg [.i .i64 0,.sl 0 0 fun _=>[],.sl 0 0 fun _=>[],.sl 0 0 fun _=>[],.sl 0 0 fun _=>[]],Og w]))) fun a=>
      nd (Ak.lt 12 (Ak.AV 0)) (fun b=>(Vy rfl b:up φ (.Az [.agg [.i .i64 0,.sl 0 0 fun _=>[],.sl 0 0 fun _=>[],.sl 0 0 fun _=>[],.sl 0 0 fun _=>[]],.agg [.i .i64 118,.sl 0 0 fun _=>[]]]))) fun _=>
       (Vy (by simp_all [BG,AQ]:ay=aA) rfl:okB Oj n g=ay/\okO n (Ap g)=ay/\ay=ay/\ay=ay/\decide (1<=z/\z<=3)=ay/\ay=ay/\ay=ay/\up φ (.Az [.agg [.i .i64 z,.sl 0 0 fun _=>[],.sl 1 (D5 z (Ap noT) 0 0).length (Am (nth (D5 z (Ap noT) 0 0))),.sl 1 (D5 z (Ap noT) 0 0).length (Am (Jf z (FX (Ap noT) (D5 z (Ap noT) 0 0)))),.sl 4 n (DJ (Ja (Ap g)))],Og w])))))
    ·simp_all [okO,ϱ,Bool.true_and,List.all_eq_true,eF]
    ·grind [Ar,AL,ϱ]
    ·grind [Ar,AL,ϱ]
    ·have hs:B.n<=12:=by grind [Ar,AL]
     have:=(hT hok).1 (ϱ hs);rw[eT];exact AY (s':=.Az [SC z B.n B.T (D5 z B.T 0 B.n) n (DJ (Ja (Ap g))),.agg [.i .i64 0,.sl 1 0 FB]]) ⟨⟨rfl,.inr ⟨rfl,rfl,fun _ _=>rfl⟩,.inr ⟨rfl,rfl,fun _ _=>rfl⟩,.inr ⟨rfl,rfl,fun _ _=>rfl⟩,.inr ⟨rfl,rfl,fun _ _=>rfl⟩,ϖ⟩,⟨rfl,.inl ⟨rfl,rfl⟩,ϖ⟩,ϖ⟩ this
    ·exact AY (s':=.Az [zgS,Og w]) ⟨zg,⟨rfl,.inr ⟨rfl,rfl,fun _ _=>rfl⟩,ϖ⟩,ϖ⟩ (hF hno)
  ·exact hφ.elim
 ·exact hφ.elim
end
end Go.Rg
namespace Go.Pl
open Go Go.Sx Go.Proofs Go.Gm Go.Bf
def ex(k t th o p v r:Int):List Sh:=[.i .i64 k,.i .i64 t,.i .i64 th,.i .i64 o,.i .i64 p,.i .i64 0,.i .i64 v,.i .i64 r]
def EU:ϝ:=Bh [[.i .i64 1,.i .i64 0]]
def exL:List (List Sh):=[ex 1 1 0 0 0 0 0,ex 1 2 1 0 0 0 0,ex 2 1 0 0 1 0 0,ex 3 1 0 0 0 0 3,ex 2 2 0 0 1 0 0,ex 3 2 0 0 0 0 3,ex 2 1 0 0 2 1 0,ex 3 1 0 0 0 0 1,ex 2 2 0 0 2 2 0,ex 3 2 0 0 0 0 1,ex 4 1 0 0 0 0 0,ex 5 1 0 0 0 0 0,ex 4 2 0 0 0 0 0]
def Ij:ϝ:=Bh exL
def Qi:ϝ:=Ak.snoc Ij 13 (Bh [ex 5 2 0 0 0 0 0])
section
variable{n m:Nat}{g h:ϝ}{lv:Int}
theorem aBK(P:IC n g m h)(hb:(Jg (hsS n g m h) lv).okb=ay)(mo:Int):
  rsP (hsS n g m h) lv mo=(ER (VP (Jg (hsS n g m h) lv)) E8 (newL n g) mo.toNat).map (kT (Eh (Ig n (I4 g))))/\
  ∀r,ER (VP (Jg (hsS n g m h) lv)) E8 (newL n g) mo.toNat=aj r->Ii (hsS n g m h) lv mo=QE (VP (Jg (hsS n g m h) lv)) E8 (newL n g) r/\rtL (hsS n g m h) lv mo=(IB (VP (Jg (hsS n g m h) lv)) E8 (newL n g) r).map Gj/\JF (hsS n g m h) lv mo=((r.length:Nat):Int):=by
 have hT:((Bj n g m h).okb&&decide ((Bj n g m h).n<=12))=ay:=hb;rw[aB,ϟ] at hT;have T:=aaY P hT.1 hT.2;have hp:=afk (key:=DV n) (key':=E8) (aa2 (lv:=lv)) (OL T) (Jy T) mo.toNat;rw[afp] at hp;have e1:rsP (hsS n g m h) lv mo=(ER (VP (Jg (hsS n g m h) lv)) E8 (newL n g) mo.toNat).map (kT (Eh (Ig n (I4 g)))):=hp;refine ⟨e1,fun r hr=>?_⟩;have hr':ER (VP (CO lv n g (Bj n g m h))) E8 (newL n g) mo.toNat=aj r:=hr;have hq:∀x∈r,QlP lv n g (Bj n g m h) x:=NQ (OL T).step hr' (fun x hx=>by
  simp_all [Jy])
 have eL:rsL (hsS n g m h) lv mo=r.map (Eh (Ig n (I4 g))):=by simp_all [rsL]
 have hy:=afl (key:=DV n) (key':=E8) (aa2 (lv:=lv)) (OL T) hq (Jy T);have hs:=afn (key:=DV n) (key':=E8) (aa2 (lv:=lv)) (OL T) hq (Jy T);rw[afp] at hy hs;refine ⟨?_,?_,?_⟩
 ·unfold Ii;rw[eL];exact hy
 ·unfold rtL;rw[eL];exact congrArg (kT Gj) hs
 simp_all [JF,dH]
end
theorem exH:IC 1 EU 13 Ij:=⟨by kernel_rfl,by kernel_rfl,by kernel_rfl,by kernel_rfl⟩
theorem aqa:IC 1 EU 14 Qi:=⟨by kernel_rfl,by kernel_rfl,by kernel_rfl,by kernel_rfl⟩
theorem awm:(Jg (hsS 1 EU 13 Ij) 1).okb=ay:=by kernel_rfl
theorem ayB:(Jg (hsS 1 EU 14 Qi) 1).okb=ay:=by kernel_rfl
end Go.Pl
namespace Go.Rg
open Go Go.Sx Go.Pl Go.Proofs Go.Gm Go.Bf
theorem aoA(lv:Int)(T:Nat->CJ):∀r i,FX T (D5 lv T i r)=ctF lv T i r
 |0,i=>rfl |r+1,i=>by
  have ih:=aoA lv T r (i+1);grind [FX,D5,aaV]
section
variable{n m:Nat}{g h:ϝ}{lv:Int}
theorem ajl(lv:Int)(n:Nat)(g:ϝ)(B:Qg):CX lv B.T (D5 lv B.T 0 B.n) n=VP (CO lv n g B):=by
 have e:FX B.T (D5 lv B.T 0 B.n)=Ic lv B.n B.T:=by rw[aoA,Zy]
 have e2:(D5 lv B.T 0 B.n).length=(Ic lv B.n B.T).length:=by rw[<-e,ZH]
 unfold CX;rw[e,e2];rfl
theorem newR(T:TbP n g (Bj n g m h)):∀j,j<n->DJ (Ja (Ap g)) j=DJ (dR (newL n g)) j:=fun j hj=>by
 have h1:=(alH (T.b j hj)).2;have h2:Dk (newL n g) j=newT (Ap g) j:=by
  simp_all [Dk,newL,bI]
 show Q5 (Ja (Ap g) j)=Q5 (toR (Dk (newL n g) j));rw[h2,h1]
theorem aqb(T:TbP n g (Bj n g m h))(hlv:lv=1\/lv=2\/lv=3):UK lv (Bj n g m h).n (Bj n g m h).T (D5 lv (Bj n g m h).T 0 (Bj n g m h).n) n where
 lv:=hlv
 cl:=by
  have:=ZG lv (Bj n g m h).T (Bj n g m h).n 0;have:=T.few;omega
 ci x hx:=by
  have:=ajj lv (Bj n g m h).T (Bj n g m h).n 0 x hx;omega
 dd i hi:=⟨(T.ok i hi).1,by have:=(T.ok i hi).2;omega⟩
end
open Go Go.Sx Go.Pl Go.Proofs Go.Gm Go.Bf
def ZI(g:Game (List A8))(nd:Nd (List A8))(i:Nat):List ((Int×Bool)×Nd (List A8)):=
 ((Fa g nd.placed nd.st i ay).toList.map fun t=>((g.id i,ay),t))++(Fa g nd.placed nd.st i aA).toList.map fun t=>((g.id i,aA),t)
theorem afw(g:Game (List A8))(nd:Nd (List A8))(i:Nat):Ia g nd i=ZI g nd i:=by
 unfold Ia ZI Fa;split
 ·congr 1
  ·cases g.com i<;>cases g.run nd.st i<;>simp
  grind
 ·simp
def abZ(g:Game (List A8))(nd:Nd (List A8))(i r:Nat):List ((Int×Bool)×Nd (List A8)):=(List.range' i r).flatMap (ZI g nd)
theorem afx(g:Game (List A8))(nd:Nd (List A8)):turns g nd=abZ g nd 0 g.n:=by
 unfold turns abZ;rw[List.range_eq_range'];congr 1;grind [afw]
theorem afy(g:Game (List A8))(nd:Nd (List A8))(i r:Nat):abZ g nd i (r+1)=ZI g nd i++abZ g nd (i+1) r:=by
 rfl
def ZJ(g:Game (List A8))(nd:Nd (List A8))(i r:Nat):List (Nd (List A8)):=(abZ g nd i r).map (·.2)
theorem ajm(g:Game (List A8))(nd:Nd (List A8)):next g nd=ZJ g nd 0 g.n:=by unfold next ZJ;rw[afx]
theorem afz(g:Game (List A8))(nd:Nd (List A8))(i r:Nat):ZJ g nd i (r+1)=(Fa g nd.placed nd.st i ay).toList++((Fa g nd.placed nd.st i aA).toList++ZJ g nd (i+1) r):=by
 simp_all [ZJ,afy,ZI,Function.comp_def]
theorem aa5{α κ:Type}[DecidableEq κ]{key:α->κ}{m:Nat}:∀{a b o:List α},EJ key m o (a++b)=(EJ key m o a).bind fun o'=>EJ key m o' b
 |[],b,o=>rfl |x::a,b,o=>by
  simp only[List.cons_append,EJ];cases GV key m o x with
  |none=>rfl |some o'=>exact aa5
theorem ar6{α:Type}{next:α->List α}{full:α->Bool}{n:α}:Ux next full n↔full n=ay\/∃t∈next n,Ux next full t:=
 ⟨fun h=>by
  cases h with
  |here h=>exact .inl h |step ht h=>grind,fun h=>h.elim .here fun ⟨t,ht,h⟩=>.step ht h⟩
def LU(o:List (Nd (List A8)))(t:Nd (List A8)):Option Nat:=o.findIdx? fun x=>decide (E8 x=E8 t)
theorem aqc(o:List (Nd (List A8)))(t:Nd (List A8)):(LU o t).isSome=Jw E8 o (E8 t):=by
 unfold LU Jw;simp
structure SE(G:Game (List A8))(s:List A8)(m:Nat)(Q:Nd (List A8)->Prop)(r:List (Nd (List A8))):Prop where
 hr:ER G E8 s m=aj r
 m1:1<=m
 qs:∀nd,Q nd->∀t∈next G nd,Q t
 q0:Q (dM s)
theorem acN{x y:Nd (List A8)}(h:E8 x=E8 y):x=y:=by
 cases x;simp_all [E8]
section
variable{G:Game (List A8)}{s:List A8}{m:Nat}{Q:Nd (List A8)->Prop}{r:List (Nd (List A8))}
theorem SE.all(P:SE G s m Q r):∀x∈r,Q x:=NQ P.qs P.hr fun x hx=>by
 obtain rfl:x=dM s:=by grind
 exact P.q0
theorem SE.at(P:SE G s m Q r){k:Nat}{nd t:Nd (List A8)}(hk:r[k]?=aj nd)(ht:t∈next G nd):∃j,LU r t=aj j/\k<j/\j<r.length/\r[j]?=aj t:=by
 have hm:=ahz P.m1 P.hr P.qs (fun x y _ _ h=>acN h) P.q0 nd (List.mem_of_getElem? hk) t ht;have hs:(LU r t).isSome=ay:=by rw[aqc];grind [NP]
 obtain ⟨j,hj⟩:=Option.isSome_iff_exists.1 hs;have hj':=hj;unfold LU at hj';rw[List.findIdx?_eq_some_iff_getElem] at hj';obtain ⟨h1,h2,_⟩:=hj';have e:r[j]=t:=acN (ϑ h2);have et:r[j]?=aj t:=by simp_all
 refine ⟨j,hj,?_,h1,et⟩;have hl:=aeZ (rk:=rk G) (fun n t ht=>Sm t ht) P.hr (fun n hn=>by
  obtain rfl:n=dM s:=by simp_all
  exact ⟨pK _ _,fun x hx=>by
   simp_all⟩) (pK _ _)
 grind [Sm,List.getElem?_eq_some_iff,Nat.lt_or_ge,Nat.eq_or_lt_of_le,List.pairwise_iff_getElem]
theorem SE.ld(P:SE G s m Q r){nd:Nd (List A8)}(h:nd∈r):Uc G E8 r nd=ay↔Ux (next G) (full G) nd:=apT P.m1 P.hr P.qs (fun _ _ _ _ h=>acN h) P.q0 nd h
end
section
variable{n m:Nat}{g h:ϝ}{lv:Int}
abbrev Rk(lv:Int)(n:Nat)(g:ϝ)(m:Nat)(h:ϝ):Game (List A8):=CX lv (Bj n g m h).T (D5 lv (Bj n g m h).T 0 (Bj n g m h).n) n
def paO(lv mo:Int)(n:Nat)(g:ϝ)(m:Nat)(h:ϝ):Option (List (Nd (List A8))):=ER (Rk lv n g m h) E8 (newL n g) mo.toNat
theorem ab1(P:IC n g m h)(hok:(Bj n g m h).okb=ay)(hn:(Bj n g m h).n<=12)(mo:Int):
  rsP (hsS n g m h) lv mo=(paO lv mo n g m h).map (kT (Eh (Ig n (I4 g)))):=by
 have T:=aaY P hok hn;unfold paO Rk;rw[ajl lv n g];have e:=afk (key:=DV n) (key':=E8) (aa2 (lv:=lv)) (OL (lv:=lv) T) (Jy T) mo.toNat;rw[afp] at e;exact e
theorem ab2(P:IC n g m h)(hok:(Bj n g m h).okb=ay)(hn:(Bj n g m h).n<=12){mo:Int}{r:List (Nd (List A8))}(hr:paO lv mo n g m h=aj r):
  Ii (hsS n g m h) lv mo=QE (Rk lv n g m h) E8 (newL n g) r/\rtL (hsS n g m h) lv mo=(IB (Rk lv n g m h) E8 (newL n g) r).map Gj/\JF (hsS n g m h) lv mo=(r.length:Nat):=by
 have T:=aaY P hok hn;have e:=ab1 (lv:=lv) P hok hn mo;rw[hr] at e;have eL:rsL (hsS n g m h) lv mo=r.map (Eh (Ig n (I4 g))):=by simp_all [rsL]
 have hq:∀x∈r,QlP lv n g (Bj n g m h) x:=by
  unfold paO Rk at hr;rw[ajl lv n g] at hr;exact NQ (OL T).step hr fun x hx=>by
   simp_all [Jy]
 unfold Rk;rw[ajl lv n g];have y:=afl (key:=DV n) (key':=E8) (aa2 (lv:=lv)) (OL (lv:=lv) T) hq (Jy T);have s:=afn (key:=DV n) (key':=E8) (aa2 (lv:=lv)) (OL (lv:=lv) T) hq (Jy T);rw[afp] at y s;refine ⟨?_,?_,?_⟩
 ·unfold Ii;rw[eL];exact y
 ·unfold rtL;rw[eL];exact congrArg (kT Gj) s
 simp_all [JF,dH]
end
open Go Go.Sx Go.Pl Go.Proofs Go.Gm Go.Bf
def lf38(no:Nat):Option (Nd (List A8))->Tree Sh
 |some t=>.leaf (.Az [.agg [.i .i64 (t.placed:Nat),.sl 4 no (DJ (dR t.st))],.v (.bool ay)]) |none=>.leaf (.Az [.agg [.i .i64 0,.sl 4 0 noT],.v (.bool aA)])
def aoB(g:Game (List A8))(S:Nat)(l:List A8)(i:Nat)(cm:Bool)(o:Option (Nd (List A8))):Bool:=@decide (Fa g S l i cm=o) (aI _)
def D24(lv:Int)(n:Nat)(T:Nat->CJ)(C:List Int)(no:Nat)(g0:ϝ)(S:Nat)(l:List A8)(i:Nat)(cm:Bool)(o:Option (Nd (List A8))):ϵ
 |[a,.agg [.i .i64 x,.sl 4 m g],t,.b y]=>match Bd t with
  |some z=>.need (NS a (SC lv n T C no g0)) (.need (decide (x=(S:Int)/\m=no/\z=(i:Int)/\y=cm)) (.need (srB l m g) (.need (aoB (CX lv T C no) S l i cm o) (lf38 no o)))) |none=>.fail
 |_=>.fail
theorem ar7{H:Mem}{b:Bool}{v:Value}(h:Rep H (.b b) v):Rep H (.v (.bool b)) v:=by cases h;exact .v _ rfl
theorem O24{lv:Int}{n:Nat}{T:Nat->CJ}{C:List Int}{no:Nat}(P:UK lv n T C no)(g0:ϝ){S:Nat}(l:List A8){i:Nat}(hi:i<C.length)(hS:S<2^C.length)(cm:Bool)(o:Option (Nd (List A8))):
  AO ak (AZ W7) 24 (D24 lv n T C no g0 S l i cm o):=by
 intro H w Bl args φ hon hgl hr hφ;unfold D24 at hφ;split at hφ
 ·rename_i a x m g t y
  split at hφ
  ·rename_i z hz
   obtain ⟨h1,h2,h3,h4,h5⟩:=hφ;have h4:Fa (CX lv T C no) S l i cm=o:=@ϑ _ (aI _) h4;obtain ⟨rfl,rfl,rfl,rfl⟩:=ϑ h2;match args,hr with
   |[a0,a1,a2,a3],⟨r0,r1,r2,r3,_⟩=>
    refine O38 P g0 l hi hS y H w [a,.agg [.i .i64 (S:Int),.sl 4 m g],t,.v (.bool y)] _ φ hon hgl ⟨r0,r1,r2,ar7 r3,ϖ⟩ ?_;unfold D38;simp only[hz];refine ⟨h1,by simp,h3,fun q=>?_,fun q=>?_⟩
    ·rw[h4] at q ⊢
     cases o with
     |none=>cases q |some nd=>exact h5
    ·rw[h4] at q
     cases o with
     |none=>exact h5 |some nd=>cases q
  ·exact hφ.elim
 ·exact hφ.elim
theorem Bq{A:Prim}{W:Wd}{s s':ϕ}{stop stop':Nat->List Nat->Bool}{K:Kx}{g:Nat}{td:List It}{c:Core}{R:Hp->Prop}{φ:Sh->Prop}
  (h:AB ak (ED A W s stop) K g td c [] R φ):AB ak (ED A W s' stop') K g td c [] R φ:=fun H E w a items ms cs fn hf st hi hs hx=>
 h H E w a items ms cs fn hf ⟨st.den,st.hp,st.CP,st.free,st.gl,st.defers⟩ hi (by cases ms with
  |nil=>trivial |cons _ _=>exact hs.elim) hx
def QH(lv:Int)(n:Nat)(T:Nat->CJ)(C:List Int)(no:Nat)(g0:ϝ)(S:Nat)(l:List A8)(i:Nat)(cm:Bool)(o:Option (Nd (List A8)))(D:Nat->Nat->Rf)(e:Nat->Rf):ϕ
 |24=>aj (D24 lv n T C no g0 S l i cm o) |25=>aj (F25 D e) |_=>aF
theorem ajn{lv:Int}{n:Nat}{T:Nat->CJ}{C:List Int}{no:Nat}(P:UK lv n T C no)(g0:ϝ){S:Nat}(l:List A8){i:Nat}(hi:i<C.length)(hS:S<2^C.length)(cm:Bool)(o:Option (Nd (List A8)))(D:Nat->Nat->Rf)(e:Nat->Rf)(stop:Nat->List Nat->Bool):BJ ak (ED Ak W7 (QH lv n T C no g0 S l i cm o D e) stop):=iF (fun g F h=>by
 unfold QH at h;grind [O24,azy]) fun g h=>by
 unfold QH at h;split at h;all_goals first|(cases h;done) |kernel_rfl
def Ce(no:Nat)(t:Nd (List A8)):J8:=⟨(t.placed:Nat),no,DJ (dR t.st)⟩
def BR(o:List (Nd (List A8)))(j:Nat):Nd (List A8):=o.getD j ⟨0,[]⟩
def LG(o:List (Nd (List A8))):Nat->Nat->Rf:=fun j=>dR (BR o j).st
structure IE(no N:Nat)(t:Nd (List A8)):Prop where
 lt:t.placed<2^N
 len:t.st.length=no
 few:no<=8
 inv:∀j,j<no->Gt 49000 (Dk t.st j)
theorem awn{m:Nat}{s t:A8}(hs:Gt m s)(ht:Gt m t)(h:toR s=toR t):s=t:=by
 have h1:s.kind=t.kind:=congrArg Rf.kind h;have h2:s.num=t.num:=congrArg Rf.num h;grind [ahp]
section
variable{no N:Nat}
theorem ayD{s t:Nd (List A8)}(hs:IE no N s)(ht:IE no N t):((dfL no (dR s.st) (dR t.st)).length=0)↔s.st=t.st:=by
 unfold dfL;rw[dH,List.length_eq_zero_iff,List.filter_eq_nil_iff];constructor
 ·intro h
  refine ahG hs.len ht.len fun j hj=>?_
  have:=h j (eF.2 hj);simp only[Bool.not_eq_true',Bool.not_eq_false] at this;exact awn (hs.inv j hj) (ht.inv j hj) (aoy.1 this)
 ·intro h j _
  rw[h,aoy.2 rfl];simp
theorem Uj(o:List (Nd (List A8))){j:Nat}(h:j<o.length):nth (o.map (Ce no)) j=Ce no (BR o j):=by
 simp[nth,BR,h]
theorem aBL{o:List (Nd (List A8))}(ho:∀x∈o,IE no N x){t:Nd (List A8)}(ht:IE no N t){j:Nat}(hj:j<o.length):
  Sz (nth (o.map (Ce no))) (LG o) no (dR t.st) (t.placed:Nat) j=decide (E8 (BR o j)=E8 t):=by
 have hx:IE no N (BR o j):=ho _ (by simp[BR,hj]);unfold Sz;rw[Uj o hj,jK,aB,ϟ,ϟ];show Ak.eq ((BR o j).placed:Nat) (t.placed:Nat)=ay/\(dfL no (dR (BR o j).st) (dR t.st)).length=0↔_;rw[ayD hx ht,AQ,ϡ];grind [E8]
theorem ahI{p:Nat->Bool}{q:Nd (List A8)->Bool}:∀(o:List (Nd (List A8))) (i:Nat),(∀j (h:j<o.length),p (i+j)=q o[j])->UJ p o.length i=match o.findIdx? q with|some j=>((i+j:Nat):Int) |none=>-1
 |[],i,_=>rfl |x::o,i,h=>by
  have h0:=h 0 (by simp);have ih:=ahI o (i+1) fun j hj=>by
   have:=h (j+1) (by simp;omega);rw[show i+1+j=i+(j+1) by omega];exact this
  grind [UJ]
theorem aoC{o:List (Nd (List A8))}(ho:∀x∈o,IE no N x){t:Nd (List A8)}(ht:IE no N t):UJ (Sz (nth (o.map (Ce no))) (LG o) no (dR t.st) (t.placed:Nat)) o.length 0=match LU o t with|some j=>(j:Int) |none=>-1:=by
 rw[ahI (q:=fun x=>decide (E8 x=E8 t)) o 0 fun j hj=>by
  rw[Nat.zero_add,aBL ho ht hj];simp[BR,hj]]
 simp_all [LU]
theorem aoD{o:List (Nd (List A8))}(ho:∀x∈o,IE no N x)(hk:o.length<=100000){t:Nd (List A8)}(ht:IE no N t):fdB o.length (nth (o.map (Ce no))) (LG o) no (DJ (dR t.st)) (dR t.st)=ay:=
 @ϱ _ (aI _) ⟨hk,by have:=ht.few;omega,fun _ _=>rfl,fun j hj=>by
  have hx:IE no N (BR o j):=ho _ (by simp[BR,hj]);rw[Uj o hj];refine ⟨rfl,fun i hi=>⟨rfl,?_⟩⟩;have:=alG (m:=49000) (by omega) (hx.inv i hi);unfold wfU aiP at this;rw[aB,ϟ] at this;exact this.1⟩
end
open Go Go.Sx Go.Pl Go.Proofs Go.Gm Go.Bf
def gmV(lv:Int)(n:Nat)(T:Nat->CJ)(C:List Int)(no:Nat)(g0:ϝ):List SV:=[.sym .i64 lv,.sh (.sl 7 n (Am T)),.sh (.sl 1 C.length (Am (nth C))),.sh (.sl 1 C.length (Am (Jf lv (FX T C)))),.sh (.sl 4 no g0)]
def aa6:List It:=[aK [0,1,0,0,1,0,0,1,0,1,1],aX 2,aX 1,aK [1,1,0,0,1,0,1,1]]++JG
def VR:List It:=[aK [0,1,0,0,1,0,0,1,0,0,1,0,0,1,0,1,1],aX 4,aX 3,aK [1,1,0,0,1,0,0,1,0,0,1,0,1,1]]++aa6
def LR(lv:Int)(n:Nat)(T:Nat->CJ)(C:List Int)(no:Nat)(g0:ϝ)(mo:Int)(acc:List J8)(l:List (Nat×SV)):Core:=
 {tm:=DF 62 ([(1,.sym .i64 mo),(2,.ptr 0 0),(6,.gs 1)]++l),hp:=[(0,.box (gmV lv n T C no g0) 70),(1,.own 80 2 acc.length (Am (nth acc)))],nx:=2,lim:=L0,tc:=[]}
theorem BN{a b:Bool}{l l':List Bool}(h:a=b)(h2:l=l'):a::l=b::l':=by rw[h,h2]
def azB(lv:Int)(n:Nat)(T:Nat->CJ)(C:List Int)(no:Nat)(g0:ϝ)(nd:Nd (List A8))(i:Nat)(cm:Bool)(x:Option (Nd (List A8)))(R:J8)(l:List Bool):List Bool:=
 [NS (SC lv n T C no g0) (SC lv n T C no g0),decide (R.placed=(nd.placed:Int)/\R.n=no/\(i:Int)=(i:Int)/\cm=cm),srB nd.st R.n R.g,aoB (CX lv T C no) nd.placed nd.st i cm x]++l
section
variable{lv:Int}{n:Nat}{T:Nat->CJ}{C:List Int}{no:Nat}{g0:ϝ}
theorem IK{nd:Nd (List A8)}(h:IE no C.length nd){i:Nat}{cm:Bool}{x:Option (Nd (List A8))}(hx:Fa (CX lv T C no) nd.placed nd.st i cm=x){R:J8}(hR:R=Ce no nd){l l':List Bool}(hl:l=l'):
  azB lv n T C no g0 nd i cm x R l=ay::ay::ay::ay::l':=by
 subst hR;unfold azB;rw[show NS (SC lv n T C no g0) (SC lv n T C no g0)=ay from @ϱ _ (aI _) rfl,show aoB (CX lv T C no) nd.placed nd.st i cm x=ay from @ϱ _ (aI _) hx,
  show srB nd.st (Ce no nd).n (Ce no nd).g=ay from @ϱ _ (aI _) ⟨⟨h.len,fun _ _=>rfl,h.inv⟩,h.few⟩,ϱ ⟨rfl,rfl,rfl,rfl⟩,hl];rfl
variable{H0:Mem}{w0:World}{φ:Sh->Prop}{mo:Int}{o:List (Nd (List A8))}{k i:Nat}{s0:ϕ}
theorem aqd(P:UK lv n T C no)(hm:1<=mo/\mo<=65536)(ho:∀x∈o,IE no C.length x)(hl:o.length<=mo.toNat)(hk:k<o.length)(hi:i<C.length)(cm:Bool){x:Option (Nd (List A8))}(hx:Fa (CX lv T C no) (BR o k).placed (BR o k).st i cm=x)(hox:∀t,x=aj t->IE no C.length t)
  (nx:∀o',EJ E8 mo.toNat o x.toList=aj o'->AB ak (ED Ak W7 s0 Aw) (K0 H0 w0) 20 VR (LR lv n T C no g0 mo (o'.map (Ce no)) [(7,.sym .i64 (k:Int)),(8,.sym .i64 (i:Int)),(9,.int .i64 (bif cm then 1 else 2))]) [] emp (up φ))
  (bad:EJ E8 mo.toNat o x.toList=aF->φ (.Az [.sl 0 0 noT,.b aA])) :
  AB ak (ED Ak W7 s0 Aw) (K0 H0 w0) 20 VR (LR lv n T C no g0 mo (o.map (Ce no)) [(7,.sym .i64 (k:Int)),(8,.sym .i64 (i:Int)),(9,.int .i64 (bif cm then 0 else 1))]) [] emp (up φ):=by
 have hnd:IE no C.length (BR o k):=ho _ (by simp[BR,hk]);have hR:nth (o.map (Ce no)) (Ak.toN (k:Int))=Ce no (BR o k):=Uj o hk;have inb:Ak.inB (k:Int) (o.map (Ce no)).length=ay:=by simp[AX];omega
 refine D6 lD (aK [0,0,1,0,0,1,0,0,1,0,0,1,0,0,1,0,1,1]::VR) ?_;cases x with
 |none=>
  refine Bq (s:=QH lv n T C no g0 (BR o k).placed (BR o k).st i cm aF (LG o) (dR [])) (stop:=Aw) ?_;have nx:=Bq (s':=QH lv n T C no g0 (BR o k).placed (BR o k).st i cm aF (LG o) (dR [])) (stop':=Aw) (nx o rfl);refine BZ (ajn P g0 _ hi hnd.lt cm _ _ _ _) 300 400 [⟨20,VR,LR lv n T C no g0 mo (o.map (Ce no)) [(7,.sym .i64 (k:Int)),(8,.sym .i64 (i:Int)),(9,.int .i64 (bif cm then 1 else 2))],[]⟩] ?_;have hc:=IK (n:=n) (g0:=g0) hnd hx hR (IK (n:=n) (g0:=g0) hnd hx hR (l:=[]) rfl);cases cm<;>exact DC (BN inb hc) 0 ⟨_,rfl,nx⟩
 |some t=>
  have ht:=hox t rfl;have hlen:(o.map (Ce no)).length=o.length:=dH ..;have hrw:Ap (α:=J8) (Am (nth (o.map (Ce no))))=nth (o.map (Ce no)):=Nr _;refine Bq (s:=QH lv n T C no g0 (BR o k).placed (BR o k).st i cm (aj t) (LG o) (dR t.st)) (stop:=Aw) ?_;have k1 (l l':List Bool) (h:l=l'):=BN inb (IK (n:=n) (g0:=g0) hnd hx hR (IK (n:=n) (g0:=g0) hnd hx hR (l:=(okB J8 (o.map (Ce no)).length (Am (nth (o.map (Ce no))))&&fdB (o.map (Ce no)).length (Ap (Am (nth (o.map (Ce no))))) (LG o) no (DJ (dR t.st)) (dR t.st))::l) (l':=ay::l') (by
   grind [Cb,aoD])))
  have hfi:=aoC ho ht;rw[<-hlen] at hfi;have k2 (b:Bool) (hb:Jw E8 o (E8 t)=b):Ak.le 0 (UJ (Sz (Ap (Am (nth (o.map (Ce no))))) (LG o) no (dR t.st) (t.placed:Nat)) (o.map (Ce no)).length 0)=b:=by
   grind [aqc,LU,CS]
  cases hb:Jw E8 o (E8 t) with
  |true=>
   have nx:=Bq (s':=QH lv n T C no g0 (BR o k).placed (BR o k).st i cm (aj t) (LG o) (dR t.st)) (stop':=Aw) (nx o (by simp[EJ,GV,hb]));refine BZ (ajn P g0 _ hi hnd.lt cm _ _ _ _) 300 400 [⟨20,VR,LR lv n T C no g0 mo (o.map (Ce no)) [(7,.sym .i64 (k:Int)),(8,.sym .i64 (i:Int)),(9,.int .i64 (bif cm then 1 else 2))],[]⟩] ?_;cases cm<;>exact DC (k1 _ _ (BN (k2 ay hb) (rfl:[]=[]))) 0 ⟨_,rfl,nx⟩
  |false=>
   by_cases hf:o.length=mo.toNat
   ·refine BZ (ajn P g0 _ hi hnd.lt cm _ _ _ _) 300 400 [] ?_
    have hq:=bad (by simp[EJ,GV,hb,hf]);have k3:Ak.le mo (Ak.AV (o.map (Ce no)).length)=ay:=by rw[hlen,CS,AL,ϟ];omega
    cases cm<;>exact I9 (k1 _ _ (BN (k2 aA hb) (BN k3 (rfl:[]=[])))) (s:=.Az [.sl 0 0 noT,.b aA]) (AY (s':=.Az [.sl 0 0 noT,.b aA]) ⟨.inl ⟨rfl,rfl⟩,.inl rfl,ϖ⟩ hq)
   ·have nx:=Bq (s':=QH lv n T C no g0 (BR o k).placed (BR o k).st i cm (aj t) (LG o) (dR t.st)) (stop':=Aw) (nx (o++[t]) (by simp[EJ,GV,hb,hf]))
    rw[jR] at nx;have k3:Ak.le mo (Ak.AV (o.map (Ce no)).length)=aA:=by grind [CS,AL,decide_eq_false_iff_not]
    have k4:Ak.room (Ak.addN (o.map (Ce no)).length 1) 32=ay:=by rw[hlen,Em,ϟ,Dl];unfold maxLen;omega
    refine BZ (ajn P g0 _ hi hnd.lt cm _ _ _ _) 300 400 [⟨20,VR,LR lv n T C no g0 mo (o.map (Ce no)++[Ce no t]) [(7,.sym .i64 (k:Int)),(8,.sym .i64 (i:Int)),(9,.int .i64 (bif cm then 1 else 2))],[]⟩] ?_;cases cm<;>exact DC (k1 _ _ (BN (k2 aA hb) (BN k3 (BN k4 (rfl:[]=[]))))) 0 ⟨_,rfl,nx⟩ [9,10]
     [BL.nat (Ak.addN (o.map (Ce no)).length 1) (o.map (Ce no)++[Ce no t]).length,bY (Ak.addN (o.map (Ce no)).length 1) (Ak.snoc (Am (nth (o.map (Ce no)))) (o.map (Ce no)).length (Bh [[.i .i64 (t.placed:Nat),.sl 4 no (DJ (dR t.st))]])) (Am (nth (o.map (Ce no)++[Ce no t])))]
     ⟨(by rw[cO];rfl),Ib (o.map (Ce no)) (Ce no t) _ rfl,ϖ⟩
theorem afA{g:Game (List A8)}{nd:Nd (List A8)}{i:Nat}(hi:i<g.n){cm:Bool}{t:Nd (List A8)}(h:Fa g nd.placed nd.st i cm=aj t):t∈next g nd:=by
 unfold next;refine List.mem_map.2 ⟨((g.id i,cm),t),?_,rfl⟩;unfold turns;refine List.mem_flatMap.2 ⟨i,eF.2 hi,?_⟩;rw[afw];unfold ZI;cases cm<;>simp[h]
theorem ahJ{o r:List (Nd (List A8))}{k:Nat}(h:k<o.length):BR (o++r) k=BR o k:=by
 grind [BR]
variable{Q:Nd (List A8)->Prop}
theorem amq(P:UK lv n T C no)(hm:1<=mo/\mo<=65536)(hq:∀x,Q x->IE no C.length x)(hs:∀x,Q x->∀t∈next (CX lv T C no) x,Q t){nd:Nd (List A8)}{k:Nat}(hnq:Q nd):
  ∀r i (o:List (Nd (List A8))),i+r=C.length->k<o.length->BR o k=nd->(∀x∈o,Q x)->o.length<=mo.toNat->
  (∀o',EJ E8 mo.toNat o (ZJ (CX lv T C no) nd i r)=aj o'->k<o'.length->(∀x∈o',Q x)->o'.length<=mo.toNat->AB ak (ED Ak W7 s0 Aw) (K0 H0 w0) 20 JG (LR lv n T C no g0 mo (o'.map (Ce no)) [(7,.sym .i64 (Ak.add .i64 (k:Int) (ah 1)))]) [] emp (up φ))->
  (EJ E8 mo.toNat o (ZJ (CX lv T C no) nd i r)=aF->φ (.Az [.sl 0 0 noT,.b aA]))->
  AB ak (ED Ak W7 s0 Aw) (K0 H0 w0) 20 aa6 (LR lv n T C no g0 mo (o.map (Ce no)) [(7,.sym .i64 (k:Int)),(8,.sym .i64 (i:Int))]) [] emp (up φ)
 |0,i,o,hi,hk,hn,ho,hl,nx,bad=>by
  refine D6 lD (aK [0,0,1,0,0,1,0,0,1,0,1,1]::aa6) ?_;have nx:=Bq (s':=noSpec) (stop':=Aw) (nx o rfl hk ho hl);refine Bq (s:=noSpec) (stop:=Aw) ?_;refine BZ (iF (fun _ _ h=>by cases h) fun _ h=>by cases h) 300 400 [⟨20,JG,LR lv n T C no g0 mo (o.map (Ce no)) [(7,.sym .i64 (Ak.add .i64 (k:Int) (ah 1)))],[]⟩] ?_;exact DC (l:=[aA]) (cs:=[Ak.lt (i:Int) C.length]) (by simp[Ar];omega) 0 ⟨_,rfl,nx⟩
 |r+1,i,o,hi,hk,hn,ho,hl,nx,bad=>by
  have hc:=P.cl;have hi':i<C.length:=by omega
  have w1:=add1 (j:=i) (by omega);rw[afz] at nx bad;have oq (cm:Bool) {x} (hx:Fa (CX lv T C no) nd.placed nd.st i cm=x):∀t,x=aj t->Q t:=fun t e=>hs nd hnq t (afA (g:=CX lv T C no) hi' (e ▸ hx));refine D6 lD (aK [0,0,1,0,0,1,0,0,1,0,1,1]::aa6) ?_;refine Bq (s:=noSpec) (stop:=Aw) ?_;refine BZ (iF (fun _ _ h=>by cases h) fun _ h=>by cases h) 300 400 [⟨20,VR,LR lv n T C no g0 mo (o.map (Ce no)) [(7,.sym .i64 (k:Int)),(8,.sym .i64 (i:Int)),(9,.int .i64 (bif ay then 0 else 1))],[]⟩] ?_;refine DC (l:=[ay]) (cs:=[Ak.lt (i:Int) C.length]) (by simp[Ar];omega) 0 ⟨_,rfl,?_⟩;obtain ⟨x0,e0⟩:∃x,Fa (CX lv T C no) nd.placed nd.st i ay=x:=⟨_,rfl⟩;obtain ⟨x1,e1⟩:∃x,Fa (CX lv T C no) nd.placed nd.st i aA=x:=⟨_,rfl⟩;rw[e0,e1,aa5] at nx bad;refine aqd P hm (fun x hx=>hq x (ho x hx)) hl hk hi' ay (by simp_all) (fun t e=>hq t (oq ay e0 t e)) (fun o1 h1=>?_) (fun h1=>bad (by rw[h1];rfl));rw[h1] at nx bad;obtain ⟨t1,rfl,hl1⟩:=Nb h1;have ho1:=O4 h1 ho fun x hx=>by
   simp_all
  have hk1:k<(o++t1).length:=by grind
  have hn1:BR (o++t1) k=nd:=(ahJ hk).trans hn;simp only[Option.bind_some] at nx bad;rw[aa5] at nx bad;refine aqd P hm (fun x hx=>hq x (ho1 x hx)) (hl1 hl) hk1 hi' aA (by simp_all) (fun t e=>hq t (oq aA e1 t e)) (fun o2 h2=>?_) (fun h2=>bad (by rw[h2];rfl));rw[h2] at nx bad;obtain ⟨t2,rfl,hl2⟩:=Nb h2;have ho2:=O4 h2 ho1 fun x hx=>by
   simp_all
  have hk2:k<(o++t1++t2).length:=by grind
  have ih:=amq P hm hq hs hnq r (i+1) (o++t1++t2) (by omega) hk2 ((ahJ hk1).trans hn1) ho2 (hl2 (hl1 hl)) nx bad;rw[<-w1] at ih;have ih:=Bq (s':=noSpec) (stop':=Aw) ih;refine D6 lD (aK [0,0,1,0,0,1,0,0,1,0,0,1,0,0,1,0,1,1]::VR) ?_;refine Bq (s:=noSpec) (stop:=Aw) ?_;refine BZ (iF (fun _ _ h=>by cases h) fun _ h=>by cases h) 300 400 [⟨20,aa6,LR lv n T C no g0 mo ((o++t1++t2).map (Ce no)) [(7,.sym .i64 (k:Int)),(8,.sym .i64 (Ak.add .i64 (i:Int) (ah 1)))],[]⟩] ?_;exact DC (l:=[]) (cs:=[]) rfl 0 ⟨_,rfl,ih⟩
theorem amr(P:UK lv n T C no)(hm:1<=mo/\mo<=65536)(hq:∀x,Q x->IE no C.length x)(hs:∀x,Q x->∀t∈next (CX lv T C no) x,Q t):
  ∀f k (o:List (Nd (List A8))),mo.toNat+1<=f+k->k<=o.length->(∀x∈o,Q x)->o.length<=mo.toNat->
  (∀r,Na E8 (next (CX lv T C no)) mo.toNat f o k=aj r->φ (.Az [.sl 2 r.length (Am (nth (r.map (Ce no)))),.b ay]))->
  (Na E8 (next (CX lv T C no)) mo.toNat f o k=aF->φ (.Az [.sl 0 0 noT,.b aA]))->
  AB ak (ED Ak W7 s0 Aw) (K0 H0 w0) 20 JG (LR lv n T C no g0 mo (o.map (Ce no)) [(7,.sym .i64 (k:Int))]) [] emp (up φ)
 |0,k,o,hf,hk,ho,hl,nx,bad=>by omega |f+1,k,o,hf,hk,ho,hl,nx,bad=>by
  have hlen:(o.map (Ce no)).length=o.length:=dH ..;refine D6 lD (aK [0,0,1,0,1,1]::JG) ?_;refine Bq (s:=noSpec) (stop:=Aw) ?_;unfold Na at nx bad;by_cases h:k<o.length
  ·rw[aV h] at nx bad
   have hn:BR o k=o[k]:=by simp[BR,h]
   refine BZ (iF (fun _ _ h=>by cases h) fun _ h=>by cases h) 300 400 [⟨20,aa6,LR lv n T C no g0 mo (o.map (Ce no)) [(7,.sym .i64 (k:Int)),(8,.sym .i64 ((0:Nat):Int))],[]⟩] ?_;refine DC (l:=[ay]) (cs:=[Ak.lt (k:Int) (Ak.AV (o.map (Ce no)).length)]) (by simp_all [Ar,AL]) 0 ⟨_,rfl,?_⟩;have w1:=add1 (j:=k) (by omega);have hG:(CX lv T C no).n=C.length:=rfl;refine amq P hm hq hs (nd:=o[k]) (ho _ (kS h)) C.length 0 o (by omega) h hn ho hl (fun o' h1 h2 h3 h4=>?_) (fun h1=>bad (by simp_all [ajm]));rw[<-hG,<-ajm] at h1;simp only[h1] at nx bad;rw[w1];exact Bq (amr P hm hq hs f (k+1) o' (by omega) (by omega) h3 h4 nx bad)
  ·rw[List.getElem?_eq_none (by omega)] at nx
   refine BZ (iF (fun _ _ h=>by cases h) fun _ h=>by cases h) 300 400 [] ?_;have hφ:=nx o rfl;exact I9 (l:=[aA]) (cs:=[Ak.lt (k:Int) (Ak.AV (o.map (Ce no)).length)]) (by simp_all [Ar,AL]) (s:=.Az [.os 80 2 (o.map (Ce no)).length (Am (nth (o.map (Ce no)))),.b ay])
    (AY (s':=.Az [.sl 2 o.length (Am (nth (o.map (Ce no)))),.b ay]) ⟨.inr ⟨rfl,hlen,fun _ _=>rfl⟩,.inl rfl,ϖ⟩ hφ)
end
def isG(lv:Int)(n:Nat)(T:Nat->CJ)(C:List Int)(no:Nat)(s:List A8)(a:Sh):Bool:=@decide (∃g0,a=SC lv n T C no g0/\∀j,j<no->g0 j=DJ (dR s) j) (aI _)
def F20(lv:Int)(n:Nat)(T:Nat->CJ)(C:List Int)(no:Nat)(s:List A8)(mo:Int)(r:Option (List (Nd (List A8)))):ϵ
 |[a,t]=>match Bd t with
  |some z=>.need (isG lv n T C no s a) (.need (decide (z=mo)) (match r with
   |some o=>.leaf (.Az [.sl 2 o.length (Am (nth (o.map (Ce no)))),.b ay]) |none=>.leaf (.Az [.sl 0 0 noT,.b aA])))
  |none=>.fail
 |_=>.fail
theorem azC{lv:Int}{n:Nat}{T:Nat->CJ}{C:List Int}{no:Nat}{s:List A8}{mo:Int}{Q:Nd (List A8)->Prop}(P:UK lv n T C no)(hm:1<=mo/\mo<=65536)(hq:∀x,Q x->IE no C.length x)(hs:∀x,Q x->∀t∈next (CX lv T C no) x,Q t)(h0:Q (dM s)):
  AO ak (AZ W7) 20 (F20 lv n T C no s mo (ER (CX lv T C no) E8 s mo.toNat)):=by
 refine CG (ED Ak W7 noSpec Aw) lD fun H w Bl args φ hrep h=>?_
 have hn:lD.ntmps=62:=by kernel_rfl
 unfold F20 at h;split at h
 ·rename_i a t
  split at h
  ·rename_i z e1
   obtain ⟨q1,q2,hφ⟩:=h;obtain ⟨g0,rfl,hg⟩:=@ϑ _ (aI _) q1;obtain rfl:=ϑ q2;match args,hrep with
   |[v,u],⟨rv,ru,_⟩=>
    refine ⟨[SC lv n T C no (DJ (dR s)),.i .i64 z],⟨Lu rv ⟨fun _ r=>r,fun _ r=>r,fun _ r=>r,fun _ r=>r,fun _ r=>Gg r (.inr ⟨rfl,rfl,hg⟩),ϖ⟩,Dz e1 ru,ϖ⟩,L0,?_⟩;rw[hn];have go:=amr (φ:=φ) (s0:=noSpec) (H0:=H) (w0:=w) (g0:=DJ (dR s)) P hm hq hs (z.toNat+1) 0 [dM s] (by omega) (by simp) (fun x hx=>by
     simp_all) (by simp;omega) (fun r hr=>by
     rw[show ER (CX lv T C no) E8 s z.toNat=aj r from hr] at hφ;exact hφ) (fun hr=>by
     rw[show ER (CX lv T C no) E8 s z.toNat=aF from hr] at hφ;exact hφ)
    refine BZ (iF (fun _ _ h=>by cases h) fun _ h=>by cases h) 300 400 [⟨20,JG,LR lv n T C no (DJ (dR s)) z ([dM s].map (Ce no)) [(7,.sym .i64 ((0:Nat):Int))],[]⟩] ?_;exact DC (l:=[]) (cs:=[]) rfl 0 ⟨_,rfl,go⟩ [8] [bY 1 (Bh [[.i .i64 0,.sl 4 no (DJ (dR s))]]) (Am (nth ([dM s].map (Ce no))))] ⟨fun j hj=>by
     obtain rfl:j=0:=by omega
     rfl,ϖ⟩
  ·exact h.elim
 ·exact h.elim
open Go Go.Sx Go.Pl Go.Proofs Go.Gm Go.Bf
def aqe:ϵ
 |[.agg [_,_,s,_,_]]=>match Dj 1 s with
  |some (c,_)=>.need (decide (c<=62)) (.leaf (.i .i64 ((2^c - 1:Nat):Int))) |none=>.fail
 |_=>.fail
theorem azD:AO ak (AZ W7) 23 aqe:=by
 refine CV (Ej Aw) 300 400 L0 Tryz.f23 fun H w Bl args φ hrep h=>?_
 unfold aqe at h;split at h
 ·rename_i a b s d e
  split at h
  ·rename_i c g h1
   obtain ⟨q1,hφ⟩:=h;have q1:=ϑ q1;match args,hrep with
   |[v],⟨hv,_⟩=>
    refine ⟨[.agg [a,b,.sl 1 c g,d,e]],⟨?_,ϖ⟩,?_⟩
    ·refine Qw hv rfl fun j s s' e1 e2 u hu=>?_
     grind [Bz]
    ·rw[<-Dh]
     have cc:Ak.conv .u64 (Ak.AV c)=(c:Int):=by
      show jM.wrap (c:Int)=_;rw[rV];omega
     refine Ld (an (by rfl:Ak.le 0 (Ak.conv .u64 (Ak.AV c))=ay) (?_:up φ (.i .i64 (Ak.sub .i64 (Ak.bin .shl .i64 1 (Ak.conv .u64 (Ak.AV c))) 1))));rw[cc,show Ak.sub .i64 (Ak.bin .shl .i64 1 (c:Int)) 1=((2^c - 1:Nat):Int) from al0 q1];exact AY (s':=.i .i64 ((2^c - 1:Nat):Int)) rfl hφ
  ·exact h.elim
 ·exact h.elim
def fnB(f:Nat->Bool):ϝ:=fun j=>[.b (f j)]
def LH(lv:Int)(n:Nat)(T:Nat->CJ)(C:List Int)(no:Nat)(g0:ϝ)(S:Nat)(l:List A8)(i:Nat)(cm:Bool)(o:Option (Nd (List A8)))(D:Nat->Nat->Rf)(e:Nat->Rf):ϕ
 |23=>aj aqe |24=>aj (D24 lv n T C no g0 S l i cm o) |25=>aj (F25 D e) |_=>aF
theorem afC{lv:Int}{n:Nat}{T:Nat->CJ}{C:List Int}{no:Nat}(P:UK lv n T C no)(g0:ϝ){S:Nat}(l:List A8){i:Nat}(hi:i<C.length)(hS:S<2^C.length)(cm:Bool)(o:Option (Nd (List A8)))(D:Nat->Nat->Rf)(e:Nat->Rf)(stop:Nat->List Nat->Bool):BJ ak (ED Ak W7 (LH lv n T C no g0 S l i cm o D e) stop):=iF (fun g F h=>by
 unfold LH at h;grind [azD,O24,azy]) fun g h=>by
 unfold LH at h;split at h;all_goals first|(cases h;done) |kernel_rfl
def VU:List It:=[aK [0,1,1,0,0,1,0,0,1,0,1,1],aX 2,aX 1,aK [1,1,0,0,1,0,1,1]]++JG
def Uk:List It:=[aK [0,1,0,0,1,0,0,1,1,0,0,1,0,0,1,0,1,1],aX 4,aX 3,aK [1,1,0,0,1,1,0,0,1,0,0,1,0,1,1]]++VU
def LL(lv:Int)(n:Nat)(T:Nat->CJ)(C:List Int)(no:Nat)(g0:ϝ)(R:List J8)(f:Nat->Bool)(l:List (Nat×SV)):Core:=
 {tm:=DF 73 ([(1,.sh (.sl 2 R.length (Am (nth R)))),(2,.ptr 0 0),(5,.gs 1)]++l),hp:=[(0,.box (gmV lv n T C no g0) 70),(1,.own 4 1 R.length (fnB f))],nx:=2,lim:=L0,tc:=[]}
def Ec(o:List (Nd (List A8)))(f:Nat->Bool)(k:Nat):Option (Nd (List A8))->Nat->Bool
 |none=>f |some t=>fun j=>if j=k then f ((LU o t).getD 0) else f j
section
variable{lv:Int}{n:Nat}{T:Nat->CJ}{C:List Int}{no:Nat}{g0:ϝ}{H0:Mem}{w0:World}{φ:Sh->Prop}{o:List (Nd (List A8))}{k i:Nat}{f:Nat->Bool}{s0:ϕ}
theorem aqf(P:UK lv n T C no)(ho:∀x∈o,IE no C.length x)(hl:o.length<=65536)(hk:k<o.length)(hi:i<C.length)(cm:Bool){x:Option (Nd (List A8))}(hx:Fa (CX lv T C no) (BR o k).placed (BR o k).st i cm=x)(hox:∀t,x=aj t->IE no C.length t/\∃j,LU o t=aj j/\j<o.length)(hf:f k=aA)
  (nx:AB ak (ED Ak W7 s0 Aw) (K0 H0 w0) 22 Uk (LL lv n T C no g0 (o.map (Ce no)) (Ec o f k x) [(6,.sym .i64 (k:Int)),(7,.sym .i64 (i:Int)),(8,.int .i64 (bif cm then 1 else 2))]) [] emp (up φ)) :
  AB ak (ED Ak W7 s0 Aw) (K0 H0 w0) 22 Uk (LL lv n T C no g0 (o.map (Ce no)) f [(6,.sym .i64 (k:Int)),(7,.sym .i64 (i:Int)),(8,.int .i64 (bif cm then 0 else 1))]) [] emp (up φ):=by
 have hlen:(o.map (Ce no)).length=o.length:=dH ..;have hnd:IE no C.length (BR o k):=ho _ (by simp[BR,hk]);have hR:nth (o.map (Ce no)) (Ak.toN (k:Int))=Ce no (BR o k):=Uj o hk;have inb:Ak.inB (k:Int) (o.map (Ce no)).length=ay:=by simp[AX];omega
 have k0 {l l':List Bool} (h:l=l'):[Ak.inB (k:Int) (o.map (Ce no)).length,Ak.nt (f (Ak.toN (k:Int))),Ak.inB (k:Int) (o.map (Ce no)).length]++l=ay::ay::ay::l':=by
  rw[inb,show f (Ak.toN (k:Int))=aA from hf,h];rfl
 refine D6 kL (aK [0,0,1,0,0,1,0,0,1,1,0,0,1,0,0,1,0,1,1]::Uk) ?_;cases x with
 |none=>
  refine Bq (s:=LH lv n T C no g0 (BR o k).placed (BR o k).st i cm aF (LG o) (dR [])) (stop:=Aw) ?_;have nx:=Bq (s':=LH lv n T C no g0 (BR o k).placed (BR o k).st i cm aF (LG o) (dR [])) (stop':=Aw) nx;refine BZ (afC P g0 _ hi hnd.lt cm _ _ _ _) 300 400 [⟨22,Uk,LL lv n T C no g0 (o.map (Ce no)) f [(6,.sym .i64 (k:Int)),(7,.sym .i64 (i:Int)),(8,.int .i64 (bif cm then 1 else 2))],[]⟩] ?_;have hc:=k0 (IK (n:=n) (g0:=g0) hnd hx hR (IK (n:=n) (g0:=g0) hnd hx hR (l:=[]) rfl));cases cm<;>exact DC hc 0 ⟨_,rfl,nx⟩
 |some t=>
  obtain ⟨ht,q,hq,hql⟩:=hox t rfl;have hrw:Ap (α:=J8) (Am (nth (o.map (Ce no))))=nth (o.map (Ce no)):=Nr _;have hfi:UJ (Sz (Ap (Am (nth (o.map (Ce no))))) (LG o) no (dR t.st) (t.placed:Nat)) (o.map (Ce no)).length 0=(q:Int):=by
   have:=aoC ho ht;simp_all
  refine Bq (s:=LH lv n T C no g0 (BR o k).placed (BR o k).st i cm (aj t) (LG o) (dR t.st)) (stop:=Aw) ?_;have nx:=Bq (s':=LH lv n T C no g0 (BR o k).placed (BR o k).st i cm (aj t) (LG o) (dR t.st)) (stop':=Aw) nx;refine BZ (afC P g0 _ hi hnd.lt cm _ _ _ _) 300 400 [⟨22,Uk,LL lv n T C no g0 (o.map (Ce no)) (Ec o f k (aj t)) [(6,.sym .i64 (k:Int)),(7,.sym .i64 (i:Int)),(8,.int .i64 (bif cm then 1 else 2))],[]⟩] ?_;have hc:=k0 (IK (n:=n) (g0:=g0) hnd hx hR (IK (n:=n) (g0:=g0) hnd hx hR (l:=[okB J8 (o.map (Ce no)).length (Am (nth (o.map (Ce no))))&&fdB (o.map (Ce no)).length (Ap (Am (nth (o.map (Ce no))))) (LG o) no (DJ (dR t.st)) (dR t.st),
   Ak.inB (UJ (Sz (Ap (Am (nth (o.map (Ce no))))) (LG o) no (dR t.st) (t.placed:Nat)) (o.map (Ce no)).length 0) (o.map (Ce no)).length,Ak.inB (k:Int) (o.map (Ce no)).length]) (l':=[ay,ay,ay]) (by
   rw[Cb,hfi,hrw,inb,hlen,aoD ho (by omega) ht,show Ak.inB (q:Int) o.length=ay by simp[AX];omega];rfl)))
  cases cm<;>exact DC hc 0 ⟨_,rfl,nx⟩ [10]
   [bY (o.map (Ce no)).length (Ak.upd (fnB f) (Ak.toN (k:Int)) 0 [.b (f (Ak.toN (UJ (Sz (Ap (Am (nth (o.map (Ce no))))) (LG o) no (dR t.st) (t.placed:Nat)) (o.map (Ce no)).length 0)))]) (fnB (Ec o f k (aj t)))]
   ⟨fun j _=>by
    rw[hfi];have e:Ec o f k (aj t) j=if j=k then f q else f j:=by simp[Ec,hq]
    unfold fnB;rw[e];by_cases h:j=k
    ·subst h
     rw[if_pos rfl];show (if j=j then _ else _)=_;rw[if_pos rfl];rfl
    ·rw[if_neg h]
     show (if j=k then _ else _)=_;rw[if_neg h],ϖ⟩
theorem ajo(hk:k<o.length)(c:Nat)(hc:c<2->f k=ay)(hc2:c=0\/c=1\/c=2)
  (nx:AB ak (ED Ak W7 s0 Aw) (K0 H0 w0) 22 VU (LL lv n T C no g0 (o.map (Ce no)) f [(6,.sym .i64 (k:Int)),(7,.sym .i64 (Ak.add .i64 (i:Int) (ah 1)))]) [] emp (up φ)) :
  AB ak (ED Ak W7 s0 Aw) (K0 H0 w0) 22 Uk (LL lv n T C no g0 (o.map (Ce no)) f [(6,.sym .i64 (k:Int)),(7,.sym .i64 (i:Int)),(8,.int .i64 (c:Int))]) [] emp (up φ):=by
 have inb:Ak.inB (k:Int) (o.map (Ce no)).length=ay:=by simp[AX];omega
 have nx:=Bq (s':=noSpec) (stop':=Aw) nx;refine D6 kL (aK [0,0,1,0,0,1,0,0,1,1,0,0,1,0,0,1,0,1,1]::Uk) ?_;refine Bq (s:=noSpec) (stop:=Aw) ?_;refine BZ (iF (fun _ _ h=>by cases h) fun _ h=>by cases h) 300 400 [⟨22,VU,LL lv n T C no g0 (o.map (Ce no)) f [(6,.sym .i64 (k:Int)),(7,.sym .i64 (Ak.add .i64 (i:Int) (ah 1)))],[]⟩] ?_;have k1 (h:f k=ay):[Ak.inB (k:Int) (o.map (Ce no)).length,Ak.nt (f (Ak.toN (k:Int)))]=[ay,aA]:=by rw[inb,show f (Ak.toN (k:Int))=ay from h];rfl
 rcases hc2 with rfl|rfl|rfl
 ·exact DC (k1 (hc (by omega))) 0 ⟨_,rfl,nx⟩
 ·exact DC (k1 (hc (by omega))) 0 ⟨_,rfl,nx⟩
 ·exact DC (l:=[]) (cs:=[]) rfl 0 ⟨_,rfl,nx⟩
theorem aBN(P:UK lv n T C no)(ho:∀x∈o,IE no C.length x)(hl:o.length<=65536)(hk:k<o.length)(hi:i<C.length){x0 x1:Option (Nd (List A8))}{eN:Nd (List A8)->Bool}(h0:Fa (CX lv T C no) (BR o k).placed (BR o k).st i ay=x0)(h1:Fa (CX lv T C no) (BR o k).placed (BR o k).st i aA=x1)
  (hx:∀t,x0=aj t\/x1=aj t->IE no C.length t/\∃j,LU o t=aj j/\j<o.length/\j≠k/\f j=eN t)
  (nx:∀f',(∀j,j≠k->f' j=f j)->(f' k=(f k||(x0.toList++x1.toList).any eN))->AB ak (ED Ak W7 s0 Aw) (K0 H0 w0) 22 VU (LL lv n T C no g0 (o.map (Ce no)) f' [(6,.sym .i64 (k:Int)),(7,.sym .i64 (Ak.add .i64 (i:Int) (ah 1)))]) [] emp (up φ)) :
  AB ak (ED Ak W7 s0 Aw) (K0 H0 w0) 22 Uk (LL lv n T C no g0 (o.map (Ce no)) f [(6,.sym .i64 (k:Int)),(7,.sym .i64 (i:Int)),(8,.int .i64 (bif ay then 0 else 1))]) [] emp (up φ):=by
 have oth {f:Nat->Bool} {x} (j:Nat) (h:j≠k):Ec o f k x j=f j:=by cases x<;>simp[Ec,h]
 have at_ {f':Nat->Bool} (hf:∀j,j≠k->f' j=f j) {x} (h:x=x0\/x=x1) (hk:f' k=aA):Ec o f' k x k=x.toList.any eN:=by
  cases x with
  |none=>assumption |some t=>
   grind [Ec]
 have ox {x} (h:x=x0\/x=x1):∀t,x=aj t->IE no C.length t/\∃j,LU o t=aj j/\j<o.length:=fun t e=>by
  grind
 cases hf:f k with
 |true=>grind [ajo] |false=>
  refine aqf P ho hl hk hi ay h0 (ox (.inl rfl)) hf ?_;have v0:=at_ (f':=f) (fun _ _=>rfl) (.inl rfl) hf;cases hf1:Ec o f k x0 k with
  |true=>exact ajo (c:=1) hk (fun _=>hf1) (.inr (.inl rfl)) (nx _ oth (by simp_all)) |false=>
   refine aqf P ho hl hk hi aA h1 (ox (.inr rfl)) hf1 ?_;have v1:=at_ (f':=Ec o f k x0) oth (.inr rfl) hf1;exact ajo (c:=2) hk (fun h=>by omega) (.inr (.inr rfl)) (nx _ (fun j h=>(oth j h).trans (oth j h)) (by simp_all))
theorem ams(P:UK lv n T C no)(ho:∀x∈o,IE no C.length x)(hl:o.length<=65536)(hk:k<o.length){eN:Nd (List A8)->Bool}:∀r i (f:Nat->Bool),i+r=C.length->
  (∀t∈next (CX lv T C no) (BR o k),IE no C.length t/\∃j,LU o t=aj j/\j<o.length/\j≠k/\f j=eN t)->
  (∀f',(∀j,j≠k->f' j=f j)->(f' k=(f k||(ZJ (CX lv T C no) (BR o k) i r).any eN))->AB ak (ED Ak W7 s0 Aw) (K0 H0 w0) 22 JG (LL lv n T C no g0 (o.map (Ce no)) f' [(6,.sym .i64 (Ak.sub .i64 (k:Int) (ah 1)))]) [] emp (up φ))->
  AB ak (ED Ak W7 s0 Aw) (K0 H0 w0) 22 VU (LL lv n T C no g0 (o.map (Ce no)) f [(6,.sym .i64 (k:Int)),(7,.sym .i64 (i:Int))]) [] emp (up φ)
 |0,i,f,hi,hE,nx=>by
  refine D6 kL (aK [0,0,1,1,0,0,1,0,0,1,0,1,1]::VU) ?_;have nx:=Bq (s':=noSpec) (stop':=Aw) (nx f (fun _ _=>rfl) (by simp[ZJ,abZ]));refine Bq (s:=noSpec) (stop:=Aw) ?_;refine BZ (iF (fun _ _ h=>by cases h) fun _ h=>by cases h) 300 400 [⟨22,JG,LL lv n T C no g0 (o.map (Ce no)) f [(6,.sym .i64 (Ak.sub .i64 (k:Int) (ah 1)))],[]⟩] ?_;exact DC (l:=[aA]) (cs:=[Ak.lt (i:Int) C.length]) (by simp[Ar];omega) 0 ⟨_,rfl,nx⟩
 |r+1,i,f,hi,hE,nx=>by
  have hc:=P.cl;have hi':i<C.length:=by omega
  refine D6 kL (aK [0,0,1,1,0,0,1,0,0,1,0,1,1]::VU) ?_;refine Bq (s:=noSpec) (stop:=Aw) ?_;refine BZ (iF (fun _ _ h=>by cases h) fun _ h=>by cases h) 300 400 [⟨22,Uk,LL lv n T C no g0 (o.map (Ce no)) f [(6,.sym .i64 (k:Int)),(7,.sym .i64 (i:Int)),(8,.int .i64 (bif ay then 0 else 1))],[]⟩] ?_;refine DC (l:=[ay]) (cs:=[Ak.lt (i:Int) C.length]) (by simp[Ar];omega) 0 ⟨_,rfl,?_⟩;refine aBN (eN:=eN) P ho hl hk hi' rfl rfl (fun t ht=>hE t (by rcases ht with h|h<;>exact afA (g:=CX lv T C no) hi' h)) fun f1 a1 a2=>?_
  rw[show Ak.add .i64 (i:Int) (ah 1)=((i+1:Nat):Int) from add1 (by omega)];(refine Bq (ams (eN:=eN) P ho hl hk r (i+1) f1 (by omega) (fun t ht=>?_) fun f2 b1 b2=>nx f2 (fun j h=>(b1 j h).trans (a1 j h)) ?_))<;>grind [Bq,trans,afz,Bool.or_assoc]
def Hg(g:Game (List A8))(t:Nd (List A8)):Bool:=@decide (Ux (next g) (full g) t) (aI _)
theorem awo(g:Game (List A8))(t:Nd (List A8)):Hg g t=(full g t||(next g t).any (Hg g)):=by
 rw[jK,Bool.or_eq_true,List.any_eq_true];unfold Hg;grind [ar6]
def ab3:ϕ
 |23=>aj aqe |_=>aF
theorem aoE(stop:Nat->List Nat->Bool):BJ ak (ED Ak W7 ab3 stop):=iF (fun g F h=>by
 grind [ab3,azD]) fun g h=>by
 unfold ab3 at h;split at h;all_goals first|(cases h;done) |kernel_rfl
theorem amu{s:List A8}{m:Nat}{Q:Nd (List A8)->Prop}(P:UK lv n T C no)(A:SE (CX lv T C no) s m Q o)(hq:∀x,Q x->IE no C.length x)(hl:o.length<=65536)(hφ:φ (.sl 1 o.length (fnB fun j=>Hg (CX lv T C no) (BR o j)))):
  ∀K (f:Nat->Bool),K<=o.length->(∀j,K<=j->j<o.length->f j=Hg (CX lv T C no) (BR o j))->
  AB ak (ED Ak W7 s0 Aw) (K0 H0 w0) 22 JG (LL lv n T C no g0 (o.map (Ce no)) f [(6,.sym .i64 ((K:Int) - 1))]) [] emp (up φ)
 |0,f,hK,hf=>by
  have hlen:(o.map (Ce no)).length=o.length:=dH ..;refine D6 kL (aK [0,0,1,0,1,1]::JG) ?_;refine Bq (s:=noSpec) (stop:=Aw) ?_;refine BZ (iF (fun _ _ h=>by cases h) fun _ h=>by cases h) 300 400 [] ?_;exact I9 (l:=[aA]) (cs:=[Ak.le 0 (((0:Nat):Int) - 1)]) (by rfl) (s:=.os 4 1 (o.map (Ce no)).length (fnB f)) (AY (s':=.sl 1 o.length (fnB fun j=>Hg (CX lv T C no) (BR o j))) (.inr ⟨rfl,hlen,fun j hj=>by
   rw[hlen] at hj;show [Sh.b (f j)]=[Sh.b _];simp_all⟩) hφ)
 |K+1,f,hK,hf=>by
  have hk:K<o.length:=hK;have e1:(((K+1:Nat):Int) - 1)=(K:Int):=by omega
  have hok:∀x∈o,IE no C.length x:=fun x hx=>hq x (A.all x hx);have inb:Ak.inB (K:Int) (o.map (Ce no)).length=ay:=by simp[AX];omega
  have hKo:o[K]?=aj (BR o K):=by simp[BR,hk]
  have e2:Ak.sub .i64 (K:Int) (ah 1)=(K:Int) - 1:=by
   show bD.wrap ((K:Int) - 1)=_;grind [CU]
  have hv:Ak.eq (nth (o.map (Ce no)) (Ak.toN (K:Int))).placed ((2^C.length - 1:Nat):Int)=full (CX lv T C no) (BR o K):=by
   rw[show nth (o.map (Ce no)) (Ak.toN (K:Int))=Ce no (BR o K) from Uj o hk,jK,AQ,ϡ];unfold full;rw[ϟ];exact ⟨fun h=>jf h,fun h=>congrArg ah h⟩
  rw[e1];refine D6 kL (aK [0,0,1,0,1,1]::JG) ?_;have go:=ams (φ:=φ) (s0:=ab3) (H0:=H0) (w0:=w0) (g0:=g0) (n:=n) (eN:=Hg (CX lv T C no)) P hok hl hk C.length 0 (fun j=>if j=K then full (CX lv T C no) (BR o K) else f j) (by omega) (fun t ht=>by
   obtain ⟨j,a1,a2,a3,a4⟩:=A.at hKo ht;grind [BR]) fun f' b1 b2=>by
   rw[e2];refine Bq (amu P A hq hl hφ K f' (by omega) fun j h1 h2=>?_);by_cases q:j=K
   ·subst q
    rw[b2,if_pos rfl,awo,ajm];rfl
   grind
  refine Bq (s:=ab3) (stop:=Aw) ?_;refine BZ (aoE _) 300 400 [⟨22,VU,LL lv n T C no g0 (o.map (Ce no)) (fun j=>if j=K then full (CX lv T C no) (BR o K) else f j) [(6,.sym .i64 (K:Int)),(7,.sym .i64 ((0:Nat):Int))],[]⟩] ?_;exact DC (l:=[ay,ay,ay,ay]) (cs:=[Ak.le 0 (K:Int),Ak.inB (K:Int) (o.map (Ce no)).length,decide (C.length<=62),Ak.inB (K:Int) (o.map (Ce no)).length]) (by rw[inb,ϱ P.cl,show Ak.le 0 (K:Int)=ay by rfl]) 0 ⟨_,rfl,go⟩ [9]
   [bY (o.map (Ce no)).length (Ak.upd (fnB f) (Ak.toN (K:Int)) 0 [.b (Ak.eq (nth (o.map (Ce no)) (Ak.toN (K:Int))).placed ((2^C.length - 1:Nat):Int))]) (fnB fun j=>if j=K then full (CX lv T C no) (BR o K) else f j)]
   ⟨fun j _=>by
    rw[hv];show (if j=K then _ else _)=[Sh.b (if j=K then _ else _)];by_cases q:j=K
    ·rw[if_pos q,if_pos q];rfl
    ·rw[if_neg q,if_neg q];rfl,ϖ⟩
end
def awp(lv:Int)(n:Nat)(T:Nat->CJ)(C:List Int)(no:Nat)(a:Sh):Bool:=@decide (∃g0,a=SC lv n T C no g0) (aI _)
def awq(no:Nat)(o:List (Nd (List A8)))(k:Nat)(G:ϝ):Bool:=@decide (k=o.length/\∀j,j<k->G j=Am (nth (o.map (Ce no))) j) (aI _)
def F22(lv:Int)(n:Nat)(T:Nat->CJ)(C:List Int)(no:Nat)(o:List (Nd (List A8))):ϵ
 |[a,.sl 2 k G]=>.need (awp lv n T C no a) (.need (awq no o k G) (.leaf (.sl 1 o.length (fnB fun j=>Hg (CX lv T C no) (BR o j))))) |_=>.fail
theorem aEa{lv:Int}{n:Nat}{T:Nat->CJ}{C:List Int}{no:Nat}{o:List (Nd (List A8))}{s:List A8}{m:Nat}{Q:Nd (List A8)->Prop}(P:UK lv n T C no)(A:SE (CX lv T C no) s m Q o)(hq:∀x,Q x->IE no C.length x)(hl:o.length<=65536):
  AO ak (AZ W7) 22 (F22 lv n T C no o):=by
 refine CG (ED Ak W7 noSpec Aw) kL fun H w Bl args φ hrep h=>?_
 have hn:kL.ntmps=73:=by kernel_rfl
 unfold F22 at h;split at h
 ·rename_i a k G
  obtain ⟨q1,q2,hφ⟩:=h;obtain ⟨g0,rfl⟩:=@ϑ _ (aI _) q1;obtain ⟨rfl,hG⟩:=@ϑ _ (aI _) q2;have hlen:(o.map (Ce no)).length=o.length:=dH ..;match args,hrep with
  |[v,u],⟨rv,ru,_⟩=>
   refine ⟨[SC lv n T C no g0,.sl 2 (o.map (Ce no)).length (Am (nth (o.map (Ce no))))],⟨rv,Gg ru (.inr ⟨rfl,hlen.symm,hG⟩),ϖ⟩,L0,?_⟩;rw[hn];have e2:Ak.sub .i64 (Ak.AV (o.map (Ce no)).length) (ah 1)=(o.length:Int) - 1:=by
    rw[hlen];show bD.wrap ((o.length:Int) - 1)=_;grind [CU]
   have go:=amu (φ:=φ) (s0:=noSpec) (H0:=H) (w0:=w) (g0:=g0) P A hq hl hφ o.length (fun _=>aA) (bM _) (fun j h1 h2=>by omega);rw[<-e2] at go;refine BZ (iF (fun _ _ h=>by cases h) fun _ h=>by cases h) 300 400 [⟨22,JG,LL lv n T C no g0 (o.map (Ce no)) (fun _=>aA) [(6,.sym .i64 (Ak.sub .i64 (Ak.AV (o.map (Ce no)).length) (ah 1)))],[]⟩] ?_;exact DC (l:=[ay,ay]) (cs:=[Ak.le 0 (Ak.AV (o.map (Ce no)).length),Ak.room (Ak.toN (Ak.AV (o.map (Ce no)).length)) 1]) (by rw[hlen,Em,ϱ (by show o.length*1<=_/\o.length<=maxLen;unfold maxLen;omega)];rfl) 0 ⟨_,rfl,go⟩
 ·exact h.elim
open Go Go.Sx Go.Pl Go.Proofs Go.Gm Go.Bf
abbrev PlT:=(Int×Bool)×Nd (List A8)
def fdT(g:Game (List A8))(nd:Nd (List A8))(i r:Nat):Option PlT:=(abZ g nd i r).find? fun t=>Hg g t.2
theorem ar8(g:Game (List A8))(nd:Nd (List A8))(i r:Nat):fdT g nd i (r+1)=((ZI g nd i).find? fun t=>Hg g t.2).or (fdT g nd (i+1) r):=by
 unfold fdT;simp_all [afy]
def ndT(g:Game (List A8))(id:Int)(cm:Bool):Option (Nd (List A8))->Option PlT
 |some t=>if Hg g t=ay then aj ((id,cm),t) else aF
 |none=>aF
theorem aoF(g:Game (List A8))(nd:Nd (List A8))(i:Nat):(ZI g nd i).find? (fun t=>Hg g t.2)=(ndT g (g.id i) ay (Fa g nd.placed nd.st i ay)).or (ndT g (g.id i) aA (Fa g nd.placed nd.st i aA)):=by
 unfold ZI ndT;grind
section
variable{G:Game (List A8)}{s:List A8}{m:Nat}{Q:Nd (List A8)->Prop}{r:List (Nd (List A8))}
theorem SE.mem(P:SE G s m Q r){nd t:Nd (List A8)}(h:nd∈r)(ht:t∈next G nd):t∈r:=by
 obtain ⟨k,hk⟩:=List.getElem?_of_mem h;obtain ⟨j,_,_,_,e⟩:=P.at hk ht;grind
theorem SE.aoG(P:SE G s m Q r){nd:Nd (List A8)}(h:nd∈r):Uc G E8 r nd=Hg G nd:=by
 rw[jK,P.ld h];simp_all [Hg]
theorem Ul{nd:Nd (List A8)}{t:PlT}(h:t∈turns G nd):t.2∈next G nd:=List.mem_map_of_mem h
theorem find_congr{α:Type}{p q:α->Bool}:∀{l:List α},(∀x∈l,p x=q x)->l.find? p=l.find? q
 |[],_=>rfl |x::l,h=>by
  rw[oP,oP,h x (by simp),find_congr fun y hy=>h y (by simp[hy])]
theorem SE.ahK(P:SE G s m Q r):∀f (nd:Nd (List A8)),nd∈r->least G (Uc G E8 r) f nd=least G (Hg G) f nd
 |0,nd,h=>rfl |f+1,nd,h=>by
  have e:(turns G nd).find? (fun t=>Uc G E8 r t.2)=(turns G nd).find? fun t=>Hg G t.2:=find_congr fun t ht=>P.aoG (P.mem h (Ul ht));rw[least,least,e];cases hf:(turns G nd).find? fun t=>Hg G t.2 with
  |none=>rfl |some t=>
   have ih:=P.ahK f t.2 (P.mem h (Ul (List.mem_of_find?_eq_some hf)));grind
theorem awr{nd:Nd (List A8)}(h:Hg G nd=ay)(hf:full G nd=aA):∃t,fdT G nd 0 G.n=aj t/\t∈turns G nd/\Hg G t.2=ay:=by
 unfold Hg at h;obtain ⟨t,h1,h2⟩:=ae1 (@ϑ _ (aI _) h) hf;have e2:Hg G t.2=ay:=@ϱ _ (aI _) h2;unfold fdT;rw[<-afx];cases hx:(turns G nd).find? fun t=>Hg G t.2 with
 |none=>grind |some x=>grind
theorem amv(f:Nat)(nd:Nd (List A8)){t:PlT}(hf:full G nd=aA)(h:fdT G nd 0 G.n=aj t):least G (Hg G) (f+1) nd=t.1::least G (Hg G) f t.2:=by
 simp_all [fdT,afx,least]
theorem amw(f:Nat)(nd:Nd (List A8))(hf:full G nd=ay):least G (Hg G) f nd=[]:=by
 cases f with
 |zero=>rfl |succ f=>grind [least]
theorem ayH(nd:Nd (List A8)):rk G nd<=G.n:=by
 grind [rk,List.countP_le_length,aU,List.length_range]
theorem SE.steps(P:SE G s m Q r)(hy:Hg G (dM s)=ay):IB G E8 s r=least G (Hg G) (G.n+1) (dM s):=by
 have hin:dM s∈r:=aaR P.hr;have:QE G E8 s r=ay:=by
  unfold QE;rw[P.aoG hin,hy]
 unfold IB;rw[if_pos this,P.ahK _ _ hin]
theorem SE.yes(P:SE G s m Q r):QE G E8 s r=Hg G (dM s):=P.aoG (aaR P.hr)
end
end Go.Rg
namespace Go.Proofs
open Go Go.Sx Go.Pl
def W11:ϵ
 |[]=>.leaf (.v (.bool ay)) |_=>.fail
end Go.Proofs
namespace Go.Pl
open Go Go.Sx Go.Proofs Go.Gm Go.Bf
section
variable{n m:Nat}{g h:ϝ}
theorem aBO(P:IC n g m h){lv:Int}(hl:1<=lv/\lv<=3):hsB (hsS n g m h) lv=ay:=@ϱ _ (aI _) ⟨n,g,m,h,rfl,P,hl.1,hl.2⟩
theorem aoH(P:IC n g m h){lv mo:Int}(hl:1<=lv/\lv<=3)(hm:Uf mo=ay)(hb:(Jg (hsS n g m h) lv).okb=ay):gaB (hsS n g m h) lv mo=ay:=by
 simp_all [gaB,aBO]
end
end Go.Pl
namespace Go.Proofs
open Go Go.Sx Go.Pl Go.Gm Go.Bf
end Go.Proofs
namespace Go.Pl
open Go Go.Sx Go.Proofs Go.Gm
def tbS(s:Sh):Qg:=match s with
 | .agg [.sl 2 n g,.sl 8 m h]=>Bj n g m h |_=>⟨aA,aA,0,0,0,fun _=>default⟩
def tkB(s:Sh):Bool:=hpB s&&(tbS s).okb
def tnN(s:Sh):Nat:=(tbS s).n
def ttT(s:Sh):Nat->CJ:=(tbS s).T
def DR(x:Int)(m:Nat):Nat:=(max 0 (min x (m:Int))).toNat
def pfB(o:Nat)(x:Int)(m:Nat):Bool:=Ak.room o 16&&Ak.room (DR x m) 64
end Go.Pl
namespace Go.Proofs
open Go Go.Sx Go.Pl Go.Gm Go.Bf
def awt:ϵ
 |[s]=>.need (tkB s) (.leaf (.Az [.sl 7 (tnN s) (Am (ttT s)),.v .nilIface])) |_=>.fail
theorem aEb:AO ak (AZ W7) 40 awt:=by
 intro H w Bl args φ hon hgl hr hφ;unfold awt at hφ;split at hφ
 ·rename_i s
  obtain ⟨q1,hφ⟩:=hφ;unfold tkB at q1;rw[aB] at q1;obtain ⟨n,g,m,h,rfl,P⟩:=@ϑ _ (aI _) q1.1;exact X3 P H w _ args φ hon hgl hr ⟨@ϱ _ (aI _) rfl,fun _=>hφ,fun c=>(by rw[show (Bj n g m h).okb=ay from q1.2] at c;cases c)⟩
 ·exact hφ.elim
def D21:ϵ
 |[.agg [.sl 2 o og,.sl 8 m mg],t]=>match Bd t with
  |some x=>.need (pfB o x m) (.leaf (.agg [.sl 2 o og,.sl 8 (DR x m) mg])) |none=>.fail
 |_=>.fail
theorem WG(a b:Int):Ak.min a b=if b<a then b else a:=rfl
theorem O21:AO ak (AZ W7) 43 D21:=by
 refine CG (C7 Ak W7 noSpec Aw) Tryz.f43 fun H w Bl args φ hrep h=>?_
 have hn:Tryz.f43.ntmps=17:=by kernel_rfl
 unfold D21 at h;split at h
 ·rename_i o og m mg t
  split at h
  ·rename_i x e1
   obtain ⟨q1,hφ⟩:=h;match args,hrep with
   |[a0,a1],⟨r0,r1,_⟩=>
    refine ⟨[.agg [.sl 2 o og,.sl 8 m mg],.i .i64 x],⟨r0,Dz e1 r1,ϖ⟩,L0,?_⟩;refine BZ (Ej _) 300 400 [] ?_;rw[hn];unfold pfB at q1;rw[aB] at q1;obtain ⟨ro,rp⟩:=q1;have eX:Ak.toN (Ak.max (ah 0) (Ak.min x (Ak.AV m)))=DR x m:=by
     unfold DR;rw[JC,WG,Cm,AL];congr 1;simp only[jF];split<;>split<;>omega
    have up1:Ak.upTo (Ak.max (ah 0) (Ak.min x (Ak.AV m))) m=ay:=by
     rw[JC,WG,EX,AL];simp only[jF];split<;>split<;>simp<;>omega
    obtain ⟨X,hX⟩:∃X,Ak.toN (Ak.max (ah 0) (Ak.min x (Ak.AV m)))=X:=⟨_,rfl⟩;have leo:Ak.le (ah 0) (Ak.AV o)=ay:=le0 o;have ro2:Ak.room (Ak.addN 0 o) 16=ay:=by rw[Jp];exact ro
    have lep:Ak.le (ah 0) (Ak.AV (Ak.toN (Ak.max (ah 0) (Ak.min x (Ak.AV m)))))=ay:=le0 _;have rp1:Ak.room (Ak.toN (Ak.AV (Ak.toN (Ak.max (ah 0) (Ak.min x (Ak.AV m)))))) 64=ay:=by rw[PL,eX];exact rp
    have rp2:Ak.room (Ak.addN 0 (Ak.toN (Ak.max (ah 0) (Ak.min x (Ak.AV m))))) 64=ay:=by rw[Jp,eX];exact rp
    have ro1:Ak.room (Ak.toN (Ak.AV o)) 16=ay:=by rw[PL];exact ro
    have fin:up φ (.agg [.os 94 2 (Ak.addN 0 o) (Ak.snoc (fun _=>[]) 0 og),.os 51 8 (Ak.addN 0 (Ak.toN (Ak.max (ah 0) (Ak.min x (Ak.AV m))))) (Ak.snoc (fun _=>[]) 0 mg)]):=by
     rw[Jp,Jp,eX,QX,QX];exact AY (s':=.agg [.sl 2 o og,.sl 8 (DR x m) mg]) ⟨.inr ⟨rfl,rfl,fun _ _=>rfl⟩,.inr ⟨rfl,rfl,fun _ _=>rfl⟩,ϖ⟩ hφ
    exact Ld (an up1 (an leo (an ro1 (an ro2 (an lep (an rp1 (an rp2 (an lep (an rp1 (an ro2 (an rp2 (an lep (an rp1 (an leo (an ro1 (an ro2 (an rp2 fin)))))))))))))))))
  ·exact h.elim
 ·exact h.elim
end Go.Proofs
namespace Go.Rg
open Go Go.Sx Go.Pl Go.Proofs
def aww(n:Nat)(p:Nat->fA)(i:Int)(k:Nat):Core:={tm:=DF 22 [(0,.sh (.sl 8 n (aS p))),(3,.gs 0),(4,.sym .i64 i)],hp:=[(0,.own 51 8 k (aS p))],nx:=1,lim:=L0,tc:=[]}
theorem aqg{H0:Mem}{w0:World}{φ:Sh->Prop}{n:Nat}{p:Nat->fA}(hr:Cc n 64=ay)(hn:n<=100000)(hφ:up φ (.os 51 8 n (aS p))):
  ∀m k,k+m=n->AB ak (C7 Ak W7 noSpec Aw) (K0 H0 w0) 12 JG (aww n p (k:Int) k) [] emp (up φ)
 |0,k,hk=>by
  obtain rfl:k=n:=by omega
  refine D6 qW (aK [0,0,1,0,1,1]::JG) ?_;refine BZ (Ej _) 300 400 [] ?_;exact I9 (l:=[aA]) (cs:=[Ak.lt (k:Int) k]) (by simp[Ar]) (s:=.os 51 8 k (aS p)) hφ
 |m+1,k,hk=>by
  obtain ⟨hr1,hr2⟩:=Fg hr;refine D6 qW (aK [0,0,1,0,1,1]::JG) ?_;have nx:=aqg (H0:=H0) (w0:=w0) hr hn hφ m (k+1) (by omega);rw[<-add1 (by omega)] at nx;refine BZ (Ej _) 300 400 [⟨12,JG,aww n p (Ak.add .i64 (k:Int) (ah 1)) (k+1),[]⟩] ?_;exact DC (l:=[ay,ay,ay]) (cs:=[Ak.lt (k:Int) n,Ak.inB (k:Int) n,Ak.room (Ak.addN k 1) 64]) (by
   grind [Ar,AX,Em,ϱ,Dl]) 0 ⟨_,rfl,nx⟩ [3]
   [bY (k+1) (Ak.snoc (aS p) k (Bh [iP (p (Ak.toN (k:Int)))])) (aS p)] ⟨fun j hj=>by
    rw[Dn];split
    ·rfl
    ·obtain rfl:j=k:=by omega
     rw[gK];rfl,ϖ⟩
def D12:ϵ
 |[s]=>match Dj 8 s with
  |some (n,g)=>.need (gG fA n g&&(Cc n 64&&decide (n<=100000))) (.leaf (.sl 8 n g)) |none=>.fail
 |_=>.fail
theorem O12:AO ak (AZ W7) 12 D12:=by
 refine CG (C7 Ak W7 noSpec Aw) qW fun H w Bl args φ hrep h=>?_
 have hn:qW.ntmps=22:=by kernel_rfl
 unfold D12 at h;split at h
 ·split at h
  ·rename_i n g e1
   obtain ⟨q1,hφ⟩:=h;rw[aB,aB,ϟ] at q1;obtain ⟨a1,a2,a3⟩:=q1;match args,hrep with
   |[v],⟨rv,_⟩=>
    have eg:∀j,j<n->g j=aS (aO (α:=fA) g) j:=fun j hj=>gW a1 j hj
    refine ⟨[.sl 8 n (aS (aO (α:=fA) g))],⟨Gg (Bz e1 rv) (.inr ⟨rfl,rfl,eg⟩),ϖ⟩,L0,?_⟩;rw[hn];have go:=aqg (φ:=φ) (H0:=H) (w0:=w) a2 a3 (AY (s:=.os 51 8 n (aS (aO (α:=fA) g))) (s':=.sl 8 n g) (.inr ⟨rfl,rfl,fun j hj=>(eg j hj).symm⟩) hφ) n 0 (by omega);refine BZ (Ej _) 300 400 [⟨12,JG,aww n (aO (α:=fA) g) ((0:Nat):Int) 0,[]⟩] ?_;exact DC (l:=[ay,ay]) (cs:=[Ak.le 0 (Ak.AV n),Ak.room (Ak.toN (Ak.AV n)) 64]) (by rw[show Ak.room (Ak.toN (Ak.AV n)) 64=ay from a2];rfl) 0 ⟨_,rfl,go⟩ [3] [bY 0 (fun _=>[]) (aS (aO (α:=fA) g))] ⟨fun j hj=>by omega,ϖ⟩
  ·exact h.elim
 ·exact h.elim
def awx(n:Nat)(p:Nat->dU)(i:Int)(k:Nat):Core:={tm:=DF 22 [(0,.sh (.sl 2 n (aS p))),(3,.gs 0),(4,.sym .i64 i)],hp:=[(0,.own 94 2 k (aS p))],nx:=1,lim:=L0,tc:=[]}
theorem aqh{H0:Mem}{w0:World}{φ:Sh->Prop}{n:Nat}{p:Nat->dU}(hr:Cc n 16=ay)(hn:n<=100000)(hφ:up φ (.os 94 2 n (aS p))):
  ∀m k,k+m=n->AB ak (C7 Ak W7 noSpec Aw) (K0 H0 w0) 26 JG (awx n p (k:Int) k) [] emp (up φ)
 |0,k,hk=>by
  obtain rfl:k=n:=by omega
  refine D6 qX (aK [0,0,1,0,1,1]::JG) ?_;refine BZ (Ej _) 300 400 [] ?_;exact I9 (l:=[aA]) (cs:=[Ak.lt (k:Int) k]) (by simp[Ar]) (s:=.os 94 2 k (aS p)) hφ
 |m+1,k,hk=>by
  obtain ⟨hr1,hr2⟩:=Fg hr;refine D6 qX (aK [0,0,1,0,1,1]::JG) ?_;have nx:=aqh (H0:=H0) (w0:=w0) hr hn hφ m (k+1) (by omega);rw[<-add1 (by omega)] at nx;refine BZ (Ej _) 300 400 [⟨26,JG,awx n p (Ak.add .i64 (k:Int) (ah 1)) (k+1),[]⟩] ?_;exact DC (l:=[ay,ay,ay]) (cs:=[Ak.lt (k:Int) n,Ak.inB (k:Int) n,Ak.room (Ak.addN k 1) 16]) (by
   grind [Ar,AX,Em,ϱ,Dl]) 0 ⟨_,rfl,nx⟩ [3]
   [bY (k+1) (Ak.snoc (aS p) k (Bh [iP (p (Ak.toN (k:Int)))])) (aS p)] ⟨fun j hj=>by
    rw[Dn];split
    ·rfl
    ·obtain rfl:j=k:=by omega
     rw[gK];rfl,ϖ⟩
def D26:ϵ
 |[s]=>match Dj 2 s with
  |some (n,g)=>.need (gG dU n g&&(Cc n 16&&decide (n<=100000))) (.leaf (.sl 2 n g)) |none=>.fail
 |_=>.fail
theorem O26:AO ak (AZ W7) 26 D26:=by
 refine CG (C7 Ak W7 noSpec Aw) qX fun H w Bl args φ hrep h=>?_
 have hn:qX.ntmps=22:=by kernel_rfl
 unfold D26 at h;split at h
 ·split at h
  ·rename_i n g e1
   obtain ⟨q1,hφ⟩:=h;rw[aB,aB,ϟ] at q1;obtain ⟨a1,a2,a3⟩:=q1;match args,hrep with
   |[v],⟨rv,_⟩=>
    have eg:∀j,j<n->g j=aS (aO (α:=dU) g) j:=fun j hj=>gW a1 j hj
    refine ⟨[.sl 2 n (aS (aO (α:=dU) g))],⟨Gg (Bz e1 rv) (.inr ⟨rfl,rfl,eg⟩),ϖ⟩,L0,?_⟩;rw[hn];have go:=aqh (φ:=φ) (H0:=H) (w0:=w) a2 a3 (AY (s:=.os 94 2 n (aS (aO (α:=dU) g))) (s':=.sl 2 n g) (.inr ⟨rfl,rfl,fun j hj=>(eg j hj).symm⟩) hφ) n 0 (by omega);refine BZ (Ej _) 300 400 [⟨26,JG,awx n (aO (α:=dU) g) ((0:Nat):Int) 0,[]⟩] ?_;exact DC (l:=[ay,ay]) (cs:=[Ak.le 0 (Ak.AV n),Ak.room (Ak.toN (Ak.AV n)) 16]) (by rw[show Ak.room (Ak.toN (Ak.AV n)) 16=ay from a2];rfl) 0 ⟨_,rfl,go⟩ [3] [bY 0 (fun _=>[]) (aS (aO (α:=dU) g))] ⟨fun j hj=>by omega,ϖ⟩
  ·exact h.elim
 ·exact h.elim
def ajq:ϕ
 |12=>aj D12 |26=>aj D26 |_=>aF
theorem aEd(stop:Nat->List Nat->Bool):BJ ak (C7 Ak W7 ajq stop):=ig (fun g F h=>by
 unfold ajq at h;grind [O12,O26]) fun g h=>by
 unfold ajq at h;split at h;all_goals first|(cases h;done) |kernel_rfl
def D8:ϵ
 |[.agg [.sl 2 o og,.sl 8 m mg],t]=>match Bd t with
  |some x=>.need (gG dU o og&&(Cc o 16&&decide (o<=100000))) (.need (gG fA (DR x m) mg&&(Cc (DR x m) 64&&decide (DR x m<=100000))) (.leaf (.agg [.sl 2 o og,.sl 8 (DR x m) mg]))) |none=>.fail
 |_=>.fail
theorem O8p:AO ak (AZ W7) 8 D8:=by
 refine CG (C7 Ak W7 ajq Aw) Tryz.f8 fun H w Bl args φ hrep h=>?_
 have hn:Tryz.f8.ntmps=20:=by kernel_rfl
 unfold D8 at h;split at h
 ·rename_i o og m mg t
  split at h
  ·rename_i x e1
   obtain ⟨q1,q2,hφ⟩:=h;match args,hrep with
   |[a0,a1],⟨r0,r1,_⟩=>
    refine ⟨[.agg [.sl 2 o og,.sl 8 m mg],.i .i64 x],⟨r0,Dz e1 r1,ϖ⟩,L0,?_⟩;refine BZ (aEd _) 300 400 [] ?_;rw[hn];have eX:Ak.toN (Ak.max (ah 0) (Ak.min x (Ak.AV m)))=DR x m:=by
     grind [DR,JC,WG,Cm,AL,jF]
    have up1:Ak.upTo (Ak.max (ah 0) (Ak.min x (Ak.AV m))) m=ay:=by
     grind [JC,WG,EX,AL,jF]
    have E:(gG fA (Ak.toN (Ak.max (ah 0) (Ak.min x (Ak.AV m)))) mg&&(Cc (Ak.toN (Ak.max (ah 0) (Ak.min x (Ak.AV m)))) 64&&decide (Ak.toN (Ak.max (ah 0) (Ak.min x (Ak.AV m)))<=100000)))=ay:=by simp_all
    have fin:up φ (.agg [.sl 2 o og,.sl 8 (Ak.toN (Ak.max (ah 0) (Ak.min x (Ak.AV m)))) mg]):=by
     rw[eX];exact AY (s':=.agg [.sl 2 o og,.sl 8 (DR x m) mg]) ⟨QY,QY,ϖ⟩ hφ
    exact I9 (l:=[ay,ay,ay,ay,ay,ay]) (cs:=[_,_,_,_,_,_]) (by
     rw[dF,dF,dF,dF,dF,dF];exact ⟨q1,up1,E,up1,q1,E,rfl⟩) fin
  ·exact h.elim
 ·exact h.elim
end Go.Rg
