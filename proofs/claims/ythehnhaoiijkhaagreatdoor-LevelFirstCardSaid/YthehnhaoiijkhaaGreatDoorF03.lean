/- Own work. -/
import Derived.Test.YthehnhaoiijkhaaGreatDoorF02
import Derived.Lib.AppendStr
import Derived.Lib.ConvBytes
import Derived.Laws.BytesString
open Int (ofNat)
open Array renaming length_toList->dU,size_append->mD,getElem?_eq_some_iff->bK
open Bool renaming and_eq_true->aG,true->aC,false->ay
open Go.Addr renaming add->lD,add_lit->dW
open Go.Builtin renaming lenOf->nS,firstCells->iP,append_->eG,zeroCells->iG,delete_->mF
open Go.Calls renaming mono->lG
open Go.Deferred renaming ofValue->jd
open Go.Instr renaming buildSlice->sH,findNow->dI,sameNow->eP,sameBits->kT,mapUpdate->iU,findKey->gy,keyThatStays->lF,mapEntry->nT
open Go.Program renaming elem->uX
open Go.Question renaming forced->qQ
open Go.Region renaming wanted->jo
open Go.Sem renaming run_bind->gK,run->jM
open Go.Sx.Env renaming set_self->dS,ael->lQ,set->pV
open Go.Sx.Post renaming refl->mV
open Go.Value renaming int->iQ,oneCell'->jm,cells->lq
open Go.World renaming ownsRow_lit->rD
open Int renaming toNat_natCast->fB
open List renaming getElem?_eq_some_iff->bW,mem_iff_getElem?->dR,mem_of_getElem?->dB,length_nil->oK,size_toArray->nD,append_assoc->iT,take_left->nZ,eq_nil_of_length_eq_zero->nG,length_append->dP,getElem?_take->dO,range->aY,getElem?_append_right->jO,mem_cons_of_mem->dF,mem_append->cZ,getElem?_modify->qh,mem_cons_self->dK
open List.cons renaming injEq->oU
open Nat renaming mod_eq_of_lt->gW,mod_lt->yS,ble->gJ,blt->fF,le_of_ble_eq_true->gu,zero_le->fK,le_refl->bV,add_zero->kF,mul_le_mul_right->dG,le_trans->gU,zero_add->iw
open Option renaming some->ak,none->aK,map_eq_some_iff->bM,map_some->kG,map_none->sJ
open Option.some renaming inj->dw
open Prod.mk renaming injEq->jk
open UInt8 renaming ofNat->qR
namespace Go.Sx
section
variable{P:Program}{C:Ctx}{K:Kx}{H H':Mem}{E E':Env}{w w':World}
theorem YP(z:List SV):∀n,(rep z n).length=n*z.length
 |0=>by simp[rep] |n+1=>by simp[rep,YP z n,Nat.add_mul,Nat.add_comm]
theorem afU(z:List SV)(hz:0<z.length):∀(n j:Nat),j<n*z.length->(rep z n)[j]?=z[j % z.length]?
 |0,j,h=>by simp at h |n+1,j,h=>by
  rw[rep,List.getElem?_append];split
  ·simp_all [gW]
  ·rename_i hj
   have hj:z.length<=j:=by omega
   rw[afU z hz n _ (by grind)];rw[Nat.mod_eq_sub_mod hj]
theorem ac4(cs:Array Value)(n j:Nat)(h:j<n)(hc:0<cs.size):(madeCells cs n).toList[j]?=cs.toList[j % cs.size]?:=by
 simp_all [yS,madeCells]
theorem anp{z:List SV}{cs:Array Value}{n st:Nat}(hd:zO H E z cs.toList)(hs:cs.size=st)(h0:0<st):zO H E (rep z n) (madeCells cs (n*st)).toList:=by
 have hl:=hd.length;rw[dU,hs] at hl;refine zO.Oh (by rw[dU,size_madeCells,YP,<-hl]) fun j s v h1 h2=>?_
 have hj:j<n*st:=by
  grind [bW,dU,size_madeCells]
 rw[afU z (by omega) n j (by simp_all)] at h1;rw[ac4 cs _ _ hj (by omega),hs] at h2;rw[<-hl] at h1;exact hd.at_ h1 h2
theorem IZ{t e:Nat}{i:Jt}(h:NI P t i)(hi:i.ty=.slice e):P.underlying t=ak (.slice e):=by
 have:=h.desc;rw[hi] at this;exact this
theorem afV:16777216<=maxLen:=by decide
theorem acz{c:Core}{a:Act}{o:Oper}{t n:Nat}{parts:Array (Nat×Operand)}{φ:SV×Core->Prop}(hC:Az P C)(hd:zO H E c.tm a.tmps.toList)(hh:zU K H E w c.hp)(hw:Du K H w)(hf:Free E c)
  (ho:o.op=.buildSlice t n parts) (h:(KE C c t n parts.toList).All φ):Gt P K H E w c a o φ:=by
 unfold KE at h;split at h
 ·rename_i i hi
  split at h
  ·rename_i e hty
   have hu:=IZ (hC.ty _ _ hi) hty;split at h
   ·rename_i j hj
    obtain ⟨inf,z,h1,h2,h3,h4,h5,h6,_⟩:=(hC.ty _ _ hj).info;cases hb:(gJ (n*j.size) 16777216&&fF 0 j.size)<;>simp only[hb,cond_true,cond_false] at h
    ·exact h.elim
    simp only[aG] at hb;have hb1:=gu hb.1;have hb2:=JD hb.2;split at h
    ·rename_i l hl
     have h5':zO H E j.zero z.cells.toList:=h5.le (fun _ _ e=>by cases e) (fun _ _ e=>by cases e);have hz:=anp (n:=n) h5' h6 hb2;obtain ⟨cells',e1,e2⟩:=XG (place:=fun i=>ak (i*j.size,j.size)) (fun _ _ _ e=>e) hd parts.toList hz hl;have hlt:c.nx<c.lim:=by
      unfold alloc at h;cases hb:fF c.nx c.lim<;>simp only[hb,cond_true,cond_false] at h
      ·exact h.elim
      simp_all
     have hlen:cells'.size=n*j.size:=by
      have q1:=e2.length;have q2:=hz.length;have q3:l.length=(rep j.zero n).length:=by
       have:∀(parts:List (Nat×Operand)) (z l:List SV),PD (fun k=>ak (k*j.size,j.size)) (AP c.tm) z parts=ak l->l.length=z.length:=by
        intro parts;induction parts with
        |nil=>simp_all [PD] |cons p r ih=>
         intro z l h;obtain ⟨k,x⟩:=p;simp only[PD] at h;grind [Ol]
       grind
      simp_all [dU,size_madeCells]
     have hmax:n<=maxLen:=by
      have:n*1<=n*j.size:=Nat.mul_le_mul_left _ hb2;grind [afV]
     have hmul:0<n->0<n*j.size:=fun h=>Nat.mul_pos h hb2
     obtain ⟨c',hφ,hp⟩:=F5 (o:=.cells cells' e) (v:=.slice (ak ⟨w.heap.size,0,aK⟩) n n) hh hw hf h rfl
      ⟨_,cells'.toList,dS _ _ _,rD w cells' n (fK _) hmax hlen,e2.le (fun _ _ e=>e) (lQ (hf _ (bV _) hlt)),fun b hb=>by
       grind [zT,IY]⟩
     refine ⟨_,_,_,H,_,_,hφ,⟨dS _ _ _,_,_,_,rfl⟩,hp,.inl rfl,?_⟩;have hsz:(sizeOf e).run P w=.ok j.size w:=IV (hC.ty _ _ hj) w;have e1':Instr.fill (fun i=>ak (i*j.size,j.size)) (madeCells z.cells (n*j.size)) (parts.toList.map fun p=>(p.1,a.eval p.2))=ak cells':=e1;have UE:(zeroValue e).run P w=.ok z w:=by simp[zeroValue,typeInfo,h1,h4]
     have hn2:¬(16777216<n*j.size):=by omega
     by_cases hn:n*j.size=0
     ·simp_all [madeCells,execOp,sH,run_underlying,newRow,Array.range_zero']
     ·simp[execOp,ho,sH,run_underlying hu,hsz,hn,hn2,UE,newRow]
      simp_all [madeCells]
    ·exact h.elim
   ·exact h.elim
  ·exact h.elim
 ·exact h.elim
theorem XH{c:Core}{b:SB}{v:SV}{φ:SV×Core->Prop}(h:(alloc c b v).All φ):c.nx<c.lim:=by
 unfold alloc at h;cases hb:fF c.nx c.lim<;>simp only[hb,cond_true,cond_false] at h
 ·exact h.elim
 simp_all
theorem F6{x:SV}{n:Int}{m:Nat}(h1:Gi x=ak n)(h2:Oc zG x=ak m):m=n.toNat:=by
 cases x<;>simp[Gi,Oc] at h1 h2
 all_goals (subst h1;subst h2;rfl)
theorem aem{x:SV}{u:Value}(h:isZero x=aC)(hd:Den H E x u):∃k,u=.int k 0:=by
 cases x<;>simp[isZero] at h
 subst h;exact ⟨_,hd⟩
theorem EH{n b:Nat}(h:zG.room n b=aC):n*b<=140737488355328/\n<=maxLen:=by grind [zG]
theorem afW{a b:Int}(h:zG.le a b=aC):a<=b:=by grind [zG]
theorem ac5{p q kn:Nat}(h:p=q)(hb:kn*q<=140737488355328):(p:Int)*(kn:Int)<=281474976710656:=by
 grind
theorem aiw{K:Kx}{H:Mem}{E:Env}{w:World}{id e st:Nat}{x:SV}{v:Value}(he:E id=ak v)(hr:w.ownsRow 0 e st v 0 [])(hm:∀b,zT v=ak b->Mine K H b):FH K H E w id (am1 x e st):=by
 have h1:FH K H E w id (.row [] e st 0):=⟨_,[],he,hr,trivial,hm⟩;have h2:FH K H E w id (.own e st 0 fun _=>[]):=⟨_,[],he,hr,⟨by simp,fun _ h=>by omega,fun _ h=>by simp at h,fun _ _ _ _ h=>by omega⟩,hm⟩;cases x<;>first|exact h1|exact h2
theorem aen{c:Core}{a:Act}{o:Oper}{t:Nat}{x y:Operand}{same:Bool}{φ:SV×Core->Prop}(hC:Az P C)(hd:zO H E c.tm a.tmps.toList)(hh:zU K H E w c.hp)(hw:Du K H w)(hf:Free E c)
  (ho:o.op=.makeSlice t x y) (hsame:same=aC->a.eval x=a.eval y) (h:(MG C c t (AP c.tm x) (AP c.tm y) same).All φ):Gt P K H E w c a o φ:=by
 have dx:=Ap (H:=H) (E:=E) hd x;have dy:=Ap (H:=H) (E:=E) hd y;unfold MG at h;split at h
 ·rename_i i hi
  split at h
  ·rename_i e hty
   have hu:=IZ (hC.ty _ _ hi) hty;split at h
   ·rename_i j hj
    obtain ⟨inf,z,h1,h2,h3,h4,h5,h6,_⟩:=(hC.ty _ _ hj).info;split at h
    ·rename_i ki kn hki hkn
     obtain ⟨k,ey⟩:=FZ hki dy;have hA:=hC.A;rw[hA] at h hkn;have hkn:=F6 hki hkn;cases hz:isZero (AP c.tm x)<;>simp only[hz,cond_true,cond_false] at h
     ·cases hs:(same&&EG j.zero&&fF 0 j.size)<;>simp only[hs,cond_true,cond_false] at h
      ·exact h.elim
      simp only[aG] at hs;have ex:=hsame hs.1.1;have hj0:=JD hs.2;split at h
      ·rename_i zs hzs
       obtain ⟨g1,g2,g3⟩:=h;have g1:=afW g1;obtain ⟨g2,g4⟩:=EH g2;have hlt:=XH g3;have anq:ki=(kn:Int):=by omega
       subst anq;have hr:=run_make (P:=P) w t e inf z hu h1 h4 k k (kn:Int) (kn:Int) (by omega) (Int.le_refl _) (ac5 h3 g2) (by grind [maxLen]);simp only[fB,h2] at hr;have h5':zO H E j.zero z.cells.toList:=h5.le (fun _ _ e=>by cases e) (fun _ _ e=>by cases e);have UE:CU H zs z.cells.toList:=DK (K:=K) (w:=w) (hp:=[]) ⟨fun _ _ e=>by simp[zI] at e,fun _ _ _ _ _ e=>by simp[zI] at e⟩ hzs h5';have hone:=Ep hs.1.2 h5';have hzl:=UE.length;rw[dU,h6] at hzl;have hget:∀(m:Nat) (u:Value),(madeCells z.cells (kn*j.size)).toList[m]?=ak u->z.cells.toList[m % j.size]?=ak u:=fun m u hm=>by
        grind [bW,dU,size_madeCells,ac4]
       have hrows:Bq H j.size kn (fun _=>zs) (madeCells z.cells (kn*j.size)).toList:=by
        refine ⟨by grind [size_madeCells],fun _ _=>hzl.symm,fun u hu'=>?_,fun i m s v hi e1 e2=>?_⟩
        ·grind [dR,dB]
        ·have e2:=hget _ _ e2
         have hm:m<j.size:=by grind
         rw[Nat.mul_comm,Nat.mul_add_mod,gW hm] at e2;exact UE.at_ e1 e2
       obtain ⟨c',hφ,hp⟩:=F5 (o:=.cells (madeCells z.cells (kn*j.size)) e) (v:=.slice (ak ⟨w.heap.size,0,aK⟩) kn kn) hh hw hf g3 rfl
        ⟨_,_,dS _ _ _,rD w _ kn (fK _) g4 (size_madeCells _ _),hrows,fun b hb=>by
         grind [zT,IY]⟩
       refine ⟨_,_,_,H,_,_,hφ,⟨dS _ _ _,_,_,_,rfl⟩,hp,.inl rfl,?_⟩;simp[execOp,ho,ex,ey,hr]
      ·exact h.elim
     ·obtain ⟨g1,g2,g3⟩:=h
      have g1:=afW g1;obtain ⟨g2,g4⟩:=EH g2;have hlt:=XH g3;obtain ⟨l,ex⟩:=aem hz dx;have anq:ki=(kn:Int):=by omega
      subst anq;have hr:=run_make (P:=P) w t e inf z hu h1 h4 l k 0 (kn:Int) (by omega) (by omega) (ac5 h3 g2) (by grind [maxLen]);simp only[fB,Int.toNat_zero,h2] at hr;obtain ⟨c',hφ,hp⟩:=F5 (o:=.cells (madeCells z.cells (kn*j.size)) e) (v:=.slice (ak ⟨w.heap.size,0,aK⟩) 0 kn) hh hw hf g3 rfl
       (aiw (dS _ _ _) (World.ownsRow_made w _ kn (fK _) g4 (size_madeCells _ _)) fun b hb=>by
        grind [zT,IY])
      refine ⟨_,_,_,H,_,_,hφ,⟨dS _ _ _,_,_,_,rfl⟩,hp,.inl rfl,?_⟩;simp[execOp,ho,ex,ey,hr]
    ·exact h.elim
   ·exact h.elim
  ·exact h.elim
 ·exact h.elim
end
open Go.Lib
section
variable{P:Program}{w:World}
theorem Dv(l:List UInt8):(bytesV l).length=l.length:=by simp[bytesV]
theorem YQ(l m:List UInt8):bytesV (l++m)=bytesV l++bytesV m:=by simp[bytesV]
theorem afX(l:List UInt8):∀u∈bytesV l,u.oneCell'=aC:=fun u hu=>by
 simp only[bytesV,List.mem_map] at hu;obtain ⟨b,_,rfl⟩:=hu;rfl
theorem Jw(P:Program)(g o:Nat)(t:TypeId)(fz:Nat×Nat):∀(vs:List Value) (i:Nat) (cur:Array Value) (w:World),w.heap[g]?=ak (.cells cur t fz)->(∀j,o+i<=j->j<cur.size->¬(fz.1<=j/\j<fz.2))->o+i+vs.length<=cur.size->(∀v∈vs,v.oneCell'=aC)->
  (storeCells ⟨g,o,aK⟩ vs i).run P w=.ok () (w.setRow g (cur.toList.take (o+i)++vs++cur.toList.drop (o+i+vs.length)).toArray)
 |[],i,cur,w,hg,_,_,_=>by
  simp only[storeCells,List.append_nil,oK,kF,List.take_append_drop,Array.toArray_toList];rw[setRow_self w g cur t fz hg];rfl
 |v::rest,i,cur,w,hg,hfz,hl,h1=>by
  have hi:o+i<cur.size:=by grind
  have hadd:(⟨g,o,aK⟩:Addr).add i=⟨g,o+i,aK⟩:=by simp_all [lD]
  have hcell:w.cell? ⟨g,o+i,aK⟩=ak cur[o+i]:=by simp[World.cell?,hg,hi]
  have hfro:w.frozen? ⟨g,o+i,aK⟩=ay:=by
   simp_all [World.frozen?,decide_eq_false_iff_not]
  have hst:(store ((⟨g,o,aK⟩:Addr).add i) v).run P w=.ok () (w.setRow g (cur.setIfInBounds (o+i) v)):=by
   grind [run_store,setCell_eq_setRow]
  have ih:=Jw P g o t fz rest (i+1) (cur.setIfInBounds (o+i) v) (w.setRow g (cur.setIfInBounds (o+i) v)) (setRow_heap w g cur _ t _ hg) (fun j h1 h2=>hfz j (by omega) (by grind)) (by grind) (fun x hx=>h1 x (by simp[hx]));simp only[storeCells,gK,hst,Result.andThen_ok,ih,setRow_setRow];grind [list_seg_step]
structure akk(P:Program)(w:World)(u:TypeId)(x:Value)(m:List UInt8):Prop where
 ty:P.underlying u=ak .string\/∃d,P.underlying u=ak (.slice d)
 len:∀w':World,(nS x).run P w'=.ok m.length w'
 cells:∀w':World,w'.heap=w.heap->(iP 1 m.length x).run P w'=.ok (bytesV m).toArray w'
theorem afY(t u ty e:TypeId)(i:TypeInfo)(ht:P.underlying t=ak (.slice e))(hi:P.info? e=ak i)(hz:i.zero=ak (.int .u8 0))(hsize:i.size=1)(hby:i.bytes=1)
  (v:Value) (l:List UInt8) (hown:FN w e v l) (x:Value) (m:List UInt8) (hx:akk P w u x m) (h63:l.length+m.length<=maxLen) (hbytes:(l.length+m.length)*1<=140737488355328) :
  ∃v' w',(eG #[t,u] ty #[v,x]).run P w=.ok v' w'/\FN w' e v' (l++m)/\w.grownBy w' (zT v)/\∀b,zT v'=ak b->zT v=ak b\/w.heap.size<=b:=by
 have hsmall:l.length+m.length<=9223372036854775807:=by omega
 have hll:(l++m).length=l.length+m.length:=by simp
 have hz1:(iQ .u8 0).cells.size=1:=rfl;have grown:∀(cap:Nat) (row:Option Nat),FN (w.drew.alloc (.cells ((bytesV l).toArray++(bytesV m).toArray++iG (iQ .u8 0).cells (grownCap w (l.length+m.length) cap e - (l.length+m.length))) e)) e
   (.slice (ak ⟨w.heap.size,0,aK⟩) (l.length+m.length) (grownCap w (l.length+m.length) cap e)) (l++m)/\
   w.grownBy (w.drew.alloc (.cells ((bytesV l).toArray++(bytesV m).toArray++iG (iQ .u8 0).cells (grownCap w (l.length+m.length) cap e - (l.length+m.length))) e)) row:=fun cap row=>by
  have hge:=grownCap_ge w (l.length+m.length) cap e;have hcm:grownCap w (l.length+m.length) cap e<=maxLen:=grownCap_le_maxLen w (l.length+m.length) cap e h63;refine ⟨.inr ⟨w.heap.size,_,_,(0,0),by rw[hll],heap_alloc_new w.drew _,.inl (fK _),by omega,hcm,?_,?_⟩,⟨rfl,rfl,rfl,by simp,fun k hk _=>by first|exact Go.heap_alloc_old w.drew _ k hk|exact heap_alloc_old w.drew _ hk⟩⟩
  ·simp_all [mD,nD,size_zeroCells,Dv]
  grind [Array.toList_append,iT,YQ,Dv,nZ]
 have grow:∀(base:Option Addr) (cap:Nat),v=.slice base l.length cap->cap<l.length+m.length->(iP 1 l.length v).run P w.drew=.ok (bytesV l).toArray w.drew->
   (eG #[t,u] ty #[v,x]).run P w=.ok (.slice (ak ⟨w.heap.size,0,aK⟩) (l.length+m.length) (grownCap w (l.length+m.length) cap e))
    (w.drew.alloc (.cells ((bytesV l).toArray++(bytesV m).toArray++iG (iQ .u8 0).cells (grownCap w (l.length+m.length) cap e - (l.length+m.length))) e)):=fun base cap hv hg hfo=>by
  subst hv;have hn:¬(l.length+m.length<=cap):=by omega
  have h63':¬(9223372036854775807<((l.length:Int)+(m.length:Int))):=by omega
  have h48':¬(281474976710656<Builtin.nextslicecap (l.length+m.length) cap):=by
   have:=growslice_fits (old:=cap) (need:=l.length+m.length) (by omega) hbytes;omega
  have hf:=hx.cells w.drew rfl;have hl:=hx.len w;rcases hx.ty with hu|⟨d,hu⟩
  ·simp[eG,run_underlying ht,run_underlying hu,sizeOf,typeInfo,zeroValue,hi,hz,hsize,hl,hn,h48',hby,qQ,hf,hfo,newRow,grownCap]
   grind
  ·simp[eG,run_underlying ht,run_underlying hu,sizeOf,typeInfo,zeroValue,hi,hz,hsize,hl,hn,h48',hby,qQ,hf,hfo,newRow,grownCap]
   grind
 rcases hown with ⟨rfl,rfl⟩ |⟨g,cap,cur,fz,rfl,hg,hfz,hnc,hcm,hcs,htake⟩
 ·by_cases hm:m.length=0
  ·have hm0:m=[]:=nG hm
   subst hm0;have hl:=hx.len w;have hf:=hx.cells w rfl;refine ⟨.slice aK 0 0,w,?_,.inl ⟨rfl,rfl⟩,⟨rfl,rfl,rfl,bV _,fun _ _ _=>rfl⟩,fun b hb=>.inl hb⟩;simp only[oK] at hl hf;rcases hx.ty with hu|⟨d,hu⟩
   ·simp[eG,run_underlying ht,run_underlying hu,sizeOf,typeInfo,hi,hsize,hl,hf]
   ·simp[eG,run_underlying ht,run_underlying hu,sizeOf,typeInfo,hi,hsize,hl,hf]
  ·have hr:=grow aK 0 rfl (by simp;omega) (by rfl)
   have hgr:=grown 0 (zT (.slice aK 0 0));grind [zT]
 ·by_cases hroom:l.length+m.length<=cap
  ·have hl:=hx.len w
   have hf:=hx.cells w rfl;have hst:=Jw P g l.length e fz (bytesV m) 0 cur w hg (fun j h1 h2=>by omega) (by rw[Dv];omega) (afX m);simp only[kF,Dv] at hst;have hr:(eG #[t,u] ty #[.slice (ak ⟨g,0,aK⟩) l.length cap,x]).run P w=.ok (.slice (ak ⟨g,0,aK⟩) (l.length+m.length) cap) (w.setRow g (cur.toList.take l.length++bytesV m++cur.toList.drop (l.length+m.length)).toArray):=by
    rcases hx.ty with hu|⟨d,hu⟩
    ·simp[eG,run_underlying ht,run_underlying hu,sizeOf,typeInfo,hi,hsize,hl,hroom,hf,dW,hst]
    ·simp[eG,run_underlying ht,run_underlying hu,sizeOf,typeInfo,hi,hsize,hl,hroom,hf,dW,hst]
   refine ⟨_,_,hr,.inr ⟨g,cap,_,fz,by rw[hll],setRow_heap w g cur _ e _ hg,by omega,by omega,hcm,?_,?_⟩,⟨rfl,rfl,rfl,by simp,fun k _ hk=>setRow_other w g k _ (fun e=>hk (by simp[zT,e]))⟩,fun b hb=>.inl hb⟩
   ·grind [nD,dP,List.length_take,List.length_drop,dU,Dv]
   grind [YQ,Dv,nZ]
  ·have hfo:(iP 1 l.length (.slice (ak ⟨g,0,aK⟩) l.length cap)).run P w.drew=.ok (bytesV l).toArray w.drew:=by
    refine run_firstCells_some (P:=P) w.drew 1 l.length ⟨g,0,aK⟩ l.length cap (bytesV l) (by grind) fun j u hj=>?_
    have hadd:(⟨g,0,aK⟩:Addr).add j=⟨g,j,aK⟩:=by simp_all [lD]
    show w.cell? _=_;grind [cell_of_row]
   have hr:=grow (ak ⟨g,0,aK⟩) cap rfl (by omega) hfo;have hgr:=grown cap (zT (.slice (ak ⟨g,0,aK⟩) l.length cap));grind [zT]
theorem alx{u:TypeId}(hu:P.underlying u=ak .string)(m:List UInt8):akk P w u (.string ⟨m.toArray⟩) m:=by
 refine ⟨.inl hu,fun w'=>?_,fun w' _=>?_⟩
 ·rfl
 ·have:=run_firstCells_string (P:=P) w' 1 ⟨m.toArray⟩
  assumption
theorem aly{u e' e:TypeId}(hu:P.underlying u=ak (.slice e')){x:Value}{m:List UInt8}(hx:FN w e x m):akk P w u x m:=by
 refine ⟨.inr ⟨e',hu⟩,fun w'=>?_,fun w' hw=>?_⟩
 ·rcases hx with ⟨rfl,rfl⟩ |⟨g,cap,cur,fz,rfl,_⟩<;>simp[nS]
 ·rcases hx with ⟨rfl,rfl⟩ |⟨g,cap,cur,fz,rfl,hg,hfz,hnc,hcm,hcs,htake⟩
  ·rfl
  grind [run_firstCells_some,bytesV,Dv,lD,cell_of_row]
theorem aeo{e n:Nat}{v:Value}{xs:List Value}{l:List UInt8}(h:w.ownsRow 0 e 1 v n xs)(hx:xs=bytesV l):FN w e v l:=by
 have hn:n=l.length:=by have:=h.1;simp_all [Dv]
 subst hn;rcases h.2 with ⟨rfl,h0⟩ |⟨g,cap,cur,rfl,_,hg,hnc,hcm,hcs,htake⟩
 ·exact .inl ⟨rfl,nG h0⟩
 ·exact .inr ⟨g,cap,cur,(0,0),rfl,hg,.inl (fK _),hnc,hcm,by omega,by simp_all⟩
theorem alz{src dst e:TypeId}(hs:P.underlying src=ak (.slice e))(he:P.underlying e=ak (.int .u8))(hd:P.underlying dst=ak .string){v:Value}{l:List UInt8}(h:FN w e v l):
  ∀w':World,(∀b,zT v=ak b->w'.heap[b]?=w.heap[b]?)->(convert src dst v).run P w'=.ok (.string ⟨l.toArray⟩) w':=fun w' hk=>by
 rcases h with ⟨rfl,rfl⟩ |⟨g,cap,cur,fz,rfl,hg,hfz,hnc,hcm,hcs,htake⟩
 ·rw[run_convert_bytes_string w' src dst e aK 0 0 hs he hd]
  rfl
 ·rw[run_convert_bytes_string w' src dst e _ _ _ hs he hd]
  have hg':w'.heap[g]?=ak (.cells cur e fz):=by rw[hk g rfl];exact hg
  have hl:(loadCells ⟨g,0,aK⟩ l.length).run P w'=.ok ((l.map fun b=>(b.toNat:Int)).map (iQ .u8)).toArray w':=by
   have:=run_loadCells_list (P:=P) (w:=w') ⟨g,0,aK⟩ (bytesV l) fun j u hj=>by
    grind [lD,cell_of_row]
   simp_all [bytesV,Function.comp_def]
  rw[run_bytesToString w' _ _ _ _ hl];have key:∀(l:List UInt8) (s:ByteArray),(l.map fun b=>(b.toNat:Int)).foldl (fun r n=>r.push (qR n.toNat)) s=⟨s.data++l.toArray⟩:=by
   intro l;induction l with
   |nil=>intro s;simp |cons a l ih=>
    simp_all
  simp_all
theorem afZ{src dst e:TypeId}(hs:P.underlying src=ak .string)(hd:P.underlying dst=ak (.slice e))(he:P.underlying e=ak (.int .u8))(l:List UInt8)(hmax:l.length<=maxLen):
  ∃v' w',(convert src dst (.string ⟨l.toArray⟩)).run P w=.ok v' w'/\FN w' e v' l/\w.grownBy w' aK/\∀b,zT v'=ak b->w.heap.size<=b:=by
 have hr:=Lib.run_convert_string_bytes (P:=P) w src dst e ⟨l.toArray⟩ hs hd he;have es:(⟨l.toArray⟩:ByteArray).size=l.length:=by rfl
 have hge:=grownCap_ge w l.length 0 e;have hcm:grownCap w l.length 0 e<=maxLen:=grownCap_le_maxLen w l.length 0 e hmax;have hcz:(bytesCells w e ⟨l.toArray⟩).size=grownCap w l.length 0 e:=by
  simp_all [bytesCells,mD,Array.size_replicate]
 refine ⟨_,_,hr,.inr ⟨w.heap.size,_,_,_,by rw[es],bytesWorld_at_new w e _,.inr (by omega),hge,hcm,hcz,?_⟩,⟨rfl,rfl,rfl,by rw[bytesWorld_size];omega,fun k hk _=>bytesWorld_at_old w e _ k hk⟩,fun b hb=>by simp_all [zT]⟩;simp_all [bytesCells,bytesV,grownCap]
end
section
variable{P:Program}{C:Ctx}{K:Kx}{H H':Mem}{E E':Env}{w w':World}
def Src(w:World)(u:Value)(m:Nat)(xs:List Value):Prop:=
 (m=0/\∃A c,u=.slice A 0 c)\/(∃a c,u=.slice (ak a) m c/\∀j v,xs[j]?=ak v->w.cell? (a.add j)=ak v)
theorem Wj{e st m:Nat}{u:Value}{xs:List Value}(h:w.ownsRow 0 e st u m xs):Src w u m xs:=by
 rcases h.2 with ⟨rfl,rfl⟩ |⟨g,cap,cur,rfl,_⟩
 ·exact .inl ⟨rfl,_,_,rfl⟩
 ·exact .inr ⟨_,_,rfl,h.cells (g:=g) rfl⟩
theorem af0{st n:Nat}{g:Nat->List Sh}{u:Value}(h0:0<st)(h:Rep H (.sl st n g) u)(hon:H.on w):∃xs,Bq H st n g xs/\Src w u n xs:=by
 cases h with
 |sl0 _ _ A cap hc=>exact ⟨[],⟨by simp,fun _ h=>by omega,fun _ h=>by simp at h,fun _ _ _ _ h=>by omega⟩,.inl ⟨rfl,_,_,rfl⟩⟩ |sl _ _ _ b off cap c h1 h2 h3 h4 h5 h6=>
  have hk:∀k,k<n*st->k / st<n/\k % st<st/\k / st*st+k % st=k:=fun k hk=>⟨(Nat.div_lt_iff_lt_mul h0).2 hk,yS _ h0,by grind [Nat.div_add_mod]⟩;have hget:∀(k:Nat) (v:Value),((aY (n*st)).map fun k=>c (k / st) (k % st))[k]?=ak v->k<n*st/\v=c (k / st) (k % st):=fun k v e=>by
   grind
  refine ⟨(aY (n*st)).map fun k=>c (k / st) (k % st),⟨by simp,h3,fun u hu=>?_,fun i j s v hi e1 e2=>?_⟩,.inr ⟨_,_,rfl,fun j v e=>?_⟩⟩
  ·grind
  ·grind
  ·obtain ⟨a1,rfl⟩:=hget _ _ e
   obtain ⟨b1,b2,b3⟩:=hk j a1;grind [LW,Nat.add_assoc,dW]
theorem JG(st:Nat)(g:Nat->List Sh):Bq H st 0 g []:=⟨by simp,fun _ h=>by omega,fun _ h=>by simp at h,fun _ _ _ _ h=>by omega⟩
theorem aix{st m n:Nat}{g:Nat->List Sh}{xs:List Value}(h:Bq H st m g xs)(hn:n<=m):Bq H st n g (xs.take (n*st)):=by
 obtain ⟨h1,h2,h3,h4⟩:=h;have hle:n*st<=m*st:=dG _ hn;refine ⟨by simp_all,fun i hi=>h2 i (by omega),fun u hu=>h3 u (List.mem_of_mem_take hu),fun i j s v hi e1 e2=>?_⟩;grind
theorem alA{e st m n:Nat}{A:Option Addr}{k c:Nat}{xs:List Value}(h:w.ownsRow 0 e st (.slice A k c) m xs)(hn:n<=k):Src w (.slice A n c) n (xs.take (n*st)):=by
 rcases Wj h with ⟨rfl,A',c',e⟩ |⟨a,c',e,hc⟩
 ·cases e
  have:n=0:=by omega
  subst this;exact .inl ⟨rfl,_,_,rfl⟩
 ·cases e
  refine .inr ⟨_,_,rfl,fun j v hj=>hc j v ?_⟩;grind
theorem anr{hp:List (Nat×SB)}{st m:Nat}{h:Nat->List Sh}{x:SV}{u:Value}(h0:0<st)(hh:zU K H E w hp)(hon:H.on w)(he:MH hp st x=ak (m,h))(hd:Den H E x u):
  ∃xs,Bq H st m h xs/\Src w u m xs:=by
 unfold MH at he;split at he
 ·cases he
  simp only[Den] at hd;subst hd;exact ⟨[],JG _ _,.inl ⟨rfl,_,_,rfl⟩⟩
 ·rename_i id
  split at he
  ·rename_i cells el st' n hl
   cases hb:(st==st'&&EG cells)<;>simp only[hb,cond_true,cond_false] at he
   ·cases he
   simp only[aG,beq_iff_eq] at hb;obtain ⟨rfl,hone⟩:=hb;simp only[bM] at he;obtain ⟨l,h1,h2⟩:=he;simp only[jk] at h2;obtain ⟨rfl,rfl⟩:=h2;obtain ⟨v,xs,e1,e2,e3,_⟩:=hh.ent _ _ hl;rw[hd.1] at e1;cases e1;exact ⟨xs,Jf e2.1 (DK hh h1 e3) (Ep hone e3),Wj e2⟩
  ·rename_i el st' n g hl
   cases hb:(st==st')<;>simp only[hb,cond_true,cond_false] at he
   ·cases he
   obtain rfl:st=st':=by grind
   cases he;obtain ⟨v,xs,e1,e2,e3,_⟩:=hh.ent _ _ hl;rw[hd.1] at e1;grind [Wj]
  ·rename_i st' n g hl
   cases hb:(st==st')<;>simp only[hb,cond_true,cond_false] at he
   ·cases he
   obtain rfl:st=st':=by grind
   cases he;obtain ⟨v,e1,e2⟩:=hh.ent _ _ hl;rw[hd.1] at e1;simp_all [af0]
  ·cases he
 ·rename_i st' n g
  cases hb:(st==st')<;>simp only[hb,cond_true,cond_false] at he
  ·cases hb2:(st'==0&&n==0)<;>simp only[hb2,cond_true,cond_false] at he
   ·cases he
   simp only[aG,beq_iff_eq] at hb2;obtain ⟨rfl,rfl⟩:=hb2;cases he;cases hd with
   |sl0 _ _ A cap hc=>exact ⟨[],JG _ _,.inl ⟨rfl,_,_,rfl⟩⟩ |sl _ _ _ b off cap c h1 h2 h3 h4 h5 h6=>exact ⟨[],JG _ _,.inl ⟨rfl,_,_,rfl⟩⟩
  ·obtain rfl:st=st':=by grind
   cases he;exact af0 h0 hd hon
 ·rename_i id n
  split at he
  ·rename_i el st' m' g hl
   cases hb:(st==st')<;>simp only[hb,cond_true,cond_false] at he
   ·cases he
   obtain rfl:st=st':=by grind
   cases he;obtain ⟨v,xs,e1,e2,e3,_⟩:=hh.ent _ _ hl;obtain ⟨A,k,c,a1,a2,rfl⟩:=hd;rw[a1] at e1;cases e1;have hk:k=m':=by
    have:=LY e2;assumption
   exact ⟨_,aix e3 (by omega),alA e2 a2⟩
  ·cases he
 ·cases he
theorem aas{st n m:Nat}{g h:Nat->List Sh}{xs ys:List Value}(h1:Bq H st n g xs)(h2:Bq H st m h ys):Bq H st (n+m) (zG.snoc g n h) (xs++ys):=by
 obtain ⟨a1,a2,a3,a4⟩:=h1;obtain ⟨b1,b2,b3,b4⟩:=h2;have hs:∀i,zG.snoc g n h i=if i<n then g i else h (i - n):=fun _=>rfl
 refine ⟨by grind,fun i hi=>?_,fun u hu=>?_,fun i j s v hi e1 e2=>?_⟩
 ·grind
 ·grind
 ·rw[hs] at e1
  split at e1
  ·rename_i hin
   have hj:j<st:=by grind
   have:i*st+j<xs.length:=by
    rw[a1];calc i*st+j<i*st+st:=by omega
     _=(i+1)*st:=by grind
     _<=n*st:=dG _ hin
   grind
  ·rename_i hin
   have hge:n*st<=i*st:=dG _ (by omega);grind [jO,Nat.sub_mul]
theorem Jg{c:Core}{s:SV}{v v':Value}{sb:SB}{φ:SV×Core->Prop}(hh:zU K H E w c.hp)(hw:Du K H w)(hf:Free E c)
  (h:(alloc (BN c s) sb (.gs c.nx)).All φ) (hs:(PI s=aK/\zT v=aK)\/∃id sb0,PI s=ak id/\zI c.hp id=ak sb0/\E id=ak v/\Ag E id sb0=zT v)
  (hm:∀b,zT v=ak b->Mine K H b) (hg:w.grownBy w' (zT v)) (hv':∀b,zT v'=ak b->zT v=ak b\/w.heap.size<=b)
  (he:c.nx<c.lim->FH K H (E.set c.nx v') w' c.nx sb):∃c',φ (.gs c.nx,c')/\Post K H E w c H (E.set c.nx v') w' c':=by
 have hnx:(BN c s).nx=c.nx:=by grind [BN]
 have hlim:(BN c s).lim=c.lim:=by grind [BN]
 have htm:(BN c s).tm=c.tm:=by grind [BN]
 have htc:∀id∈c.tc,id∈(BN c s).tc:=by
  grind [BN,dF]
 have hlt:=XH h;rw[hnx,hlim] at hlt;have he:=he hlt;have hnone:=hf c.nx (bV _) hlt;have hle:E.le (E.set c.nx v'):=lQ hnone;have hb:fF (BN c s).nx (BN c s).lim=aC:=by
  simp_all
 unfold alloc at h;rw[hb] at h;simp only[cond_true] at h;have hvb:∀b,zT v=ak b->b<w.heap.size/\∃id sb0,PI s=ak id/\zI c.hp id=ak sb0/\E id=ak v/\Ag E id sb0=ak b/\id∈(BN c s).tc:=fun b hb=>by
  rcases hs with ⟨_,h2⟩ |⟨id,sb0,h1,h2,h3,h4⟩
  ·simp_all
  ·exact ⟨((hh.ent _ _ h2).lt (h4.trans hb)).1,id,sb0,h1,h2,h3,h4.trans hb,by simp[BN,h1]⟩
 have hold:∀id2 V9,zI (BN c s).hp id2=ak V9->zI c.hp id2=ak V9/\∀b,Ag E id2 V9=ak b->zT v≠ak b:=by
  intro id2 V9 hl;have key:zI c.hp id2=ak V9/\PI s≠ak id2:=by
   unfold BN at hl;grind [UH]
  refine ⟨key.1,fun b ho e=>?_⟩;obtain ⟨_,id,sb0,h1,h2,h3,h4,_⟩:=hvb b e;have:=hh.Fg _ _ _ _ _ h2 key.1 h4 ho;simp_all
 have hkeep:∀b,b<w.heap.size->zT v≠ak b->w'.heap[b]?=w.heap[b]?:=fun b hb hn=>hg.block b hb fun e=>hn e.symm
 refine ⟨_,h,fun _ _ e=>e,hle,?_,by simp[hnx],.inl (by grind),hlim,htm,?_,?_,htc,hg.size,?_,?_,?_,?_,?_⟩
 ·simp_all [pV]
 ·have hent:∀id sb',zI (BN c s).hp id=ak sb'->FH K H (E.set c.nx v') w' id sb'/\FH K H E w id sb'/\∀b,Ag E id sb'=ak b->zT v≠ak b:=fun id sb' hl=>by
   obtain ⟨h1,h2⟩:=hold id sb' hl;have:=hh.ent _ _ h1;exact ⟨this.kept (fun _ _ e=>e) hle (fun b hb=>hkeep b (this.lt hb).1 (h2 b hb)) (fun b hb=>(this.lt hb).2.1),this,h2⟩
  have hnew:∀b,Ag (E.set c.nx v') c.nx sb=ak b->zT v'=ak b:=fun b hb=>by
   have:=FI hb;simp_all [bk,pV]
  refine ⟨fun id sb' hl=>?_,fun id id' sb1 V9 b h1 h2 o1 o2=>?_⟩
  ·grind [Ec]
  ·simp only[Ec,hnx] at h1 h2
   have cross:∀{i:Nat} {s1:SB},zI (BN c s).hp i=ak s1->Ag (E.set c.nx v') i s1=ak b->zT v'=ak b->False:=fun {i s1} h1 o1 awe=>by
    obtain ⟨_,a2,a3⟩:=hent _ _ h1;rw[FK a2 hle] at o1;rcases hv' b awe with h|h
    ·grind
    ·have:=(a2.lt o1).1;omega
   cases hid:(c.nx==id)<;>cases afQ:(c.nx==id')<;>simp only[hid,afQ,cond_true,cond_false] at h1 h2
   ·obtain ⟨_,a2,_⟩:=hent _ _ h1
    obtain ⟨_,b2,_⟩:=hent _ _ h2;rw[FK a2 hle] at o1;rw[FK b2 hle] at o2;exact hh.Fg _ _ _ _ _ (hold _ _ h1).1 (hold _ _ h2).1 o1 o2
   ·simp_all
   ·simp_all
   simp_all
 ·refine ⟨hg.os.trans hw.os,hg.tape.trans hw.tape,hg.output.trans hw.output,gU hw.size hg.size,fun b hb hn=>?_,fun b o hb=>?_,hw.le,hw.fresh⟩
  ·rw[hkeep b (by have:=hw.size;omega) fun e=>?_]
   ·exact hw.kept b hb hn
   ·(rcases (hm b e).2 with h|h)<;>grind
  ·have h1:=hw.on b o hb
   rw[hkeep b (bK.1 h1).1 fun e=>?_]
   ·exact h1
   ·have:=(hm b e).1
    simp_all
 ·grind [id,FI]
 ·grind [bk,pV,id,FI]
 ·grind [BN,id,bk]
 ·intro i s0 b0 h1 h2 h3
  refine .inr ⟨s0,?_,ZJ h3 hle⟩;have h2:i ∉ (BN c s).tc:=h2;have hd:zI (BN c s).hp i=ak s0:=by
   unfold BN at h2 ⊢;split at h2
   ·rename_i id hid
    grind [UH]
   ·exact h1
  simp only[Ec,hnx];cases hid:(c.nx==i)<;>simp only[cond_true,cond_false]
  ·exact hd
  ·obtain rfl:c.nx=i:=by grind
   obtain ⟨u,hu⟩:=(hh.ent _ _ h1).some_;simp_all
 ·intro i s0 h1 hne
  simp only[Ec,hnx] at h1;cases hid:(c.nx==i)<;>simp only[hid,cond_true,cond_false] at h1
  ·have:=(hold _ _ h1).1
   exact ⟨s0,this,fun b h=>by rw[FK (hh.ent _ _ this) hle] at h;exact h⟩
  simp_all
theorem OY(w:World)(e st:Nat):w.ownsRow 0 e st (.slice aK 0 0) 0 []:=⟨by simp,.inl ⟨rfl,rfl⟩⟩
theorem XI{c:Core}{e st:Nat}{s:SV}{v:Value}(hh:zU K H E w c.hp)(h:MI c.hp e s=aC)(hd:Den H E s v):
  ((PI s=aK/\zT v=aK)\/∃id sb0,PI s=ak id/\zI c.hp id=ak sb0/\E id=ak v/\Ag E id sb0=zT v)/\(∀b,zT v=ak b->Mine K H b)/\
  (∀a n,rowOf c.hp st s=ak (a,n)->∃xs,w.ownsRow 0 e st v n xs/\zO H E a xs)/\
  (∀n g,MH c.hp st s=ak (n,g)->∃xs,w.ownsRow 0 e st v n xs/\Bq H st n g xs)/\
  (∀n g more,xOf c.hp e st s=ak (n,g,more)->∃xs ys,w.ownsRow 0 e st v (n+more.length / st) (xs++ys)/\Bq H st n g xs/\zO H E more ys/\more.length % st=0/\EG more=aC):=by
 unfold MI at h;split at h
 ·simp only[Den] at hd;subst hd
  refine ⟨.inl ⟨rfl,rfl⟩,fun b hb=>by simp[zT] at hb,fun a n hr=>?_,fun n g hr=>?_,fun n g more hr=>by simp[xOf] at hr⟩
  ·simp[rowOf] at hr
   obtain ⟨rfl,rfl⟩:=hr;exact ⟨[],OY _ _ _,trivial⟩
  ·simp[MH] at hr
   obtain ⟨rfl,rfl⟩:=hr;exact ⟨[],OY _ _ _,JG _ _⟩
 ·rename_i id
  split at h
  ·rename_i cells e' st' n hl
   obtain rfl:e=e':=by simpa using h
   obtain ⟨v2,xs,e1,e2,e3,e4⟩:=hh.ent _ _ hl;rw[hd.1] at e1;cases e1;refine ⟨.inr ⟨id,_,rfl,hl,hd.1,by simp[Ag,hd.1]⟩,e4,fun a n2 hr=>?_,fun n2 g hr=>?_,fun n2 g more hr=>by grind [xOf]⟩
   ·grind [rowOf]
   ·simp only[MH,hl] at hr
    cases hb:(st==st'&&EG cells)<;>simp only[hb,cond_true,cond_false] at hr
    ·cases hr
    simp only[aG,beq_iff_eq] at hb;obtain ⟨rfl,hone⟩:=hb;simp only[bM] at hr;obtain ⟨l,h1,h2⟩:=hr;simp only[jk] at h2;obtain ⟨rfl,rfl⟩:=h2;exact ⟨xs,e2,Jf e2.1 (DK hh h1 e3) (Ep hone e3)⟩
  ·rename_i e' st' n g hl
   obtain rfl:e=e':=by simpa using h
   obtain ⟨v2,xs,e1,e2,e3,e4⟩:=hh.ent _ _ hl;rw[hd.1] at e1;cases e1;refine ⟨.inr ⟨id,_,rfl,hl,hd.1,by simp[Ag,hd.1]⟩,e4,fun a n2 hr=>?_,fun n2 g2 hr=>?_,fun n2 g2 more hr=>?_⟩
   ·grind [rowOf]
   ·grind [MH]
   ·simp only[xOf,hl] at hr
    cases hb:(e==e&&st==st')<;>simp only[hb,cond_true,cond_false] at hr
    ·cases hr
    simp only[aG,beq_iff_eq] at hb;obtain ⟨_,rfl⟩:=hb;cases hr;exact ⟨xs,[],by simpa using e2,e3,trivial,by simp,rfl⟩
  ·rename_i e' st' n g more hl
   obtain rfl:e=e':=by simpa using h
   obtain ⟨v2,xs,ys,e1,e2,e3,e4,e5,e6,e7⟩:=hh.ent _ _ hl;rw[hd.1] at e1;cases e1;refine ⟨.inr ⟨id,_,rfl,hl,hd.1,by simp[Ag,hd.1]⟩,e7,fun a n2 hr=>by grind [rowOf],fun n2 g2 hr=>by grind [MH],fun n2 g2 more2 hr=>?_⟩;simp only[xOf,hl] at hr;grind
  ·rename_i e' l hl
   obtain rfl:e=e':=by simpa using h
   obtain ⟨v2,e1,e2,e4⟩:=hh.ent _ _ hl;rw[hd.1] at e1;cases e1;exact ⟨.inr ⟨id,_,rfl,hl,hd.1,by simp[Ag,hd.1]⟩,e4,fun a n2 hr=>by grind [rowOf],fun n2 g2 hr=>by grind [MH],fun n2 g2 more2 hr=>by grind [xOf]⟩
  ·cases h
 ·cases h
theorem aat{hp:List (Nat×SB)}{st m:Nat}{b:List SV}{x:SV}{u:Value}(hh:zU K H E w hp)(he:rowOf hp st x=ak (b,m))(hd:Den H E x u):
  ∃xs,xs.length=m*st/\zO H E b xs/\Src w u m xs:=by
 unfold rowOf at he;split at he
 ·cases he
  simp only[Den] at hd;subst hd;exact ⟨[],by simp,trivial,.inl ⟨rfl,_,_,rfl⟩⟩
 ·rename_i id
  split at he
  ·rename_i cells el st' n hl
   cases hb:(st==st')<;>simp only[hb,cond_true,cond_false] at he
   ·cases he
   obtain rfl:st=st':=by grind
   cases he;obtain ⟨v,xs,e1,e2,e3,_⟩:=hh.ent _ _ hl;rw[hd.1] at e1;cases e1;exact ⟨xs,e2.1,e3,Wj e2⟩
  ·cases he
 ·cases he
theorem one_app:∀{l m:List SV},EG l=aC->EG m=aC->EG (l++m)=aC
 |[],_,_,h=>h |x::l,m,h1,h2=>by
  simp only[EG,aG,List.cons_append] at h1 ⊢;exact ⟨h1.1,one_app h1.2 h2⟩
theorem I4{e st n:Nat}{v:Value}{xs:List Value}(h:w.ownsRow 0 e st v n xs):∃A n c,v=.slice A n c:=by
 (rcases h.2 with ⟨rfl,_⟩ |⟨g,cap,cur,rfl,_⟩)<;>simp_all
theorem af2(n m b:Nat)(h1:gJ ((n+m)*b) 140737488355328=aC)(h2:gJ (n+m) 1073741824=aC):n+m<=maxLen/\(n+m)*b<=140737488355328:=by
 have h1:=gu h1;have h2:=gu h2;grind [maxLen]
theorem alB{c:Core}{a:Act}{o:Oper}{t:Nat}{x y:Operand}{φ:SV×Core->Prop}(hC:Az P C)(hd:zO H E c.tm a.tmps.toList)(hh:zU K H E w c.hp)(hw:Du K H w)(hf:Free E c)
  (ho:o.op=.call {callee:=.builtin .append,args:=#[x,y],argTypes:=#[t,t]}) (h:(QV C c t (AP c.tm x) (AP c.tm y)).All φ):Gt P K H E w c a o φ:=by
 have dx:=Ap (H:=H) (E:=E) hd x;have dy:=Ap (H:=H) (E:=E) hd y;unfold QV at h;split at h
 ·rename_i i hi
  split at h
  ·rename_i e hty
   have hu:=IZ (hC.ty _ _ hi) hty;split at h
   ·rename_i te hte
    obtain ⟨inf,z,h1,h2,h3,h4,h5,h6,_⟩:=(hC.ty _ _ hte).info;cases hb:(MI c.hp e (AP c.tm x) && !NC (AP c.tm x) (AP c.tm y)&&fF 0 te.size)<;>simp only[hb,cond_true,cond_false] at h
    ·exact h.elim
    simp only[aG] at hb;have h0:=JD hb.2;obtain ⟨o1,o2,o3,o4,o5⟩:=XI (st:=te.size) hh hb.1.1 dx;have fin:∀(n m:Nat) (xs news:List Value) (sb:SB),(alloc (BN c (AP c.tm x)) sb (.gs c.nx)).All φ->w.ownsRow 0 e te.size (a.eval x) n xs->Src w (a.eval y) m news->news.length=m*te.size->(∀u∈news,u.oneCell'=aC)->
      n+m<=maxLen->(n+m)*te.bytes<=140737488355328->
      (∀(v':Value) (w':World),w'.ownsRow 0 e te.size v' (n+m) (xs++news)->(∀b,zT v'=ak b->Mine K H b)->c.nx<c.lim->FH K H (E.set c.nx v') w' c.nx sb)->Gt P K H E w c a o φ:=by
     intro n m xs news sb h hown hsrc hl hone hmax hbytes hent;obtain ⟨v',w',hr,ho',hg,hv'⟩:=afR (P:=P) t o.type e inf z te.size te.bytes hu h1 h4 h2 h3 h6 h0 (a.eval x) n xs hown (a.eval y) m news hsrc hl hone hmax hbytes;have EP:∀b,zT v'=ak b->Mine K H b:=fun b hb=>by
      rcases hv' b hb with h|h
      ·exact o2 b h
      ·refine ⟨?_,.inl (by have:=hw.size;omega)⟩
       cases hH:H b with
       |none=>rfl |some o=>have:=(bK.1 (hw.on b o hH)).1;omega
     obtain ⟨c',hφ,hp⟩:=Jg hh hw hf h o1 o2 hg hv' (hent v' w' ho' EP);obtain ⟨A,n',cc,e3⟩:=I4 ho';refine ⟨_,v',_,H,_,w',hφ,⟨dS _ _ _,A,n',cc,e3⟩,hp,.inl rfl,?_⟩;simp_all [execOp,resolve,invoke,builtin]
    split at h
    ·rename_i aa n bb m hr1 hr2
     cases hb2:(EG bb&&gJ ((n+m)*te.bytes) 140737488355328&&gJ (n+m) 1073741824)<;>simp only[hb2,cond_true,cond_false] at h
     ·exact h.elim
     simp only[aG] at hb2;obtain ⟨xs,p1,p2⟩:=o3 _ _ hr1;obtain ⟨ys,q1,q2,q3⟩:=aat hh hr2 dy;obtain ⟨r1,r2⟩:=af2 n m te.bytes hb2.1.2 hb2.2;exact fin n m xs ys _ h p1 q3 q1 (Ep hb2.1.1 q2) r1 r2 fun v' w' s1 s2 s3=>
      ⟨v',_,dS _ _ _,s1,(p2.append q2).le (fun _ _ e=>e) (lQ (hf _ (bV _) s3)),s2⟩
    ·split at h
     ·rename_i n g m k hr1 hr2
      rw[hC.A] at h;obtain ⟨hroom,h⟩:=h;obtain ⟨r2,r1⟩:=EH hroom;have ea:zG.addN n m=n+m:=rfl;rw[ea] at r1 r2 h;obtain ⟨xs,p1,p2⟩:=o4 _ _ hr1;obtain ⟨ys,q1,q2⟩:=anr h0 hh hw.on hr2 dy;exact fin n m xs ys _ h p1 q2 q1.1 q1.2.2.1 r1 r2 fun v' w' s1 s2 s3=>
       ⟨v',_,dS _ _ _,s1,aas p2 q1,s2⟩
     ·split at h
      ·rename_i n g more bb m hr1 hr2
       cases hone:EG bb<;>simp only[hone,cond_true,cond_false] at h
       ·exact h.elim
       rw[hC.A] at h;obtain ⟨hroom,h⟩:=h;obtain ⟨r2,r1⟩:=EH hroom;obtain ⟨xs,zs,p1,p2,p3,p4,p5⟩:=o5 _ _ _ hr1;obtain ⟨ys,q1,q2,q3⟩:=aat hh hr2 dy;have hbl:bb.length=m*te.size:=by rw[<-q2.length,q1]
       have hdiv:(more++bb).length / te.size=more.length / te.size+m:=by
        grind [dP,Nat.add_mul_div_right]
       have hmod:(more++bb).length % te.size=0:=by
        simp_all
       have ea:zG.addN n (Nat.div (more++bb).length te.size)=n+more.length / te.size+m:=by
        show n+(more++bb).length / te.size=_;omega
       rw[ea] at r1 r2;have hon:EG (more++bb)=aC:=one_app p5 hone;exact fin (n+more.length / te.size) m (xs++zs) ys _ h p1 q3 q1 (Ep hone q2) r1 r2 fun v' w' s1 s2 s3=>
        ⟨v',xs,zs++ys,dS _ _ _,by grind,p2,(p3.append q2).le (fun _ _ e=>e) (lQ (hf _ (bV _) s3)),hmod,hon,s2⟩
      ·exact h.elim
   ·exact h.elim
  ·exact h.elim
 ·exact h.elim
theorem YR:∀{cells:List SV} {l:List UInt8} {xs:List Value},aae cells=ak l->zO H E cells xs->xs=bytesV l
 |[],_,[],h,_=>by simp[aae] at h;subst h;rfl |x::r,l,v::vs,h,⟨hd,hr⟩=>by
  unfold aae at h;split at h
  ·simp_all
  ·rename_i n r' e
   cases e;cases hb:(decide (0<=n)&&decide (n<256))<;>simp only[hb,cond_true,cond_false] at h
   ·cases h
   simp only[aG,decide_eq_true_eq] at hb;simp only[bM] at h;obtain ⟨m,hm,rfl⟩:=h;have ih:=YR hm hr;have hv:v=.int .u8 n:=hd;grind [qR,bytesV,UInt8.toNat_ofNat',gW]
  ·cases h
 |[],_,_::_,_,h=>h.elim |_::_,_,[],_,h=>h.elim
theorem Ri{hp:List (Nat×SB)}{e:Nat}{x:SV}{u:Value}{l:List UInt8}(hh:zU K H E w hp)(h:QU hp e x=ak l)(hd:Den H E x u):FN w e u l:=by
 unfold QU at h;split at h
 ·cases h
  have hd:u=_:=hd;exact .inl ⟨hd,rfl⟩
 ·rename_i id
  split at h
  ·rename_i e' l' hl
   cases hb:(e==e')<;>simp only[hb,cond_true,cond_false] at h
   ·cases h
   cases h;obtain rfl:e=e':=by grind
   obtain ⟨v,e1,e2,_⟩:=hh.ent _ _ hl;rw[hd.1] at e1;simp_all
  ·rename_i cells e' st n hl
   cases hb:(e==e'&&st==1&&n==cells.length)<;>simp only[hb,cond_true,cond_false] at h
   ·cases h
   simp only[aG,beq_iff_eq] at hb;obtain ⟨⟨rfl,rfl⟩,rfl⟩:=hb;obtain ⟨v,xs,e1,e2,e3,_⟩:=hh.ent _ _ hl;rw[hd.1] at e1;grind [aeo,YR]
  ·cases h
 ·cases h
theorem PY(hC:Az P C){e:Nat}(h:Jd C e=aC):P.underlying e=ak (.int .u8)/\∃i,P.info? e=ak i/\i.zero=ak (.int .u8 0)/\i.size=1/\i.bytes=1:=by
 unfold Jd at h;split at h
 ·rename_i te hte
  have ht:=hC.ty _ _ hte;split at h
  ·rename_i n hty hz
   simp only[aG,beq_iff_eq] at h;obtain ⟨⟨h1,h2⟩,rfl⟩:=h;have hu:=ht.desc;rw[hty] at hu;obtain ⟨inf,z,q1,q2,q3,q4,q5,q6,_,q8⟩:=ht.info;rw[hz] at q5;refine ⟨hu,inf,q1,?_,by omega,by omega⟩;rw[q4];have hone:=(q8 (by rw[hty];rfl)).2;have hc:z.cells=#[z]:=by
    cases z<;>simp[jm,lq] at hone ⊢
   rw[hc] at q5;have:z=.int .u8 0:=q5.1;rw[this]
  ·cases h
 ·cases h
theorem aau{e:Nat}{v:Value}{l:List UInt8}(h:FN w e v l):∃A n c,v=.slice A n c:=by
 (rcases h with ⟨rfl,_⟩ |⟨g,cap,cur,fz,rfl,_⟩)<;>simp_all
theorem QF{c:Core}{a:Act}{o:Oper}{t u e:Nat}{x y:Operand}{l m:List UInt8}{φ:SV×Core->Prop}(hC:Az P C)(hd:zO H E c.tm a.tmps.toList)(hh:zU K H E w c.hp)(hw:Du K H w)(hf:Free E c)
  (ho:o.op=.call {callee:=.builtin .append,args:=#[x,y],argTypes:=#[t,u]}) (ht:P.underlying t=ak (.slice e)) (hb:Jd C e=aC) (hown:MI c.hp e (AP c.tm x)=aC) (hl:QU c.hp e (AP c.tm x)=ak l)
  (hm:akk P w u (a.eval y) m) (hr:zG.room (zG.addN (zG.len l) (zG.len m)) 1=aC) (h:(alloc (BN c (AP c.tm x)) (.buf e (zG.app l m)) (.gs c.nx)).All φ):Gt P K H E w c a o φ:=by
 have dx:=Ap (H:=H) (E:=E) hd x;obtain ⟨hu8,i,i1,i2,i3,i4⟩:=PY hC hb;obtain ⟨o1,o2,_⟩:=XI (st:=1) hh hown dx;obtain ⟨r2,r1⟩:=EH hr;obtain ⟨v',w',hrun,hb',hg,hv'⟩:=afY (P:=P) t u o.type e i ht i1 i2 i3 i4 (a.eval x) l (Ri hh hl dx) (a.eval y) m hm r1 r2;have EP:∀b,zT v'=ak b->Mine K H b:=fun b hb=>by
  rcases hv' b hb with h|h
  ·exact o2 b h
  ·refine ⟨?_,.inl (by have:=hw.size;omega)⟩
   cases hH:H b with
   |none=>rfl |some o=>have:=(bK.1 (hw.on b o hH)).1;omega
 obtain ⟨c',hφ,hp⟩:=Jg hh hw hf h o1 o2 hg hv' (fun _=>⟨v',dS _ _ _,hb',EP⟩);obtain ⟨A,n',cc,e3⟩:=aau hb';refine ⟨_,v',_,H,_,w',hφ,⟨dS _ _ _,A,n',cc,e3⟩,hp,.inl rfl,?_⟩;simp_all [execOp,resolve,invoke,builtin]
theorem aiy{c:Core}{a:Act}{o:Oper}{t u:Nat}{x y:Operand}{φ:SV×Core->Prop}(hC:Az P C)(hd:zO H E c.tm a.tmps.toList)(hh:zU K H E w c.hp)(hw:Du K H w)(hf:Free E c)
  (ho:o.op=.call {callee:=.builtin .append,args:=#[x,y],argTypes:=#[t,u]}) (h:(PK C c t u (AP c.tm x) (AP c.tm y)).All φ):Gt P K H E w c a o φ:=by
 have dy:=Ap (H:=H) (E:=E) hd y;unfold PK at h;split at h
 ·rename_i ti ui hti hui
  split at h
  ·rename_i e h1 h2
   split at h
   ·rename_i l m hl hm
    cases hb:(Jd C e&&MI c.hp e (AP c.tm x))<;>simp only[hb,cond_true,cond_false] at h
    ·exact h.elim
    simp only[aG] at hb;rw[hC.A] at h;have hu:=(hC.ty _ _ hui).desc;rw[h2] at hu;have ey:=NJ hm dy;exact QF hC hd hh hw hf ho (IZ (hC.ty _ _ hti) h1) hb.1 hb.2 hl (by rw[ey];exact alx hu m) h.1 h.2
   ·exact h.elim
  ·exact h.elim
 ·exact h.elim
theorem aiz{c:Core}{a:Act}{o:Oper}{t:Nat}{x y:Operand}{φ:SV×Core->Prop}{r:Tree (SV×Core)}(hC:Az P C)(hd:zO H E c.tm a.tmps.toList)(hh:zU K H E w c.hp)(hw:Du K H w)(hf:Free E c)
  (ho:o.op=.call {callee:=.builtin .append,args:=#[x,y],argTypes:=#[t,t]}) (hr:PL C c t (AP c.tm x) (AP c.tm y)=ak r) (h:r.All φ):Gt P K H E w c a o φ:=by
 have dy:=Ap (H:=H) (E:=E) hd y;unfold PL at hr;split at hr
 ·rename_i id hx
  split at hr
  ·rename_i e l hl
   split at hr
   ·rename_i ti m hti hm
    split at hr
    ·rename_i e' hty
     cases hb:(e==e'&&Jd C e && !NC (AP c.tm x) (AP c.tm y))<;>simp only[hb,cond_true,cond_false] at hr
     ·cases hr
     cases hr;simp only[aG,beq_iff_eq] at hb;obtain ⟨⟨rfl,hb⟩,_⟩:=hb;rw[hC.A] at h;have ht:=IZ (hC.ty _ _ hti) hty;have ho1:MI c.hp e (AP c.tm x)=aC:=by simp_all [MI]
     have ho2:QU c.hp e (AP c.tm x)=ak l:=by simp_all [QU]
     exact QF hC hd hh hw hf ho ht hb ho1 ho2 (aly ht (Ri hh hm dy)) h.1 h.2
    ·cases hr
   ·cases hr
  ·cases hr
 ·cases hr
theorem arx{c:Core}{a:Act}{o:Oper}{t u:Nat}{x:Operand}{φ:SV×Core->Prop}(hC:Az P C)(hd:zO H E c.tm a.tmps.toList)(hh:zU K H E w c.hp)(hw:Du K H w)(hf:Free E c)
  (ho:o.op=.convert t u x) (h:(Xz C c t u (AP c.tm x)).All φ):Gt P K H E w c a o φ:=by
 have dx:=Ap (H:=H) (E:=E) hd x;unfold Xz at h;split at h
 ·rename_i ti ui hti hui
  have ht:=(hC.ty _ _ hti).desc;have hu:=(hC.ty _ _ hui).desc;split at h
  ·rename_i k1 k2 e1 e2
   rw[e1] at ht;rw[e2] at hu;have key:∀(k:IntKind) (n:Int),a.eval x=.int k n->(execOp a.eval o).run P w=.ok (.value (.int k2 (k2.wrap n))) w:=fun k n hv=>by
    simp only[execOp,ho,hv];simp[convert,run_underlying ht,run_underlying hu,Conv.intToInt]
   split at h
   ·rename_i k n hx
    rw[hx] at dx;exact ⟨_,.int k2 (k2.wrap n),_,H,E,w,h,rfl,mV hh hw,.inl rfl,key k n dx⟩
   ·rename_i k n hx
    rw[hx] at dx;rw[hC.A] at h;exact ⟨_,.int k2 (k2.wrap n),_,H,E,w,h,rfl,mV hh hw,.inl rfl,key k n dx⟩
   ·exact h.elim
  ·rename_i e e1 e2
   rw[e1] at ht;rw[e2] at hu;split at h
   ·rename_i l hl
    cases hb:Jd C e<;>simp only[hb,cond_true,cond_false] at h
    ·exact h.elim
    rw[hC.A] at h;obtain ⟨h1,h2⟩:=h;obtain ⟨r2,r1⟩:=EH h1;obtain ⟨hu8,_⟩:=PY hC hb;have ex:=NJ hl dx;obtain ⟨v',w',hrun,hb',hg,hv'⟩:=afZ (P:=P) (w:=w) (src:=t) (dst:=u) ht hu hu8 l r1;have EP:∀b,zT v'=ak b->Mine K H b:=fun b hb=>by
     have:=hv' b hb;refine ⟨?_,.inl (by have:=hw.size;omega)⟩;cases hH:H b with
     |none=>rfl |some o=>have:=(bK.1 (hw.on b o hH)).1;omega
    obtain ⟨c',hφ,hp⟩:=Jg (s:=.zY) (v:=.slice aK 0 0) (v':=v') hh hw hf h2 (.inl ⟨rfl,rfl⟩) (fun b hb=>by simp[zT] at hb) hg (fun b hb=>.inr (hv' b hb)) (fun _=>⟨v',dS _ _ _,hb',EP⟩);obtain ⟨A,n',cc,e3⟩:=aau hb';refine ⟨_,v',_,H,_,w',hφ,⟨dS _ _ _,A,n',cc,e3⟩,hp,.inl rfl,?_⟩;simp_all [execOp]
   ·exact h.elim
  ·rename_i e e1 e2
   rw[e1] at ht;rw[e2] at hu;split at h
   ·rename_i l hl
    cases hb:Jd C e<;>simp only[hb,cond_true,cond_false] at h
    ·exact h.elim
    obtain ⟨hu8,_⟩:=PY hC hb;have hrun:=alz (P:=P) (src:=t) (dst:=u) ht hu8 hu (Ri hh hl dx) w fun _ _=>rfl
    refine ⟨_,.string ⟨l.toArray⟩,_,H,E,w,h,.str l,mV hh hw,.inl rfl,?_⟩;simp_all [execOp]
   ·exact h.elim
  ·exact h.elim
 ·exact h.elim
end
section
variable{P:Program}{C:Ctx}{K:Kx}{H H':Mem}{E E':Env}{w w':World}
theorem aav{st n:Nat}{g:Nat->List Sh}{u:Value}(h:Rep H (.sl st n g) u):∃A cap,u=.slice A n cap/\n<=cap/\cap<=maxLen:=by
 cases h with
 |sl0 _ _ A cap hc=>grind |sl _ _ _ b off cap c h1 h2=>grind
theorem ant{st n l h cap:Nat}{g g':Nat->List Sh}{A:Option Addr}(hr:Rep H (.sl st n g) (.slice A n cap))(hl:l<=h)(hh:h<=n)(hg:∀j,j<h - l->g' j=g (l+j)):
  Rep H (.sl st (h - l) g') (sliced A l h cap st):=by
 by_cases e:h - l=0
 ·unfold sliced
  rw[e];refine .sl0 _ _ _ _ ?_;grind [aav]
 ·generalize hn:n=m at hr
  cases hr with
  |sl0 _ _ _ _ hc=>omega |sl _ _ _ b off _ c h1 h2 h3 h4 h5 h6=>
   subst hn;unfold sliced;rw[if_neg (by omega)];simp only[kG,dW];(refine .sl _ _ _ b (off+l*st) _ (fun i j=>c (l+i) j) (by omega) (by omega) (fun i hi=>by rw[hg i hi];exact h3 _ (by omega)) (fun i j hi hj=>?_) (fun i j hi hj=>h5 _ _ (by omega) hj) fun i j s hi e=>?_)<;>grind
theorem JH{i:Int}{n:Nat}(h:zG.upTo i n=aC):0<=i/\i<=n:=by grind [zG]
theorem aiA{c:Core}{hp:List (Nat×SB)}(hH:H.le H')(hh:zU K H' E w hp)(hw:Du K H' w)(hz:UJ H' E c.hp hp):Post K H E w c H' E w {c with hp}:=
 ⟨hH,fun _ _ e=>e,fun _ h1 h2=>(h2 h1).elim,bV _,.inr rfl,rfl,rfl,hh,hw,fun _ h=>h,bV _,fun _ _ _=>rfl,fun i b h1 h2=>by grind [bk],fun _ h=>.inl h,
  fun id sb b h1 _ h3=>(hz.keep id sb b h1 h3).imp (fun h=>h) fun h=>⟨sb,h,h3⟩,fun id sb h _=>hz.old id sb h⟩
theorem anu{c:Core}{a:Act}{o:Oper}{t:Nat}{x:Operand}{lo hi:Option Operand}{φ:SV×Core->Prop}(hC:Az P C)(hd:zO H E c.tm a.tmps.toList)(hh:zU K H E w c.hp)(hw:Du K H w)
  (ho:o.op=.slice t x lo hi aK) (h:(Ut C c t (AP c.tm x) (lo.map (AP c.tm)) (hi.map (AP c.tm))).All φ):Gt P K H E w c a o φ:=by
 have dx:=Ap (H:=H) (E:=E) hd x;unfold Ut at h;split at h
 ·rename_i ti hti
  split at h
  ·rename_i e hty
   have hu:=IZ (hC.ty _ _ hti) hty;split at h
   ·rename_i te hte
    have hsz:∀w,(sizeOf e).run P w=.ok te.size w:=fun w=>IV (hC.ty _ _ hte) w;split at h
    ·rename_i id n hv hvw e1 e2
     have e1':lo=aK:=by simp_all
     subst e1';simp only[bM] at e2;obtain ⟨y,rfl,rfl⟩:=e2;split at h
     ·rename_i hi hn q1 q2
      obtain ⟨k,ey⟩:=FZ q1 (Ap (H:=H) (E:=E) hd y);rw[hC.A] at h q2;have q2:=F6 q1 q2;obtain ⟨g1,g2⟩:=h;obtain ⟨g1,g3⟩:=JH g1;unfold akf at hvw;split at hvw
      ·rename_i id' hx
       split at hvw
       ·rename_i el st' m g hl
        cases hb:(te.size==st')<;>simp only[hb,cond_true,cond_false] at hvw
        ·cases hvw
        cases hvw;rw[hx] at dx;obtain ⟨he,A,n2,cap,eu⟩:=dx;obtain ⟨v,xs,e3,e4,_⟩:=hh.ent _ _ hl;rw[he] at e3;cases e3;rw[eu] at e4 he;have hk:n2=n:=by
         have:=LY e4;assumption
        subst hk;have helem:P.elem t=e:=by simp[uX,hu]
        have hu':P.underlying t=ak (.slice (P.elem t)):=by simp_all
        have hcap:n2<=cap:=by
         (rcases e4.2 with ⟨e5,_⟩ |⟨_,_,_,e5,_,_,e6,_⟩)<;>simp_all
        have hr:=run_slice_h (P:=P) w t A n2 cap hu' k hi (by omega) (by omega);subst q2;have hs:sliced A 0 hi.toNat cap te.size=.slice A hi.toNat cap:=by simp_all [sliced,lD]
        refine ⟨_,.slice A hi.toNat cap,_,H,E,w,g2,⟨A,n2,cap,he,by omega,rfl⟩,mV hh hw,.inl rfl,?_⟩;simp_all [execOp,run_sliceAt_slice]
       ·cases hvw
      ·cases hvw
     ·exact h.elim
    split at h
    ·exact h.elim
    ·rename_i hp hfz
     have hfz':∃H',H.le H'/\zU K H' E w hp/\Du K H' w/\UJ H' E c.hp hp:=by
      split at hfz
      ·grind [MN]
      ·cases hfz;exact ⟨H,fun _ _ e=>e,hh,hw,UJ.refl _ _ _⟩
     obtain ⟨H',hH,hh',hw',hz'⟩:=hfz';split at h
     ·rename_i st n g hsh
      have hrep:=LZ hh' hsh (dx.le hH (fun _ _ e=>e));obtain ⟨A,cap,eu,hcap,hmax⟩:=aav hrep;rw[eu] at hrep;cases hb:(st==te.size)<;>simp only[hb,cond_true,cond_false] at h
      ·exact h.elim
      obtain rfl:st=te.size:=by grind
      have helem:P.elem t=e:=by simp[uX,hu]
      have hu':P.underlying t=ak (.slice (P.elem t)):=by simp_all
      have fin:∀(sv:SV) (l h:Nat) (g':Nat->List Sh),φ (sv,{c with hp})->sv=.sh (.sl te.size (h - l) g')->l<=h->h<=n->(∀j,j<h - l->g' j=g (l+j))->
        (Instr.slice t (.slice A n cap) (lo.map a.eval) (hi.map a.eval) aK).run P w=((sizeOf (P.elem t)).run P w).andThen (fun s w=>.ok (sliced A l h cap s) w)->Gt P K H E w c a o φ:=by
       intro sv l h g' hφ hsv h1 h2 h3 hr;refine ⟨_,sliced A l h cap te.size,_,H',E,w,hφ,?_,aiA hH hh' hw' hz',.inl rfl,?_⟩
       ·subst hsv
        exact ant hrep h1 h2 h3
       simp_all [execOp,run_sliceAt_slice]
      have hA:=hC.A;rw[hA] at h;split at h
      ·rename_i e1 e2
       have e1':lo=aK:=by simp_all
       have e2':hi=aK:=by simp_all
       subst e1' e2';exact fin _ 0 n g h (by rfl) (by omega) (by omega) (fun j _=>by simp) (run_slice_all (P:=P) w t A n cap hu')
      ·rename_i hv e1 e2
       have e1':lo=aK:=by simp_all
       subst e1';simp only[bM] at e2;obtain ⟨y,rfl,rfl⟩:=e2;split at h
       ·rename_i hi hn q1 q2
        obtain ⟨k,ey⟩:=FZ q1 (Ap (H:=H) (E:=E) hd y);have q2:=F6 q1 q2;obtain ⟨g1,g2⟩:=h;obtain ⟨g1,g3⟩:=JH g1;refine fin _ 0 hn g g2 (by rfl) (by omega) (by omega) (fun j _=>by simp) ?_;grind [run_slice_h]
       ·exact h.elim
      ·rename_i lv e1 e2
       have e2':hi=aK:=by simp_all
       subst e2';simp only[bM] at e1;obtain ⟨y,rfl,rfl⟩:=e1;split at h
       ·rename_i li l q1 q2
        obtain ⟨k,ey⟩:=FZ q1 (Ap (H:=H) (E:=E) hd y);have q2:=F6 q1 q2;obtain ⟨g1,g2⟩:=h;obtain ⟨g1,g3⟩:=JH g1;refine fin _ l n _ g2 rfl (by omega) (by omega) (fun j _=>rfl) ?_;simp_all [run_slice_l,kG,sJ]
       ·exact h.elim
      ·rename_i lv hv e1 e2
       simp only[bM] at e1 e2;obtain ⟨y,rfl,rfl⟩:=e1;obtain ⟨z,rfl,rfl⟩:=e2;split at h
       ·rename_i li l hi hn q1 q2 q3 q4
        obtain ⟨k,ey⟩:=FZ q1 (Ap (H:=H) (E:=E) hd y);obtain ⟨k2,ez⟩:=FZ q3 (Ap (H:=H) (E:=E) hd z);have q2:=F6 q1 q2;have q4:=F6 q3 q4;obtain ⟨g1,g2,g3⟩:=h;obtain ⟨g1,g4⟩:=JH g1;obtain ⟨g2,g5⟩:=JH g2;refine fin _ l hn _ g3 rfl (by omega) (by omega) (fun j _=>rfl) ?_;grind [run_slice_lh]
       ·exact h.elim
     ·exact h.elim
   ·exact h.elim
  ·exact h.elim
 ·exact h.elim
theorem YS{k:IntKind}{n:Int}{sv:SV}{v:Value}(hv:Den H E sv v):∀{es es':List (SV×SV)} {ms:List MapEntry} (j:Nat),VH k n sv es=ak es'->NH H E es ms->
  (∃i u m,dI (.int k) (.int k n) ms j=ak (ak (j+i,u))/\ms[i]?=ak m/\m.key=.int k n/\NH H E es' (ms.modify i fun m=>{m with key:=.int k n,val:=v}))\/
  (dI (.int k) (.int k n) ms j=ak aK/\∀clk,NH H E es' (ms++[{key:=.int k n,val:=v,born:=clk}]))
 |[],es',[],j,h,_=>by
  simp[VH] at h;subst h;exact .inr ⟨rfl,fun clk=>⟨rfl,hv,trivial⟩⟩
 |(k',u)::es,es',m::ms,j,h,⟨h1,h2,h3⟩=>by
  unfold VH at h;split at h
  ·simp_all
  ·rename_i l p u es0 e
   simp only[oU,jk] at e;obtain ⟨⟨rfl,rfl⟩,rfl⟩:=e;have h1:m.key=.int l p:=h1;cases hb:(l==k)<;>simp only[hb,cond_true,cond_false] at h
   ·cases h
   obtain rfl:l=k:=by grind
   cases hp:(p==n)<;>simp only[hp,cond_true,cond_false] at h
   ·have hne:(n==p)=ay:=by grind
    simp only[bM] at h;obtain ⟨r,hr,rfl⟩:=h;rcases YS hv (j+1) hr h3 with ⟨i,u',m',e1,e2,e3,e4⟩ |⟨e1,e2⟩
    ·refine .inl ⟨i+1,u',m',?_,by grind,e3,?_⟩
     ·grind [dI,eP]
     ·simp only[List.modify_succ_cons]
      exact ⟨h1,h2,e4⟩
    ·refine .inr ⟨by grind [dI,eP],fun clk=>⟨h1,h2,e2 clk⟩⟩
   ·cases h
    obtain rfl:p=n:=by grind
    refine .inl ⟨0,m.val,m,by simp[dI,h1,eP],rfl,h1,?_⟩;simp only[List.modify_zero_cons];exact ⟨rfl,hv,h3⟩
  ·cases h
 |[],_,_::_,_,_,h=>h.elim |_::_,_,[],_,_,h=>h.elim
theorem aep(w:World)(b k:Nat)(o o':Obj)(h:w.heap[b]?=ak o):(w.heap.setIfInBounds b o')[k]?=if k=b then ak o' else w.heap[k]?:=by
 grind
theorem YB.push{ms:List MapEntry}{N:CZ->Option Value}(h:YB ms N){n:CZ}(hne:∀m∈ms,m.key≠Ci n)(v:Value)(clk:Nat):
  YB (ms++[{key:=Ci n,val:=v,born:=clk}]) (fun j=>if j=n then ak v else N j):=by
 have hget:∀(i:Nat) (m:MapEntry),(ms++[{key:=Ci n,val:=v,born:=clk:MapEntry}])[i]?=ak m->(i<ms.length/\ms[i]?=ak m)\/(i=ms.length/\m={key:=Ci n,val:=v,born:=clk}):=fun i m hi=>by
  grind
 refine ⟨fun m hm=>?_,fun m hm j e=>?_,fun j u hj=>?_,fun i j m m' a b e=>?_⟩
 ·rcases cZ.1 hm with hm|hm
  ·exact h.key m hm
  grind
 ·rcases cZ.1 hm with hm1|hm1
  ·rw[if_neg (show ¬j=n from fun e2=>hne m hm1 (by simp_all))]
   exact h.Zp m hm1 j e
  grind [PW]
 ·by_cases e:j=n
  ·simp_all
  ·rw[if_neg e] at hj
   obtain ⟨m,hm,q⟩:=h.ex j u hj;grind
 ·rcases hget i m a with ⟨_,a⟩ |⟨a,rfl⟩<;>rcases hget j m' b with ⟨_,b⟩ |⟨b,rfl⟩
  ·exact h.one i j m m' a b e
  ·grind
  ·grind
  ·omega
theorem YB.set{ms:List MapEntry}{N:CZ->Option Value}(h:YB ms N){n:CZ}{i:Nat}{m0:MapEntry}(hi:ms[i]?=ak m0)(hk:m0.key=Ci n)(v:Value){f:MapEntry->MapEntry}
  (hf1:(f m0).key=Ci n) (hf2:(f m0).val=v):YB (ms.modify i f) (fun j=>if j=n then ak v else N j):=by
 have hget:∀(j:Nat) (m:MapEntry),(ms.modify i f)[j]?=ak m->(j=i/\m=f m0)\/(j≠i/\ms[j]?=ak m):=fun j m hj=>by
  grind
 have hin:∀m∈ms.modify i f,m=f m0\/(m∈ms/\m.key≠Ci n):=fun m hm=>by
  obtain ⟨j,hj⟩:=dR.1 hm;rcases hget j m hj with ⟨_,e⟩ |⟨e,e2⟩
  ·exact .inl e
  ·refine .inr ⟨dB e2,fun e3=>e ?_⟩
   exact h.one j i m m0 e2 hi (e3.trans hk.symm)
 have hnew:f m0∈ms.modify i f:=by
  grind
 refine ⟨fun m hm=>?_,fun m hm j e=>?_,fun j u hj=>?_,fun a b m m' ha hb e=>?_⟩
 ·rcases hin m hm with rfl|hm
  ·grind
  ·exact h.key m hm.1
 ·rcases hin m hm with rfl|⟨hm,hne⟩
  ·grind [PW]
  ·rw[if_neg fun e2=>by simp_all]
   exact h.Zp m hm j e
 ·by_cases e:j=n
  ·grind
  ·rw[if_neg e] at hj
   obtain ⟨m,hm,q⟩:=h.ex j u hj;grind [dR,PW]
 ·rcases hget a m ha with ⟨a1,rfl⟩ |⟨a1,a2⟩<;>rcases hget b m' hb with ⟨b1,rfl⟩ |⟨b1,b2⟩
  ·omega
  ·exact (b1 (h.one b i m' m0 b2 hi (e.symm.trans (hf1.trans hk.symm)))).elim
  ·exact (a1 (h.one a i m m0 a2 hi (e.trans (hf1.trans hk.symm)))).elim
  ·exact h.one a b m m' a2 b2 e
theorem aaw{M:CZ->Option Value}{n:CZ}{o:Option Value}{uv:List (CZ×Option Value)}:Q7 M ((n,o)::uv)=fun j=>if j=n then o else Q7 M uv j:=rfl
theorem aiB(n:CZ):kT 10000 (Ci n) (Ci n)=aC:=by
 have h (b:ByteArray):(b==b)=aC:=by
  obtain ⟨⟨l⟩⟩:=b;show ((⟨⟨l⟩⟩:ByteArray).data==(⟨⟨l⟩⟩:ByteArray).data)=aC;simp
 simp[Ci,kT,h]
theorem ac6{c:Core}{a:Act}{o:Oper}{t:Nat}{x y z:Operand}{φ:SV×Core->Prop}(hC:Az P C)(hd:zO H E c.tm a.tmps.toList)(hh:zU K H E w c.hp)(hw:Du K H w)
  (ho:o.op=.mapUpdate t x y z\/o.op=.insert t x y z) (h:(ND C c t (AP c.tm x) (AP c.tm y) (AP c.tm z)).All φ):Gt P K H E w c a o φ:=by
 have dx:=Ap (H:=H) (E:=E) hd x;have dy:=Ap (H:=H) (E:=E) hd y;have dz:=Ap (H:=H) (E:=E) hd z;unfold ND at h;split at h
 ·rename_i ti hti
  split at h
  ·rename_i kt vt hty
   have ht:=(hC.ty _ _ hti).desc;rw[hty] at ht;have ht:P.underlying t=ak (.map kt vt):=ht;split at h
   ·rename_i kti af4
    have hk:=(hC.ty _ _ af4).desc;split at h
    ·rename_i kk id k n hkk hx hy
     rw[hkk] at hk;have hk:P.underlying kt=ak (.int kk):=hk;rw[hx] at dx;rw[hy] at dy;obtain ⟨b,he,ex⟩:=dx;have ey:a.eval y=.int k n:=dy;split at h
     ·rename_i es hl
      cases hb:(kk==k)<;>simp only[hb,cond_true,cond_false] at h
      ·exact h.elim
      obtain rfl:kk=k:=by grind
      split at h
      ·rename_i es' hes
       obtain ⟨b',ms,clk,he',h1,h2,h3⟩:=hh.ent _ _ hl;rw[he] at he';cases he';have hg:(getObj b).run P w=.ok (.map ms clk) w:=by simp[getObj,jM,h1]
       have hck:=J6 (P:=P) hk ay kk n w;have hso:∀o',(setObj b o').run P w=.ok () {w with heap:=w.heap.setIfInBounds b o'}:=fun o'=>by simp[setObj,jM,h1]
       have fin:∀(o':Obj) (ms':Array MapEntry) (MO:Nat),o'=.map ms' MO->NH H E es' ms'.toList->(iU t (.map (ak b)) (.int kk n) (a.eval z)).run P w=.ok () {w with heap:=w.heap.setIfInBounds b o'}->Gt P K H E w c a o φ:=by
        intro o' ms' MO ho' hd' hr;subst ho';refine ⟨_,undef,_,H,E,{w with heap:=w.heap.setIfInBounds b (.map ms' MO)},h,trivial,?_,.inr ⟨rfl,rfl⟩,?_⟩
        rotate_left
        ·rcases ho with ho|ho<;>simp[execOp,ho,ex,ey,hr]
        ·refine JF hh hw hl (b:=b) (by simp[Ag,he,zT]) (fun k hk=>?_) (by simp) rfl rfl rfl ?_ (by simp[Ag,he,zT])
         ·grind
         ·exact ⟨b,ms',MO,he,by grind,hd',h3⟩
       rcases YS dz 0 hes h2 with ⟨i,u,m,e1,e2,e3,e4⟩ |⟨e1,e2⟩
       ·refine fin (.map (ms.modify i fun m=>{m with key:=.int kk n,val:=a.eval z}) clk) _ clk rfl (by grind) ?_
        have e2':ms[i]?=ak m:=by grind
        simp only[iw] at e1;simp[iU,run_underlying ht,hg,hck,gy,run_underlying hk,e1,e2',e3,lF,kT,hso]
       ·refine fin (.map (ms.push {key:=.int kk n,val:=a.eval z,born:=clk}) (clk+1)) _ (clk+1) rfl (by simp_all) ?_
        simp_all [iU,run_underlying,gy]
      ·exact h.elim
     ·exact h.elim
    ·rename_i fs id kk hkk hx
     rw[hx] at dx;obtain ⟨b,he,ex⟩:=dx;split at h
     ·rename_i vt M us hl
      split at h
      ·rename_i n hn
       have ey:a.eval y=Ci n:=V7 hn dy;cases hb:(C.Z9.contains kt&&(AP c.tm z).one&&(AP c.tm z).acW vt)<;>simp only[hb,cond_true,cond_false] at h
       ·exact h.elim
       rw[aG,aG] at hb;obtain ⟨⟨hpk,hone⟩,hvt⟩:=hb;have hp:=hC.Z9 _ hpk;obtain ⟨b',ms,clk,uv,he',h1,d2,hT,hL,hok,h3⟩:=hh.ent _ _ hl;have hL':am9 vt ((n,aC,AP c.tm z)::us):=fun u hu q=>by
        rcases List.mem_cons.1 hu with rfl|hu
        ·exact hvt
        ·exact hL u hu q
       rw[he] at he';cases he';have hg:(getObj b).run P w=.ok (.map ms clk) w:=by simp[getObj,jM,h1]
       have hck:=hp.chk ay n w;have hso:∀o',(setObj b o').run P w=.ok () {w with heap:=w.heap.setIfInBounds b o'}:=fun o'=>by simp[setObj,jM,h1]
       have fin:∀(ms':Array MapEntry) (MO:Nat),YB ms'.toList (Q7 M ((n,ak (a.eval z))::uv))->(iU t (.map (ak b)) (Ci n) (a.eval z)).run P w=.ok () {w with heap:=w.heap.setIfInBounds b (.map ms' MO)}->Gt P K H E w c a o φ:=by
        intro ms' MO hok' hr;refine ⟨_,undef,_,H,E,{w with heap:=w.heap.setIfInBounds b (.map ms' MO)},h,trivial,?_,.inr ⟨rfl,rfl⟩,?_⟩
        rotate_left
        ·rcases ho with ho|ho<;>simp[execOp,ho,ex,ey,hr]
        ·refine JF hh hw hl (b:=b) (by simp[Ag,he,zT]) (fun k hk=>?_) (by simp) rfl rfl rfl ?_ (by simp[Ag,he,zT])
         ·grind
         ·exact ⟨b,ms',MO,(n,ak (a.eval z))::uv,he,by grind,⟨rfl,⟨dz,one_cell hone dz⟩,d2⟩,hT,hL',hok',h3⟩
       obtain ⟨r,e1,e2⟩:=Om hp (n:=n) (w:=w) hok.key;rcases e2 with ⟨rfl,e2⟩ |⟨i,m,rfl,e3,e4⟩
       ·refine fin (ms.push {key:=Ci n,val:=a.eval z,born:=clk}) (clk+1) (by simpa[aaw] using hok.push e2 (a.eval z) clk) ?_
        simp_all [iU,run_underlying]
       ·refine fin (ms.modify i fun m=>{m with key:=Ci n,val:=a.eval z}) clk ?_ ?_
        ·have:=hok.set e3 e4 (a.eval z) (f:=fun m=>{m with key:=Ci n,val:=a.eval z}) rfl rfl
         simp_all [aaw]
        simp_all [iU,run_underlying,lF,aiB]
      ·exact h.elim
     ·exact h.elim
    ·exact h.elim
   ·exact h.elim
  ·exact h.elim
 ·exact h.elim
theorem aiC{c:Core}{id b nx':Nat}{sb sb':SB}(hh:zU K H E w c.hp)(hw:Du K H w)(hl:zI c.hp id=ak sb)(hb:Ag E id sb=ak b)
  (hE:E.le E') (hnew:∀i,E i=aK->E' i≠aK->c.nx<=i/\i<nx') (hbk:∀i,E i=aK->bk E' i=aK) (hnx:c.nx<=nx') (hlim:nx'<=c.lim\/nx'=c.nx)
  (hother:∀k,k≠b->w'.heap[k]?=w.heap[k]?) (hsz:w'.heap.size=w.heap.size) (hos:w'.os=w.os) (htape:w'.tape=w.tape) (hout:w'.output=w.output)
  (he:FH K H E' w' id sb') (hb':Ag E' id sb'=ak b):Post K H E w c H E' w' {c with hp:=hset c.hp id sb',nx:=nx',tc:=id::c.tc}:=by
 have EP:=((hh.ent _ _ hl).lt hb);refine ⟨fun _ _ e=>e,hE,hnew,hnx,hlim,rfl,rfl,?_,?_,fun _ h=>dF _ h,by omega,?_,fun i b h1 h2=>(by simp_all),?_,?_,?_⟩
 ·refine ⟨fun id2 V9 hl2=>?_,fun id1 id2 sb1 V9 b0 h1 h2 o1 o2=>?_⟩
  ·simp only[D5] at hl2
   cases hid:(id==id2)<;>simp only[hid,cond_true,cond_false] at hl2
   ·have hent:=hh.ent _ _ hl2
    refine hent.kept (fun _ _ e=>e) hE (fun b0 hb0=>hother b0 fun e=>?_) fun b0 hb0=>(hent.lt hb0).2.1;subst e;have:=hh.Fg _ _ _ _ _ hl hl2 hb hb0;simp_all
   simp_all
  ·have conv:∀{i:Nat} {s:SB},zI (hset c.hp id sb') i=ak s->Ag E' i s=ak b0->∃s',zI c.hp i=ak s'/\Ag E i s'=ak b0:=by
    intro i s h o;rw[D5] at h;cases hid:(id==i)<;>simp only[hid,cond_true,cond_false] at h
    ·exact ⟨s,h,by rw[<-FK (hh.ent _ _ h) hE];exact o⟩
    simp_all
   obtain ⟨s1,a1,a2⟩:=conv h1 o1;obtain ⟨s2,a3,a4⟩:=conv h2 o2;exact hh.Fg _ _ _ _ _ a1 a3 a2 a4
 ·refine ⟨hos.trans hw.os,htape.trans hw.tape,hout.trans hw.output,by have:=hw.size;omega,fun k hk hn=>?_,fun k o hk=>?_,hw.le,hw.fresh⟩
  ·rw[hother k fun e=>?_]
   ·exact hw.kept k hk hn
   ·subst e
    (rcases EP.2.2 with h|h)<;>grind
  ·rw[hother k fun e=>?_]
   ·exact hw.on k o hk
   ·subst e
    rw[EP.2.1] at hk;cases hk
 ·grind [dK,FI]
 ·grind [FI]
 ·intro i s0 b0 h1 h2 h3
  refine .inr ⟨s0,?_,ZJ h3 hE⟩;grind [D5]
 ·intro i s0 h1 _
  simp only[D5] at h1;cases hid:(id==i)<;>simp only[hid,cond_true,cond_false] at h1
  ·exact ⟨s0,h1,fun b0 h=>by rw[FK (hh.ent _ _ h1) hE] at h;exact h⟩
  simp_all
theorem YT{k:IntKind}{n p:Int}{m:MapEntry}{ms:List MapEntry}(hm:m.key=.int k p):Iu k n (m::ms)=if n=p then ak m.val else Iu k n ms:=by
 (by_cases e:n=p)<;>simp_all [Iu,eP]
theorem UK{k:IntKind}{n:Int}:∀{ms:List MapEntry},(∀m∈ms,∃n,m.key=.int k n)->(∀(i j:Nat) (m m':MapEntry),ms[i]?=ak m->ms[j]?=ak m'->m.key=m'.key->i=j)->∀m∈ms,m.key=.int k n->Iu k n ms=ak m.val
 |m0::ms,hk,h1,m,hm,e=>by
  obtain ⟨p,hp⟩:=hk m0 (dK ..);rw[YT hp];by_cases en:n=p
  ·subst en
   rw[if_pos rfl];obtain ⟨j,hj⟩:=dR.1 hm;have:=h1 0 j m0 m rfl hj (hp.trans e.symm);grind
  ·rw[if_neg en]
   refine UK (fun m hm=>hk m (dF _ hm)) (fun i j m m' a b c=>by have:=h1 (i+1) (j+1) m m' (by simpa using a) (by simpa using b) c;omega) m ?_ e;grind
theorem YU{k:IntKind}{n:Int}:∀{ms:List MapEntry},(∀m∈ms,∃n,m.key=.int k n)->(∀m∈ms,m.key≠.int k n)->Iu k n ms=aK
 |[],_,_=>rfl |m::ms,hk,h=>by
  obtain ⟨p,hp⟩:=hk m (dK ..);rw[YT hp,if_neg]
  ·exact YU (fun m hm=>hk m (dF _ hm)) fun m hm=>h m (dF _ hm)
  grind
theorem XJ{k:IntKind}{ms:List MapEntry}{N:Int->Option Value}(hk:∀m∈ms,∃n,m.key=.int k n)(h1:∀(i j:Nat) (m m':MapEntry),ms[i]?=ak m->ms[j]?=ak m'->m.key=m'.key->i=j)
  (h2:∀m∈ms,∀n,m.key=.int k n->N n=ak m.val) (h3:∀n v,N n=ak v->∃m∈ms,m.key=.int k n):∀n,Iu k n ms=N n:=fun n=>by
 cases hn:N n with
 |none=>
  grind [YU]
 |some v=>
  grind [UK]
theorem Ew.Zp{k:IntKind}{ms:List MapEntry}{clk:Nat}{N:Int->Option Value}(h:Ew k ms clk N):(∀m∈ms,∀n,m.key=.int k n->N n=ak m.val)/\(∀n v,N n=ak v->∃m∈ms,m.key=.int k n/\m.val=v):=by
 refine ⟨fun m hm n e=>by rw[<-h.at_,UK h.key h.one m hm e],fun n v hn=>?_⟩;rw[<-h.at_] at hn;obtain ⟨i,_,m,h1,h2,h3⟩:=Ig h.key 0 hn;grind
theorem Ew.push{k:IntKind}{ms:List MapEntry}{clk:Nat}{N:Int->Option Value}(h:Ew k ms clk N){n:Int}(hn:N n=aK)(v:Value):
  Ew k (ms++[{key:=.int k n,val:=v,born:=clk}]) (clk+1) (fun j=>if j=n then ak v else N j):=by
 have hne:∀m∈ms,m.key≠.int k n:=fun m hm e=>by rw[h.Zp.1 m hm n e] at hn;cases hn
 have hkey:∀m∈ms++[{key:=.int k n,val:=v,born:=clk:MapEntry}],∃n,m.key=.int k n:=fun m hm=>by
  rcases cZ.1 hm with hm|hm
  ·exact h.key m hm
  simp_all
 have hget:∀(i:Nat) (m:MapEntry),(ms++[{key:=.int k n,val:=v,born:=clk:MapEntry}])[i]?=ak m->(i<ms.length/\ms[i]?=ak m)\/(i=ms.length/\m={key:=.int k n,val:=v,born:=clk}):=fun i m hi=>by
  grind
 have hone:∀(i j:Nat) (m m':MapEntry),(ms++[{key:=.int k n,val:=v,born:=clk:MapEntry}])[i]?=ak m->(ms++[{key:=.int k n,val:=v,born:=clk:MapEntry}])[j]?=ak m'->m.key=m'.key->i=j:=fun i j m m' a b e=>by
  rcases hget i m a with ⟨_,a⟩ |⟨a,rfl⟩<;>rcases hget j m' b with ⟨_,b⟩ |⟨b,rfl⟩
  ·exact h.one i j m m' a b e
  ·grind
  ·grind
  ·omega
 refine ⟨hkey,XJ hkey hone (fun m hm j e=>?_) (fun j u hj=>?_),hone,fun i j m m' a b e=>?_,fun m hm=>?_⟩
 ·rcases cZ.1 hm with hm1|hm1
  ·rw[if_neg (show ¬j=n from fun e2=>hne m hm1 (by simp_all))]
   exact h.Zp.1 m hm1 j e
  simp_all
 ·by_cases e:j=n
  ·simp_all
  ·rw[if_neg e] at hj
   obtain ⟨m,hm,q,_⟩:=h.Zp.2 j u hj;grind
 ·rcases hget i m a with ⟨_,a⟩ |⟨a,rfl⟩<;>rcases hget j m' b with ⟨_,b⟩ |⟨b,rfl⟩
  ·exact h.born i j m m' a b e
  ·have:=h.lt m (dB a);simp_all
  ·have:=h.lt m' (dB b);simp_all
  ·omega
 ·rcases cZ.1 hm with hm|hm
  ·have:=h.lt m hm;omega
  simp_all
theorem Ew.set{k:IntKind}{ms:List MapEntry}{clk:Nat}{N:Int->Option Value}(h:Ew k ms clk N){n:Int}{i:Nat}{m0:MapEntry}(hi:ms[i]?=ak m0)(hk:m0.key=.int k n)(v:Value){f:MapEntry->MapEntry}
  (hf1:(f m0).key=.int k n) (hf2:(f m0).val=v) (hf3:(f m0).born=m0.born):Ew k (ms.modify i f) clk (fun j=>if j=n then ak v else N j):=by
 have hget:∀(j:Nat) (m:MapEntry),(ms.modify i f)[j]?=ak m->(j=i/\m=f m0)\/(j≠i/\ms[j]?=ak m):=fun j m hj=>by
  grind
 have hin:∀m∈ms.modify i f,m=f m0\/(m∈ms/\m.key≠.int k n):=fun m hm=>by
  obtain ⟨j,hj⟩:=dR.1 hm;rcases hget j m hj with ⟨_,e⟩ |⟨e,e2⟩
  ·exact .inl e
  ·refine .inr ⟨dB e2,fun e3=>e ?_⟩
   exact h.one j i m m0 e2 hi (e3.trans hk.symm)
 have hkey:∀m∈ms.modify i f,∃n,m.key=.int k n:=fun m hm=>by
  rcases hin m hm with rfl|hm
  ·simp_all
  ·exact h.key m hm.1
 have hnew:f m0∈ms.modify i f:=by
  grind
 have hone:∀(a b:Nat) (m m':MapEntry),(ms.modify i f)[a]?=ak m->(ms.modify i f)[b]?=ak m'->m.key=m'.key->a=b:=fun a b m m' ha hb e=>by
  rcases hget a m ha with ⟨a1,rfl⟩ |⟨a1,a2⟩<;>rcases hget b m' hb with ⟨b1,rfl⟩ |⟨b1,b2⟩
  ·omega
  ·exact (b1 (h.one b i m' m0 b2 hi (e.symm.trans (hf1.trans hk.symm)))).elim
  ·exact (a1 (h.one a i m m0 a2 hi (e.trans (hf1.trans hk.symm)))).elim
  ·exact h.one a b m m' a2 b2 e
 refine ⟨hkey,XJ hkey hone (fun m hm j e=>?_) (fun j u hj=>?_),hone,fun a b m m' ha hb e=>?_,fun m hm=>?_⟩
 ·rcases hin m hm with rfl|⟨hm,hne⟩
  ·simp_all
  ·rw[if_neg fun e2=>by simp_all]
   exact h.Zp.1 m hm j e
 ·by_cases e:j=n
  ·grind
  ·rw[if_neg e] at hj
   obtain ⟨m,hm,q,_⟩:=h.Zp.2 j u hj;grind [dR,int_inj]
 ·rcases hget a m ha with ⟨a1,rfl⟩ |⟨a1,a2⟩<;>rcases hget b m' hb with ⟨b1,rfl⟩ |⟨b1,b2⟩
  ·omega
  ·exact (b1 (h.born b i m' m0 b2 hi (e.symm.trans hf3))).elim
  ·exact (a1 (h.born a i m m0 a2 hi (e.trans hf3))).elim
  ·exact h.born a b m m' a2 b2 e
 ·rcases hin m hm with rfl|hm
  ·rw[hf3];exact h.lt m0 (dB hi)
  ·exact h.lt m hm.1
theorem Ew.del{k:IntKind}{ms:List MapEntry}{clk:Nat}{N:Int->Option Value}(h:Ew k ms clk N){n:Int}{i:Nat}{m0:MapEntry}(hi:ms[i]?=ak m0)(hk:m0.key=.int k n):
  Ew k (ms.eraseIdx i) clk (fun j=>if j=n then aK else N j):=by
 have hget:∀(j:Nat) (m:MapEntry),(ms.eraseIdx i)[j]?=ak m->ms[if j<i then j else j+1]?=ak m:=fun j m hj=>by
  grind
 have hne:∀m∈ms.eraseIdx i,m∈ms/\m.key≠.int k n:=fun m hm=>by
  obtain ⟨j,hj⟩:=dR.1 hm;have:=hget j m hj;refine ⟨dB this,fun e=>?_⟩;have:=h.one _ i m m0 this hi (e.trans hk.symm);grind
 have hkey:∀m∈ms.eraseIdx i,∃n,m.key=.int k n:=fun m hm=>h.key m (hne m hm).1;have hone:∀(a b:Nat) (m m':MapEntry),(ms.eraseIdx i)[a]?=ak m->(ms.eraseIdx i)[b]?=ak m'->m.key=m'.key->a=b:=fun a b m m' ha hb e=>by
  have:=h.one _ _ m m' (hget a m ha) (hget b m' hb) e;grind
 refine ⟨hkey,XJ hkey hone (fun m hm j e=>?_) (fun j u hj=>?_),hone,fun a b m m' ha hb e=>?_,fun m hm=>h.lt m (hne m hm).1⟩
 ·rw[if_neg fun e2=>by simp_all]
  exact h.Zp.1 m (hne m hm).1 j e
 ·by_cases e:j=n
  ·simp_all
  ·rw[if_neg e] at hj
   obtain ⟨m,hm,q,_⟩:=h.Zp.2 j u hj;obtain ⟨a,ha⟩:=dR.1 hm;have hai:a≠i:=fun e2=>by simp_all
   refine ⟨m,dR.2 ⟨if a<i then a else a - 1,?_⟩,q⟩;grind
 ·have:=h.born _ _ m m' (hget a m ha) (hget b m' hb) e
  grind
theorem OZ{M:Int->Option Value}{n:Int}{o:Option Value}{uv:List (Int×Option Value)}:TS M ((n,o)::uv)=fun j=>if j=n then o else TS M uv j:=rfl
theorem Ew.same{k:IntKind}{ms:List MapEntry}{clk:Nat}{N N':Int->Option Value}(h:Ew k ms clk N)(e:∀j,N j=N' j):Ew k ms clk N':=by
 have:N=N':=funext e;simp_all
theorem aiD{e:Nat}{te:Jt}{z:SV}(hte:NI P e te)(hz:pack te.ty.isAgg te.zero=ak z):∃zv:Value,Den H E z zv/\(∀w:World,(zeroValue e).run P w=.ok zv w)/\(te.ty.isAgg=ay->zv.oneCell'=aC):=by
 obtain ⟨inf,zv,h1,h2,_,h4,h5,h6,h7,h8⟩:=hte.info;have h5':zO H E te.zero zv.cells.toList:=h5.le (fun _ _ e=>by cases e) (fun _ _ e=>by cases e);refine ⟨zv,?_,fun w=>by simp[zeroValue,typeInfo,h1,h4],fun ha=>(h8 ha).2⟩;rcases MK hz with ⟨ha,rfl⟩ |⟨ha,hl⟩
 ·obtain ⟨cs,rfl⟩:=h7 ha
  exact ⟨cs,rfl,h5'⟩
 ·rw[hl] at h5'
  have h8:=(h8 ha).2;cases zv with
  |agg cs=>simp[jm] at h8 |_=>
   simp_all [lq,zO]
theorem XK{es:Array MapEntry}{i:Nat}{f:MapEntry->MapEntry}{m:MapEntry}(h:es[i]?=ak m)(hf:f m=m):es.modify i f=es:=by
 grind
theorem af5{c:Core}{a:Act}{o:Oper}{t:Nat}{x y:Operand}{φ:SV×Core->Prop}(hC:Az P C)(hd:zO H E c.tm a.tmps.toList)(hh:zU K H E w c.hp)(hw:Du K H w)(hf:Free E c)
  (ho:o.op=.mapEntry t x y) (h:(Oe C c t (AP c.tm x) (AP c.tm y)).All φ):Gt P K H E w c a o φ:=by
 have dx:=Ap (H:=H) (E:=E) hd x;have dy:=Ap (H:=H) (E:=E) hd y;unfold Oe at h;split at h
 ·rename_i ti hti
  split at h
  ·rename_i kt e hty
   have ht:=(hC.ty _ _ hti).desc;rw[hty] at ht;have ht:P.underlying t=ak (.map kt e):=ht;split at h
   ·rename_i kti te af4 hte
    have hk:=(hC.ty _ _ af4).desc;have hte:=hC.ty _ _ hte;split at h
    ·rename_i kk z id j n lit hkk hz hx hy
     rw[hkk] at hk;have hk:P.underlying kt=ak (.int kk):=hk;rw[hx] at dx;obtain ⟨b,he,ex⟩:=dx;have ey:a.eval y=.int j n:=J4 hy dy;split at h
     ·rename_i fk M fs us tag hl
      cases hb:(j==kk&&fk==kk&&z.one&&fF c.nx c.lim)<;>simp only[hb,cond_true,cond_false] at h
      ·exact h.elim
      simp only[aG,beq_iff_eq] at hb;obtain ⟨⟨⟨rfl,rfl⟩,atE⟩,hlt⟩:=hb;have hlt:=JD hlt;obtain ⟨b',ms,clk,fv,uv,he',h1,d1,d2,hM,hok,_,EP⟩:=hh.ent _ _ hl;rw[he] at he';cases he';rw[hC.A] at h;obtain ⟨p,sv,ov,hφ,hpo,hat⟩:=YK hM d2 d1 h;have hg:(getObj b).run P w=.ok (.map ms clk) w:=by simp[getObj,jM,h1]
      have hck:=J6 (P:=P) hk ay fk n w;have hso:∀o',(setObj b o').run P w=.ok () {w with heap:=w.heap.setIfInBounds b o'}:=fun o'=>by simp[setObj,jM,h1]
      obtain ⟨zv,hzd,UE,hz1⟩:=aiD (H:=H) (E:=E) hte hz;have hnone:=hf c.nx (bV _) hlt;have fin:∀(ms':Array MapEntry) (MO:Nat) (v:Value) (bn:Nat),Den H E (bif p then sv else z) v->v.oneCell'=aC->Ew fk ms'.toList MO (TS M ((n,ak v)::uv))->(∃m∈ms'.toList,m.key=.int fk n/\m.born=bn)->
        (nT t (.map (ak b)) (.int fk n)).run P w=.ok (.tuple #[v,goInt bn]) {w with heap:=w.heap.setIfInBounds b (.map ms' MO)}->Gt P K H E w c a o φ:=by
       intro ms' MO v bn hv hv1 hok' htag hr;obtain ⟨m,hm,hmk,hmb⟩:=htag;have hle:E.le (E.set c.nx (goInt bn)):=lQ hnone;refine ⟨_,.tuple #[v,goInt bn],_,H,E.set c.nx (goInt bn),{w with heap:=w.heap.setIfInBounds b (.map ms' MO)},hφ,⟨_,rfl,hv.le (fun _ _ e=>e) hle,dS _ _ _,trivial⟩,?_,.inl rfl,?_⟩
       ·refine aiC (E':=E.set c.nx (goInt bn)) (nx':=c.nx+1) hh hw hl (b:=b) (by simp[Ag,he,zT]) hle (fun i h1 h2=>?_) (fun i h1=>?_) (Nat.le_succ _) (.inl hlt) (fun k hk=>?_) (by simp) rfl rfl rfl ?_ (by simp[Ag,hle _ _ he,zT])
        ·simp_all [pV]
        ·simp_all [bk,pV,goInt,zT]
        ·grind
        ·exact ⟨b,ms',MO,fv,(n,ak v)::uv,hle _ _ he,by grind,d1.le (fun _ _ e=>e) hle,⟨rfl,⟨hv.le (fun _ _ e=>e) hle,hv1⟩,d2.le (fun _ _ e=>e) hle⟩,hM,hok',
          ⟨m,hm,hmk,by rw[dS,hmb];rfl⟩,EP⟩
       simp_all [execOp]
      rw[<-hok.at_] at hat;cases p with
      |true=>
       cases ov with
       |none=>exact hpo.elim |some v=>
        obtain ⟨i,e1,m,e2,e3,e4⟩:=Ig hok.key 0 hat;simp only[iw] at e1;have e2':ms[i]?=ak m:=by grind
        refine fin ms clk v m.born hpo.1 hpo.2 (hok.same fun k=>?_) ⟨m,dB e2,e3,rfl⟩ ?_
        ·rw[OZ]
         by_cases ek:k=n
         ·subst ek;simp only[if_true];rw[<-hok.at_];exact hat
         ·simp[ek]
        ·have hmod:(ms.modify i fun e=>{key:=.int fk n,val:=e.val,born:=e.born})=ms:=XK e2' (by cases m;simp_all)
         simp[nT,run_underlying ht,hg,hck,gy,run_underlying hk,e1,e2',e3,lF,kT,hso,hmod]
      |false=>
       cases ov with
       |some v=>exact hpo.elim |none=>
        have e1:=J5 hok.key 0 hat;rw[hok.at_] at hat;have hz1:zv.oneCell'=aC:=one_cell atE hzd;refine fin (ms.push {key:=.int fk n,val:=zv,born:=clk}) (clk+1) zv clk hzd hz1 (by simpa[OZ] using hok.push hat zv) ⟨{key:=.int fk n,val:=zv,born:=clk},by simp,rfl,rfl⟩ ?_;simp_all [nT,run_underlying,gy]
     ·exact h.elim
    ·exact h.elim
   ·exact h.elim
  ·exact h.elim
 ·exact h.elim
theorem acA{c:Core}{a:Act}{o:Oper}{t:Nat}{x y z:Operand}{φ:SV×Core->Prop}(hd:zO H E c.tm a.tmps.toList)(hh:zU K H E w c.hp)(hw:Du K H w)
  (ho:o.op=.entryStore t x y z) (h:(KF c (AP c.tm x) (AP c.tm y) (AP c.tm z)).All φ):Gt P K H E w c a o φ:=by
 have dx:=Ap (H:=H) (E:=E) hd x;have dy:=Ap (H:=H) (E:=E) hd y;have dz:=Ap (H:=H) (E:=E) hd z;unfold KF at h;split at h
 ·rename_i id s hx hy
  rw[hx] at dx;rw[hy] at dy;obtain ⟨b,he,ex⟩:=dx;have dy:E s=ak (a.eval y):=dy;split at h
  ·rename_i fk M fs us s' n hl
   cases hb:(s==s'&&(AP c.tm z).one)<;>simp only[hb,cond_true,cond_false] at h
   ·exact h.elim
   simp only[aG,beq_iff_eq] at hb;obtain ⟨rfl,hone⟩:=hb;obtain ⟨b',ms,clk,fv,uv,he',h1,d1,d2,hM,hok,⟨m,hm,hmk,hms⟩,EP⟩:=hh.ent _ _ hl;rw[he] at he';cases he';rw[dy] at hms;have ey:a.eval y=.int .i64 m.born:=dw hms;have hg:(getObj b).run P w=.ok (.map ms clk) w:=by simp[getObj,jM,h1]
   have hso:∀o',(setObj b o').run P w=.ok () {w with heap:=w.heap.setIfInBounds b o'}:=fun o'=>by simp[setObj,jM,h1]
   obtain ⟨i,hi⟩:=dR.1 hm;have hi':ms[i]?=ak m:=by grind
   have hfind:ms.findIdx? (fun e=>(e.born:Int)==m.born)=ak i:=by
    rw[Array.findIdx?_eq_some_iff_getElem];have hlt:=(bK.1 hi').1;refine ⟨hlt,by simp_all,fun j hj=>?_⟩;have hjl:j<ms.size:=by omega
    intro e;have e:ms[j].born=m.born:=by grind
    have:=hok.born j i ms[j] m (by simp[hjl]) hi e;omega
   refine ⟨_,undef,_,H,E,{w with heap:=w.heap.setIfInBounds b (.map (ms.modify i fun e=>{e with val:=a.eval z}) clk)},h,trivial,?_,.inr ⟨rfl,rfl⟩,?_⟩
   ·refine JF hh hw hl (b:=b) (by simp[Ag,he,zT]) (fun k hk=>?_) (by simp) rfl rfl rfl ?_ (by simp[Ag,he,zT])
    ·grind
    ·refine ⟨b,_,clk,fv,(n,ak (a.eval z))::uv,he,by simp only;rw[aep w b b _ _ h1,if_pos rfl],d1,⟨rfl,⟨dz,one_cell hone dz⟩,d2⟩,hM,?_,⟨{m with val:=a.eval z},?_,hmk,by rw[dy,ey]⟩,EP⟩
     ·have:=hok.set hi hmk (a.eval z) (f:=fun e=>{e with val:=a.eval z}) hmk rfl rfl
      simp_all [OZ]
     ·rw[Array.toList_modify]
      refine dR.2 ⟨i,?_⟩;simp_all
   simp_all [execOp,Instr.entryStore,asInt,asIntOf]
  ·exact h.elim
 ·exact h.elim
theorem alC{c:Core}{a:Act}{o:Oper}{t:Nat}{ts:Array TypeId}{x y:Operand}{φ:SV×Core->Prop}(hC:Az P C)(hd:zO H E c.tm a.tmps.toList)(hh:zU K H E w c.hp)(hw:Du K H w)
  (ho:o.op=.call {callee:=.builtin .delete,args:=#[x,y],argTypes:=ts}) (hts:ts[0]?=ak t) (h:(QY C c t (AP c.tm x) (AP c.tm y)).All φ):Gt P K H E w c a o φ:=by
 have dx:=Ap (H:=H) (E:=E) hd x;have dy:=Ap (H:=H) (E:=E) hd y;unfold QY at h;split at h
 ·rename_i ti hti
  split at h
  ·rename_i kt e hty
   have ht:=(hC.ty _ _ hti).desc;rw[hty] at ht;have ht:P.underlying t=ak (.map kt e):=ht;split at h
   ·rename_i kti af4
    have hk:=(hC.ty _ _ af4).desc;split at h
    ·rename_i kk id j n lit hkk hx hy
     rw[hkk] at hk;have hk:P.underlying kt=ak (.int kk):=hk;rw[hx] at dx;obtain ⟨b,he,ex⟩:=dx;have ey:a.eval y=.int j n:=J4 hy dy;split at h
     ·rename_i fk M fs us tag hl
      cases hb:(j==kk&&fk==kk)<;>simp only[hb,cond_true,cond_false] at h
      ·exact h.elim
      simp only[aG,beq_iff_eq] at hb;obtain ⟨rfl,rfl⟩:=hb;obtain ⟨b',ms,clk,fv,uv,he',h1,d1,d2,hM,hok,_,EP⟩:=hh.ent _ _ hl;rw[he] at he';cases he';have hg:(getObj b).run P w=.ok (.map ms clk) w:=by simp[getObj,jM,h1]
      have hck:=fun em=>J6 (P:=P) hk em fk n w;have hso:∀o',(setObj b o').run P w=.ok () {w with heap:=w.heap.setIfInBounds b o'}:=fun o'=>by simp[setObj,jM,h1]
      have fin:∀(ms':Array MapEntry),Ew fk ms'.toList clk (TS M ((n,aK)::uv))->(mF ts o.type #[.map (ak b),.int fk n]).run P w=.ok (.tuple #[]) {w with heap:=w.heap.setIfInBounds b (.map ms' clk)}->Gt P K H E w c a o φ:=by
       intro ms' hok' hr;refine ⟨_,.tuple #[],_,H,E,{w with heap:=w.heap.setIfInBounds b (.map ms' clk)},h,trivial,?_,.inl rfl,?_⟩
       ·refine JF hh hw hl (b:=b) (by simp[Ag,he,zT]) (fun k hk=>?_) (by simp) rfl rfl rfl ?_ (by simp[Ag,he,zT])
        ·grind
        ·exact ⟨b,ms',clk,fv,(n,aK)::uv,he,by grind,d1,⟨rfl,trivial,d2⟩,hM,hok',trivial,EP⟩
       simp_all [execOp,resolve,invoke,builtin]
      cases hat:Iu fk n ms.toList with
      |some v=>
       obtain ⟨i,e1,m,e2,e3,e4⟩:=Ig hok.key 0 hat;simp only[iw] at e1;refine fin (ms.eraseIdxIfInBounds i) ?_ ?_
       ·have:=hok.del e2 e3
        simp_all [OZ,Array.toList_eraseIdxIfInBounds]
       ·simp[mF,hts,run_underlying ht,hg,hck,gy,run_underlying hk,e1,hso]
      |none=>
       have e1:=J5 hok.key 0 hat;refine fin ms ?_ ?_
       ·refine hok.same fun k=>?_
        rw[OZ];by_cases ek:k=n
        ·subst ek;simp only[if_true];rw[<-hok.at_];exact hat
        ·simp[ek]
       ·simp[mF,hts,run_underlying ht,hg,hck,gy,run_underlying hk,e1,hso]
     ·exact h.elim
    ·exact h.elim
   ·exact h.elim
  ·exact h.elim
 ·exact h.elim
end
theorem Tree.ET{α β:Type}{φ:β->Prop}{k:α->Tree β}:∀{t:Tree α},(t.bind k).All φ->t.All fun a=>(k a).All φ
 | .leaf _,h=>h | .node _ _ _,h=>⟨fun e=>Tree.ET (h.1 e),fun e=>Tree.ET (h.2 e)⟩ | .need _ _,h=>⟨h.1,Tree.ET h.2⟩ | .must _ _,h=>⟨h.1,Tree.ET h.2⟩ | .both _ _,h=>⟨Tree.ET h.1,Tree.ET h.2⟩ | .fail,h=>h.elim
theorem Tree.All.mono{α:Type}{φ ψ:α->Prop}(h:∀a,φ a->ψ a):∀{t:Tree α},t.All φ->t.All ψ
 | .leaf _,hh=>h _ hh | .node _ _ _,hh=>⟨fun e=>(hh.1 e).mono h,fun e=>(hh.2 e).mono h⟩ | .need _ _,hh=>⟨hh.1,hh.2.mono h⟩ | .must _ _,hh=>⟨hh.1,hh.2.mono h⟩ | .both _ _,hh=>⟨hh.1.mono h,hh.2.mono h⟩ | .fail,hh=>hh.elim
section
variable{P:Program}{C:Ctx}{K:Kx}{H H' Oo:Mem}{E E' Oq:Env}{w w' w'':World}
def Mv(K:Kx)(H:Mem)(E:Env)(w:World)(c:Core)(H':Mem)(E':Env)(w':World)(c':Core):Prop:=Post K H E w c H' E' w' {c' with tm:=c.tm}
theorem Post.mv{c c':Core}(h:Post K H E w c H' E' w' c'):Mv K H E w c H' E' w' c':=by
 have:=h.tm;unfold Mv;rw[<-this];exact h
theorem Mv.to{c c' d d':Core}(h:Mv K H E w c H' E' w' c')(h1:d.hp=c.hp)(h2:d.nx=c.nx)(h3:d.lim=c.lim)(h4:d.tc=c.tc)(h1':d'.hp=c'.hp)(h2':d'.nx=c'.nx)(h3':d'.lim=c'.lim)(h4':d'.tc=c'.tc):Mv K H E w d H' E' w' d':=by
 obtain ⟨t,hp,nx,lim,tc⟩:=c;obtain ⟨t',hp',nx',lim',tc'⟩:=c';obtain ⟨t1,hp1,nx1,az6,tc1⟩:=d;obtain ⟨t2,hp2,nx2,az7,tc2⟩:=d';simp only at h1 h2 h3 h4 h1' h2' h3' h4';subst h1 h2 h3 h4 h1' h2' h3' h4';exact ⟨h.H7,h.Ll,h.new,h.nx,h.lim,h.afO,rfl,h.hp,h.Bg,h.tc,h.size,h.fr,h.NK,h.Zr,h.keep,h.old⟩
structure Ch(K:Kx)(H:Mem)(E:Env)(w:World)(q:List (Nat×SB))(u:List Nat)(H':Mem)(E':Env)(w':World)(q':List (Nat×SB))(u':List Nat)(New:Nat->Prop):Prop where
 H7:H.le H'
 Ll:E.le E'
 new:∀i,E i=aK->E' i≠aK->New i
 hp:zU K H' E' w' q'
 Bg:Du K H' w'
 tc:∀id∈u,id∈u'
 size:w.heap.size<=w'.heap.size
 fr:∀b,b<w.heap.size->(∀id∈u',bk E id≠ak b)->w'.heap[b]?=w.heap[b]?
 NK:∀i b,E i=aK->bk E' i=ak b->w.heap.size<=b\/∃id∈u',bk E id=ak b
 Zr:∀id∈u',id∈u\/E id=aK\/∃sb,zI q id=ak sb/\Ag E id sb=bk E id
 keep:∀id sb b,zI q id=ak sb->id ∉ u'->Ag E id sb=ak b->H' b≠aK\/∃sb',zI q' id=ak sb'/\Ag E' id sb'=ak b
 old:∀id sb,zI q' id=ak sb->E id≠aK->∃sb0,zI q id=ak sb0/\∀b,Ag E' id sb=ak b->Ag E id sb0=ak b
theorem Mv.ch{c c':Core}(h:Mv K H E w c H' E' w' c'):Ch K H E w c.hp c.tc H' E' w' c'.hp c'.tc (fun i=>c.nx<=i/\i<c'.nx):=
 ⟨h.H7,h.Ll,h.new,h.hp,h.Bg,h.tc,h.size,h.fr,h.NK,h.Zr,h.keep,h.old⟩
theorem Ch.mv{c c':Core}(h:Ch K H E w c.hp c.tc H' E' w' c'.hp c'.tc (fun i=>c.nx<=i/\i<c'.nx))(h1:c.nx<=c'.nx)(h2:c'.nx<=c.lim\/c'.nx=c.nx)(h3:c'.lim=c.lim):Mv K H E w c H' E' w' c':=
 ⟨h.H7,h.Ll,h.new,h1,h2,h3,rfl,h.hp,h.Bg,h.tc,h.size,h.fr,h.NK,h.Zr,h.keep,h.old⟩
theorem Ch.mono{hp hp':List (Nat×SB)}{tc tc':List Nat}{N N':Nat->Prop}(h:Ch K H E w hp tc H' E' w' hp' tc' N)(hN:∀i,N i->N' i):Ch K H E w hp tc H' E' w' hp' tc' N':=
 {h with new:=fun i h1 h2=>hN i (h.new i h1 h2)}
theorem Ch.add{hp hp':List (Nat×SB)}{tc':List Nat}{N:Nat->Prop}(h:Ch K H E w hp [] H' E' w' hp' tc' N)(t:List Nat):Ch K H E w hp t H' E' w' hp' (tc'++t) N:=
 {h with
  tc:=fun id hid=>cZ.2 (.inr hid)
  fr:=fun b hb hne=>h.fr b hb fun id hid=>hne id (cZ.2 (.inl hid))
  NK:=fun i b h1 h2=>(h.NK i b h1 h2).imp (fun h=>h) fun ⟨id,h3,h4⟩=>⟨id,cZ.2 (.inl h3),h4⟩
  Zr:=fun id hid=>by
   rcases cZ.1 hid with h1|h1
   ·(rcases h.Zr id h1 with h2|h2)<;>simp_all
   simp_all
  keep:=fun id sb b h1 h2 h3=>h.keep id sb b h1 (fun h4=>h2 (cZ.2 (.inl h4))) h3}
theorem Ch.trans{hp hp1 hp2:List (Nat×SB)}{tc tc1 tc2:List Nat}{N:Nat->Prop}(h1:Ch K H E w hp tc H' E' w' hp1 tc1 N)(h2:Ch K H' E' w' hp1 tc1 Oo Oq w'' hp2 tc2 N):Ch K H E w hp tc Oo Oq w'' hp2 tc2 N:=by
 have tc1:=h1.tc;have tc2:=h2.tc;have noneE:∀{i:Nat},E' i=aK->E i=aK:=fun {i} h=>by
  cases he:E i with
  |none=>rfl |some v=>rw[h1.Ll _ _ he] at h;cases h
 have bkE:∀{i b:Nat},E i≠aK->bk E' i=ak b->bk E i=ak b:=fun {i b} hne h=>by
  cases he:E i with
  |none=>simp_all |some v=>simp only[bk,h1.Ll _ _ he] at h;simp_all [bk]
 refine ⟨fun b o h=>h2.H7 b o (h1.H7 b o h),fun i v h=>h2.Ll i v (h1.Ll i v h),fun i e1 e2=>?_,h2.hp,h2.Bg,fun id h=>tc2 id (tc1 id h),gU h1.size h2.size,
  fun b hb hne=>?_,fun i b e1 e2=>?_,fun id hid=>?_,fun id sb b hl hn ho=>?_,fun id sb hl hne=>?_⟩
 ·cases he:E' i with
  |none=>exact h2.new i he e2 |some v=>exact h1.new i e1 (by rw[he];simp)
 ·rw[h2.fr b (by have:=h1.size;omega) fun id hid e=>?_]
  ·exact h1.fr b hb fun id hid=>hne id (tc2 id hid)
  ·cases he:E id with
   |none=>
    (rcases h1.NK id b he e with h|⟨id',h3,h4⟩)<;>grind
   |some v=>grind
 ·cases he:E' i with
  |none=>
   rcases h2.NK i b he e2 with h|⟨id',h3,h4⟩
   ·exact .inl (by have:=h1.size;omega)
   ·cases he2:E id' with
    |none=>
     (rcases h1.NK id' b he2 h4 with h|⟨id2,h5,h6⟩)<;>grind
    |some v=>grind
  |some v=>
   have e3:bk E' i=ak b:=by simp only[bk,h2.Ll _ _ he] at e2;simp_all [bk]
   (rcases h1.NK i b e1 e3 with h|⟨id2,h5,h6⟩)<;>grind
 ·rcases h2.Zr id hid with h|h|⟨sb,h3,h4⟩
  ·exact h1.Zr id h
  ·simp_all
  ·cases he:E id with
   |none=>simp |some v=>
    obtain ⟨sb0,h5,h6⟩:=h1.old id sb h3 (by rw[he];simp);refine .inr (.inr ⟨sb0,h5,?_⟩);have e':bk E' id=bk E id:=by simp[bk,he,h1.Ll _ _ he]
    rw[e'] at h4;cases hb:bk E id with
    |some b=>simp_all |none=>
     cases ho:Ag E id sb0 with
     |none=>rfl |some b=>grind [FI]
 ·rcases h1.keep id sb b hl (fun h=>hn (tc2 id h)) ho with h|⟨sb',h3,h4⟩
  ·cases hb:H' b with
   |none=>simp_all |some o=>exact .inl (by rw[h2.H7 b o hb];simp)
  ·exact h2.keep id sb' b h3 hn h4
 ·have hne':E' id≠aK:=fun h=>hne (noneE h)
  obtain ⟨sb1,h3,h4⟩:=h2.old id sb hl hne';obtain ⟨sb0,h5,h6⟩:=h1.old id sb1 h3 hne;simp_all
theorem Mv.trans{c c1 c2:Core}(h1:Mv K H E w c H' E' w' c1)(h2:Mv K H' E' w' c1 Oo Oq w'' c2):Mv K H E w c Oo Oq w'' c2:=by
 have hnx1:c.nx<=c1.nx:=h1.nx;have hnx2:c1.nx<=c2.nx:=h2.nx;have ayh:c1.lim=c.lim:=h1.afO;have ayi:c2.lim=c1.lim:=h2.afO;have hl1:c1.nx<=c.lim\/c1.nx=c.nx:=h1.lim;have hl2:c2.nx<=c1.lim\/c2.nx=c1.nx:=h2.lim;exact ((h1.ch.mono fun i hi=>⟨hi.1,by omega⟩).trans (h2.ch.mono fun i hi=>⟨by omega,hi.2⟩)).mv (by omega) (by omega) (by omega)
theorem Mv.free{c c':Core}(h:Mv K H E w c H' E' w' c')(hf:Free E c):Free E' c':=by
 intro i h1 h2;have hn:c.nx<=c'.nx:=h.nx;have hl:c'.lim=c.lim:=h.afO;cases he:E' i with
 |none=>rfl |some v=>
  have:=h.new i (hf i (by omega) (by omega)) (by rw[he];simp);grind
structure St(C:Ctx)(K:Kx)(H:Mem)(E:Env)(w:World)(c:Core)(a:Act):Prop where
 den:zO H E c.tm a.tmps.toList
 hp:zU K H E w c.hp
 Bg:Du K H w
 free:Free E c
 gl:BU C.gls H
 defers:a.defers=[]
structure CV(H:Mem)(w:World)(s:Sh)(v:Value)(H':Mem)(w':World):Prop where
 H7:H.le H'
 on:H'.on w'
 os:w'.os=w.os
 tape:w'.tape=w.tape
 output:w'.output=w.output
 size:w.heap.size<=w'.heap.size
 old:∀b,b<w.heap.size->w'.heap[b]?=w.heap[b]?
 fresh:∀b,H' b≠aK->H b≠aK\/w.heap.size<=b
 res:∀b0:Nat,∃E1:Env,(∀i,E1 i≠aK->b0<=i/\i<(BP s b0).2.2)/\(∀i b,bk E1 i=ak b->w.heap.size<=b)/\Den H' E1 (BP s b0).1 v/\zU ⟨w,fun _=>False,H⟩ H' E1 w' (CJ [] (BP s b0).2.1)
def zZ(P:Program)(gls:List (Nat×Sh))(f:Nat)(F:List Sh->Tree Sh):Prop:=
 ∀(H:Mem) (w:World) (Aq:List Sh) (args:List Value) (φ:Sh->Prop),H.on w->BU gls H->CU H Aq args->(F Aq).All φ->
  Calls P f args.toArray w fun e w'=>∃v s H',e=.returned v/\φ s/\CV H w s v H' w'
def aax(P:Program)(C:Ctx):Prop:=∀g F,C.spec g=ak F->zZ P C.gls g F
theorem EY:∀(l hp:List (Nat×SB)) (i:Nat),zI (CJ hp l) i=match zI (CJ [] l) i with|some x=>ak x|none=>zI hp i
 |[],hp,i=>by rfl |(j,b)::l,hp,i=>by
  rw[CJ,CJ,EY l (hins hp j b),EY l (hins [] j b),Ec,Ec];grind [zI,CJ]
mutual
theorem af6:∀(s:Sh) (b:Nat),b<=(BP s b).2.2
 | .os _ _ _ _,b=>by simp[BP] | .agg l,b=>by simpa[BP] using XL l b | .zQ l,b=>by simpa[BP] using XL l b | .i _ _,b=>bV _ | .b _,b=>bV _ | .v _,b=>bV _ | .str _,b=>bV _ | .sl _ _ _,b=>bV _ | .BM _ _,b=>bV _ | .fn _ _,b=>bV _ | .er _ _,b=>bV _ | .pt _,b=>bV _
theorem XL:∀(l:List Sh) (b:Nat),b<=(DU l b).2.2
 |[],b=>bV _ |x::r,b=>by simpa[DU] using gU (af6 x b) (XL r _)
end
theorem FH.world{K1:Kx}{id:Nat}{sb:SB}(h:FH K1 H E w id sb)(hE:E.le E')(hm:∀b,Mine K1 H b->Mine K H b):FH K H E' w id sb:=by
 cases sb with
 |box cells elem=>obtain ⟨b,cs,he,h1,h2,h3⟩:=h;exact ⟨b,cs,hE _ _ he,h1,h2.le (fun _ _ e=>e) hE,hm _ h3⟩ |row cells elem st n=>obtain ⟨v,xs,he,h1,h2,h3⟩:=h;exact ⟨v,xs,hE _ _ he,h1,h2.le (fun _ _ e=>e) hE,fun b hb=>hm _ (h3 b hb)⟩ |own elem st n g=>obtain ⟨v,xs,he,h1,h2,h3⟩:=h;exact ⟨v,xs,hE _ _ he,h1,h2,fun b hb=>hm _ (h3 b hb)⟩ |fz st n g=>obtain ⟨v,he,h1⟩:=h;exact ⟨v,hE _ _ he,h1⟩ |map es=>obtain ⟨b,ms,clk,he,h1,h2,h3⟩:=h;exact ⟨b,ms,clk,hE _ _ he,h1,h2.le (fun _ _ e=>e) hE,hm _ h3⟩ |QN l=>obtain ⟨v,he,h1⟩:=h;exact ⟨v,hE _ _ he,h1⟩ |FY elem st n g more=>obtain ⟨v,xs,ys,he,h1,h2,h3,h4,h5,h6⟩:=h;exact ⟨v,xs,ys,hE _ _ he,h1,h2,h3.le (fun _ _ e=>e) hE,h4,h5,fun b hb=>hm _ (h6 b hb)⟩ |fm k M fs us tag=>obtain ⟨b,ms,clk,fv,uv,he,h1,h2,h3,h4,h5,h6,h7⟩:=h;exact ⟨b,ms,clk,fv,uv,hE _ _ he,h1,h2.le (fun _ _ e=>e) hE,h3.le (fun _ _ e=>e) hE,h4,h5,h6.le hE,hm _ h7⟩ |pm vt M us=>obtain ⟨b,ms,clk,uv,he,h1,h2,h3,h4,h5,h7⟩:=h;exact ⟨b,ms,clk,uv,hE _ _ he,h1,h2.le (fun _ _ e=>e) hE,h3,h4,h5,hm _ h7⟩ |buf e l=>obtain ⟨v,he,h1,h3⟩:=h;exact ⟨v,hE _ _ he,h1,fun b hb=>hm _ (h3 b hb)⟩
def Jh(P:Program)(K:Kx)(H:Mem)(E:Env)(w:World)(c:Core)(g:Nat)(Es:List Value)(φ:SV×Core->Prop):Prop:=
 Calls P g Es.toArray w fun e w'=>∃p v H' E',e=.returned v/\φ p/\Den H' E' p.1 v/\Post K H E w c H' E' w' p.2
theorem aiE(hS:aax P C){c:Core}{g:Nat}{F:List Sh->Tree Sh}{args:List SV}{Es:List Value}{φ:SV×Core->Prop}(hF:C.spec g=ak F)(hh:zU K H E w c.hp)(hw:Du K H w)(hf:Free E c)
  (hg:BU C.gls H) (hd:zO H E args Es) (h:(spread c F args).All φ):Jh P K H E w c g Es φ:=by
 unfold spread at h;split at h
 ·exact h.elim
 ·rename_i hp hfz
  obtain ⟨H1,hH,hh1,hw1,hz⟩:=MN hfz hh hw;split at h
  ·exact h.elim
  ·rename_i Aq hsh
   have hrep:=DK hh1 hsh (hd.le hH fun _ _ e=>e);refine lG (hS g F hF H1 w Aq Es _ hw1.on (hg.le hH) hrep (Tree.ET h)) fun e w' ⟨v,s,H',he,hφ,r⟩=>?_;obtain ⟨E1,r1,r2,r3,r4⟩:=r.res c.nx;cases hb:gJ (BP s c.nx).2.2 c.lim<;>simp only[hb,cond_true,cond_false] at hφ
   ·exact hφ.elim
   have hb:=gu hb;have hge:=af6 s c.nx;have ayd:∀i u,E i=ak u->E1 i=aK:=fun i u hu=>by
    cases h1:E1 i with
    |none=>rfl |some u'=>
     have:=r1 i (by rw[h1];simp);have:=hf i this.1 (by omega);simp_all
   let E2:Env:=fun i=>match E1 i with|some u=>ak u|none=>E i
   have hE:E.le E2:=fun i u hu=>by grind
   have hE1:E1.le E2:=fun i u hu=>by simp[E2,hu]
   have conv:∀i,E i=aK->E2 i=E1 i:=fun i hi=>by grind
   have hold:∀{id:Nat} {sb:SB},FH K H1 E w id sb->FH K H' E2 w' id sb:=fun {id sb} hent=>
    hent.kept r.H7 hE (fun b hb=>r.old b (hent.lt hb).1) fun b hb=>by
     cases hx:H' b with
     |none=>rfl |some o=>
      rcases r.fresh b (by rw[hx];simp) with h|h
      ·exact (h (hent.lt hb).2.1).elim
      ·have:=(hent.lt hb).1;omega
   have hnew:∀{id:Nat} {sb:SB},zI (CJ [] (BP s c.nx).2.1) id=ak sb->FH K H' E2 w' id sb/\(∀b,Ag E2 id sb=ak b->w.heap.size<=b/\Ag E1 id sb=ak b)/\E id=aK:=fun {id sb} hl=>by
    have hent:=r4.ent _ _ hl;refine ⟨hent.world hE1 fun b hm=>⟨hm.1,?_⟩,fun b ho=>?_,?_⟩
    ·rcases hm.2 with h|h
     ·exact .inl (gU hw.size h)
     grind
    ·rw[FK hent hE1] at ho
     exact ⟨r2 id b (FI ho),ho⟩
    ·obtain ⟨u,hu⟩:=hent.some_
     have:=r1 id (by rw[hu];simp);exact hf id this.1 (by omega)
   refine ⟨_,v,H',E2,he,hφ,r3.le (fun _ _ e=>e) hE1,fun b o h=>r.H7 b o (hH b o h),hE,fun i h1 h2=>?_,hge,.inl hb,rfl,rfl,⟨fun id sb hl=>?_,fun id id' sb sb' b h1 h2 o1 o2=>?_⟩,
    ⟨r.os.trans hw.os,r.tape.trans hw.tape,r.output.trans hw.output,gU hw.size r.size,fun b hb hn=>?_,r.on,fun b o h=>r.H7 b o (hw1.le b o h),fun b hb=>?_⟩,fun _ h=>h,r.size,fun b hb _=>r.old b hb,fun i b h1 h2=>?_,
    fun _ h=>.inl h,fun id sb b hl _ ho=>?_,fun id sb hl hne=>?_⟩
   ·simp_all
   ·have hl:zI (CJ hp (BP s c.nx).2.1) id=ak sb:=hl
    rw[EY] at hl;split at hl
    ·simp_all
    ·exact hold (hh1.ent _ _ hl)
   ·have h1:zI (CJ hp (BP s c.nx).2.1) id=ak sb:=h1
    have h2:zI (CJ hp (BP s c.nx).2.1) id'=ak sb':=h2;rw[EY] at h1 h2;split at h1
    ·rename_i x hx
     cases h1;split at h2
     ·rename_i y hy
      cases h2;exact r4.Fg _ _ _ _ _ hx hy ((hnew hx).2.1 b o1).2 ((hnew hy).2.1 b o2).2
     ·have a1:=((hnew hx).2.1 b o1).1
      rw[FK (hh1.ent _ _ h2) hE] at o2;have:=((hh1.ent _ _ h2).lt o2).1;omega
    ·rw[FK (hh1.ent _ _ h1) hE] at o1
     have a0:=((hh1.ent _ _ h1).lt o1).1;split at h2
     ·grind
     ·rw[FK (hh1.ent _ _ h2) hE] at o2
      exact hh1.Fg _ _ _ _ _ h1 h2 o1 o2
   ·rw[r.old b (by have:=hw.size;omega)]
    exact hw.kept b hb hn
   ·rcases r.fresh b hb with h|h
    ·exact hw1.fresh b h
    ·exact .inr (.inl (gU hw.size h))
   ·simp only[bk,conv i h1] at h2
    exact .inl (r2 i b h2)
   ·rcases hz.keep id sb b hl ho with h|h
    ·left
     cases hb:H1 b with
     |none=>simp_all |some o=>rw[r.H7 b o hb];simp
    ·refine .inr ⟨sb,?_,ZJ ho hE⟩
     show zI (CJ hp (BP s c.nx).2.1) id=ak sb;rw[EY];split
     ·rename_i x hx
      obtain ⟨u,hu⟩:=(hh.ent _ _ hl).some_;simp_all
     ·exact h
   ·have hl:zI (CJ hp (BP s c.nx).2.1) id=ak sb:=hl
    rw[EY] at hl;split at hl
    ·simp_all
    ·obtain ⟨sb0,h3,h4⟩:=hz.old id sb hl
     exact ⟨sb0,h3,fun b hb=>h4 b (by rw[FK (hh1.ent _ _ hl) hE] at hb;exact hb)⟩
mutual
theorem aay{H1 H2:Mem}{E1 E2:Env}:∀(s:Sh) (b:Nat) (v:Value),Ie s=aC->Den H1 E1 (BP s b).1 v->Den H2 E2 (BP s b).1 v
 | .i k n,_,_,_,h=>h | .b x,_,_,_,h=>h | .str l,_,_,_,h=>by cases h;exact .str l | .v x,_,_,_,h=>by
  cases x<;>exact h
 | .agg l,b,_,hp,⟨vs,h1,h2⟩=>⟨vs,h1,Rj l b _ (by assumption) h2⟩ | .zQ l,b,_,hp,⟨vs,h1,h2⟩=>⟨vs,h1,Rj l b _ (by assumption) h2⟩ | .sl _ _ _,_,_,hp,_=>by simp[Ie] at hp | .os _ _ _ _,_,_,hp,_=>by simp[Ie] at hp | .BM _ _,_,_,hp,_=>by simp[Ie] at hp | .fn _ _,_,_,hp,_=>by simp[Ie] at hp | .er _ _,_,_,hp,_=>by simp[Ie] at hp | .pt _,_,_,hp,_=>by simp[Ie] at hp
theorem Rj{H1 H2:Mem}{E1 E2:Env}:∀(l:List Sh) (b:Nat) (vs:List Value),OO l=aC->zO H1 E1 (DU l b).1 vs->zO H2 E2 (DU l b).1 vs
 |[],_,[],_,_=>trivial |[],_,_::_,_,h=>h.elim |_::_,_,[],_,h=>h.elim |x::r,b,v::vs,hp,⟨h1,h2⟩=>by
  simp only[OO,aG] at hp;exact ⟨aay x b v hp.1 h1,Rj r _ vs hp.2 h2⟩
end
theorem anw(hS:aax P C){c:Core}{g:Nat}{F:List Sh->Tree Sh}{args:List SV}{Es:List Value}{φ:SV×Core->Prop}(hF:C.spec g=ak F)(hh:zU K H E w c.hp)(hw:Du K H w)
  (hg:BU C.gls H) (hd:zO H E args Es) (h:(VI c F args).All φ):Jh P K H E w c g Es φ:=by
 unfold VI at h;split at h
 ·exact h.elim
 ·rename_i hp hfz
  obtain ⟨H1,hH,hh1,hw1,hz⟩:=MN hfz hh hw;split at h
  ·exact h.elim
  ·rename_i Aq hsh
   have hrep:=DK hh1 hsh (hd.le hH fun _ _ e=>e);refine lG (hS g F hF H1 w Aq Es _ hw1.on (hg.le hH) hrep (Tree.ET h)) fun e w' ⟨v,s,H',he,hφ,r⟩=>?_;obtain ⟨E1,r1,r2,r3,r4⟩:=r.res c.nx;cases hb:Ie s<;>simp only[hb,cond_true,cond_false] at hφ
   ·exact hφ.elim
   have keep:∀id sb,zI c.hp id=ak sb->FH K H E w' id sb:=fun id sb hl=>by
    have hent:=hh.ent id sb hl;exact hent.kept (fun _ _ e=>e) (fun _ _ e=>e) (fun b ho=>r.old b (hent.lt ho).1) fun b ho=>(hent.lt ho).2.1
   refine ⟨_,v,H,E,he,hφ,aay s c.nx v hb r3,fun _ _ e=>e,fun _ _ e=>e,fun i h1 h2=>(h2 h1).elim,bV _,.inr rfl,rfl,rfl,⟨keep,fun id id' sb sb' b h1 h2 o1 o2=>hh.Fg id id' sb sb' b h1 h2 o1 o2⟩,
    ⟨r.os.trans hw.os,r.tape.trans hw.tape,r.output.trans hw.output,gU hw.size r.size,fun b hb hn=>?_,fun b o e=>?_,hw.le,hw.fresh⟩,fun _ h=>h,r.size,fun b hb _=>r.old b hb,fun i b h1 h2=>?_,
    fun _ h=>.inl h,fun id sb b hl _ ho=>.inr ⟨sb,hl,ho⟩,fun id sb hl _=>⟨sb,hl,fun b h=>h⟩⟩
   ·rw[r.old b (Nat.lt_of_lt_of_le hb hw.size)]
    exact hw.kept b hb hn
   ·rw[r.old b (bK.1 (hw.on b o e)).1]
    exact hw.on b o e
   simp_all [bk]
end
def Enters(P:Program)(g:Nat):Prop:=∃fn,P.funcs[g]?=ak fn/\fn.body.isSome=aC/\fn.name≠ "runtime.NumGoroutine"
def aiF(P:Program)(g e st bytes:Nat):Prop:=
 ∀(w:World) (v x:Value) (n i:Nat) (xs news:List Value),w.ownsRow 0 e st v n xs->w.ownsRow 0 e st x 1 news->(∀b,zT v=ak b->zT x≠ak b)->(∀u∈xs,u.oneCell'=aC)->(∀u∈news,u.oneCell'=aC)->
  i<=n->n+1<=maxLen->(n+1)*bytes<=140737488355328->Calls P g #[v,.int .i64 i,x] w fun en w'=>∃v',en=.returned v'/\w'.ownsRow 0 e st v' (n+1) (xs.take (i*st)++news++xs.drop (i*st))/\w.grownBy w' (zT v)/\
   ∀b,zT v'=ak b->zT v=ak b\/w.heap.size<=b
def aer(P:Program)(g e st bytes:Nat):Prop:=
 ∀(w:World) (k:Nat),k<=maxLen->k*bytes<=140737488355328->Calls P g #[.slice aK 0 0,.int .i64 k] w fun en w'=>∃v',en=.returned v'/\w'.ownsRow 0 e st v' 0 []/\w.grownBy w' aK/\∀b,zT v'=ak b->w.heap.size<=b
structure AU(P:Program)(C:Ctx):Prop where
 sp:aax P C
 en:∀g,(C.spec g).isSome=aC\/(C.fns.get g).isSome=aC->Enters P g
 is:∀g e te,C.ins g=ak e->C.ty e=ak te->Enters P g/\aiF P g e te.size te.bytes
 gr:∀g e te,C.grow g=ak e->C.ty e=ak te->Enters P g/\aer P g e te.size te.bytes
section
variable{P:Program}{C:Ctx}{K:Kx}{H H' Oo:Mem}{E E' Oq:Env}{w w' w'':World}
theorem GK{g:Nat}(h:Enters P g)(args:Array Value)(w:World):(callFunc g args).run P w=.ok (.enter g args) w:=by
 obtain ⟨fn,h1,h2,h3⟩:=h;have hb:fn.body≠aK:=by grind
 simp_all [callFunc,gK,run_program]
def aes(P:Program)(K:Kx)(H:Mem)(E:Env)(w:World)(c:Core)(a:Act)(o:Oper)(φ:SV×Core->Prop):Prop:=
 ∀(next:Act->World->Prop) (Q:Exit->Act->World->Prop),
  (∀(p:SV×Core) (v:Value) (H':Mem) (E':Env) (w':World),φ p->Den H' E' p.1 v->Post K H E w c H' E' w' p.2->next (a.put o.dst v) w')->o.wp P a w next Q
theorem Gt.op{c:Core}{a:Act}{o:Oper}{φ:SV×Core->Prop}(h:Gt P K H E w c a o φ):aes P K H E w c a o φ:=by
 obtain ⟨p,v,r,H',E',w',h1,h2,h3,h4,h5⟩:=h;intro next Q hn;unfold Oper.wp;rw[h5];rcases h4 with rfl|⟨rfl,rfl⟩
 ·exact hn p v H' E' w' h1 h2 h3
 ·exact hn p _ H' E' w' h1 h2 h3
def Gu(P:Program)(C:Ctx)(K:Kx)(call:Nat->List SV->Core->Tree (SV×Core)):Prop:=
 ∀(H:Mem) (E:Env) (w:World) (c:Core) (g:Nat) (args:List SV) (Es:List Value) (φ:SV×Core->Prop),zO H E args Es->zU K H E w c.hp->Du K H w->Free E c->BU C.gls H->
  (call g args c).All φ->Enters P g/\Jh P K H E w c g Es φ
theorem MP{a:Act}{tm:List SV}(hd:zO H E tm a.tmps.toList):∀xs:List Operand,zO H E (xs.map (AP tm)) (xs.map a.eval)
 |[]=>trivial |x::xs=>⟨Ap hd x,MP hd xs⟩
theorem alD{st n i:Nat}{g:Nat->List Sh}{xs:List Value}{l:List Sh}{news:List Value}(h1:Bq H st n g xs)(hl:CU H l news)(hlen:news.length=st)(hone:∀u∈news,u.oneCell'=aC)(hi:i<=n):Bq H st (n+1) (zG.ins g i l) (xs.take (i*st)++news++xs.drop (i*st)):=by
 obtain ⟨a1,a2,a3,a4⟩:=h1;have hle:i*st<=n*st:=dG _ hi;have htl:(xs.take (i*st)).length=i*st:=by simp_all
 refine ⟨?_,fun j hj=>?_,fun u hu=>?_,fun j k s v hj e1 e2=>?_⟩
 ·grind
 ·show (if j<i then g j else if j=i then l else g (j - 1)).length=st
  split
  ·grind
  ·split
   ·rw[<-hl.length,hlen]
   grind
 ·grind
 ·replace e1:(if j<i then g j else if j=i then l else g (j - 1))[k]?=ak s:=e1
  have hk:∀{r:List Sh},r[k]?=ak s->r.length=st->k<st:=fun hr hl'=>by grind
  split at e1
  ·rename_i hji
   have hks:=hk e1 (a2 j (by omega));have hlt:j*st+k<i*st:=by
    calc j*st+k<j*st+st:=by omega
     _=(j+1)*st:=by grind
     _<=i*st:=dG _ hji
   grind
  ·split at e1
   ·rename_i _ hji
    subst hji;have hks:=hk e1 (by rw[<-hl.length,hlen]);rw[iT,jO (by omega),htl,show j*st+k - j*st=k by omega,List.getElem?_append_left (by omega)] at e2;exact hl.at_ e1 e2
   ·rename_i hn1 hn2
    have hks:=hk e1 (a2 _ (by omega));have hge:i*st+st<=j*st+k:=by
     calc i*st+st=(i+1)*st:=by grind
      _<=j*st:=dG _ (by omega)
      _<=j*st+k:=Nat.le_add_right _ _
    have hjm:j*st=(j - 1)*st+st:=by
     obtain ⟨m,rfl⟩:∃m,j=m+1:=⟨j - 1,by omega⟩;grind
    grind
theorem arz{c:Core}{g e:Nat}{args:List SV}{Es:List Value}{φ:SV×Core->Prop}(hC:Az P C)(hF:AU P C)(hg:C.ins g=ak e)(hh:zU K H E w c.hp)(hw:Du K H w)(hf:Free E c)
  (hd:zO H E args Es) (h:(VJ C c e args).All φ):Enters P g/\Jh P K H E w c g Es φ:=by
 unfold VJ at h;split at h;rotate_left
 ·exact h.elim
 rename_i s i id';match Es,hd with
 |[v,iv,x],⟨hv,hiv,hx,_⟩=>
 split at h;rotate_left
 ·exact h.elim
 rename_i te hte;split at h;rotate_left
 ·exact h.elim
 rename_i n gr cells e2 st2 m hl1 hl2;cases hb:(MI c.hp e s&&e==e2&&st2==te.size&&m==1 && !NC s (.gs id')&&fF 0 te.size&&EG cells)<;>simp only[hb,cond_true,cond_false] at h
 ·exact h.elim
 simp only[aG,beq_iff_eq,Bool.not_eq_true'] at hb;obtain ⟨⟨⟨⟨⟨⟨hown,rfl⟩,rfl⟩,rfl⟩,hne⟩,h0⟩,hone⟩:=hb;have h0:=JD h0;split at h;rotate_left
 ·exact h.elim
 rename_i l z k hl hz hk;rw[hC.A] at hk h;obtain ⟨g1,g2,h⟩:=h;obtain ⟨z0,z1⟩:=JH g1;obtain ⟨r2,r1⟩:=EH g2;have hz':Gi i=ak z:=by
  unfold XA at hz;split at hz
  ·cases hz;rfl
  ·cases hz;rfl
  ·cases hz
 have eiv:iv=.int .i64 z:=by
  unfold XA at hz;split at hz
  ·cases hz;exact hiv
  ·cases hz;exact hiv
  ·cases hz
 have hkz:=F6 hz' hk;subst hkz;have ea:zG.addN n 1=n+1:=rfl;rw[ea] at r1 r2 h;obtain ⟨o1,o2,_,o4,_⟩:=XI (st:=te.size) hh hown hv;obtain ⟨xs,p2,p3⟩:=o4 _ _ hl1;obtain ⟨x1,news,q1,q2,q3,q4⟩:=hh.ent _ _ hl2;rw[hx.1] at q1;cases q1;have hdis:∀b,zT v=ak b->zT x≠ak b:=fun b h1 h2=>by
  rcases o1 with ⟨_,h3⟩ |⟨id,sb0,h3,h4,h5,h6⟩
  ·simp_all
  ·have:=hh.Fg id id' _ _ b h4 hl2 (h6.trans h1) (by simp[Ag,hx.1,h2])
   subst this;have hs:NC s (.gs id)=aC:=by
    unfold NC;rw[h3];show (id==id)=aC;simp
   simp_all
 obtain ⟨hent,hins⟩:=hF.is g e te hg hte;have hrl:=DK hh hl q3;have hnl:news.length=te.size:=by rw[q2.1,Nat.one_mul]
 have hno:=Ep hone q3;refine ⟨hent,?_⟩;unfold Jh;have hiz:((z.toNat:Nat):Int)=z:=by omega
 subst eiv;have hcall:=hins w v x n z.toNat xs news p2 q2 hdis p3.2.2.1 hno (by omega) r1 r2;rw[hiz] at hcall;refine lG hcall fun en w' ⟨v',he,hown',hgr,hv'⟩=>?_;have EP:∀b,zT v'=ak b->Mine K H b:=fun b hb=>by
  rcases hv' b hb with h|h
  ·exact o2 b h
  ·refine ⟨?_,.inl (by have:=hw.size;omega)⟩
   cases hH:H b with
   |none=>rfl |some o=>have:=(bK.1 (hw.on b o hH)).1;omega
 obtain ⟨c',hφ,hp⟩:=Jg (s:=s) (v:=v) (v':=v') hh hw hf h o1 o2 hgr hv' (fun _=>⟨v',_,dS _ _ _,hown',alD p3 hrl hnl hno (by omega),EP⟩);obtain ⟨A,n',cc,e3⟩:=I4 hown';exact ⟨_,v',H,_,he,hφ,⟨dS _ _ _,A,n',cc,e3⟩,hp⟩
 |[],h|[_],h|[_,_],h|_::_::_::_::_,h=>simp_all [zO]
theorem anx{c:Core}{g e:Nat}{args:List SV}{Es:List Value}{φ:SV×Core->Prop}(hC:Az P C)(hF:AU P C)(hg:C.grow g=ak e)(hh:zU K H E w c.hp)(hw:Du K H w)(hf:Free E c)
  (hd:zO H E args Es) (h:(SY C c e args).All φ):Enters P g/\Jh P K H E w c g Es φ:=by
 unfold SY at h;split at h;rotate_left
 ·exact h.elim
 rename_i i;match Es,hd with
 |[v,iv],⟨hv,hiv,_⟩=>
 split at h;rotate_left
 ·exact h.elim
 rename_i te z k hte hz hk;rw[hC.A] at hk h;obtain ⟨g1,g2,h⟩:=h;obtain ⟨r2,r1⟩:=EH g2;have z0:(0:Int)<=z:=of_decide_eq_true g1;have hz':Gi i=ak z:=by
  unfold XA at hz;split at hz
  ·cases hz;rfl
  ·cases hz;rfl
  ·cases hz
 have eiv:iv=.int .i64 z:=by
  unfold XA at hz;split at hz
  ·cases hz;exact hiv
  ·cases hz;exact hiv
  ·cases hz
 have hkz:=F6 hz' hk;subst hkz;obtain ⟨hent,hgo⟩:=hF.gr g e te hg hte;refine ⟨hent,?_⟩;unfold Jh;have hv:v=.slice aK 0 0:=hv;subst hv eiv;have hcall:=hgo w z.toNat r1 r2;rw[show ((z.toNat:Nat):Int)=z by omega] at hcall;refine lG hcall fun en w' ⟨v',he,hown',hgr,hv'⟩=>?_;have EP:∀b,zT v'=ak b->Mine K H b:=fun b hb=>by
  have h:=hv' b hb;refine ⟨?_,.inl (by have:=hw.size;omega)⟩;cases hH:H b with
  |none=>rfl |some o=>have:=(bK.1 (hw.on b o hH)).1;omega
 obtain ⟨c',hφ,hp⟩:=Jg (s:=.zY) (v:=.slice aK 0 0) (v':=v') hh hw hf h (.inl ⟨rfl,rfl⟩) (fun b hb=>by simp[zT] at hb) hgr (fun b hb=>.inr (hv' b hb)) (fun _=>⟨v',_,dS _ _ _,hown',JG _ _,EP⟩);obtain ⟨A,n',cc,e3⟩:=I4 hown';exact ⟨_,v',H,_,he,hφ,⟨dS _ _ _,A,n',cc,e3⟩,hp⟩
 |[],h|[_],h|_::_::_::_,h=>simp_all [zO]
theorem aiG{call:Nat->List SV->Core->Tree (SV×Core)}{c:Core}{a:Act}{o:Oper}{k:Call}{f:Operand}{φ:SV×Core->Prop}(hC:Az P C)(hF:AU P C)(hK:Gu P C K call)(st:St C K H E w c a)(ho:o.op=.call k)
  (hf:k.callee=.value f) (h:(match AP c.tm f with
   | .fn g cs=>match C.ins g with
    |some e=>VJ C c e (k.args.toList.map (AP c.tm)++cs) |none=>match C.grow g with
    |some e=>SY C c e (k.args.toList.map (AP c.tm)++cs) |none=>match C.spec g with
    |some F=>bif C.lend g then VI c F (k.args.toList.map (AP c.tm)++cs) else spread c F (k.args.toList.map (AP c.tm)++cs) |none=>call g (k.args.toList.map (AP c.tm)++cs) c
   |_=>.fail).All φ):aes P K H E w c a o φ:=by
 have df:=Ap (H:=H) (E:=E) st.den f;split at h
 ·rename_i g cs hg
  rw[hg] at df;obtain ⟨vs,ef,hvs⟩:=df;have hargs:=(MP st.den k.args.toList).append hvs;have key:Enters P g/\Jh P K H E w c g (k.args.toList.map a.eval++vs.toList) φ:=by
   split at h
   ·rename_i e he
    exact arz hC hF he st.hp st.Bg st.free hargs h
   split at h
   ·rename_i e he
    exact anx hC hF he st.hp st.Bg st.free hargs h
   split at h
   ·rename_i F hF2
    refine ⟨hF.en g (.inl (by rw[hF2];rfl)),?_⟩;cases hl:C.lend g<;>simp only[hl,cond_true,cond_false] at h
    ·exact aiE hF.sp hF2 st.hp st.Bg st.free st.gl hargs h
    ·exact anw hF.sp hF2 st.hp st.Bg st.gl hargs h
   ·exact hK H E w c g _ _ φ hargs st.hp st.Bg st.free st.gl h
  intro next Q hn;have hr:(execOp a.eval o).run P w=.ok (.enter g (k.args.map a.eval++vs)) w:=by
   simp_all [execOp,resolve,jd,invoke,GK]
  unfold Oper.wp;rw[hr];have he:(k.args.toList.map a.eval++vs.toList).toArray=k.args.map a.eval++vs:=by
   simp
  have:=key.2;unfold Jh at this;rw[he] at this;refine lG this fun e w' ⟨p,v,H',E',e1,e2,e3,e4⟩=>?_;grind
 ·exact h.elim
theorem alE{call:Nat->List SV->Core->Tree (SV×Core)}{c:Core}{a:Act}{o:Oper}{φ:SV×Core->Prop}(hC:Az P C)(hF:AU P C)(hK:Gu P C K call)(st:St C K H E w c a)
  (h:(PO C call c o).All φ):aes P K H E w c a o φ:=by
 by_cases hq:Ce o.op=aC
 ·exact ((V8 hC st.den st.hp st.gl hq h).toW st.hp st.Bg).op
 unfold PO at h;split at h;case h_4 e ho=>exact (anl hC st.hp st.Bg st.free ho h).op
 case h_5 e x ho=>exact (atC st.den st.hp st.Bg st.free ho h).op
 case h_7 t n parts ho=>exact (acz hC st.den st.hp st.Bg st.free ho h).op
 case h_9 t x v ho=>exact (anm hC st.den st.hp st.Bg ho h).op
 case h_20 t ho=>exact (aiv st.hp st.Bg st.free ho h).op
 case h_21 t l k ho=>
  refine (aen hC st.den st.hp st.Bg st.free ho (fun hs=>?_) h).op;grind
 case h_22 t x lo hi ho=>exact (anu hC st.den st.hp st.Bg ho h).op
 case h_24 t m k v ho=>exact (ac6 hC st.den st.hp st.Bg (.inr ho) h).op
 case h_25 t m k v ho=>exact (ac6 hC st.den st.hp st.Bg (.inl ho) h).op
 case h_26 t m k ho=>exact (af5 hC st.den st.hp st.Bg st.free ho h).op
 case h_27 t m s v ho=>exact (acA st.den st.hp st.Bg ho h).op
 case h_28 k ho=>
  unfold S9 at h;split at h
  ·rename_i b hb
   obtain ⟨callee,xs,ts⟩:=k;simp only at hb;subst hb;simp only at h;split at h
   ·simp_all [Ce]
   ·rename_i m k t r h1 h2
    have e1:xs=#[m,k]:=by grind
    subst e1;have e2:ts[0]?=ak t:=by rw[<-Array.getElem?_toList,h2];rfl
    exact (alC hC st.den st.hp st.Bg ho e2 h).op
   ·rename_i s x t u h1 h2
    have e1:xs=#[s,x]:=by grind
    have e2:ts=#[t,u]:=by grind
    subst e1 e2;cases hu:(t==u)<;>simp only[hu,cond_true,cond_false] at h
    ·exact (aiy hC st.den st.hp st.Bg st.free ho h).op
    obtain rfl:t=u:=by grind
    split at h
    ·rename_i r hr
     exact (aiz hC st.den st.hp st.Bg st.free ho hr h).op
    ·exact (alB hC st.den st.hp st.Bg st.free ho h).op
   ·simp_all [Ce]
   ·simp_all [Ce]
   ·exact h.elim
  ·grind [aiG]
  ·exact h.elim
 case h_29 t u x ho=>exact (arx hC st.den st.hp st.Bg st.free ho h).op
 case h_31=>exact h.elim
 all_goals
  simp_all [Ce]
theorem anz{call:Nat->List SV->Core->Tree (SV×Core)}{c:Core}{a:Act}{o:Oper}{φ:SV×Core->Prop}(hC:Az P C)(hF:AU P C)(hK:Gu P C K call)(st:St C K H E w c a)
  (h:(exec C call c o).All φ):aes P K H E w c a o φ:=by
 obtain ⟨ψ,h,hψ⟩:=UG h;intro next Q hn;refine alE hC hF hK st h next Q fun p v H' E' w' h1 h2 h3=>?_
 obtain ⟨x,q1,q2⟩:=hψ p h1;exact hn (x,p.2) v H' E' w' q1 (q2 _ _ _ h2) h3
theorem Ji{c:Core}{a:Act}(hd:zO H E c.tm a.tmps.toList)(dst:Option Nat){sv:SV}{v:Value}(hv:Den H E sv v):zO H E (QE c.tm dst sv) (a.put dst v).tmps.toList:=by
 cases dst with
 |none=>exact hd |some d=>
  simp only[QE,Act.put,Array.toList_setIfInBounds];exact hd.set d hv
theorem put_defers{a:Act}{dst:Option Nat}{v:Value}:(a.put dst v).defers=a.defers:=by cases dst<;>rfl
theorem St.step{c c':Core}{a:Act}(st:St C K H E w c a)(dst:Option Nat){sv:SV}{v:Value}(hv:Den H' E' sv v)(hp:Post K H E w c H' E' w' c'):St C K H' E' w' (c'.put dst sv) (a.put dst v):=by
 refine ⟨?_,hp.hp,hp.Bg,?_,st.gl.le hp.H7,by rw[put_defers];exact st.defers⟩
 ·have:=Ji (c:=c') (a:=a) (by rw[hp.tm];exact st.den.le hp.H7 hp.Ll) dst hv
  exact this
 ·exact hp.mv.free st.free
theorem St.put{c:Core}{a:Act}(st:St C K H E w c a)(dst:Option Nat){sv:SV}{v:Value}(hv:Den H E sv v):St C K H E w (c.put dst sv) (a.put dst v):=
 ⟨Ji st.den dst hv,st.hp,st.Bg,st.free,st.gl,by rw[put_defers];exact st.defers⟩
theorem St.know{c:Core}{a:Act}(st:St C K H E w c a){d:Nat}{b:Bool}(hd:c.tm.getD d .any=.test b):St C K H E w (c.put (ak d) (.bool b)) a:=by
 refine ⟨?_,st.hp,st.Bg,st.free,st.gl,st.defers⟩;have h1:c.tm[d]?=ak (.test b):=by
  grind
 obtain ⟨v,e1,e2⟩:=st.den.get h1;have e2:v=.bool b:=e2;subst e2;have h2:=st.den.set d (s:=.bool b) (v:=.bool b) rfl;have h3:a.tmps.toList.set d (.bool b)=a.tmps.toList:=by
  apply List.ext_getElem?;grind
 rw[h3] at h2;exact h2
theorem Tj{tm:List SV}{a:Act}(hd:zO H E tm a.tmps.toList){d:Nat}{sv:SV}(h:tm.getD d .any=sv)(hne:sv≠.any):∃v,a.tmps[d]?=ak v/\Den H E sv v:=by
 have h1:tm[d]?=ak sv:=by
  grind
 obtain ⟨v,e1,e2⟩:=hd.get h1;simp_all
theorem Gj{ops:Array Oper}{tm:List SV}{a:Act}(hd:zO H E tm a.tmps.toList)(o:Oper):
  match NG ops.toList tm o with
  | .yes=>jo o (yielded ops a.tmps)=aC | .no=>jo o (yielded ops a.tmps)=ay | .ask d c b=>tm.getD d .any=.test c/\jo o (yielded ops a.tmps)=(c==b) | .lost=>True:=by
 unfold NG jo;cases hg:o.guard with
 |none=>rfl |some jb=>
  obtain ⟨j,b⟩:=jb;simp only;have hop:opAt ops.toList j=ops[j]?:=by simp[opAt]
  rw[hop];cases hds:(ops[j]?).bind (·.dst) with
  |none=>trivial |some d=>
   simp only;have hy:∀c:Bool,a.tmps[d]?=ak (.bool c)->yielded ops a.tmps j=ak c:=fun c hc=>by
    grind [yielded]
   cases hx:tm.getD d .any with
   |bool c=>
    obtain ⟨v,e1,e2⟩:=Tj hd hx (by simp);have e2:v=.bool c:=e2;grind
   |test c=>
    obtain ⟨v,e1,e2⟩:=Tj hd hx (by simp);have e2:v=.bool c:=e2;simp_all
   |zQ l=>
    obtain ⟨v,e1,e2⟩:=Tj hd hx (by simp);obtain ⟨vs,rfl,_⟩:=e2;simp_all [yielded]
   |_=>trivial
theorem aeu{ops:List Oper}{i:Nat}:Den H E (skV ops i) undef:=by
 unfold skV;cases ops.any (fun o=>match o.guard with|some (j,_)=>Nat.beq j i|none=>ay)
 ·trivial
 ·exact ⟨#[],rfl,trivial⟩
def Wn(P:Program)(C:Ctx)(K:Kx)(H:Mem)(E:Env)(w:World)(c:Core)(a:Act)(ops:Array Oper)(i:Nat)(φ:Core->Prop):Prop:=
 ∀(next:Act->World->Prop) (Q:Exit->Act->World->Prop),
  (∀(c':Core) (a':Act) (H':Mem) (E':Env) (w':World),φ c'->St C K H' E' w' c' a'->Mv K H E w c H' E' w' c'->(∃v,a'=a.put ((ops[i]?).bind (·.dst)) v)->next a' w')->wpOp P ops Q i next a w
theorem Ih{c c':Core}{a:Act}(st:St C K H E w c a)(h1:c'.hp=c.hp)(h2:c'.nx=c.nx)(h3:c'.lim=c.lim)(h4:c'.tc=c.tc):Mv K H E w c H E w c':=
 (mV st.hp st.Bg).mv.to rfl rfl rfl rfl h1 h2 h3 h4
theorem af7{call:Nat->List SV->Core->Tree (SV×Core)}{c:Core}{a:Act}{ops:Array Oper}{i:Nat}{o:Oper}{φ:Core->Prop}(hC:Az P C)(hF:AU P C)(hK:Gu P C K call)(st:St C K H E w c a)
  (hi:ops[i]?=ak o) (hw:jo o (yielded ops a.tmps)=aC) (h:(afx C call c o).All φ):Wn P C K H E w c a ops i φ:=by
 intro next Q hn;unfold wpOp;simp only[hi,hw,if_true];refine .inl (anz hC hF hK st (Tree.ET h) next Q fun p v H' E' w' h1 h2 h3=>?_);exact hn _ _ H' E' w' h1 (st.step o.dst h2 h3) (h3.mv.to rfl rfl rfl rfl rfl rfl rfl rfl) ⟨v,by rw[hi];rfl⟩
theorem aaz{c:Core}{a:Act}{ops:Array Oper}{i:Nat}{o:Oper}{φ:Core->Prop}(st:St C K H E w c a)
  (hi:ops[i]?=ak o) (hw:jo o (yielded ops a.tmps)=ay) (h:φ (c.put o.dst (skV ops.toList i))):Wn P C K H E w c a ops i φ:=by
 intro next Q hn;unfold wpOp;simp only[hi,hw];exact hn _ _ H E w h (st.put o.dst aeu) (Ih st rfl rfl rfl rfl) ⟨undef,by rw[hi];rfl⟩
theorem UL{call:Nat->List SV->Core->Tree (SV×Core)}{c:Core}{a:Act}{ops:Array Oper}{i:Nat}{φ:Core->Prop}(hC:Az P C)(hF:AU P C)(hK:Gu P C K call)(st:St C K H E w c a)
  (h:(ZE C call ops.toList c i).All φ):Wn P C K H E w c a ops i φ:=by
 unfold ZE at h;have hop:opAt ops.toList i=ops[i]?:=by simp[opAt]
 rw[hop] at h;split at h
 ·rename_i hi
  intro next Q hn;unfold wpOp;simp only[hi];exact hn _ _ H E w h st (Ih st rfl rfl rfl rfl) ⟨undef,by rw[hi];rfl⟩
 ·rename_i o hi
  have hs:=Gj (ops:=ops) st.den o;split at h
  ·grind [af7]
  ·rename_i hw
   rw[hw] at hs;exact aaz st hi hs h
  ·rename_i d t b hw
   rw[hw] at hs;obtain ⟨h1,h2⟩:=hs;have key:∀v:Bool,t=v->(let c':=c.put (ak d) (.bool v);bif v==b then afx C call c' o else .leaf (c'.put o.dst (skV ops.toList i))).All φ->Wn P C K H E w c a ops i φ:=fun v hv hh=>by
    subst hv;have st':=st.know h1;have mvc:Mv K H E w c H E w (c.put (ak d) (.bool t)):=Ih st rfl rfl rfl rfl;intro next Q hn;cases hb:(t==b)<;>simp only[hb,cond_true,cond_false] at hh
    ·refine aaz (P:=P) st' hi (by rw[h2,hb]) hh next Q fun c' a' H' E' w' e1 e2 e3 e4=>hn c' a' H' E' w' e1 e2 (mvc.trans e3) e4
    ·refine af7 hC hF hK st' hi (by rw[h2,hb]) hh next Q fun c' a' H' E' w' e1 e2 e3 e4=>hn c' a' H' E' w' e1 e2 (mvc.trans e3) e4
   cases t with
   |true=>exact key aC rfl (by have:=h.1 rfl;simp_all) |false=>exact key ay rfl (by have:=h.2 rfl;simp_all)
  ·exact h.elim
end
end Go.Sx
