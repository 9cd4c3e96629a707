/- Own work. -/
import Derived.Test.YtldllpmodnbbiaaGreatDoorP02
import Derived.Lib.AppendStr
import Derived.Lib.ConvBytes
import Derived.Laws.BytesString
open Int (ofNat)
open Array renaming length_toList->dJ,size_append->mG,getElem?_eq_some_iff->bC
open Bool renaming and_eq_true->aB,true->ay,false->aA
open Go.Addr renaming add->lJ,add_lit->dL
open Go.Builtin renaming lenOf->nP,firstCells->iV,append_->dQ,zeroCells->iH,delete_->mJ
open Go.Calls renaming mono->lM
open Go.Deferred renaming ofValue->jL
open Go.Instr renaming buildSlice->tH,findNow->cu,sameNow->dW,sameBits->kW,mapUpdate->jc,findKey->fQ,keyThatStays->lK,mapEntry->nR
open Go.Program renaming elem->vX
open Go.Question renaming forced->rG
open Go.Region renaming wanted->jv
open Go.Sem renaming run_bind->gq,run->jT
open Go.Sx.Env renaming set_self->dG,ah4->lU,set->qc
open Go.Sx.Post renaming refl->mX
open Go.Value renaming int->iW,oneCell'->jr,cells->lF
open Go.World renaming ownsRow_lit->rW
open Int renaming toNat_natCast->dA
open List renaming getElem?_eq_some_iff->bf,mem_iff_getElem?->dw,mem_of_getElem?->bK,length_nil->oM,size_toArray->nG,append_assoc->iI,take_left->oh,eq_nil_of_length_eq_zero->nH,length_append->cO,range->aU,getElem?_append_right->iZ,mem_cons_of_mem->bV,mem_append->bQ,mem_cons_self->dn
open List.cons renaming injEq->dF
open Nat renaming mod_eq_of_lt->gJ,mod_lt->zK,ble->gy,blt->fC,le_of_ble_eq_true->fP,zero_le->fH,le_refl->bM,add_zero->lT,mul_le_mul_right->bW,le_trans->fE,zero_add->fU
open Option renaming some->aj,none->aF,map_eq_some_iff->bH,map_some->tJ
open Option.some renaming inj->bP
open Prod.mk renaming injEq->jo
open UInt8 renaming ofNat->rH
namespace Go.Sx
section
variable{P:Program}{C:Ctx}{K:Kx}{H H':Mem}{E E':Env}{w w':World}
theorem abt(z:List SV):∀n,(rep z n).length=n*z.length
 |0=>by simp[rep] |n+1=>by simp[rep,abt z n,Nat.add_mul,Nat.add_comm]
theorem aj0(z:List SV)(hz:0<z.length):∀(n j:Nat),j<n*z.length->(rep z n)[j]?=z[j % z.length]?
 |0,j,h=>by simp at h |n+1,j,h=>by
  rw[rep,List.getElem?_append];split
  ·simp_all [gJ]
  ·rename_i hj
   have hj:z.length<=j:=by omega
   rw[aj0 z hz n _ (by grind)];rw[Nat.mod_eq_sub_mod hj]
theorem agD(cs:Array Value)(n j:Nat)(h:j<n)(hc:0<cs.size):(madeCells cs n).toList[j]?=cs.toList[j % cs.size]?:=by
 simp_all [zK,madeCells]
theorem asW{z:List SV}{cs:Array Value}{n st:Nat}(hd:AP H E z cs.toList)(hs:cs.size=st)(h0:0<st):AP H E (rep z n) (madeCells cs (n*st)).toList:=by
 have hl:=hd.length;rw[dJ,hs] at hl;refine AP.QN (by rw[dJ,size_madeCells,abt,<-hl]) fun j s v h1 h2=>?_
 have hj:j<n*st:=by
  grind [bf,dJ,size_madeCells]
 rw[aj0 z (by omega) n j (by simp_all)] at h1;rw[agD cs _ _ hj (by omega),hs] at h2;rw[<-hl] at h1;exact hd.at_ h1 h2
theorem KH{t e:Nat}{i:LJ}(h:Qo P t i)(hi:i.ty=.slice e):P.underlying t=aj (.slice e):=by
 have:=h.desc;rw[hi] at this;exact this
theorem aj1:16777216<=maxLen:=by decide
theorem afW{c:Core}{a:Act}{o:Oper}{t n:Nat}{parts:Array (Nat×Operand)}{φ:SV×Core->Prop}(hC:BP P C)(hd:AP H E c.tm a.tmps.toList)(hh:Bc K H E w c.hp)(hw:EF K H w)(hf:Free E c)
  (ho:o.op=.buildSlice t n parts) (h:(NW C c t n parts.toList).All φ):II P K H E w c a o φ:=by
 unfold NW at h;split at h
 ·rename_i i hi
  split at h
  ·rename_i e hty
   have hu:=KH (hC.ty _ _ hi) hty;split at h
   ·rename_i j hj
    obtain ⟨inf,z,h1,h2,h3,h4,h5,h6,_⟩:=(hC.ty _ _ hj).info;cases hb:(gy (n*j.size) 16777216&&fC 0 j.size)<;>simp only[hb,ϰ,ϗ] at h
    ·exact h.elim
    simp only[aB] at hb;have hb1:=fP hb.1;have hb2:=MC hb.2;split at h
    ·rename_i l hl
     have h5':AP H E j.zero z.cells.toList:=h5.le (fun _ _ e=>by cases e) (fun _ _ e=>by cases e);have hz:=asW (n:=n) h5' h6 hb2;obtain ⟨cells',e1,e2⟩:=Z4 (place:=fun i=>aj (i*j.size,j.size)) (fun _ _ _ e=>e) hd parts.toList hz hl;have hlt:c.nx<c.lim:=by
      unfold alloc at h;cases hb:fC c.nx c.lim<;>simp only[hb,ϰ,ϗ] at h
      ·exact h.elim
      simp_all
     have hlen:cells'.size=n*j.size:=by
      have q1:=e2.length;have q2:=hz.length;have q3:l.length=(rep j.zero n).length:=by
       have:∀(parts:List (Nat×Operand)) (z l:List SV),SI (fun k=>aj (k*j.size,j.size)) (BU c.tm) z parts=aj l->l.length=z.length:=by
        intro parts;induction parts with
        |nil=>simp_all [SI] |cons p r ih=>
         intro z l h;obtain ⟨k,x⟩:=p;simp only[SI] at h;grind [QS]
       grind
      simp_all [dJ,size_madeCells]
     have hmax:n<=maxLen:=by
      have:n*1<=n*j.size:=Nat.mul_le_mul_left _ hb2;grind [aj1]
     have hmul:0<n->0<n*j.size:=fun h=>Nat.mul_pos h hb2
     obtain ⟨c',hφ,hp⟩:=Io (o:=.cells cells' e) (v:=.slice (aj ⟨w.heap.size,0,aF⟩) n n) hh hw hf h rfl
      ⟨_,cells'.toList,dG _ _ _,rW w cells' n (fH _) hmax hlen,e2.le (fun _ _ e=>e) (lU (hf _ (bM _) hlt)),fun b hb=>by
       grind [Ba,KG]⟩
     refine ⟨_,_,_,H,_,_,hφ,⟨dG _ _ _,_,_,_,rfl⟩,hp,.inl rfl,?_⟩;have hsz:(sizeOf e).run P w=.ok j.size w:=KE (hC.ty _ _ hj) w;have e1':Instr.fill (fun i=>aj (i*j.size,j.size)) (madeCells z.cells (n*j.size)) (parts.toList.map fun p=>(p.1,a.eval p.2))=aj cells':=e1;have Xw:(zeroValue e).run P w=.ok z w:=by simp[zeroValue,typeInfo,h1,h4]
     have hn2:¬(16777216<n*j.size):=by omega
     by_cases hn:n*j.size=0
     ·simp_all [madeCells,execOp,tH,run_underlying,newRow,Array.range_zero']
     ·simp[execOp,ho,tH,run_underlying hu,hsz,hn,hn2,Xw,newRow]
      simp_all [madeCells]
    ·exact h.elim
   ·exact h.elim
  ·exact h.elim
 ·exact h.elim
theorem Z7{c:Core}{b:SB}{v:SV}{φ:SV×Core->Prop}(h:(alloc c b v).All φ):c.nx<c.lim:=by
 unfold alloc at h;cases hb:fC c.nx c.lim<;>simp only[hb,ϰ,ϗ] at h
 ·exact h.elim
 simp_all
theorem Ip{x:SV}{n:Int}{m:Nat}(h1:Iw x=aj n)(h2:QK Ak x=aj m):m=n.toNat:=by
 cases x<;>simp[Iw,QK] at h1 h2
 all_goals (subst h1;subst h2;rfl)
theorem ah5{x:SV}{u:Value}(h:isZero x=ay)(hd:Den H E x u):∃k,u=.int k 0:=by
 cases x<;>simp[isZero] at h
 subst h;exact ⟨_,hd⟩
theorem Fg{n b:Nat}(h:Ak.room n b=ay):n*b<=140737488355328/\n<=maxLen:=by grind [Ak]
theorem aj2{a b:Int}(h:Ak.le a b=ay):a<=b:=by grind [Ak]
theorem agE{p q kn:Nat}(h:p=q)(hb:kn*q<=140737488355328):(p:Int)*(kn:Int)<=281474976710656:=by
 grind
theorem am7{K:Kx}{H:Mem}{E:Env}{w:World}{id e st:Nat}{x:SV}{v:Value}(he:E id=aj v)(hr:w.ownsRow 0 e st v 0 [])(hm:∀b,Ba v=aj b->Mine K H b):Ho K H E w id (asz x e st):=by
 have h1:Ho K H E w id (.row [] e st 0):=⟨_,[],he,hr,ϖ,hm⟩;have h2:Ho K H E w id (.own e st 0 fun _=>[]):=⟨_,[],he,hr,⟨by simp,fun _ h=>by omega,fun _ h=>by simp at h,fun _ _ _ _ h=>by omega⟩,hm⟩;cases x<;>first|exact h1|exact h2
theorem ah6{c:Core}{a:Act}{o:Oper}{t:Nat}{x y:Operand}{same:Bool}{φ:SV×Core->Prop}(hC:BP P C)(hd:AP H E c.tm a.tmps.toList)(hh:Bc K H E w c.hp)(hw:EF K H w)(hf:Free E c)
  (ho:o.op=.makeSlice t x y) (hsame:same=ay->a.eval x=a.eval y) (h:(O8 C c t (BU c.tm x) (BU c.tm y) same).All φ):II P K H E w c a o φ:=by
 have dx:=BM (H:=H) (E:=E) hd x;have dy:=BM (H:=H) (E:=E) hd y;unfold O8 at h;split at h
 ·rename_i i hi
  split at h
  ·rename_i e hty
   have hu:=KH (hC.ty _ _ hi) hty;split at h
   ·rename_i j hj
    obtain ⟨inf,z,h1,h2,h3,h4,h5,h6,_⟩:=(hC.ty _ _ hj).info;split at h
    ·rename_i ki kn hki hkn
     obtain ⟨k,ey⟩:=Il hki dy;have hA:=hC.A;rw[hA] at h hkn;have hkn:=Ip hki hkn;cases hz:isZero (BU c.tm x)<;>simp only[hz,ϰ,ϗ] at h
     ·cases hs:(same&&Gf j.zero&&fC 0 j.size)<;>simp only[hs,ϰ,ϗ] at h
      ·exact h.elim
      simp only[aB] at hs;have ex:=hsame hs.1.1;have hj0:=MC hs.2;split at h
      ·rename_i zs hzs
       obtain ⟨g1,g2,g3⟩:=h;have g1:=aj2 g1;obtain ⟨g2,g4⟩:=Fg g2;have hlt:=Z7 g3;have asX:ki=(kn:Int):=by omega
       subst asX;have hr:=run_make (P:=P) w t e inf z hu h1 h4 k k (kn:Int) (kn:Int) (by omega) (Int.le_refl _) (agE h3 g2) (by grind [maxLen]);simp only[dA,h2] at hr;have h5':AP H E j.zero z.cells.toList:=h5.le (fun _ _ e=>by cases e) (fun _ _ e=>by cases e);have Xw:EN H zs z.cells.toList:=EL (K:=K) (w:=w) (hp:=[]) ⟨fun _ _ e=>by simp[Aq] at e,fun _ _ _ _ _ e=>by simp[Aq] at e⟩ hzs h5';have hone:=FP hs.1.2 h5';have hzl:=Xw.length;rw[dJ,h6] at hzl;have hget:∀(m:Nat) (u:Value),(madeCells z.cells (kn*j.size)).toList[m]?=aj u->z.cells.toList[m % j.size]?=aj u:=fun m u hm=>by
        grind [bf,dJ,size_madeCells,agD]
       have hrows:CQ H j.size kn (fun _=>zs) (madeCells z.cells (kn*j.size)).toList:=by
        refine ⟨by grind [size_madeCells],fun _ _=>hzl.symm,fun u hu'=>?_,fun i m s v hi e1 e2=>?_⟩
        ·grind [dw,bK]
        ·have e2:=hget _ _ e2
         have hm:m<j.size:=by grind
         rw[Nat.mul_comm,Nat.mul_add_mod,gJ hm] at e2;exact Xw.at_ e1 e2
       obtain ⟨c',hφ,hp⟩:=Io (o:=.cells (madeCells z.cells (kn*j.size)) e) (v:=.slice (aj ⟨w.heap.size,0,aF⟩) kn kn) hh hw hf g3 rfl
        ⟨_,_,dG _ _ _,rW w _ kn (fH _) g4 (size_madeCells _ _),hrows,fun b hb=>by
         grind [Ba,KG]⟩
       refine ⟨_,_,_,H,_,_,hφ,⟨dG _ _ _,_,_,_,rfl⟩,hp,.inl rfl,?_⟩;simp[execOp,ho,ex,ey,hr]
      ·exact h.elim
     ·obtain ⟨g1,g2,g3⟩:=h
      have g1:=aj2 g1;obtain ⟨g2,g4⟩:=Fg g2;have hlt:=Z7 g3;obtain ⟨l,ex⟩:=ah5 hz dx;have asX:ki=(kn:Int):=by omega
      subst asX;have hr:=run_make (P:=P) w t e inf z hu h1 h4 l k 0 (kn:Int) (by omega) (by omega) (agE h3 g2) (by grind [maxLen]);simp only[dA,Int.toNat_zero,h2] at hr;obtain ⟨c',hφ,hp⟩:=Io (o:=.cells (madeCells z.cells (kn*j.size)) e) (v:=.slice (aj ⟨w.heap.size,0,aF⟩) 0 kn) hh hw hf g3 rfl
       (am7 (dG _ _ _) (World.ownsRow_made w _ kn (fH _) g4 (size_madeCells _ _)) fun b hb=>by
        grind [Ba,KG])
      refine ⟨_,_,_,H,_,_,hφ,⟨dG _ _ _,_,_,_,rfl⟩,hp,.inl rfl,?_⟩;simp[execOp,ho,ex,ey,hr]
    ·exact h.elim
   ·exact h.elim
  ·exact h.elim
 ·exact h.elim
end
open Go.Lib
section
variable{P:Program}{w:World}
theorem EG(l:List UInt8):(bytesV l).length=l.length:=by simp[bytesV]
theorem abu(l m:List UInt8):bytesV (l++m)=bytesV l++bytesV m:=by simp[bytesV]
theorem aj3(l:List UInt8):∀u∈bytesV l,u.oneCell'=ay:=fun u hu=>by
 simp only[bytesV,List.mem_map] at hu;obtain ⟨b,_,rfl⟩:=hu;rfl
theorem LW(P:Program)(g o:Nat)(t:TypeId)(fz:Nat×Nat):∀(vs:List Value) (i:Nat) (cur:Array Value) (w:World),w.heap[g]?=aj (.cells cur t fz)->(∀j,o+i<=j->j<cur.size->¬(fz.1<=j/\j<fz.2))->o+i+vs.length<=cur.size->(∀v∈vs,v.oneCell'=ay)->
  (storeCells ⟨g,o,aF⟩ vs i).run P w=.ok () (w.setRow g (cur.toList.take (o+i)++vs++cur.toList.drop (o+i+vs.length)).toArray)
 |[],i,cur,w,hg,_,_,_=>by
  simp only[storeCells,List.append_nil,oM,lT,List.take_append_drop,Array.toArray_toList];rw[setRow_self w g cur t fz hg];rfl
 |v::rest,i,cur,w,hg,hfz,hl,h1=>by
  have hi:o+i<cur.size:=by grind
  have hadd:(⟨g,o,aF⟩:Addr).add i=⟨g,o+i,aF⟩:=by simp_all [lJ]
  have hcell:w.cell? ⟨g,o+i,aF⟩=aj cur[o+i]:=by simp[World.cell?,hg,hi]
  have hfro:w.frozen? ⟨g,o+i,aF⟩=aA:=by
   simp_all [World.frozen?,decide_eq_false_iff_not]
  have hst:(store ((⟨g,o,aF⟩:Addr).add i) v).run P w=.ok () (w.setRow g (cur.setIfInBounds (o+i) v)):=by
   grind [run_store,setCell_eq_setRow]
  have ih:=LW P g o t fz rest (i+1) (cur.setIfInBounds (o+i) v) (w.setRow g (cur.setIfInBounds (o+i) v)) (setRow_heap w g cur _ t _ hg) (fun j h1 h2=>hfz j (by omega) (by grind)) (by grind) (fun x hx=>h1 x (by simp[hx]));simp only[storeCells,gq,hst,Result.andThen_ok,ih,setRow_setRow];grind [list_seg_step]
structure ao4(P:Program)(w:World)(u:TypeId)(x:Value)(m:List UInt8):Prop where
 ty:P.underlying u=aj .string\/∃d,P.underlying u=aj (.slice d)
 len:∀w':World,(nP x).run P w'=.ok m.length w'
 cells:∀w':World,w'.heap=w.heap->(iV 1 m.length x).run P w'=.ok (bytesV m).toArray w'
theorem aj6(t u ty e:TypeId)(i:TypeInfo)(ht:P.underlying t=aj (.slice e))(hi:P.info? e=aj i)(hz:i.zero=aj (.int .u8 0))(hsize:i.size=1)(hby:i.bytes=1)
  (v:Value) (l:List UInt8) (hown:Hu w e v l) (x:Value) (m:List UInt8) (hx:ao4 P w u x m) (h63:l.length+m.length<=maxLen) (hbytes:(l.length+m.length)*1<=140737488355328) :
  ∃v' w',(dQ #[t,u] ty #[v,x]).run P w=.ok v' w'/\Hu w' e v' (l++m)/\w.grownBy w' (Ba v)/\∀b,Ba v'=aj b->Ba v=aj b\/w.heap.size<=b:=by
 have hsmall:l.length+m.length<=9223372036854775807:=by omega
 have hll:(l++m).length=l.length+m.length:=by simp
 have hz1:(iW .u8 0).cells.size=1:=rfl;have grown:∀(cap:Nat) (row:Option Nat),Hu (w.drew.alloc (.cells ((bytesV l).toArray++(bytesV m).toArray++iH (iW .u8 0).cells (grownCap w (l.length+m.length) cap e - (l.length+m.length))) e)) e
   (.slice (aj ⟨w.heap.size,0,aF⟩) (l.length+m.length) (grownCap w (l.length+m.length) cap e)) (l++m)/\
   w.grownBy (w.drew.alloc (.cells ((bytesV l).toArray++(bytesV m).toArray++iH (iW .u8 0).cells (grownCap w (l.length+m.length) cap e - (l.length+m.length))) e)) row:=fun cap row=>by
  have hge:=grownCap_ge w (l.length+m.length) cap e;have hcm:grownCap w (l.length+m.length) cap e<=maxLen:=grownCap_le_maxLen w (l.length+m.length) cap e h63;refine ⟨.inr ⟨w.heap.size,_,_,(0,0),by rw[hll],heap_alloc_new w.drew _,.inl (fH _),by omega,hcm,?_,?_⟩,⟨rfl,rfl,rfl,by simp,fun k hk _=>by first|exact Go.heap_alloc_old w.drew _ k hk|exact heap_alloc_old w.drew _ hk⟩⟩
  ·simp_all [mG,nG,size_zeroCells,EG]
  grind [Array.toList_append,iI,abu,EG,oh]
 have grow:∀(base:Option Addr) (cap:Nat),v=.slice base l.length cap->cap<l.length+m.length->(iV 1 l.length v).run P w.drew=.ok (bytesV l).toArray w.drew->
   (dQ #[t,u] ty #[v,x]).run P w=.ok (.slice (aj ⟨w.heap.size,0,aF⟩) (l.length+m.length) (grownCap w (l.length+m.length) cap e))
    (w.drew.alloc (.cells ((bytesV l).toArray++(bytesV m).toArray++iH (iW .u8 0).cells (grownCap w (l.length+m.length) cap e - (l.length+m.length))) e)):=fun base cap hv hg hfo=>by
  subst hv;have hn:¬(l.length+m.length<=cap):=by omega
  have h63':¬(9223372036854775807<((l.length:Int)+(m.length:Int))):=by omega
  have h48':¬(281474976710656<Builtin.nextslicecap (l.length+m.length) cap):=by
   have:=growslice_fits (old:=cap) (need:=l.length+m.length) (by omega) hbytes;omega
  have hf:=hx.cells w.drew rfl;have hl:=hx.len w;rcases hx.ty with hu|⟨d,hu⟩
  ·simp[dQ,run_underlying ht,run_underlying hu,sizeOf,typeInfo,zeroValue,hi,hz,hsize,hl,hn,h48',hby,rG,hf,hfo,newRow,grownCap]
   grind
  ·simp[dQ,run_underlying ht,run_underlying hu,sizeOf,typeInfo,zeroValue,hi,hz,hsize,hl,hn,h48',hby,rG,hf,hfo,newRow,grownCap]
   grind
 rcases hown with ⟨rfl,rfl⟩ |⟨g,cap,cur,fz,rfl,hg,hfz,hnc,hcm,hcs,htake⟩
 ·by_cases hm:m.length=0
  ·have hm0:m=[]:=nH hm
   subst hm0;have hl:=hx.len w;have hf:=hx.cells w rfl;refine ⟨.slice aF 0 0,w,?_,.inl ⟨rfl,rfl⟩,⟨rfl,rfl,rfl,bM _,fun _ _ _=>rfl⟩,fun b hb=>.inl hb⟩;simp only[oM] at hl hf;rcases hx.ty with hu|⟨d,hu⟩
   ·simp[dQ,run_underlying ht,run_underlying hu,sizeOf,typeInfo,hi,hsize,hl,hf]
   ·simp[dQ,run_underlying ht,run_underlying hu,sizeOf,typeInfo,hi,hsize,hl,hf]
  ·have hr:=grow aF 0 rfl (by simp;omega) (by rfl)
   have hgr:=grown 0 (Ba (.slice aF 0 0));grind [Ba]
 ·by_cases hroom:l.length+m.length<=cap
  ·have hl:=hx.len w
   have hf:=hx.cells w rfl;have hst:=LW P g l.length e fz (bytesV m) 0 cur w hg (fun j h1 h2=>by omega) (by rw[EG];omega) (aj3 m);simp only[lT,EG] at hst;have hr:(dQ #[t,u] ty #[.slice (aj ⟨g,0,aF⟩) l.length cap,x]).run P w=.ok (.slice (aj ⟨g,0,aF⟩) (l.length+m.length) cap) (w.setRow g (cur.toList.take l.length++bytesV m++cur.toList.drop (l.length+m.length)).toArray):=by
    rcases hx.ty with hu|⟨d,hu⟩
    ·simp[dQ,run_underlying ht,run_underlying hu,sizeOf,typeInfo,hi,hsize,hl,hroom,hf,dL,hst]
    ·simp[dQ,run_underlying ht,run_underlying hu,sizeOf,typeInfo,hi,hsize,hl,hroom,hf,dL,hst]
   refine ⟨_,_,hr,.inr ⟨g,cap,_,fz,by rw[hll],setRow_heap w g cur _ e _ hg,by omega,by omega,hcm,?_,?_⟩,⟨rfl,rfl,rfl,by simp,fun k _ hk=>setRow_other w g k _ (fun e=>hk (by simp[Ba,e]))⟩,fun b hb=>.inl hb⟩
   ·grind [nG,cO,List.length_take,List.length_drop,dJ,EG]
   grind [abu,EG,oh]
  ·have hfo:(iV 1 l.length (.slice (aj ⟨g,0,aF⟩) l.length cap)).run P w.drew=.ok (bytesV l).toArray w.drew:=by
    refine run_firstCells_some (P:=P) w.drew 1 l.length ⟨g,0,aF⟩ l.length cap (bytesV l) (by grind) fun j u hj=>?_
    have hadd:(⟨g,0,aF⟩:Addr).add j=⟨g,j,aF⟩:=by simp_all [lJ]
    show w.cell? _=_;grind [cell_of_row]
   have hr:=grow (aj ⟨g,0,aF⟩) cap rfl (by omega) hfo;have hgr:=grown cap (Ba (.slice (aj ⟨g,0,aF⟩) l.length cap));grind [Ba]
theorem aqJ{u:TypeId}(hu:P.underlying u=aj .string)(m:List UInt8):ao4 P w u (.string ⟨m.toArray⟩) m:=by
 refine ⟨.inl hu,fun w'=>?_,fun w' _=>?_⟩
 ·rfl
 ·have:=run_firstCells_string (P:=P) w' 1 ⟨m.toArray⟩
  assumption
theorem aqK{u e' e:TypeId}(hu:P.underlying u=aj (.slice e')){x:Value}{m:List UInt8}(hx:Hu w e x m):ao4 P w u x m:=by
 refine ⟨.inr ⟨e',hu⟩,fun w'=>?_,fun w' hw=>?_⟩
 ·rcases hx with ⟨rfl,rfl⟩ |⟨g,cap,cur,fz,rfl,_⟩<;>simp[nP]
 ·rcases hx with ⟨rfl,rfl⟩ |⟨g,cap,cur,fz,rfl,hg,hfz,hnc,hcm,hcs,htake⟩
  ·rfl
  grind [run_firstCells_some,bytesV,EG,lJ,cell_of_row]
theorem ah7{e n:Nat}{v:Value}{xs:List Value}{l:List UInt8}(h:w.ownsRow 0 e 1 v n xs)(hx:xs=bytesV l):Hu w e v l:=by
 have hn:n=l.length:=by have:=h.1;simp_all [EG]
 subst hn;rcases h.2 with ⟨rfl,h0⟩ |⟨g,cap,cur,rfl,_,hg,hnc,hcm,hcs,htake⟩
 ·exact .inl ⟨rfl,nH h0⟩
 ·exact .inr ⟨g,cap,cur,(0,0),rfl,hg,.inl (fH _),hnc,hcm,by omega,by simp_all⟩
theorem aqL{src dst e:TypeId}(hs:P.underlying src=aj (.slice e))(he:P.underlying e=aj (.int .u8))(hd:P.underlying dst=aj .string){v:Value}{l:List UInt8}(h:Hu w e v l):
  ∀w':World,(∀b,Ba v=aj b->w'.heap[b]?=w.heap[b]?)->(convert src dst v).run P w'=.ok (.string ⟨l.toArray⟩) w':=fun w' hk=>by
 rcases h with ⟨rfl,rfl⟩ |⟨g,cap,cur,fz,rfl,hg,hfz,hnc,hcm,hcs,htake⟩
 ·rw[run_convert_bytes_string w' src dst e aF 0 0 hs he hd]
  rfl
 ·rw[run_convert_bytes_string w' src dst e _ _ _ hs he hd]
  have hg':w'.heap[g]?=aj (.cells cur e fz):=by rw[hk g rfl];exact hg
  have hl:(loadCells ⟨g,0,aF⟩ l.length).run P w'=.ok ((l.map fun b=>(b.toNat:Int)).map (iW .u8)).toArray w':=by
   have:=run_loadCells_list (P:=P) (w:=w') ⟨g,0,aF⟩ (bytesV l) fun j u hj=>by
    grind [lJ,cell_of_row]
   simp_all [bytesV,Function.comp_def]
  rw[run_bytesToString w' _ _ _ _ hl];have key:∀(l:List UInt8) (s:ByteArray),(l.map fun b=>(b.toNat:Int)).foldl (fun r n=>r.push (rH n.toNat)) s=⟨s.data++l.toArray⟩:=by
   intro l;induction l with
   |nil=>intro s;simp |cons a l ih=>
    simp_all
  simp_all
theorem aj7{src dst e:TypeId}(hs:P.underlying src=aj .string)(hd:P.underlying dst=aj (.slice e))(he:P.underlying e=aj (.int .u8))(l:List UInt8)(hmax:l.length<=maxLen):
  ∃v' w',(convert src dst (.string ⟨l.toArray⟩)).run P w=.ok v' w'/\Hu w' e v' l/\w.grownBy w' aF/\∀b,Ba v'=aj b->w.heap.size<=b:=by
 have hr:=Lib.run_convert_string_bytes (P:=P) w src dst e ⟨l.toArray⟩ hs hd he;have es:(⟨l.toArray⟩:ByteArray).size=l.length:=by rfl
 have hge:=grownCap_ge w l.length 0 e;have hcm:grownCap w l.length 0 e<=maxLen:=grownCap_le_maxLen w l.length 0 e hmax;have hcz:(bytesCells w e ⟨l.toArray⟩).size=grownCap w l.length 0 e:=by
  simp_all [bytesCells,mG,Array.size_replicate]
 refine ⟨_,_,hr,.inr ⟨w.heap.size,_,_,_,by rw[es],bytesWorld_at_new w e _,.inr (by omega),hge,hcm,hcz,?_⟩,⟨rfl,rfl,rfl,by rw[bytesWorld_size];omega,fun k hk _=>bytesWorld_at_old w e _ k hk⟩,fun b hb=>by simp_all [Ba]⟩;simp_all [bytesCells,bytesV,grownCap]
end
section
variable{P:Program}{C:Ctx}{K:Kx}{H H':Mem}{E E':Env}{w w':World}
def Src(w:World)(u:Value)(m:Nat)(xs:List Value):Prop:=
 (m=0/\∃A c,u=.slice A 0 c)\/(∃a c,u=.slice (aj a) m c/\∀j v,xs[j]?=aj v->w.cell? (a.add j)=aj v)
theorem YA{e st m:Nat}{u:Value}{xs:List Value}(h:w.ownsRow 0 e st u m xs):Src w u m xs:=by
 rcases h.2 with ⟨rfl,rfl⟩ |⟨g,cap,cur,rfl,_⟩
 ·exact .inl ⟨rfl,_,_,rfl⟩
 ·exact .inr ⟨_,_,rfl,h.cells (g:=g) rfl⟩
theorem aj8{st n:Nat}{g:ϝ}{u:Value}(h0:0<st)(h:Rep H (.sl st n g) u)(hon:H.on w):∃xs,CQ H st n g xs/\Src w u n xs:=by
 cases h with
 |sl0 _ _ A cap hc=>exact ⟨[],⟨by simp,fun _ h=>by omega,fun _ h=>by simp at h,fun _ _ _ _ h=>by omega⟩,.inl ⟨rfl,_,_,rfl⟩⟩ |sl _ _ _ b off cap c h1 h2 h3 h4 h5 h6=>
  have hk:∀k,k<n*st->k / st<n/\k % st<st/\k / st*st+k % st=k:=fun k hk=>⟨(Nat.div_lt_iff_lt_mul h0).2 hk,zK _ h0,by grind [Nat.div_add_mod]⟩;have hget:∀(k:Nat) (v:Value),((aU (n*st)).map fun k=>c (k / st) (k % st))[k]?=aj v->k<n*st/\v=c (k / st) (k % st):=fun k v e=>by
   grind
  refine ⟨(aU (n*st)).map fun k=>c (k / st) (k % st),⟨by simp,h3,fun u hu=>?_,fun i j s v hi e1 e2=>?_⟩,.inr ⟨_,_,rfl,fun j v e=>?_⟩⟩
  ·grind
  ·grind
  ·obtain ⟨a1,rfl⟩:=hget _ _ e
   obtain ⟨b1,b2,b3⟩:=hk j a1;grind [OO,Nat.add_assoc,dL]
theorem MI(st:Nat)(g:ϝ):CQ H st 0 g []:=⟨by simp,fun _ h=>by omega,fun _ h=>by simp at h,fun _ _ _ _ h=>by omega⟩
theorem GY{st m n:Nat}{g:ϝ}{xs:List Value}(h:CQ H st m g xs)(hn:n<=m):CQ H st n g (xs.take (n*st)):=by
 obtain ⟨h1,h2,h3,h4⟩:=h;have hle:n*st<=m*st:=bW _ hn;refine ⟨by simp_all,fun i hi=>h2 i (by omega),fun u hu=>h3 u (List.mem_of_mem_take hu),fun i j s v hi e1 e2=>?_⟩;grind
theorem aqM{e st m n:Nat}{A:Option Addr}{k c:Nat}{xs:List Value}(h:w.ownsRow 0 e st (.slice A k c) m xs)(hn:n<=k):Src w (.slice A n c) n (xs.take (n*st)):=by
 rcases YA h with ⟨rfl,A',c',e⟩ |⟨a,c',e,hc⟩
 ·cases e
  have:n=0:=by omega
  subst this;exact .inl ⟨rfl,_,_,rfl⟩
 ·cases e
  refine .inr ⟨_,_,rfl,fun j v hj=>hc j v ?_⟩;grind
theorem asY{hp:List (Nat×SB)}{st m:Nat}{h:ϝ}{x:SV}{u:Value}(h0:0<st)(hh:Bc K H E w hp)(hon:H.on w)(he:O9 hp st x=aj (m,h))(hd:Den H E x u):
  ∃xs,CQ H st m h xs/\Src w u m xs:=by
 unfold O9 at he;split at he
 ·cases he
  simp only[Den] at hd;subst hd;exact ⟨[],MI _ _,.inl ⟨rfl,_,_,rfl⟩⟩
 ·rename_i id
  split at he
  ·rename_i cells el st' n hl
   cases hb:(st==st'&&Gf cells)<;>simp only[hb,ϰ,ϗ] at he
   ·cases he
   simp only[aB,ϡ] at hb;obtain ⟨rfl,hone⟩:=hb;simp only[bH] at he;obtain ⟨l,h1,h2⟩:=he;simp only[jo] at h2;obtain ⟨rfl,rfl⟩:=h2;obtain ⟨v,xs,e1,e2,e3,_⟩:=hh.ent _ _ hl;rw[hd.1] at e1;cases e1;exact ⟨xs,KW e2.1 (EL hh h1 e3) (FP hone e3),YA e2⟩
  ·rename_i el st' n g hl
   cases hb:(st==st')<;>simp only[hb,ϰ,ϗ] at he
   ·cases he
   obtain rfl:st=st':=by grind
   cases he;obtain ⟨v,xs,e1,e2,e3,_⟩:=hh.ent _ _ hl;rw[hd.1] at e1;grind [YA]
  ·rename_i st' n g hl
   cases hb:(st==st')<;>simp only[hb,ϰ,ϗ] at he
   ·cases he
   obtain rfl:st=st':=by grind
   cases he;obtain ⟨v,e1,e2⟩:=hh.ent _ _ hl;rw[hd.1] at e1;simp_all [aj8]
  ·cases he
 ·rename_i st' n g
  cases hb:(st==st')<;>simp only[hb,ϰ,ϗ] at he
  ·cases hb2:(st'==0&&n==0)<;>simp only[hb2,ϰ,ϗ] at he
   ·cases he
   simp only[aB,ϡ] at hb2;obtain ⟨rfl,rfl⟩:=hb2;cases he;cases hd with
   |sl0 _ _ A cap hc=>exact ⟨[],MI _ _,.inl ⟨rfl,_,_,rfl⟩⟩ |sl _ _ _ b off cap c h1 h2 h3 h4 h5 h6=>exact ⟨[],MI _ _,.inl ⟨rfl,_,_,rfl⟩⟩
  ·obtain rfl:st=st':=by grind
   cases he;exact aj8 h0 hd hon
 ·rename_i id n
  split at he
  ·rename_i el st' m' g hl
   cases hb:(st==st')<;>simp only[hb,ϰ,ϗ] at he
   ·cases he
   obtain rfl:st=st':=by grind
   cases he;obtain ⟨v,xs,e1,e2,e3,_⟩:=hh.ent _ _ hl;obtain ⟨A,k,c,a1,a2,rfl⟩:=hd;rw[a1] at e1;cases e1;have hk:k=m':=by
    have:=OQ e2;assumption
   exact ⟨_,GY e3 (by omega),aqM e2 a2⟩
  ·cases he
 ·cases he
theorem ade{st n m:Nat}{g h:ϝ}{xs ys:List Value}(h1:CQ H st n g xs)(h2:CQ H st m h ys):CQ H st (n+m) (Ak.snoc g n h) (xs++ys):=by
 obtain ⟨a1,a2,a3,a4⟩:=h1;obtain ⟨b1,b2,b3,b4⟩:=h2;have hs:∀i,Ak.snoc g n h i=if i<n then g i else h (i - n):=fun _=>rfl
 refine ⟨by grind,fun i hi=>?_,fun u hu=>?_,fun i j s v hi e1 e2=>?_⟩
 ·grind
 ·grind
 ·rw[hs] at e1
  split at e1
  ·rename_i hin
   have hj:j<st:=by grind
   have:i*st+j<xs.length:=by
    rw[a1];calc i*st+j<i*st+st:=by omega
     _=(i+1)*st:=by grind
     _<=n*st:=bW _ hin
   grind
  ·rename_i hin
   have hge:n*st<=i*st:=bW _ (by omega);grind [iZ,Nat.sub_mul]
theorem KX{c:Core}{s:SV}{v v':Value}{sb:SB}{φ:SV×Core->Prop}(hh:Bc K H E w c.hp)(hw:EF K H w)(hf:Free E c)
  (h:(alloc (Dq c s) sb (.gs c.nx)).All φ) (hs:(SN s=aF/\Ba v=aF)\/∃id sb0,SN s=aj id/\Aq c.hp id=aj sb0/\E id=aj v/\Bv E id sb0=Ba v)
  (hm:∀b,Ba v=aj b->Mine K H b) (hg:w.grownBy w' (Ba v)) (hv':∀b,Ba v'=aj b->Ba v=aj b\/w.heap.size<=b)
  (he:c.nx<c.lim->Ho K H (E.set c.nx v') w' c.nx sb):∃c',φ (.gs c.nx,c')/\Post K H E w c H (E.set c.nx v') w' c':=by
 have hnx:(Dq c s).nx=c.nx:=by grind [Dq]
 have hlim:(Dq c s).lim=c.lim:=by grind [Dq]
 have htm:(Dq c s).tm=c.tm:=by grind [Dq]
 have htc:∀id∈c.tc,id∈(Dq c s).tc:=by
  grind [Dq,bV]
 have hlt:=Z7 h;rw[hnx,hlim] at hlt;have he:=he hlt;have hnone:=hf c.nx (bM _) hlt;have hle:E.le (E.set c.nx v'):=lU hnone;have hb:fC (Dq c s).nx (Dq c s).lim=ay:=by
  simp_all
 unfold alloc at h;rw[hb] at h;simp only[ϰ] at h;have hvb:∀b,Ba v=aj b->b<w.heap.size/\∃id sb0,SN s=aj id/\Aq c.hp id=aj sb0/\E id=aj v/\Bv E id sb0=aj b/\id∈(Dq c s).tc:=fun b hb=>by
  rcases hs with ⟨_,h2⟩ |⟨id,sb0,h1,h2,h3,h4⟩
  ·simp_all
  ·exact ⟨((hh.ent _ _ h2).lt (h4.trans hb)).1,id,sb0,h1,h2,h3,h4.trans hb,by simp[Dq,h1]⟩
 have hold:∀id2 Yx,Aq (Dq c s).hp id2=aj Yx->Aq c.hp id2=aj Yx/\∀b,Bv E id2 Yx=aj b->Ba v≠aj b:=by
  intro id2 Yx hl;have key:Aq c.hp id2=aj Yx/\SN s≠aj id2:=by
   unfold Dq at hl;grind [Xz]
  refine ⟨key.1,fun b ho e=>?_⟩;obtain ⟨_,id,sb0,h1,h2,h3,h4,_⟩:=hvb b e;have:=hh.GH _ _ _ _ _ h2 key.1 h4 ho;simp_all
 have hkeep:∀b,b<w.heap.size->Ba v≠aj b->w'.heap[b]?=w.heap[b]?:=fun b hb hn=>hg.block b hb fun e=>hn e.symm
 refine ⟨_,h,fun _ _ e=>e,hle,?_,by simp[hnx],.inl (by grind),hlim,htm,?_,?_,htc,hg.size,?_,?_,?_,?_,?_⟩
 ·simp_all [qc]
 ·have hent:∀id sb',Aq (Dq c s).hp id=aj sb'->Ho K H (E.set c.nx v') w' id sb'/\Ho K H E w id sb'/\∀b,Bv E id sb'=aj b->Ba v≠aj b:=fun id sb' hl=>by
   obtain ⟨h1,h2⟩:=hold id sb' hl;have:=hh.ent _ _ h1;exact ⟨this.kept (fun _ _ e=>e) hle (fun b hb=>hkeep b (this.lt hb).1 (h2 b hb)) (fun b hb=>(this.lt hb).2.1),this,h2⟩
  have hnew:∀b,Bv (E.set c.nx v') c.nx sb=aj b->Ba v'=aj b:=fun b hb=>by
   have:=GK hb;simp_all [bk,qc]
  refine ⟨fun id sb' hl=>?_,fun id id' sb1 Yx b h1 h2 o1 o2=>?_⟩
  ·grind [Fb]
  ·simp only[Fb,hnx] at h1 h2
   have cross:∀{i:Nat} {s1:SB},Aq (Dq c s).hp i=aj s1->Bv (E.set c.nx v') i s1=aj b->Ba v'=aj b->False:=fun {i s1} h1 o1 aCk=>by
    obtain ⟨_,a2,a3⟩:=hent _ _ h1;rw[Hr a2 hle] at o1;rcases hv' b aCk with h|h
    ·grind
    ·have:=(a2.lt o1).1;omega
   cases hid:(c.nx==id)<;>cases ajW:(c.nx==id')<;>simp only[hid,ajW,ϰ,ϗ] at h1 h2
   ·obtain ⟨_,a2,_⟩:=hent _ _ h1
    obtain ⟨_,b2,_⟩:=hent _ _ h2;rw[Hr a2 hle] at o1;rw[Hr b2 hle] at o2;exact hh.GH _ _ _ _ _ (hold _ _ h1).1 (hold _ _ h2).1 o1 o2
   ·simp_all
   ·simp_all
   simp_all
 ·refine ⟨hg.os.trans hw.os,hg.tape.trans hw.tape,hg.output.trans hw.output,fE hw.size hg.size,fun b hb hn=>?_,fun b o hb=>?_,hw.le,hw.fresh⟩
  ·rw[hkeep b (by have:=hw.size;omega) fun e=>?_]
   ·exact hw.kept b hb hn
   ·(rcases (hm b e).2 with h|h)<;>grind
  ·have h1:=hw.on b o hb
   rw[hkeep b (bC.1 h1).1 fun e=>?_]
   ·exact h1
   ·have:=(hm b e).1
    simp_all
 ·grind [id,GK]
 ·grind [bk,qc,id,GK]
 ·grind [Dq,id,bk]
 ·intro i s0 b0 h1 h2 h3
  refine .inr ⟨s0,?_,acz h3 hle⟩;have h2:i ∉ (Dq c s).tc:=h2;have hd:Aq (Dq c s).hp i=aj s0:=by
   unfold Dq at h2 ⊢;split at h2
   ·rename_i id hid
    grind [Xz]
   ·exact h1
  simp only[Fb,hnx];cases hid:(c.nx==i)<;>simp only[ϰ,ϗ]
  ·exact hd
  ·obtain rfl:c.nx=i:=by grind
   obtain ⟨u,hu⟩:=(hh.ent _ _ h1).some_;simp_all
 ·intro i s0 h1 hne
  simp only[Fb,hnx] at h1;cases hid:(c.nx==i)<;>simp only[hid,ϰ,ϗ] at h1
  ·have:=(hold _ _ h1).1
   exact ⟨s0,this,fun b h=>by rw[Hr (hh.ent _ _ this) hle] at h;exact h⟩
  simp_all
theorem RD(w:World)(e st:Nat):w.ownsRow 0 e st (.slice aF 0 0) 0 []:=⟨by simp,.inl ⟨rfl,rfl⟩⟩
theorem Z8{c:Core}{e st:Nat}{s:SV}{v:Value}(hh:Bc K H E w c.hp)(h:Pg c.hp e s=ay)(hd:Den H E s v):
  ((SN s=aF/\Ba v=aF)\/∃id sb0,SN s=aj id/\Aq c.hp id=aj sb0/\E id=aj v/\Bv E id sb0=Ba v)/\(∀b,Ba v=aj b->Mine K H b)/\
  (∀a n,rowOf c.hp st s=aj (a,n)->∃xs,w.ownsRow 0 e st v n xs/\AP H E a xs)/\
  (∀n g,O9 c.hp st s=aj (n,g)->∃xs,w.ownsRow 0 e st v n xs/\CQ H st n g xs)/\
  (∀n g more,xOf c.hp e st s=aj (n,g,more)->∃xs ys,w.ownsRow 0 e st v (n+more.length / st) (xs++ys)/\CQ H st n g xs/\AP H E more ys/\more.length % st=0/\Gf more=ay):=by
 unfold Pg at h;split at h
 ·simp only[Den] at hd;subst hd
  refine ⟨.inl ⟨rfl,rfl⟩,fun b hb=>by simp[Ba] at hb,fun a n hr=>?_,fun n g hr=>?_,fun n g more hr=>by simp[xOf] at hr⟩
  ·simp[rowOf] at hr
   obtain ⟨rfl,rfl⟩:=hr;exact ⟨[],RD _ _ _,ϖ⟩
  ·simp[O9] at hr
   obtain ⟨rfl,rfl⟩:=hr;exact ⟨[],RD _ _ _,MI _ _⟩
 ·rename_i id
  split at h
  ·rename_i cells e' st' n hl
   obtain rfl:e=e':=by simpa using h
   obtain ⟨v2,xs,e1,e2,e3,e4⟩:=hh.ent _ _ hl;rw[hd.1] at e1;cases e1;refine ⟨.inr ⟨id,_,rfl,hl,hd.1,by simp[Bv,hd.1]⟩,e4,fun a n2 hr=>?_,fun n2 g hr=>?_,fun n2 g more hr=>by grind [xOf]⟩
   ·grind [rowOf]
   ·simp only[O9,hl] at hr
    cases hb:(st==st'&&Gf cells)<;>simp only[hb,ϰ,ϗ] at hr
    ·cases hr
    simp only[aB,ϡ] at hb;obtain ⟨rfl,hone⟩:=hb;simp only[bH] at hr;obtain ⟨l,h1,h2⟩:=hr;simp only[jo] at h2;obtain ⟨rfl,rfl⟩:=h2;exact ⟨xs,e2,KW e2.1 (EL hh h1 e3) (FP hone e3)⟩
  ·rename_i e' st' n g hl
   obtain rfl:e=e':=by simpa using h
   obtain ⟨v2,xs,e1,e2,e3,e4⟩:=hh.ent _ _ hl;rw[hd.1] at e1;cases e1;refine ⟨.inr ⟨id,_,rfl,hl,hd.1,by simp[Bv,hd.1]⟩,e4,fun a n2 hr=>?_,fun n2 g2 hr=>?_,fun n2 g2 more hr=>?_⟩
   ·grind [rowOf]
   ·grind [O9]
   ·simp only[xOf,hl] at hr
    cases hb:(e==e&&st==st')<;>simp only[hb,ϰ,ϗ] at hr
    ·cases hr
    simp only[aB,ϡ] at hb;obtain ⟨_,rfl⟩:=hb;cases hr;exact ⟨xs,[],by simpa using e2,e3,ϖ,by simp,rfl⟩
  ·rename_i e' st' n g more hl
   obtain rfl:e=e':=by simpa using h
   obtain ⟨v2,xs,ys,e1,e2,e3,e4,e5,e6,e7⟩:=hh.ent _ _ hl;rw[hd.1] at e1;cases e1;refine ⟨.inr ⟨id,_,rfl,hl,hd.1,by simp[Bv,hd.1]⟩,e7,fun a n2 hr=>by grind [rowOf],fun n2 g2 hr=>by grind [O9],fun n2 g2 more2 hr=>?_⟩;simp only[xOf,hl] at hr;grind
  ·rename_i e' l hl
   obtain rfl:e=e':=by simpa using h
   obtain ⟨v2,e1,e2,e4⟩:=hh.ent _ _ hl;rw[hd.1] at e1;cases e1;exact ⟨.inr ⟨id,_,rfl,hl,hd.1,by simp[Bv,hd.1]⟩,e4,fun a n2 hr=>by grind [rowOf],fun n2 g2 hr=>by grind [O9],fun n2 g2 more2 hr=>by grind [xOf]⟩
  ·cases h
 ·cases h
theorem adf{hp:List (Nat×SB)}{st m:Nat}{b:List SV}{x:SV}{u:Value}(hh:Bc K H E w hp)(he:rowOf hp st x=aj (b,m))(hd:Den H E x u):
  ∃xs,xs.length=m*st/\AP H E b xs/\Src w u m xs:=by
 unfold rowOf at he;split at he
 ·cases he
  simp only[Den] at hd;subst hd;exact ⟨[],by simp,ϖ,.inl ⟨rfl,_,_,rfl⟩⟩
 ·rename_i id
  split at he
  ·rename_i cells el st' n hl
   cases hb:(st==st')<;>simp only[hb,ϰ,ϗ] at he
   ·cases he
   obtain rfl:st=st':=by grind
   cases he;obtain ⟨v,xs,e1,e2,e3,_⟩:=hh.ent _ _ hl;rw[hd.1] at e1;cases e1;exact ⟨xs,e2.1,e3,YA e2⟩
  ·cases he
 ·cases he
theorem one_app:∀{l m:List SV},Gf l=ay->Gf m=ay->Gf (l++m)=ay
 |[],_,_,h=>h |x::l,m,h1,h2=>by
  simp only[Gf,aB,List.cons_append] at h1 ⊢;exact ⟨h1.1,one_app h1.2 h2⟩
theorem KI{e st n:Nat}{v:Value}{xs:List Value}(h:w.ownsRow 0 e st v n xs):∃A n c,v=.slice A n c:=by
 (rcases h.2 with ⟨rfl,_⟩ |⟨g,cap,cur,rfl,_⟩)<;>simp_all
theorem aj9(n m b:Nat)(h1:gy ((n+m)*b) 140737488355328=ay)(h2:gy (n+m) 1073741824=ay):n+m<=maxLen/\(n+m)*b<=140737488355328:=by
 have h1:=fP h1;have h2:=fP h2;grind [maxLen]
theorem aqN{c:Core}{a:Act}{o:Oper}{t:Nat}{x y:Operand}{φ:SV×Core->Prop}(hC:BP P C)(hd:AP H E c.tm a.tmps.toList)(hh:Bc K H E w c.hp)(hw:EF K H w)(hf:Free E c)
  (ho:o.op=.call {callee:=.builtin .append,args:=#[x,y],argTypes:=#[t,t]}) (h:(UM C c t (BU c.tm x) (BU c.tm y)).All φ):II P K H E w c a o φ:=by
 have dx:=BM (H:=H) (E:=E) hd x;have dy:=BM (H:=H) (E:=E) hd y;unfold UM at h;split at h
 ·rename_i i hi
  split at h
  ·rename_i e hty
   have hu:=KH (hC.ty _ _ hi) hty;split at h
   ·rename_i te hte
    obtain ⟨inf,z,h1,h2,h3,h4,h5,h6,_⟩:=(hC.ty _ _ hte).info;cases hb:(Pg c.hp e (BU c.tm x) && !Qk (BU c.tm x) (BU c.tm y)&&fC 0 te.size)<;>simp only[hb,ϰ,ϗ] at h
    ·exact h.elim
    simp only[aB] at hb;have h0:=MC hb.2;obtain ⟨o1,o2,o3,o4,o5⟩:=Z8 (st:=te.size) hh hb.1.1 dx;have fin:∀(n m:Nat) (xs news:List Value) (sb:SB),(alloc (Dq c (BU c.tm x)) sb (.gs c.nx)).All φ->w.ownsRow 0 e te.size (a.eval x) n xs->Src w (a.eval y) m news->news.length=m*te.size->(∀u∈news,u.oneCell'=ay)->
      n+m<=maxLen->(n+m)*te.bytes<=140737488355328->
      (∀(v':Value) (w':World),w'.ownsRow 0 e te.size v' (n+m) (xs++news)->(∀b,Ba v'=aj b->Mine K H b)->c.nx<c.lim->Ho K H (E.set c.nx v') w' c.nx sb)->II P K H E w c a o φ:=by
     intro n m xs news sb h hown hsrc hl hone hmax hbytes hent;obtain ⟨v',w',hr,ho',hg,hv'⟩:=ajX (P:=P) t o.type e inf z te.size te.bytes hu h1 h4 h2 h3 h6 h0 (a.eval x) n xs hown (a.eval y) m news hsrc hl hone hmax hbytes;have Gu:∀b,Ba v'=aj b->Mine K H b:=fun b hb=>by
      rcases hv' b hb with h|h
      ·exact o2 b h
      ·refine ⟨?_,.inl (by have:=hw.size;omega)⟩
       cases hH:H b with
       |none=>rfl |some o=>have:=(bC.1 (hw.on b o hH)).1;omega
     obtain ⟨c',hφ,hp⟩:=KX hh hw hf h o1 o2 hg hv' (hent v' w' ho' Gu);obtain ⟨A,n',cc,e3⟩:=KI ho';refine ⟨_,v',_,H,_,w',hφ,⟨dG _ _ _,A,n',cc,e3⟩,hp,.inl rfl,?_⟩;simp_all [execOp,resolve,invoke,builtin]
    split at h
    ·rename_i aa n bb m hr1 hr2
     cases hb2:(Gf bb&&gy ((n+m)*te.bytes) 140737488355328&&gy (n+m) 1073741824)<;>simp only[hb2,ϰ,ϗ] at h
     ·exact h.elim
     simp only[aB] at hb2;obtain ⟨xs,p1,p2⟩:=o3 _ _ hr1;obtain ⟨ys,q1,q2,q3⟩:=adf hh hr2 dy;obtain ⟨r1,r2⟩:=aj9 n m te.bytes hb2.1.2 hb2.2;exact fin n m xs ys _ h p1 q3 q1 (FP hb2.1.1 q2) r1 r2 fun v' w' s1 s2 s3=>
      ⟨v',_,dG _ _ _,s1,(p2.append q2).le (fun _ _ e=>e) (lU (hf _ (bM _) s3)),s2⟩
    ·split at h
     ·rename_i n g m k hr1 hr2
      rw[hC.A] at h;obtain ⟨hroom,h⟩:=h;obtain ⟨r2,r1⟩:=Fg hroom;have ea:Ak.addN n m=n+m:=rfl;rw[ea] at r1 r2 h;obtain ⟨xs,p1,p2⟩:=o4 _ _ hr1;obtain ⟨ys,q1,q2⟩:=asY h0 hh hw.on hr2 dy;exact fin n m xs ys _ h p1 q2 q1.1 q1.2.2.1 r1 r2 fun v' w' s1 s2 s3=>
       ⟨v',_,dG _ _ _,s1,ade p2 q1,s2⟩
     ·split at h
      ·rename_i n g more bb m hr1 hr2
       cases hone:Gf bb<;>simp only[hone,ϰ,ϗ] at h
       ·exact h.elim
       rw[hC.A] at h;obtain ⟨hroom,h⟩:=h;obtain ⟨r2,r1⟩:=Fg hroom;obtain ⟨xs,zs,p1,p2,p3,p4,p5⟩:=o5 _ _ _ hr1;obtain ⟨ys,q1,q2,q3⟩:=adf hh hr2 dy;have hbl:bb.length=m*te.size:=by rw[<-q2.length,q1]
       have hdiv:(more++bb).length / te.size=more.length / te.size+m:=by
        grind [cO,Nat.add_mul_div_right]
       have hmod:(more++bb).length % te.size=0:=by
        simp_all
       have ea:Ak.addN n (Nat.div (more++bb).length te.size)=n+more.length / te.size+m:=by
        show n+(more++bb).length / te.size=_;omega
       rw[ea] at r1 r2;have hon:Gf (more++bb)=ay:=one_app p5 hone;exact fin (n+more.length / te.size) m (xs++zs) ys _ h p1 q3 q1 (FP hone q2) r1 r2 fun v' w' s1 s2 s3=>
        ⟨v',xs,zs++ys,dG _ _ _,by grind,p2,(p3.append q2).le (fun _ _ e=>e) (lU (hf _ (bM _) s3)),hmod,hon,s2⟩
      ·exact h.elim
   ·exact h.elim
  ·exact h.elim
 ·exact h.elim
theorem abv:∀{cells:List SV} {l:List UInt8} {xs:List Value},acX cells=aj l->AP H E cells xs->xs=bytesV l
 |[],_,[],h,_=>by simp[acX] at h;subst h;rfl |x::r,l,v::vs,h,⟨hd,hr⟩=>by
  unfold acX at h;split at h
  ·simp_all
  ·rename_i n r' e
   cases e;cases hb:(decide (0<=n)&&decide (n<256))<;>simp only[hb,ϰ,ϗ] at h
   ·cases h
   simp only[aB,ϟ] at hb;simp only[bH] at h;obtain ⟨m,hm,rfl⟩:=h;have ih:=abv hm hr;have hv:v=.int .u8 n:=hd;grind [rH,bytesV,UInt8.toNat_ofNat',gJ]
  ·cases h
 |[],_,_::_,_,h=>h.elim |_::_,_,[],_,h=>h.elim
theorem U1{hp:List (Nat×SB)}{e:Nat}{x:SV}{u:Value}{l:List UInt8}(hh:Bc K H E w hp)(h:UL hp e x=aj l)(hd:Den H E x u):Hu w e u l:=by
 unfold UL at h;split at h
 ·cases h
  have hd:u=_:=hd;exact .inl ⟨hd,rfl⟩
 ·rename_i id
  split at h
  ·rename_i e' l' hl
   cases hb:(e==e')<;>simp only[hb,ϰ,ϗ] at h
   ·cases h
   cases h;obtain rfl:e=e':=by grind
   obtain ⟨v,e1,e2,_⟩:=hh.ent _ _ hl;rw[hd.1] at e1;simp_all
  ·rename_i cells e' st n hl
   cases hb:(e==e'&&st==1&&n==cells.length)<;>simp only[hb,ϰ,ϗ] at h
   ·cases h
   simp only[aB,ϡ] at hb;obtain ⟨⟨rfl,rfl⟩,rfl⟩:=hb;obtain ⟨v,xs,e1,e2,e3,_⟩:=hh.ent _ _ hl;rw[hd.1] at e1;grind [ah7,abv]
  ·cases h
 ·cases h
theorem Ti(hC:BP P C){e:Nat}(h:KT C e=ay):P.underlying e=aj (.int .u8)/\∃i,P.info? e=aj i/\i.zero=aj (.int .u8 0)/\i.size=1/\i.bytes=1:=by
 unfold KT at h;split at h
 ·rename_i te hte
  have ht:=hC.ty _ _ hte;split at h
  ·rename_i n hty hz
   simp only[aB,ϡ] at h;obtain ⟨⟨h1,h2⟩,rfl⟩:=h;have hu:=ht.desc;rw[hty] at hu;obtain ⟨inf,z,q1,q2,q3,q4,q5,q6,_,q8⟩:=ht.info;rw[hz] at q5;refine ⟨hu,inf,q1,?_,by omega,by omega⟩;rw[q4];have hone:=(q8 (by rw[hty];rfl)).2;have hc:z.cells=#[z]:=by
    cases z<;>simp[jr,lF] at hone ⊢
   rw[hc] at q5;have:z=.int .u8 0:=q5.1;rw[this]
  ·cases h
 ·cases h
theorem adg{e:Nat}{v:Value}{l:List UInt8}(h:Hu w e v l):∃A n c,v=.slice A n c:=by
 (rcases h with ⟨rfl,_⟩ |⟨g,cap,cur,fz,rfl,_⟩)<;>simp_all
theorem Uo{c:Core}{a:Act}{o:Oper}{t u e:Nat}{x y:Operand}{l m:List UInt8}{φ:SV×Core->Prop}(hC:BP P C)(hd:AP H E c.tm a.tmps.toList)(hh:Bc K H E w c.hp)(hw:EF K H w)(hf:Free E c)
  (ho:o.op=.call {callee:=.builtin .append,args:=#[x,y],argTypes:=#[t,u]}) (ht:P.underlying t=aj (.slice e)) (hb:KT C e=ay) (hown:Pg c.hp e (BU c.tm x)=ay) (hl:UL c.hp e (BU c.tm x)=aj l)
  (hm:ao4 P w u (a.eval y) m) (hr:Ak.room (Ak.addN (Ak.len l) (Ak.len m)) 1=ay) (h:(alloc (Dq c (BU c.tm x)) (.buf e (Ak.app l m)) (.gs c.nx)).All φ):II P K H E w c a o φ:=by
 have dx:=BM (H:=H) (E:=E) hd x;obtain ⟨hu8,i,i1,i2,i3,i4⟩:=Ti hC hb;obtain ⟨o1,o2,_⟩:=Z8 (st:=1) hh hown dx;obtain ⟨r2,r1⟩:=Fg hr;obtain ⟨v',w',hrun,hb',hg,hv'⟩:=aj6 (P:=P) t u o.type e i ht i1 i2 i3 i4 (a.eval x) l (U1 hh hl dx) (a.eval y) m hm r1 r2;have Gu:∀b,Ba v'=aj b->Mine K H b:=fun b hb=>by
  rcases hv' b hb with h|h
  ·exact o2 b h
  ·refine ⟨?_,.inl (by have:=hw.size;omega)⟩
   cases hH:H b with
   |none=>rfl |some o=>have:=(bC.1 (hw.on b o hH)).1;omega
 obtain ⟨c',hφ,hp⟩:=KX hh hw hf h o1 o2 hg hv' (fun _=>⟨v',dG _ _ _,hb',Gu⟩);obtain ⟨A,n',cc,e3⟩:=adg hb';refine ⟨_,v',_,H,_,w',hφ,⟨dG _ _ _,A,n',cc,e3⟩,hp,.inl rfl,?_⟩;simp_all [execOp,resolve,invoke,builtin]
theorem am8{c:Core}{a:Act}{o:Oper}{t u:Nat}{x y:Operand}{φ:SV×Core->Prop}(hC:BP P C)(hd:AP H E c.tm a.tmps.toList)(hh:Bc K H E w c.hp)(hw:EF K H w)(hf:Free E c)
  (ho:o.op=.call {callee:=.builtin .append,args:=#[x,y],argTypes:=#[t,u]}) (h:(SQ C c t u (BU c.tm x) (BU c.tm y)).All φ):II P K H E w c a o φ:=by
 have dy:=BM (H:=H) (E:=E) hd y;unfold SQ at h;split at h
 ·rename_i ti ui hti hui
  split at h
  ·rename_i e h1 h2
   split at h
   ·rename_i l m hl hm
    cases hb:(KT C e&&Pg c.hp e (BU c.tm x))<;>simp only[hb,ϰ,ϗ] at h
    ·exact h.elim
    simp only[aB] at hb;rw[hC.A] at h;have hu:=(hC.ty _ _ hui).desc;rw[h2] at hu;have ey:=Nu hm dy;exact Uo hC hd hh hw hf ho (KH (hC.ty _ _ hti) h1) hb.1 hb.2 hl (by rw[ey];exact aqJ hu m) h.1 h.2
   ·exact h.elim
  ·exact h.elim
 ·exact h.elim
theorem am9{c:Core}{a:Act}{o:Oper}{t:Nat}{x y:Operand}{φ:SV×Core->Prop}{r:Tree (SV×Core)}(hC:BP P C)(hd:AP H E c.tm a.tmps.toList)(hh:Bc K H E w c.hp)(hw:EF K H w)(hf:Free E c)
  (ho:o.op=.call {callee:=.builtin .append,args:=#[x,y],argTypes:=#[t,t]}) (hr:SS C c t (BU c.tm x) (BU c.tm y)=aj r) (h:r.All φ):II P K H E w c a o φ:=by
 have dy:=BM (H:=H) (E:=E) hd y;unfold SS at hr;split at hr
 ·rename_i id hx
  split at hr
  ·rename_i e l hl
   split at hr
   ·rename_i ti m hti hm
    split at hr
    ·rename_i e' hty
     cases hb:(e==e'&&KT C e && !Qk (BU c.tm x) (BU c.tm y))<;>simp only[hb,ϰ,ϗ] at hr
     ·cases hr
     cases hr;simp only[aB,ϡ] at hb;obtain ⟨⟨rfl,hb⟩,_⟩:=hb;rw[hC.A] at h;have ht:=KH (hC.ty _ _ hti) hty;have ho1:Pg c.hp e (BU c.tm x)=ay:=by simp_all [Pg]
     have ho2:UL c.hp e (BU c.tm x)=aj l:=by simp_all [UL]
     exact Uo hC hd hh hw hf ho ht hb ho1 ho2 (aqK ht (U1 hh hm dy)) h.1 h.2
    ·cases hr
   ·cases hr
  ·cases hr
 ·cases hr
theorem axb{c:Core}{a:Act}{o:Oper}{t u:Nat}{x:Operand}{φ:SV×Core->Prop}(hC:BP P C)(hd:AP H E c.tm a.tmps.toList)(hh:Bc K H E w c.hp)(hw:EF K H w)(hf:Free E c)
  (ho:o.op=.convert t u x) (h:(ZR C c t u (BU c.tm x)).All φ):II P K H E w c a o φ:=by
 have dx:=BM (H:=H) (E:=E) hd x;unfold ZR at h;split at h
 ·rename_i ti ui hti hui
  have ht:=(hC.ty _ _ hti).desc;have hu:=(hC.ty _ _ hui).desc;split at h
  ·rename_i k1 k2 e1 e2
   rw[e1] at ht;rw[e2] at hu;have key:∀(k:IntKind) (n:Int),a.eval x=.int k n->(execOp a.eval o).run P w=.ok (.value (.int k2 (k2.wrap n))) w:=fun k n hv=>by
    simp only[execOp,ho,hv];simp[convert,run_underlying ht,run_underlying hu,Conv.intToInt]
   split at h
   ·rename_i k n hx
    rw[hx] at dx;exact ⟨_,.int k2 (k2.wrap n),_,H,E,w,h,rfl,mX hh hw,.inl rfl,key k n dx⟩
   ·rename_i k n hx
    rw[hx] at dx;rw[hC.A] at h;exact ⟨_,.int k2 (k2.wrap n),_,H,E,w,h,rfl,mX hh hw,.inl rfl,key k n dx⟩
   ·exact h.elim
  ·rename_i e e1 e2
   rw[e1] at ht;rw[e2] at hu;split at h
   ·rename_i l hl
    cases hb:KT C e<;>simp only[hb,ϰ,ϗ] at h
    ·exact h.elim
    rw[hC.A] at h;obtain ⟨h1,h2⟩:=h;obtain ⟨r2,r1⟩:=Fg h1;obtain ⟨hu8,_⟩:=Ti hC hb;have ex:=Nu hl dx;obtain ⟨v',w',hrun,hb',hg,hv'⟩:=aj7 (P:=P) (w:=w) (src:=t) (dst:=u) ht hu hu8 l r1;have Gu:∀b,Ba v'=aj b->Mine K H b:=fun b hb=>by
     have:=hv' b hb;refine ⟨?_,.inl (by have:=hw.size;omega)⟩;cases hH:H b with
     |none=>rfl |some o=>have:=(bC.1 (hw.on b o hH)).1;omega
    obtain ⟨c',hφ,hp⟩:=KX (s:=.Bg) (v:=.slice aF 0 0) (v':=v') hh hw hf h2 (.inl ⟨rfl,rfl⟩) (fun b hb=>by simp[Ba] at hb) hg (fun b hb=>.inr (hv' b hb)) (fun _=>⟨v',dG _ _ _,hb',Gu⟩);obtain ⟨A,n',cc,e3⟩:=adg hb';refine ⟨_,v',_,H,_,w',hφ,⟨dG _ _ _,A,n',cc,e3⟩,hp,.inl rfl,?_⟩;simp_all [execOp]
   ·exact h.elim
  ·rename_i e e1 e2
   rw[e1] at ht;rw[e2] at hu;split at h
   ·rename_i l hl
    cases hb:KT C e<;>simp only[hb,ϰ,ϗ] at h
    ·exact h.elim
    obtain ⟨hu8,_⟩:=Ti hC hb;have hrun:=aqL (P:=P) (src:=t) (dst:=u) ht hu8 hu (U1 hh hl dx) w fun _ _=>rfl
    refine ⟨_,.string ⟨l.toArray⟩,_,H,E,w,h,.str l,mX hh hw,.inl rfl,?_⟩;simp_all [execOp]
   ·exact h.elim
  ·exact h.elim
 ·exact h.elim
end
section
variable{P:Program}{C:Ctx}{K:Kx}{H H':Mem}{E E':Env}{w w':World}
theorem adh{st n:Nat}{g:ϝ}{u:Value}(h:Rep H (.sl st n g) u):∃A cap,u=.slice A n cap/\n<=cap/\cap<=maxLen:=by
 cases h with
 |sl0 _ _ A cap hc=>grind |sl _ _ _ b off cap c h1 h2=>grind
theorem asZ{st n l h cap:Nat}{g g':ϝ}{A:Option Addr}(hr:Rep H (.sl st n g) (.slice A n cap))(hl:l<=h)(hh:h<=n)(hg:∀j,j<h - l->g' j=g (l+j)):
  Rep H (.sl st (h - l) g') (sliced A l h cap st):=by
 by_cases e:h - l=0
 ·unfold sliced
  rw[e];refine .sl0 _ _ _ _ ?_;grind [adh]
 ·generalize hn:n=m at hr
  cases hr with
  |sl0 _ _ _ _ hc=>omega |sl _ _ _ b off _ c h1 h2 h3 h4 h5 h6=>
   subst hn;unfold sliced;rw[if_neg (by omega)];simp only[tJ,dL];(refine .sl _ _ _ b (off+l*st) _ (fun i j=>c (l+i) j) (by omega) (by omega) (fun i hi=>by rw[hg i hi];exact h3 _ (by omega)) (fun i j hi hj=>?_) (fun i j hi hj=>h5 _ _ (by omega) hj) fun i j s hi e=>?_)<;>grind
theorem MJ{i:Int}{n:Nat}(h:Ak.upTo i n=ay):0<=i/\i<=n:=by grind [Ak]
theorem ana{c:Core}{hp:List (Nat×SB)}(hH:H.le H')(hh:Bc K H' E w hp)(hw:EF K H' w)(hz:WM H' E c.hp hp):Post K H E w c H' E w {c with hp}:=
 ⟨hH,fun _ _ e=>e,fun _ h1 h2=>(h2 h1).elim,bM _,.inr rfl,rfl,rfl,hh,hw,fun _ h=>h,bM _,fun _ _ _=>rfl,fun i b h1 h2=>by grind [bk],fun _ h=>.inl h,
  fun id sb b h1 _ h3=>(hz.keep id sb b h1 h3).imp (fun h=>h) fun h=>⟨sb,h,h3⟩,fun id sb h _=>hz.old id sb h⟩
theorem as1{c:Core}{a:Act}{o:Oper}{t:Nat}{x:Operand}{lo hi:Option Operand}{φ:SV×Core->Prop}(hC:BP P C)(hd:AP H E c.tm a.tmps.toList)(hh:Bc K H E w c.hp)(hw:EF K H w)
  (ho:o.op=.slice t x lo hi aF) (h:(Xl C c t (BU c.tm x) (lo.map (BU c.tm)) (hi.map (BU c.tm))).All φ):II P K H E w c a o φ:=by
 have dx:=BM (H:=H) (E:=E) hd x;unfold Xl at h;split at h
 ·rename_i ti hti
  split at h
  ·rename_i e hty
   have hu:=KH (hC.ty _ _ hti) hty;split at h
   ·rename_i te hte
    have hsz:∀w,(sizeOf e).run P w=.ok te.size w:=fun w=>KE (hC.ty _ _ hte) w;split at h
    ·rename_i id n hv hvw e1 e2
     have e1':lo=aF:=by simp_all
     subst e1';simp only[bH] at e2;obtain ⟨y,rfl,rfl⟩:=e2;split at h
     ·rename_i hi hn q1 q2
      obtain ⟨k,ey⟩:=Il q1 (BM (H:=H) (E:=E) hd y);rw[hC.A] at h q2;have q2:=Ip q1 q2;obtain ⟨g1,g2⟩:=h;obtain ⟨g1,g3⟩:=MJ g1;unfold aoZ at hvw;split at hvw
      ·rename_i id' hx
       split at hvw
       ·rename_i el st' m g hl
        cases hb:(te.size==st')<;>simp only[hb,ϰ,ϗ] at hvw
        ·cases hvw
        cases hvw;rw[hx] at dx;obtain ⟨he,A,n2,cap,eu⟩:=dx;obtain ⟨v,xs,e3,e4,_⟩:=hh.ent _ _ hl;rw[he] at e3;cases e3;rw[eu] at e4 he;have hk:n2=n:=by
         have:=OQ e4;assumption
        subst hk;have helem:P.elem t=e:=by simp[vX,hu]
        have hu':P.underlying t=aj (.slice (P.elem t)):=by simp_all
        have hcap:n2<=cap:=by
         (rcases e4.2 with ⟨e5,_⟩ |⟨_,_,_,e5,_,_,e6,_⟩)<;>simp_all
        have hr:=run_slice_h (P:=P) w t A n2 cap hu' k hi (by omega) (by omega);subst q2;have hs:sliced A 0 hi.toNat cap te.size=.slice A hi.toNat cap:=by simp_all [sliced,lJ]
        refine ⟨_,.slice A hi.toNat cap,_,H,E,w,g2,⟨A,n2,cap,he,by omega,rfl⟩,mX hh hw,.inl rfl,?_⟩;simp_all [execOp,run_sliceAt_slice]
       ·cases hvw
      ·cases hvw
     ·exact h.elim
    split at h
    ·exact h.elim
    ·rename_i hp hfz
     have hfz':∃H',H.le H'/\Bc K H' E w hp/\EF K H' w/\WM H' E c.hp hp:=by
      split at hfz
      ·grind [MH]
      ·cases hfz;exact ⟨H,fun _ _ e=>e,hh,hw,WM.refl _ _ _⟩
     obtain ⟨H',hH,hh',hw',hz'⟩:=hfz';split at h
     ·rename_i st n g hsh
      have hrep:=OT hh' hsh (dx.le hH (fun _ _ e=>e));obtain ⟨A,cap,eu,hcap,hmax⟩:=adh hrep;rw[eu] at hrep;cases hb:(st==te.size)<;>simp only[hb,ϰ,ϗ] at h
      ·exact h.elim
      obtain rfl:st=te.size:=by grind
      have helem:P.elem t=e:=by simp[vX,hu]
      have hu':P.underlying t=aj (.slice (P.elem t)):=by simp_all
      have fin:∀(sv:SV) (l h:Nat) (g':ϝ),φ (sv,{c with hp})->sv=.sh (.sl te.size (h - l) g')->l<=h->h<=n->(∀j,j<h - l->g' j=g (l+j))->
        (Instr.slice t (.slice A n cap) (lo.map a.eval) (hi.map a.eval) aF).run P w=((sizeOf (P.elem t)).run P w).andThen (fun s w=>.ok (sliced A l h cap s) w)->II P K H E w c a o φ:=by
       intro sv l h g' hφ hsv h1 h2 h3 hr;refine ⟨_,sliced A l h cap te.size,_,H',E,w,hφ,?_,ana hH hh' hw' hz',.inl rfl,?_⟩
       ·subst hsv
        exact asZ hrep h1 h2 h3
       simp_all [execOp,run_sliceAt_slice]
      have hA:=hC.A;rw[hA] at h;split at h
      ·rename_i e1 e2
       have e1':lo=aF:=by simp_all
       have e2':hi=aF:=by simp_all
       subst e1' e2';exact fin _ 0 n g h (by rfl) (by omega) (by omega) (fun j _=>by simp) (run_slice_all (P:=P) w t A n cap hu')
      ·rename_i hv e1 e2
       have e1':lo=aF:=by simp_all
       subst e1';simp only[bH] at e2;obtain ⟨y,rfl,rfl⟩:=e2;split at h
       ·rename_i hi hn q1 q2
        obtain ⟨k,ey⟩:=Il q1 (BM (H:=H) (E:=E) hd y);have q2:=Ip q1 q2;obtain ⟨g1,g2⟩:=h;obtain ⟨g1,g3⟩:=MJ g1;refine fin _ 0 hn g g2 (by rfl) (by omega) (by omega) (fun j _=>by simp) ?_;grind [run_slice_h]
       ·exact h.elim
      ·rename_i lv e1 e2
       have e2':hi=aF:=by simp_all
       subst e2';simp only[bH] at e1;obtain ⟨y,rfl,rfl⟩:=e1;split at h
       ·rename_i li l q1 q2
        obtain ⟨k,ey⟩:=Il q1 (BM (H:=H) (E:=E) hd y);have q2:=Ip q1 q2;obtain ⟨g1,g2⟩:=h;obtain ⟨g1,g3⟩:=MJ g1;refine fin _ l n _ g2 rfl (by omega) (by omega) (fun j _=>rfl) ?_;simp_all [run_slice_l,tJ,Option.map_none]
       ·exact h.elim
      ·rename_i lv hv e1 e2
       simp only[bH] at e1 e2;obtain ⟨y,rfl,rfl⟩:=e1;obtain ⟨z,rfl,rfl⟩:=e2;split at h
       ·rename_i li l hi hn q1 q2 q3 q4
        obtain ⟨k,ey⟩:=Il q1 (BM (H:=H) (E:=E) hd y);obtain ⟨k2,ez⟩:=Il q3 (BM (H:=H) (E:=E) hd z);have q2:=Ip q1 q2;have q4:=Ip q3 q4;obtain ⟨g1,g2,g3⟩:=h;obtain ⟨g1,g4⟩:=MJ g1;obtain ⟨g2,g5⟩:=MJ g2;refine fin _ l hn _ g3 rfl (by omega) (by omega) (fun j _=>rfl) ?_;grind [run_slice_lh]
       ·exact h.elim
     ·exact h.elim
   ·exact h.elim
  ·exact h.elim
 ·exact h.elim
theorem abw{k:IntKind}{n:Int}{sv:SV}{v:Value}(hv:Den H E sv v):∀{es es':List (SV×SV)} {ms:List MapEntry} (j:Nat),Yb k n sv es=aj es'->Qn H E es ms->
  (∃i u m,cu (.int k) (.int k n) ms j=aj (aj (j+i,u))/\ms[i]?=aj m/\m.key=.int k n/\Qn H E es' (ms.modify i fun m=>{m with key:=.int k n,val:=v}))\/
  (cu (.int k) (.int k n) ms j=aj aF/\∀clk,Qn H E es' (ms++[{key:=.int k n,val:=v,born:=clk}]))
 |[],es',[],j,h,_=>by
  simp[Yb] at h;subst h;exact .inr ⟨rfl,fun clk=>⟨rfl,hv,ϖ⟩⟩
 |(k',u)::es,es',m::ms,j,h,⟨h1,h2,h3⟩=>by
  unfold Yb at h;split at h
  ·simp_all
  ·rename_i l p u es0 e
   simp only[dF,jo] at e;obtain ⟨⟨rfl,rfl⟩,rfl⟩:=e;have h1:m.key=.int l p:=h1;cases hb:(l==k)<;>simp only[hb,ϰ,ϗ] at h
   ·cases h
   obtain rfl:l=k:=by grind
   cases hp:(p==n)<;>simp only[hp,ϰ,ϗ] at h
   ·have hne:(n==p)=aA:=by grind
    simp only[bH] at h;obtain ⟨r,hr,rfl⟩:=h;rcases abw hv (j+1) hr h3 with ⟨i,u',m',e1,e2,e3,e4⟩ |⟨e1,e2⟩
    ·refine .inl ⟨i+1,u',m',?_,by grind,e3,?_⟩
     ·grind [cu,dW]
     ·simp only[List.modify_succ_cons]
      exact ⟨h1,h2,e4⟩
    ·refine .inr ⟨by grind [cu,dW],fun clk=>⟨h1,h2,e2 clk⟩⟩
   ·cases h
    obtain rfl:p=n:=by grind
    refine .inl ⟨0,m.val,m,by simp[cu,h1,dW],rfl,h1,?_⟩;simp only[List.modify_zero_cons];exact ⟨rfl,hv,h3⟩
  ·cases h
 |[],_,_::_,_,_,h=>h.elim |_::_,_,[],_,_,h=>h.elim
theorem ah8(w:World)(b k:Nat)(o o':Obj)(h:w.heap[b]?=aj o):(w.heap.setIfInBounds b o')[k]?=if k=b then aj o' else w.heap[k]?:=by
 grind
theorem abb.push{ms:List MapEntry}{N:Ep->Option Value}(h:abb ms N){n:Ep}(hne:∀m∈ms,m.key≠DZ n)(v:Value)(clk:Nat):
  abb (ms++[{key:=DZ n,val:=v,born:=clk}]) (fun j=>if j=n then aj v else N j):=by
 have hget:∀(i:Nat) (m:MapEntry),(ms++[{key:=DZ n,val:=v,born:=clk:MapEntry}])[i]?=aj m->(i<ms.length/\ms[i]?=aj m)\/(i=ms.length/\m={key:=DZ n,val:=v,born:=clk}):=fun i m hi=>by
  grind
 refine ⟨fun m hm=>?_,fun m hm j e=>?_,fun j u hj=>?_,fun i j m m' a b e=>?_⟩
 ·rcases bQ.1 hm with hm|hm
  ·exact h.key m hm
  grind
 ·rcases bQ.1 hm with hm1|hm1
  ·rw[if_neg (show ¬j=n from fun e2=>hne m hm1 (by simp_all))]
   exact h.in_ m hm1 j e
  grind [Td]
 ·by_cases e:j=n
  ·simp_all
  ·rw[if_neg e] at hj
   obtain ⟨m,hm,q⟩:=h.ex j u hj;grind
 ·rcases hget i m a with ⟨_,a⟩ |⟨a,rfl⟩<;>rcases hget j m' b with ⟨_,b⟩ |⟨b,rfl⟩
  ·exact h.one i j m m' a b e
  ·grind
  ·grind
  ·omega
theorem abb.set{ms:List MapEntry}{N:Ep->Option Value}(h:abb ms N){n:Ep}{i:Nat}{m0:MapEntry}(hi:ms[i]?=aj m0)(hk:m0.key=DZ n)(v:Value){f:MapEntry->MapEntry}
  (hf1:(f m0).key=DZ n) (hf2:(f m0).val=v):abb (ms.modify i f) (fun j=>if j=n then aj v else N j):=by
 have hget:∀(j:Nat) (m:MapEntry),(ms.modify i f)[j]?=aj m->(j=i/\m=f m0)\/(j≠i/\ms[j]?=aj m):=fun j m hj=>by
  grind
 have hin:∀m∈ms.modify i f,m=f m0\/(m∈ms/\m.key≠DZ n):=fun m hm=>by
  obtain ⟨j,hj⟩:=dw.1 hm;rcases hget j m hj with ⟨_,e⟩ |⟨e,e2⟩
  ·exact .inl e
  ·refine .inr ⟨bK e2,fun e3=>e ?_⟩
   exact h.one j i m m0 e2 hi (e3.trans hk.symm)
 have hnew:f m0∈ms.modify i f:=by
  grind
 refine ⟨fun m hm=>?_,fun m hm j e=>?_,fun j u hj=>?_,fun a b m m' ha hb e=>?_⟩
 ·rcases hin m hm with rfl|hm
  ·grind
  ·exact h.key m hm.1
 ·rcases hin m hm with rfl|⟨hm,hne⟩
  ·grind [Td]
  ·rw[if_neg fun e2=>by simp_all]
   exact h.in_ m hm j e
 ·by_cases e:j=n
  ·grind
  ·rw[if_neg e] at hj
   obtain ⟨m,hm,q⟩:=h.ex j u hj;grind [dw,Td]
 ·rcases hget a m ha with ⟨a1,rfl⟩ |⟨a1,a2⟩<;>rcases hget b m' hb with ⟨b1,rfl⟩ |⟨b1,b2⟩
  ·omega
  ·exact (b1 (h.one b i m' m0 b2 hi (e.symm.trans (hf1.trans hk.symm)))).elim
  ·exact (a1 (h.one a i m m0 a2 hi (e.trans (hf1.trans hk.symm)))).elim
  ·exact h.one a b m m' a2 b2 e
theorem adi{M:Ep->Option Value}{n:Ep}{o:Option Value}{uv:List (Ep×Option Value)}:UW M ((n,o)::uv)=fun j=>if j=n then o else UW M uv j:=rfl
theorem anb(n:Ep):kW 10000 (DZ n) (DZ n)=ay:=by
 have h (b:ByteArray):(b==b)=ay:=by
  obtain ⟨⟨l⟩⟩:=b;show ((⟨⟨l⟩⟩:ByteArray).data==(⟨⟨l⟩⟩:ByteArray).data)=ay;simp
 simp[DZ,kW,h]
theorem agF{c:Core}{a:Act}{o:Oper}{t:Nat}{x y z:Operand}{φ:SV×Core->Prop}(hC:BP P C)(hd:AP H E c.tm a.tmps.toList)(hh:Bc K H E w c.hp)(hw:EF K H w)
  (ho:o.op=.mapUpdate t x y z\/o.op=.insert t x y z) (h:(Ql C c t (BU c.tm x) (BU c.tm y) (BU c.tm z)).All φ):II P K H E w c a o φ:=by
 have dx:=BM (H:=H) (E:=E) hd x;have dy:=BM (H:=H) (E:=E) hd y;have dz:=BM (H:=H) (E:=E) hd z;unfold Ql at h;split at h
 ·rename_i ti hti
  split at h
  ·rename_i kt vt hty
   have ht:=(hC.ty _ _ hti).desc;rw[hty] at ht;have ht:P.underlying t=aj (.map kt vt):=ht;split at h
   ·rename_i kti akb
    have hk:=(hC.ty _ _ akb).desc;split at h
    ·rename_i kk id k n hkk hx hy
     rw[hkk] at hk;have hk:P.underlying kt=aj (.int kk):=hk;rw[hx] at dx;rw[hy] at dy;obtain ⟨b,he,ex⟩:=dx;have ey:a.eval y=.int k n:=dy;split at h
     ·rename_i es hl
      cases hb:(kk==k)<;>simp only[hb,ϰ,ϗ] at h
      ·exact h.elim
      obtain rfl:kk=k:=by grind
      split at h
      ·rename_i es' hes
       obtain ⟨b',ms,clk,he',h1,h2,h3⟩:=hh.ent _ _ hl;rw[he] at he';cases he';have hg:(getObj b).run P w=.ok (.map ms clk) w:=by simp[getObj,jT,h1]
       have hck:=Nl (P:=P) hk aA kk n w;have hso:∀o',(setObj b o').run P w=.ok () {w with heap:=w.heap.setIfInBounds b o'}:=fun o'=>by simp[setObj,jT,h1]
       have fin:∀(o':Obj) (ms':Array MapEntry) (Po:Nat),o'=.map ms' Po->Qn H E es' ms'.toList->(jc t (.map (aj b)) (.int kk n) (a.eval z)).run P w=.ok () {w with heap:=w.heap.setIfInBounds b o'}->II P K H E w c a o φ:=by
        intro o' ms' Po ho' hd' hr;subst ho';refine ⟨_,undef,_,H,E,{w with heap:=w.heap.setIfInBounds b (.map ms' Po)},h,ϖ,?_,.inr ⟨rfl,rfl⟩,?_⟩
        rotate_left
        ·rcases ho with ho|ho<;>simp[execOp,ho,ex,ey,hr]
        ·refine MG hh hw hl (b:=b) (by simp[Bv,he,Ba]) (fun k hk=>?_) (by simp) rfl rfl rfl ?_ (by simp[Bv,he,Ba])
         ·grind
         ·exact ⟨b,ms',Po,he,by grind,hd',h3⟩
       rcases abw dz 0 hes h2 with ⟨i,u,m,e1,e2,e3,e4⟩ |⟨e1,e2⟩
       ·refine fin (.map (ms.modify i fun m=>{m with key:=.int kk n,val:=a.eval z}) clk) _ clk rfl (by grind) ?_
        have e2':ms[i]?=aj m:=by grind
        simp only[fU] at e1;simp[jc,run_underlying ht,hg,hck,fQ,run_underlying hk,e1,e2',e3,lK,kW,hso]
       ·refine fin (.map (ms.push {key:=.int kk n,val:=a.eval z,born:=clk}) (clk+1)) _ (clk+1) rfl (by simp_all) ?_
        simp_all [jc,run_underlying,fQ]
      ·exact h.elim
     ·exact h.elim
    ·rename_i fs id kk hkk hx
     rw[hx] at dx;obtain ⟨b,he,ex⟩:=dx;split at h
     ·rename_i vt M us hl
      split at h
      ·rename_i n hn
       have ey:a.eval y=DZ n:=Yv hn dy;cases hb:(C.pks.contains kt&&(BU c.tm z).one&&(BU c.tm z).agu vt)<;>simp only[hb,ϰ,ϗ] at h
       ·exact h.elim
       rw[aB,aB] at hb;obtain ⟨⟨hpk,hone⟩,hvt⟩:=hb;have hp:=hC.pks _ hpk;obtain ⟨b',ms,clk,uv,he',h1,d2,hT,hL,hok,h3⟩:=hh.ent _ _ hl;have hL':asH vt ((n,ay,BU c.tm z)::us):=fun u hu q=>by
        rcases List.mem_cons.1 hu with rfl|hu
        ·exact hvt
        ·exact hL u hu q
       rw[he] at he';cases he';have hg:(getObj b).run P w=.ok (.map ms clk) w:=by simp[getObj,jT,h1]
       have hck:=hp.chk aA n w;have hso:∀o',(setObj b o').run P w=.ok () {w with heap:=w.heap.setIfInBounds b o'}:=fun o'=>by simp[setObj,jT,h1]
       have fin:∀(ms':Array MapEntry) (Po:Nat),abb ms'.toList (UW M ((n,aj (a.eval z))::uv))->(jc t (.map (aj b)) (DZ n) (a.eval z)).run P w=.ok () {w with heap:=w.heap.setIfInBounds b (.map ms' Po)}->II P K H E w c a o φ:=by
        intro ms' Po hok' hr;refine ⟨_,undef,_,H,E,{w with heap:=w.heap.setIfInBounds b (.map ms' Po)},h,ϖ,?_,.inr ⟨rfl,rfl⟩,?_⟩
        rotate_left
        ·rcases ho with ho|ho<;>simp[execOp,ho,ex,ey,hr]
        ·refine MG hh hw hl (b:=b) (by simp[Bv,he,Ba]) (fun k hk=>?_) (by simp) rfl rfl rfl ?_ (by simp[Bv,he,Ba])
         ·grind
         ·exact ⟨b,ms',Po,(n,aj (a.eval z))::uv,he,by grind,⟨rfl,⟨dz,one_cell hone dz⟩,d2⟩,hT,hL',hok',h3⟩
       obtain ⟨r,e1,e2⟩:=QT hp (n:=n) (w:=w) hok.key;rcases e2 with ⟨rfl,e2⟩ |⟨i,m,rfl,e3,e4⟩
       ·refine fin (ms.push {key:=DZ n,val:=a.eval z,born:=clk}) (clk+1) (by simpa[adi] using hok.push e2 (a.eval z) clk) ?_
        simp_all [jc,run_underlying]
       ·refine fin (ms.modify i fun m=>{m with key:=DZ n,val:=a.eval z}) clk ?_ ?_
        ·have:=hok.set e3 e4 (a.eval z) (f:=fun m=>{m with key:=DZ n,val:=a.eval z}) rfl rfl
         simp_all [adi]
        simp_all [jc,run_underlying,lK,anb]
      ·exact h.elim
     ·exact h.elim
    ·exact h.elim
   ·exact h.elim
  ·exact h.elim
 ·exact h.elim
theorem anc{c:Core}{id b nx':Nat}{sb sb':SB}(hh:Bc K H E w c.hp)(hw:EF K H w)(hl:Aq c.hp id=aj sb)(hb:Bv E id sb=aj b)
  (hE:E.le E') (hnew:∀i,E i=aF->E' i≠aF->c.nx<=i/\i<nx') (hbk:∀i,E i=aF->bk E' i=aF) (hnx:c.nx<=nx') (hlim:nx'<=c.lim\/nx'=c.nx)
  (hother:∀k,k≠b->w'.heap[k]?=w.heap[k]?) (hsz:w'.heap.size=w.heap.size) (hos:w'.os=w.os) (htape:w'.tape=w.tape) (hout:w'.output=w.output)
  (he:Ho K H E' w' id sb') (hb':Bv E' id sb'=aj b):Post K H E w c H E' w' {c with hp:=hset c.hp id sb',nx:=nx',tc:=id::c.tc}:=by
 have Gu:=((hh.ent _ _ hl).lt hb);refine ⟨fun _ _ e=>e,hE,hnew,hnx,hlim,rfl,rfl,?_,?_,fun _ h=>bV _ h,by omega,?_,fun i b h1 h2=>(by simp_all),?_,?_,?_⟩
 ·refine ⟨fun id2 Yx hl2=>?_,fun id1 id2 sb1 Yx b0 h1 h2 o1 o2=>?_⟩
  ·simp only[EC] at hl2
   cases hid:(id==id2)<;>simp only[hid,ϰ,ϗ] at hl2
   ·have hent:=hh.ent _ _ hl2
    refine hent.kept (fun _ _ e=>e) hE (fun b0 hb0=>hother b0 fun e=>?_) fun b0 hb0=>(hent.lt hb0).2.1;subst e;have:=hh.GH _ _ _ _ _ hl hl2 hb hb0;simp_all
   simp_all
  ·have conv:∀{i:Nat} {s:SB},Aq (hset c.hp id sb') i=aj s->Bv E' i s=aj b0->∃s',Aq c.hp i=aj s'/\Bv E i s'=aj b0:=by
    intro i s h o;rw[EC] at h;cases hid:(id==i)<;>simp only[hid,ϰ,ϗ] at h
    ·exact ⟨s,h,by rw[<-Hr (hh.ent _ _ h) hE];exact o⟩
    simp_all
   obtain ⟨s1,a1,a2⟩:=conv h1 o1;obtain ⟨s2,a3,a4⟩:=conv h2 o2;exact hh.GH _ _ _ _ _ a1 a3 a2 a4
 ·refine ⟨hos.trans hw.os,htape.trans hw.tape,hout.trans hw.output,by have:=hw.size;omega,fun k hk hn=>?_,fun k o hk=>?_,hw.le,hw.fresh⟩
  ·rw[hother k fun e=>?_]
   ·exact hw.kept k hk hn
   ·subst e
    (rcases Gu.2.2 with h|h)<;>grind
  ·rw[hother k fun e=>?_]
   ·exact hw.on k o hk
   ·subst e
    rw[Gu.2.1] at hk;cases hk
 ·grind [dn,GK]
 ·grind [GK]
 ·intro i s0 b0 h1 h2 h3
  refine .inr ⟨s0,?_,acz h3 hE⟩;grind [EC]
 ·intro i s0 h1 _
  simp only[EC] at h1;cases hid:(id==i)<;>simp only[hid,ϰ,ϗ] at h1
  ·exact ⟨s0,h1,fun b0 h=>by rw[Hr (hh.ent _ _ h1) hE] at h;exact h⟩
  simp_all
theorem abx{k:IntKind}{n p:Int}{m:MapEntry}{ms:List MapEntry}(hm:m.key=.int k p):Ku k n (m::ms)=if n=p then aj m.val else Ku k n ms:=by
 (by_cases e:n=p)<;>simp_all [Ku,dW]
theorem XA{k:IntKind}{n:Int}:∀{ms:List MapEntry},(∀m∈ms,∃n,m.key=.int k n)->(∀(i j:Nat) (m m':MapEntry),ms[i]?=aj m->ms[j]?=aj m'->m.key=m'.key->i=j)->∀m∈ms,m.key=.int k n->Ku k n ms=aj m.val
 |m0::ms,hk,h1,m,hm,e=>by
  obtain ⟨p,hp⟩:=hk m0 (dn ..);rw[abx hp];by_cases en:n=p
  ·subst en
   rw[if_pos rfl];obtain ⟨j,hj⟩:=dw.1 hm;have:=h1 0 j m0 m rfl hj (hp.trans e.symm);grind
  ·rw[if_neg en]
   refine XA (fun m hm=>hk m (bV _ hm)) (fun i j m m' a b c=>by have:=h1 (i+1) (j+1) m m' (by simpa using a) (by simpa using b) c;omega) m ?_ e;grind
theorem aby{k:IntKind}{n:Int}:∀{ms:List MapEntry},(∀m∈ms,∃n,m.key=.int k n)->(∀m∈ms,m.key≠.int k n)->Ku k n ms=aF
 |[],_,_=>rfl |m::ms,hk,h=>by
  obtain ⟨p,hp⟩:=hk m (dn ..);rw[abx hp,if_neg]
  ·exact aby (fun m hm=>hk m (bV _ hm)) fun m hm=>h m (bV _ hm)
  grind
theorem Z9{k:IntKind}{ms:List MapEntry}{N:Int->Option Value}(hk:∀m∈ms,∃n,m.key=.int k n)(h1:∀(i j:Nat) (m m':MapEntry),ms[i]?=aj m->ms[j]?=aj m'->m.key=m'.key->i=j)
  (h2:∀m∈ms,∀n,m.key=.int k n->N n=aj m.val) (h3:∀n v,N n=aj v->∃m∈ms,m.key=.int k n):∀n,Ku k n ms=N n:=fun n=>by
 cases hn:N n with
 |none=>
  grind [aby]
 |some v=>
  grind [XA]
theorem FW.in_{k:IntKind}{ms:List MapEntry}{clk:Nat}{N:Int->Option Value}(h:FW k ms clk N):(∀m∈ms,∀n,m.key=.int k n->N n=aj m.val)/\(∀n v,N n=aj v->∃m∈ms,m.key=.int k n/\m.val=v):=by
 refine ⟨fun m hm n e=>by rw[<-h.at_,XA h.key h.one m hm e],fun n v hn=>?_⟩;rw[<-h.at_] at hn;obtain ⟨i,_,m,h1,h2,h3⟩:=JW h.key 0 hn;grind
theorem FW.push{k:IntKind}{ms:List MapEntry}{clk:Nat}{N:Int->Option Value}(h:FW k ms clk N){n:Int}(hn:N n=aF)(v:Value):
  FW k (ms++[{key:=.int k n,val:=v,born:=clk}]) (clk+1) (fun j=>if j=n then aj v else N j):=by
 have hne:∀m∈ms,m.key≠.int k n:=fun m hm e=>by rw[h.in_.1 m hm n e] at hn;cases hn
 have hkey:∀m∈ms++[{key:=.int k n,val:=v,born:=clk:MapEntry}],∃n,m.key=.int k n:=fun m hm=>by
  rcases bQ.1 hm with hm|hm
  ·exact h.key m hm
  simp_all
 have hget:∀(i:Nat) (m:MapEntry),(ms++[{key:=.int k n,val:=v,born:=clk:MapEntry}])[i]?=aj m->(i<ms.length/\ms[i]?=aj m)\/(i=ms.length/\m={key:=.int k n,val:=v,born:=clk}):=fun i m hi=>by
  grind
 have hone:∀(i j:Nat) (m m':MapEntry),(ms++[{key:=.int k n,val:=v,born:=clk:MapEntry}])[i]?=aj m->(ms++[{key:=.int k n,val:=v,born:=clk:MapEntry}])[j]?=aj m'->m.key=m'.key->i=j:=fun i j m m' a b e=>by
  rcases hget i m a with ⟨_,a⟩ |⟨a,rfl⟩<;>rcases hget j m' b with ⟨_,b⟩ |⟨b,rfl⟩
  ·exact h.one i j m m' a b e
  ·grind
  ·grind
  ·omega
 refine ⟨hkey,Z9 hkey hone (fun m hm j e=>?_) (fun j u hj=>?_),hone,fun i j m m' a b e=>?_,fun m hm=>?_⟩
 ·rcases bQ.1 hm with hm1|hm1
  ·rw[if_neg (show ¬j=n from fun e2=>hne m hm1 (by simp_all))]
   exact h.in_.1 m hm1 j e
  simp_all
 ·by_cases e:j=n
  ·simp_all
  ·rw[if_neg e] at hj
   obtain ⟨m,hm,q,_⟩:=h.in_.2 j u hj;grind
 ·rcases hget i m a with ⟨_,a⟩ |⟨a,rfl⟩<;>rcases hget j m' b with ⟨_,b⟩ |⟨b,rfl⟩
  ·exact h.born i j m m' a b e
  ·have:=h.lt m (bK a);simp_all
  ·have:=h.lt m' (bK b);simp_all
  ·omega
 ·rcases bQ.1 hm with hm|hm
  ·have:=h.lt m hm;omega
  simp_all
theorem FW.set{k:IntKind}{ms:List MapEntry}{clk:Nat}{N:Int->Option Value}(h:FW k ms clk N){n:Int}{i:Nat}{m0:MapEntry}(hi:ms[i]?=aj m0)(hk:m0.key=.int k n)(v:Value){f:MapEntry->MapEntry}
  (hf1:(f m0).key=.int k n) (hf2:(f m0).val=v) (hf3:(f m0).born=m0.born):FW k (ms.modify i f) clk (fun j=>if j=n then aj v else N j):=by
 have hget:∀(j:Nat) (m:MapEntry),(ms.modify i f)[j]?=aj m->(j=i/\m=f m0)\/(j≠i/\ms[j]?=aj m):=fun j m hj=>by
  grind
 have hin:∀m∈ms.modify i f,m=f m0\/(m∈ms/\m.key≠.int k n):=fun m hm=>by
  obtain ⟨j,hj⟩:=dw.1 hm;rcases hget j m hj with ⟨_,e⟩ |⟨e,e2⟩
  ·exact .inl e
  ·refine .inr ⟨bK e2,fun e3=>e ?_⟩
   exact h.one j i m m0 e2 hi (e3.trans hk.symm)
 have hkey:∀m∈ms.modify i f,∃n,m.key=.int k n:=fun m hm=>by
  rcases hin m hm with rfl|hm
  ·simp_all
  ·exact h.key m hm.1
 have hnew:f m0∈ms.modify i f:=by
  grind
 have hone:∀(a b:Nat) (m m':MapEntry),(ms.modify i f)[a]?=aj m->(ms.modify i f)[b]?=aj m'->m.key=m'.key->a=b:=fun a b m m' ha hb e=>by
  rcases hget a m ha with ⟨a1,rfl⟩ |⟨a1,a2⟩<;>rcases hget b m' hb with ⟨b1,rfl⟩ |⟨b1,b2⟩
  ·omega
  ·exact (b1 (h.one b i m' m0 b2 hi (e.symm.trans (hf1.trans hk.symm)))).elim
  ·exact (a1 (h.one a i m m0 a2 hi (e.trans (hf1.trans hk.symm)))).elim
  ·exact h.one a b m m' a2 b2 e
 refine ⟨hkey,Z9 hkey hone (fun m hm j e=>?_) (fun j u hj=>?_),hone,fun a b m m' ha hb e=>?_,fun m hm=>?_⟩
 ·rcases hin m hm with rfl|⟨hm,hne⟩
  ·simp_all
  ·rw[if_neg fun e2=>by simp_all]
   exact h.in_.1 m hm j e
 ·by_cases e:j=n
  ·grind
  ·rw[if_neg e] at hj
   obtain ⟨m,hm,q,_⟩:=h.in_.2 j u hj;grind [dw,int_inj]
 ·rcases hget a m ha with ⟨a1,rfl⟩ |⟨a1,a2⟩<;>rcases hget b m' hb with ⟨b1,rfl⟩ |⟨b1,b2⟩
  ·omega
  ·exact (b1 (h.born b i m' m0 b2 hi (e.symm.trans hf3))).elim
  ·exact (a1 (h.born a i m m0 a2 hi (e.trans hf3))).elim
  ·exact h.born a b m m' a2 b2 e
 ·rcases hin m hm with rfl|hm
  ·rw[hf3];exact h.lt m0 (bK hi)
  ·exact h.lt m hm.1
theorem FW.del{k:IntKind}{ms:List MapEntry}{clk:Nat}{N:Int->Option Value}(h:FW k ms clk N){n:Int}{i:Nat}{m0:MapEntry}(hi:ms[i]?=aj m0)(hk:m0.key=.int k n):
  FW k (ms.eraseIdx i) clk (fun j=>if j=n then aF else N j):=by
 have hget:∀(j:Nat) (m:MapEntry),(ms.eraseIdx i)[j]?=aj m->ms[if j<i then j else j+1]?=aj m:=fun j m hj=>by
  grind
 have hne:∀m∈ms.eraseIdx i,m∈ms/\m.key≠.int k n:=fun m hm=>by
  obtain ⟨j,hj⟩:=dw.1 hm;have:=hget j m hj;refine ⟨bK this,fun e=>?_⟩;have:=h.one _ i m m0 this hi (e.trans hk.symm);grind
 have hkey:∀m∈ms.eraseIdx i,∃n,m.key=.int k n:=fun m hm=>h.key m (hne m hm).1;have hone:∀(a b:Nat) (m m':MapEntry),(ms.eraseIdx i)[a]?=aj m->(ms.eraseIdx i)[b]?=aj m'->m.key=m'.key->a=b:=fun a b m m' ha hb e=>by
  have:=h.one _ _ m m' (hget a m ha) (hget b m' hb) e;grind
 refine ⟨hkey,Z9 hkey hone (fun m hm j e=>?_) (fun j u hj=>?_),hone,fun a b m m' ha hb e=>?_,fun m hm=>h.lt m (hne m hm).1⟩
 ·rw[if_neg fun e2=>by simp_all]
  exact h.in_.1 m (hne m hm).1 j e
 ·by_cases e:j=n
  ·simp_all
  ·rw[if_neg e] at hj
   obtain ⟨m,hm,q,_⟩:=h.in_.2 j u hj;obtain ⟨a,ha⟩:=dw.1 hm;have hai:a≠i:=fun e2=>by simp_all
   refine ⟨m,dw.2 ⟨if a<i then a else a - 1,?_⟩,q⟩;grind
 ·have:=h.born _ _ m m' (hget a m ha) (hget b m' hb) e
  grind
theorem RF{M:Int->Option Value}{n:Int}{o:Option Value}{uv:List (Int×Option Value)}:WL M ((n,o)::uv)=fun j=>if j=n then o else WL M uv j:=rfl
theorem FW.same{k:IntKind}{ms:List MapEntry}{clk:Nat}{N N':Int->Option Value}(h:FW k ms clk N)(e:∀j,N j=N' j):FW k ms clk N':=by
 have:N=N':=funext e;simp_all
theorem ane{e:Nat}{te:LJ}{z:SV}(hte:Qo P e te)(hz:pack te.ty.isAgg te.zero=aj z):∃zv:Value,Den H E z zv/\(∀w:World,(zeroValue e).run P w=.ok zv w)/\(te.ty.isAgg=aA->zv.oneCell'=ay):=by
 obtain ⟨inf,zv,h1,h2,_,h4,h5,h6,h7,h8⟩:=hte.info;have h5':AP H E te.zero zv.cells.toList:=h5.le (fun _ _ e=>by cases e) (fun _ _ e=>by cases e);refine ⟨zv,?_,fun w=>by simp[zeroValue,typeInfo,h1,h4],fun ha=>(h8 ha).2⟩;rcases Pj hz with ⟨ha,rfl⟩ |⟨ha,hl⟩
 ·obtain ⟨cs,rfl⟩:=h7 ha
  exact ⟨cs,rfl,h5'⟩
 ·rw[hl] at h5'
  have h8:=(h8 ha).2;cases zv with
  |agg cs=>simp[jr] at h8 |_=>
   simp_all [lF,AP]
theorem aac{es:Array MapEntry}{i:Nat}{f:MapEntry->MapEntry}{m:MapEntry}(h:es[i]?=aj m)(hf:f m=m):es.modify i f=es:=by
 grind
theorem akc{c:Core}{a:Act}{o:Oper}{t:Nat}{x y:Operand}{φ:SV×Core->Prop}(hC:BP P C)(hd:AP H E c.tm a.tmps.toList)(hh:Bc K H E w c.hp)(hw:EF K H w)(hf:Free E c)
  (ho:o.op=.mapEntry t x y) (h:(QL C c t (BU c.tm x) (BU c.tm y)).All φ):II P K H E w c a o φ:=by
 have dx:=BM (H:=H) (E:=E) hd x;have dy:=BM (H:=H) (E:=E) hd y;unfold QL at h;split at h
 ·rename_i ti hti
  split at h
  ·rename_i kt e hty
   have ht:=(hC.ty _ _ hti).desc;rw[hty] at ht;have ht:P.underlying t=aj (.map kt e):=ht;split at h
   ·rename_i kti te akb hte
    have hk:=(hC.ty _ _ akb).desc;have hte:=hC.ty _ _ hte;split at h
    ·rename_i kk z id j n lit hkk hz hx hy
     rw[hkk] at hk;have hk:P.underlying kt=aj (.int kk):=hk;rw[hx] at dx;obtain ⟨b,he,ex⟩:=dx;have ey:a.eval y=.int j n:=Nj hy dy;split at h
     ·rename_i fk M fs us tag hl
      cases hb:(j==kk&&fk==kk&&z.one&&fC c.nx c.lim)<;>simp only[hb,ϰ,ϗ] at h
      ·exact h.elim
      simp only[aB,ϡ] at hb;obtain ⟨⟨⟨rfl,rfl⟩,azT⟩,hlt⟩:=hb;have hlt:=MC hlt;obtain ⟨b',ms,clk,fv,uv,he',h1,d1,d2,hM,hok,_,Gu⟩:=hh.ent _ _ hl;rw[he] at he';cases he';rw[hC.A] at h;obtain ⟨p,sv,ov,hφ,hpo,hat⟩:=abm hM d2 d1 h;have hg:(getObj b).run P w=.ok (.map ms clk) w:=by simp[getObj,jT,h1]
      have hck:=Nl (P:=P) hk aA fk n w;have hso:∀o',(setObj b o').run P w=.ok () {w with heap:=w.heap.setIfInBounds b o'}:=fun o'=>by simp[setObj,jT,h1]
      obtain ⟨zv,hzd,Xw,hz1⟩:=ane (H:=H) (E:=E) hte hz;have hnone:=hf c.nx (bM _) hlt;have fin:∀(ms':Array MapEntry) (Po:Nat) (v:Value) (bn:Nat),Den H E (bif p then sv else z) v->v.oneCell'=ay->FW fk ms'.toList Po (WL M ((n,aj v)::uv))->(∃m∈ms'.toList,m.key=.int fk n/\m.born=bn)->
        (nR t (.map (aj b)) (.int fk n)).run P w=.ok (.tuple #[v,goInt bn]) {w with heap:=w.heap.setIfInBounds b (.map ms' Po)}->II P K H E w c a o φ:=by
       intro ms' Po v bn hv hv1 hok' htag hr;obtain ⟨m,hm,hmk,hmb⟩:=htag;have hle:E.le (E.set c.nx (goInt bn)):=lU hnone;refine ⟨_,.tuple #[v,goInt bn],_,H,E.set c.nx (goInt bn),{w with heap:=w.heap.setIfInBounds b (.map ms' Po)},hφ,⟨_,rfl,hv.le (fun _ _ e=>e) hle,dG _ _ _,ϖ⟩,?_,.inl rfl,?_⟩
       ·refine anc (E':=E.set c.nx (goInt bn)) (nx':=c.nx+1) hh hw hl (b:=b) (by simp[Bv,he,Ba]) hle (fun i h1 h2=>?_) (fun i h1=>?_) (Nat.le_succ _) (.inl hlt) (fun k hk=>?_) (by simp) rfl rfl rfl ?_ (by simp[Bv,hle _ _ he,Ba])
        ·simp_all [qc]
        ·simp_all [bk,qc,goInt,Ba]
        ·grind
        ·exact ⟨b,ms',Po,fv,(n,aj v)::uv,hle _ _ he,by grind,d1.le (fun _ _ e=>e) hle,⟨rfl,⟨hv.le (fun _ _ e=>e) hle,hv1⟩,d2.le (fun _ _ e=>e) hle⟩,hM,hok',
          ⟨m,hm,hmk,by rw[dG,hmb];rfl⟩,Gu⟩
       simp_all [execOp]
      rw[<-hok.at_] at hat;cases p with
      |true=>
       cases ov with
       |none=>exact hpo.elim |some v=>
        obtain ⟨i,e1,m,e2,e3,e4⟩:=JW hok.key 0 hat;simp only[fU] at e1;have e2':ms[i]?=aj m:=by grind
        refine fin ms clk v m.born hpo.1 hpo.2 (hok.same fun k=>?_) ⟨m,bK e2,e3,rfl⟩ ?_
        ·rw[RF]
         by_cases ek:k=n
         ·subst ek;simp only[if_true];rw[<-hok.at_];exact hat
         ·simp[ek]
        ·have hmod:(ms.modify i fun e=>{key:=.int fk n,val:=e.val,born:=e.born})=ms:=aac e2' (by cases m;simp_all)
         simp[nR,run_underlying ht,hg,hck,fQ,run_underlying hk,e1,e2',e3,lK,kW,hso,hmod]
      |false=>
       cases ov with
       |some v=>exact hpo.elim |none=>
        have e1:=Nk hok.key 0 hat;rw[hok.at_] at hat;have hz1:zv.oneCell'=ay:=one_cell azT hzd;refine fin (ms.push {key:=.int fk n,val:=zv,born:=clk}) (clk+1) zv clk hzd hz1 (by simpa[RF] using hok.push hat zv) ⟨{key:=.int fk n,val:=zv,born:=clk},by simp,rfl,rfl⟩ ?_;simp_all [nR,run_underlying,fQ]
     ·exact h.elim
    ·exact h.elim
   ·exact h.elim
  ·exact h.elim
 ·exact h.elim
theorem afX{c:Core}{a:Act}{o:Oper}{t:Nat}{x y z:Operand}{φ:SV×Core->Prop}(hd:AP H E c.tm a.tmps.toList)(hh:Bc K H E w c.hp)(hw:EF K H w)
  (ho:o.op=.entryStore t x y z) (h:(NY c (BU c.tm x) (BU c.tm y) (BU c.tm z)).All φ):II P K H E w c a o φ:=by
 have dx:=BM (H:=H) (E:=E) hd x;have dy:=BM (H:=H) (E:=E) hd y;have dz:=BM (H:=H) (E:=E) hd z;unfold NY at h;split at h
 ·rename_i id s hx hy
  rw[hx] at dx;rw[hy] at dy;obtain ⟨b,he,ex⟩:=dx;have dy:E s=aj (a.eval y):=dy;split at h
  ·rename_i fk M fs us s' n hl
   cases hb:(s==s'&&(BU c.tm z).one)<;>simp only[hb,ϰ,ϗ] at h
   ·exact h.elim
   simp only[aB,ϡ] at hb;obtain ⟨rfl,hone⟩:=hb;obtain ⟨b',ms,clk,fv,uv,he',h1,d1,d2,hM,hok,⟨m,hm,hmk,hms⟩,Gu⟩:=hh.ent _ _ hl;rw[he] at he';cases he';rw[dy] at hms;have ey:a.eval y=.int .i64 m.born:=bP hms;have hg:(getObj b).run P w=.ok (.map ms clk) w:=by simp[getObj,jT,h1]
   have hso:∀o',(setObj b o').run P w=.ok () {w with heap:=w.heap.setIfInBounds b o'}:=fun o'=>by simp[setObj,jT,h1]
   obtain ⟨i,hi⟩:=dw.1 hm;have hi':ms[i]?=aj m:=by grind
   have hfind:ms.findIdx? (fun e=>(e.born:Int)==m.born)=aj i:=by
    rw[Array.findIdx?_eq_some_iff_getElem];have hlt:=(bC.1 hi').1;refine ⟨hlt,by simp_all,fun j hj=>?_⟩;have hjl:j<ms.size:=by omega
    intro e;have e:ms[j].born=m.born:=by grind
    have:=hok.born j i ms[j] m (by simp[hjl]) hi e;omega
   refine ⟨_,undef,_,H,E,{w with heap:=w.heap.setIfInBounds b (.map (ms.modify i fun e=>{e with val:=a.eval z}) clk)},h,ϖ,?_,.inr ⟨rfl,rfl⟩,?_⟩
   ·refine MG hh hw hl (b:=b) (by simp[Bv,he,Ba]) (fun k hk=>?_) (by simp) rfl rfl rfl ?_ (by simp[Bv,he,Ba])
    ·grind
    ·refine ⟨b,_,clk,fv,(n,aj (a.eval z))::uv,he,by simp only;rw[ah8 w b b _ _ h1,if_pos rfl],d1,⟨rfl,⟨dz,one_cell hone dz⟩,d2⟩,hM,?_,⟨{m with val:=a.eval z},?_,hmk,by rw[dy,ey]⟩,Gu⟩
     ·have:=hok.set hi hmk (a.eval z) (f:=fun e=>{e with val:=a.eval z}) hmk rfl rfl
      simp_all [RF]
     ·rw[Array.toList_modify]
      refine dw.2 ⟨i,?_⟩;simp_all
   simp_all [execOp,Instr.entryStore,asInt,asIntOf]
  ·exact h.elim
 ·exact h.elim
theorem aqO{c:Core}{a:Act}{o:Oper}{t:Nat}{ts:Array TypeId}{x y:Operand}{φ:SV×Core->Prop}(hC:BP P C)(hd:AP H E c.tm a.tmps.toList)(hh:Bc K H E w c.hp)(hw:EF K H w)
  (ho:o.op=.call {callee:=.builtin .delete,args:=#[x,y],argTypes:=ts}) (hts:ts[0]?=aj t) (h:(UQ C c t (BU c.tm x) (BU c.tm y)).All φ):II P K H E w c a o φ:=by
 have dx:=BM (H:=H) (E:=E) hd x;have dy:=BM (H:=H) (E:=E) hd y;unfold UQ at h;split at h
 ·rename_i ti hti
  split at h
  ·rename_i kt e hty
   have ht:=(hC.ty _ _ hti).desc;rw[hty] at ht;have ht:P.underlying t=aj (.map kt e):=ht;split at h
   ·rename_i kti akb
    have hk:=(hC.ty _ _ akb).desc;split at h
    ·rename_i kk id j n lit hkk hx hy
     rw[hkk] at hk;have hk:P.underlying kt=aj (.int kk):=hk;rw[hx] at dx;obtain ⟨b,he,ex⟩:=dx;have ey:a.eval y=.int j n:=Nj hy dy;split at h
     ·rename_i fk M fs us tag hl
      cases hb:(j==kk&&fk==kk)<;>simp only[hb,ϰ,ϗ] at h
      ·exact h.elim
      simp only[aB,ϡ] at hb;obtain ⟨rfl,rfl⟩:=hb;obtain ⟨b',ms,clk,fv,uv,he',h1,d1,d2,hM,hok,_,Gu⟩:=hh.ent _ _ hl;rw[he] at he';cases he';have hg:(getObj b).run P w=.ok (.map ms clk) w:=by simp[getObj,jT,h1]
      have hck:=fun em=>Nl (P:=P) hk em fk n w;have hso:∀o',(setObj b o').run P w=.ok () {w with heap:=w.heap.setIfInBounds b o'}:=fun o'=>by simp[setObj,jT,h1]
      have fin:∀(ms':Array MapEntry),FW fk ms'.toList clk (WL M ((n,aF)::uv))->(mJ ts o.type #[.map (aj b),.int fk n]).run P w=.ok (.tuple #[]) {w with heap:=w.heap.setIfInBounds b (.map ms' clk)}->II P K H E w c a o φ:=by
       intro ms' hok' hr;refine ⟨_,.tuple #[],_,H,E,{w with heap:=w.heap.setIfInBounds b (.map ms' clk)},h,ϖ,?_,.inl rfl,?_⟩
       ·refine MG hh hw hl (b:=b) (by simp[Bv,he,Ba]) (fun k hk=>?_) (by simp) rfl rfl rfl ?_ (by simp[Bv,he,Ba])
        ·grind
        ·exact ⟨b,ms',clk,fv,(n,aF)::uv,he,by grind,d1,⟨rfl,ϖ,d2⟩,hM,hok',ϖ,Gu⟩
       simp_all [execOp,resolve,invoke,builtin]
      cases hat:Ku fk n ms.toList with
      |some v=>
       obtain ⟨i,e1,m,e2,e3,e4⟩:=JW hok.key 0 hat;simp only[fU] at e1;refine fin (ms.eraseIdxIfInBounds i) ?_ ?_
       ·have:=hok.del e2 e3
        simp_all [RF,Array.toList_eraseIdxIfInBounds]
       ·simp[mJ,hts,run_underlying ht,hg,hck,fQ,run_underlying hk,e1,hso]
      |none=>
       have e1:=Nk hok.key 0 hat;refine fin ms ?_ ?_
       ·refine hok.same fun k=>?_
        rw[RF];by_cases ek:k=n
        ·subst ek;simp only[if_true];rw[<-hok.at_];exact hat
        ·simp[ek]
       ·simp[mJ,hts,run_underlying ht,hg,hck,fQ,run_underlying hk,e1,hso]
     ·exact h.elim
    ·exact h.elim
   ·exact h.elim
  ·exact h.elim
 ·exact h.elim
end
theorem Tree.Gx{α β:Type}{φ:β->Prop}{k:α->Tree β}:∀{t:Tree α},(t.bind k).All φ->t.All fun a=>(k a).All φ
 | .leaf _,h=>h | .node _ _ _,h=>⟨fun e=>Tree.Gx (h.1 e),fun e=>Tree.Gx (h.2 e)⟩ | .need _ _,h=>⟨h.1,Tree.Gx h.2⟩ | .must _ _,h=>⟨h.1,Tree.Gx h.2⟩ | .both _ _,h=>⟨Tree.Gx h.1,Tree.Gx h.2⟩ | .fail,h=>h.elim
theorem Tree.All.mono{α:Type}{φ ψ:α->Prop}(h:∀a,φ a->ψ a):∀{t:Tree α},t.All φ->t.All ψ
 | .leaf _,hh=>h _ hh | .node _ _ _,hh=>⟨fun e=>(hh.1 e).mono h,fun e=>(hh.2 e).mono h⟩ | .need _ _,hh=>⟨hh.1,hh.2.mono h⟩ | .must _ _,hh=>⟨hh.1,hh.2.mono h⟩ | .both _ _,hh=>⟨hh.1.mono h,hh.2.mono h⟩ | .fail,hh=>hh.elim
section
variable{P:Program}{C:Ctx}{K:Kx}{H H' RG:Mem}{E E' RH:Env}{w w' w'':World}
def Mv(K:Kx)(H:Mem)(E:Env)(w:World)(c:Core)(H':Mem)(E':Env)(w':World)(c':Core):Prop:=Post K H E w c H' E' w' {c' with tm:=c.tm}
theorem Post.mv{c c':Core}(h:Post K H E w c H' E' w' c'):Mv K H E w c H' E' w' c':=by
 have:=h.tm;unfold Mv;rw[<-this];exact h
theorem Mv.to{c c' d d':Core}(h:Mv K H E w c H' E' w' c')(h1:d.hp=c.hp)(h2:d.nx=c.nx)(h3:d.lim=c.lim)(h4:d.tc=c.tc)(h1':d'.hp=c'.hp)(h2':d'.nx=c'.nx)(h3':d'.lim=c'.lim)(h4':d'.tc=c'.tc):Mv K H E w d H' E' w' d':=by
 obtain ⟨t,hp,nx,lim,tc⟩:=c;obtain ⟨t',hp',nx',lim',tc'⟩:=c';obtain ⟨t1,hp1,nx1,aGj,tc1⟩:=d;obtain ⟨t2,hp2,nx2,aGk,tc2⟩:=d';simp only at h1 h2 h3 h4 h1' h2' h3' h4';subst h1 h2 h3 h4 h1' h2' h3' h4';exact ⟨h.Ji,h.Qc,h.new,h.nx,h.lim,h.agC,rfl,h.hp,h.CP,h.tc,h.size,h.fr,h.Pn,h.Z5,h.keep,h.old⟩
structure Ch(K:Kx)(H:Mem)(E:Env)(w:World)(q:List (Nat×SB))(u:List Nat)(H':Mem)(E':Env)(w':World)(q':List (Nat×SB))(u':List Nat)(New:Nat->Prop):Prop where
 Ji:H.le H'
 Qc:E.le E'
 new:∀i,E i=aF->E' i≠aF->New i
 hp:Bc K H' E' w' q'
 CP:EF K H' w'
 tc:∀id∈u,id∈u'
 size:w.heap.size<=w'.heap.size
 fr:∀b,b<w.heap.size->(∀id∈u',bk E id≠aj b)->w'.heap[b]?=w.heap[b]?
 Pn:∀i b,E i=aF->bk E' i=aj b->w.heap.size<=b\/∃id∈u',bk E id=aj b
 Z5:∀id∈u',id∈u\/E id=aF\/∃sb,Aq q id=aj sb/\Bv E id sb=bk E id
 keep:∀id sb b,Aq q id=aj sb->id ∉ u'->Bv E id sb=aj b->H' b≠aF\/∃sb',Aq q' id=aj sb'/\Bv E' id sb'=aj b
 old:∀id sb,Aq q' id=aj sb->E id≠aF->∃sb0,Aq q id=aj sb0/\∀b,Bv E' id sb=aj b->Bv E id sb0=aj b
theorem Mv.ch{c c':Core}(h:Mv K H E w c H' E' w' c'):Ch K H E w c.hp c.tc H' E' w' c'.hp c'.tc (fun i=>c.nx<=i/\i<c'.nx):=
 ⟨h.Ji,h.Qc,h.new,h.hp,h.CP,h.tc,h.size,h.fr,h.Pn,h.Z5,h.keep,h.old⟩
theorem Ch.mv{c c':Core}(h:Ch K H E w c.hp c.tc H' E' w' c'.hp c'.tc (fun i=>c.nx<=i/\i<c'.nx))(h1:c.nx<=c'.nx)(h2:c'.nx<=c.lim\/c'.nx=c.nx)(h3:c'.lim=c.lim):Mv K H E w c H' E' w' c':=
 ⟨h.Ji,h.Qc,h.new,h1,h2,h3,rfl,h.hp,h.CP,h.tc,h.size,h.fr,h.Pn,h.Z5,h.keep,h.old⟩
theorem Ch.mono{hp hp':List (Nat×SB)}{tc tc':List Nat}{N N':Nat->Prop}(h:Ch K H E w hp tc H' E' w' hp' tc' N)(hN:∀i,N i->N' i):Ch K H E w hp tc H' E' w' hp' tc' N':=
 {h with new:=fun i h1 h2=>hN i (h.new i h1 h2)}
theorem Ch.add{hp hp':List (Nat×SB)}{tc':List Nat}{N:Nat->Prop}(h:Ch K H E w hp [] H' E' w' hp' tc' N)(t:List Nat):Ch K H E w hp t H' E' w' hp' (tc'++t) N:=
 {h with
  tc:=fun id hid=>bQ.2 (.inr hid)
  fr:=fun b hb hne=>h.fr b hb fun id hid=>hne id (bQ.2 (.inl hid))
  Pn:=fun i b h1 h2=>(h.Pn i b h1 h2).imp (fun h=>h) fun ⟨id,h3,h4⟩=>⟨id,bQ.2 (.inl h3),h4⟩
  Z5:=fun id hid=>by
   rcases bQ.1 hid with h1|h1
   ·(rcases h.Z5 id h1 with h2|h2)<;>simp_all
   simp_all
  keep:=fun id sb b h1 h2 h3=>h.keep id sb b h1 (fun h4=>h2 (bQ.2 (.inl h4))) h3}
theorem Ch.trans{hp hp1 hp2:List (Nat×SB)}{tc tc1 tc2:List Nat}{N:Nat->Prop}(h1:Ch K H E w hp tc H' E' w' hp1 tc1 N)(h2:Ch K H' E' w' hp1 tc1 RG RH w'' hp2 tc2 N):Ch K H E w hp tc RG RH w'' hp2 tc2 N:=by
 have tc1:=h1.tc;have tc2:=h2.tc;have noneE:∀{i:Nat},E' i=aF->E i=aF:=fun {i} h=>by
  cases he:E i with
  |none=>rfl |some v=>rw[h1.Qc _ _ he] at h;cases h
 have bkE:∀{i b:Nat},E i≠aF->bk E' i=aj b->bk E i=aj b:=fun {i b} hne h=>by
  cases he:E i with
  |none=>simp_all |some v=>simp only[bk,h1.Qc _ _ he] at h;simp_all [bk]
 refine ⟨fun b o h=>h2.Ji b o (h1.Ji b o h),fun i v h=>h2.Qc i v (h1.Qc i v h),fun i e1 e2=>?_,h2.hp,h2.CP,fun id h=>tc2 id (tc1 id h),fE h1.size h2.size,
  fun b hb hne=>?_,fun i b e1 e2=>?_,fun id hid=>?_,fun id sb b hl hn ho=>?_,fun id sb hl hne=>?_⟩
 ·cases he:E' i with
  |none=>exact h2.new i he e2 |some v=>exact h1.new i e1 (by rw[he];simp)
 ·rw[h2.fr b (by have:=h1.size;omega) fun id hid e=>?_]
  ·exact h1.fr b hb fun id hid=>hne id (tc2 id hid)
  ·cases he:E id with
   |none=>
    (rcases h1.Pn id b he e with h|⟨id',h3,h4⟩)<;>grind
   |some v=>grind
 ·cases he:E' i with
  |none=>
   rcases h2.Pn i b he e2 with h|⟨id',h3,h4⟩
   ·exact .inl (by have:=h1.size;omega)
   ·cases he2:E id' with
    |none=>
     (rcases h1.Pn id' b he2 h4 with h|⟨id2,h5,h6⟩)<;>grind
    |some v=>grind
  |some v=>
   have e3:bk E' i=aj b:=by simp only[bk,h2.Qc _ _ he] at e2;simp_all [bk]
   (rcases h1.Pn i b e1 e3 with h|⟨id2,h5,h6⟩)<;>grind
 ·rcases h2.Z5 id hid with h|h|⟨sb,h3,h4⟩
  ·exact h1.Z5 id h
  ·simp_all
  ·cases he:E id with
   |none=>simp |some v=>
    obtain ⟨sb0,h5,h6⟩:=h1.old id sb h3 (by rw[he];simp);refine .inr (.inr ⟨sb0,h5,?_⟩);have e':bk E' id=bk E id:=by simp[bk,he,h1.Qc _ _ he]
    rw[e'] at h4;cases hb:bk E id with
    |some b=>simp_all |none=>
     cases ho:Bv E id sb0 with
     |none=>rfl |some b=>grind [GK]
 ·rcases h1.keep id sb b hl (fun h=>hn (tc2 id h)) ho with h|⟨sb',h3,h4⟩
  ·cases hb:H' b with
   |none=>simp_all |some o=>exact .inl (by rw[h2.Ji b o hb];simp)
  ·exact h2.keep id sb' b h3 hn h4
 ·have hne':E' id≠aF:=fun h=>hne (noneE h)
  obtain ⟨sb1,h3,h4⟩:=h2.old id sb hl hne';obtain ⟨sb0,h5,h6⟩:=h1.old id sb1 h3 hne;simp_all
theorem Mv.trans{c c1 c2:Core}(h1:Mv K H E w c H' E' w' c1)(h2:Mv K H' E' w' c1 RG RH w'' c2):Mv K H E w c RG RH w'' c2:=by
 have hnx1:c.nx<=c1.nx:=h1.nx;have hnx2:c1.nx<=c2.nx:=h2.nx;have aEF:c1.lim=c.lim:=h1.agC;have aEG:c2.lim=c1.lim:=h2.agC;have hl1:c1.nx<=c.lim\/c1.nx=c.nx:=h1.lim;have hl2:c2.nx<=c1.lim\/c2.nx=c1.nx:=h2.lim;exact ((h1.ch.mono fun i hi=>⟨hi.1,by omega⟩).trans (h2.ch.mono fun i hi=>⟨by omega,hi.2⟩)).mv (by omega) (by omega) (by omega)
theorem Mv.free{c c':Core}(h:Mv K H E w c H' E' w' c')(hf:Free E c):Free E' c':=by
 intro i h1 h2;have hn:c.nx<=c'.nx:=h.nx;have hl:c'.lim=c.lim:=h.agC;cases he:E' i with
 |none=>rfl |some v=>
  have:=h.new i (hf i (by omega) (by omega)) (by rw[he];simp);grind
structure St(C:Ctx)(K:Kx)(H:Mem)(E:Env)(w:World)(c:Core)(a:Act):Prop where
 den:AP H E c.tm a.tmps.toList
 hp:Bc K H E w c.hp
 CP:EF K H w
 free:Free E c
 gl:DI C.gls H
 defers:a.defers=[]
structure Dx(H:Mem)(w:World)(s:Sh)(v:Value)(H':Mem)(w':World):Prop where
 Ji:H.le H'
 on:H'.on w'
 os:w'.os=w.os
 tape:w'.tape=w.tape
 output:w'.output=w.output
 size:w.heap.size<=w'.heap.size
 old:∀b,b<w.heap.size->w'.heap[b]?=w.heap[b]?
 fresh:∀b,H' b≠aF->H b≠aF\/w.heap.size<=b
 res:∀b0:Nat,∃E1:Env,(∀i,E1 i≠aF->b0<=i/\i<(Dt s b0).2.2)/\(∀i b,bk E1 i=aj b->w.heap.size<=b)/\Den H' E1 (Dt s b0).1 v/\Bc ⟨w,fun _=>False,H⟩ H' E1 w' (Ed [] (Dt s b0).2.1)
def AO(P:Program)(gls:List (Nat×Sh))(f:Nat)(F:ϵ):Prop:=
 ∀(H:Mem) (w:World) (Bl:List Sh) (args:List Value) (φ:Sh->Prop),H.on w->DI gls H->EN H Bl args->(F Bl).All φ->
  Calls P f args.toArray w fun e w'=>∃v s H',e=.returned v/\φ s/\Dx H w s v H' w'
def adk(P:Program)(C:Ctx):Prop:=∀g F,C.spec g=aj F->AO P C.gls g F
theorem GL:∀(l hp:List (Nat×SB)) (i:Nat),Aq (Ed hp l) i=match Aq (Ed [] l) i with|some x=>aj x|none=>Aq hp i
 |[],hp,i=>by rfl |(j,b)::l,hp,i=>by
  rw[Ed,Ed,GL l (hins hp j b),GL l (hins [] j b),Fb,Fb];grind [Aq,Ed]
mutual
theorem akd:∀(s:Sh) (b:Nat),b<=(Dt s b).2.2
 | .os _ _ _ _,b=>by simp[Dt] | .agg l,b=>by simpa[Dt] using aad l b | .Az l,b=>by simpa[Dt] using aad l b | .i _ _,b=>bM _ | .b _,b=>bM _ | .v _,b=>bM _ | .str _,b=>bM _ | .sl _ _ _,b=>bM _ | .DK _ _,b=>bM _ | .fn _ _,b=>bM _ | .er _ _,b=>bM _ | .pt _,b=>bM _
theorem aad:∀(l:List Sh) (b:Nat),b<=(ES l b).2.2
 |[],b=>bM _ |x::r,b=>by simpa[ES] using fE (akd x b) (aad r _)
end
theorem Ho.world{K1:Kx}{id:Nat}{sb:SB}(h:Ho K1 H E w id sb)(hE:E.le E')(hm:∀b,Mine K1 H b->Mine K H b):Ho K H E' w id sb:=by
 cases sb with
 |box cells elem=>obtain ⟨b,cs,he,h1,h2,h3⟩:=h;exact ⟨b,cs,hE _ _ he,h1,h2.le (fun _ _ e=>e) hE,hm _ h3⟩ |row cells elem st n=>obtain ⟨v,xs,he,h1,h2,h3⟩:=h;exact ⟨v,xs,hE _ _ he,h1,h2.le (fun _ _ e=>e) hE,fun b hb=>hm _ (h3 b hb)⟩ |own elem st n g=>obtain ⟨v,xs,he,h1,h2,h3⟩:=h;exact ⟨v,xs,hE _ _ he,h1,h2,fun b hb=>hm _ (h3 b hb)⟩ |fz st n g=>obtain ⟨v,he,h1⟩:=h;exact ⟨v,hE _ _ he,h1⟩ |map es=>obtain ⟨b,ms,clk,he,h1,h2,h3⟩:=h;exact ⟨b,ms,clk,hE _ _ he,h1,h2.le (fun _ _ e=>e) hE,hm _ h3⟩ |UC l=>obtain ⟨v,he,h1⟩:=h;exact ⟨v,hE _ _ he,h1⟩ |Ik elem st n g more=>obtain ⟨v,xs,ys,he,h1,h2,h3,h4,h5,h6⟩:=h;exact ⟨v,xs,ys,hE _ _ he,h1,h2,h3.le (fun _ _ e=>e) hE,h4,h5,fun b hb=>hm _ (h6 b hb)⟩ |fm k M fs us tag=>obtain ⟨b,ms,clk,fv,uv,he,h1,h2,h3,h4,h5,h6,h7⟩:=h;exact ⟨b,ms,clk,fv,uv,hE _ _ he,h1,h2.le (fun _ _ e=>e) hE,h3.le (fun _ _ e=>e) hE,h4,h5,h6.le hE,hm _ h7⟩ |pm vt M us=>obtain ⟨b,ms,clk,uv,he,h1,h2,h3,h4,h5,h7⟩:=h;exact ⟨b,ms,clk,uv,hE _ _ he,h1,h2.le (fun _ _ e=>e) hE,h3,h4,h5,hm _ h7⟩ |buf e l=>obtain ⟨v,he,h1,h3⟩:=h;exact ⟨v,hE _ _ he,h1,fun b hb=>hm _ (h3 b hb)⟩
def KY(P:Program)(K:Kx)(H:Mem)(E:Env)(w:World)(c:Core)(g:Nat)(FQ:List Value)(φ:SV×Core->Prop):Prop:=
 Calls P g FQ.toArray w fun e w'=>∃p v H' E',e=.returned v/\φ p/\Den H' E' p.1 v/\Post K H E w c H' E' w' p.2
theorem anf(hS:adk P C){c:Core}{g:Nat}{F:ϵ}{args:List SV}{FQ:List Value}{φ:SV×Core->Prop}(hF:C.spec g=aj F)(hh:Bc K H E w c.hp)(hw:EF K H w)(hf:Free E c)
  (hg:DI C.gls H) (hd:AP H E args FQ) (h:(spread c F args).All φ):KY P K H E w c g FQ φ:=by
 unfold spread at h;split at h
 ·exact h.elim
 ·rename_i hp hfz
  obtain ⟨H1,hH,hh1,hw1,hz⟩:=MH hfz hh hw;split at h
  ·exact h.elim
  ·rename_i Bl hsh
   have hrep:=EL hh1 hsh (hd.le hH fun _ _ e=>e);refine lM (hS g F hF H1 w Bl FQ _ hw1.on (hg.le hH) hrep (Tree.Gx h)) fun e w' ⟨v,s,H',he,hφ,r⟩=>?_;obtain ⟨E1,r1,r2,r3,r4⟩:=r.res c.nx;cases hb:gy (Dt s c.nx).2.2 c.lim<;>simp only[hb,ϰ,ϗ] at hφ
   ·exact hφ.elim
   have hb:=fP hb;have hge:=akd s c.nx;have aEB:∀i u,E i=aj u->E1 i=aF:=fun i u hu=>by
    cases h1:E1 i with
    |none=>rfl |some u'=>
     have:=r1 i (by rw[h1];simp);have:=hf i this.1 (by omega);simp_all
   let E2:Env:=fun i=>match E1 i with|some u=>aj u|none=>E i
   have hE:E.le E2:=fun i u hu=>by grind
   have hE1:E1.le E2:=fun i u hu=>by simp[E2,hu]
   have conv:∀i,E i=aF->E2 i=E1 i:=fun i hi=>by grind
   have hold:∀{id:Nat} {sb:SB},Ho K H1 E w id sb->Ho K H' E2 w' id sb:=fun {id sb} hent=>
    hent.kept r.Ji hE (fun b hb=>r.old b (hent.lt hb).1) fun b hb=>by
     cases hx:H' b with
     |none=>rfl |some o=>
      rcases r.fresh b (by rw[hx];simp) with h|h
      ·exact (h (hent.lt hb).2.1).elim
      ·have:=(hent.lt hb).1;omega
   have hnew:∀{id:Nat} {sb:SB},Aq (Ed [] (Dt s c.nx).2.1) id=aj sb->Ho K H' E2 w' id sb/\(∀b,Bv E2 id sb=aj b->w.heap.size<=b/\Bv E1 id sb=aj b)/\E id=aF:=fun {id sb} hl=>by
    have hent:=r4.ent _ _ hl;refine ⟨hent.world hE1 fun b hm=>⟨hm.1,?_⟩,fun b ho=>?_,?_⟩
    ·rcases hm.2 with h|h
     ·exact .inl (fE hw.size h)
     grind
    ·rw[Hr hent hE1] at ho
     exact ⟨r2 id b (GK ho),ho⟩
    ·obtain ⟨u,hu⟩:=hent.some_
     have:=r1 id (by rw[hu];simp);exact hf id this.1 (by omega)
   refine ⟨_,v,H',E2,he,hφ,r3.le (fun _ _ e=>e) hE1,fun b o h=>r.Ji b o (hH b o h),hE,fun i h1 h2=>?_,hge,.inl hb,rfl,rfl,⟨fun id sb hl=>?_,fun id id' sb sb' b h1 h2 o1 o2=>?_⟩,
    ⟨r.os.trans hw.os,r.tape.trans hw.tape,r.output.trans hw.output,fE hw.size r.size,fun b hb hn=>?_,r.on,fun b o h=>r.Ji b o (hw1.le b o h),fun b hb=>?_⟩,fun _ h=>h,r.size,fun b hb _=>r.old b hb,fun i b h1 h2=>?_,
    fun _ h=>.inl h,fun id sb b hl _ ho=>?_,fun id sb hl hne=>?_⟩
   ·simp_all
   ·have hl:Aq (Ed hp (Dt s c.nx).2.1) id=aj sb:=hl
    rw[GL] at hl;split at hl
    ·simp_all
    ·exact hold (hh1.ent _ _ hl)
   ·have h1:Aq (Ed hp (Dt s c.nx).2.1) id=aj sb:=h1
    have h2:Aq (Ed hp (Dt s c.nx).2.1) id'=aj sb':=h2;rw[GL] at h1 h2;split at h1
    ·rename_i x hx
     cases h1;split at h2
     ·rename_i y hy
      cases h2;exact r4.GH _ _ _ _ _ hx hy ((hnew hx).2.1 b o1).2 ((hnew hy).2.1 b o2).2
     ·have a1:=((hnew hx).2.1 b o1).1
      rw[Hr (hh1.ent _ _ h2) hE] at o2;have:=((hh1.ent _ _ h2).lt o2).1;omega
    ·rw[Hr (hh1.ent _ _ h1) hE] at o1
     have a0:=((hh1.ent _ _ h1).lt o1).1;split at h2
     ·grind
     ·rw[Hr (hh1.ent _ _ h2) hE] at o2
      exact hh1.GH _ _ _ _ _ h1 h2 o1 o2
   ·rw[r.old b (by have:=hw.size;omega)]
    exact hw.kept b hb hn
   ·rcases r.fresh b hb with h|h
    ·exact hw1.fresh b h
    ·exact .inr (.inl (fE hw.size h))
   ·simp only[bk,conv i h1] at h2
    exact .inl (r2 i b h2)
   ·rcases hz.keep id sb b hl ho with h|h
    ·left
     cases hb:H1 b with
     |none=>simp_all |some o=>rw[r.Ji b o hb];simp
    ·refine .inr ⟨sb,?_,acz ho hE⟩
     show Aq (Ed hp (Dt s c.nx).2.1) id=aj sb;rw[GL];split
     ·rename_i x hx
      obtain ⟨u,hu⟩:=(hh.ent _ _ hl).some_;simp_all
     ·exact h
   ·have hl:Aq (Ed hp (Dt s c.nx).2.1) id=aj sb:=hl
    rw[GL] at hl;split at hl
    ·simp_all
    ·obtain ⟨sb0,h3,h4⟩:=hz.old id sb hl
     exact ⟨sb0,h3,fun b hb=>h4 b (by rw[Hr (hh1.ent _ _ hl) hE] at hb;exact hb)⟩
mutual
theorem adl{H1 H2:Mem}{E1 E2:Env}:∀(s:Sh) (b:Nat) (v:Value),JV s=ay->Den H1 E1 (Dt s b).1 v->Den H2 E2 (Dt s b).1 v
 | .i k n,_,_,_,h=>h | .b x,_,_,_,h=>h | .str l,_,_,_,h=>by cases h;exact .str l | .v x,_,_,_,h=>by
  cases x<;>exact h
 | .agg l,b,_,hp,⟨vs,h1,h2⟩=>⟨vs,h1,U2 l b _ (by assumption) h2⟩ | .Az l,b,_,hp,⟨vs,h1,h2⟩=>⟨vs,h1,U2 l b _ (by assumption) h2⟩ | .sl _ _ _,_,_,hp,_=>by simp[JV] at hp | .os _ _ _ _,_,_,hp,_=>by simp[JV] at hp | .DK _ _,_,_,hp,_=>by simp[JV] at hp | .fn _ _,_,_,hp,_=>by simp[JV] at hp | .er _ _,_,_,hp,_=>by simp[JV] at hp | .pt _,_,_,hp,_=>by simp[JV] at hp
theorem U2{H1 H2:Mem}{E1 E2:Env}:∀(l:List Sh) (b:Nat) (vs:List Value),Ro l=ay->AP H1 E1 (ES l b).1 vs->AP H2 E2 (ES l b).1 vs
 |[],_,[],_,_=>trivial |[],_,_::_,_,h=>h.elim |_::_,_,[],_,h=>h.elim |x::r,b,v::vs,hp,⟨h1,h2⟩=>by
  simp only[Ro,aB] at hp;exact ⟨adl x b v hp.1 h1,U2 r _ vs hp.2 h2⟩
end
theorem as3(hS:adk P C){c:Core}{g:Nat}{F:ϵ}{args:List SV}{FQ:List Value}{φ:SV×Core->Prop}(hF:C.spec g=aj F)(hh:Bc K H E w c.hp)(hw:EF K H w)
  (hg:DI C.gls H) (hd:AP H E args FQ) (h:(Yc c F args).All φ):KY P K H E w c g FQ φ:=by
 unfold Yc at h;split at h
 ·exact h.elim
 ·rename_i hp hfz
  obtain ⟨H1,hH,hh1,hw1,hz⟩:=MH hfz hh hw;split at h
  ·exact h.elim
  ·rename_i Bl hsh
   have hrep:=EL hh1 hsh (hd.le hH fun _ _ e=>e);refine lM (hS g F hF H1 w Bl FQ _ hw1.on (hg.le hH) hrep (Tree.Gx h)) fun e w' ⟨v,s,H',he,hφ,r⟩=>?_;obtain ⟨E1,r1,r2,r3,r4⟩:=r.res c.nx;cases hb:JV s<;>simp only[hb,ϰ,ϗ] at hφ
   ·exact hφ.elim
   have keep:∀id sb,Aq c.hp id=aj sb->Ho K H E w' id sb:=fun id sb hl=>by
    have hent:=hh.ent id sb hl;exact hent.kept (fun _ _ e=>e) (fun _ _ e=>e) (fun b ho=>r.old b (hent.lt ho).1) fun b ho=>(hent.lt ho).2.1
   refine ⟨_,v,H,E,he,hφ,adl s c.nx v hb r3,fun _ _ e=>e,fun _ _ e=>e,fun i h1 h2=>(h2 h1).elim,bM _,.inr rfl,rfl,rfl,⟨keep,fun id id' sb sb' b h1 h2 o1 o2=>hh.GH id id' sb sb' b h1 h2 o1 o2⟩,
    ⟨r.os.trans hw.os,r.tape.trans hw.tape,r.output.trans hw.output,fE hw.size r.size,fun b hb hn=>?_,fun b o e=>?_,hw.le,hw.fresh⟩,fun _ h=>h,r.size,fun b hb _=>r.old b hb,fun i b h1 h2=>?_,
    fun _ h=>.inl h,fun id sb b hl _ ho=>.inr ⟨sb,hl,ho⟩,fun id sb hl _=>⟨sb,hl,fun b h=>h⟩⟩
   ·rw[r.old b (Nat.lt_of_lt_of_le hb hw.size)]
    exact hw.kept b hb hn
   ·rw[r.old b (bC.1 (hw.on b o e)).1]
    exact hw.on b o e
   simp_all [bk]
end
def Enters(P:Program)(g:Nat):Prop:=∃fn,P.funcs[g]?=aj fn/\fn.body.isSome=ay/\fn.name≠ "runtime.NumGoroutine"
def ang(P:Program)(g e st bytes:Nat):Prop:=
 ∀(w:World) (v x:Value) (n i:Nat) (xs news:List Value),w.ownsRow 0 e st v n xs->w.ownsRow 0 e st x 1 news->(∀b,Ba v=aj b->Ba x≠aj b)->(∀u∈xs,u.oneCell'=ay)->(∀u∈news,u.oneCell'=ay)->
  i<=n->n+1<=maxLen->(n+1)*bytes<=140737488355328->Calls P g #[v,.int .i64 i,x] w fun en w'=>∃v',en=.returned v'/\w'.ownsRow 0 e st v' (n+1) (xs.take (i*st)++news++xs.drop (i*st))/\w.grownBy w' (Ba v)/\
   ∀b,Ba v'=aj b->Ba v=aj b\/w.heap.size<=b
def ah9(P:Program)(g e st bytes:Nat):Prop:=
 ∀(w:World) (k:Nat),k<=maxLen->k*bytes<=140737488355328->Calls P g #[.slice aF 0 0,.int .i64 k] w fun en w'=>∃v',en=.returned v'/\w'.ownsRow 0 e st v' 0 []/\w.grownBy w' aF/\∀b,Ba v'=aj b->w.heap.size<=b
structure BJ(P:Program)(C:Ctx):Prop where
 sp:adk P C
 en:∀g,(C.spec g).isSome=ay\/(C.fns.get g).isSome=ay->Enters P g
 is:∀g e te,C.ins g=aj e->C.ty e=aj te->Enters P g/\ang P g e te.size te.bytes
 gr:∀g e te,C.grow g=aj e->C.ty e=aj te->Enters P g/\ah9 P g e te.size te.bytes
section
variable{P:Program}{C:Ctx}{K:Kx}{H H' RG:Mem}{E E' RH:Env}{w w' w'':World}
theorem JX{g:Nat}(h:Enters P g)(args:Array Value)(w:World):(callFunc g args).run P w=.ok (.enter g args) w:=by
 obtain ⟨fn,h1,h2,h3⟩:=h;have hb:fn.body≠aF:=by grind
 simp_all [callFunc,gq,run_program]
def aia(P:Program)(K:Kx)(H:Mem)(E:Env)(w:World)(c:Core)(a:Act)(o:Oper)(φ:SV×Core->Prop):Prop:=
 ∀(next:Act->World->Prop) (Q:Exit->Act->World->Prop),
  (∀(p:SV×Core) (v:Value) (H':Mem) (E':Env) (w':World),φ p->Den H' E' p.1 v->Post K H E w c H' E' w' p.2->next (a.put o.dst v) w')->o.wp P a w next Q
theorem II.op{c:Core}{a:Act}{o:Oper}{φ:SV×Core->Prop}(h:II P K H E w c a o φ):aia P K H E w c a o φ:=by
 obtain ⟨p,v,r,H',E',w',h1,h2,h3,h4,h5⟩:=h;intro next Q hn;unfold Oper.wp;rw[h5];rcases h4 with rfl|⟨rfl,rfl⟩
 ·exact hn p v H' E' w' h1 h2 h3
 ·exact hn p _ H' E' w' h1 h2 h3
def IJ(P:Program)(C:Ctx)(K:Kx)(call:Nat->List SV->Core->Tree (SV×Core)):Prop:=
 ∀(H:Mem) (E:Env) (w:World) (c:Core) (g:Nat) (args:List SV) (FQ:List Value) (φ:SV×Core->Prop),AP H E args FQ->Bc K H E w c.hp->EF K H w->Free E c->DI C.gls H->
  (call g args c).All φ->Enters P g/\KY P K H E w c g FQ φ
theorem RI{a:Act}{tm:List SV}(hd:AP H E tm a.tmps.toList):∀xs:List Operand,AP H E (xs.map (BU tm)) (xs.map a.eval)
 |[]=>trivial |x::xs=>⟨BM hd x,RI hd xs⟩
theorem aqP{st n i:Nat}{g:ϝ}{xs:List Value}{l:List Sh}{news:List Value}(h1:CQ H st n g xs)(hl:EN H l news)(hlen:news.length=st)(hone:∀u∈news,u.oneCell'=ay)(hi:i<=n):CQ H st (n+1) (Ak.ins g i l) (xs.take (i*st)++news++xs.drop (i*st)):=by
 obtain ⟨a1,a2,a3,a4⟩:=h1;have hle:i*st<=n*st:=bW _ hi;have htl:(xs.take (i*st)).length=i*st:=by simp_all
 refine ⟨?_,fun j hj=>?_,fun u hu=>?_,fun j k s v hj e1 e2=>?_⟩
 ·grind
 ·show (if j<i then g j else if j=i then l else g (j - 1)).length=st
  split
  ·grind
  ·split
   ·rw[<-hl.length,hlen]
   grind
 ·grind
 ·replace e1:(if j<i then g j else if j=i then l else g (j - 1))[k]?=aj s:=e1
  have hk:∀{r:List Sh},r[k]?=aj s->r.length=st->k<st:=fun hr hl'=>by grind
  split at e1
  ·rename_i hji
   have hks:=hk e1 (a2 j (by omega));have hlt:j*st+k<i*st:=by
    calc j*st+k<j*st+st:=by omega
     _=(j+1)*st:=by grind
     _<=i*st:=bW _ hji
   grind
  ·split at e1
   ·rename_i _ hji
    subst hji;have hks:=hk e1 (by rw[<-hl.length,hlen]);rw[iI,iZ (by omega),htl,show j*st+k - j*st=k by omega,List.getElem?_append_left (by omega)] at e2;exact hl.at_ e1 e2
   ·rename_i hn1 hn2
    have hks:=hk e1 (a2 _ (by omega));have hge:i*st+st<=j*st+k:=by
     calc i*st+st=(i+1)*st:=by grind
      _<=j*st:=bW _ (by omega)
      _<=j*st+k:=Nat.le_add_right _ _
    have hjm:j*st=(j - 1)*st+st:=by
     obtain ⟨m,rfl⟩:∃m,j=m+1:=⟨j - 1,by omega⟩;grind
    grind
theorem axd{c:Core}{g e:Nat}{args:List SV}{FQ:List Value}{φ:SV×Core->Prop}(hC:BP P C)(hF:BJ P C)(hg:C.ins g=aj e)(hh:Bc K H E w c.hp)(hw:EF K H w)(hf:Free E c)
  (hd:AP H E args FQ) (h:(Yd C c e args).All φ):Enters P g/\KY P K H E w c g FQ φ:=by
 unfold Yd at h;split at h;rotate_left
 ·exact h.elim
 rename_i s i id';match FQ,hd with
 |[v,iv,x],⟨hv,hiv,hx,_⟩=>
 split at h;rotate_left
 ·exact h.elim
 rename_i te hte;split at h;rotate_left
 ·exact h.elim
 rename_i n gr cells e2 st2 m hl1 hl2;cases hb:(Pg c.hp e s&&e==e2&&st2==te.size&&m==1 && !Qk s (.gs id')&&fC 0 te.size&&Gf cells)<;>simp only[hb,ϰ,ϗ] at h
 ·exact h.elim
 simp only[aB,ϡ,Bool.not_eq_true'] at hb;obtain ⟨⟨⟨⟨⟨⟨hown,rfl⟩,rfl⟩,rfl⟩,hne⟩,h0⟩,hone⟩:=hb;have h0:=MC h0;split at h;rotate_left
 ·exact h.elim
 rename_i l z k hl hz hk;rw[hC.A] at hk h;obtain ⟨g1,g2,h⟩:=h;obtain ⟨z0,z1⟩:=MJ g1;obtain ⟨r2,r1⟩:=Fg g2;have hz':Iw i=aj z:=by
  unfold ZT at hz;split at hz
  ·cases hz;rfl
  ·cases hz;rfl
  ·cases hz
 have eiv:iv=.int .i64 z:=by
  unfold ZT at hz;split at hz
  ·cases hz;exact hiv
  ·cases hz;exact hiv
  ·cases hz
 have hkz:=Ip hz' hk;subst hkz;have ea:Ak.addN n 1=n+1:=rfl;rw[ea] at r1 r2 h;obtain ⟨o1,o2,_,o4,_⟩:=Z8 (st:=te.size) hh hown hv;obtain ⟨xs,p2,p3⟩:=o4 _ _ hl1;obtain ⟨x1,news,q1,q2,q3,q4⟩:=hh.ent _ _ hl2;rw[hx.1] at q1;cases q1;have hdis:∀b,Ba v=aj b->Ba x≠aj b:=fun b h1 h2=>by
  rcases o1 with ⟨_,h3⟩ |⟨id,sb0,h3,h4,h5,h6⟩
  ·simp_all
  ·have:=hh.GH id id' _ _ b h4 hl2 (h6.trans h1) (by simp[Bv,hx.1,h2])
   subst this;have hs:Qk s (.gs id)=ay:=by
    unfold Qk;rw[h3];show (id==id)=ay;simp
   simp_all
 obtain ⟨hent,hins⟩:=hF.is g e te hg hte;have hrl:=EL hh hl q3;have hnl:news.length=te.size:=by rw[q2.1,Nat.one_mul]
 have hno:=FP hone q3;refine ⟨hent,?_⟩;unfold KY;have hiz:((z.toNat:Nat):Int)=z:=by omega
 subst eiv;have hcall:=hins w v x n z.toNat xs news p2 q2 hdis p3.2.2.1 hno (by omega) r1 r2;rw[hiz] at hcall;refine lM hcall fun en w' ⟨v',he,hown',hgr,hv'⟩=>?_;have Gu:∀b,Ba v'=aj b->Mine K H b:=fun b hb=>by
  rcases hv' b hb with h|h
  ·exact o2 b h
  ·refine ⟨?_,.inl (by have:=hw.size;omega)⟩
   cases hH:H b with
   |none=>rfl |some o=>have:=(bC.1 (hw.on b o hH)).1;omega
 obtain ⟨c',hφ,hp⟩:=KX (s:=s) (v:=v) (v':=v') hh hw hf h o1 o2 hgr hv' (fun _=>⟨v',_,dG _ _ _,hown',aqP p3 hrl hnl hno (by omega),Gu⟩);obtain ⟨A,n',cc,e3⟩:=KI hown';exact ⟨_,v',H,_,he,hφ,⟨dG _ _ _,A,n',cc,e3⟩,hp⟩
 |[],h|[_],h|[_,_],h|_::_::_::_::_,h=>simp_all [AP]
theorem as4{c:Core}{g e:Nat}{args:List SV}{FQ:List Value}{φ:SV×Core->Prop}(hC:BP P C)(hF:BJ P C)(hg:C.grow g=aj e)(hh:Bc K H E w c.hp)(hw:EF K H w)(hf:Free E c)
  (hd:AP H E args FQ) (h:(V4 C c e args).All φ):Enters P g/\KY P K H E w c g FQ φ:=by
 unfold V4 at h;split at h;rotate_left
 ·exact h.elim
 rename_i i;match FQ,hd with
 |[v,iv],⟨hv,hiv,_⟩=>
 split at h;rotate_left
 ·exact h.elim
 rename_i te z k hte hz hk;rw[hC.A] at hk h;obtain ⟨g1,g2,h⟩:=h;obtain ⟨r2,r1⟩:=Fg g2;have z0:(0:Int)<=z:=ϑ g1;have hz':Iw i=aj z:=by
  unfold ZT at hz;split at hz
  ·cases hz;rfl
  ·cases hz;rfl
  ·cases hz
 have eiv:iv=.int .i64 z:=by
  unfold ZT at hz;split at hz
  ·cases hz;exact hiv
  ·cases hz;exact hiv
  ·cases hz
 have hkz:=Ip hz' hk;subst hkz;obtain ⟨hent,hgo⟩:=hF.gr g e te hg hte;refine ⟨hent,?_⟩;unfold KY;have hv:v=.slice aF 0 0:=hv;subst hv eiv;have hcall:=hgo w z.toNat r1 r2;rw[show ((z.toNat:Nat):Int)=z by omega] at hcall;refine lM hcall fun en w' ⟨v',he,hown',hgr,hv'⟩=>?_;have Gu:∀b,Ba v'=aj b->Mine K H b:=fun b hb=>by
  have h:=hv' b hb;refine ⟨?_,.inl (by have:=hw.size;omega)⟩;cases hH:H b with
  |none=>rfl |some o=>have:=(bC.1 (hw.on b o hH)).1;omega
 obtain ⟨c',hφ,hp⟩:=KX (s:=.Bg) (v:=.slice aF 0 0) (v':=v') hh hw hf h (.inl ⟨rfl,rfl⟩) (fun b hb=>by simp[Ba] at hb) hgr (fun b hb=>.inr (hv' b hb)) (fun _=>⟨v',_,dG _ _ _,hown',MI _ _,Gu⟩);obtain ⟨A,n',cc,e3⟩:=KI hown';exact ⟨_,v',H,_,he,hφ,⟨dG _ _ _,A,n',cc,e3⟩,hp⟩
 |[],h|[_],h|_::_::_::_,h=>simp_all [AP]
theorem anh{call:Nat->List SV->Core->Tree (SV×Core)}{c:Core}{a:Act}{o:Oper}{k:Call}{f:Operand}{φ:SV×Core->Prop}(hC:BP P C)(hF:BJ P C)(hK:IJ P C K call)(st:St C K H E w c a)(ho:o.op=.call k)
  (hf:k.callee=.value f) (h:(match BU c.tm f with
   | .fn g cs=>match C.ins g with
    |some e=>Yd C c e (k.args.toList.map (BU c.tm)++cs) |none=>match C.grow g with
    |some e=>V4 C c e (k.args.toList.map (BU c.tm)++cs) |none=>match C.spec g with
    |some F=>bif C.lend g then Yc c F (k.args.toList.map (BU c.tm)++cs) else spread c F (k.args.toList.map (BU c.tm)++cs) |none=>call g (k.args.toList.map (BU c.tm)++cs) c
   |_=>.fail).All φ):aia P K H E w c a o φ:=by
 have df:=BM (H:=H) (E:=E) st.den f;split at h
 ·rename_i g cs hg
  rw[hg] at df;obtain ⟨vs,ef,hvs⟩:=df;have hargs:=(RI st.den k.args.toList).append hvs;have key:Enters P g/\KY P K H E w c g (k.args.toList.map a.eval++vs.toList) φ:=by
   split at h
   ·rename_i e he
    exact axd hC hF he st.hp st.CP st.free hargs h
   split at h
   ·rename_i e he
    exact as4 hC hF he st.hp st.CP st.free hargs h
   split at h
   ·rename_i F hF2
    refine ⟨hF.en g (.inl (by rw[hF2];rfl)),?_⟩;cases hl:C.lend g<;>simp only[hl,ϰ,ϗ] at h
    ·exact anf hF.sp hF2 st.hp st.CP st.free st.gl hargs h
    ·exact as3 hF.sp hF2 st.hp st.CP st.gl hargs h
   ·exact hK H E w c g _ _ φ hargs st.hp st.CP st.free st.gl h
  intro next Q hn;have hr:(execOp a.eval o).run P w=.ok (.enter g (k.args.map a.eval++vs)) w:=by
   simp_all [execOp,resolve,jL,invoke,JX]
  unfold Oper.wp;rw[hr];have he:(k.args.toList.map a.eval++vs.toList).toArray=k.args.map a.eval++vs:=by
   simp
  have:=key.2;unfold KY at this;rw[he] at this;refine lM this fun e w' ⟨p,v,H',E',e1,e2,e3,e4⟩=>?_;grind
 ·exact h.elim
theorem aqQ{call:Nat->List SV->Core->Tree (SV×Core)}{c:Core}{a:Act}{o:Oper}{φ:SV×Core->Prop}(hC:BP P C)(hF:BJ P C)(hK:IJ P C K call)(st:St C K H E w c a)
  (h:(SY C call c o).All φ):aia P K H E w c a o φ:=by
 by_cases hq:DY o.op=ay
 ·exact ((Yw hC st.den st.hp st.gl hq h).toW st.hp st.CP).op
 unfold SY at h;split at h;case h_4 e ho=>exact (asT hC st.hp st.CP st.free ho h).op
 case h_5 e x ho=>exact (azR st.den st.hp st.CP st.free ho h).op
 case h_7 t n parts ho=>exact (afW hC st.den st.hp st.CP st.free ho h).op
 case h_9 t x v ho=>exact (asV hC st.den st.hp st.CP ho h).op
 case h_20 t ho=>exact (am6 st.hp st.CP st.free ho h).op
 case h_21 t l k ho=>
  refine (ah6 hC st.den st.hp st.CP st.free ho (fun hs=>?_) h).op;grind
 case h_22 t x lo hi ho=>exact (as1 hC st.den st.hp st.CP ho h).op
 case h_24 t m k v ho=>exact (agF hC st.den st.hp st.CP (.inr ho) h).op
 case h_25 t m k v ho=>exact (agF hC st.den st.hp st.CP (.inl ho) h).op
 case h_26 t m k ho=>exact (akc hC st.den st.hp st.CP st.free ho h).op
 case h_27 t m s v ho=>exact (afX st.den st.hp st.CP ho h).op
 case h_28 k ho=>
  unfold V5 at h;split at h
  ·rename_i b hb
   obtain ⟨callee,xs,ts⟩:=k;simp only at hb;subst hb;simp only at h;split at h
   ·simp_all [DY]
   ·rename_i m k t r h1 h2
    have e1:xs=#[m,k]:=by grind
    subst e1;have e2:ts[0]?=aj t:=by rw[<-Array.getElem?_toList,h2];rfl
    exact (aqO hC st.den st.hp st.CP ho e2 h).op
   ·rename_i s x t u h1 h2
    have e1:xs=#[s,x]:=by grind
    have e2:ts=#[t,u]:=by grind
    subst e1 e2;cases hu:(t==u)<;>simp only[hu,ϰ,ϗ] at h
    ·exact (am8 hC st.den st.hp st.CP st.free ho h).op
    obtain rfl:t=u:=by grind
    split at h
    ·rename_i r hr
     exact (am9 hC st.den st.hp st.CP st.free ho hr h).op
    ·exact (aqN hC st.den st.hp st.CP st.free ho h).op
   ·simp_all [DY]
   ·simp_all [DY]
   ·exact h.elim
  ·grind [anh]
  ·exact h.elim
 case h_29 t u x ho=>exact (axb hC st.den st.hp st.CP st.free ho h).op
 case h_31=>exact h.elim
 all_goals
  simp_all [DY]
theorem as5{call:Nat->List SV->Core->Tree (SV×Core)}{c:Core}{a:Act}{o:Oper}{φ:SV×Core->Prop}(hC:BP P C)(hF:BJ P C)(hK:IJ P C K call)(st:St C K H E w c a)
  (h:(exec C call c o).All φ):aia P K H E w c a o φ:=by
 obtain ⟨ψ,h,hψ⟩:=Xy h;intro next Q hn;refine aqQ hC hF hK st h next Q fun p v H' E' w' h1 h2 h3=>?_
 obtain ⟨x,q1,q2⟩:=hψ p h1;exact hn (x,p.2) v H' E' w' q1 (q2 _ _ _ h2) h3
theorem Nv{c:Core}{a:Act}(hd:AP H E c.tm a.tmps.toList)(dst:Option Nat){sv:SV}{v:Value}(hv:Den H E sv v):AP H E (UR c.tm dst sv) (a.put dst v).tmps.toList:=by
 cases dst with
 |none=>exact hd |some d=>
  simp only[UR,Act.put,Array.toList_setIfInBounds];exact hd.set d hv
theorem put_defers{a:Act}{dst:Option Nat}{v:Value}:(a.put dst v).defers=a.defers:=by cases dst<;>rfl
theorem St.step{c c':Core}{a:Act}(st:St C K H E w c a)(dst:Option Nat){sv:SV}{v:Value}(hv:Den H' E' sv v)(hp:Post K H E w c H' E' w' c'):St C K H' E' w' (c'.put dst sv) (a.put dst v):=by
 refine ⟨?_,hp.hp,hp.CP,?_,st.gl.le hp.Ji,by rw[put_defers];exact st.defers⟩
 ·have:=Nv (c:=c') (a:=a) (by rw[hp.tm];exact st.den.le hp.Ji hp.Qc) dst hv
  exact this
 ·exact hp.mv.free st.free
theorem St.put{c:Core}{a:Act}(st:St C K H E w c a)(dst:Option Nat){sv:SV}{v:Value}(hv:Den H E sv v):St C K H E w (c.put dst sv) (a.put dst v):=
 ⟨Nv st.den dst hv,st.hp,st.CP,st.free,st.gl,by rw[put_defers];exact st.defers⟩
theorem St.know{c:Core}{a:Act}(st:St C K H E w c a){d:Nat}{b:Bool}(hd:c.tm.getD d .any=.test b):St C K H E w (c.put (aj d) (.bool b)) a:=by
 refine ⟨?_,st.hp,st.CP,st.free,st.gl,st.defers⟩;have h1:c.tm[d]?=aj (.test b):=by
  grind
 obtain ⟨v,e1,e2⟩:=st.den.get h1;have e2:v=.bool b:=e2;subst e2;have h2:=st.den.set d (s:=.bool b) (v:=.bool b) rfl;have h3:a.tmps.toList.set d (.bool b)=a.tmps.toList:=by
  apply List.ext_getElem?;grind
 rw[h3] at h2;exact h2
theorem Wh{tm:List SV}{a:Act}(hd:AP H E tm a.tmps.toList){d:Nat}{sv:SV}(h:tm.getD d .any=sv)(hne:sv≠.any):∃v,a.tmps[d]?=aj v/\Den H E sv v:=by
 have h1:tm[d]?=aj sv:=by
  grind
 obtain ⟨v,e1,e2⟩:=hd.get h1;simp_all
theorem Jz{ops:Array Oper}{tm:List SV}{a:Act}(hd:AP H E tm a.tmps.toList)(o:Oper):
  match Qm ops.toList tm o with
  | .yes=>jv o (yielded ops a.tmps)=ay | .no=>jv o (yielded ops a.tmps)=aA | .ask d c b=>tm.getD d .any=.test c/\jv o (yielded ops a.tmps)=(c==b) | .lost=>True:=by
 unfold Qm jv;cases hg:o.guard with
 |none=>rfl |some jb=>
  obtain ⟨j,b⟩:=jb;simp only;have hop:opAt ops.toList j=ops[j]?:=by simp[opAt]
  rw[hop];cases hds:(ops[j]?).bind (·.dst) with
  |none=>trivial |some d=>
   simp only;have hy:∀c:Bool,a.tmps[d]?=aj (.bool c)->yielded ops a.tmps j=aj c:=fun c hc=>by
    grind [yielded]
   cases hx:tm.getD d .any with
   |bool c=>
    obtain ⟨v,e1,e2⟩:=Wh hd hx (by simp);have e2:v=.bool c:=e2;grind
   |test c=>
    obtain ⟨v,e1,e2⟩:=Wh hd hx (by simp);have e2:v=.bool c:=e2;simp_all
   |Az l=>
    obtain ⟨v,e1,e2⟩:=Wh hd hx (by simp);obtain ⟨vs,rfl,_⟩:=e2;simp_all [yielded]
   |_=>trivial
theorem aib{ops:List Oper}{i:Nat}:Den H E (skV ops i) undef:=by
 unfold skV;cases ops.any (fun o=>match o.guard with|some (j,_)=>Nat.beq j i|none=>aA)
 ·trivial
 ·exact ⟨#[],rfl,ϖ⟩
def YB(P:Program)(C:Ctx)(K:Kx)(H:Mem)(E:Env)(w:World)(c:Core)(a:Act)(ops:Array Oper)(i:Nat)(φ:Core->Prop):Prop:=
 ∀(next:Act->World->Prop) (Q:Exit->Act->World->Prop),
  (∀(c':Core) (a':Act) (H':Mem) (E':Env) (w':World),φ c'->St C K H' E' w' c' a'->Mv K H E w c H' E' w' c'->(∃v,a'=a.put ((ops[i]?).bind (·.dst)) v)->next a' w')->wpOp P ops Q i next a w
theorem JY{c c':Core}{a:Act}(st:St C K H E w c a)(h1:c'.hp=c.hp)(h2:c'.nx=c.nx)(h3:c'.lim=c.lim)(h4:c'.tc=c.tc):Mv K H E w c H E w c':=
 (mX st.hp st.CP).mv.to rfl rfl rfl rfl h1 h2 h3 h4
theorem ake{call:Nat->List SV->Core->Tree (SV×Core)}{c:Core}{a:Act}{ops:Array Oper}{i:Nat}{o:Oper}{φ:Core->Prop}(hC:BP P C)(hF:BJ P C)(hK:IJ P C K call)(st:St C K H E w c a)
  (hi:ops[i]?=aj o) (hw:jv o (yielded ops a.tmps)=ay) (h:(ajE C call c o).All φ):YB P C K H E w c a ops i φ:=by
 intro next Q hn;unfold wpOp;simp only[hi,hw,if_true];refine .inl (as5 hC hF hK st (Tree.Gx h) next Q fun p v H' E' w' h1 h2 h3=>?_);exact hn _ _ H' E' w' h1 (st.step o.dst h2 h3) (h3.mv.to rfl rfl rfl rfl rfl rfl rfl rfl) ⟨v,by rw[hi];rfl⟩
theorem adn{c:Core}{a:Act}{ops:Array Oper}{i:Nat}{o:Oper}{φ:Core->Prop}(st:St C K H E w c a)
  (hi:ops[i]?=aj o) (hw:jv o (yielded ops a.tmps)=aA) (h:φ (c.put o.dst (skV ops.toList i))):YB P C K H E w c a ops i φ:=by
 intro next Q hn;unfold wpOp;simp only[hi,hw];exact hn _ _ H E w h (st.put o.dst aib) (JY st rfl rfl rfl rfl) ⟨undef,by rw[hi];rfl⟩
theorem XB{call:Nat->List SV->Core->Tree (SV×Core)}{c:Core}{a:Act}{ops:Array Oper}{i:Nat}{φ:Core->Prop}(hC:BP P C)(hF:BJ P C)(hK:IJ P C K call)(st:St C K H E w c a)
  (h:(acs C call ops.toList c i).All φ):YB P C K H E w c a ops i φ:=by
 unfold acs at h;have hop:opAt ops.toList i=ops[i]?:=by simp[opAt]
 rw[hop] at h;split at h
 ·rename_i hi
  intro next Q hn;unfold wpOp;simp only[hi];exact hn _ _ H E w h st (JY st rfl rfl rfl rfl) ⟨undef,by rw[hi];rfl⟩
 ·rename_i o hi
  have hs:=Jz (ops:=ops) st.den o;split at h
  ·grind [ake]
  ·rename_i hw
   rw[hw] at hs;exact adn st hi hs h
  ·rename_i d t b hw
   rw[hw] at hs;obtain ⟨h1,h2⟩:=hs;have key:∀v:Bool,t=v->(let c':=c.put (aj d) (.bool v);bif v==b then ajE C call c' o else .leaf (c'.put o.dst (skV ops.toList i))).All φ->YB P C K H E w c a ops i φ:=fun v hv hh=>by
    subst hv;have st':=st.know h1;have mvc:Mv K H E w c H E w (c.put (aj d) (.bool t)):=JY st rfl rfl rfl rfl;intro next Q hn;cases hb:(t==b)<;>simp only[hb,ϰ,ϗ] at hh
    ·refine adn (P:=P) st' hi (by rw[h2,hb]) hh next Q fun c' a' H' E' w' e1 e2 e3 e4=>hn c' a' H' E' w' e1 e2 (mvc.trans e3) e4
    ·refine ake hC hF hK st' hi (by rw[h2,hb]) hh next Q fun c' a' H' E' w' e1 e2 e3 e4=>hn c' a' H' E' w' e1 e2 (mvc.trans e3) e4
   cases t with
   |true=>exact key ay rfl (by have:=h.1 rfl;simp_all) |false=>exact key aA rfl (by have:=h.2 rfl;simp_all)
  ·exact h.elim
end
end Go.Sx
