/- Own work. -/
import Derived.Test.YtemojddccikgkaaGreatDoorB02
import Derived.Lib.AppendStr
import Derived.Lib.ConvBytes
import Derived.Laws.BytesString
open Int (ofNat)
open Array renaming length_toList->br,size_append->iQ,getElem?_eq_some_iff->aI
open Bool renaming and_eq_true->ak,true->ah,false->ag
open Go.Addr renaming add->eZ,add_lit->bx
open Go.Builtin renaming lenOf->gk,firstCells->cQ,append_->bF,zeroCells->cV,delete_->fI
open Go.Calls renaming mono->fb
open Go.Deferred renaming ofValue->cW
open Go.Instr renaming buildSlice->jh,findNow->be,sameNow->bC,sameBits->eH,mapUpdate->cS,findKey->cg,keyThatStays->fa,mapEntry->gm
open Go.Program renaming elem->j2
open Go.Question renaming forced->iF
open Go.Region renaming wanted->db
open Go.Sem renaming run_bind->ct,run->dQ
open Go.Sx.Env renaming set_self->bp,abN->fq,set->hU
open Go.Sx.Post renaming refl->fN
open Go.Value renaming int->cR,oneCell'->da,cells->eS
open Go.World renaming ownsRow_lit->iP
open Int renaming toNat_natCast->bm
open List renaming getElem?_eq_some_iff->aJ,mem_iff_getElem?->bl,mem_of_getElem?->aT,length_nil->gI,size_toArray->ji,append_assoc->cA,take_left->gv,eq_nil_of_length_eq_zero->fW,length_append->aY,range->aD,getElem?_append_right->dS,mem_cons_of_mem->aZ,mem_append->aU,mem_cons_self->bj
open List.cons renaming injEq->gQ
open Nat renaming mod_eq_of_lt->cz,mod_lt->mq,ble->cq,blt->bO,le_of_ble_eq_true->cf,zero_le->cM,le_refl->aV,add_zero->dH,mul_le_mul_right->ba,le_trans->bL,zero_add->cy
open Option renaming some->ae,none->ao,map_eq_some_iff->aP,map_some->jj
open Option.some renaming inj->aS
open Prod.mk renaming injEq->dK
open UInt8 renaming ofNat->iG
namespace Go.Sx
section
variable{P:Program}{C:Ctx}{K:Kx}{H H':Mem}{E E':Env}{w w':World}
theorem UQ(z:List SV):∀n,(rep z n).length=n*z.length
 |0=>by simp[rep] |n+1=>by simp[rep,UQ z n,Nat.add_mul,Nat.add_comm]
theorem adF(z:List SV)(hz:0<z.length):∀(n j:Nat),j<n*z.length->(rep z n)[j]?=z[j % z.length]?
 |0,j,h=>by simp at h |n+1,j,h=>by
  rw[rep,List.getElem?_append];split
  ·simp_all [cz]
  ·rename_i hj
   have hj:z.length<=j:=by omega
   rw[adF z hz n _ (by grind)];rw[Nat.mod_eq_sub_mod hj]
theorem aaq(cs:Array Value)(n j:Nat)(h:j<n)(hc:0<cs.size):(madeCells cs n).toList[j]?=cs.toList[j % cs.size]?:=by
 simp_all [mq,madeCells]
theorem alP{z:List SV}{cs:Array Value}{n st:Nat}(hd:ni H E z cs.toList)(hs:cs.size=st)(h0:0<st):ni H E (rep z n) (madeCells cs (n*st)).toList:=by
 have hl:=hd.length;rw[br,hs] at hl;refine ni.G5 (by rw[br,size_madeCells,UQ,<-hl]) fun j s v h1 h2=>?_
 have hj:j<n*st:=by
  grind [aJ,br,size_madeCells]
 rw[adF z (by omega) n j (by simp_all)] at h1;rw[aaq cs _ _ hj (by omega),hs] at h2;rw[<-hl] at h1;exact hd.at_ h1 h2
theorem AU{t e:Nat}{i:BQ}(h:Gl P t i)(hi:i.ty=.slice e):P.underlying t=ae (.slice e):=by
 have:=h.desc;rw[hi] at this;exact this
theorem adG:16777216<=maxLen:=by decide
theorem ZL{c:Core}{a:Act}{o:Oper}{t n:Nat}{parts:Array (Nat×Operand)}{φ:SV×Core->Prop}(hC:oC P C)(hd:ni H E c.tm a.tmps.toList)(hh:nI K H E w c.hp)(hw:sF K H w)(hf:Free E c)
  (ho:o.op=.buildSlice t n parts) (h:(D6 C c t n parts.toList).All φ):yQ P K H E w c a o φ:=by
 unfold D6 at h;split at h
 ·rename_i i hi
  split at h
  ·rename_i e hty
   have hu:=AU (hC.ty _ _ hi) hty;split at h
   ·rename_i j hj
    obtain ⟨inf,z,h1,h2,h3,h4,h5,h6,_⟩:=(hC.ty _ _ hj).info;cases hb:(cq (n*j.size) 16777216&&bO 0 j.size)<;>simp only[hb,cond_true,cond_false] at h
    ·exact h.elim
    simp only[ak] at hb;have hb1:=cf hb.1;have hb2:=CP hb.2;split at h
    ·rename_i l hl
     have h5':ni H E j.zero z.cells.toList:=h5.le (fun _ _ e=>by cases e) (fun _ _ e=>by cases e);have hz:=alP (n:=n) h5' h6 hb2;obtain ⟨cells',e1,e2⟩:=SL (place:=fun i=>ae (i*j.size,j.size)) (fun _ _ _ e=>e) hd parts.toList hz hl;have hlt:c.nx<c.lim:=by
      unfold alloc at h;cases hb:bO c.nx c.lim<;>simp only[hb,cond_true,cond_false] at h
      ·exact h.elim
      simp_all
     have hlen:cells'.size=n*j.size:=by
      have q1:=e2.length;have q2:=hz.length;have q3:l.length=(rep j.zero n).length:=by
       have:∀(parts:List (Nat×Operand)) (z l:List SV),I7 (fun k=>ae (k*j.size,j.size)) (oI c.tm) z parts=ae l->l.length=z.length:=by
        intro parts;induction parts with
        |nil=>simp_all [I7] |cons p r ih=>
         intro z l h;obtain ⟨k,x⟩:=p;simp only[I7] at h;grind [G7]
       grind
      simp_all [br,size_madeCells]
     have hmax:n<=maxLen:=by
      have:n*1<=n*j.size:=Nat.mul_le_mul_left _ hb2;grind [adG]
     have hmul:0<n->0<n*j.size:=fun h=>Nat.mul_pos h hb2
     obtain ⟨c',hφ,hp⟩:=yG (o:=.cells cells' e) (v:=.slice (ae ⟨w.heap.size,0,ao⟩) n n) hh hw hf h rfl
      ⟨_,cells'.toList,bp _ _ _,iP w cells' n (cM _) hmax hlen,e2.le (fun _ _ e=>e) (fq (hf _ (aV _) hlt)),fun b hb=>by
       grind [nH,AQ]⟩
     refine ⟨_,_,_,H,_,_,hφ,⟨bp _ _ _,_,_,_,rfl⟩,hp,.inl rfl,?_⟩;have hsz:(sizeOf e).run P w=.ok j.size w:=AL (hC.ty _ _ hj) w;have e1':Instr.fill (fun i=>ae (i*j.size,j.size)) (madeCells z.cells (n*j.size)) (parts.toList.map fun p=>(p.1,a.eval p.2))=ae cells':=e1;have OQ:(zeroValue e).run P w=.ok z w:=by simp[zeroValue,typeInfo,h1,h4]
     have hn2:¬(16777216<n*j.size):=by omega
     by_cases hn:n*j.size=0
     ·simp_all [madeCells,execOp,jh,run_underlying,newRow,Array.range_zero']
     ·simp[execOp,ho,jh,run_underlying hu,hsz,hn,hn2,OQ,newRow]
      simp_all [madeCells]
    ·exact h.elim
   ·exact h.elim
  ·exact h.elim
 ·exact h.elim
theorem SQ{c:Core}{b:SB}{v:SV}{φ:SV×Core->Prop}(h:(alloc c b v).All φ):c.nx<c.lim:=by
 unfold alloc at h;cases hb:bO c.nx c.lim<;>simp only[hb,cond_true,cond_false] at h
 ·exact h.elim
 simp_all
theorem yH{x:SV}{n:Int}{m:Nat}(h1:yK x=ae n)(h2:GX mM x=ae m):m=n.toNat:=by
 cases x<;>simp[yK,GX] at h1 h2
 all_goals (subst h1;subst h2;rfl)
theorem abO{x:SV}{u:Value}(h:isZero x=ah)(hd:Den H E x u):∃k,u=.int k 0:=by
 cases x<;>simp[isZero] at h
 subst h;exact ⟨_,hd⟩
theorem vZ{n b:Nat}(h:mM.room n b=ah):n*b<=140737488355328/\n<=maxLen:=by grind [mM]
theorem adH{a b:Int}(h:mM.le a b=ah):a<=b:=by grind [mM]
theorem aar{p q kn:Nat}(h:p=q)(hb:kn*q<=140737488355328):(p:Int)*(kn:Int)<=281474976710656:=by
 grind
theorem agw{K:Kx}{H:Mem}{E:Env}{w:World}{id e st:Nat}{x:SV}{v:Value}(he:E id=ae v)(hr:w.ownsRow 0 e st v 0 [])(hm:∀b,nH v=ae b->Mine K H b):xU K H E w id (alr x e st):=by
 have h1:xU K H E w id (.row [] e st 0):=⟨_,[],he,hr,trivial,hm⟩;have h2:xU K H E w id (.own e st 0 fun _=>[]):=⟨_,[],he,hr,⟨by simp,fun _ h=>by omega,fun _ h=>by simp at h,fun _ _ _ _ h=>by omega⟩,hm⟩;cases x<;>first|exact h1|exact h2
theorem abP{c:Core}{a:Act}{o:Oper}{t:Nat}{x y:Operand}{same:Bool}{φ:SV×Core->Prop}(hC:oC P C)(hd:ni H E c.tm a.tmps.toList)(hh:nI K H E w c.hp)(hw:sF K H w)(hf:Free E c)
  (ho:o.op=.makeSlice t x y) (hsame:same=ah->a.eval x=a.eval y) (h:(E5 C c t (oI c.tm x) (oI c.tm y) same).All φ):yQ P K H E w c a o φ:=by
 have dx:=ou (H:=H) (E:=E) hd x;have dy:=ou (H:=H) (E:=E) hd y;unfold E5 at h;split at h
 ·rename_i i hi
  split at h
  ·rename_i e hty
   have hu:=AU (hC.ty _ _ hi) hty;split at h
   ·rename_i j hj
    obtain ⟨inf,z,h1,h2,h3,h4,h5,h6,_⟩:=(hC.ty _ _ hj).info;split at h
    ·rename_i ki kn hki hkn
     obtain ⟨k,ey⟩:=yF hki dy;have hA:=hC.A;rw[hA] at h hkn;have hkn:=yH hki hkn;cases hz:isZero (oI c.tm x)<;>simp only[hz,cond_true,cond_false] at h
     ·cases hs:(same&&vY j.zero&&bO 0 j.size)<;>simp only[hs,cond_true,cond_false] at h
      ·exact h.elim
      simp only[ak] at hs;have ex:=hsame hs.1.1;have hj0:=CP hs.2;split at h
      ·rename_i zs hzs
       obtain ⟨g1,g2,g3⟩:=h;have g1:=adH g1;obtain ⟨g2,g4⟩:=vZ g2;have hlt:=SQ g3;have alQ:ki=(kn:Int):=by omega
       subst alQ;have hr:=run_make (P:=P) w t e inf z hu h1 h4 k k (kn:Int) (kn:Int) (by omega) (Int.le_refl _) (aar h3 g2) (by grind [maxLen]);simp only[bm,h2] at hr;have h5':ni H E j.zero z.cells.toList:=h5.le (fun _ _ e=>by cases e) (fun _ _ e=>by cases e);have OQ:sD H zs z.cells.toList:=sJ (K:=K) (w:=w) (hp:=[]) ⟨fun _ _ e=>by simp[mQ] at e,fun _ _ _ _ _ e=>by simp[mQ] at e⟩ hzs h5';have hone:=vC hs.1.2 h5';have hzl:=OQ.length;rw[br,h6] at hzl;have hget:∀(m:Nat) (u:Value),(madeCells z.cells (kn*j.size)).toList[m]?=ae u->z.cells.toList[m % j.size]?=ae u:=fun m u hm=>by
        grind [aJ,br,size_madeCells,aaq]
       have hrows:pG H j.size kn (fun _=>zs) (madeCells z.cells (kn*j.size)).toList:=by
        refine ⟨by grind [size_madeCells],fun _ _=>hzl.symm,fun u hu'=>?_,fun i m s v hi e1 e2=>?_⟩
        ·grind [bl,aT]
        ·have e2:=hget _ _ e2
         have hm:m<j.size:=by grind
         rw[Nat.mul_comm,Nat.mul_add_mod,cz hm] at e2;exact OQ.at_ e1 e2
       obtain ⟨c',hφ,hp⟩:=yG (o:=.cells (madeCells z.cells (kn*j.size)) e) (v:=.slice (ae ⟨w.heap.size,0,ao⟩) kn kn) hh hw hf g3 rfl
        ⟨_,_,bp _ _ _,iP w _ kn (cM _) g4 (size_madeCells _ _),hrows,fun b hb=>by
         grind [nH,AQ]⟩
       refine ⟨_,_,_,H,_,_,hφ,⟨bp _ _ _,_,_,_,rfl⟩,hp,.inl rfl,?_⟩;simp[execOp,ho,ex,ey,hr]
      ·exact h.elim
     ·obtain ⟨g1,g2,g3⟩:=h
      have g1:=adH g1;obtain ⟨g2,g4⟩:=vZ g2;have hlt:=SQ g3;obtain ⟨l,ex⟩:=abO hz dx;have alQ:ki=(kn:Int):=by omega
      subst alQ;have hr:=run_make (P:=P) w t e inf z hu h1 h4 l k 0 (kn:Int) (by omega) (by omega) (aar h3 g2) (by grind [maxLen]);simp only[bm,Int.toNat_zero,h2] at hr;obtain ⟨c',hφ,hp⟩:=yG (o:=.cells (madeCells z.cells (kn*j.size)) e) (v:=.slice (ae ⟨w.heap.size,0,ao⟩) 0 kn) hh hw hf g3 rfl
       (agw (bp _ _ _) (World.ownsRow_made w _ kn (cM _) g4 (size_madeCells _ _)) fun b hb=>by
        grind [nH,AQ])
      refine ⟨_,_,_,H,_,_,hφ,⟨bp _ _ _,_,_,_,rfl⟩,hp,.inl rfl,?_⟩;simp[execOp,ho,ex,ey,hr]
    ·exact h.elim
   ·exact h.elim
  ·exact h.elim
 ·exact h.elim
end
open Go.Lib
section
variable{P:Program}{w:World}
theorem sU(l:List UInt8):(bytesV l).length=l.length:=by simp[bytesV]
theorem UR(l m:List UInt8):bytesV (l++m)=bytesV l++bytesV m:=by simp[bytesV]
theorem adI(l:List UInt8):∀u∈bytesV l,u.oneCell'=ah:=fun u hu=>by
 simp only[bytesV,List.mem_map] at hu;obtain ⟨b,_,rfl⟩:=hu;rfl
theorem Cb(P:Program)(g o:Nat)(t:TypeId)(fz:Nat×Nat):∀(vs:List Value) (i:Nat) (cur:Array Value) (w:World),w.heap[g]?=ae (.cells cur t fz)->(∀j,o+i<=j->j<cur.size->¬(fz.1<=j/\j<fz.2))->o+i+vs.length<=cur.size->(∀v∈vs,v.oneCell'=ah)->
  (storeCells ⟨g,o,ao⟩ vs i).run P w=.ok () (w.setRow g (cur.toList.take (o+i)++vs++cur.toList.drop (o+i+vs.length)).toArray)
 |[],i,cur,w,hg,_,_,_=>by
  simp only[storeCells,List.append_nil,gI,dH,List.take_append_drop,Array.toArray_toList];rw[setRow_self w g cur t fz hg];rfl
 |v::rest,i,cur,w,hg,hfz,hl,h1=>by
  have hi:o+i<cur.size:=by grind
  have hadd:(⟨g,o,ao⟩:Addr).add i=⟨g,o+i,ao⟩:=by simp_all [eZ]
  have hcell:w.cell? ⟨g,o+i,ao⟩=ae cur[o+i]:=by simp[World.cell?,hg,hi]
  have hfro:w.frozen? ⟨g,o+i,ao⟩=ag:=by
   simp_all [World.frozen?,decide_eq_false_iff_not]
  have hst:(store ((⟨g,o,ao⟩:Addr).add i) v).run P w=.ok () (w.setRow g (cur.setIfInBounds (o+i) v)):=by
   grind [run_store,setCell_eq_setRow]
  have ih:=Cb P g o t fz rest (i+1) (cur.setIfInBounds (o+i) v) (w.setRow g (cur.setIfInBounds (o+i) v)) (setRow_heap w g cur _ t _ hg) (fun j h1 h2=>hfz j (by omega) (by grind)) (by grind) (fun x hx=>h1 x (by simp[hx]));simp only[storeCells,ct,hst,Result.andThen_ok,ih,setRow_setRow];grind [list_seg_step]
structure aip(P:Program)(w:World)(u:TypeId)(x:Value)(m:List UInt8):Prop where
 ty:P.underlying u=ae .string\/∃d,P.underlying u=ae (.slice d)
 len:∀w':World,(gk x).run P w'=.ok m.length w'
 cells:∀w':World,w'.heap=w.heap->(cQ 1 m.length x).run P w'=.ok (bytesV m).toArray w'
theorem adJ(t u ty e:TypeId)(i:TypeInfo)(ht:P.underlying t=ae (.slice e))(hi:P.info? e=ae i)(hz:i.zero=ae (.int .u8 0))(hsize:i.size=1)(hby:i.bytes=1)
  (v:Value) (l:List UInt8) (hown:xZ w e v l) (x:Value) (m:List UInt8) (hx:aip P w u x m) (h63:l.length+m.length<=maxLen) (hbytes:(l.length+m.length)*1<=140737488355328) :
  ∃v' w',(bF #[t,u] ty #[v,x]).run P w=.ok v' w'/\xZ w' e v' (l++m)/\w.grownBy w' (nH v)/\∀b,nH v'=ae b->nH v=ae b\/w.heap.size<=b:=by
 have hsmall:l.length+m.length<=9223372036854775807:=by omega
 have hll:(l++m).length=l.length+m.length:=by simp
 have hz1:(cR .u8 0).cells.size=1:=rfl;have grown:∀(cap:Nat) (row:Option Nat),xZ (w.drew.alloc (.cells ((bytesV l).toArray++(bytesV m).toArray++cV (cR .u8 0).cells (grownCap w (l.length+m.length) cap e - (l.length+m.length))) e)) e
   (.slice (ae ⟨w.heap.size,0,ao⟩) (l.length+m.length) (grownCap w (l.length+m.length) cap e)) (l++m)/\
   w.grownBy (w.drew.alloc (.cells ((bytesV l).toArray++(bytesV m).toArray++cV (cR .u8 0).cells (grownCap w (l.length+m.length) cap e - (l.length+m.length))) e)) row:=fun cap row=>by
  have hge:=grownCap_ge w (l.length+m.length) cap e;have hcm:grownCap w (l.length+m.length) cap e<=maxLen:=grownCap_le_maxLen w (l.length+m.length) cap e h63;refine ⟨.inr ⟨w.heap.size,_,_,(0,0),by rw[hll],heap_alloc_new w.drew _,.inl (cM _),by omega,hcm,?_,?_⟩,⟨rfl,rfl,rfl,by simp,fun k hk _=>by first|exact Go.heap_alloc_old w.drew _ k hk|exact heap_alloc_old w.drew _ hk⟩⟩
  ·simp_all [iQ,ji,size_zeroCells,sU]
  grind [Array.toList_append,cA,UR,sU,gv]
 have grow:∀(base:Option Addr) (cap:Nat),v=.slice base l.length cap->cap<l.length+m.length->(cQ 1 l.length v).run P w.drew=.ok (bytesV l).toArray w.drew->
   (bF #[t,u] ty #[v,x]).run P w=.ok (.slice (ae ⟨w.heap.size,0,ao⟩) (l.length+m.length) (grownCap w (l.length+m.length) cap e))
    (w.drew.alloc (.cells ((bytesV l).toArray++(bytesV m).toArray++cV (cR .u8 0).cells (grownCap w (l.length+m.length) cap e - (l.length+m.length))) e)):=fun base cap hv hg hfo=>by
  subst hv;have hn:¬(l.length+m.length<=cap):=by omega
  have h63':¬(9223372036854775807<((l.length:Int)+(m.length:Int))):=by omega
  have h48':¬(281474976710656<Builtin.nextslicecap (l.length+m.length) cap):=by
   have:=growslice_fits (old:=cap) (need:=l.length+m.length) (by omega) hbytes;omega
  have hf:=hx.cells w.drew rfl;have hl:=hx.len w;rcases hx.ty with hu|⟨d,hu⟩
  ·simp[bF,run_underlying ht,run_underlying hu,sizeOf,typeInfo,zeroValue,hi,hz,hsize,hl,hn,h48',hby,iF,hf,hfo,newRow,grownCap]
   grind
  ·simp[bF,run_underlying ht,run_underlying hu,sizeOf,typeInfo,zeroValue,hi,hz,hsize,hl,hn,h48',hby,iF,hf,hfo,newRow,grownCap]
   grind
 rcases hown with ⟨rfl,rfl⟩ |⟨g,cap,cur,fz,rfl,hg,hfz,hnc,hcm,hcs,htake⟩
 ·by_cases hm:m.length=0
  ·have hm0:m=[]:=fW hm
   subst hm0;have hl:=hx.len w;have hf:=hx.cells w rfl;refine ⟨.slice ao 0 0,w,?_,.inl ⟨rfl,rfl⟩,⟨rfl,rfl,rfl,aV _,fun _ _ _=>rfl⟩,fun b hb=>.inl hb⟩;simp only[gI] at hl hf;rcases hx.ty with hu|⟨d,hu⟩
   ·simp[bF,run_underlying ht,run_underlying hu,sizeOf,typeInfo,hi,hsize,hl,hf]
   ·simp[bF,run_underlying ht,run_underlying hu,sizeOf,typeInfo,hi,hsize,hl,hf]
  ·have hr:=grow ao 0 rfl (by simp;omega) (by rfl)
   have hgr:=grown 0 (nH (.slice ao 0 0));grind [nH]
 ·by_cases hroom:l.length+m.length<=cap
  ·have hl:=hx.len w
   have hf:=hx.cells w rfl;have hst:=Cb P g l.length e fz (bytesV m) 0 cur w hg (fun j h1 h2=>by omega) (by rw[sU];omega) (adI m);simp only[dH,sU] at hst;have hr:(bF #[t,u] ty #[.slice (ae ⟨g,0,ao⟩) l.length cap,x]).run P w=.ok (.slice (ae ⟨g,0,ao⟩) (l.length+m.length) cap) (w.setRow g (cur.toList.take l.length++bytesV m++cur.toList.drop (l.length+m.length)).toArray):=by
    rcases hx.ty with hu|⟨d,hu⟩
    ·simp[bF,run_underlying ht,run_underlying hu,sizeOf,typeInfo,hi,hsize,hl,hroom,hf,bx,hst]
    ·simp[bF,run_underlying ht,run_underlying hu,sizeOf,typeInfo,hi,hsize,hl,hroom,hf,bx,hst]
   refine ⟨_,_,hr,.inr ⟨g,cap,_,fz,by rw[hll],setRow_heap w g cur _ e _ hg,by omega,by omega,hcm,?_,?_⟩,⟨rfl,rfl,rfl,by simp,fun k _ hk=>setRow_other w g k _ (fun e=>hk (by simp[nH,e]))⟩,fun b hb=>.inl hb⟩
   ·grind [ji,aY,List.length_take,List.length_drop,br,sU]
   grind [UR,sU,gv]
  ·have hfo:(cQ 1 l.length (.slice (ae ⟨g,0,ao⟩) l.length cap)).run P w.drew=.ok (bytesV l).toArray w.drew:=by
    refine run_firstCells_some (P:=P) w.drew 1 l.length ⟨g,0,ao⟩ l.length cap (bytesV l) (by grind) fun j u hj=>?_
    have hadd:(⟨g,0,ao⟩:Addr).add j=⟨g,j,ao⟩:=by simp_all [eZ]
    show w.cell? _=_;grind [cell_of_row]
   have hr:=grow (ae ⟨g,0,ao⟩) cap rfl (by omega) hfo;have hgr:=grown cap (nH (.slice (ae ⟨g,0,ao⟩) l.length cap));grind [nH]
theorem ajK{u:TypeId}(hu:P.underlying u=ae .string)(m:List UInt8):aip P w u (.string ⟨m.toArray⟩) m:=by
 refine ⟨.inl hu,fun w'=>?_,fun w' _=>?_⟩
 ·rfl
 ·have:=run_firstCells_string (P:=P) w' 1 ⟨m.toArray⟩
  assumption
theorem ajL{u e' e:TypeId}(hu:P.underlying u=ae (.slice e')){x:Value}{m:List UInt8}(hx:xZ w e x m):aip P w u x m:=by
 refine ⟨.inr ⟨e',hu⟩,fun w'=>?_,fun w' hw=>?_⟩
 ·rcases hx with ⟨rfl,rfl⟩ |⟨g,cap,cur,fz,rfl,_⟩<;>simp[gk]
 ·rcases hx with ⟨rfl,rfl⟩ |⟨g,cap,cur,fz,rfl,hg,hfz,hnc,hcm,hcs,htake⟩
  ·rfl
  grind [run_firstCells_some,bytesV,sU,eZ,cell_of_row]
theorem abQ{e n:Nat}{v:Value}{xs:List Value}{l:List UInt8}(h:w.ownsRow 0 e 1 v n xs)(hx:xs=bytesV l):xZ w e v l:=by
 have hn:n=l.length:=by have:=h.1;simp_all [sU]
 subst hn;rcases h.2 with ⟨rfl,h0⟩ |⟨g,cap,cur,rfl,_,hg,hnc,hcm,hcs,htake⟩
 ·exact .inl ⟨rfl,fW h0⟩
 ·exact .inr ⟨g,cap,cur,(0,0),rfl,hg,.inl (cM _),hnc,hcm,by omega,by simp_all⟩
theorem ajM{src dst e:TypeId}(hs:P.underlying src=ae (.slice e))(he:P.underlying e=ae (.int .u8))(hd:P.underlying dst=ae .string){v:Value}{l:List UInt8}(h:xZ w e v l):
  ∀w':World,(∀b,nH v=ae b->w'.heap[b]?=w.heap[b]?)->(convert src dst v).run P w'=.ok (.string ⟨l.toArray⟩) w':=fun w' hk=>by
 rcases h with ⟨rfl,rfl⟩ |⟨g,cap,cur,fz,rfl,hg,hfz,hnc,hcm,hcs,htake⟩
 ·rw[run_convert_bytes_string w' src dst e ao 0 0 hs he hd]
  rfl
 ·rw[run_convert_bytes_string w' src dst e _ _ _ hs he hd]
  have hg':w'.heap[g]?=ae (.cells cur e fz):=by rw[hk g rfl];exact hg
  have hl:(loadCells ⟨g,0,ao⟩ l.length).run P w'=.ok ((l.map fun b=>(b.toNat:Int)).map (cR .u8)).toArray w':=by
   have:=run_loadCells_list (P:=P) (w:=w') ⟨g,0,ao⟩ (bytesV l) fun j u hj=>by
    grind [eZ,cell_of_row]
   simp_all [bytesV,Function.comp_def]
  rw[run_bytesToString w' _ _ _ _ hl];have key:∀(l:List UInt8) (s:ByteArray),(l.map fun b=>(b.toNat:Int)).foldl (fun r n=>r.push (iG n.toNat)) s=⟨s.data++l.toArray⟩:=by
   intro l;induction l with
   |nil=>intro s;simp |cons a l ih=>
    simp_all
  simp_all
theorem adK{src dst e:TypeId}(hs:P.underlying src=ae .string)(hd:P.underlying dst=ae (.slice e))(he:P.underlying e=ae (.int .u8))(l:List UInt8)(hmax:l.length<=maxLen):
  ∃v' w',(convert src dst (.string ⟨l.toArray⟩)).run P w=.ok v' w'/\xZ w' e v' l/\w.grownBy w' ao/\∀b,nH v'=ae b->w.heap.size<=b:=by
 have hr:=Lib.run_convert_string_bytes (P:=P) w src dst e ⟨l.toArray⟩ hs hd he;have es:(⟨l.toArray⟩:ByteArray).size=l.length:=by rfl
 have hge:=grownCap_ge w l.length 0 e;have hcm:grownCap w l.length 0 e<=maxLen:=grownCap_le_maxLen w l.length 0 e hmax;have hcz:(bytesCells w e ⟨l.toArray⟩).size=grownCap w l.length 0 e:=by
  simp_all [bytesCells,iQ,Array.size_replicate]
 refine ⟨_,_,hr,.inr ⟨w.heap.size,_,_,_,by rw[es],bytesWorld_at_new w e _,.inr (by omega),hge,hcm,hcz,?_⟩,⟨rfl,rfl,rfl,by rw[bytesWorld_size];omega,fun k hk _=>bytesWorld_at_old w e _ k hk⟩,fun b hb=>by simp_all [nH]⟩;simp_all [bytesCells,bytesV,grownCap]
end
section
variable{P:Program}{C:Ctx}{K:Kx}{H H':Mem}{E E':Env}{w w':World}
def Src(w:World)(u:Value)(m:Nat)(xs:List Value):Prop:=
 (m=0/\∃A c,u=.slice A 0 c)\/(∃a c,u=.slice (ae a) m c/\∀j v,xs[j]?=ae v->w.cell? (a.add j)=ae v)
theorem Qx{e st m:Nat}{u:Value}{xs:List Value}(h:w.ownsRow 0 e st u m xs):Src w u m xs:=by
 rcases h.2 with ⟨rfl,rfl⟩ |⟨g,cap,cur,rfl,_⟩
 ·exact .inl ⟨rfl,_,_,rfl⟩
 ·exact .inr ⟨_,_,rfl,h.cells (g:=g) rfl⟩
theorem adL{st n:Nat}{g:Nat->List Sh}{u:Value}(h0:0<st)(h:Rep H (.sl st n g) u)(hon:H.on w):∃xs,pG H st n g xs/\Src w u n xs:=by
 cases h with
 |sl0 _ _ A cap hc=>exact ⟨[],⟨by simp,fun _ h=>by omega,fun _ h=>by simp at h,fun _ _ _ _ h=>by omega⟩,.inl ⟨rfl,_,_,rfl⟩⟩ |sl _ _ _ b off cap c h1 h2 h3 h4 h5 h6=>
  have hk:∀k,k<n*st->k / st<n/\k % st<st/\k / st*st+k % st=k:=fun k hk=>⟨(Nat.div_lt_iff_lt_mul h0).2 hk,mq _ h0,by grind [Nat.div_add_mod]⟩;have hget:∀(k:Nat) (v:Value),((aD (n*st)).map fun k=>c (k / st) (k % st))[k]?=ae v->k<n*st/\v=c (k / st) (k % st):=fun k v e=>by
   grind
  refine ⟨(aD (n*st)).map fun k=>c (k / st) (k % st),⟨by simp,h3,fun u hu=>?_,fun i j s v hi e1 e2=>?_⟩,.inr ⟨_,_,rfl,fun j v e=>?_⟩⟩
  ·grind
  ·grind
  ·obtain ⟨a1,rfl⟩:=hget _ _ e
   obtain ⟨b1,b2,b3⟩:=hk j a1;grind [EK,Nat.add_assoc,bx]
theorem CV(st:Nat)(g:Nat->List Sh):pG H st 0 g []:=⟨by simp,fun _ h=>by omega,fun _ h=>by simp at h,fun _ _ _ _ h=>by omega⟩
theorem xw{st m n:Nat}{g:Nat->List Sh}{xs:List Value}(h:pG H st m g xs)(hn:n<=m):pG H st n g (xs.take (n*st)):=by
 obtain ⟨h1,h2,h3,h4⟩:=h;have hle:n*st<=m*st:=ba _ hn;refine ⟨by simp_all,fun i hi=>h2 i (by omega),fun u hu=>h3 u (List.mem_of_mem_take hu),fun i j s v hi e1 e2=>?_⟩;grind
theorem ajN{e st m n:Nat}{A:Option Addr}{k c:Nat}{xs:List Value}(h:w.ownsRow 0 e st (.slice A k c) m xs)(hn:n<=k):Src w (.slice A n c) n (xs.take (n*st)):=by
 rcases Qx h with ⟨rfl,A',c',e⟩ |⟨a,c',e,hc⟩
 ·cases e
  have:n=0:=by omega
  subst this;exact .inl ⟨rfl,_,_,rfl⟩
 ·cases e
  refine .inr ⟨_,_,rfl,fun j v hj=>hc j v ?_⟩;grind
theorem alR{hp:List (Nat×SB)}{st m:Nat}{h:Nat->List Sh}{x:SV}{u:Value}(h0:0<st)(hh:nI K H E w hp)(hon:H.on w)(he:E8 hp st x=ae (m,h))(hd:Den H E x u):
  ∃xs,pG H st m h xs/\Src w u m xs:=by
 unfold E8 at he;split at he
 ·cases he
  simp only[Den] at hd;subst hd;exact ⟨[],CV _ _,.inl ⟨rfl,_,_,rfl⟩⟩
 ·rename_i id
  split at he
  ·rename_i cells el st' n hl
   cases hb:(st==st'&&vY cells)<;>simp only[hb,cond_true,cond_false] at he
   ·cases he
   simp only[ak,beq_iff_eq] at hb;obtain ⟨rfl,hone⟩:=hb;simp only[aP] at he;obtain ⟨l,h1,h2⟩:=he;simp only[dK] at h2;obtain ⟨rfl,rfl⟩:=h2;obtain ⟨v,xs,e1,e2,e3,_⟩:=hh.ent _ _ hl;rw[hd.1] at e1;cases e1;exact ⟨xs,Bj e2.1 (sJ hh h1 e3) (vC hone e3),Qx e2⟩
  ·rename_i el st' n g hl
   cases hb:(st==st')<;>simp only[hb,cond_true,cond_false] at he
   ·cases he
   obtain rfl:st=st':=by grind
   cases he;obtain ⟨v,xs,e1,e2,e3,_⟩:=hh.ent _ _ hl;rw[hd.1] at e1;grind [Qx]
  ·rename_i st' n g hl
   cases hb:(st==st')<;>simp only[hb,cond_true,cond_false] at he
   ·cases he
   obtain rfl:st=st':=by grind
   cases he;obtain ⟨v,e1,e2⟩:=hh.ent _ _ hl;rw[hd.1] at e1;simp_all [adL]
  ·cases he
 ·rename_i st' n g
  cases hb:(st==st')<;>simp only[hb,cond_true,cond_false] at he
  ·cases hb2:(st'==0&&n==0)<;>simp only[hb2,cond_true,cond_false] at he
   ·cases he
   simp only[ak,beq_iff_eq] at hb2;obtain ⟨rfl,rfl⟩:=hb2;cases he;cases hd with
   |sl0 _ _ A cap hc=>exact ⟨[],CV _ _,.inl ⟨rfl,_,_,rfl⟩⟩ |sl _ _ _ b off cap c h1 h2 h3 h4 h5 h6=>exact ⟨[],CV _ _,.inl ⟨rfl,_,_,rfl⟩⟩
  ·obtain rfl:st=st':=by grind
   cases he;exact adL h0 hd hon
 ·rename_i id n
  split at he
  ·rename_i el st' m' g hl
   cases hb:(st==st')<;>simp only[hb,cond_true,cond_false] at he
   ·cases he
   obtain rfl:st=st':=by grind
   cases he;obtain ⟨v,xs,e1,e2,e3,_⟩:=hh.ent _ _ hl;obtain ⟨A,k,c,a1,a2,rfl⟩:=hd;rw[a1] at e1;cases e1;have hk:k=m':=by
    have:=EL e2;assumption
   exact ⟨_,xw e3 (by omega),ajN e2 a2⟩
  ·cases he
 ·cases he
theorem WU{st n m:Nat}{g h:Nat->List Sh}{xs ys:List Value}(h1:pG H st n g xs)(h2:pG H st m h ys):pG H st (n+m) (mM.snoc g n h) (xs++ys):=by
 obtain ⟨a1,a2,a3,a4⟩:=h1;obtain ⟨b1,b2,b3,b4⟩:=h2;have hs:∀i,mM.snoc g n h i=if i<n then g i else h (i - n):=fun _=>rfl
 refine ⟨by grind,fun i hi=>?_,fun u hu=>?_,fun i j s v hi e1 e2=>?_⟩
 ·grind
 ·grind
 ·rw[hs] at e1
  split at e1
  ·rename_i hin
   have hj:j<st:=by grind
   have:i*st+j<xs.length:=by
    rw[a1];calc i*st+j<i*st+st:=by omega
     _=(i+1)*st:=by grind
     _<=n*st:=ba _ hin
   grind
  ·rename_i hin
   have hge:n*st<=i*st:=ba _ (by omega);grind [dS,Nat.sub_mul]
theorem Bl{c:Core}{s:SV}{v v':Value}{sb:SB}{φ:SV×Core->Prop}(hh:nI K H E w c.hp)(hw:sF K H w)(hf:Free E c)
  (h:(alloc (qx c s) sb (.gs c.nx)).All φ) (hs:(Ja s=ao/\nH v=ao)\/∃id sb0,Ja s=ae id/\mQ c.hp id=ae sb0/\E id=ae v/\nU E id sb0=nH v)
  (hm:∀b,nH v=ae b->Mine K H b) (hg:w.grownBy w' (nH v)) (hv':∀b,nH v'=ae b->nH v=ae b\/w.heap.size<=b)
  (he:c.nx<c.lim->xU K H (E.set c.nx v') w' c.nx sb):∃c',φ (.gs c.nx,c')/\Post K H E w c H (E.set c.nx v') w' c':=by
 have hnx:(qx c s).nx=c.nx:=by grind [qx]
 have hlim:(qx c s).lim=c.lim:=by grind [qx]
 have htm:(qx c s).tm=c.tm:=by grind [qx]
 have htc:∀id∈c.tc,id∈(qx c s).tc:=by
  grind [qx,aZ]
 have hlt:=SQ h;rw[hnx,hlim] at hlt;have he:=he hlt;have hnone:=hf c.nx (aV _) hlt;have hle:E.le (E.set c.nx v'):=fq hnone;have hb:bO (qx c s).nx (qx c s).lim=ah:=by
  simp_all
 unfold alloc at h;rw[hb] at h;simp only[cond_true] at h;have hvb:∀b,nH v=ae b->b<w.heap.size/\∃id sb0,Ja s=ae id/\mQ c.hp id=ae sb0/\E id=ae v/\nU E id sb0=ae b/\id∈(qx c s).tc:=fun b hb=>by
  rcases hs with ⟨_,h2⟩ |⟨id,sb0,h1,h2,h3,h4⟩
  ·simp_all
  ·exact ⟨((hh.ent _ _ h2).lt (h4.trans hb)).1,id,sb0,h1,h2,h3,h4.trans hb,by simp[qx,h1]⟩
 have hold:∀id2 Qu,mQ (qx c s).hp id2=ae Qu->mQ c.hp id2=ae Qu/\∀b,nU E id2 Qu=ae b->nH v≠ae b:=by
  intro id2 Qu hl;have key:mQ c.hp id2=ae Qu/\Ja s≠ae id2:=by
   unfold qx at hl;grind [OV]
  refine ⟨key.1,fun b ho e=>?_⟩;obtain ⟨_,id,sb0,h1,h2,h3,h4,_⟩:=hvb b e;have:=hh.vV _ _ _ _ _ h2 key.1 h4 ho;simp_all
 have hkeep:∀b,b<w.heap.size->nH v≠ae b->w'.heap[b]?=w.heap[b]?:=fun b hb hn=>hg.block b hb fun e=>hn e.symm
 refine ⟨_,h,fun _ _ e=>e,hle,?_,by simp[hnx],.inl (by grind),hlim,htm,?_,?_,htc,hg.size,?_,?_,?_,?_,?_⟩
 ·simp_all [hU]
 ·have hent:∀id sb',mQ (qx c s).hp id=ae sb'->xU K H (E.set c.nx v') w' id sb'/\xU K H E w id sb'/\∀b,nU E id sb'=ae b->nH v≠ae b:=fun id sb' hl=>by
   obtain ⟨h1,h2⟩:=hold id sb' hl;have:=hh.ent _ _ h1;exact ⟨this.kept (fun _ _ e=>e) hle (fun b hb=>hkeep b (this.lt hb).1 (h2 b hb)) (fun b hb=>(this.lt hb).2.1),this,h2⟩
  have hnew:∀b,nU (E.set c.nx v') c.nx sb=ae b->nH v'=ae b:=fun b hb=>by
   have:=wW hb;simp_all [bk,hU]
  refine ⟨fun id sb' hl=>?_,fun id id' sb1 Qu b h1 h2 o1 o2=>?_⟩
  ·grind [uI]
  ·simp only[uI,hnx] at h1 h2
   have cross:∀{i:Nat} {s1:SB},mQ (qx c s).hp i=ae s1->nU (E.set c.nx v') i s1=ae b->nH v'=ae b->False:=fun {i s1} h1 o1 auH=>by
    obtain ⟨_,a2,a3⟩:=hent _ _ h1;rw[xW a2 hle] at o1;rcases hv' b auH with h|h
    ·grind
    ·have:=(a2.lt o1).1;omega
   cases hid:(c.nx==id)<;>cases adC:(c.nx==id')<;>simp only[hid,adC,cond_true,cond_false] at h1 h2
   ·obtain ⟨_,a2,_⟩:=hent _ _ h1
    obtain ⟨_,b2,_⟩:=hent _ _ h2;rw[xW a2 hle] at o1;rw[xW b2 hle] at o2;exact hh.vV _ _ _ _ _ (hold _ _ h1).1 (hold _ _ h2).1 o1 o2
   ·simp_all
   ·simp_all
   simp_all
 ·refine ⟨hg.os.trans hw.os,hg.tape.trans hw.tape,hg.output.trans hw.output,bL hw.size hg.size,fun b hb hn=>?_,fun b o hb=>?_,hw.le,hw.fresh⟩
  ·rw[hkeep b (by have:=hw.size;omega) fun e=>?_]
   ·exact hw.kept b hb hn
   ·(rcases (hm b e).2 with h|h)<;>grind
  ·have h1:=hw.on b o hb
   rw[hkeep b (aI.1 h1).1 fun e=>?_]
   ·exact h1
   ·have:=(hm b e).1
    simp_all
 ·grind [id,wW]
 ·grind [bk,hU,id,wW]
 ·grind [qx,id,bk]
 ·intro i s0 b0 h1 h2 h3
  refine .inr ⟨s0,?_,VZ h3 hle⟩;have h2:i ∉ (qx c s).tc:=h2;have hd:mQ (qx c s).hp i=ae s0:=by
   unfold qx at h2 ⊢;split at h2
   ·rename_i id hid
    grind [OV]
   ·exact h1
  simp only[uI,hnx];cases hid:(c.nx==i)<;>simp only[cond_true,cond_false]
  ·exact hd
  ·obtain rfl:c.nx=i:=by grind
   obtain ⟨u,hu⟩:=(hh.ent _ _ h1).some_;simp_all
 ·intro i s0 h1 hne
  simp only[uI,hnx] at h1;cases hid:(c.nx==i)<;>simp only[hid,cond_true,cond_false] at h1
  ·have:=(hold _ _ h1).1
   exact ⟨s0,this,fun b h=>by rw[xW (hh.ent _ _ this) hle] at h;exact h⟩
  simp_all
theorem Ik(w:World)(e st:Nat):w.ownsRow 0 e st (.slice ao 0 0) 0 []:=⟨by simp,.inl ⟨rfl,rfl⟩⟩
theorem SS{c:Core}{e st:Nat}{s:SV}{v:Value}(hh:nI K H E w c.hp)(h:Fa c.hp e s=ah)(hd:Den H E s v):
  ((Ja s=ao/\nH v=ao)\/∃id sb0,Ja s=ae id/\mQ c.hp id=ae sb0/\E id=ae v/\nU E id sb0=nH v)/\(∀b,nH v=ae b->Mine K H b)/\
  (∀a n,rowOf c.hp st s=ae (a,n)->∃xs,w.ownsRow 0 e st v n xs/\ni H E a xs)/\
  (∀n g,E8 c.hp st s=ae (n,g)->∃xs,w.ownsRow 0 e st v n xs/\pG H st n g xs)/\
  (∀n g more,xOf c.hp e st s=ae (n,g,more)->∃xs ys,w.ownsRow 0 e st v (n+more.length / st) (xs++ys)/\pG H st n g xs/\ni H E more ys/\more.length % st=0/\vY more=ah):=by
 unfold Fa at h;split at h
 ·simp only[Den] at hd;subst hd
  refine ⟨.inl ⟨rfl,rfl⟩,fun b hb=>by simp[nH] at hb,fun a n hr=>?_,fun n g hr=>?_,fun n g more hr=>by simp[xOf] at hr⟩
  ·simp[rowOf] at hr
   obtain ⟨rfl,rfl⟩:=hr;exact ⟨[],Ik _ _ _,trivial⟩
  ·simp[E8] at hr
   obtain ⟨rfl,rfl⟩:=hr;exact ⟨[],Ik _ _ _,CV _ _⟩
 ·rename_i id
  split at h
  ·rename_i cells e' st' n hl
   obtain rfl:e=e':=by simpa using h
   obtain ⟨v2,xs,e1,e2,e3,e4⟩:=hh.ent _ _ hl;rw[hd.1] at e1;cases e1;refine ⟨.inr ⟨id,_,rfl,hl,hd.1,by simp[nU,hd.1]⟩,e4,fun a n2 hr=>?_,fun n2 g hr=>?_,fun n2 g more hr=>by grind [xOf]⟩
   ·grind [rowOf]
   ·simp only[E8,hl] at hr
    cases hb:(st==st'&&vY cells)<;>simp only[hb,cond_true,cond_false] at hr
    ·cases hr
    simp only[ak,beq_iff_eq] at hb;obtain ⟨rfl,hone⟩:=hb;simp only[aP] at hr;obtain ⟨l,h1,h2⟩:=hr;simp only[dK] at h2;obtain ⟨rfl,rfl⟩:=h2;exact ⟨xs,e2,Bj e2.1 (sJ hh h1 e3) (vC hone e3)⟩
  ·rename_i e' st' n g hl
   obtain rfl:e=e':=by simpa using h
   obtain ⟨v2,xs,e1,e2,e3,e4⟩:=hh.ent _ _ hl;rw[hd.1] at e1;cases e1;refine ⟨.inr ⟨id,_,rfl,hl,hd.1,by simp[nU,hd.1]⟩,e4,fun a n2 hr=>?_,fun n2 g2 hr=>?_,fun n2 g2 more hr=>?_⟩
   ·grind [rowOf]
   ·grind [E8]
   ·simp only[xOf,hl] at hr
    cases hb:(e==e&&st==st')<;>simp only[hb,cond_true,cond_false] at hr
    ·cases hr
    simp only[ak,beq_iff_eq] at hb;obtain ⟨_,rfl⟩:=hb;cases hr;exact ⟨xs,[],by simpa using e2,e3,trivial,by simp,rfl⟩
  ·rename_i e' st' n g more hl
   obtain rfl:e=e':=by simpa using h
   obtain ⟨v2,xs,ys,e1,e2,e3,e4,e5,e6,e7⟩:=hh.ent _ _ hl;rw[hd.1] at e1;cases e1;refine ⟨.inr ⟨id,_,rfl,hl,hd.1,by simp[nU,hd.1]⟩,e7,fun a n2 hr=>by grind [rowOf],fun n2 g2 hr=>by grind [E8],fun n2 g2 more2 hr=>?_⟩;simp only[xOf,hl] at hr;grind
  ·rename_i e' l hl
   obtain rfl:e=e':=by simpa using h
   obtain ⟨v2,e1,e2,e4⟩:=hh.ent _ _ hl;rw[hd.1] at e1;cases e1;exact ⟨.inr ⟨id,_,rfl,hl,hd.1,by simp[nU,hd.1]⟩,e4,fun a n2 hr=>by grind [rowOf],fun n2 g2 hr=>by grind [E8],fun n2 g2 more2 hr=>by grind [xOf]⟩
  ·cases h
 ·cases h
theorem WV{hp:List (Nat×SB)}{st m:Nat}{b:List SV}{x:SV}{u:Value}(hh:nI K H E w hp)(he:rowOf hp st x=ae (b,m))(hd:Den H E x u):
  ∃xs,xs.length=m*st/\ni H E b xs/\Src w u m xs:=by
 unfold rowOf at he;split at he
 ·cases he
  simp only[Den] at hd;subst hd;exact ⟨[],by simp,trivial,.inl ⟨rfl,_,_,rfl⟩⟩
 ·rename_i id
  split at he
  ·rename_i cells el st' n hl
   cases hb:(st==st')<;>simp only[hb,cond_true,cond_false] at he
   ·cases he
   obtain rfl:st=st':=by grind
   cases he;obtain ⟨v,xs,e1,e2,e3,_⟩:=hh.ent _ _ hl;rw[hd.1] at e1;cases e1;exact ⟨xs,e2.1,e3,Qx e2⟩
  ·cases he
 ·cases he
theorem one_app:∀{l m:List SV},vY l=ah->vY m=ah->vY (l++m)=ah
 |[],_,_,h=>h |x::l,m,h1,h2=>by
  simp only[vY,ak,List.cons_append] at h1 ⊢;exact ⟨h1.1,one_app h1.2 h2⟩
theorem AV{e st n:Nat}{v:Value}{xs:List Value}(h:w.ownsRow 0 e st v n xs):∃A n c,v=.slice A n c:=by
 (rcases h.2 with ⟨rfl,_⟩ |⟨g,cap,cur,rfl,_⟩)<;>simp_all
theorem adM(n m b:Nat)(h1:cq ((n+m)*b) 140737488355328=ah)(h2:cq (n+m) 1073741824=ah):n+m<=maxLen/\(n+m)*b<=140737488355328:=by
 have h1:=cf h1;have h2:=cf h2;grind [maxLen]
theorem ajO{c:Core}{a:Act}{o:Oper}{t:Nat}{x y:Operand}{φ:SV×Core->Prop}(hC:oC P C)(hd:ni H E c.tm a.tmps.toList)(hh:nI K H E w c.hp)(hw:sF K H w)(hf:Free E c)
  (ho:o.op=.call {callee:=.builtin .append,args:=#[x,y],argTypes:=#[t,t]}) (h:(KL C c t (oI c.tm x) (oI c.tm y)).All φ):yQ P K H E w c a o φ:=by
 have dx:=ou (H:=H) (E:=E) hd x;have dy:=ou (H:=H) (E:=E) hd y;unfold KL at h;split at h
 ·rename_i i hi
  split at h
  ·rename_i e hty
   have hu:=AU (hC.ty _ _ hi) hty;split at h
   ·rename_i te hte
    obtain ⟨inf,z,h1,h2,h3,h4,h5,h6,_⟩:=(hC.ty _ _ hte).info;cases hb:(Fa c.hp e (oI c.tm x) && !Gg (oI c.tm x) (oI c.tm y)&&bO 0 te.size)<;>simp only[hb,cond_true,cond_false] at h
    ·exact h.elim
    simp only[ak] at hb;have h0:=CP hb.2;obtain ⟨o1,o2,o3,o4,o5⟩:=SS (st:=te.size) hh hb.1.1 dx;have fin:∀(n m:Nat) (xs news:List Value) (sb:SB),(alloc (qx c (oI c.tm x)) sb (.gs c.nx)).All φ->w.ownsRow 0 e te.size (a.eval x) n xs->Src w (a.eval y) m news->news.length=m*te.size->(∀u∈news,u.oneCell'=ah)->
      n+m<=maxLen->(n+m)*te.bytes<=140737488355328->
      (∀(v':Value) (w':World),w'.ownsRow 0 e te.size v' (n+m) (xs++news)->(∀b,nH v'=ae b->Mine K H b)->c.nx<c.lim->xU K H (E.set c.nx v') w' c.nx sb)->yQ P K H E w c a o φ:=by
     intro n m xs news sb h hown hsrc hl hone hmax hbytes hent;obtain ⟨v',w',hr,ho',hg,hv'⟩:=adD (P:=P) t o.type e inf z te.size te.bytes hu h1 h4 h2 h3 h6 h0 (a.eval x) n xs hown (a.eval y) m news hsrc hl hone hmax hbytes;have wK:∀b,nH v'=ae b->Mine K H b:=fun b hb=>by
      rcases hv' b hb with h|h
      ·exact o2 b h
      ·refine ⟨?_,.inl (by have:=hw.size;omega)⟩
       cases hH:H b with
       |none=>rfl |some o=>have:=(aI.1 (hw.on b o hH)).1;omega
     obtain ⟨c',hφ,hp⟩:=Bl hh hw hf h o1 o2 hg hv' (hent v' w' ho' wK);obtain ⟨A,n',cc,e3⟩:=AV ho';refine ⟨_,v',_,H,_,w',hφ,⟨bp _ _ _,A,n',cc,e3⟩,hp,.inl rfl,?_⟩;simp_all [execOp,resolve,invoke,builtin]
    split at h
    ·rename_i aa n bb m hr1 hr2
     cases hb2:(vY bb&&cq ((n+m)*te.bytes) 140737488355328&&cq (n+m) 1073741824)<;>simp only[hb2,cond_true,cond_false] at h
     ·exact h.elim
     simp only[ak] at hb2;obtain ⟨xs,p1,p2⟩:=o3 _ _ hr1;obtain ⟨ys,q1,q2,q3⟩:=WV hh hr2 dy;obtain ⟨r1,r2⟩:=adM n m te.bytes hb2.1.2 hb2.2;exact fin n m xs ys _ h p1 q3 q1 (vC hb2.1.1 q2) r1 r2 fun v' w' s1 s2 s3=>
      ⟨v',_,bp _ _ _,s1,(p2.append q2).le (fun _ _ e=>e) (fq (hf _ (aV _) s3)),s2⟩
    ·split at h
     ·rename_i n g m k hr1 hr2
      rw[hC.A] at h;obtain ⟨hroom,h⟩:=h;obtain ⟨r2,r1⟩:=vZ hroom;have ea:mM.addN n m=n+m:=rfl;rw[ea] at r1 r2 h;obtain ⟨xs,p1,p2⟩:=o4 _ _ hr1;obtain ⟨ys,q1,q2⟩:=alR h0 hh hw.on hr2 dy;exact fin n m xs ys _ h p1 q2 q1.1 q1.2.2.1 r1 r2 fun v' w' s1 s2 s3=>
       ⟨v',_,bp _ _ _,s1,WU p2 q1,s2⟩
     ·split at h
      ·rename_i n g more bb m hr1 hr2
       cases hone:vY bb<;>simp only[hone,cond_true,cond_false] at h
       ·exact h.elim
       rw[hC.A] at h;obtain ⟨hroom,h⟩:=h;obtain ⟨r2,r1⟩:=vZ hroom;obtain ⟨xs,zs,p1,p2,p3,p4,p5⟩:=o5 _ _ _ hr1;obtain ⟨ys,q1,q2,q3⟩:=WV hh hr2 dy;have hbl:bb.length=m*te.size:=by rw[<-q2.length,q1]
       have hdiv:(more++bb).length / te.size=more.length / te.size+m:=by
        grind [aY,Nat.add_mul_div_right]
       have hmod:(more++bb).length % te.size=0:=by
        simp_all
       have ea:mM.addN n (Nat.div (more++bb).length te.size)=n+more.length / te.size+m:=by
        show n+(more++bb).length / te.size=_;omega
       rw[ea] at r1 r2;have hon:vY (more++bb)=ah:=one_app p5 hone;exact fin (n+more.length / te.size) m (xs++zs) ys _ h p1 q3 q1 (vC hone q2) r1 r2 fun v' w' s1 s2 s3=>
        ⟨v',xs,zs++ys,bp _ _ _,by grind,p2,(p3.append q2).le (fun _ _ e=>e) (fq (hf _ (aV _) s3)),hmod,hon,s2⟩
      ·exact h.elim
   ·exact h.elim
  ·exact h.elim
 ·exact h.elim
theorem UU:∀{cells:List SV} {l:List UInt8} {xs:List Value},WA cells=ae l->ni H E cells xs->xs=bytesV l
 |[],_,[],h,_=>by simp[WA] at h;subst h;rfl |x::r,l,v::vs,h,⟨hd,hr⟩=>by
  unfold WA at h;split at h
  ·simp_all
  ·rename_i n r' e
   cases e;cases hb:(decide (0<=n)&&decide (n<256))<;>simp only[hb,cond_true,cond_false] at h
   ·cases h
   simp only[ak,decide_eq_true_eq] at hb;simp only[aP] at h;obtain ⟨m,hm,rfl⟩:=h;have ih:=UU hm hr;have hv:v=.int .u8 n:=hd;grind [iG,bytesV,UInt8.toNat_ofNat',cz]
  ·cases h
 |[],_,_::_,_,h=>h.elim |_::_,_,[],_,h=>h.elim
theorem KX{hp:List (Nat×SB)}{e:Nat}{x:SV}{u:Value}{l:List UInt8}(hh:nI K H E w hp)(h:KJ hp e x=ae l)(hd:Den H E x u):xZ w e u l:=by
 unfold KJ at h;split at h
 ·cases h
  have hd:u=_:=hd;exact .inl ⟨hd,rfl⟩
 ·rename_i id
  split at h
  ·rename_i e' l' hl
   cases hb:(e==e')<;>simp only[hb,cond_true,cond_false] at h
   ·cases h
   cases h;obtain rfl:e=e':=by grind
   obtain ⟨v,e1,e2,_⟩:=hh.ent _ _ hl;rw[hd.1] at e1;simp_all
  ·rename_i cells e' st n hl
   cases hb:(e==e'&&st==1&&n==cells.length)<;>simp only[hb,cond_true,cond_false] at h
   ·cases h
   simp only[ak,beq_iff_eq] at hb;obtain ⟨⟨rfl,rfl⟩,rfl⟩:=hb;obtain ⟨v,xs,e1,e2,e3,_⟩:=hh.ent _ _ hl;rw[hd.1] at e1;grind [abQ,UU]
  ·cases h
 ·cases h
theorem Jk(hC:oC P C){e:Nat}(h:Bg C e=ah):P.underlying e=ae (.int .u8)/\∃i,P.info? e=ae i/\i.zero=ae (.int .u8 0)/\i.size=1/\i.bytes=1:=by
 unfold Bg at h;split at h
 ·rename_i te hte
  have ht:=hC.ty _ _ hte;split at h
  ·rename_i n hty hz
   simp only[ak,beq_iff_eq] at h;obtain ⟨⟨h1,h2⟩,rfl⟩:=h;have hu:=ht.desc;rw[hty] at hu;obtain ⟨inf,z,q1,q2,q3,q4,q5,q6,_,q8⟩:=ht.info;rw[hz] at q5;refine ⟨hu,inf,q1,?_,by omega,by omega⟩;rw[q4];have hone:=(q8 (by rw[hty];rfl)).2;have hc:z.cells=#[z]:=by
    cases z<;>simp[da,eS] at hone ⊢
   rw[hc] at q5;have:z=.int .u8 0:=q5.1;rw[this]
  ·cases h
 ·cases h
theorem WW{e:Nat}{v:Value}{l:List UInt8}(h:xZ w e v l):∃A n c,v=.slice A n c:=by
 (rcases h with ⟨rfl,_⟩ |⟨g,cap,cur,fz,rfl,_⟩)<;>simp_all
theorem J6{c:Core}{a:Act}{o:Oper}{t u e:Nat}{x y:Operand}{l m:List UInt8}{φ:SV×Core->Prop}(hC:oC P C)(hd:ni H E c.tm a.tmps.toList)(hh:nI K H E w c.hp)(hw:sF K H w)(hf:Free E c)
  (ho:o.op=.call {callee:=.builtin .append,args:=#[x,y],argTypes:=#[t,u]}) (ht:P.underlying t=ae (.slice e)) (hb:Bg C e=ah) (hown:Fa c.hp e (oI c.tm x)=ah) (hl:KJ c.hp e (oI c.tm x)=ae l)
  (hm:aip P w u (a.eval y) m) (hr:mM.room (mM.addN (mM.len l) (mM.len m)) 1=ah) (h:(alloc (qx c (oI c.tm x)) (.buf e (mM.app l m)) (.gs c.nx)).All φ):yQ P K H E w c a o φ:=by
 have dx:=ou (H:=H) (E:=E) hd x;obtain ⟨hu8,i,i1,i2,i3,i4⟩:=Jk hC hb;obtain ⟨o1,o2,_⟩:=SS (st:=1) hh hown dx;obtain ⟨r2,r1⟩:=vZ hr;obtain ⟨v',w',hrun,hb',hg,hv'⟩:=adJ (P:=P) t u o.type e i ht i1 i2 i3 i4 (a.eval x) l (KX hh hl dx) (a.eval y) m hm r1 r2;have wK:∀b,nH v'=ae b->Mine K H b:=fun b hb=>by
  rcases hv' b hb with h|h
  ·exact o2 b h
  ·refine ⟨?_,.inl (by have:=hw.size;omega)⟩
   cases hH:H b with
   |none=>rfl |some o=>have:=(aI.1 (hw.on b o hH)).1;omega
 obtain ⟨c',hφ,hp⟩:=Bl hh hw hf h o1 o2 hg hv' (fun _=>⟨v',bp _ _ _,hb',wK⟩);obtain ⟨A,n',cc,e3⟩:=WW hb';refine ⟨_,v',_,H,_,w',hφ,⟨bp _ _ _,A,n',cc,e3⟩,hp,.inl rfl,?_⟩;simp_all [execOp,resolve,invoke,builtin]
theorem agx{c:Core}{a:Act}{o:Oper}{t u:Nat}{x y:Operand}{φ:SV×Core->Prop}(hC:oC P C)(hd:ni H E c.tm a.tmps.toList)(hh:nI K H E w c.hp)(hw:sF K H w)(hf:Free E c)
  (ho:o.op=.call {callee:=.builtin .append,args:=#[x,y],argTypes:=#[t,u]}) (h:(Jb C c t u (oI c.tm x) (oI c.tm y)).All φ):yQ P K H E w c a o φ:=by
 have dy:=ou (H:=H) (E:=E) hd y;unfold Jb at h;split at h
 ·rename_i ti ui hti hui
  split at h
  ·rename_i e h1 h2
   split at h
   ·rename_i l m hl hm
    cases hb:(Bg C e&&Fa c.hp e (oI c.tm x))<;>simp only[hb,cond_true,cond_false] at h
    ·exact h.elim
    simp only[ak] at hb;rw[hC.A] at h;have hu:=(hC.ty _ _ hui).desc;rw[h2] at hu;have ey:=DI hm dy;exact J6 hC hd hh hw hf ho (AU (hC.ty _ _ hti) h1) hb.1 hb.2 hl (by rw[ey];exact ajK hu m) h.1 h.2
   ·exact h.elim
  ·exact h.elim
 ·exact h.elim
theorem agy{c:Core}{a:Act}{o:Oper}{t:Nat}{x y:Operand}{φ:SV×Core->Prop}{r:Tree (SV×Core)}(hC:oC P C)(hd:ni H E c.tm a.tmps.toList)(hh:nI K H E w c.hp)(hw:sF K H w)(hf:Free E c)
  (ho:o.op=.call {callee:=.builtin .append,args:=#[x,y],argTypes:=#[t,t]}) (hr:Jc C c t (oI c.tm x) (oI c.tm y)=ae r) (h:r.All φ):yQ P K H E w c a o φ:=by
 have dy:=ou (H:=H) (E:=E) hd y;unfold Jc at hr;split at hr
 ·rename_i id hx
  split at hr
  ·rename_i e l hl
   split at hr
   ·rename_i ti m hti hm
    split at hr
    ·rename_i e' hty
     cases hb:(e==e'&&Bg C e && !Gg (oI c.tm x) (oI c.tm y))<;>simp only[hb,cond_true,cond_false] at hr
     ·cases hr
     cases hr;simp only[ak,beq_iff_eq] at hb;obtain ⟨⟨rfl,hb⟩,_⟩:=hb;rw[hC.A] at h;have ht:=AU (hC.ty _ _ hti) hty;have ho1:Fa c.hp e (oI c.tm x)=ah:=by simp_all [Fa]
     have ho2:KJ c.hp e (oI c.tm x)=ae l:=by simp_all [KJ]
     exact J6 hC hd hh hw hf ho ht hb ho1 ho2 (ajL ht (KX hh hm dy)) h.1 h.2
    ·cases hr
   ·cases hr
  ·cases hr
 ·cases hr
theorem apI{c:Core}{a:Act}{o:Oper}{t u:Nat}{x:Operand}{φ:SV×Core->Prop}(hC:oC P C)(hd:ni H E c.tm a.tmps.toList)(hh:nI K H E w c.hp)(hw:sF K H w)(hf:Free E c)
  (ho:o.op=.convert t u x) (h:(Sz C c t u (oI c.tm x)).All φ):yQ P K H E w c a o φ:=by
 have dx:=ou (H:=H) (E:=E) hd x;unfold Sz at h;split at h
 ·rename_i ti ui hti hui
  have ht:=(hC.ty _ _ hti).desc;have hu:=(hC.ty _ _ hui).desc;split at h
  ·rename_i k1 k2 e1 e2
   rw[e1] at ht;rw[e2] at hu;have key:∀(k:IntKind) (n:Int),a.eval x=.int k n->(execOp a.eval o).run P w=.ok (.value (.int k2 (k2.wrap n))) w:=fun k n hv=>by
    simp only[execOp,ho,hv];simp[convert,run_underlying ht,run_underlying hu,Conv.intToInt]
   split at h
   ·rename_i k n hx
    rw[hx] at dx;exact ⟨_,.int k2 (k2.wrap n),_,H,E,w,h,rfl,fN hh hw,.inl rfl,key k n dx⟩
   ·rename_i k n hx
    rw[hx] at dx;rw[hC.A] at h;exact ⟨_,.int k2 (k2.wrap n),_,H,E,w,h,rfl,fN hh hw,.inl rfl,key k n dx⟩
   ·exact h.elim
  ·rename_i e e1 e2
   rw[e1] at ht;rw[e2] at hu;split at h
   ·rename_i l hl
    cases hb:Bg C e<;>simp only[hb,cond_true,cond_false] at h
    ·exact h.elim
    rw[hC.A] at h;obtain ⟨h1,h2⟩:=h;obtain ⟨r2,r1⟩:=vZ h1;obtain ⟨hu8,_⟩:=Jk hC hb;have ex:=DI hl dx;obtain ⟨v',w',hrun,hb',hg,hv'⟩:=adK (P:=P) (w:=w) (src:=t) (dst:=u) ht hu hu8 l r1;have wK:∀b,nH v'=ae b->Mine K H b:=fun b hb=>by
     have:=hv' b hb;refine ⟨?_,.inl (by have:=hw.size;omega)⟩;cases hH:H b with
     |none=>rfl |some o=>have:=(aI.1 (hw.on b o hH)).1;omega
    obtain ⟨c',hφ,hp⟩:=Bl (s:=.nS) (v:=.slice ao 0 0) (v':=v') hh hw hf h2 (.inl ⟨rfl,rfl⟩) (fun b hb=>by simp[nH] at hb) hg (fun b hb=>.inr (hv' b hb)) (fun _=>⟨v',bp _ _ _,hb',wK⟩);obtain ⟨A,n',cc,e3⟩:=WW hb';refine ⟨_,v',_,H,_,w',hφ,⟨bp _ _ _,A,n',cc,e3⟩,hp,.inl rfl,?_⟩;simp_all [execOp]
   ·exact h.elim
  ·rename_i e e1 e2
   rw[e1] at ht;rw[e2] at hu;split at h
   ·rename_i l hl
    cases hb:Bg C e<;>simp only[hb,cond_true,cond_false] at h
    ·exact h.elim
    obtain ⟨hu8,_⟩:=Jk hC hb;have hrun:=ajM (P:=P) (src:=t) (dst:=u) ht hu8 hu (KX hh hl dx) w fun _ _=>rfl
    refine ⟨_,.string ⟨l.toArray⟩,_,H,E,w,h,.str l,fN hh hw,.inl rfl,?_⟩;simp_all [execOp]
   ·exact h.elim
  ·exact h.elim
 ·exact h.elim
end
section
variable{P:Program}{C:Ctx}{K:Kx}{H H':Mem}{E E':Env}{w w':World}
theorem WX{st n:Nat}{g:Nat->List Sh}{u:Value}(h:Rep H (.sl st n g) u):∃A cap,u=.slice A n cap/\n<=cap/\cap<=maxLen:=by
 cases h with
 |sl0 _ _ A cap hc=>grind |sl _ _ _ b off cap c h1 h2=>grind
theorem alS{st n l h cap:Nat}{g g':Nat->List Sh}{A:Option Addr}(hr:Rep H (.sl st n g) (.slice A n cap))(hl:l<=h)(hh:h<=n)(hg:∀j,j<h - l->g' j=g (l+j)):
  Rep H (.sl st (h - l) g') (sliced A l h cap st):=by
 by_cases e:h - l=0
 ·unfold sliced
  rw[e];refine .sl0 _ _ _ _ ?_;grind [WX]
 ·generalize hn:n=m at hr
  cases hr with
  |sl0 _ _ _ _ hc=>omega |sl _ _ _ b off _ c h1 h2 h3 h4 h5 h6=>
   subst hn;unfold sliced;rw[if_neg (by omega)];simp only[jj,bx];(refine .sl _ _ _ b (off+l*st) _ (fun i j=>c (l+i) j) (by omega) (by omega) (fun i hi=>by rw[hg i hi];exact h3 _ (by omega)) (fun i j hi hj=>?_) (fun i j hi hj=>h5 _ _ (by omega) hj) fun i j s hi e=>?_)<;>grind
theorem CW{i:Int}{n:Nat}(h:mM.upTo i n=ah):0<=i/\i<=n:=by grind [mM]
theorem agz{c:Core}{hp:List (Nat×SB)}(hH:H.le H')(hh:nI K H' E w hp)(hw:sF K H' w)(hz:NU H' E c.hp hp):Post K H E w c H' E w {c with hp}:=
 ⟨hH,fun _ _ e=>e,fun _ h1 h2=>(h2 h1).elim,aV _,.inr rfl,rfl,rfl,hh,hw,fun _ h=>h,aV _,fun _ _ _=>rfl,fun i b h1 h2=>by grind [bk],fun _ h=>.inl h,
  fun id sb b h1 _ h3=>(hz.keep id sb b h1 h3).imp (fun h=>h) fun h=>⟨sb,h,h3⟩,fun id sb h _=>hz.old id sb h⟩
theorem alT{c:Core}{a:Act}{o:Oper}{t:Nat}{x:Operand}{lo hi:Option Operand}{φ:SV×Core->Prop}(hC:oC P C)(hd:ni H E c.tm a.tmps.toList)(hh:nI K H E w c.hp)(hw:sF K H w)
  (ho:o.op=.slice t x lo hi ao) (h:(OC C c t (oI c.tm x) (lo.map (oI c.tm)) (hi.map (oI c.tm))).All φ):yQ P K H E w c a o φ:=by
 have dx:=ou (H:=H) (E:=E) hd x;unfold OC at h;split at h
 ·rename_i ti hti
  split at h
  ·rename_i e hty
   have hu:=AU (hC.ty _ _ hti) hty;split at h
   ·rename_i te hte
    have hsz:∀w,(sizeOf e).run P w=.ok te.size w:=fun w=>AL (hC.ty _ _ hte) w;split at h
    ·rename_i id n hv hvw e1 e2
     have e1':lo=ao:=by simp_all
     subst e1';simp only[aP] at e2;obtain ⟨y,rfl,rfl⟩:=e2;split at h
     ·rename_i hi hn q1 q2
      obtain ⟨k,ey⟩:=yF q1 (ou (H:=H) (E:=E) hd y);rw[hC.A] at h q2;have q2:=yH q1 q2;obtain ⟨g1,g2⟩:=h;obtain ⟨g1,g3⟩:=CW g1;unfold aij at hvw;split at hvw
      ·rename_i id' hx
       split at hvw
       ·rename_i el st' m g hl
        cases hb:(te.size==st')<;>simp only[hb,cond_true,cond_false] at hvw
        ·cases hvw
        cases hvw;rw[hx] at dx;obtain ⟨he,A,n2,cap,eu⟩:=dx;obtain ⟨v,xs,e3,e4,_⟩:=hh.ent _ _ hl;rw[he] at e3;cases e3;rw[eu] at e4 he;have hk:n2=n:=by
         have:=EL e4;assumption
        subst hk;have helem:P.elem t=e:=by simp[j2,hu]
        have hu':P.underlying t=ae (.slice (P.elem t)):=by simp_all
        have hcap:n2<=cap:=by
         (rcases e4.2 with ⟨e5,_⟩ |⟨_,_,_,e5,_,_,e6,_⟩)<;>simp_all
        have hr:=run_slice_h (P:=P) w t A n2 cap hu' k hi (by omega) (by omega);subst q2;have hs:sliced A 0 hi.toNat cap te.size=.slice A hi.toNat cap:=by simp_all [sliced,eZ]
        refine ⟨_,.slice A hi.toNat cap,_,H,E,w,g2,⟨A,n2,cap,he,by omega,rfl⟩,fN hh hw,.inl rfl,?_⟩;simp_all [execOp,run_sliceAt_slice]
       ·cases hvw
      ·cases hvw
     ·exact h.elim
    split at h
    ·exact h.elim
    ·rename_i hp hfz
     have hfz':∃H',H.le H'/\nI K H' E w hp/\sF K H' w/\NU H' E c.hp hp:=by
      split at hfz
      ·grind [CU]
      ·cases hfz;exact ⟨H,fun _ _ e=>e,hh,hw,NU.refl _ _ _⟩
     obtain ⟨H',hH,hh',hw',hz'⟩:=hfz';split at h
     ·rename_i st n g hsh
      have hrep:=EM hh' hsh (dx.le hH (fun _ _ e=>e));obtain ⟨A,cap,eu,hcap,hmax⟩:=WX hrep;rw[eu] at hrep;cases hb:(st==te.size)<;>simp only[hb,cond_true,cond_false] at h
      ·exact h.elim
      obtain rfl:st=te.size:=by grind
      have helem:P.elem t=e:=by simp[j2,hu]
      have hu':P.underlying t=ae (.slice (P.elem t)):=by simp_all
      have fin:∀(sv:SV) (l h:Nat) (g':Nat->List Sh),φ (sv,{c with hp})->sv=.sh (.sl te.size (h - l) g')->l<=h->h<=n->(∀j,j<h - l->g' j=g (l+j))->
        (Instr.slice t (.slice A n cap) (lo.map a.eval) (hi.map a.eval) ao).run P w=((sizeOf (P.elem t)).run P w).andThen (fun s w=>.ok (sliced A l h cap s) w)->yQ P K H E w c a o φ:=by
       intro sv l h g' hφ hsv h1 h2 h3 hr;refine ⟨_,sliced A l h cap te.size,_,H',E,w,hφ,?_,agz hH hh' hw' hz',.inl rfl,?_⟩
       ·subst hsv
        exact alS hrep h1 h2 h3
       simp_all [execOp,run_sliceAt_slice]
      have hA:=hC.A;rw[hA] at h;split at h
      ·rename_i e1 e2
       have e1':lo=ao:=by simp_all
       have e2':hi=ao:=by simp_all
       subst e1' e2';exact fin _ 0 n g h (by rfl) (by omega) (by omega) (fun j _=>by simp) (run_slice_all (P:=P) w t A n cap hu')
      ·rename_i hv e1 e2
       have e1':lo=ao:=by simp_all
       subst e1';simp only[aP] at e2;obtain ⟨y,rfl,rfl⟩:=e2;split at h
       ·rename_i hi hn q1 q2
        obtain ⟨k,ey⟩:=yF q1 (ou (H:=H) (E:=E) hd y);have q2:=yH q1 q2;obtain ⟨g1,g2⟩:=h;obtain ⟨g1,g3⟩:=CW g1;refine fin _ 0 hn g g2 (by rfl) (by omega) (by omega) (fun j _=>by simp) ?_;grind [run_slice_h]
       ·exact h.elim
      ·rename_i lv e1 e2
       have e2':hi=ao:=by simp_all
       subst e2';simp only[aP] at e1;obtain ⟨y,rfl,rfl⟩:=e1;split at h
       ·rename_i li l q1 q2
        obtain ⟨k,ey⟩:=yF q1 (ou (H:=H) (E:=E) hd y);have q2:=yH q1 q2;obtain ⟨g1,g2⟩:=h;obtain ⟨g1,g3⟩:=CW g1;refine fin _ l n _ g2 rfl (by omega) (by omega) (fun j _=>rfl) ?_;simp_all [run_slice_l,jj,Option.map_none]
       ·exact h.elim
      ·rename_i lv hv e1 e2
       simp only[aP] at e1 e2;obtain ⟨y,rfl,rfl⟩:=e1;obtain ⟨z,rfl,rfl⟩:=e2;split at h
       ·rename_i li l hi hn q1 q2 q3 q4
        obtain ⟨k,ey⟩:=yF q1 (ou (H:=H) (E:=E) hd y);obtain ⟨k2,ez⟩:=yF q3 (ou (H:=H) (E:=E) hd z);have q2:=yH q1 q2;have q4:=yH q3 q4;obtain ⟨g1,g2,g3⟩:=h;obtain ⟨g1,g4⟩:=CW g1;obtain ⟨g2,g5⟩:=CW g2;refine fin _ l hn _ g3 rfl (by omega) (by omega) (fun j _=>rfl) ?_;grind [run_slice_lh]
       ·exact h.elim
     ·exact h.elim
   ·exact h.elim
  ·exact h.elim
 ·exact h.elim
theorem UW{k:IntKind}{n:Int}{sv:SV}{v:Value}(hv:Den H E sv v):∀{es es':List (SV×SV)} {ms:List MapEntry} (j:Nat),P7 k n sv es=ae es'->Gj H E es ms->
  (∃i u m,be (.int k) (.int k n) ms j=ae (ae (j+i,u))/\ms[i]?=ae m/\m.key=.int k n/\Gj H E es' (ms.modify i fun m=>{m with key:=.int k n,val:=v}))\/
  (be (.int k) (.int k n) ms j=ae ao/\∀clk,Gj H E es' (ms++[{key:=.int k n,val:=v,born:=clk}]))
 |[],es',[],j,h,_=>by
  simp[P7] at h;subst h;exact .inr ⟨rfl,fun clk=>⟨rfl,hv,trivial⟩⟩
 |(k',u)::es,es',m::ms,j,h,⟨h1,h2,h3⟩=>by
  unfold P7 at h;split at h
  ·simp_all
  ·rename_i l p u es0 e
   simp only[gQ,dK] at e;obtain ⟨⟨rfl,rfl⟩,rfl⟩:=e;have h1:m.key=.int l p:=h1;cases hb:(l==k)<;>simp only[hb,cond_true,cond_false] at h
   ·cases h
   obtain rfl:l=k:=by grind
   cases hp:(p==n)<;>simp only[hp,cond_true,cond_false] at h
   ·have hne:(n==p)=ag:=by grind
    simp only[aP] at h;obtain ⟨r,hr,rfl⟩:=h;rcases UW hv (j+1) hr h3 with ⟨i,u',m',e1,e2,e3,e4⟩ |⟨e1,e2⟩
    ·refine .inl ⟨i+1,u',m',?_,by grind,e3,?_⟩
     ·grind [be,bC]
     ·simp only[List.modify_succ_cons]
      exact ⟨h1,h2,e4⟩
    ·refine .inr ⟨by grind [be,bC],fun clk=>⟨h1,h2,e2 clk⟩⟩
   ·cases h
    obtain rfl:p=n:=by grind
    refine .inl ⟨0,m.val,m,by simp[be,h1,bC],rfl,h1,?_⟩;simp only[List.modify_zero_cons];exact ⟨rfl,hv,h3⟩
  ·cases h
 |[],_,_::_,_,_,h=>h.elim |_::_,_,[],_,_,h=>h.elim
theorem abR(w:World)(b k:Nat)(o o':Obj)(h:w.heap[b]?=ae o):(w.heap.setIfInBounds b o')[k]?=if k=b then ae o' else w.heap[k]?:=by
 grind
theorem Uz.push{ms:List MapEntry}{N:rX->Option Value}(h:Uz ms N){n:rX}(hne:∀m∈ms,m.key≠qX n)(v:Value)(clk:Nat):
  Uz (ms++[{key:=qX n,val:=v,born:=clk}]) (fun j=>if j=n then ae v else N j):=by
 have hget:∀(i:Nat) (m:MapEntry),(ms++[{key:=qX n,val:=v,born:=clk:MapEntry}])[i]?=ae m->(i<ms.length/\ms[i]?=ae m)\/(i=ms.length/\m={key:=qX n,val:=v,born:=clk}):=fun i m hi=>by
  grind
 refine ⟨fun m hm=>?_,fun m hm j e=>?_,fun j u hj=>?_,fun i j m m' a b e=>?_⟩
 ·rcases aU.1 hm with hm|hm
  ·exact h.key m hm
  grind
 ·rcases aU.1 hm with hm1|hm1
  ·rw[if_neg (show ¬j=n from fun e2=>hne m hm1 (by simp_all))]
   exact h.VD m hm1 j e
  grind [Ji]
 ·by_cases e:j=n
  ·simp_all
  ·rw[if_neg e] at hj
   obtain ⟨m,hm,q⟩:=h.ex j u hj;grind
 ·rcases hget i m a with ⟨_,a⟩ |⟨a,rfl⟩<;>rcases hget j m' b with ⟨_,b⟩ |⟨b,rfl⟩
  ·exact h.one i j m m' a b e
  ·grind
  ·grind
  ·omega
theorem Uz.set{ms:List MapEntry}{N:rX->Option Value}(h:Uz ms N){n:rX}{i:Nat}{m0:MapEntry}(hi:ms[i]?=ae m0)(hk:m0.key=qX n)(v:Value){f:MapEntry->MapEntry}
  (hf1:(f m0).key=qX n) (hf2:(f m0).val=v):Uz (ms.modify i f) (fun j=>if j=n then ae v else N j):=by
 have hget:∀(j:Nat) (m:MapEntry),(ms.modify i f)[j]?=ae m->(j=i/\m=f m0)\/(j≠i/\ms[j]?=ae m):=fun j m hj=>by
  grind
 have hin:∀m∈ms.modify i f,m=f m0\/(m∈ms/\m.key≠qX n):=fun m hm=>by
  obtain ⟨j,hj⟩:=bl.1 hm;rcases hget j m hj with ⟨_,e⟩ |⟨e,e2⟩
  ·exact .inl e
  ·refine .inr ⟨aT e2,fun e3=>e ?_⟩
   exact h.one j i m m0 e2 hi (e3.trans hk.symm)
 have hnew:f m0∈ms.modify i f:=by
  grind
 refine ⟨fun m hm=>?_,fun m hm j e=>?_,fun j u hj=>?_,fun a b m m' ha hb e=>?_⟩
 ·rcases hin m hm with rfl|hm
  ·grind
  ·exact h.key m hm.1
 ·rcases hin m hm with rfl|⟨hm,hne⟩
  ·grind [Ji]
  ·rw[if_neg fun e2=>by simp_all]
   exact h.VD m hm j e
 ·by_cases e:j=n
  ·grind
  ·rw[if_neg e] at hj
   obtain ⟨m,hm,q⟩:=h.ex j u hj;grind [bl,Ji]
 ·rcases hget a m ha with ⟨a1,rfl⟩ |⟨a1,a2⟩<;>rcases hget b m' hb with ⟨b1,rfl⟩ |⟨b1,b2⟩
  ·omega
  ·exact (b1 (h.one b i m' m0 b2 hi (e.symm.trans (hf1.trans hk.symm)))).elim
  ·exact (a1 (h.one a i m m0 a2 hi (e.trans (hf1.trans hk.symm)))).elim
  ·exact h.one a b m m' a2 b2 e
theorem WY{M:rX->Option Value}{n:rX}{o:Option Value}{uv:List (rX×Option Value)}:KR M ((n,o)::uv)=fun j=>if j=n then o else KR M uv j:=rfl
theorem agA(n:rX):eH 10000 (qX n) (qX n)=ah:=by
 have h (b:ByteArray):(b==b)=ah:=by
  obtain ⟨⟨l⟩⟩:=b;show ((⟨⟨l⟩⟩:ByteArray).data==(⟨⟨l⟩⟩:ByteArray).data)=ah;simp
 simp[qX,eH,h]
theorem aas{c:Core}{a:Act}{o:Oper}{t:Nat}{x y z:Operand}{φ:SV×Core->Prop}(hC:oC P C)(hd:ni H E c.tm a.tmps.toList)(hh:nI K H E w c.hp)(hw:sF K H w)
  (ho:o.op=.mapUpdate t x y z\/o.op=.insert t x y z) (h:(Gh C c t (oI c.tm x) (oI c.tm y) (oI c.tm z)).All φ):yQ P K H E w c a o φ:=by
 have dx:=ou (H:=H) (E:=E) hd x;have dy:=ou (H:=H) (E:=E) hd y;have dz:=ou (H:=H) (E:=E) hd z;unfold Gh at h;split at h
 ·rename_i ti hti
  split at h
  ·rename_i kt vt hty
   have ht:=(hC.ty _ _ hti).desc;rw[hty] at ht;have ht:P.underlying t=ae (.map kt vt):=ht;split at h
   ·rename_i WB adN
    have hk:=(hC.ty _ _ adN).desc;split at h
    ·rename_i kk id k n hkk hx hy
     rw[hkk] at hk;have hk:P.underlying kt=ae (.int kk):=hk;rw[hx] at dx;rw[hy] at dy;obtain ⟨b,he,ex⟩:=dx;have ey:a.eval y=.int k n:=dy;split at h
     ·rename_i es hl
      cases hb:(kk==k)<;>simp only[hb,cond_true,cond_false] at h
      ·exact h.elim
      obtain rfl:kk=k:=by grind
      split at h
      ·rename_i es' hes
       obtain ⟨b',ms,clk,he',h1,h2,h3⟩:=hh.ent _ _ hl;rw[he] at he';cases he';have hg:(getObj b).run P w=.ok (.map ms clk) w:=by simp[getObj,dQ,h1]
       have hck:=Dy (P:=P) hk ag kk n w;have hso:∀o',(setObj b o').run P w=.ok () {w with heap:=w.heap.setIfInBounds b o'}:=fun o'=>by simp[setObj,dQ,h1]
       have fin:∀(o':Obj) (ms':Array MapEntry) (Fp:Nat),o'=.map ms' Fp->Gj H E es' ms'.toList->(cS t (.map (ae b)) (.int kk n) (a.eval z)).run P w=.ok () {w with heap:=w.heap.setIfInBounds b o'}->yQ P K H E w c a o φ:=by
        intro o' ms' Fp ho' hd' hr;subst ho';refine ⟨_,undef,_,H,E,{w with heap:=w.heap.setIfInBounds b (.map ms' Fp)},h,trivial,?_,.inr ⟨rfl,rfl⟩,?_⟩
        rotate_left
        ·rcases ho with ho|ho<;>simp[execOp,ho,ex,ey,hr]
        ·refine CS hh hw hl (b:=b) (by simp[nU,he,nH]) (fun k hk=>?_) (by simp) rfl rfl rfl ?_ (by simp[nU,he,nH])
         ·grind
         ·exact ⟨b,ms',Fp,he,by grind,hd',h3⟩
       rcases UW dz 0 hes h2 with ⟨i,u,m,e1,e2,e3,e4⟩ |⟨e1,e2⟩
       ·refine fin (.map (ms.modify i fun m=>{m with key:=.int kk n,val:=a.eval z}) clk) _ clk rfl (by grind) ?_
        have e2':ms[i]?=ae m:=by grind
        simp only[cy] at e1;simp[cS,run_underlying ht,hg,hck,cg,run_underlying hk,e1,e2',e3,fa,eH,hso]
       ·refine fin (.map (ms.push {key:=.int kk n,val:=a.eval z,born:=clk}) (clk+1)) _ (clk+1) rfl (by simp_all) ?_
        simp_all [cS,run_underlying,cg]
      ·exact h.elim
     ·exact h.elim
    ·rename_i fs id kk hkk hx
     rw[hx] at dx;obtain ⟨b,he,ex⟩:=dx;split at h
     ·rename_i vt M us hl
      split at h
      ·rename_i n hn
       have ey:a.eval y=qX n:=Qr hn dy;cases hb:(C.VB.contains kt&&(oI c.tm z).one&&(oI c.tm z).aah vt)<;>simp only[hb,cond_true,cond_false] at h
       ·exact h.elim
       rw[ak,ak] at hb;obtain ⟨⟨hpk,hone⟩,hvt⟩:=hb;have hp:=hC.VB _ hpk;obtain ⟨b',ms,clk,uv,he',h1,d2,hT,hL,hok,h3⟩:=hh.ent _ _ hl;have hL':alB vt ((n,ah,oI c.tm z)::us):=fun u hu q=>by
        rcases List.mem_cons.1 hu with rfl|hu
        ·exact hvt
        ·exact hL u hu q
       rw[he] at he';cases he';have hg:(getObj b).run P w=.ok (.map ms clk) w:=by simp[getObj,dQ,h1]
       have hck:=hp.chk ag n w;have hso:∀o',(setObj b o').run P w=.ok () {w with heap:=w.heap.setIfInBounds b o'}:=fun o'=>by simp[setObj,dQ,h1]
       have fin:∀(ms':Array MapEntry) (Fp:Nat),Uz ms'.toList (KR M ((n,ae (a.eval z))::uv))->(cS t (.map (ae b)) (qX n) (a.eval z)).run P w=.ok () {w with heap:=w.heap.setIfInBounds b (.map ms' Fp)}->yQ P K H E w c a o φ:=by
        intro ms' Fp hok' hr;refine ⟨_,undef,_,H,E,{w with heap:=w.heap.setIfInBounds b (.map ms' Fp)},h,trivial,?_,.inr ⟨rfl,rfl⟩,?_⟩
        rotate_left
        ·rcases ho with ho|ho<;>simp[execOp,ho,ex,ey,hr]
        ·refine CS hh hw hl (b:=b) (by simp[nU,he,nH]) (fun k hk=>?_) (by simp) rfl rfl rfl ?_ (by simp[nU,he,nH])
         ·grind
         ·exact ⟨b,ms',Fp,(n,ae (a.eval z))::uv,he,by grind,⟨rfl,⟨dz,one_cell hone dz⟩,d2⟩,hT,hL',hok',h3⟩
       obtain ⟨r,e1,e2⟩:=G8 hp (n:=n) (w:=w) hok.key;rcases e2 with ⟨rfl,e2⟩ |⟨i,m,rfl,e3,e4⟩
       ·refine fin (ms.push {key:=qX n,val:=a.eval z,born:=clk}) (clk+1) (by simpa[WY] using hok.push e2 (a.eval z) clk) ?_
        simp_all [cS,run_underlying]
       ·refine fin (ms.modify i fun m=>{m with key:=qX n,val:=a.eval z}) clk ?_ ?_
        ·have:=hok.set e3 e4 (a.eval z) (f:=fun m=>{m with key:=qX n,val:=a.eval z}) rfl rfl
         simp_all [WY]
        simp_all [cS,run_underlying,fa,agA]
      ·exact h.elim
     ·exact h.elim
    ·exact h.elim
   ·exact h.elim
  ·exact h.elim
 ·exact h.elim
theorem agB{c:Core}{id b nx':Nat}{sb sb':SB}(hh:nI K H E w c.hp)(hw:sF K H w)(hl:mQ c.hp id=ae sb)(hb:nU E id sb=ae b)
  (hE:E.le E') (hnew:∀i,E i=ao->E' i≠ao->c.nx<=i/\i<nx') (hbk:∀i,E i=ao->bk E' i=ao) (hnx:c.nx<=nx') (hlim:nx'<=c.lim\/nx'=c.nx)
  (hother:∀k,k≠b->w'.heap[k]?=w.heap[k]?) (hsz:w'.heap.size=w.heap.size) (hos:w'.os=w.os) (htape:w'.tape=w.tape) (hout:w'.output=w.output)
  (he:xU K H E' w' id sb') (hb':nU E' id sb'=ae b):Post K H E w c H E' w' {c with hp:=hset c.hp id sb',nx:=nx',tc:=id::c.tc}:=by
 have wK:=((hh.ent _ _ hl).lt hb);refine ⟨fun _ _ e=>e,hE,hnew,hnx,hlim,rfl,rfl,?_,?_,fun _ h=>aZ _ h,by omega,?_,fun i b h1 h2=>(by simp_all),?_,?_,?_⟩
 ·refine ⟨fun id2 Qu hl2=>?_,fun id1 id2 sb1 Qu b0 h1 h2 o1 o2=>?_⟩
  ·simp only[rU] at hl2
   cases hid:(id==id2)<;>simp only[hid,cond_true,cond_false] at hl2
   ·have hent:=hh.ent _ _ hl2
    refine hent.kept (fun _ _ e=>e) hE (fun b0 hb0=>hother b0 fun e=>?_) fun b0 hb0=>(hent.lt hb0).2.1;subst e;have:=hh.vV _ _ _ _ _ hl hl2 hb hb0;simp_all
   simp_all
  ·have conv:∀{i:Nat} {s:SB},mQ (hset c.hp id sb') i=ae s->nU E' i s=ae b0->∃s',mQ c.hp i=ae s'/\nU E i s'=ae b0:=by
    intro i s h o;rw[rU] at h;cases hid:(id==i)<;>simp only[hid,cond_true,cond_false] at h
    ·exact ⟨s,h,by rw[<-xW (hh.ent _ _ h) hE];exact o⟩
    simp_all
   obtain ⟨s1,a1,a2⟩:=conv h1 o1;obtain ⟨s2,a3,a4⟩:=conv h2 o2;exact hh.vV _ _ _ _ _ a1 a3 a2 a4
 ·refine ⟨hos.trans hw.os,htape.trans hw.tape,hout.trans hw.output,by have:=hw.size;omega,fun k hk hn=>?_,fun k o hk=>?_,hw.le,hw.fresh⟩
  ·rw[hother k fun e=>?_]
   ·exact hw.kept k hk hn
   ·subst e
    (rcases wK.2.2 with h|h)<;>grind
  ·rw[hother k fun e=>?_]
   ·exact hw.on k o hk
   ·subst e
    rw[wK.2.1] at hk;cases hk
 ·grind [bj,wW]
 ·grind [wW]
 ·intro i s0 b0 h1 h2 h3
  refine .inr ⟨s0,?_,VZ h3 hE⟩;grind [rU]
 ·intro i s0 h1 _
  simp only[rU] at h1;cases hid:(id==i)<;>simp only[hid,cond_true,cond_false] at h1
  ·exact ⟨s0,h1,fun b0 h=>by rw[xW (hh.ent _ _ h1) hE] at h;exact h⟩
  simp_all
theorem UY{k:IntKind}{n p:Int}{m:MapEntry}{ms:List MapEntry}(hm:m.key=.int k p):Aj k n (m::ms)=if n=p then ae m.val else Aj k n ms:=by
 (by_cases e:n=p)<;>simp_all [Aj,bC]
theorem OW{k:IntKind}{n:Int}:∀{ms:List MapEntry},(∀m∈ms,∃n,m.key=.int k n)->(∀(i j:Nat) (m m':MapEntry),ms[i]?=ae m->ms[j]?=ae m'->m.key=m'.key->i=j)->∀m∈ms,m.key=.int k n->Aj k n ms=ae m.val
 |m0::ms,hk,h1,m,hm,e=>by
  obtain ⟨p,hp⟩:=hk m0 (bj ..);rw[UY hp];by_cases en:n=p
  ·subst en
   rw[if_pos rfl];obtain ⟨j,hj⟩:=bl.1 hm;have:=h1 0 j m0 m rfl hj (hp.trans e.symm);grind
  ·rw[if_neg en]
   refine OW (fun m hm=>hk m (aZ _ hm)) (fun i j m m' a b c=>by have:=h1 (i+1) (j+1) m m' (by simpa using a) (by simpa using b) c;omega) m ?_ e;grind
theorem UZ{k:IntKind}{n:Int}:∀{ms:List MapEntry},(∀m∈ms,∃n,m.key=.int k n)->(∀m∈ms,m.key≠.int k n)->Aj k n ms=ao
 |[],_,_=>rfl |m::ms,hk,h=>by
  obtain ⟨p,hp⟩:=hk m (bj ..);rw[UY hp,if_neg]
  ·exact UZ (fun m hm=>hk m (aZ _ hm)) fun m hm=>h m (aZ _ hm)
  grind
theorem SX{k:IntKind}{ms:List MapEntry}{N:Int->Option Value}(hk:∀m∈ms,∃n,m.key=.int k n)(h1:∀(i j:Nat) (m m':MapEntry),ms[i]?=ae m->ms[j]?=ae m'->m.key=m'.key->i=j)
  (h2:∀m∈ms,∀n,m.key=.int k n->N n=ae m.val) (h3:∀n v,N n=ae v->∃m∈ms,m.key=.int k n):∀n,Aj k n ms=N n:=fun n=>by
 cases hn:N n with
 |none=>
  grind [UZ]
 |some v=>
  grind [OW]
theorem vJ.VD{k:IntKind}{ms:List MapEntry}{clk:Nat}{N:Int->Option Value}(h:vJ k ms clk N):(∀m∈ms,∀n,m.key=.int k n->N n=ae m.val)/\(∀n v,N n=ae v->∃m∈ms,m.key=.int k n/\m.val=v):=by
 refine ⟨fun m hm n e=>by rw[<-h.at_,OW h.key h.one m hm e],fun n v hn=>?_⟩;rw[<-h.at_] at hn;obtain ⟨i,_,m,h1,h2,h3⟩:=zX h.key 0 hn;grind
theorem vJ.push{k:IntKind}{ms:List MapEntry}{clk:Nat}{N:Int->Option Value}(h:vJ k ms clk N){n:Int}(hn:N n=ao)(v:Value):
  vJ k (ms++[{key:=.int k n,val:=v,born:=clk}]) (clk+1) (fun j=>if j=n then ae v else N j):=by
 have hne:∀m∈ms,m.key≠.int k n:=fun m hm e=>by rw[h.VD.1 m hm n e] at hn;cases hn
 have hkey:∀m∈ms++[{key:=.int k n,val:=v,born:=clk:MapEntry}],∃n,m.key=.int k n:=fun m hm=>by
  rcases aU.1 hm with hm|hm
  ·exact h.key m hm
  simp_all
 have hget:∀(i:Nat) (m:MapEntry),(ms++[{key:=.int k n,val:=v,born:=clk:MapEntry}])[i]?=ae m->(i<ms.length/\ms[i]?=ae m)\/(i=ms.length/\m={key:=.int k n,val:=v,born:=clk}):=fun i m hi=>by
  grind
 have hone:∀(i j:Nat) (m m':MapEntry),(ms++[{key:=.int k n,val:=v,born:=clk:MapEntry}])[i]?=ae m->(ms++[{key:=.int k n,val:=v,born:=clk:MapEntry}])[j]?=ae m'->m.key=m'.key->i=j:=fun i j m m' a b e=>by
  rcases hget i m a with ⟨_,a⟩ |⟨a,rfl⟩<;>rcases hget j m' b with ⟨_,b⟩ |⟨b,rfl⟩
  ·exact h.one i j m m' a b e
  ·grind
  ·grind
  ·omega
 refine ⟨hkey,SX hkey hone (fun m hm j e=>?_) (fun j u hj=>?_),hone,fun i j m m' a b e=>?_,fun m hm=>?_⟩
 ·rcases aU.1 hm with hm1|hm1
  ·rw[if_neg (show ¬j=n from fun e2=>hne m hm1 (by simp_all))]
   exact h.VD.1 m hm1 j e
  simp_all
 ·by_cases e:j=n
  ·simp_all
  ·rw[if_neg e] at hj
   obtain ⟨m,hm,q,_⟩:=h.VD.2 j u hj;grind
 ·rcases hget i m a with ⟨_,a⟩ |⟨a,rfl⟩<;>rcases hget j m' b with ⟨_,b⟩ |⟨b,rfl⟩
  ·exact h.born i j m m' a b e
  ·have:=h.lt m (aT a);simp_all
  ·have:=h.lt m' (aT b);simp_all
  ·omega
 ·rcases aU.1 hm with hm|hm
  ·have:=h.lt m hm;omega
  simp_all
theorem vJ.set{k:IntKind}{ms:List MapEntry}{clk:Nat}{N:Int->Option Value}(h:vJ k ms clk N){n:Int}{i:Nat}{m0:MapEntry}(hi:ms[i]?=ae m0)(hk:m0.key=.int k n)(v:Value){f:MapEntry->MapEntry}
  (hf1:(f m0).key=.int k n) (hf2:(f m0).val=v) (hf3:(f m0).born=m0.born):vJ k (ms.modify i f) clk (fun j=>if j=n then ae v else N j):=by
 have hget:∀(j:Nat) (m:MapEntry),(ms.modify i f)[j]?=ae m->(j=i/\m=f m0)\/(j≠i/\ms[j]?=ae m):=fun j m hj=>by
  grind
 have hin:∀m∈ms.modify i f,m=f m0\/(m∈ms/\m.key≠.int k n):=fun m hm=>by
  obtain ⟨j,hj⟩:=bl.1 hm;rcases hget j m hj with ⟨_,e⟩ |⟨e,e2⟩
  ·exact .inl e
  ·refine .inr ⟨aT e2,fun e3=>e ?_⟩
   exact h.one j i m m0 e2 hi (e3.trans hk.symm)
 have hkey:∀m∈ms.modify i f,∃n,m.key=.int k n:=fun m hm=>by
  rcases hin m hm with rfl|hm
  ·simp_all
  ·exact h.key m hm.1
 have hnew:f m0∈ms.modify i f:=by
  grind
 have hone:∀(a b:Nat) (m m':MapEntry),(ms.modify i f)[a]?=ae m->(ms.modify i f)[b]?=ae m'->m.key=m'.key->a=b:=fun a b m m' ha hb e=>by
  rcases hget a m ha with ⟨a1,rfl⟩ |⟨a1,a2⟩<;>rcases hget b m' hb with ⟨b1,rfl⟩ |⟨b1,b2⟩
  ·omega
  ·exact (b1 (h.one b i m' m0 b2 hi (e.symm.trans (hf1.trans hk.symm)))).elim
  ·exact (a1 (h.one a i m m0 a2 hi (e.trans (hf1.trans hk.symm)))).elim
  ·exact h.one a b m m' a2 b2 e
 refine ⟨hkey,SX hkey hone (fun m hm j e=>?_) (fun j u hj=>?_),hone,fun a b m m' ha hb e=>?_,fun m hm=>?_⟩
 ·rcases hin m hm with rfl|⟨hm,hne⟩
  ·simp_all
  ·rw[if_neg fun e2=>by simp_all]
   exact h.VD.1 m hm j e
 ·by_cases e:j=n
  ·grind
  ·rw[if_neg e] at hj
   obtain ⟨m,hm,q,_⟩:=h.VD.2 j u hj;grind [bl,int_inj]
 ·rcases hget a m ha with ⟨a1,rfl⟩ |⟨a1,a2⟩<;>rcases hget b m' hb with ⟨b1,rfl⟩ |⟨b1,b2⟩
  ·omega
  ·exact (b1 (h.born b i m' m0 b2 hi (e.symm.trans hf3))).elim
  ·exact (a1 (h.born a i m m0 a2 hi (e.trans hf3))).elim
  ·exact h.born a b m m' a2 b2 e
 ·rcases hin m hm with rfl|hm
  ·rw[hf3];exact h.lt m0 (aT hi)
  ·exact h.lt m hm.1
theorem vJ.del{k:IntKind}{ms:List MapEntry}{clk:Nat}{N:Int->Option Value}(h:vJ k ms clk N){n:Int}{i:Nat}{m0:MapEntry}(hi:ms[i]?=ae m0)(hk:m0.key=.int k n):
  vJ k (ms.eraseIdx i) clk (fun j=>if j=n then ao else N j):=by
 have hget:∀(j:Nat) (m:MapEntry),(ms.eraseIdx i)[j]?=ae m->ms[if j<i then j else j+1]?=ae m:=fun j m hj=>by
  grind
 have hne:∀m∈ms.eraseIdx i,m∈ms/\m.key≠.int k n:=fun m hm=>by
  obtain ⟨j,hj⟩:=bl.1 hm;have:=hget j m hj;refine ⟨aT this,fun e=>?_⟩;have:=h.one _ i m m0 this hi (e.trans hk.symm);grind
 have hkey:∀m∈ms.eraseIdx i,∃n,m.key=.int k n:=fun m hm=>h.key m (hne m hm).1;have hone:∀(a b:Nat) (m m':MapEntry),(ms.eraseIdx i)[a]?=ae m->(ms.eraseIdx i)[b]?=ae m'->m.key=m'.key->a=b:=fun a b m m' ha hb e=>by
  have:=h.one _ _ m m' (hget a m ha) (hget b m' hb) e;grind
 refine ⟨hkey,SX hkey hone (fun m hm j e=>?_) (fun j u hj=>?_),hone,fun a b m m' ha hb e=>?_,fun m hm=>h.lt m (hne m hm).1⟩
 ·rw[if_neg fun e2=>by simp_all]
  exact h.VD.1 m (hne m hm).1 j e
 ·by_cases e:j=n
  ·simp_all
  ·rw[if_neg e] at hj
   obtain ⟨m,hm,q,_⟩:=h.VD.2 j u hj;obtain ⟨a,ha⟩:=bl.1 hm;have hai:a≠i:=fun e2=>by simp_all
   refine ⟨m,bl.2 ⟨if a<i then a else a - 1,?_⟩,q⟩;grind
 ·have:=h.born _ _ m m' (hget a m ha) (hget b m' hb) e
  grind
theorem Il{M:Int->Option Value}{n:Int}{o:Option Value}{uv:List (Int×Option Value)}:NT M ((n,o)::uv)=fun j=>if j=n then o else NT M uv j:=rfl
theorem vJ.same{k:IntKind}{ms:List MapEntry}{clk:Nat}{N N':Int->Option Value}(h:vJ k ms clk N)(e:∀j,N j=N' j):vJ k ms clk N':=by
 have:N=N':=funext e;simp_all
theorem agC{e:Nat}{te:BQ}{z:SV}(hte:Gl P e te)(hz:pack te.ty.isAgg te.zero=ae z):∃zv:Value,Den H E z zv/\(∀w:World,(zeroValue e).run P w=.ok zv w)/\(te.ty.isAgg=ag->zv.oneCell'=ah):=by
 obtain ⟨inf,zv,h1,h2,_,h4,h5,h6,h7,h8⟩:=hte.info;have h5':ni H E te.zero zv.cells.toList:=h5.le (fun _ _ e=>by cases e) (fun _ _ e=>by cases e);refine ⟨zv,?_,fun w=>by simp[zeroValue,typeInfo,h1,h4],fun ha=>(h8 ha).2⟩;rcases Fg hz with ⟨ha,rfl⟩ |⟨ha,hl⟩
 ·obtain ⟨cs,rfl⟩:=h7 ha
  exact ⟨cs,rfl,h5'⟩
 ·rw[hl] at h5'
  have h8:=(h8 ha).2;cases zv with
  |agg cs=>simp[da] at h8 |_=>
   simp_all [eS,ni]
theorem SY{es:Array MapEntry}{i:Nat}{f:MapEntry->MapEntry}{m:MapEntry}(h:es[i]?=ae m)(hf:f m=m):es.modify i f=es:=by
 grind
theorem adO{c:Core}{a:Act}{o:Oper}{t:Nat}{x y:Operand}{φ:SV×Core->Prop}(hC:oC P C)(hd:ni H E c.tm a.tmps.toList)(hh:nI K H E w c.hp)(hw:sF K H w)(hf:Free E c)
  (ho:o.op=.mapEntry t x y) (h:(GY C c t (oI c.tm x) (oI c.tm y)).All φ):yQ P K H E w c a o φ:=by
 have dx:=ou (H:=H) (E:=E) hd x;have dy:=ou (H:=H) (E:=E) hd y;unfold GY at h;split at h
 ·rename_i ti hti
  split at h
  ·rename_i kt e hty
   have ht:=(hC.ty _ _ hti).desc;rw[hty] at ht;have ht:P.underlying t=ae (.map kt e):=ht;split at h
   ·rename_i WB te adN hte
    have hk:=(hC.ty _ _ adN).desc;have hte:=hC.ty _ _ hte;split at h
    ·rename_i kk z id j n lit hkk hz hx hy
     rw[hkk] at hk;have hk:P.underlying kt=ae (.int kk):=hk;rw[hx] at dx;obtain ⟨b,he,ex⟩:=dx;have ey:a.eval y=.int j n:=Dw hy dy;split at h
     ·rename_i fk M fs us tag hl
      cases hb:(j==kk&&fk==kk&&z.one&&bO c.nx c.lim)<;>simp only[hb,cond_true,cond_false] at h
      ·exact h.elim
      simp only[ak,beq_iff_eq] at hb;obtain ⟨⟨⟨rfl,rfl⟩,ar9⟩,hlt⟩:=hb;have hlt:=CP hlt;obtain ⟨b',ms,clk,fv,uv,he',h1,d1,d2,hM,hok,_,wK⟩:=hh.ent _ _ hl;rw[he] at he';cases he';rw[hC.A] at h;obtain ⟨p,sv,ov,hφ,hpo,hat⟩:=UK hM d2 d1 h;have hg:(getObj b).run P w=.ok (.map ms clk) w:=by simp[getObj,dQ,h1]
      have hck:=Dy (P:=P) hk ag fk n w;have hso:∀o',(setObj b o').run P w=.ok () {w with heap:=w.heap.setIfInBounds b o'}:=fun o'=>by simp[setObj,dQ,h1]
      obtain ⟨zv,hzd,OQ,hz1⟩:=agC (H:=H) (E:=E) hte hz;have hnone:=hf c.nx (aV _) hlt;have fin:∀(ms':Array MapEntry) (Fp:Nat) (v:Value) (bn:Nat),Den H E (bif p then sv else z) v->v.oneCell'=ah->vJ fk ms'.toList Fp (NT M ((n,ae v)::uv))->(∃m∈ms'.toList,m.key=.int fk n/\m.born=bn)->
        (gm t (.map (ae b)) (.int fk n)).run P w=.ok (.tuple #[v,goInt bn]) {w with heap:=w.heap.setIfInBounds b (.map ms' Fp)}->yQ P K H E w c a o φ:=by
       intro ms' Fp v bn hv hv1 hok' htag hr;obtain ⟨m,hm,hmk,hmb⟩:=htag;have hle:E.le (E.set c.nx (goInt bn)):=fq hnone;refine ⟨_,.tuple #[v,goInt bn],_,H,E.set c.nx (goInt bn),{w with heap:=w.heap.setIfInBounds b (.map ms' Fp)},hφ,⟨_,rfl,hv.le (fun _ _ e=>e) hle,bp _ _ _,trivial⟩,?_,.inl rfl,?_⟩
       ·refine agB (E':=E.set c.nx (goInt bn)) (nx':=c.nx+1) hh hw hl (b:=b) (by simp[nU,he,nH]) hle (fun i h1 h2=>?_) (fun i h1=>?_) (Nat.le_succ _) (.inl hlt) (fun k hk=>?_) (by simp) rfl rfl rfl ?_ (by simp[nU,hle _ _ he,nH])
        ·simp_all [hU]
        ·simp_all [bk,hU,goInt,nH]
        ·grind
        ·exact ⟨b,ms',Fp,fv,(n,ae v)::uv,hle _ _ he,by grind,d1.le (fun _ _ e=>e) hle,⟨rfl,⟨hv.le (fun _ _ e=>e) hle,hv1⟩,d2.le (fun _ _ e=>e) hle⟩,hM,hok',
          ⟨m,hm,hmk,by rw[bp,hmb];rfl⟩,wK⟩
       simp_all [execOp]
      rw[<-hok.at_] at hat;cases p with
      |true=>
       cases ov with
       |none=>exact hpo.elim |some v=>
        obtain ⟨i,e1,m,e2,e3,e4⟩:=zX hok.key 0 hat;simp only[cy] at e1;have e2':ms[i]?=ae m:=by grind
        refine fin ms clk v m.born hpo.1 hpo.2 (hok.same fun k=>?_) ⟨m,aT e2,e3,rfl⟩ ?_
        ·rw[Il]
         by_cases ek:k=n
         ·subst ek;simp only[if_true];rw[<-hok.at_];exact hat
         ·simp[ek]
        ·have hmod:(ms.modify i fun e=>{key:=.int fk n,val:=e.val,born:=e.born})=ms:=SY e2' (by cases m;simp_all)
         simp[gm,run_underlying ht,hg,hck,cg,run_underlying hk,e1,e2',e3,fa,eH,hso,hmod]
      |false=>
       cases ov with
       |some v=>exact hpo.elim |none=>
        have e1:=Dx hok.key 0 hat;rw[hok.at_] at hat;have hz1:zv.oneCell'=ah:=one_cell ar9 hzd;refine fin (ms.push {key:=.int fk n,val:=zv,born:=clk}) (clk+1) zv clk hzd hz1 (by simpa[Il] using hok.push hat zv) ⟨{key:=.int fk n,val:=zv,born:=clk},by simp,rfl,rfl⟩ ?_;simp_all [gm,run_underlying,cg]
     ·exact h.elim
    ·exact h.elim
   ·exact h.elim
  ·exact h.elim
 ·exact h.elim
theorem ZM{c:Core}{a:Act}{o:Oper}{t:Nat}{x y z:Operand}{φ:SV×Core->Prop}(hd:ni H E c.tm a.tmps.toList)(hh:nI K H E w c.hp)(hw:sF K H w)
  (ho:o.op=.entryStore t x y z) (h:(D7 c (oI c.tm x) (oI c.tm y) (oI c.tm z)).All φ):yQ P K H E w c a o φ:=by
 have dx:=ou (H:=H) (E:=E) hd x;have dy:=ou (H:=H) (E:=E) hd y;have dz:=ou (H:=H) (E:=E) hd z;unfold D7 at h;split at h
 ·rename_i id s hx hy
  rw[hx] at dx;rw[hy] at dy;obtain ⟨b,he,ex⟩:=dx;have dy:E s=ae (a.eval y):=dy;split at h
  ·rename_i fk M fs us s' n hl
   cases hb:(s==s'&&(oI c.tm z).one)<;>simp only[hb,cond_true,cond_false] at h
   ·exact h.elim
   simp only[ak,beq_iff_eq] at hb;obtain ⟨rfl,hone⟩:=hb;obtain ⟨b',ms,clk,fv,uv,he',h1,d1,d2,hM,hok,⟨m,hm,hmk,hms⟩,wK⟩:=hh.ent _ _ hl;rw[he] at he';cases he';rw[dy] at hms;have ey:a.eval y=.int .i64 m.born:=aS hms;have hg:(getObj b).run P w=.ok (.map ms clk) w:=by simp[getObj,dQ,h1]
   have hso:∀o',(setObj b o').run P w=.ok () {w with heap:=w.heap.setIfInBounds b o'}:=fun o'=>by simp[setObj,dQ,h1]
   obtain ⟨i,hi⟩:=bl.1 hm;have hi':ms[i]?=ae m:=by grind
   have hfind:ms.findIdx? (fun e=>(e.born:Int)==m.born)=ae i:=by
    rw[Array.findIdx?_eq_some_iff_getElem];have hlt:=(aI.1 hi').1;refine ⟨hlt,by simp_all,fun j hj=>?_⟩;have hjl:j<ms.size:=by omega
    intro e;have e:ms[j].born=m.born:=by grind
    have:=hok.born j i ms[j] m (by simp[hjl]) hi e;omega
   refine ⟨_,undef,_,H,E,{w with heap:=w.heap.setIfInBounds b (.map (ms.modify i fun e=>{e with val:=a.eval z}) clk)},h,trivial,?_,.inr ⟨rfl,rfl⟩,?_⟩
   ·refine CS hh hw hl (b:=b) (by simp[nU,he,nH]) (fun k hk=>?_) (by simp) rfl rfl rfl ?_ (by simp[nU,he,nH])
    ·grind
    ·refine ⟨b,_,clk,fv,(n,ae (a.eval z))::uv,he,by simp only;rw[abR w b b _ _ h1,if_pos rfl],d1,⟨rfl,⟨dz,one_cell hone dz⟩,d2⟩,hM,?_,⟨{m with val:=a.eval z},?_,hmk,by rw[dy,ey]⟩,wK⟩
     ·have:=hok.set hi hmk (a.eval z) (f:=fun e=>{e with val:=a.eval z}) hmk rfl rfl
      simp_all [Il]
     ·rw[Array.toList_modify]
      refine bl.2 ⟨i,?_⟩;simp_all
   simp_all [execOp,Instr.entryStore,asInt,asIntOf]
  ·exact h.elim
 ·exact h.elim
theorem ajP{c:Core}{a:Act}{o:Oper}{t:Nat}{ts:Array TypeId}{x y:Operand}{φ:SV×Core->Prop}(hC:oC P C)(hd:ni H E c.tm a.tmps.toList)(hh:nI K H E w c.hp)(hw:sF K H w)
  (ho:o.op=.call {callee:=.builtin .delete,args:=#[x,y],argTypes:=ts}) (hts:ts[0]?=ae t) (h:(KP C c t (oI c.tm x) (oI c.tm y)).All φ):yQ P K H E w c a o φ:=by
 have dx:=ou (H:=H) (E:=E) hd x;have dy:=ou (H:=H) (E:=E) hd y;unfold KP at h;split at h
 ·rename_i ti hti
  split at h
  ·rename_i kt e hty
   have ht:=(hC.ty _ _ hti).desc;rw[hty] at ht;have ht:P.underlying t=ae (.map kt e):=ht;split at h
   ·rename_i WB adN
    have hk:=(hC.ty _ _ adN).desc;split at h
    ·rename_i kk id j n lit hkk hx hy
     rw[hkk] at hk;have hk:P.underlying kt=ae (.int kk):=hk;rw[hx] at dx;obtain ⟨b,he,ex⟩:=dx;have ey:a.eval y=.int j n:=Dw hy dy;split at h
     ·rename_i fk M fs us tag hl
      cases hb:(j==kk&&fk==kk)<;>simp only[hb,cond_true,cond_false] at h
      ·exact h.elim
      simp only[ak,beq_iff_eq] at hb;obtain ⟨rfl,rfl⟩:=hb;obtain ⟨b',ms,clk,fv,uv,he',h1,d1,d2,hM,hok,_,wK⟩:=hh.ent _ _ hl;rw[he] at he';cases he';have hg:(getObj b).run P w=.ok (.map ms clk) w:=by simp[getObj,dQ,h1]
      have hck:=fun em=>Dy (P:=P) hk em fk n w;have hso:∀o',(setObj b o').run P w=.ok () {w with heap:=w.heap.setIfInBounds b o'}:=fun o'=>by simp[setObj,dQ,h1]
      have fin:∀(ms':Array MapEntry),vJ fk ms'.toList clk (NT M ((n,ao)::uv))->(fI ts o.type #[.map (ae b),.int fk n]).run P w=.ok (.tuple #[]) {w with heap:=w.heap.setIfInBounds b (.map ms' clk)}->yQ P K H E w c a o φ:=by
       intro ms' hok' hr;refine ⟨_,.tuple #[],_,H,E,{w with heap:=w.heap.setIfInBounds b (.map ms' clk)},h,trivial,?_,.inl rfl,?_⟩
       ·refine CS hh hw hl (b:=b) (by simp[nU,he,nH]) (fun k hk=>?_) (by simp) rfl rfl rfl ?_ (by simp[nU,he,nH])
        ·grind
        ·exact ⟨b,ms',clk,fv,(n,ao)::uv,he,by grind,d1,⟨rfl,trivial,d2⟩,hM,hok',trivial,wK⟩
       simp_all [execOp,resolve,invoke,builtin]
      cases hat:Aj fk n ms.toList with
      |some v=>
       obtain ⟨i,e1,m,e2,e3,e4⟩:=zX hok.key 0 hat;simp only[cy] at e1;refine fin (ms.eraseIdxIfInBounds i) ?_ ?_
       ·have:=hok.del e2 e3
        simp_all [Il,Array.toList_eraseIdxIfInBounds]
       ·simp[fI,hts,run_underlying ht,hg,hck,cg,run_underlying hk,e1,hso]
      |none=>
       have e1:=Dx hok.key 0 hat;refine fin ms ?_ ?_
       ·refine hok.same fun k=>?_
        rw[Il];by_cases ek:k=n
        ·subst ek;simp only[if_true];rw[<-hok.at_];exact hat
        ·simp[ek]
       ·simp[fI,hts,run_underlying ht,hg,hck,cg,run_underlying hk,e1,hso]
     ·exact h.elim
    ·exact h.elim
   ·exact h.elim
  ·exact h.elim
 ·exact h.elim
end
theorem Tree.vW{α β:Type}{φ:β->Prop}{k:α->Tree β}:∀{t:Tree α},(t.bind k).All φ->t.All fun a=>(k a).All φ
 | .leaf _,h=>h | .node _ _ _,h=>⟨fun e=>Tree.vW (h.1 e),fun e=>Tree.vW (h.2 e)⟩ | .need _ _,h=>⟨h.1,Tree.vW h.2⟩ | .must _ _,h=>⟨h.1,Tree.vW h.2⟩ | .both _ _,h=>⟨Tree.vW h.1,Tree.vW h.2⟩ | .fail,h=>h.elim
theorem Tree.All.mono{α:Type}{φ ψ:α->Prop}(h:∀a,φ a->ψ a):∀{t:Tree α},t.All φ->t.All ψ
 | .leaf _,hh=>h _ hh | .node _ _ _,hh=>⟨fun e=>(hh.1 e).mono h,fun e=>(hh.2 e).mono h⟩ | .need _ _,hh=>⟨hh.1,hh.2.mono h⟩ | .must _ _,hh=>⟨hh.1,hh.2.mono h⟩ | .both _ _,hh=>⟨hh.1.mono h,hh.2.mono h⟩ | .fail,hh=>hh.elim
section
variable{P:Program}{C:Ctx}{K:Kx}{H H' G9:Mem}{E E' He:Env}{w w' w'':World}
def Mv(K:Kx)(H:Mem)(E:Env)(w:World)(c:Core)(H':Mem)(E':Env)(w':World)(c':Core):Prop:=Post K H E w c H' E' w' {c' with tm:=c.tm}
theorem Post.mv{c c':Core}(h:Post K H E w c H' E' w' c'):Mv K H E w c H' E' w' c':=by
 have:=h.tm;unfold Mv;rw[<-this];exact h
theorem Mv.to{c c' d d':Core}(h:Mv K H E w c H' E' w' c')(h1:d.hp=c.hp)(h2:d.nx=c.nx)(h3:d.lim=c.lim)(h4:d.tc=c.tc)(h1':d'.hp=c'.hp)(h2':d'.nx=c'.nx)(h3':d'.lim=c'.lim)(h4':d'.tc=c'.tc):Mv K H E w d H' E' w' d':=by
 obtain ⟨t,hp,nx,lim,tc⟩:=c;obtain ⟨t',hp',nx',lim',ZN⟩:=c';obtain ⟨t1,hp1,nx1,ayr,tc1⟩:=d;obtain ⟨t2,hp2,nx2,ays,ZO⟩:=d';simp only at h1 h2 h3 h4 h1' h2' h3' h4';subst h1 h2 h3 h4 h1' h2' h3' h4';exact ⟨h.x9,h.BR,h.new,h.nx,h.lim,h.aap,rfl,h.hp,h.o7,h.tc,h.size,h.fr,h.Fj,h.SN,h.keep,h.old⟩
structure Ch(K:Kx)(H:Mem)(E:Env)(w:World)(q:List (Nat×SB))(u:List Nat)(H':Mem)(E':Env)(w':World)(q':List (Nat×SB))(u':List Nat)(New:Nat->Prop):Prop where
 x9:H.le H'
 BR:E.le E'
 new:∀i,E i=ao->E' i≠ao->New i
 hp:nI K H' E' w' q'
 o7:sF K H' w'
 tc:∀id∈u,id∈u'
 size:w.heap.size<=w'.heap.size
 fr:∀b,b<w.heap.size->(∀id∈u',bk E id≠ae b)->w'.heap[b]?=w.heap[b]?
 Fj:∀i b,E i=ao->bk E' i=ae b->w.heap.size<=b\/∃id∈u',bk E id=ae b
 SN:∀id∈u',id∈u\/E id=ao\/∃sb,mQ q id=ae sb/\nU E id sb=bk E id
 keep:∀id sb b,mQ q id=ae sb->id ∉ u'->nU E id sb=ae b->H' b≠ao\/∃sb',mQ q' id=ae sb'/\nU E' id sb'=ae b
 old:∀id sb,mQ q' id=ae sb->E id≠ao->∃sb0,mQ q id=ae sb0/\∀b,nU E' id sb=ae b->nU E id sb0=ae b
theorem Mv.ch{c c':Core}(h:Mv K H E w c H' E' w' c'):Ch K H E w c.hp c.tc H' E' w' c'.hp c'.tc (fun i=>c.nx<=i/\i<c'.nx):=
 ⟨h.x9,h.BR,h.new,h.hp,h.o7,h.tc,h.size,h.fr,h.Fj,h.SN,h.keep,h.old⟩
theorem Ch.mv{c c':Core}(h:Ch K H E w c.hp c.tc H' E' w' c'.hp c'.tc (fun i=>c.nx<=i/\i<c'.nx))(h1:c.nx<=c'.nx)(h2:c'.nx<=c.lim\/c'.nx=c.nx)(h3:c'.lim=c.lim):Mv K H E w c H' E' w' c':=
 ⟨h.x9,h.BR,h.new,h1,h2,h3,rfl,h.hp,h.o7,h.tc,h.size,h.fr,h.Fj,h.SN,h.keep,h.old⟩
theorem Ch.mono{hp hp':List (Nat×SB)}{tc ZN:List Nat}{N N':Nat->Prop}(h:Ch K H E w hp tc H' E' w' hp' ZN N)(hN:∀i,N i->N' i):Ch K H E w hp tc H' E' w' hp' ZN N':=
 {h with new:=fun i h1 h2=>hN i (h.new i h1 h2)}
theorem Ch.add{hp hp':List (Nat×SB)}{ZN:List Nat}{N:Nat->Prop}(h:Ch K H E w hp [] H' E' w' hp' ZN N)(t:List Nat):Ch K H E w hp t H' E' w' hp' (ZN++t) N:=
 {h with
  tc:=fun id hid=>aU.2 (.inr hid)
  fr:=fun b hb hne=>h.fr b hb fun id hid=>hne id (aU.2 (.inl hid))
  Fj:=fun i b h1 h2=>(h.Fj i b h1 h2).imp (fun h=>h) fun ⟨id,h3,h4⟩=>⟨id,aU.2 (.inl h3),h4⟩
  SN:=fun id hid=>by
   rcases aU.1 hid with h1|h1
   ·(rcases h.SN id h1 with h2|h2)<;>simp_all
   simp_all
  keep:=fun id sb b h1 h2 h3=>h.keep id sb b h1 (fun h4=>h2 (aU.2 (.inl h4))) h3}
theorem Ch.trans{hp hp1 hp2:List (Nat×SB)}{tc tc1 ZO:List Nat}{N:Nat->Prop}(h1:Ch K H E w hp tc H' E' w' hp1 tc1 N)(h2:Ch K H' E' w' hp1 tc1 G9 He w'' hp2 ZO N):Ch K H E w hp tc G9 He w'' hp2 ZO N:=by
 have tc1:=h1.tc;have ZO:=h2.tc;have noneE:∀{i:Nat},E' i=ao->E i=ao:=fun {i} h=>by
  cases he:E i with
  |none=>rfl |some v=>rw[h1.BR _ _ he] at h;cases h
 have bkE:∀{i b:Nat},E i≠ao->bk E' i=ae b->bk E i=ae b:=fun {i b} hne h=>by
  cases he:E i with
  |none=>simp_all |some v=>simp only[bk,h1.BR _ _ he] at h;simp_all [bk]
 refine ⟨fun b o h=>h2.x9 b o (h1.x9 b o h),fun i v h=>h2.BR i v (h1.BR i v h),fun i e1 e2=>?_,h2.hp,h2.o7,fun id h=>ZO id (tc1 id h),bL h1.size h2.size,
  fun b hb hne=>?_,fun i b e1 e2=>?_,fun id hid=>?_,fun id sb b hl hn ho=>?_,fun id sb hl hne=>?_⟩
 ·cases he:E' i with
  |none=>exact h2.new i he e2 |some v=>exact h1.new i e1 (by rw[he];simp)
 ·rw[h2.fr b (by have:=h1.size;omega) fun id hid e=>?_]
  ·exact h1.fr b hb fun id hid=>hne id (ZO id hid)
  ·cases he:E id with
   |none=>
    (rcases h1.Fj id b he e with h|⟨id',h3,h4⟩)<;>grind
   |some v=>grind
 ·cases he:E' i with
  |none=>
   rcases h2.Fj i b he e2 with h|⟨id',h3,h4⟩
   ·exact .inl (by have:=h1.size;omega)
   ·cases he2:E id' with
    |none=>
     (rcases h1.Fj id' b he2 h4 with h|⟨id2,h5,h6⟩)<;>grind
    |some v=>grind
  |some v=>
   have e3:bk E' i=ae b:=by simp only[bk,h2.BR _ _ he] at e2;simp_all [bk]
   (rcases h1.Fj i b e1 e3 with h|⟨id2,h5,h6⟩)<;>grind
 ·rcases h2.SN id hid with h|h|⟨sb,h3,h4⟩
  ·exact h1.SN id h
  ·simp_all
  ·cases he:E id with
   |none=>simp |some v=>
    obtain ⟨sb0,h5,h6⟩:=h1.old id sb h3 (by rw[he];simp);refine .inr (.inr ⟨sb0,h5,?_⟩);have e':bk E' id=bk E id:=by simp[bk,he,h1.BR _ _ he]
    rw[e'] at h4;cases hb:bk E id with
    |some b=>simp_all |none=>
     cases ho:nU E id sb0 with
     |none=>rfl |some b=>grind [wW]
 ·rcases h1.keep id sb b hl (fun h=>hn (ZO id h)) ho with h|⟨sb',h3,h4⟩
  ·cases hb:H' b with
   |none=>simp_all |some o=>exact .inl (by rw[h2.x9 b o hb];simp)
  ·exact h2.keep id sb' b h3 hn h4
 ·have hne':E' id≠ao:=fun h=>hne (noneE h)
  obtain ⟨sb1,h3,h4⟩:=h2.old id sb hl hne';obtain ⟨sb0,h5,h6⟩:=h1.old id sb1 h3 hne;simp_all
theorem Mv.trans{c c1 c2:Core}(h1:Mv K H E w c H' E' w' c1)(h2:Mv K H' E' w' c1 G9 He w'' c2):Mv K H E w c G9 He w'' c2:=by
 have hnx1:c.nx<=c1.nx:=h1.nx;have hnx2:c1.nx<=c2.nx:=h2.nx;have aw4:c1.lim=c.lim:=h1.aap;have aw5:c2.lim=c1.lim:=h2.aap;have hl1:c1.nx<=c.lim\/c1.nx=c.nx:=h1.lim;have hl2:c2.nx<=c1.lim\/c2.nx=c1.nx:=h2.lim;exact ((h1.ch.mono fun i hi=>⟨hi.1,by omega⟩).trans (h2.ch.mono fun i hi=>⟨by omega,hi.2⟩)).mv (by omega) (by omega) (by omega)
theorem Mv.free{c c':Core}(h:Mv K H E w c H' E' w' c')(hf:Free E c):Free E' c':=by
 intro i h1 h2;have hn:c.nx<=c'.nx:=h.nx;have hl:c'.lim=c.lim:=h.aap;cases he:E' i with
 |none=>rfl |some v=>
  have:=h.new i (hf i (by omega) (by omega)) (by rw[he];simp);grind
structure St(C:Ctx)(K:Kx)(H:Mem)(E:Env)(w:World)(c:Core)(a:Act):Prop where
 den:ni H E c.tm a.tmps.toList
 hp:nI K H E w c.hp
 o7:sF K H w
 free:Free E c
 gl:qE C.gls H
 defers:a.defers=[]
structure qy(H:Mem)(w:World)(s:Sh)(v:Value)(H':Mem)(w':World):Prop where
 x9:H.le H'
 on:H'.on w'
 os:w'.os=w.os
 tape:w'.tape=w.tape
 output:w'.output=w.output
 size:w.heap.size<=w'.heap.size
 old:∀b,b<w.heap.size->w'.heap[b]?=w.heap[b]?
 fresh:∀b,H' b≠ao->H b≠ao\/w.heap.size<=b
 res:∀b0:Nat,∃E1:Env,(∀i,E1 i≠ao->b0<=i/\i<(qA s b0).2.2)/\(∀i b,bk E1 i=ae b->w.heap.size<=b)/\Den H' E1 (qA s b0).1 v/\nI ⟨w,fun _=>False,H⟩ H' E1 w' (rM [] (qA s b0).2.1)
def nD(P:Program)(gls:List (Nat×Sh))(f:Nat)(F:List Sh->Tree Sh):Prop:=
 ∀(H:Mem) (w:World) (nY:List Sh) (args:List Value) (φ:Sh->Prop),H.on w->qE gls H->sD H nY args->(F nY).All φ->
  Calls P f args.toArray w fun e w'=>∃v s H',e=.returned v/\φ s/\qy H w s v H' w'
def WZ(P:Program)(C:Ctx):Prop:=∀g F,C.spec g=ae F->nD P C.gls g F
theorem wY:∀(l hp:List (Nat×SB)) (i:Nat),mQ (rM hp l) i=match mQ (rM [] l) i with|some x=>ae x|none=>mQ hp i
 |[],hp,i=>by rfl |(j,b)::l,hp,i=>by
  rw[rM,rM,wY l (hins hp j b),wY l (hins [] j b),uI,uI];grind [mQ,rM]
mutual
theorem adP:∀(s:Sh) (b:Nat),b<=(qA s b).2.2
 | .os _ _ _ _,b=>by simp[qA] | .agg l,b=>by simpa[qA] using S9 l b | .mX l,b=>by simpa[qA] using S9 l b | .i _ _,b=>aV _ | .b _,b=>aV _ | .v _,b=>aV _ | .str _,b=>aV _ | .sl _ _ _,b=>aV _ | .qK _ _,b=>aV _ | .fn _ _,b=>aV _ | .er _ _,b=>aV _ | .pt _,b=>aV _
theorem S9:∀(l:List Sh) (b:Nat),b<=(tY l b).2.2
 |[],b=>aV _ |x::r,b=>by simpa[tY] using bL (adP x b) (S9 r _)
end
theorem xU.world{K1:Kx}{id:Nat}{sb:SB}(h:xU K1 H E w id sb)(hE:E.le E')(hm:∀b,Mine K1 H b->Mine K H b):xU K H E' w id sb:=by
 cases sb with
 |box cells elem=>obtain ⟨b,cs,he,h1,h2,h3⟩:=h;exact ⟨b,cs,hE _ _ he,h1,h2.le (fun _ _ e=>e) hE,hm _ h3⟩ |row cells elem st n=>obtain ⟨v,xs,he,h1,h2,h3⟩:=h;exact ⟨v,xs,hE _ _ he,h1,h2.le (fun _ _ e=>e) hE,fun b hb=>hm _ (h3 b hb)⟩ |own elem st n g=>obtain ⟨v,xs,he,h1,h2,h3⟩:=h;exact ⟨v,xs,hE _ _ he,h1,h2,fun b hb=>hm _ (h3 b hb)⟩ |fz st n g=>obtain ⟨v,he,h1⟩:=h;exact ⟨v,hE _ _ he,h1⟩ |map es=>obtain ⟨b,ms,clk,he,h1,h2,h3⟩:=h;exact ⟨b,ms,clk,hE _ _ he,h1,h2.le (fun _ _ e=>e) hE,hm _ h3⟩ |KA l=>obtain ⟨v,he,h1⟩:=h;exact ⟨v,hE _ _ he,h1⟩ |yE elem st n g more=>obtain ⟨v,xs,ys,he,h1,h2,h3,h4,h5,h6⟩:=h;exact ⟨v,xs,ys,hE _ _ he,h1,h2,h3.le (fun _ _ e=>e) hE,h4,h5,fun b hb=>hm _ (h6 b hb)⟩ |fm k M fs us tag=>obtain ⟨b,ms,clk,fv,uv,he,h1,h2,h3,h4,h5,h6,h7⟩:=h;exact ⟨b,ms,clk,fv,uv,hE _ _ he,h1,h2.le (fun _ _ e=>e) hE,h3.le (fun _ _ e=>e) hE,h4,h5,h6.le hE,hm _ h7⟩ |pm vt M us=>obtain ⟨b,ms,clk,uv,he,h1,h2,h3,h4,h5,h7⟩:=h;exact ⟨b,ms,clk,uv,hE _ _ he,h1,h2.le (fun _ _ e=>e) hE,h3,h4,h5,hm _ h7⟩ |buf e l=>obtain ⟨v,he,h1,h3⟩:=h;exact ⟨v,hE _ _ he,h1,fun b hb=>hm _ (h3 b hb)⟩
def Bo(P:Program)(K:Kx)(H:Mem)(E:Env)(w:World)(c:Core)(g:Nat)(vF:List Value)(φ:SV×Core->Prop):Prop:=
 Calls P g vF.toArray w fun e w'=>∃p v H' E',e=.returned v/\φ p/\Den H' E' p.1 v/\Post K H E w c H' E' w' p.2
theorem agD(hS:WZ P C){c:Core}{g:Nat}{F:List Sh->Tree Sh}{args:List SV}{vF:List Value}{φ:SV×Core->Prop}(hF:C.spec g=ae F)(hh:nI K H E w c.hp)(hw:sF K H w)(hf:Free E c)
  (hg:qE C.gls H) (hd:ni H E args vF) (h:(spread c F args).All φ):Bo P K H E w c g vF φ:=by
 unfold spread at h;split at h
 ·exact h.elim
 ·rename_i hp hfz
  obtain ⟨H1,hH,hh1,hw1,hz⟩:=CU hfz hh hw;split at h
  ·exact h.elim
  ·rename_i nY hsh
   have hrep:=sJ hh1 hsh (hd.le hH fun _ _ e=>e);refine fb (hS g F hF H1 w nY vF _ hw1.on (hg.le hH) hrep (Tree.vW h)) fun e w' ⟨v,s,H',he,hφ,r⟩=>?_;obtain ⟨E1,r1,r2,r3,r4⟩:=r.res c.nx;cases hb:cq (qA s c.nx).2.2 c.lim<;>simp only[hb,cond_true,cond_false] at hφ
   ·exact hφ.elim
   have hb:=cf hb;have hge:=adP s c.nx;have aw0:∀i u,E i=ae u->E1 i=ao:=fun i u hu=>by
    cases h1:E1 i with
    |none=>rfl |some u'=>
     have:=r1 i (by rw[h1];simp);have:=hf i this.1 (by omega);simp_all
   let E2:Env:=fun i=>match E1 i with|some u=>ae u|none=>E i
   have hE:E.le E2:=fun i u hu=>by grind
   have hE1:E1.le E2:=fun i u hu=>by simp[E2,hu]
   have conv:∀i,E i=ao->E2 i=E1 i:=fun i hi=>by grind
   have hold:∀{id:Nat} {sb:SB},xU K H1 E w id sb->xU K H' E2 w' id sb:=fun {id sb} hent=>
    hent.kept r.x9 hE (fun b hb=>r.old b (hent.lt hb).1) fun b hb=>by
     cases hx:H' b with
     |none=>rfl |some o=>
      rcases r.fresh b (by rw[hx];simp) with h|h
      ·exact (h (hent.lt hb).2.1).elim
      ·have:=(hent.lt hb).1;omega
   have hnew:∀{id:Nat} {sb:SB},mQ (rM [] (qA s c.nx).2.1) id=ae sb->xU K H' E2 w' id sb/\(∀b,nU E2 id sb=ae b->w.heap.size<=b/\nU E1 id sb=ae b)/\E id=ao:=fun {id sb} hl=>by
    have hent:=r4.ent _ _ hl;refine ⟨hent.world hE1 fun b hm=>⟨hm.1,?_⟩,fun b ho=>?_,?_⟩
    ·rcases hm.2 with h|h
     ·exact .inl (bL hw.size h)
     grind
    ·rw[xW hent hE1] at ho
     exact ⟨r2 id b (wW ho),ho⟩
    ·obtain ⟨u,hu⟩:=hent.some_
     have:=r1 id (by rw[hu];simp);exact hf id this.1 (by omega)
   refine ⟨_,v,H',E2,he,hφ,r3.le (fun _ _ e=>e) hE1,fun b o h=>r.x9 b o (hH b o h),hE,fun i h1 h2=>?_,hge,.inl hb,rfl,rfl,⟨fun id sb hl=>?_,fun id id' sb sb' b h1 h2 o1 o2=>?_⟩,
    ⟨r.os.trans hw.os,r.tape.trans hw.tape,r.output.trans hw.output,bL hw.size r.size,fun b hb hn=>?_,r.on,fun b o h=>r.x9 b o (hw1.le b o h),fun b hb=>?_⟩,fun _ h=>h,r.size,fun b hb _=>r.old b hb,fun i b h1 h2=>?_,
    fun _ h=>.inl h,fun id sb b hl _ ho=>?_,fun id sb hl hne=>?_⟩
   ·simp_all
   ·have hl:mQ (rM hp (qA s c.nx).2.1) id=ae sb:=hl
    rw[wY] at hl;split at hl
    ·simp_all
    ·exact hold (hh1.ent _ _ hl)
   ·have h1:mQ (rM hp (qA s c.nx).2.1) id=ae sb:=h1
    have h2:mQ (rM hp (qA s c.nx).2.1) id'=ae sb':=h2;rw[wY] at h1 h2;split at h1
    ·rename_i x hx
     cases h1;split at h2
     ·rename_i y hy
      cases h2;exact r4.vV _ _ _ _ _ hx hy ((hnew hx).2.1 b o1).2 ((hnew hy).2.1 b o2).2
     ·have a1:=((hnew hx).2.1 b o1).1
      rw[xW (hh1.ent _ _ h2) hE] at o2;have:=((hh1.ent _ _ h2).lt o2).1;omega
    ·rw[xW (hh1.ent _ _ h1) hE] at o1
     have a0:=((hh1.ent _ _ h1).lt o1).1;split at h2
     ·grind
     ·rw[xW (hh1.ent _ _ h2) hE] at o2
      exact hh1.vV _ _ _ _ _ h1 h2 o1 o2
   ·rw[r.old b (by have:=hw.size;omega)]
    exact hw.kept b hb hn
   ·rcases r.fresh b hb with h|h
    ·exact hw1.fresh b h
    ·exact .inr (.inl (bL hw.size h))
   ·simp only[bk,conv i h1] at h2
    exact .inl (r2 i b h2)
   ·rcases hz.keep id sb b hl ho with h|h
    ·left
     cases hb:H1 b with
     |none=>simp_all |some o=>rw[r.x9 b o hb];simp
    ·refine .inr ⟨sb,?_,VZ ho hE⟩
     show mQ (rM hp (qA s c.nx).2.1) id=ae sb;rw[wY];split
     ·rename_i x hx
      obtain ⟨u,hu⟩:=(hh.ent _ _ hl).some_;simp_all
     ·exact h
   ·have hl:mQ (rM hp (qA s c.nx).2.1) id=ae sb:=hl
    rw[wY] at hl;split at hl
    ·simp_all
    ·obtain ⟨sb0,h3,h4⟩:=hz.old id sb hl
     exact ⟨sb0,h3,fun b hb=>h4 b (by rw[xW (hh1.ent _ _ hl) hE] at hb;exact hb)⟩
mutual
theorem W9{H1 H2:Mem}{E1 E2:Env}:∀(s:Sh) (b:Nat) (v:Value),zW s=ah->Den H1 E1 (qA s b).1 v->Den H2 E2 (qA s b).1 v
 | .i k n,_,_,_,h=>h | .b x,_,_,_,h=>h | .str l,_,_,_,h=>by cases h;exact .str l | .v x,_,_,_,h=>by
  cases x<;>exact h
 | .agg l,b,_,hp,⟨vs,h1,h2⟩=>⟨vs,h1,KY l b _ (by assumption) h2⟩ | .mX l,b,_,hp,⟨vs,h1,h2⟩=>⟨vs,h1,KY l b _ (by assumption) h2⟩ | .sl _ _ _,_,_,hp,_=>by simp[zW] at hp | .os _ _ _ _,_,_,hp,_=>by simp[zW] at hp | .qK _ _,_,_,hp,_=>by simp[zW] at hp | .fn _ _,_,_,hp,_=>by simp[zW] at hp | .er _ _,_,_,hp,_=>by simp[zW] at hp | .pt _,_,_,hp,_=>by simp[zW] at hp
theorem KY{H1 H2:Mem}{E1 E2:Env}:∀(l:List Sh) (b:Nat) (vs:List Value),Ib l=ah->ni H1 E1 (tY l b).1 vs->ni H2 E2 (tY l b).1 vs
 |[],_,[],_,_=>trivial |[],_,_::_,_,h=>h.elim |_::_,_,[],_,h=>h.elim |x::r,b,v::vs,hp,⟨h1,h2⟩=>by
  simp only[Ib,ak] at hp;exact ⟨W9 x b v hp.1 h1,KY r _ vs hp.2 h2⟩
end
theorem alV(hS:WZ P C){c:Core}{g:Nat}{F:List Sh->Tree Sh}{args:List SV}{vF:List Value}{φ:SV×Core->Prop}(hF:C.spec g=ae F)(hh:nI K H E w c.hp)(hw:sF K H w)
  (hg:qE C.gls H) (hd:ni H E args vF) (h:(P8 c F args).All φ):Bo P K H E w c g vF φ:=by
 unfold P8 at h;split at h
 ·exact h.elim
 ·rename_i hp hfz
  obtain ⟨H1,hH,hh1,hw1,hz⟩:=CU hfz hh hw;split at h
  ·exact h.elim
  ·rename_i nY hsh
   have hrep:=sJ hh1 hsh (hd.le hH fun _ _ e=>e);refine fb (hS g F hF H1 w nY vF _ hw1.on (hg.le hH) hrep (Tree.vW h)) fun e w' ⟨v,s,H',he,hφ,r⟩=>?_;obtain ⟨E1,r1,r2,r3,r4⟩:=r.res c.nx;cases hb:zW s<;>simp only[hb,cond_true,cond_false] at hφ
   ·exact hφ.elim
   have keep:∀id sb,mQ c.hp id=ae sb->xU K H E w' id sb:=fun id sb hl=>by
    have hent:=hh.ent id sb hl;exact hent.kept (fun _ _ e=>e) (fun _ _ e=>e) (fun b ho=>r.old b (hent.lt ho).1) fun b ho=>(hent.lt ho).2.1
   refine ⟨_,v,H,E,he,hφ,W9 s c.nx v hb r3,fun _ _ e=>e,fun _ _ e=>e,fun i h1 h2=>(h2 h1).elim,aV _,.inr rfl,rfl,rfl,⟨keep,fun id id' sb sb' b h1 h2 o1 o2=>hh.vV id id' sb sb' b h1 h2 o1 o2⟩,
    ⟨r.os.trans hw.os,r.tape.trans hw.tape,r.output.trans hw.output,bL hw.size r.size,fun b hb hn=>?_,fun b o e=>?_,hw.le,hw.fresh⟩,fun _ h=>h,r.size,fun b hb _=>r.old b hb,fun i b h1 h2=>?_,
    fun _ h=>.inl h,fun id sb b hl _ ho=>.inr ⟨sb,hl,ho⟩,fun id sb hl _=>⟨sb,hl,fun b h=>h⟩⟩
   ·rw[r.old b (Nat.lt_of_lt_of_le hb hw.size)]
    exact hw.kept b hb hn
   ·rw[r.old b (aI.1 (hw.on b o e)).1]
    exact hw.on b o e
   simp_all [bk]
end
def Enters(P:Program)(g:Nat):Prop:=∃fn,P.funcs[g]?=ae fn/\fn.body.isSome=ah/\fn.name≠ "runtime.NumGoroutine"
def agE(P:Program)(g e st bytes:Nat):Prop:=
 ∀(w:World) (v x:Value) (n i:Nat) (xs news:List Value),w.ownsRow 0 e st v n xs->w.ownsRow 0 e st x 1 news->(∀b,nH v=ae b->nH x≠ae b)->(∀u∈xs,u.oneCell'=ah)->(∀u∈news,u.oneCell'=ah)->
  i<=n->n+1<=maxLen->(n+1)*bytes<=140737488355328->Calls P g #[v,.int .i64 i,x] w fun en w'=>∃v',en=.returned v'/\w'.ownsRow 0 e st v' (n+1) (xs.take (i*st)++news++xs.drop (i*st))/\w.grownBy w' (nH v)/\
   ∀b,nH v'=ae b->nH v=ae b\/w.heap.size<=b
def abS(P:Program)(g e st bytes:Nat):Prop:=
 ∀(w:World) (k:Nat),k<=maxLen->k*bytes<=140737488355328->Calls P g #[.slice ao 0 0,.int .i64 k] w fun en w'=>∃v',en=.returned v'/\w'.ownsRow 0 e st v' 0 []/\w.grownBy w' ao/\∀b,nH v'=ae b->w.heap.size<=b
structure oD(P:Program)(C:Ctx):Prop where
 sp:WZ P C
 en:∀g,(C.spec g).isSome=ah\/(C.fns.get g).isSome=ah->Enters P g
 is:∀g e te,C.ins g=ae e->C.ty e=ae te->Enters P g/\agE P g e te.size te.bytes
 gr:∀g e te,C.grow g=ae e->C.ty e=ae te->Enters P g/\abS P g e te.size te.bytes
section
variable{P:Program}{C:Ctx}{K:Kx}{H H' G9:Mem}{E E' He:Env}{w w' w'':World}
theorem xA{g:Nat}(h:Enters P g)(args:Array Value)(w:World):(callFunc g args).run P w=.ok (.enter g args) w:=by
 obtain ⟨fn,h1,h2,h3⟩:=h;have hb:fn.body≠ao:=by grind
 simp_all [callFunc,ct,run_program]
def abT(P:Program)(K:Kx)(H:Mem)(E:Env)(w:World)(c:Core)(a:Act)(o:Oper)(φ:SV×Core->Prop):Prop:=
 ∀(next:Act->World->Prop) (Q:Exit->Act->World->Prop),
  (∀(p:SV×Core) (v:Value) (H':Mem) (E':Env) (w':World),φ p->Den H' E' p.1 v->Post K H E w c H' E' w' p.2->next (a.put o.dst v) w')->o.wp P a w next Q
theorem yQ.op{c:Core}{a:Act}{o:Oper}{φ:SV×Core->Prop}(h:yQ P K H E w c a o φ):abT P K H E w c a o φ:=by
 obtain ⟨p,v,r,H',E',w',h1,h2,h3,h4,h5⟩:=h;intro next Q hn;unfold Oper.wp;rw[h5];rcases h4 with rfl|⟨rfl,rfl⟩
 ·exact hn p v H' E' w' h1 h2 h3
 ·exact hn p _ H' E' w' h1 h2 h3
def yR(P:Program)(C:Ctx)(K:Kx)(call:Nat->List SV->Core->Tree (SV×Core)):Prop:=
 ∀(H:Mem) (E:Env) (w:World) (c:Core) (g:Nat) (args:List SV) (vF:List Value) (φ:SV×Core->Prop),ni H E args vF->nI K H E w c.hp->sF K H w->Free E c->qE C.gls H->
  (call g args c).All φ->Enters P g/\Bo P K H E w c g vF φ
theorem DJ{a:Act}{tm:List SV}(hd:ni H E tm a.tmps.toList):∀xs:List Operand,ni H E (xs.map (oI tm)) (xs.map a.eval)
 |[]=>trivial |x::xs=>⟨ou hd x,DJ hd xs⟩
theorem ajQ{st n i:Nat}{g:Nat->List Sh}{xs:List Value}{l:List Sh}{news:List Value}(h1:pG H st n g xs)(hl:sD H l news)(hlen:news.length=st)(hone:∀u∈news,u.oneCell'=ah)(hi:i<=n):pG H st (n+1) (mM.ins g i l) (xs.take (i*st)++news++xs.drop (i*st)):=by
 obtain ⟨a1,a2,a3,a4⟩:=h1;have hle:i*st<=n*st:=ba _ hi;have htl:(xs.take (i*st)).length=i*st:=by simp_all
 refine ⟨?_,fun j hj=>?_,fun u hu=>?_,fun j k s v hj e1 e2=>?_⟩
 ·grind
 ·show (if j<i then g j else if j=i then l else g (j - 1)).length=st
  split
  ·grind
  ·split
   ·rw[<-hl.length,hlen]
   grind
 ·grind
 ·replace e1:(if j<i then g j else if j=i then l else g (j - 1))[k]?=ae s:=e1
  have hk:∀{r:List Sh},r[k]?=ae s->r.length=st->k<st:=fun hr hl'=>by grind
  split at e1
  ·rename_i hji
   have hks:=hk e1 (a2 j (by omega));have hlt:j*st+k<i*st:=by
    calc j*st+k<j*st+st:=by omega
     _=(j+1)*st:=by grind
     _<=i*st:=ba _ hji
   grind
  ·split at e1
   ·rename_i _ hji
    subst hji;have hks:=hk e1 (by rw[<-hl.length,hlen]);rw[cA,dS (by omega),htl,show j*st+k - j*st=k by omega,List.getElem?_append_left (by omega)] at e2;exact hl.at_ e1 e2
   ·rename_i hn1 hn2
    have hks:=hk e1 (a2 _ (by omega));have hge:i*st+st<=j*st+k:=by
     calc i*st+st=(i+1)*st:=by grind
      _<=j*st:=ba _ (by omega)
      _<=j*st+k:=Nat.le_add_right _ _
    have hjm:j*st=(j - 1)*st+st:=by
     obtain ⟨m,rfl⟩:∃m,j=m+1:=⟨j - 1,by omega⟩;grind
    grind
theorem apK{c:Core}{g e:Nat}{args:List SV}{vF:List Value}{φ:SV×Core->Prop}(hC:oC P C)(hF:oD P C)(hg:C.ins g=ae e)(hh:nI K H E w c.hp)(hw:sF K H w)(hf:Free E c)
  (hd:ni H E args vF) (h:(P9 C c e args).All φ):Enters P g/\Bo P K H E w c g vF φ:=by
 unfold P9 at h;split at h;rotate_left
 ·exact h.elim
 rename_i s i id';match vF,hd with
 |[v,iv,x],⟨hv,hiv,hx,_⟩=>
 split at h;rotate_left
 ·exact h.elim
 rename_i te hte;split at h;rotate_left
 ·exact h.elim
 rename_i n gr cells e2 st2 m hl1 hl2;cases hb:(Fa c.hp e s&&e==e2&&st2==te.size&&m==1 && !Gg s (.gs id')&&bO 0 te.size&&vY cells)<;>simp only[hb,cond_true,cond_false] at h
 ·exact h.elim
 simp only[ak,beq_iff_eq,Bool.not_eq_true'] at hb;obtain ⟨⟨⟨⟨⟨⟨hown,rfl⟩,rfl⟩,rfl⟩,hne⟩,h0⟩,hone⟩:=hb;have h0:=CP h0;split at h;rotate_left
 ·exact h.elim
 rename_i l z k hl hz hk;rw[hC.A] at hk h;obtain ⟨g1,g2,h⟩:=h;obtain ⟨z0,z1⟩:=CW g1;obtain ⟨r2,r1⟩:=vZ g2;have hz':yK i=ae z:=by
  unfold SA at hz;split at hz
  ·cases hz;rfl
  ·cases hz;rfl
  ·cases hz
 have eiv:iv=.int .i64 z:=by
  unfold SA at hz;split at hz
  ·cases hz;exact hiv
  ·cases hz;exact hiv
  ·cases hz
 have hkz:=yH hz' hk;subst hkz;have ea:mM.addN n 1=n+1:=rfl;rw[ea] at r1 r2 h;obtain ⟨o1,o2,_,o4,_⟩:=SS (st:=te.size) hh hown hv;obtain ⟨xs,p2,p3⟩:=o4 _ _ hl1;obtain ⟨x1,news,q1,q2,q3,q4⟩:=hh.ent _ _ hl2;rw[hx.1] at q1;cases q1;have hdis:∀b,nH v=ae b->nH x≠ae b:=fun b h1 h2=>by
  rcases o1 with ⟨_,h3⟩ |⟨id,sb0,h3,h4,h5,h6⟩
  ·simp_all
  ·have:=hh.vV id id' _ _ b h4 hl2 (h6.trans h1) (by simp[nU,hx.1,h2])
   subst this;have hs:Gg s (.gs id)=ah:=by
    unfold Gg;rw[h3];show (id==id)=ah;simp
   simp_all
 obtain ⟨hent,hins⟩:=hF.is g e te hg hte;have hrl:=sJ hh hl q3;have hnl:news.length=te.size:=by rw[q2.1,Nat.one_mul]
 have hno:=vC hone q3;refine ⟨hent,?_⟩;unfold Bo;have hiz:((z.toNat:Nat):Int)=z:=by omega
 subst eiv;have hcall:=hins w v x n z.toNat xs news p2 q2 hdis p3.2.2.1 hno (by omega) r1 r2;rw[hiz] at hcall;refine fb hcall fun en w' ⟨v',he,hown',hgr,hv'⟩=>?_;have wK:∀b,nH v'=ae b->Mine K H b:=fun b hb=>by
  rcases hv' b hb with h|h
  ·exact o2 b h
  ·refine ⟨?_,.inl (by have:=hw.size;omega)⟩
   cases hH:H b with
   |none=>rfl |some o=>have:=(aI.1 (hw.on b o hH)).1;omega
 obtain ⟨c',hφ,hp⟩:=Bl (s:=s) (v:=v) (v':=v') hh hw hf h o1 o2 hgr hv' (fun _=>⟨v',_,bp _ _ _,hown',ajQ p3 hrl hnl hno (by omega),wK⟩);obtain ⟨A,n',cc,e3⟩:=AV hown';exact ⟨_,v',H,_,he,hφ,⟨bp _ _ _,A,n',cc,e3⟩,hp⟩
 |[],h|[_],h|[_,_],h|_::_::_::_::_,h=>simp_all [ni]
theorem alW{c:Core}{g e:Nat}{args:List SV}{vF:List Value}{φ:SV×Core->Prop}(hC:oC P C)(hF:oD P C)(hg:C.grow g=ae e)(hh:nI K H E w c.hp)(hw:sF K H w)(hf:Free E c)
  (hd:ni H E args vF) (h:(MX C c e args).All φ):Enters P g/\Bo P K H E w c g vF φ:=by
 unfold MX at h;split at h;rotate_left
 ·exact h.elim
 rename_i i;match vF,hd with
 |[v,iv],⟨hv,hiv,_⟩=>
 split at h;rotate_left
 ·exact h.elim
 rename_i te z k hte hz hk;rw[hC.A] at hk h;obtain ⟨g1,g2,h⟩:=h;obtain ⟨r2,r1⟩:=vZ g2;have z0:(0:Int)<=z:=of_decide_eq_true g1;have hz':yK i=ae z:=by
  unfold SA at hz;split at hz
  ·cases hz;rfl
  ·cases hz;rfl
  ·cases hz
 have eiv:iv=.int .i64 z:=by
  unfold SA at hz;split at hz
  ·cases hz;exact hiv
  ·cases hz;exact hiv
  ·cases hz
 have hkz:=yH hz' hk;subst hkz;obtain ⟨hent,hgo⟩:=hF.gr g e te hg hte;refine ⟨hent,?_⟩;unfold Bo;have hv:v=.slice ao 0 0:=hv;subst hv eiv;have hcall:=hgo w z.toNat r1 r2;rw[show ((z.toNat:Nat):Int)=z by omega] at hcall;refine fb hcall fun en w' ⟨v',he,hown',hgr,hv'⟩=>?_;have wK:∀b,nH v'=ae b->Mine K H b:=fun b hb=>by
  have h:=hv' b hb;refine ⟨?_,.inl (by have:=hw.size;omega)⟩;cases hH:H b with
  |none=>rfl |some o=>have:=(aI.1 (hw.on b o hH)).1;omega
 obtain ⟨c',hφ,hp⟩:=Bl (s:=.nS) (v:=.slice ao 0 0) (v':=v') hh hw hf h (.inl ⟨rfl,rfl⟩) (fun b hb=>by simp[nH] at hb) hgr (fun b hb=>.inr (hv' b hb)) (fun _=>⟨v',_,bp _ _ _,hown',CV _ _,wK⟩);obtain ⟨A,n',cc,e3⟩:=AV hown';exact ⟨_,v',H,_,he,hφ,⟨bp _ _ _,A,n',cc,e3⟩,hp⟩
 |[],h|[_],h|_::_::_::_,h=>simp_all [ni]
theorem agF{call:Nat->List SV->Core->Tree (SV×Core)}{c:Core}{a:Act}{o:Oper}{k:Call}{f:Operand}{φ:SV×Core->Prop}(hC:oC P C)(hF:oD P C)(hK:yR P C K call)(st:St C K H E w c a)(ho:o.op=.call k)
  (hf:k.callee=.value f) (h:(match oI c.tm f with
   | .fn g cs=>match C.ins g with
    |some e=>P9 C c e (k.args.toList.map (oI c.tm)++cs) |none=>match C.grow g with
    |some e=>MX C c e (k.args.toList.map (oI c.tm)++cs) |none=>match C.spec g with
    |some F=>bif C.lend g then P8 c F (k.args.toList.map (oI c.tm)++cs) else spread c F (k.args.toList.map (oI c.tm)++cs) |none=>call g (k.args.toList.map (oI c.tm)++cs) c
   |_=>.fail).All φ):abT P K H E w c a o φ:=by
 have df:=ou (H:=H) (E:=E) st.den f;split at h
 ·rename_i g cs hg
  rw[hg] at df;obtain ⟨vs,ef,hvs⟩:=df;have hargs:=(DJ st.den k.args.toList).append hvs;have key:Enters P g/\Bo P K H E w c g (k.args.toList.map a.eval++vs.toList) φ:=by
   split at h
   ·rename_i e he
    exact apK hC hF he st.hp st.o7 st.free hargs h
   split at h
   ·rename_i e he
    exact alW hC hF he st.hp st.o7 st.free hargs h
   split at h
   ·rename_i F hF2
    refine ⟨hF.en g (.inl (by rw[hF2];rfl)),?_⟩;cases hl:C.lend g<;>simp only[hl,cond_true,cond_false] at h
    ·exact agD hF.sp hF2 st.hp st.o7 st.free st.gl hargs h
    ·exact alV hF.sp hF2 st.hp st.o7 st.gl hargs h
   ·exact hK H E w c g _ _ φ hargs st.hp st.o7 st.free st.gl h
  intro next Q hn;have hr:(execOp a.eval o).run P w=.ok (.enter g (k.args.map a.eval++vs)) w:=by
   simp_all [execOp,resolve,cW,invoke,xA]
  unfold Oper.wp;rw[hr];have he:(k.args.toList.map a.eval++vs.toList).toArray=k.args.map a.eval++vs:=by
   simp
  have:=key.2;unfold Bo at this;rw[he] at this;refine fb this fun e w' ⟨p,v,H',E',e1,e2,e3,e4⟩=>?_;grind
 ·exact h.elim
theorem ajR{call:Nat->List SV->Core->Tree (SV×Core)}{c:Core}{a:Act}{o:Oper}{φ:SV×Core->Prop}(hC:oC P C)(hF:oD P C)(hK:yR P C K call)(st:St C K H E w c a)
  (h:(Je C call c o).All φ):abT P K H E w c a o φ:=by
 by_cases hq:qW o.op=ah
 ·exact ((Qs hC st.den st.hp st.gl hq h).toW st.hp st.o7).op
 unfold Je at h;split at h;case h_4 e ho=>exact (alM hC st.hp st.o7 st.free ho h).op
 case h_5 e x ho=>exact (ar7 st.den st.hp st.o7 st.free ho h).op
 case h_7 t n parts ho=>exact (ZL hC st.den st.hp st.o7 st.free ho h).op
 case h_9 t x v ho=>exact (alO hC st.den st.hp st.o7 ho h).op
 case h_20 t ho=>exact (agv st.hp st.o7 st.free ho h).op
 case h_21 t l k ho=>
  refine (abP hC st.den st.hp st.o7 st.free ho (fun hs=>?_) h).op;grind
 case h_22 t x lo hi ho=>exact (alT hC st.den st.hp st.o7 ho h).op
 case h_24 t m k v ho=>exact (aas hC st.den st.hp st.o7 (.inr ho) h).op
 case h_25 t m k v ho=>exact (aas hC st.den st.hp st.o7 (.inl ho) h).op
 case h_26 t m k ho=>exact (adO hC st.den st.hp st.o7 st.free ho h).op
 case h_27 t m s v ho=>exact (ZM st.den st.hp st.o7 ho h).op
 case h_28 k ho=>
  unfold MZ at h;split at h
  ·rename_i b hb
   obtain ⟨callee,xs,ts⟩:=k;simp only at hb;subst hb;simp only at h;split at h
   ·simp_all [qW]
   ·rename_i m k t r h1 h2
    have e1:xs=#[m,k]:=by grind
    subst e1;have e2:ts[0]?=ae t:=by rw[<-Array.getElem?_toList,h2];rfl
    exact (ajP hC st.den st.hp st.o7 ho e2 h).op
   ·rename_i s x t u h1 h2
    have e1:xs=#[s,x]:=by grind
    have e2:ts=#[t,u]:=by grind
    subst e1 e2;cases hu:(t==u)<;>simp only[hu,cond_true,cond_false] at h
    ·exact (agx hC st.den st.hp st.o7 st.free ho h).op
    obtain rfl:t=u:=by grind
    split at h
    ·rename_i r hr
     exact (agy hC st.den st.hp st.o7 st.free ho hr h).op
    ·exact (ajO hC st.den st.hp st.o7 st.free ho h).op
   ·simp_all [qW]
   ·simp_all [qW]
   ·exact h.elim
  ·grind [agF]
  ·exact h.elim
 case h_29 t u x ho=>exact (apI hC st.den st.hp st.o7 st.free ho h).op
 case h_31=>exact h.elim
 all_goals
  simp_all [qW]
theorem alX{call:Nat->List SV->Core->Tree (SV×Core)}{c:Core}{a:Act}{o:Oper}{φ:SV×Core->Prop}(hC:oC P C)(hF:oD P C)(hK:yR P C K call)(st:St C K H E w c a)
  (h:(exec C call c o).All φ):abT P K H E w c a o φ:=by
 obtain ⟨ψ,h,hψ⟩:=OU h;intro next Q hn;refine ajR hC hF hK st h next Q fun p v H' E' w' h1 h2 h3=>?_
 obtain ⟨x,q1,q2⟩:=hψ p h1;exact hn (x,p.2) v H' E' w' q1 (q2 _ _ _ h2) h3
theorem zY{c:Core}{a:Act}(hd:ni H E c.tm a.tmps.toList)(dst:Option Nat){sv:SV}{v:Value}(hv:Den H E sv v):ni H E (BX c.tm dst sv) (a.put dst v).tmps.toList:=by
 cases dst with
 |none=>exact hd |some d=>
  simp only[BX,Act.put,Array.toList_setIfInBounds];exact hd.set d hv
theorem put_defers{a:Act}{dst:Option Nat}{v:Value}:(a.put dst v).defers=a.defers:=by cases dst<;>rfl
theorem St.step{c c':Core}{a:Act}(st:St C K H E w c a)(dst:Option Nat){sv:SV}{v:Value}(hv:Den H' E' sv v)(hp:Post K H E w c H' E' w' c'):St C K H' E' w' (c'.put dst sv) (a.put dst v):=by
 refine ⟨?_,hp.hp,hp.o7,?_,st.gl.le hp.x9,by rw[put_defers];exact st.defers⟩
 ·have:=zY (c:=c') (a:=a) (by rw[hp.tm];exact st.den.le hp.x9 hp.BR) dst hv
  exact this
 ·exact hp.mv.free st.free
theorem St.put{c:Core}{a:Act}(st:St C K H E w c a)(dst:Option Nat){sv:SV}{v:Value}(hv:Den H E sv v):St C K H E w (c.put dst sv) (a.put dst v):=
 ⟨zY st.den dst hv,st.hp,st.o7,st.free,st.gl,by rw[put_defers];exact st.defers⟩
theorem St.know{c:Core}{a:Act}(st:St C K H E w c a){d:Nat}{b:Bool}(hd:c.tm.getD d .any=.test b):St C K H E w (c.put (ae d) (.bool b)) a:=by
 refine ⟨?_,st.hp,st.o7,st.free,st.gl,st.defers⟩;have h1:c.tm[d]?=ae (.test b):=by
  grind
 obtain ⟨v,e1,e2⟩:=st.den.get h1;have e2:v=.bool b:=e2;subst e2;have h2:=st.den.set d (s:=.bool b) (v:=.bool b) rfl;have h3:a.tmps.toList.set d (.bool b)=a.tmps.toList:=by
  apply List.ext_getElem?;grind
 rw[h3] at h2;exact h2
theorem Nj{tm:List SV}{a:Act}(hd:ni H E tm a.tmps.toList){d:Nat}{sv:SV}(h:tm.getD d .any=sv)(hne:sv≠.any):∃v,a.tmps[d]?=ae v/\Den H E sv v:=by
 have h1:tm[d]?=ae sv:=by
  grind
 obtain ⟨v,e1,e2⟩:=hd.get h1;simp_all
theorem wZ{ops:Array Oper}{tm:List SV}{a:Act}(hd:ni H E tm a.tmps.toList)(o:Oper):
  match Gi ops.toList tm o with
  | .yes=>db o (yielded ops a.tmps)=ah | .no=>db o (yielded ops a.tmps)=ag | .ask d c b=>tm.getD d .any=.test c/\db o (yielded ops a.tmps)=(c==b) | .lost=>True:=by
 unfold Gi db;cases hg:o.guard with
 |none=>rfl |some jb=>
  obtain ⟨j,b⟩:=jb;simp only;have hop:opAt ops.toList j=ops[j]?:=by simp[opAt]
  rw[hop];cases hds:(ops[j]?).bind (·.dst) with
  |none=>trivial |some d=>
   simp only;have hy:∀c:Bool,a.tmps[d]?=ae (.bool c)->yielded ops a.tmps j=ae c:=fun c hc=>by
    grind [yielded]
   cases hx:tm.getD d .any with
   |bool c=>
    obtain ⟨v,e1,e2⟩:=Nj hd hx (by simp);have e2:v=.bool c:=e2;grind
   |test c=>
    obtain ⟨v,e1,e2⟩:=Nj hd hx (by simp);have e2:v=.bool c:=e2;simp_all
   |mX l=>
    obtain ⟨v,e1,e2⟩:=Nj hd hx (by simp);obtain ⟨vs,rfl,_⟩:=e2;simp_all [yielded]
   |_=>trivial
theorem abU{ops:List Oper}{i:Nat}:Den H E (skV ops i) undef:=by
 unfold skV;cases ops.any (fun o=>match o.guard with|some (j,_)=>Nat.beq j i|none=>ag)
 ·trivial
 ·exact ⟨#[],rfl,trivial⟩
def Qy(P:Program)(C:Ctx)(K:Kx)(H:Mem)(E:Env)(w:World)(c:Core)(a:Act)(ops:Array Oper)(i:Nat)(φ:Core->Prop):Prop:=
 ∀(next:Act->World->Prop) (Q:Exit->Act->World->Prop),
  (∀(c':Core) (a':Act) (H':Mem) (E':Env) (w':World),φ c'->St C K H' E' w' c' a'->Mv K H E w c H' E' w' c'->(∃v,a'=a.put ((ops[i]?).bind (·.dst)) v)->next a' w')->wpOp P ops Q i next a w
theorem zZ{c c':Core}{a:Act}(st:St C K H E w c a)(h1:c'.hp=c.hp)(h2:c'.nx=c.nx)(h3:c'.lim=c.lim)(h4:c'.tc=c.tc):Mv K H E w c H E w c':=
 (fN st.hp st.o7).mv.to rfl rfl rfl rfl h1 h2 h3 h4
theorem adQ{call:Nat->List SV->Core->Tree (SV×Core)}{c:Core}{a:Act}{ops:Array Oper}{i:Nat}{o:Oper}{φ:Core->Prop}(hC:oC P C)(hF:oD P C)(hK:yR P C K call)(st:St C K H E w c a)
  (hi:ops[i]?=ae o) (hw:db o (yielded ops a.tmps)=ah) (h:(adi C call c o).All φ):Qy P C K H E w c a ops i φ:=by
 intro next Q hn;unfold wpOp;simp only[hi,hw,if_true];refine .inl (alX hC hF hK st (Tree.vW h) next Q fun p v H' E' w' h1 h2 h3=>?_);exact hn _ _ H' E' w' h1 (st.step o.dst h2 h3) (h3.mv.to rfl rfl rfl rfl rfl rfl rfl rfl) ⟨v,by rw[hi];rfl⟩
theorem Xa{c:Core}{a:Act}{ops:Array Oper}{i:Nat}{o:Oper}{φ:Core->Prop}(st:St C K H E w c a)
  (hi:ops[i]?=ae o) (hw:db o (yielded ops a.tmps)=ag) (h:φ (c.put o.dst (skV ops.toList i))):Qy P C K H E w c a ops i φ:=by
 intro next Q hn;unfold wpOp;simp only[hi,hw];exact hn _ _ H E w h (st.put o.dst abU) (zZ st rfl rfl rfl rfl) ⟨undef,by rw[hi];rfl⟩
theorem OX{call:Nat->List SV->Core->Tree (SV×Core)}{c:Core}{a:Act}{ops:Array Oper}{i:Nat}{φ:Core->Prop}(hC:oC P C)(hF:oD P C)(hK:yR P C K call)(st:St C K H E w c a)
  (h:(VR C call ops.toList c i).All φ):Qy P C K H E w c a ops i φ:=by
 unfold VR at h;have hop:opAt ops.toList i=ops[i]?:=by simp[opAt]
 rw[hop] at h;split at h
 ·rename_i hi
  intro next Q hn;unfold wpOp;simp only[hi];exact hn _ _ H E w h st (zZ st rfl rfl rfl rfl) ⟨undef,by rw[hi];rfl⟩
 ·rename_i o hi
  have hs:=wZ (ops:=ops) st.den o;split at h
  ·grind [adQ]
  ·rename_i hw
   rw[hw] at hs;exact Xa st hi hs h
  ·rename_i d t b hw
   rw[hw] at hs;obtain ⟨h1,h2⟩:=hs;have key:∀v:Bool,t=v->(let c':=c.put (ae d) (.bool v);bif v==b then adi C call c' o else .leaf (c'.put o.dst (skV ops.toList i))).All φ->Qy P C K H E w c a ops i φ:=fun v hv hh=>by
    subst hv;have st':=st.know h1;have mvc:Mv K H E w c H E w (c.put (ae d) (.bool t)):=zZ st rfl rfl rfl rfl;intro next Q hn;cases hb:(t==b)<;>simp only[hb,cond_true,cond_false] at hh
    ·refine Xa (P:=P) st' hi (by rw[h2,hb]) hh next Q fun c' a' H' E' w' e1 e2 e3 e4=>hn c' a' H' E' w' e1 e2 (mvc.trans e3) e4
    ·refine adQ hC hF hK st' hi (by rw[h2,hb]) hh next Q fun c' a' H' E' w' e1 e2 e3 e4=>hn c' a' H' E' w' e1 e2 (mvc.trans e3) e4
   cases t with
   |true=>exact key ah rfl (by have:=h.1 rfl;simp_all) |false=>exact key ag rfl (by have:=h.2 rfl;simp_all)
  ·exact h.elim
end
end Go.Sx
