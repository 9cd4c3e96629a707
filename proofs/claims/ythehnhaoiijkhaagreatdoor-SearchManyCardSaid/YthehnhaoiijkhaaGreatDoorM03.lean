/- Own work. -/
import Derived.Test.YthehnhaoiijkhaaGreatDoorM02
import Derived.Lib.AppendStr
import Derived.Lib.ConvBytes
import Derived.Laws.BytesString
open Int (ofNat)
open Array renaming length_toList->bU,getElem?_toList->dV,getElem?_eq_getElem->fD,getD_eq_getD_getElem?->iJ,size_append->nS,ext'->yM,getElem?_eq_some_iff->bG
open Bool renaming true->aC,and_eq_true->aH,false->ak
open ByteArray renaming size->nH
open Go.Addr renaming add->mW,add_lit->eX
open Go.Builtin renaming append_->eF,lenOf->kP,firstCells->gu,zeroCells->jd,delete_->nU
open Go.Instr renaming buildSlice->tY,findNow->dM,sameNow->dZ,sameBits->lX,mapUpdate->jy,findKey->iq,keyThatStays->mX,mapEntry->oO
open Go.Program renaming elem->vJ
open Go.Question renaming forced->rZ
open Go.Sem renaming run->kW
open Go.Sx.Env renaming set_self->fA,aei->nI,set->nT
open Go.Sx.Post renaming refl->oN
open Go.Value renaming int->iQ,oneCell'->jQ,cells->mJ
open Go.World renaming ownsRow_lit->sJ
open Int renaming toNat_natCast->fJ
open Int.ofNat renaming inj->kT
open List renaming eq_nil_of_length_eq_zero->jV,size_toArray->gK,toList_toArray->rY,length_append->bf,length_take->bZ,length_drop->dQ,mem_iff_getElem?->dB,mem_of_getElem?->bT,append_assoc->dS,getElem?_append_left->dI,getElem?_take->bY,getElem?_append_right->fC,getElem?_drop->eH,getElem?_eq_some_iff->aU,getElem?_append->kG,length_nil->pX,take_left->kX,range->aX,mem_append->bK,mem_cons_of_mem->dw,mem_cons_self->cu,getElem?_modify->iy,getElem?_eraseIdx->qI
open List.cons renaming injEq->qj
open Nat renaming le_refl->dh,zero_le->gX,add_mul->gq,mul_le_mul_right->dP,add_zero->jv,ble->gV,le_of_ble_eq_true->fM,one_mul->iF,min_eq_left->qx,add_comm->yL,zero_add->gJ,mod_eq_of_lt->iC,mod_lt->zl,blt->fV,mul_comm->lM,mul_add_mod->wE,add_assoc->jR,sub_zero->tX
open Option renaming some->ay,none->aK,map_eq_some_iff->bV,bind_some->eU,map_some->lI,map_none->tZ
open Option.some renaming injEq->kL,inj->dD
open Prod.mk renaming injEq->jO
open UInt8 renaming ofNat->jZ
namespace Go.Sx
section
variable{P:Program}{C:Ctx}{K:Kx}{H H':Mem}{E E':Env}{w w':World}
theorem Q5(t ty e:TypeId)(i:TypeInfo)(z:Value)(size bytes:Nat)(ht:P.underlying t=ay (.slice e))(hi:P.info? e=ay i)(hz:i.zero=ay z)
  (hsize:i.size=size) (hby:i.bytes=bytes) (hzs:z.cells.size=size) (hsz:0<size) (v:Value) (n:Nat) (xs:List Value) (hown:w.ownsRow 0 e size v n xs)
  (a:Addr) (m c:Nat) (news:List Value) (hl:news.length=m*size) (hnews:∀j u,news[j]?=ay u->w.cell? (a.add j)=ay u) (h1:∀u∈news,u.oneCell'=aC)
  (h63:n+m<=maxLen) (hbytes:(n+m)*bytes<=140737488355328) :
  ∃v' w',(eF #[t,t] ty #[v,.slice (ay a) m c]).run P w=.ok v' w'/\w'.ownsRow 0 e size v' (n+m) (xs++news)/\w.grownBy w' (Ah v)/\
   ∀b,Ah v'=ay b->Ah v=ay b\/w.heap.size<=b:=by
 have hsmall:n+m<=9223372036854775807:=by simp only[maxLen] at h63;omega
 rcases hown.2 with ⟨rfl,rfl⟩ |⟨g,cap,cur,rfl,_,hg,hnc,hcm,hcs,htake⟩
 ·obtain ⟨v',w',hr,ho,hgr,_⟩:=run_append_own (P:=P) w w.heap.size t ty e i z size bytes ht hi hz hsize hby hzs hsz (.slice aK 0 0) 0 xs ⟨hown.1,.inl ⟨rfl,rfl⟩⟩ a m c news hl hnews h1 h63 hbytes (dh _)
  refine ⟨v',w',hr,⟨ho.1,?_⟩,hgr,fun b hb=>.inr ?_⟩
  ·rcases ho.2 with h|⟨g,cap,cur,h2,_,h4⟩
   ·exact .inl h
   ·exact .inr ⟨g,cap,cur,h2,gX _,h4⟩
  ·rcases ho.2 with ⟨rfl,_⟩ |⟨g,cap,cur,rfl,hge,h4⟩
   ·simp[Ah] at hb
   ·simp[Ah] at hb;omega
 ·obtain ⟨v',w',hr,ho,hgr,_⟩:=run_append_own (P:=P) w 0 t ty e i z size bytes ht hi hz hsize hby hzs hsz _ n xs hown a m c news hl hnews h1 h63 hbytes (gX _)
  refine ⟨v',w',hr,ho,hgr,fun b hb=>?_⟩;subst hsize hby
  by_cases hroom:n+m<=cap
  ·have hfit:n*i.size+news.length<=cur.size:=by rw[hl,hcs,<-gq];exact dP _ hroom
   have hr2:=run_append_room (P:=P) w t ty e i ht hi g n cap cur hg a m c news hl hnews h1 hroom hfit;rw[hr2] at hr;cases hr;simp[Ah] at hb;subst hb;exact .inl rfl
  ·have holds:∀j u,xs[j]?=ay u->w.cell? ((⟨g,0,aK⟩:Addr).add j)=ay u:=hown.cells (g:=g) rfl
   have hr2:=run_append_grow (P:=P) w t ty e i z ht hi hz ⟨g,0,aK⟩ n cap xs hown.1 holds a m c news hl hnews (by omega) (by omega) (growslice_fits (by omega) hbytes);rw[hr2] at hr;cases hr;simp[Ah] at hb;exact .inr (by omega)
theorem afC(t ty e:TypeId)(i:TypeInfo)(z:Value)(size bytes:Nat)(ht:P.underlying t=ay (.slice e))(hi:P.info? e=ay i)(hz:i.zero=ay z)
  (hsize:i.size=size) (hby:i.bytes=bytes) (hzs:z.cells.size=size) (hsz:0<size) (v:Value) (n:Nat) (xs:List Value) (hown:w.ownsRow 0 e size v n xs)
  (x:Value) (m:Nat) (news:List Value) (hx:(m=0/\∃A c,x=.slice A 0 c)\/(∃a c,x=.slice (ay a) m c/\∀j u,news[j]?=ay u->w.cell? (a.add j)=ay u)) (hl:news.length=m*size) (h1:∀u∈news,u.oneCell'=aC)
  (h63:n+m<=maxLen) (hbytes:(n+m)*bytes<=140737488355328) :
  ∃v' w',(eF #[t,t] ty #[v,x]).run P w=.ok v' w'/\w'.ownsRow 0 e size v' (n+m) (xs++news)/\w.grownBy w' (Ah v)/\
   ∀b,Ah v'=ay b->Ah v=ay b\/w.heap.size<=b:=by
 rcases hx with ⟨rfl,A,c,rfl⟩ |⟨a,c,rfl,hc⟩
 ·have hn:news=[]:=jV (by simpa using hl)
  subst hn;cases A with
  |some a=>exact Q5 t ty e i z size bytes ht hi hz hsize hby hzs hsz v n xs hown a 0 c [] (by simp) (by simp) (by simp) h63 hbytes |none=>
   have hr:(eF #[t,t] ty #[v,.slice aK 0 c]).run P w=.ok v w:=by
    rcases hown.2 with ⟨rfl,rfl⟩ |⟨g,cap,cur,rfl,_,_,hnc,_⟩
    ·simp[eF,run_underlying ht,sizeOf,typeInfo,hi,kP,gu]
    ·simp[eF,run_underlying ht,sizeOf,typeInfo,hi,kP,gu,hnc,storeCells]
   exact ⟨v,w,hr,by simpa using hown,⟨rfl,rfl,rfl,dh _,fun _ _ _=>rfl⟩,fun b hb=>.inl hb⟩
 ·exact Q5 t ty e i z size bytes ht hi hz hsize hby hzs hsz v n xs hown a m c news hl hc h1 h63 hbytes
mutual
theorem LZ{hp:List (Nat×SB)}(hh:Ai K H E w hp):∀{x:SV} {s:Sh} {u:Value},DL hp x=ay s->Den H E x u->Rep H s u
 | .int k n,s,u,h,hd=>by simp[DL] at h;subst h;simp only[Den] at hd;subst hd;exact .i k n | .sym k n,s,u,h,hd=>by simp[DL] at h;subst h;simp only[Den] at hd;subst hd;exact .i k n | .bool b,s,u,h,hd=>by simp[DL] at h;subst h;simp only[Den] at hd;subst hd;exact .b b | .test b,s,u,h,hd=>by simp[DL] at h;subst h;simp only[Den] at hd;subst hd;exact .b b | .str l,s,u,h,hd=>by simp[DL] at h;subst h;simp only[Den] at hd;subst hd;exact .str l | .val v,s,u,h,hd=>by simp[DL] at h;subst h;obtain ⟨rfl,h1⟩:=hd;exact .v _ h1 | .EJ,s,u,h,hd=>by simp[DL] at h;subst h;simp only[Den] at hd;subst hd;exact .v _ rfl | .F7,s,u,h,hd=>by simp[DL] at h;subst h;simp only[Den] at hd;subst hd;exact .v _ rfl | .DK,s,u,h,hd=>by simp[DL] at h;subst h;simp only[Den] at hd;subst hd;exact .v _ rfl | .Aw,s,u,h,hd=>by simp[DL] at h;subst h;simp only[Den] at hd;subst hd;exact .sl0 _ _ _ _ (gX _) | .sh s',s,u,h,hd=>by simp[DL] at h;subst h;exact hd | .agg l,s,u,h,hd=>by
  simp only[DL,bV] at h;obtain ⟨l',h1,rfl⟩:=h;obtain ⟨vs,rfl,hl⟩:=hd;have hr:=Eb hh h1 hl;exact .agg _ _ (by rw[<-bU];exact hr.length) fun j s v e1 e2=>hr.at_ e1 (by simpa using e2)
 | .Aj l,s,u,h,hd=>by
  simp only[DL,bV] at h;obtain ⟨l',h1,rfl⟩:=h;obtain ⟨vs,rfl,hl⟩:=hd;have hr:=Eb hh h1 hl;exact .Aj _ _ (by rw[<-bU];exact hr.length) fun j s v e1 e2=>hr.at_ e1 (by simpa using e2)
 | .fn f l,s,u,h,hd=>by
  simp only[DL,bV] at h;obtain ⟨l',h1,rfl⟩:=h;obtain ⟨vs,rfl,hl⟩:=hd;have hr:=Eb hh h1 hl;exact .fn _ _ _ (by rw[<-bU];exact hr.length) fun j s v e1 e2=>hr.at_ e1 (by simpa using e2)
 | .CG t x,s,u,h,hd=>by
  simp only[DL,bV] at h;obtain ⟨s',h1,rfl⟩:=h;obtain ⟨v,rfl,hl⟩:=hd;exact .CG _ _ _ (LZ hh h1 hl)
 | .gs id,s,u,h,hd=>by
  simp only[DL] at h;split at h
  ·rename_i st m g hl
   cases h;obtain ⟨v,he,hr⟩:=hh.ent _ _ hl;rw[hd.1] at he;cases he;exact hr
  ·cases h
 | .any,s,u,h,hd=>by simp[DL] at h | .ptr id off,s,u,h,hd=>by
  simp only[DL] at h;split at h
  ·rename_i l hl
   cases hb:(off==0)<;>simp only[hb,cond_true,cond_false] at h
   ·cases h
   ·cases h
    obtain rfl:off=0:=by simpa using hb
    obtain ⟨v,he,hr⟩:=hh.ent _ _ hl;obtain ⟨b,h1,rfl⟩:=hd;cases hr with
    |pt _ b2 off2 c a1 a2 a3=>
     rw[he] at h1;simp only[eU] at h1;have h02:b2=b/\off2=0:=by
      unfold Ah at h1;split at h1<;>simp_all
     obtain ⟨rfl,rfl⟩:=h02;exact .pt _ _ _ c a1 a2 a3
  ·cases h
 | .gp _ _ _ _,s,u,h,hd=>by simp[DL] at h | .Fp,s,u,h,hd=>by simp[DL] at h | .mp _,s,u,h,hd=>by simp[DL] at h | .Gl st n g i off,s,u,h,hd=>by
  simp only[DL] at h;cases hb:(off==0&&(g i).length==st)<;>simp only[hb,cond_true,cond_false] at h
  ·cases h
  ·cases h
   simp only[aH,beq_iff_eq] at hb;obtain ⟨rfl,h1⟩:=hb;obtain ⟨b,o,c,rfl,_,h3,h4,h5⟩:=hd;exact .pt _ _ _ c (fun j hj=>(h4 j (by omega)).1) (fun j hj=>(h4 j (by omega)).2) h5
 | .glob _,s,u,h,hd=>by simp[DL] at h | .ev _,s,u,h,hd=>by simp[DL] at h | .vw _ _,s,u,h,hd=>by simp[DL] at h
theorem Eb{hp:List (Nat×SB)}(hh:Ai K H E w hp):∀{l:List SV} {l':List Sh} {vs:List Value},H8 hp l=ay l'->Af H E l vs->Dq H l' vs
 |[],l',[],h,_=>by simp[H8] at h;subst h;trivial |x::l,l',v::vs,h,⟨h1,h2⟩=>by
  simp only[H8] at h;split at h
  ·rename_i s r e1 e2
   cases h;exact ⟨LZ hh e1 h1,Eb hh e2 h2⟩
  ·cases h
 |[],_,_::_,_,h=>h.elim |_::_,_,[],_,h=>h.elim
end
theorem amM{c:Core}{a:Act}{o:Oper}{t:Nat}{x y:Operand}{φ:SV×Core->Prop}(hC:A8 P C)(hd:Af H E c.tm a.tmps.toList)(hh:Ai K H E w c.hp)(hw:DX K H w)
  (ho:o.op=.store t x y) (h:(Uf C c t (Bd c.tm x) (Bd c.tm y)).All φ):G7 P K H E w c a o φ:=by
 have dx:=AV (H:=H) (E:=E) hd x;have dy:=AV (H:=H) (E:=E) hd y;unfold Uf at h;split at h
 ·rename_i i hi
  have ht:=hC.ty _ _ hi;cases hb:((Bd c.tm y).cells.length==i.size&&E8 (Bd c.tm y).cells)<;>simp only[hb,cond_true,cond_false] at h
  ·exact h.elim
  simp only[aH,beq_iff_eq] at hb;obtain ⟨hlen,hone⟩:=hb;have au2:(Bd c.tm y).Zi=aC:=by
   cases hy:Bd c.tm y<;>rw[hy] at hone<;>simp[SV.cells,E8,SV.one] at hone<;>simp[SV.Zi]
   rename_i s;cases s<;>simp at hone ⊢
  have dcs:=N7 au2 dy;have hcl:=dcs.length;have hoc:=ES hone dcs;have hrun:∀(b off:Nat) (cur:Array Value) (e:Nat),a.eval x=.pointer (ay ⟨b,off,aK⟩)->w.heap[b]?=ay (.cells cur e (0,0))->off+i.size<=cur.size->
    (execOp a.eval o).run P w=.ok .skip (w.setRow b (cur.toList.take off++(a.eval y).cells.toList++cur.toList.drop (off+(a.eval y).cells.toList.length)).toArray):=by
   intro b off cur e ex hcur hle;have hs:=run_storeCells_at P b off e (a.eval y).cells.toList 0 cur w hcur (by rw[hcl,hlen];simpa using hle) hoc;have hsz:(a.eval y).cells.size=i.size:=by rw[<-bU,hcl,hlen]
   simp only[jv] at hs;simp[execOp,ho,Instr.storeAt,ex,Instr.sureAddr,storeVar,Ja ht,hsz,hs]
  split at h
  ·rename_i id off hx
   rw[hx] at dx;obtain ⟨b,hbk,ex⟩:=dx;split at h
   ·rename_i cells e hl
    cases hle:gV (off+i.size) cells.length<;>simp only[hle,cond_true,cond_false] at h
    ·exact h.elim
    have hle:=fM hle;obtain ⟨b',cs,he,h1,h2,h3⟩:=hh.ent _ _ hl;simp only[he,eU,Ah,kL] at hbk;subst hbk;have hl2:=h2.length;rw[bU] at hl2;refine ⟨_,undef,_,H,E,_,h,trivial,?_,.inr ⟨rfl,rfl⟩,hrun b' off cs e ex h1 (by omega)⟩;refine JU hh hw hl (b:=b') (by simp[AL,he,Ah]) (fun k hk=>setRow_other w b' k _ hk) (setRow_size _ _ _) rfl rfl rfl ?_ (by simp[AL,he,Ah]);refine ⟨b',_,he,setRow_heap w b' cs _ e _ h1,?_,h3⟩;exact YE h2 dcs (by omega)
   ·rename_i cells e st n hl
    cases hle:gV (off+i.size) cells.length<;>simp only[hle,cond_true,cond_false] at h
    ·exact h.elim
    have hle:=fM hle;obtain ⟨v,xs,he,h1,h2,h3⟩:=hh.ent _ _ hl;simp only[he,eU] at hbk;have hl2:=h2.length;obtain ⟨hx1,hx2⟩:=h1;rcases hx2 with ⟨rfl,_⟩ |⟨g,cap,cur,rfl,hg0,hg1,hg2,hg3,hg4,hg5⟩
    ·simp[Ah] at hbk
    simp[Ah] at hbk;subst hbk;have hmul:n*st<=cap*st:=dP _ hg2;have hcur:cur.toList.length=cap*st:=by rw[bU];exact hg4
    have hlc:(a.eval y).cells.toList.length=i.size:=by rw[hcl,hlen]
    refine ⟨_,undef,_,H,E,_,h,trivial,?_,.inr ⟨rfl,rfl⟩,hrun g off cur e ex hg1 (by omega)⟩;refine JU hh hw hl (b:=g) (by simp[AL,he,Ah]) (fun k hk=>setRow_other w g k _ hk) (setRow_size _ _ _) rfl rfl rfl ?_ (by simp[AL,he,Ah]);refine ⟨_,xs.take off++(a.eval y).cells.toList++xs.drop (off+(a.eval y).cells.toList.length),he,⟨?_,.inr ⟨g,cap,_,rfl,hg0,setRow_heap w g cur _ e _ hg1,hg2,hg3,?_,?_⟩⟩,YE h2 dcs (by omega),h3⟩
    ·rw[Gp _ _ _ (by omega)];exact hx1
    ·rw[gK,Gp _ _ _ (by rw[hlc,hcur];omega)];exact hcur
    ·rw[rY,VO _ _ _ _ (by rw[hlc];omega) (by rw[hcur];omega),hg5]
   ·exact h.elim
  ·rename_i id st j off hx
   rw[hx] at dx;obtain ⟨b,v0,he0,hbk,hj,ex⟩:=dx;split at h
   ·rename_i e st' n g hl
    cases hb:(st==st'&&gV (off+i.size) st)<;>simp only[hb,cond_true,cond_false] at h
    ·exact h.elim
    simp only[aH,beq_iff_eq] at hb;obtain ⟨rfl,hle⟩:=hb;have hle:=fM hle;split at h
    ·rename_i l hsl
     rw[hC.A] at h;obtain ⟨v,xs,he,h1,h2,h3⟩:=hh.ent _ _ hl;rw[he0] at he;cases he;obtain ⟨hx1,hx2⟩:=h1;rcases hx2 with ⟨rfl,_⟩ |⟨bg,cap,cur,rfl,hg0,hg1,hg2,hg3,hg4,hg5⟩
     ·simp[Ah] at hbk
     simp[Ah] at hbk;subst hbk;have hj:j<n:=hj;have hmul:n*st<=cap*st:=dP _ hg2;have hjs:j*st+st<=n*st:=by
      calc j*st+st=(j+1)*st:=by rw[gq,iF]
       _<=n*st:=dP _ hj
     have hcur:cur.toList.length=cap*st:=by rw[bU];exact hg4
     have hlc:(a.eval y).cells.toList.length=i.size:=by rw[hcl,hlen]
     have hrep:=Eb hh hsl dcs;have hll:l.length=i.size:=by rw[<-hrep.length];exact hlc
     refine ⟨_,undef,_,H,E,_,h,trivial,?_,.inr ⟨rfl,rfl⟩,hrun bg (j*st+off) cur e ex hg1 (by rw[<-bU,hcur];omega)⟩;refine JU hh hw hl (b:=bg) (by simp[AL,he0,Ah]) (fun k hk=>setRow_other w bg k _ hk) (setRow_size _ _ _) rfl rfl rfl ?_ (by simp[AL,he0,Ah]);refine ⟨_,xs.take (j*st+off)++(a.eval y).cells.toList++xs.drop (j*st+off+(a.eval y).cells.toList.length),he0,⟨?_,.inr ⟨bg,cap,_,rfl,hg0,setRow_heap w bg cur _ e _ hg1,hg2,hg3,?_,?_⟩⟩,?_,h3⟩
     ·rw[Gp _ _ _ (by omega)];exact hx1
     ·rw[gK,Gp _ _ _ (by rw[hlc,hcur];omega)];exact hcur
     ·rw[rY,VO _ _ _ _ (by rw[hlc];omega) (by rw[hcur];omega),hg5]
     ·obtain ⟨r1,r2,r3,r4⟩:=h2
      refine ⟨by rw[Gp _ _ _ (by omega)];exact r1,fun k hk=>?_,fun u hu=>?_,fun k m s u hk e1 e2=>?_⟩
      ·have:=r2 k hk
       simp only[zV];split
       ·rw[bf,bf,bZ,dQ,hll];omega
       ·exact this
      ·obtain ⟨m,hm⟩:=dB.1 hu
       rw[KE _ _ _ _ (by omega)] at hm;split at hm
       ·exact hoc u (bT hm)
       ·exact r3 u (bT hm)
      ·rw[KE _ _ _ _ (by omega)] at e2
       have hkl:(if k=j then (g k).take off++l++(g k).drop (off+l.length) else g k)[m]?=ay s:=e1;have hg:=r2 k hk;by_cases hkj:k=j
       ·subst hkj
        rw[if_pos rfl] at hkl;by_cases c1:m<off
        ·rw[dS,dI (by rw[bZ];omega),bY,if_pos c1] at hkl
         rw[if_neg (by omega)] at e2;exact r4 k m s u hk hkl e2
        ·by_cases c2:m<off+l.length
         ·rw[dS,fC (by rw[bZ];omega),bZ,qx (by omega),dI (by omega)] at hkl
          rw[if_pos (by omega)] at e2;have:k*st+m - (k*st+off)=m - off:=by omega
          rw[this] at e2;exact hrep.at_ hkl e2
         ·rw[fC (by rw[bf,bZ];omega),eH,bf,bZ,qx (by omega)] at hkl
          have hm:off+l.length+(m - (off+l.length))=m:=by omega
          rw[hm] at hkl;have hml:m<st:=by rw[<-hg];exact (aU.1 hkl).1
          rw[if_neg (by omega)] at e2;exact r4 k m s u hk hkl e2
       ·rw[if_neg hkj] at hkl
        have hml:m<st:=by rw[<-hg];exact (aU.1 hkl).1
        rw[if_neg ?_] at e2
        ·exact r4 k m s u hk hkl e2
        ·intro hc
         rcases Nat.lt_or_gt_of_ne hkj with q|q
         ·have:k*st+st<=j*st:=by
           calc k*st+st=(k+1)*st:=by rw[gq,iF]
            _<=j*st:=dP _ q
          omega
         ·have:j*st+st<=k*st:=by
           calc j*st+st=(j+1)*st:=by rw[gq,iF]
            _<=k*st:=dP _ q
          omega
    ·exact h.elim
   ·exact h.elim
  ·exact h.elim
 ·exact h.elim
theorem PN(st:Nat):∀(n:Nat) (l:List Sh) (i:Nat),i<n->AQ (chunks st n l) i=(l.drop (i*st)).take st
 |n+1,l,0,_=>by simp[AQ,chunks] |n+1,l,i+1,h=>by
  have ih:=PN st n (l.drop st) i (by omega);simp only[AQ,chunks,List.getD_cons_succ] at ih ⊢;rw[ih,List.drop_drop];congr 2;rw[gq,iF,yL]
theorem Jr{st n:Nat}{l:List Sh}{xs:List Value}(hl:xs.length=n*st)(hr:Dq H l xs)(h1:∀u∈xs,u.oneCell'=aC):BN H st n (AQ (chunks st n l)) xs:=by
 have hll:=hr.length;have hle:∀i,i<n->i*st+st<=n*st:=fun i hi=>by
  calc i*st+st=(i+1)*st:=by rw[gq,iF]
   _<=n*st:=dP _ hi
 refine ⟨hl,fun i hi=>?_,h1,fun i j s v hi e1 e2=>?_⟩
 ·rw[PN _ _ _ _ hi,bZ,dQ]
  have:=hle i hi;omega
 ·rw[PN _ _ _ _ hi,bY] at e1
  split at e1
  ·rw[eH] at e1
   exact hr.at_ e1 e2
  ·cases e1
theorem LJ{st n elem:Nat}{g:Nat->List Sh}{v:Value}{xs:List Value}(ho:w.ownsRow 0 elem st v n xs)(hr:BN H st n g xs)(hon:∀b,Ah v=ay b->H b=w.heap[b]?):Rep H (.sl st n g) v:=by
 obtain ⟨h1,h2⟩:=ho;rcases h2 with ⟨rfl,rfl⟩ |⟨b,cap,cur,rfl,_,hb,hn,hc,hs,ht⟩
 ·exact .sl0 _ _ _ _ (gX _)
 ·have hx:∀i j,i<n->j<st->xs[i*st+j]?=ay (xs.getD (i*st+j) undef):=fun i j hi hj=>by
   have:i*st+j<xs.length:=by
    rw[h1];calc i*st+j<i*st+st:=by omega
     _=(i+1)*st:=by rw[gq,iF]
     _<=n*st:=dP _ hi
   rw[List.getD_eq_getElem?_getD,List.getElem?_eq_getElem this];rfl
  refine .sl st n g b 0 cap (fun i j=>xs.getD (i*st+j) undef) hn hc hr.2.1 (fun i j hi hj=>?_) (fun i j hi hj=>hr.2.2.1 _ (bT (hx i j hi hj))) fun i j s hi e=>?_
  ·have e:=hx i j hi hj
   rw[<-ht,bY] at e;split at e
   ·have hH:H b=ay (.cells cur elem (0,0)):=by rw[hon b rfl,hb]
    rw[dV] at e;simp only[hcell,hH,gJ];rw[e,ht]
   ·cases e
  ·have hj:j<st:=by rw[<-hr.2.1 i hi];exact (aU.1 e).1
   exact hr.2.2.2 i j s _ hi e (hx i j hi hj)
def Mem.add(H:Mem)(w:World)(b:Option Nat):Mem:=fun k=>if b=ay k then w.heap[k]? else H k
structure Uu(H':Mem)(E:Env)(hp hp':List (Nat×SB)):Prop where
 keep:∀id sb b,zX hp id=ay sb->AL E id sb=ay b->H' b≠aK\/zX hp' id=ay sb
 old:∀id sb,zX hp' id=ay sb->∃sb0,zX hp id=ay sb0/\∀b,AL E id sb=ay b->AL E id sb0=ay b
theorem Uu.refl(H':Mem)(E:Env)(hp:List (Nat×SB)):Uu H' E hp hp:=⟨fun _ _ _ h _=>.inr h,fun _ sb h=>⟨sb,h,fun _ h=>h⟩⟩
theorem Uu.trans{H1 H2:Mem}{hp hp1 hp2:List (Nat×SB)}(h1:Uu H1 E hp hp1)(h2:Uu H2 E hp1 hp2)(hle:H1.le H2):Uu H2 E hp hp2:=
 ⟨fun id sb b a1 a2=>by
  rcases h1.keep id sb b a1 a2 with h|h
  ·cases hb:H1 b with
   |none=>exact (h hb).elim |some o=>exact .inl (by rw[hle b o hb];simp)
  ·exact h2.keep id sb b h a2,fun id sb h=>by
  obtain ⟨s1,a1,a2⟩:=h2.old id sb h;obtain ⟨s0,b1,b2⟩:=h1.old id s1 a1;exact ⟨s0,b1,fun b hb=>b2 b (a2 b hb)⟩⟩
theorem amO{hp:List (Nat×SB)}{id:Nat}{sb nb:SB}{v:Value}(hh:Ai K H E w hp)(hw:DX K H w)(hl:zX hp id=ay sb)
  (hm:∀b,Ah v=ay b->Mine K H b) (afD:AL E id sb=Ah v) (hnb:AL E id nb=aK) (hent:H.le (H.add w (Ah v))->Gg K (H.add w (Ah v)) E w id nb) :
  H.le (H.add w (Ah v))/\Ai K (H.add w (Ah v)) E w (hset hp id nb)/\DX K (H.add w (Ah v)) w/\Uu (H.add w (Ah v)) E hp (hset hp id nb):=by
 have hle:H.le (H.add w (Ah v)):=fun b o hb=>by
  unfold Mem.add;split
  ·rename_i e
   have:=(hm b e).1;rw[hb] at this;cases this
  ·exact hb
 have hfin:Uu (H.add w (Ah v)) E hp (hset hp id nb):=by
  refine ⟨fun i s b h1 h2=>?_,fun i s h1=>?_⟩
  ·rw[Es]
   cases hid:(id==i)<;>simp only[cond_true,cond_false]
   ·exact .inr h1
   ·obtain rfl:id=i:=by simpa using hid
    rw[hl] at h1;cases h1;rw[afD] at h2;refine .inl ?_;unfold Mem.add;rw[if_pos h2];have h3:(w.heap[b]?).isSome=aC:=by
     have:=(hh.ent _ _ hl).lt (afD.trans h2);simp[this.1]
    intro e;rw[e] at h3;cases h3
  ·rw[Es] at h1
   cases hid:(id==i)<;>simp only[hid,cond_true,cond_false] at h1
   ·exact ⟨s,h1,fun _ h=>h⟩
   ·obtain rfl:id=i:=by simpa using hid
    rw[hl] at h1;cases h1;exact ⟨sb,hl,fun b h=>by rw[hnb] at h;cases h⟩
 refine ⟨hle,⟨fun id2 VL h2=>?_,fun id1 id2 s1 s2 b h1 h2 o1 o2=>?_⟩,⟨hw.os,hw.tape,hw.output,hw.size,hw.kept,fun b o hb=>?_,fun b o hb=>hle b o (hw.le b o hb),fun b hb=>?_⟩,hfin⟩
 ·rw[Es] at h2
  cases hid:(id==id2)<;>simp only[hid,cond_true,cond_false] at h2
  ·have hent:=hh.ent _ _ h2
   refine hent.kept hle (fun _ _ e=>e) (fun _ _=>rfl) fun b hb=>?_
   unfold Mem.add;rw[if_neg]
   ·exact (hent.lt hb).2.1
   ·intro e
    have:=hh.FQ _ _ _ _ _ hl h2 (afD.trans e) hb;subst this;simp at hid
  ·obtain rfl:id=id2:=by simpa using hid
   rw[hl] at h2;cases h2;exact hent hle
 ·have conv:∀{i:Nat} {s:SB},zX (hset hp id nb) i=ay s->AL E i s=ay b->zX hp i=ay s:=by
   intro i s h o;rw[Es] at h;cases hid:(id==i)<;>simp only[hid,cond_true,cond_false] at h
   ·exact h
   ·obtain rfl:id=i:=by simpa using hid
    rw[hl] at h;cases h;rw[hnb] at o;cases o
  exact hh.FQ _ _ _ _ _ (conv h1 o1) (conv h2 o2) o1 o2
 ·unfold Mem.add at hb
  split at hb
  ·exact hb
  ·exact hw.on b o hb
 ·unfold Mem.add at hb
  split at hb
  ·rename_i e
   exact .inr (hm b e).2
  ·exact hw.fresh b hb
theorem afE(b:Nat):Ah (.pointer (ay ⟨b,0,aK⟩))=ay b:=rfl
theorem Ia:∀{m:Nat} {ids:List Nat} {hp hp':List (Nat×SB)} {H:Mem},EU m hp ids=ay hp'->Ai K H E w hp->DX K H w->
  ∃H',H.le H'/\Ai K H' E w hp'/\DX K H' w/\Uu H' E hp hp'
 |m,[],hp,hp',H,h,hh,hw=>by
  have h:ay hp=ay hp':=by cases m<;>exact h
  cases h;exact ⟨H,fun _ _ e=>e,hh,hw,Uu.refl _ _ _⟩
 |0,_::_,hp,hp',H,h,hh,hw=>by cases h |m+1,id::ids,hp,hp',H,h,hh,hw=>by
  simp only[EU] at h;have step:∀{sb nb:SB} {v:Value},zX hp id=ay sb->(∀b,Ah v=ay b->Mine K H b)->AL E id sb=Ah v->AL E id nb=aK->(H.le (H.add w (Ah v))->Gg K (H.add w (Ah v)) E w id nb)->EU m (hset hp id nb) ids=ay hp'->
    ∃H',H.le H'/\Ai K H' E w hp'/\DX K H' w/\Uu H' E hp hp':=fun {sb nb v} hl hm afD hnb hent h=>by
   obtain ⟨h1,h2,h3,h4⟩:=amO hh hw hl hm afD hnb hent;obtain ⟨H',a1,a2,a3,a4⟩:=Ia h h2 h3;exact ⟨H',fun b o hb=>a1 b o (h1 b o hb),a2,a3,h4.trans a4 a1⟩
  split at h
  ·exact Ia h hh hw
  ·exact Ia h hh hw
  ·rename_i e st n g hl
   obtain ⟨v,xs,he,ho,hr,hm⟩:=hh.ent _ _ hl;exact step (nb:=.fz st n g) hl hm (by simp[AL,he]) (by simp[AL]) (fun hle=>⟨v,he,LJ ho (hr.le hle) fun b hb=>by simp[Mem.add,hb]⟩) h
  ·rename_i cells e st n hl
   obtain ⟨v,xs,he,ho,hd,hm⟩:=hh.ent _ _ hl;split at h
   ·rename_i l hsl
    cases hone:E8 cells<;>simp only[hone,cond_true,cond_false] at h
    ·cases h
    have hr:=Jr ho.1 (Eb hh hsl hd) (ES hone hd);exact step (nb:=.fz st n (AQ (chunks st n l))) hl hm (by simp[AL,he]) (by simp[AL]) (fun hle=>⟨v,he,LJ ho (hr.le hle) fun b hb=>by simp[Mem.add,hb]⟩) h
   ·exact Ia h hh hw
  ·rename_i cells e hl
   split at h
   ·rename_i l hsl
    cases hone:E8 cells<;>simp only[hone,cond_true,cond_false] at h
    ·cases h
    obtain ⟨b,cs,he,hb,hd,hm⟩:=hh.ent _ _ hl;have hr:=Eb hh hsl hd;have h1:=ES hone hd;have hlen:=hr.length;rw[bU] at hlen;refine step (nb:=.QI l) (v:=.pointer (ay ⟨b,0,aK⟩)) hl (fun b' hb'=>by rw[afE] at hb';cases hb';exact hm) (by simp[AL,he]) (by simp[AL]) (fun hle=>⟨_,he,?_⟩) h;refine .pt l b 0 (fun j=>cs.getD j undef) (fun j hj=>?_) (fun j hj=>?_) fun j s hs=>?_
    ·have hH:(H.add w (Ah (.pointer (ay ⟨b,0,aK⟩)))) b=ay (.cells cs e (0,0)):=by simp[Mem.add,afE,hb]
     simp only[hcell,hH,gJ];rw[fD (by omega)];simp[iJ,fD (show j<cs.size by omega)]
    ·have:cs.getD j undef=cs[j]'(by omega):=by simp[iJ,fD (show j<cs.size by omega)]
     simp only[this];exact h1 _ (by simp)
    ·have hj:j<l.length:=(aU.1 hs).1
     have:cs.getD j undef=cs[j]'(by omega):=by simp[iJ,fD (show j<cs.size by omega)]
     simp only[this];exact (hr.at_ hs (by rw[dV];exact fD (by omega))).le hle
   ·exact Ia h hh hw
  ·cases h
theorem MO{ids:List Nat}{hp hp':List (Nat×SB)}{H:Mem}(h:freeze hp ids=ay hp')(hh:Ai K H E w hp)(hw:DX K H w):
  ∃H',H.le H'/\Ai K H' E w hp'/\DX K H' w/\Uu H' E hp hp':=Ia h hh hw
end
section
variable{P:Program}{C:Ctx}{K:Kx}{H H':Mem}{E E':Env}{w w':World}
theorem YF(z:List SV):∀n,(rep z n).length=n*z.length
 |0=>by simp[rep] |n+1=>by simp[rep,YF z n,gq,yL]
theorem afF(z:List SV)(hz:0<z.length):∀(n j:Nat),j<n*z.length->(rep z n)[j]?=z[j % z.length]?
 |0,j,h=>by simp at h |n+1,j,h=>by
  rw[rep,kG];split
  ·rw[iC (by assumption)]
  ·rename_i hj
   have hj:z.length<=j:=by omega
   rw[afF z hz n _ (by rw[gq] at h;omega)];rw[Nat.mod_eq_sub_mod hj]
theorem ac2(cs:Array Value)(n j:Nat)(h:j<n)(hc:0<cs.size):(madeCells cs n).toList[j]?=cs.toList[j % cs.size]?:=by
 have:j % cs.size<cs.size:=zl _ hc;simp[madeCells,h,this]
theorem amP{z:List SV}{cs:Array Value}{n st:Nat}(hd:Af H E z cs.toList)(hs:cs.size=st)(h0:0<st):Af H E (rep z n) (madeCells cs (n*st)).toList:=by
 have hl:=hd.length;rw[bU,hs] at hl;refine Af.NZ (by rw[bU,size_madeCells,YF,<-hl]) fun j s v h1 h2=>?_
 have hj:j<n*st:=by
  have:=(aU.1 h2).1;rwa[bU,size_madeCells] at this
 rw[afF z (by omega) n j (by rw[<-hl];exact hj)] at h1;rw[ac2 cs _ _ hj (by omega),hs] at h2;rw[<-hl] at h1;exact hd.at_ h1 h2
theorem Je{t e:Nat}{i:JI}(h:NC P t i)(hi:i.ty=.slice e):P.underlying t=ay (.slice e):=by
 have:=h.desc;rw[hi] at this;exact this
theorem afG:16777216<=maxLen:=by decide
theorem acA{c:Core}{a:Act}{o:Oper}{t n:Nat}{parts:Array (Nat×Operand)}{φ:SV×Core->Prop}(hC:A8 P C)(hd:Af H E c.tm a.tmps.toList)(hh:Ai K H E w c.hp)(hw:DX K H w)(hf:Free E c)
  (ho:o.op=.buildSlice t n parts) (h:(KQ C c t n parts.toList).All φ):G7 P K H E w c a o φ:=by
 unfold KQ at h;split at h
 ·rename_i i hi
  split at h
  ·rename_i e hty
   have hu:=Je (hC.ty _ _ hi) hty;split at h
   ·rename_i j hj
    obtain ⟨inf,z,h1,h2,h3,h4,h5,h6,_⟩:=(hC.ty _ _ hj).info;cases hb:(gV (n*j.size) 16777216&&fV 0 j.size)<;>simp only[hb,cond_true,cond_false] at h
    ·exact h.elim
    simp only[aH] at hb;have hb1:=fM hb.1;have hb2:=EO hb.2;split at h
    ·rename_i l hl
     have h5':Af H E j.zero z.cells.toList:=h5.le (fun _ _ e=>by cases e) (fun _ _ e=>by cases e);have hz:=amP (n:=n) h5' h6 hb2;obtain ⟨cells',e1,e2⟩:=Xr (place:=fun i=>ay (i*j.size,j.size)) (fun _ _ _ e=>e) hd parts.toList hz hl;have hlt:c.nx<c.lim:=by
      unfold alloc at h;cases hb:fV c.nx c.lim<;>simp only[hb,cond_true,cond_false] at h
      ·exact h.elim
      ·exact EO hb
     have hlen:cells'.size=n*j.size:=by
      have q1:=e2.length;have q2:=hz.length;have q3:l.length=(rep j.zero n).length:=by
       have:∀(parts:List (Nat×Operand)) (z l:List SV),Pq (fun k=>ay (k*j.size,j.size)) (Bd c.tm) z parts=ay l->l.length=z.length:=by
        intro parts;induction parts with
        |nil=>intro z l h;simp[Pq] at h;subst h;rfl |cons p r ih=>
         intro z l h;obtain ⟨k,x⟩:=p;simp only[Pq] at h;cases hb:((Bd c.tm x).Zi&&(Bd c.tm x).cells.length==j.size&&gV (k*j.size+j.size) z.length)<;>simp only[hb,cond_true,cond_false] at h
         ·cases h
         ·rw[ih _ _ h,N8]
       exact this _ _ _ hl
      rw[bU] at q1 q2;rw[size_madeCells] at q2;omega
     have hmax:n<=maxLen:=by
      have:n*1<=n*j.size:=Nat.mul_le_mul_left _ hb2;have:=afG;omega
     have hmul:0<n->0<n*j.size:=fun h=>Nat.mul_pos h hb2
     obtain ⟨c',hφ,hp⟩:=Gz (o:=.cells cells' e) (v:=.slice (ay ⟨w.heap.size,0,aK⟩) n n) hh hw hf h rfl
      ⟨_,cells'.toList,fA _ _ _,sJ w cells' n (gX _) hmax hlen,e2.le (fun _ _ e=>e) (nI (hf _ (dh _) hlt)),fun b hb=>by
       simp[Ah] at hb;subst hb;exact Jd hw⟩
     refine ⟨_,_,_,H,_,_,hφ,⟨fA _ _ _,_,_,_,rfl⟩,hp,.inl rfl,?_⟩;have hsz:(sizeOf e).run P w=.ok j.size w:=Ja (hC.ty _ _ hj) w;have e1':Instr.fill (fun i=>ay (i*j.size,j.size)) (madeCells z.cells (n*j.size)) (parts.toList.map fun p=>(p.1,a.eval p.2))=ay cells':=e1;have TJ:(zeroValue e).run P w=.ok z w:=by simp[zeroValue,typeInfo,h1,h4]
     have hn2:¬(16777216<n*j.size):=by omega
     by_cases hn:n*j.size=0
     ·have:madeCells z.cells (n*j.size)=#[]:=by rw[hn];simp[madeCells]
      rw[this] at e1';simp[execOp,ho,tY,run_underlying hu,hsz,hn,newRow,Array.range_zero'];rw[e1'];rfl
     ·simp[execOp,ho,tY,run_underlying hu,hsz,hn,hn2,TJ,newRow]
      unfold madeCells at e1';rw[e1'];rfl
    ·exact h.elim
   ·exact h.elim
  ·exact h.elim
 ·exact h.elim
theorem Xt{c:Core}{b:SB}{v:SV}{φ:SV×Core->Prop}(h:(alloc c b v).All φ):c.nx<c.lim:=by
 unfold alloc at h;cases hb:fV c.nx c.lim<;>simp only[hb,cond_true,cond_false] at h
 ·exact h.elim
 ·exact EO hb
theorem GH{x:SV}{n:Int}{m:Nat}(h1:GN x=ay n)(h2:NV zV x=ay m):m=n.toNat:=by
 cases x<;>simp[GN,NV] at h1 h2
 all_goals (subst h1;subst h2;rfl)
theorem aej{x:SV}{u:Value}(h:isZero x=aC)(hd:Den H E x u):∃k,u=.int k 0:=by
 cases x<;>simp[isZero] at h
 subst h;exact ⟨_,hd⟩
theorem Fa{n b:Nat}(h:zV.room n b=aC):n*b<=140737488355328/\n<=maxLen:=by simpa[zV] using h
theorem afH{a b:Int}(h:zV.le a b=aC):a<=b:=by simpa[zV] using h
theorem ac3{p q kn:Nat}(h:p=q)(hb:kn*q<=140737488355328):(p:Int)*(kn:Int)<=281474976710656:=by
 subst h;have h:((p*kn:Nat):Int)<=281474976710656:=by rw[lM];omega
 rwa[Int.natCast_mul] at h
theorem ah7{K:Kx}{H:Mem}{E:Env}{w:World}{id e st:Nat}{x:SV}{v:Value}(he:E id=ay v)(hr:w.ownsRow 0 e st v 0 [])(hm:∀b,Ah v=ay b->Mine K H b):Gg K H E w id (amq x e st):=by
 have h1:Gg K H E w id (.row [] e st 0):=⟨_,[],he,hr,trivial,hm⟩;have h2:Gg K H E w id (.own e st 0 fun _=>[]):=⟨_,[],he,hr,⟨by simp,fun _ h=>by omega,fun _ h=>by simp at h,fun _ _ _ _ h=>by omega⟩,hm⟩;cases x<;>first|exact h1|exact h2
theorem aek{c:Core}{a:Act}{o:Oper}{t:Nat}{x y:Operand}{same:Bool}{φ:SV×Core->Prop}(hC:A8 P C)(hd:Af H E c.tm a.tmps.toList)(hh:Ai K H E w c.hp)(hw:DX K H w)(hf:Free E c)
  (ho:o.op=.makeSlice t x y) (hsame:same=aC->a.eval x=a.eval y) (h:(MH C c t (Bd c.tm x) (Bd c.tm y) same).All φ):G7 P K H E w c a o φ:=by
 have dx:=AV (H:=H) (E:=E) hd x;have dy:=AV (H:=H) (E:=E) hd y;unfold MH at h;split at h
 ·rename_i i hi
  split at h
  ·rename_i e hty
   have hu:=Je (hC.ty _ _ hi) hty;split at h
   ·rename_i j hj
    obtain ⟨inf,z,h1,h2,h3,h4,h5,h6,_⟩:=(hC.ty _ _ hj).info;split at h
    ·rename_i ki kn hki hkn
     obtain ⟨k,ey⟩:=Gy hki dy;have hA:=hC.A;rw[hA] at h hkn;have hkn:=GH hki hkn;cases hz:isZero (Bd c.tm x)<;>simp only[hz,cond_true,cond_false] at h
     ·cases hs:(same&&E8 j.zero&&fV 0 j.size)<;>simp only[hs,cond_true,cond_false] at h
      ·exact h.elim
      simp only[aH] at hs;have ex:=hsame hs.1.1;have hj0:=EO hs.2;split at h
      ·rename_i zs hzs
       obtain ⟨g1,g2,g3⟩:=h;have g1:=afH g1;obtain ⟨g2,g4⟩:=Fa g2;have hlt:=Xt g3;have amQ:ki=(kn:Int):=by omega
       subst amQ;have hr:=run_make (P:=P) w t e inf z hu h1 h4 k k (kn:Int) (kn:Int) (by omega) (Int.le_refl _) (ac3 h3 g2) (by have:maxLen=9223372036854775807:=rfl;omega);simp only[fJ,h2] at hr;have h5':Af H E j.zero z.cells.toList:=h5.le (fun _ _ e=>by cases e) (fun _ _ e=>by cases e);have TJ:Dq H zs z.cells.toList:=Eb (K:=K) (w:=w) (hp:=[]) ⟨fun _ _ e=>by simp[zX] at e,fun _ _ _ _ _ e=>by simp[zX] at e⟩ hzs h5';have hone:=ES hs.1.2 h5';have hzl:=TJ.length;rw[bU,h6] at hzl;have hget:∀(m:Nat) (u:Value),(madeCells z.cells (kn*j.size)).toList[m]?=ay u->z.cells.toList[m % j.size]?=ay u:=fun m u hm=>by
        have:m<kn*j.size:=by
         have:=(aU.1 hm).1;rwa[bU,size_madeCells] at this
        rw[ac2 _ _ _ this (by omega),h6] at hm;exact hm
       have hrows:BN H j.size kn (fun _=>zs) (madeCells z.cells (kn*j.size)).toList:=by
        refine ⟨by rw[bU,size_madeCells],fun _ _=>hzl.symm,fun u hu'=>?_,fun i m s v hi e1 e2=>?_⟩
        ·obtain ⟨m,hm⟩:=dB.1 hu'
         exact hone u (bT (hget m u hm))
        ·have e2:=hget _ _ e2
         have hm:m<j.size:=by rw[hzl];exact (aU.1 e1).1
         rw[lM,wE,iC hm] at e2;exact TJ.at_ e1 e2
       obtain ⟨c',hφ,hp⟩:=Gz (o:=.cells (madeCells z.cells (kn*j.size)) e) (v:=.slice (ay ⟨w.heap.size,0,aK⟩) kn kn) hh hw hf g3 rfl
        ⟨_,_,fA _ _ _,sJ w _ kn (gX _) g4 (size_madeCells _ _),hrows,fun b hb=>by
         simp[Ah] at hb;subst hb;exact Jd hw⟩
       refine ⟨_,_,_,H,_,_,hφ,⟨fA _ _ _,_,_,_,rfl⟩,hp,.inl rfl,?_⟩;simp[execOp,ho,ex,ey,hr]
      ·exact h.elim
     ·obtain ⟨g1,g2,g3⟩:=h
      have g1:=afH g1;obtain ⟨g2,g4⟩:=Fa g2;have hlt:=Xt g3;obtain ⟨l,ex⟩:=aej hz dx;have amQ:ki=(kn:Int):=by omega
      subst amQ;have hr:=run_make (P:=P) w t e inf z hu h1 h4 l k 0 (kn:Int) (by omega) (by omega) (ac3 h3 g2) (by have:maxLen=9223372036854775807:=rfl;omega);simp only[fJ,Int.toNat_zero,h2] at hr;obtain ⟨c',hφ,hp⟩:=Gz (o:=.cells (madeCells z.cells (kn*j.size)) e) (v:=.slice (ay ⟨w.heap.size,0,aK⟩) 0 kn) hh hw hf g3 rfl
       (ah7 (fA _ _ _) (World.ownsRow_made w _ kn (gX _) g4 (size_madeCells _ _)) fun b hb=>by
        simp[Ah] at hb;subst hb;exact Jd hw)
      refine ⟨_,_,_,H,_,_,hφ,⟨fA _ _ _,_,_,_,rfl⟩,hp,.inl rfl,?_⟩;simp[execOp,ho,ex,ey,hr]
    ·exact h.elim
   ·exact h.elim
  ·exact h.elim
 ·exact h.elim
end
open Go.Lib
section
variable{P:Program}{w:World}
theorem Dv(l:List UInt8):(bytesV l).length=l.length:=by simp[bytesV]
theorem YG(l m:List UInt8):bytesV (l++m)=bytesV l++bytesV m:=by simp[bytesV]
theorem afI(l:List UInt8):∀u∈bytesV l,u.oneCell'=aC:=fun u hu=>by
 simp only[bytesV,List.mem_map] at hu;obtain ⟨b,_,rfl⟩:=hu;rfl
theorem JK(P:Program)(g o:Nat)(t:TypeId)(fz:Nat×Nat):∀(vs:List Value) (i:Nat) (cur:Array Value) (w:World),w.heap[g]?=ay (.cells cur t fz)->(∀j,o+i<=j->j<cur.size->¬(fz.1<=j/\j<fz.2))->o+i+vs.length<=cur.size->(∀v∈vs,v.oneCell'=aC)->
  (storeCells ⟨g,o,aK⟩ vs i).run P w=.ok () (w.setRow g (cur.toList.take (o+i)++vs++cur.toList.drop (o+i+vs.length)).toArray)
 |[],i,cur,w,hg,_,_,_=>by
  simp only[storeCells,List.append_nil,pX,jv,List.take_append_drop,Array.toArray_toList];rw[setRow_self w g cur t fz hg];rfl
 |v::rest,i,cur,w,hg,hfz,hl,h1=>by
  have hi:o+i<cur.size:=by simp at hl;omega
  have hadd:(⟨g,o,aK⟩:Addr).add i=⟨g,o+i,aK⟩:=by unfold mW;split<;>simp_all
  have hcell:w.cell? ⟨g,o+i,aK⟩=ay cur[o+i]:=by simp[World.cell?,hg,hi]
  have hfro:w.frozen? ⟨g,o+i,aK⟩=ak:=by
   have:=hfz (o+i) (dh _) hi;obtain ⟨lo,hi'⟩:=fz;simp only[World.frozen?,hg,Bool.and_eq_false_iff,decide_eq_false_iff_not];simp only at this;omega
  have hst:(store ((⟨g,o,aK⟩:Addr).add i) v).run P w=.ok () (w.setRow g (cur.setIfInBounds (o+i) v)):=by
   rw[hadd,run_store P w _ v _ (h1 v (by simp)),hcell];simp[hfro,setCell_eq_setRow w g (o+i) cur t fz v hg]
  have ih:=JK P g o t fz rest (i+1) (cur.setIfInBounds (o+i) v) (w.setRow g (cur.setIfInBounds (o+i) v)) (setRow_heap w g cur _ t _ hg) (fun j h1 h2=>hfz j (by omega) (by simpa using h2)) (by simp at hl ⊢;omega) (fun x hx=>h1 x (by simp[hx]));simp only[storeCells,Sem.run_bind,hst,Result.andThen_ok,ih,setRow_setRow];congr 3;have e:=list_seg_step cur.toList (o+i) v rest (by simp at hl ⊢;omega);simpa[Array.toList_setIfInBounds,jR] using e
structure ajT(P:Program)(w:World)(u:TypeId)(x:Value)(m:List UInt8):Prop where
 ty:P.underlying u=ay .string\/∃d,P.underlying u=ay (.slice d)
 len:∀w':World,(kP x).run P w'=.ok m.length w'
 cells:∀w':World,w'.heap=w.heap->(gu 1 m.length x).run P w'=.ok (bytesV m).toArray w'
theorem afJ(t u ty e:TypeId)(i:TypeInfo)(ht:P.underlying t=ay (.slice e))(hi:P.info? e=ay i)(hz:i.zero=ay (.int .u8 0))(hsize:i.size=1)(hby:i.bytes=1)
  (v:Value) (l:List UInt8) (hown:Gn w e v l) (x:Value) (m:List UInt8) (hx:ajT P w u x m) (h63:l.length+m.length<=maxLen) (hbytes:(l.length+m.length)*1<=140737488355328) :
  ∃v' w',(eF #[t,u] ty #[v,x]).run P w=.ok v' w'/\Gn w' e v' (l++m)/\w.grownBy w' (Ah v)/\∀b,Ah v'=ay b->Ah v=ay b\/w.heap.size<=b:=by
 have hsmall:l.length+m.length<=9223372036854775807:=by simp only[maxLen] at h63;omega
 have hll:(l++m).length=l.length+m.length:=by simp
 have hz1:(iQ .u8 0).cells.size=1:=rfl;have grown:∀(cap:Nat) (row:Option Nat),Gn (w.drew.alloc (.cells ((bytesV l).toArray++(bytesV m).toArray++jd (iQ .u8 0).cells (grownCap w (l.length+m.length) cap e - (l.length+m.length))) e)) e
   (.slice (ay ⟨w.heap.size,0,aK⟩) (l.length+m.length) (grownCap w (l.length+m.length) cap e)) (l++m)/\
   w.grownBy (w.drew.alloc (.cells ((bytesV l).toArray++(bytesV m).toArray++jd (iQ .u8 0).cells (grownCap w (l.length+m.length) cap e - (l.length+m.length))) e)) row:=fun cap row=>by
  have hge:=grownCap_ge w (l.length+m.length) cap e;have hcm:grownCap w (l.length+m.length) cap e<=maxLen:=grownCap_le_maxLen w (l.length+m.length) cap e h63;refine ⟨.inr ⟨w.heap.size,_,_,(0,0),by rw[hll],heap_alloc_new w.drew _,.inl (gX _),by rw[hll];exact hge,hcm,?_,?_⟩,⟨rfl,rfl,rfl,by simp,fun k hk _=>by first|exact Go.heap_alloc_old w.drew _ k hk|exact heap_alloc_old w.drew _ hk⟩⟩
  ·simp only[nS,gK,size_zeroCells,hz1,Dv]
   omega
  ·simp only[Array.toList_append,dS]
   rw[<-dS,<-YG,<-Dv (l++m)];exact kX
 have grow:∀(base:Option Addr) (cap:Nat),v=.slice base l.length cap->cap<l.length+m.length->(gu 1 l.length v).run P w.drew=.ok (bytesV l).toArray w.drew->
   (eF #[t,u] ty #[v,x]).run P w=.ok (.slice (ay ⟨w.heap.size,0,aK⟩) (l.length+m.length) (grownCap w (l.length+m.length) cap e))
    (w.drew.alloc (.cells ((bytesV l).toArray++(bytesV m).toArray++jd (iQ .u8 0).cells (grownCap w (l.length+m.length) cap e - (l.length+m.length))) e)):=fun base cap hv hg hfo=>by
  subst hv;have hn:¬(l.length+m.length<=cap):=by omega
  have h63':¬(9223372036854775807<((l.length:Int)+(m.length:Int))):=by omega
  have h48':¬(281474976710656<Builtin.nextslicecap (l.length+m.length) cap):=by
   have:=growslice_fits (old:=cap) (need:=l.length+m.length) (by omega) hbytes;omega
  have hf:=hx.cells w.drew rfl;have hl:=hx.len w;rcases hx.ty with hu|⟨d,hu⟩
  ·simp[eF,run_underlying ht,run_underlying hu,sizeOf,typeInfo,zeroValue,hi,hz,hsize,hl,hn,h48',hby,rZ,hf,hfo,newRow,grownCap]
   congr 2;apply yM;simp[dS]
  ·simp[eF,run_underlying ht,run_underlying hu,sizeOf,typeInfo,zeroValue,hi,hz,hsize,hl,hn,h48',hby,rZ,hf,hfo,newRow,grownCap]
   congr 2;apply yM;simp[dS]
 rcases hown with ⟨rfl,rfl⟩ |⟨g,cap,cur,fz,rfl,hg,hfz,hnc,hcm,hcs,htake⟩
 ·by_cases hm:m.length=0
  ·have hm0:m=[]:=jV hm
   subst hm0;have hl:=hx.len w;have hf:=hx.cells w rfl;refine ⟨.slice aK 0 0,w,?_,.inl ⟨rfl,rfl⟩,⟨rfl,rfl,rfl,dh _,fun _ _ _=>rfl⟩,fun b hb=>.inl hb⟩;simp only[pX] at hl hf;rcases hx.ty with hu|⟨d,hu⟩
   ·simp[eF,run_underlying ht,run_underlying hu,sizeOf,typeInfo,hi,hsize,hl,hf]
   ·simp[eF,run_underlying ht,run_underlying hu,sizeOf,typeInfo,hi,hsize,hl,hf]
  ·have hr:=grow aK 0 rfl (by simp;omega) (by simp[gu,bytesV])
   have hgr:=grown 0 (Ah (.slice aK 0 0));exact ⟨_,_,hr,hgr.1,hgr.2,fun b hb=>.inr (by simp[Ah] at hb;omega)⟩
 ·by_cases hroom:l.length+m.length<=cap
  ·have hl:=hx.len w
   have hf:=hx.cells w rfl;have hst:=JK P g l.length e fz (bytesV m) 0 cur w hg (fun j h1 h2=>by omega) (by rw[Dv];omega) (afI m);simp only[jv,Dv] at hst;have hr:(eF #[t,u] ty #[.slice (ay ⟨g,0,aK⟩) l.length cap,x]).run P w=.ok (.slice (ay ⟨g,0,aK⟩) (l.length+m.length) cap) (w.setRow g (cur.toList.take l.length++bytesV m++cur.toList.drop (l.length+m.length)).toArray):=by
    rcases hx.ty with hu|⟨d,hu⟩
    ·simp[eF,run_underlying ht,run_underlying hu,sizeOf,typeInfo,hi,hsize,hl,hroom,hf,eX,hst]
    ·simp[eF,run_underlying ht,run_underlying hu,sizeOf,typeInfo,hi,hsize,hl,hroom,hf,eX,hst]
   refine ⟨_,_,hr,.inr ⟨g,cap,_,fz,by rw[hll],setRow_heap w g cur _ e _ hg,by rw[hll];omega,by rw[hll];exact hroom,hcm,?_,?_⟩,⟨rfl,rfl,rfl,by simp,fun k _ hk=>setRow_other w g k _ (fun e=>hk (by simp[Ah,e]))⟩,fun b hb=>.inl hb⟩
   ·simp only[gK,bf,bZ,dQ,bU,Dv]
    omega
   ·rw[htake,<-YG,<-Dv (l++m)]
    exact kX
  ·have hfo:(gu 1 l.length (.slice (ay ⟨g,0,aK⟩) l.length cap)).run P w.drew=.ok (bytesV l).toArray w.drew:=by
    refine run_firstCells_some (P:=P) w.drew 1 l.length ⟨g,0,aK⟩ l.length cap (bytesV l) (by rw[Dv];omega) fun j u hj=>?_
    have hadd:(⟨g,0,aK⟩:Addr).add j=⟨g,j,aK⟩:=by unfold mW;split<;>simp_all
    show w.cell? _=_;rw[hadd,cell_of_row w g j cur e fz hg];rw[<-htake,bY] at hj;split at hj
    ·simpa using hj
    ·cases hj
   have hr:=grow (ay ⟨g,0,aK⟩) cap rfl (by omega) hfo;have hgr:=grown cap (Ah (.slice (ay ⟨g,0,aK⟩) l.length cap));exact ⟨_,_,hr,hgr.1,hgr.2,fun b hb=>.inr (by simp[Ah] at hb;omega)⟩
theorem ak2{u:TypeId}(hu:P.underlying u=ay .string)(m:List UInt8):ajT P w u (.string ⟨m.toArray⟩) m:=by
 refine ⟨.inl hu,fun w'=>?_,fun w' _=>?_⟩
 ·simp[kP,nH]
 ·have:=run_firstCells_string (P:=P) w' 1 ⟨m.toArray⟩
  have e:(⟨m.toArray⟩:ByteArray).size=m.length:=by simp[nH]
  rw[e] at this;rw[this];simp[strCells,bytesV]
theorem ak3{u e' e:TypeId}(hu:P.underlying u=ay (.slice e')){x:Value}{m:List UInt8}(hx:Gn w e x m):ajT P w u x m:=by
 refine ⟨.inr ⟨e',hu⟩,fun w'=>?_,fun w' hw=>?_⟩
 ·rcases hx with ⟨rfl,rfl⟩ |⟨g,cap,cur,fz,rfl,_⟩<;>simp[kP]
 ·rcases hx with ⟨rfl,rfl⟩ |⟨g,cap,cur,fz,rfl,hg,hfz,hnc,hcm,hcs,htake⟩
  ·simp[gu,bytesV]
  ·refine run_firstCells_some (P:=P) w' 1 m.length ⟨g,0,aK⟩ m.length cap (bytesV m) (by rw[Dv];omega) fun j u hj=>?_
   have hadd:(⟨g,0,aK⟩:Addr).add j=⟨g,j,aK⟩:=by unfold mW;split<;>simp_all
   rw[hadd,cell_of_row w' g j cur e fz (by rw[hw];exact hg)];rw[<-htake,bY] at hj;split at hj
   ·simpa using hj
   ·cases hj
theorem ael{e n:Nat}{v:Value}{xs:List Value}{l:List UInt8}(h:w.ownsRow 0 e 1 v n xs)(hx:xs=bytesV l):Gn w e v l:=by
 have hn:n=l.length:=by have:=h.1;rw[hx,Dv] at this;omega
 subst hn;rcases h.2 with ⟨rfl,h0⟩ |⟨g,cap,cur,rfl,_,hg,hnc,hcm,hcs,htake⟩
 ·exact .inl ⟨rfl,jV h0⟩
 ·exact .inr ⟨g,cap,cur,(0,0),rfl,hg,.inl (gX _),hnc,hcm,by omega,by rw[<-hx,<-htake];simp⟩
theorem ak4{src dst e:TypeId}(hs:P.underlying src=ay (.slice e))(he:P.underlying e=ay (.int .u8))(hd:P.underlying dst=ay .string){v:Value}{l:List UInt8}(h:Gn w e v l):
  ∀w':World,(∀b,Ah v=ay b->w'.heap[b]?=w.heap[b]?)->(convert src dst v).run P w'=.ok (.string ⟨l.toArray⟩) w':=fun w' hk=>by
 rcases h with ⟨rfl,rfl⟩ |⟨g,cap,cur,fz,rfl,hg,hfz,hnc,hcm,hcs,htake⟩
 ·rw[run_convert_bytes_string w' src dst e aK 0 0 hs he hd]
  rfl
 ·rw[run_convert_bytes_string w' src dst e _ _ _ hs he hd]
  have hg':w'.heap[g]?=ay (.cells cur e fz):=by rw[hk g rfl];exact hg
  have hl:(loadCells ⟨g,0,aK⟩ l.length).run P w'=.ok ((l.map fun b=>(b.toNat:Int)).map (iQ .u8)).toArray w':=by
   have:=run_loadCells_list (P:=P) (w:=w') ⟨g,0,aK⟩ (bytesV l) fun j u hj=>by
    have hadd:(⟨g,0,aK⟩:Addr).add j=⟨g,j,aK⟩:=by unfold mW;split<;>simp_all
    rw[hadd,cell_of_row w' g j cur e fz hg'];rw[<-htake,bY] at hj;split at hj
    ·simpa using hj
    ·cases hj
   rw[Dv] at this;rw[this];simp[bytesV,Function.comp_def]
  rw[run_bytesToString w' _ _ _ _ hl];have key:∀(l:List UInt8) (s:ByteArray),(l.map fun b=>(b.toNat:Int)).foldl (fun r n=>r.push (jZ n.toNat)) s=⟨s.data++l.toArray⟩:=by
   intro l;induction l with
   |nil=>intro s;simp |cons a l ih=>
    intro s;rw[List.map_cons,List.foldl_cons,ih];congr 1;simp[ByteArray.push]
  rw[key];congr 3;simp[ByteArray.empty,ByteArray.emptyWithCapacity];first|done|rfl
theorem afK{src dst e:TypeId}(hs:P.underlying src=ay .string)(hd:P.underlying dst=ay (.slice e))(he:P.underlying e=ay (.int .u8))(l:List UInt8)(hmax:l.length<=maxLen):
  ∃v' w',(convert src dst (.string ⟨l.toArray⟩)).run P w=.ok v' w'/\Gn w' e v' l/\w.grownBy w' aK/\∀b,Ah v'=ay b->w.heap.size<=b:=by
 have hr:=Lib.run_convert_string_bytes (P:=P) w src dst e ⟨l.toArray⟩ hs hd he;have es:(⟨l.toArray⟩:ByteArray).size=l.length:=by simp[nH]
 have hge:=grownCap_ge w l.length 0 e;have hcm:grownCap w l.length 0 e<=maxLen:=grownCap_le_maxLen w l.length 0 e hmax;have hcz:(bytesCells w e ⟨l.toArray⟩).size=grownCap w l.length 0 e:=by
  simp only[bytesCells,nS,Array.size_map,Array.size_replicate,es];have:l.toArray.size=l.length:=by simp
  omega
 refine ⟨_,_,hr,.inr ⟨w.heap.size,_,_,_,by rw[es],bytesWorld_at_new w e _,.inr (by rw[hcz];exact dh _),hge,hcm,hcz,?_⟩,⟨rfl,rfl,rfl,by rw[bytesWorld_size];omega,fun k hk _=>bytesWorld_at_old w e _ k hk⟩,fun b hb=>by simp[Ah] at hb;omega⟩;have:(bytesCells w e ⟨l.toArray⟩).toList=bytesV l++List.replicate (grownCap w l.length 0 e - l.length) (.int .u8 0):=by
  simp[bytesCells,bytesV,es]
 rw[this,<-Dv l];exact kX
end
section
variable{P:Program}{C:Ctx}{K:Kx}{H H':Mem}{E E':Env}{w w':World}
def Src(w:World)(u:Value)(m:Nat)(xs:List Value):Prop:=
 (m=0/\∃A c,u=.slice A 0 c)\/(∃a c,u=.slice (ay a) m c/\∀j v,xs[j]?=ay v->w.cell? (a.add j)=ay v)
theorem VP{e st m:Nat}{u:Value}{xs:List Value}(h:w.ownsRow 0 e st u m xs):Src w u m xs:=by
 rcases h.2 with ⟨rfl,rfl⟩ |⟨g,cap,cur,rfl,_⟩
 ·exact .inl ⟨rfl,_,_,rfl⟩
 ·exact .inr ⟨_,_,rfl,h.cells (g:=g) rfl⟩
theorem afL{st n:Nat}{g:Nat->List Sh}{u:Value}(h0:0<st)(h:Rep H (.sl st n g) u)(hon:H.on w):∃xs,BN H st n g xs/\Src w u n xs:=by
 cases h with
 |sl0 _ _ A cap hc=>exact ⟨[],⟨by simp,fun _ h=>by omega,fun _ h=>by simp at h,fun _ _ _ _ h=>by omega⟩,.inl ⟨rfl,_,_,rfl⟩⟩ |sl _ _ _ b off cap c h1 h2 h3 h4 h5 h6=>
  have hk:∀k,k<n*st->k / st<n/\k % st<st/\k / st*st+k % st=k:=fun k hk=>⟨(Nat.div_lt_iff_lt_mul h0).2 hk,zl _ h0,by rw[lM];exact Nat.div_add_mod _ _⟩;have hget:∀(k:Nat) (v:Value),((aX (n*st)).map fun k=>c (k / st) (k % st))[k]?=ay v->k<n*st/\v=c (k / st) (k % st):=fun k v e=>by
   have e:=range_map_get e;exact ⟨e.1,e.2.symm⟩
  refine ⟨(aX (n*st)).map fun k=>c (k / st) (k % st),⟨by simp,h3,fun u hu=>?_,fun i j s v hi e1 e2=>?_⟩,.inr ⟨_,_,rfl,fun j v e=>?_⟩⟩
  ·obtain ⟨k,hk'⟩:=dB.1 hu
   obtain ⟨a1,rfl⟩:=hget _ _ hk';exact h5 _ _ (hk k a1).1 (hk k a1).2.1
  ·obtain ⟨_,rfl⟩:=hget _ _ e2
   have hj:j<st:=by rw[<-h3 i hi];exact (aU.1 e1).1
   have d1:(i*st+j) / st=i:=by rw[lM,Nat.mul_add_div h0,Nat.div_eq_of_lt hj,jv]
   have d2:(i*st+j) % st=j:=by rw[lM,wE,iC hj]
   rw[d1,d2];exact h6 i j s hi e1
  ·obtain ⟨a1,rfl⟩:=hget _ _ e
   obtain ⟨b1,b2,b3⟩:=hk j a1;have:=LW hon (h4 _ _ b1 b2);rw[jR,b3] at this;simpa[eX] using this
theorem JV(st:Nat)(g:Nat->List Sh):BN H st 0 g []:=⟨by simp,fun _ h=>by omega,fun _ h=>by simp at h,fun _ _ _ _ h=>by omega⟩
theorem ah8{st m n:Nat}{g:Nat->List Sh}{xs:List Value}(h:BN H st m g xs)(hn:n<=m):BN H st n g (xs.take (n*st)):=by
 obtain ⟨h1,h2,h3,h4⟩:=h;have hle:n*st<=m*st:=dP _ hn;refine ⟨by rw[bZ,h1];omega,fun i hi=>h2 i (by omega),fun u hu=>h3 u (List.mem_of_mem_take hu),fun i j s v hi e1 e2=>?_⟩;rw[bY] at e2;split at e2
 ·exact h4 i j s v (by omega) e1 e2
 ·cases e2
theorem ak5{e st m n:Nat}{A:Option Addr}{k c:Nat}{xs:List Value}(h:w.ownsRow 0 e st (.slice A k c) m xs)(hn:n<=k):Src w (.slice A n c) n (xs.take (n*st)):=by
 rcases VP h with ⟨rfl,A',c',e⟩ |⟨a,c',e,hc⟩
 ·cases e
  have:n=0:=by omega
  subst this;exact .inl ⟨rfl,_,_,rfl⟩
 ·cases e
  refine .inr ⟨_,_,rfl,fun j v hj=>hc j v ?_⟩;rw[bY] at hj;split at hj
  ·exact hj
  ·cases hj
theorem amR{hp:List (Nat×SB)}{st m:Nat}{h:Nat->List Sh}{x:SV}{u:Value}(h0:0<st)(hh:Ai K H E w hp)(hon:H.on w)(he:MI hp st x=ay (m,h))(hd:Den H E x u):
  ∃xs,BN H st m h xs/\Src w u m xs:=by
 unfold MI at he;split at he
 ·cases he
  simp only[Den] at hd;subst hd;exact ⟨[],JV _ _,.inl ⟨rfl,_,_,rfl⟩⟩
 ·rename_i id
  split at he
  ·rename_i cells el st' n hl
   cases hb:(st==st'&&E8 cells)<;>simp only[hb,cond_true,cond_false] at he
   ·cases he
   simp only[aH,beq_iff_eq] at hb;obtain ⟨rfl,hone⟩:=hb;simp only[bV] at he;obtain ⟨l,h1,h2⟩:=he;simp only[jO] at h2;obtain ⟨rfl,rfl⟩:=h2;obtain ⟨v,xs,e1,e2,e3,_⟩:=hh.ent _ _ hl;rw[hd.1] at e1;cases e1;exact ⟨xs,Jr e2.1 (Eb hh h1 e3) (ES hone e3),VP e2⟩
  ·rename_i el st' n g hl
   cases hb:(st==st')<;>simp only[hb,cond_true,cond_false] at he
   ·cases he
   obtain rfl:st=st':=by simpa using hb
   cases he;obtain ⟨v,xs,e1,e2,e3,_⟩:=hh.ent _ _ hl;rw[hd.1] at e1;cases e1;exact ⟨xs,e3,VP e2⟩
  ·rename_i st' n g hl
   cases hb:(st==st')<;>simp only[hb,cond_true,cond_false] at he
   ·cases he
   obtain rfl:st=st':=by simpa using hb
   cases he;obtain ⟨v,e1,e2⟩:=hh.ent _ _ hl;rw[hd.1] at e1;cases e1;exact afL h0 e2 hon
  ·cases he
 ·rename_i st' n g
  cases hb:(st==st')<;>simp only[hb,cond_true,cond_false] at he
  ·cases hb2:(st'==0&&n==0)<;>simp only[hb2,cond_true,cond_false] at he
   ·cases he
   simp only[aH,beq_iff_eq] at hb2;obtain ⟨rfl,rfl⟩:=hb2;cases he;cases hd with
   |sl0 _ _ A cap hc=>exact ⟨[],JV _ _,.inl ⟨rfl,_,_,rfl⟩⟩ |sl _ _ _ b off cap c h1 h2 h3 h4 h5 h6=>exact ⟨[],JV _ _,.inl ⟨rfl,_,_,rfl⟩⟩
  ·obtain rfl:st=st':=by simpa using hb
   cases he;exact afL h0 hd hon
 ·rename_i id n
  split at he
  ·rename_i el st' m' g hl
   cases hb:(st==st')<;>simp only[hb,cond_true,cond_false] at he
   ·cases he
   obtain rfl:st=st':=by simpa using hb
   cases he;obtain ⟨v,xs,e1,e2,e3,_⟩:=hh.ent _ _ hl;obtain ⟨A,k,c,a1,a2,rfl⟩:=hd;rw[a1] at e1;cases e1;have hk:k=m':=by
    have:=LY e2;simpa[lenV] using this
   exact ⟨_,ah8 e3 (by omega),ak5 e2 a2⟩
  ·cases he
 ·cases he
theorem aaj{st n m:Nat}{g h:Nat->List Sh}{xs ys:List Value}(h1:BN H st n g xs)(h2:BN H st m h ys):BN H st (n+m) (zV.snoc g n h) (xs++ys):=by
 obtain ⟨a1,a2,a3,a4⟩:=h1;obtain ⟨b1,b2,b3,b4⟩:=h2;have hs:∀i,zV.snoc g n h i=if i<n then g i else h (i - n):=fun _=>rfl
 refine ⟨by rw[bf,a1,b1,gq],fun i hi=>?_,fun u hu=>?_,fun i j s v hi e1 e2=>?_⟩
 ·rw[hs]
  split
  ·exact a2 i (by assumption)
  ·exact b2 _ (by omega)
 ·rcases bK.1 hu with hu|hu
  ·exact a3 u hu
  ·exact b3 u hu
 ·rw[hs] at e1
  split at e1
  ·rename_i hin
   have hj:j<st:=by rw[<-a2 i hin];exact (aU.1 e1).1
   have:i*st+j<xs.length:=by
    rw[a1];calc i*st+j<i*st+st:=by omega
     _=(i+1)*st:=by rw[gq,iF]
     _<=n*st:=dP _ hin
   rw[dI this] at e2;exact a4 i j s v hin e1 e2
  ·rename_i hin
   have hge:n*st<=i*st:=dP _ (by omega);rw[fC (by rw[a1];omega)] at e2;have:i*st+j - xs.length=(i - n)*st+j:=by rw[a1,Nat.sub_mul];omega
   rw[this] at e2;exact b4 (i - n) j s v (by omega) e1 e2
theorem Js{c:Core}{s:SV}{v v':Value}{sb:SB}{φ:SV×Core->Prop}(hh:Ai K H E w c.hp)(hw:DX K H w)(hf:Free E c)
  (h:(alloc (Ci c s) sb (.gs c.nx)).All φ) (hs:(Py s=aK/\Ah v=aK)\/∃id sb0,Py s=ay id/\zX c.hp id=ay sb0/\E id=ay v/\AL E id sb0=Ah v)
  (hm:∀b,Ah v=ay b->Mine K H b) (hg:w.grownBy w' (Ah v)) (hv':∀b,Ah v'=ay b->Ah v=ay b\/w.heap.size<=b)
  (he:c.nx<c.lim->Gg K H (E.set c.nx v') w' c.nx sb):∃c',φ (.gs c.nx,c')/\Post K H E w c H (E.set c.nx v') w' c':=by
 have hnx:(Ci c s).nx=c.nx:=by unfold Ci;split<;>rfl
 have hlim:(Ci c s).lim=c.lim:=by unfold Ci;split<;>rfl
 have htm:(Ci c s).tm=c.tm:=by unfold Ci;split<;>rfl
 have htc:∀id∈c.tc,id∈(Ci c s).tc:=by
  unfold Ci;split
  ·exact fun _ h=>dw _ h
  ·exact fun _ h=>h
 have hlt:=Xt h;rw[hnx,hlim] at hlt;have he:=he hlt;have hnone:=hf c.nx (dh _) hlt;have hle:E.le (E.set c.nx v'):=nI hnone;have hb:fV (Ci c s).nx (Ci c s).lim=aC:=by
  rw[hnx,hlim];unfold fV;exact Nat.ble_eq_true_of_le hlt
 unfold alloc at h;rw[hb] at h;simp only[cond_true] at h;have hvb:∀b,Ah v=ay b->b<w.heap.size/\∃id sb0,Py s=ay id/\zX c.hp id=ay sb0/\E id=ay v/\AL E id sb0=ay b/\id∈(Ci c s).tc:=fun b hb=>by
  rcases hs with ⟨_,h2⟩ |⟨id,sb0,h1,h2,h3,h4⟩
  ·rw[hb] at h2;cases h2
  ·exact ⟨((hh.ent _ _ h2).lt (h4.trans hb)).1,id,sb0,h1,h2,h3,h4.trans hb,by simp[Ci,h1]⟩
 have hold:∀id2 VL,zX (Ci c s).hp id2=ay VL->zX c.hp id2=ay VL/\∀b,AL E id2 VL=ay b->Ah v≠ay b:=by
  intro id2 VL hl;have key:zX c.hp id2=ay VL/\Py s≠ay id2:=by
   unfold Ci at hl;split at hl
   ·rename_i id hid
    simp only[Ut] at hl;cases e:(id==id2)<;>simp only[e,cond_true,cond_false] at hl
    ·refine ⟨hl,fun e2=>?_⟩
     rw[hid] at e2;cases e2;simp at e
    ·cases hl
   ·rename_i hid
    exact ⟨hl,fun e2=>by rw[hid] at e2;cases e2⟩
  refine ⟨key.1,fun b ho e=>?_⟩;obtain ⟨_,id,sb0,h1,h2,h3,h4,_⟩:=hvb b e;have:=hh.FQ _ _ _ _ _ h2 key.1 h4 ho;subst this;exact key.2 h1
 have hkeep:∀b,b<w.heap.size->Ah v≠ay b->w'.heap[b]?=w.heap[b]?:=fun b hb hn=>hg.block b hb fun e=>hn e.symm
 refine ⟨_,h,fun _ _ e=>e,hle,?_,by simp[hnx],.inl (by simp[hnx];omega),hlim,htm,?_,?_,htc,hg.size,?_,?_,?_,?_,?_⟩
 ·intro i h1 h2
  by_cases e:i=c.nx
  ·subst e;simp[hnx]
  ·simp[nT,e,h1] at h2
 ·have hent:∀id sb',zX (Ci c s).hp id=ay sb'->Gg K H (E.set c.nx v') w' id sb'/\Gg K H E w id sb'/\∀b,AL E id sb'=ay b->Ah v≠ay b:=fun id sb' hl=>by
   obtain ⟨h1,h2⟩:=hold id sb' hl;have:=hh.ent _ _ h1;exact ⟨this.kept (fun _ _ e=>e) hle (fun b hb=>hkeep b (this.lt hb).1 (h2 b hb)) (fun b hb=>(this.lt hb).2.1),this,h2⟩
  have hnew:∀b,AL (E.set c.nx v') c.nx sb=ay b->Ah v'=ay b:=fun b hb=>by
   have:=Gh hb;simpa[bk,nT] using this
  refine ⟨fun id sb' hl=>?_,fun id id' sb1 VL b h1 h2 o1 o2=>?_⟩
  ·simp only[EC,hnx] at hl
   cases hid:(c.nx==id)<;>simp only[hid,cond_true,cond_false] at hl
   ·exact (hent id sb' hl).1
   ·cases hl
    obtain rfl:c.nx=id:=by simpa using hid
    exact he
  ·simp only[EC,hnx] at h1 h2
   have cross:∀{i:Nat} {s1:SB},zX (Ci c s).hp i=ay s1->AL (E.set c.nx v') i s1=ay b->Ah v'=ay b->False:=fun {i s1} h1 o1 au3=>by
    obtain ⟨_,a2,a3⟩:=hent _ _ h1;rw[Gi a2 hle] at o1;rcases hv' b au3 with h|h
    ·exact a3 b o1 h
    ·have:=(a2.lt o1).1;omega
   cases hid:(c.nx==id)<;>cases TS:(c.nx==id')<;>simp only[hid,TS,cond_true,cond_false] at h1 h2
   ·obtain ⟨_,a2,_⟩:=hent _ _ h1
    obtain ⟨_,b2,_⟩:=hent _ _ h2;rw[Gi a2 hle] at o1;rw[Gi b2 hle] at o2;exact hh.FQ _ _ _ _ _ (hold _ _ h1).1 (hold _ _ h2).1 o1 o2
   ·obtain rfl:c.nx=id':=by simpa using TS
    cases h2;exact (cross h1 o1 (hnew b o2)).elim
   ·obtain rfl:c.nx=id:=by simpa using hid
    cases h1;exact (cross h2 o2 (hnew b o1)).elim
   ·have e1:c.nx=id:=by simpa using hid
    have e2:c.nx=id':=by simpa using TS
    rw[<-e1,<-e2]
 ·refine ⟨hg.os.trans hw.os,hg.tape.trans hw.tape,hg.output.trans hw.output,Nat.le_trans hw.size hg.size,fun b hb hn=>?_,fun b o hb=>?_,hw.le,hw.fresh⟩
  ·rw[hkeep b (by have:=hw.size;omega) fun e=>?_]
   ·exact hw.kept b hb hn
   ·rcases (hm b e).2 with h|h
    ·omega
    ·exact hn h
  ·have h1:=hw.on b o hb
   rw[hkeep b (bG.1 h1).1 fun e=>?_]
   ·exact h1
   ·have:=(hm b e).1
    rw[hb] at this;cases this
 ·intro b hb hne
  refine hkeep b hb fun e=>?_
  obtain ⟨_,id,sb0,h1,h2,h3,h4,h5⟩:=hvb b e;exact hne id h5 (Gh h4)
 ·intro i b h1 h2
  by_cases e:i=c.nx
  ·subst e
   simp[bk,nT] at h2;rcases hv' b h2 with h|h
   ·obtain ⟨_,id,sb0,h1,h2,h3,h4,h5⟩:=hvb b h
    exact .inr ⟨id,h5,Gh h4⟩
   ·exact .inl h
  ·simp[bk,nT,e,h1] at h2
 ·intro i hi
  have hi:i∈(Ci c s).tc:=hi;unfold Ci at hi;split at hi
  ·rename_i id hid
   cases hi with
   |head=>
    rcases hs with ⟨h1,_⟩ |⟨id',sb0,h1,h2,h3,h4⟩
    ·rw[hid] at h1;cases h1
    ·rw[hid] at h1;cases h1
     exact .inr (.inr ⟨sb0,h2,by rw[h4];simp[bk,h3]⟩)
   |tail _ hi=>exact .inl hi
  ·exact .inl hi
 ·intro i s0 b0 h1 h2 h3
  refine .inr ⟨s0,?_,ZF h3 hle⟩;have h2:i ∉ (Ci c s).tc:=h2;have hd:zX (Ci c s).hp i=ay s0:=by
   unfold Ci at h2 ⊢;split at h2
   ·rename_i id hid
    simp only[Ut];cases e:(id==i)<;>simp only[cond_true,cond_false]
    ·exact h1
    ·obtain rfl:id=i:=by simpa using e
     exact (h2 (cu ..)).elim
   ·exact h1
  simp only[EC,hnx];cases hid:(c.nx==i)<;>simp only[cond_true,cond_false]
  ·exact hd
  ·obtain rfl:c.nx=i:=by simpa using hid
   obtain ⟨u,hu⟩:=(hh.ent _ _ h1).some_;rw[hnone] at hu;cases hu
 ·intro i s0 h1 hne
  simp only[EC,hnx] at h1;cases hid:(c.nx==i)<;>simp only[hid,cond_true,cond_false] at h1
  ·have:=(hold _ _ h1).1
   exact ⟨s0,this,fun b h=>by rw[Gi (hh.ent _ _ this) hle] at h;exact h⟩
  ·obtain rfl:c.nx=i:=by simpa using hid
   exact (hne hnone).elim
theorem OI(w:World)(e st:Nat):w.ownsRow 0 e st (.slice aK 0 0) 0 []:=⟨by simp,.inl ⟨rfl,rfl⟩⟩
theorem Xu{c:Core}{e st:Nat}{s:SV}{v:Value}(hh:Ai K H E w c.hp)(h:MJ c.hp e s=aC)(hd:Den H E s v):
  ((Py s=aK/\Ah v=aK)\/∃id sb0,Py s=ay id/\zX c.hp id=ay sb0/\E id=ay v/\AL E id sb0=Ah v)/\(∀b,Ah v=ay b->Mine K H b)/\
  (∀a n,rowOf c.hp st s=ay (a,n)->∃xs,w.ownsRow 0 e st v n xs/\Af H E a xs)/\
  (∀n g,MI c.hp st s=ay (n,g)->∃xs,w.ownsRow 0 e st v n xs/\BN H st n g xs)/\
  (∀n g more,xOf c.hp e st s=ay (n,g,more)->∃xs ys,w.ownsRow 0 e st v (n+more.length / st) (xs++ys)/\BN H st n g xs/\Af H E more ys/\more.length % st=0/\E8 more=aC):=by
 unfold MJ at h;split at h
 ·simp only[Den] at hd;subst hd
  refine ⟨.inl ⟨rfl,rfl⟩,fun b hb=>by simp[Ah] at hb,fun a n hr=>?_,fun n g hr=>?_,fun n g more hr=>by simp[xOf] at hr⟩
  ·simp[rowOf] at hr
   obtain ⟨rfl,rfl⟩:=hr;exact ⟨[],OI _ _ _,trivial⟩
  ·simp[MI] at hr
   obtain ⟨rfl,rfl⟩:=hr;exact ⟨[],OI _ _ _,JV _ _⟩
 ·rename_i id
  split at h
  ·rename_i cells e' st' n hl
   obtain rfl:e=e':=by simpa using h
   obtain ⟨v2,xs,e1,e2,e3,e4⟩:=hh.ent _ _ hl;rw[hd.1] at e1;cases e1;refine ⟨.inr ⟨id,_,rfl,hl,hd.1,by simp[AL,hd.1]⟩,e4,fun a n2 hr=>?_,fun n2 g hr=>?_,fun n2 g more hr=>by simp[xOf,hl] at hr⟩
   ·simp only[rowOf,hl] at hr
    cases hb:(st==st')<;>simp only[hb,cond_true,cond_false] at hr
    ·cases hr
    obtain rfl:st=st':=by simpa using hb
    cases hr;exact ⟨xs,e2,e3⟩
   ·simp only[MI,hl] at hr
    cases hb:(st==st'&&E8 cells)<;>simp only[hb,cond_true,cond_false] at hr
    ·cases hr
    simp only[aH,beq_iff_eq] at hb;obtain ⟨rfl,hone⟩:=hb;simp only[bV] at hr;obtain ⟨l,h1,h2⟩:=hr;simp only[jO] at h2;obtain ⟨rfl,rfl⟩:=h2;exact ⟨xs,e2,Jr e2.1 (Eb hh h1 e3) (ES hone e3)⟩
  ·rename_i e' st' n g hl
   obtain rfl:e=e':=by simpa using h
   obtain ⟨v2,xs,e1,e2,e3,e4⟩:=hh.ent _ _ hl;rw[hd.1] at e1;cases e1;refine ⟨.inr ⟨id,_,rfl,hl,hd.1,by simp[AL,hd.1]⟩,e4,fun a n2 hr=>?_,fun n2 g2 hr=>?_,fun n2 g2 more hr=>?_⟩
   ·simp[rowOf,hl] at hr
   ·simp only[MI,hl] at hr
    cases hb:(st==st')<;>simp only[hb,cond_true,cond_false] at hr
    ·cases hr
    obtain rfl:st=st':=by simpa using hb
    cases hr;exact ⟨xs,e2,e3⟩
   ·simp only[xOf,hl] at hr
    cases hb:(e==e&&st==st')<;>simp only[hb,cond_true,cond_false] at hr
    ·cases hr
    simp only[aH,beq_iff_eq] at hb;obtain ⟨_,rfl⟩:=hb;cases hr;exact ⟨xs,[],by simpa using e2,e3,trivial,by simp,rfl⟩
  ·rename_i e' st' n g more hl
   obtain rfl:e=e':=by simpa using h
   obtain ⟨v2,xs,ys,e1,e2,e3,e4,e5,e6,e7⟩:=hh.ent _ _ hl;rw[hd.1] at e1;cases e1;refine ⟨.inr ⟨id,_,rfl,hl,hd.1,by simp[AL,hd.1]⟩,e7,fun a n2 hr=>by simp[rowOf,hl] at hr,fun n2 g2 hr=>by simp[MI,hl] at hr,fun n2 g2 more2 hr=>?_⟩;simp only[xOf,hl] at hr;cases hb:(e==e&&st==st')<;>simp only[hb,cond_true,cond_false] at hr
   ·cases hr
   simp only[aH,beq_iff_eq] at hb;obtain ⟨_,rfl⟩:=hb;cases hr;exact ⟨xs,ys,e2,e3,e4,e5,e6⟩
  ·rename_i e' l hl
   obtain rfl:e=e':=by simpa using h
   obtain ⟨v2,e1,e2,e4⟩:=hh.ent _ _ hl;rw[hd.1] at e1;cases e1;exact ⟨.inr ⟨id,_,rfl,hl,hd.1,by simp[AL,hd.1]⟩,e4,fun a n2 hr=>by simp[rowOf,hl] at hr,fun n2 g2 hr=>by simp[MI,hl] at hr,fun n2 g2 more2 hr=>by simp[xOf,hl] at hr⟩
  ·cases h
 ·cases h
theorem aak{hp:List (Nat×SB)}{st m:Nat}{b:List SV}{x:SV}{u:Value}(hh:Ai K H E w hp)(he:rowOf hp st x=ay (b,m))(hd:Den H E x u):
  ∃xs,xs.length=m*st/\Af H E b xs/\Src w u m xs:=by
 unfold rowOf at he;split at he
 ·cases he
  simp only[Den] at hd;subst hd;exact ⟨[],by simp,trivial,.inl ⟨rfl,_,_,rfl⟩⟩
 ·rename_i id
  split at he
  ·rename_i cells el st' n hl
   cases hb:(st==st')<;>simp only[hb,cond_true,cond_false] at he
   ·cases he
   obtain rfl:st=st':=by simpa using hb
   cases he;obtain ⟨v,xs,e1,e2,e3,_⟩:=hh.ent _ _ hl;rw[hd.1] at e1;cases e1;exact ⟨xs,e2.1,e3,VP e2⟩
  ·cases he
 ·cases he
theorem one_app:∀{l m:List SV},E8 l=aC->E8 m=aC->E8 (l++m)=aC
 |[],_,_,h=>h |x::l,m,h1,h2=>by
  simp only[E8,aH,List.cons_append] at h1 ⊢;exact ⟨h1.1,one_app h1.2 h2⟩
theorem Jf{e st n:Nat}{v:Value}{xs:List Value}(h:w.ownsRow 0 e st v n xs):∃A n c,v=.slice A n c:=by
 rcases h.2 with ⟨rfl,_⟩ |⟨g,cap,cur,rfl,_⟩
 ·exact ⟨_,_,_,rfl⟩
 ·exact ⟨_,_,_,rfl⟩
theorem afM(n m b:Nat)(h1:gV ((n+m)*b) 140737488355328=aC)(h2:gV (n+m) 1073741824=aC):n+m<=maxLen/\(n+m)*b<=140737488355328:=by
 have h1:=fM h1;have h2:=fM h2;have:maxLen=9223372036854775807:=rfl;exact ⟨by omega,h1⟩
theorem ak6{c:Core}{a:Act}{o:Oper}{t:Nat}{x y:Operand}{φ:SV×Core->Prop}(hC:A8 P C)(hd:Af H E c.tm a.tmps.toList)(hh:Ai K H E w c.hp)(hw:DX K H w)(hf:Free E c)
  (ho:o.op=.call {callee:=.builtin .append,args:=#[x,y],argTypes:=#[t,t]}) (h:(QO C c t (Bd c.tm x) (Bd c.tm y)).All φ):G7 P K H E w c a o φ:=by
 have dx:=AV (H:=H) (E:=E) hd x;have dy:=AV (H:=H) (E:=E) hd y;unfold QO at h;split at h
 ·rename_i i hi
  split at h
  ·rename_i e hty
   have hu:=Je (hC.ty _ _ hi) hty;split at h
   ·rename_i te hte
    obtain ⟨inf,z,h1,h2,h3,h4,h5,h6,_⟩:=(hC.ty _ _ hte).info;cases hb:(MJ c.hp e (Bd c.tm x) && !Nv (Bd c.tm x) (Bd c.tm y)&&fV 0 te.size)<;>simp only[hb,cond_true,cond_false] at h
    ·exact h.elim
    simp only[aH] at hb;have h0:=EO hb.2;obtain ⟨o1,o2,o3,o4,o5⟩:=Xu (st:=te.size) hh hb.1.1 dx;have fin:∀(n m:Nat) (xs news:List Value) (sb:SB),(alloc (Ci c (Bd c.tm x)) sb (.gs c.nx)).All φ->w.ownsRow 0 e te.size (a.eval x) n xs->Src w (a.eval y) m news->news.length=m*te.size->(∀u∈news,u.oneCell'=aC)->
      n+m<=maxLen->(n+m)*te.bytes<=140737488355328->
      (∀(v':Value) (w':World),w'.ownsRow 0 e te.size v' (n+m) (xs++news)->(∀b,Ah v'=ay b->Mine K H b)->c.nx<c.lim->Gg K H (E.set c.nx v') w' c.nx sb)->G7 P K H E w c a o φ:=by
     intro n m xs news sb h hown hsrc hl hone hmax hbytes hent;obtain ⟨v',w',hr,ho',hg,hv'⟩:=afC (P:=P) t o.type e inf z te.size te.bytes hu h1 h4 h2 h3 h6 h0 (a.eval x) n xs hown (a.eval y) m news hsrc hl hone hmax hbytes;have ER:∀b,Ah v'=ay b->Mine K H b:=fun b hb=>by
      rcases hv' b hb with h|h
      ·exact o2 b h
      ·refine ⟨?_,.inl (by have:=hw.size;omega)⟩
       cases hH:H b with
       |none=>rfl |some o=>have:=(bG.1 (hw.on b o hH)).1;omega
     obtain ⟨c',hφ,hp⟩:=Js hh hw hf h o1 o2 hg hv' (hent v' w' ho' ER);obtain ⟨A,n',cc,e3⟩:=Jf ho';refine ⟨_,v',_,H,_,w',hφ,⟨fA _ _ _,A,n',cc,e3⟩,hp,.inl rfl,?_⟩;simp only[execOp,ho,resolve];simp[invoke,builtin,hr]
    split at h
    ·rename_i aa n bb m hr1 hr2
     cases hb2:(E8 bb&&gV ((n+m)*te.bytes) 140737488355328&&gV (n+m) 1073741824)<;>simp only[hb2,cond_true,cond_false] at h
     ·exact h.elim
     simp only[aH] at hb2;obtain ⟨xs,p1,p2⟩:=o3 _ _ hr1;obtain ⟨ys,q1,q2,q3⟩:=aak hh hr2 dy;obtain ⟨r1,r2⟩:=afM n m te.bytes hb2.1.2 hb2.2;exact fin n m xs ys _ h p1 q3 q1 (ES hb2.1.1 q2) r1 r2 fun v' w' s1 s2 s3=>
      ⟨v',_,fA _ _ _,s1,(p2.append q2).le (fun _ _ e=>e) (nI (hf _ (dh _) s3)),s2⟩
    ·split at h
     ·rename_i n g m k hr1 hr2
      rw[hC.A] at h;obtain ⟨hroom,h⟩:=h;obtain ⟨r2,r1⟩:=Fa hroom;have ea:zV.addN n m=n+m:=rfl;rw[ea] at r1 r2 h;obtain ⟨xs,p1,p2⟩:=o4 _ _ hr1;obtain ⟨ys,q1,q2⟩:=amR h0 hh hw.on hr2 dy;exact fin n m xs ys _ h p1 q2 q1.1 q1.2.2.1 r1 r2 fun v' w' s1 s2 s3=>
       ⟨v',_,fA _ _ _,s1,aaj p2 q1,s2⟩
     ·split at h
      ·rename_i n g more bb m hr1 hr2
       cases hone:E8 bb<;>simp only[hone,cond_true,cond_false] at h
       ·exact h.elim
       rw[hC.A] at h;obtain ⟨hroom,h⟩:=h;obtain ⟨r2,r1⟩:=Fa hroom;obtain ⟨xs,zs,p1,p2,p3,p4,p5⟩:=o5 _ _ _ hr1;obtain ⟨ys,q1,q2,q3⟩:=aak hh hr2 dy;have hbl:bb.length=m*te.size:=by rw[<-q2.length,q1]
       have hdiv:(more++bb).length / te.size=more.length / te.size+m:=by
        rw[bf,hbl,Nat.add_mul_div_right _ _ h0]
       have hmod:(more++bb).length % te.size=0:=by
        rw[bf,hbl,Nat.add_mul_mod_self_right,p4]
       have ea:zV.addN n (Nat.div (more++bb).length te.size)=n+more.length / te.size+m:=by
        show n+(more++bb).length / te.size=_;rw[hdiv];omega
       rw[ea] at r1 r2;have hon:E8 (more++bb)=aC:=one_app p5 hone;exact fin (n+more.length / te.size) m (xs++zs) ys _ h p1 q3 q1 (ES hone q2) r1 r2 fun v' w' s1 s2 s3=>
        ⟨v',xs,zs++ys,fA _ _ _,by rw[hdiv,<-dS,<-jR];exact s1,p2,(p3.append q2).le (fun _ _ e=>e) (nI (hf _ (dh _) s3)),hmod,hon,s2⟩
      ·exact h.elim
   ·exact h.elim
  ·exact h.elim
 ·exact h.elim
theorem YH:∀{cells:List SV} {l:List UInt8} {xs:List Value},ZY cells=ay l->Af H E cells xs->xs=bytesV l
 |[],_,[],h,_=>by simp[ZY] at h;subst h;rfl |x::r,l,v::vs,h,⟨hd,hr⟩=>by
  unfold ZY at h;split at h
  ·rename_i e;cases e
  ·rename_i n r' e
   cases e;cases hb:(decide (0<=n)&&decide (n<256))<;>simp only[hb,cond_true,cond_false] at h
   ·cases h
   simp only[aH,decide_eq_true_eq] at hb;simp only[bV] at h;obtain ⟨m,hm,rfl⟩:=h;have ih:=YH hm hr;have hv:v=.int .u8 n:=hd;rw[ih,hv];show _=iQ .u8 ((jZ n.toNat).toNat:Int)::bytesV m;have:(jZ n.toNat).toNat=n.toNat:=by
    rw[UInt8.toNat_ofNat'];exact iC (by omega)
   rw[this,show ((n.toNat:Nat):Int)=n by omega]
  ·cases h
 |[],_,_::_,_,h=>h.elim |_::_,_,[],_,h=>h.elim
theorem Q7{hp:List (Nat×SB)}{e:Nat}{x:SV}{u:Value}{l:List UInt8}(hh:Ai K H E w hp)(h:QN hp e x=ay l)(hd:Den H E x u):Gn w e u l:=by
 unfold QN at h;split at h
 ·cases h
  have hd:u=_:=hd;exact .inl ⟨hd,rfl⟩
 ·rename_i id
  split at h
  ·rename_i e' l' hl
   cases hb:(e==e')<;>simp only[hb,cond_true,cond_false] at h
   ·cases h
   cases h;obtain rfl:e=e':=by simpa using hb
   obtain ⟨v,e1,e2,_⟩:=hh.ent _ _ hl;rw[hd.1] at e1;cases e1;exact e2
  ·rename_i cells e' st n hl
   cases hb:(e==e'&&st==1&&n==cells.length)<;>simp only[hb,cond_true,cond_false] at h
   ·cases h
   simp only[aH,beq_iff_eq] at hb;obtain ⟨⟨rfl,rfl⟩,rfl⟩:=hb;obtain ⟨v,xs,e1,e2,e3,_⟩:=hh.ent _ _ hl;rw[hd.1] at e1;cases e1;exact ael e2 (YH h e3)
  ·cases h
 ·cases h
theorem PO(hC:A8 P C){e:Nat}(h:Jp C e=aC):P.underlying e=ay (.int .u8)/\∃i,P.info? e=ay i/\i.zero=ay (.int .u8 0)/\i.size=1/\i.bytes=1:=by
 unfold Jp at h;split at h
 ·rename_i te hte
  have ht:=hC.ty _ _ hte;split at h
  ·rename_i n hty hz
   simp only[aH,beq_iff_eq] at h;obtain ⟨⟨h1,h2⟩,rfl⟩:=h;have hu:=ht.desc;rw[hty] at hu;obtain ⟨inf,z,q1,q2,q3,q4,q5,q6,_,q8⟩:=ht.info;rw[hz] at q5;refine ⟨hu,inf,q1,?_,by omega,by omega⟩;rw[q4];have hone:=(q8 (by rw[hty];rfl)).2;have hc:z.cells=#[z]:=by
    cases z<;>simp[jQ,mJ] at hone ⊢
   rw[hc] at q5;have:z=.int .u8 0:=q5.1;rw[this]
  ·cases h
 ·cases h
theorem aal{e:Nat}{v:Value}{l:List UInt8}(h:Gn w e v l):∃A n c,v=.slice A n c:=by
 rcases h with ⟨rfl,_⟩ |⟨g,cap,cur,fz,rfl,_⟩
 ·exact ⟨_,_,_,rfl⟩
 ·exact ⟨_,_,_,rfl⟩
theorem QB{c:Core}{a:Act}{o:Oper}{t u e:Nat}{x y:Operand}{l m:List UInt8}{φ:SV×Core->Prop}(hC:A8 P C)(hd:Af H E c.tm a.tmps.toList)(hh:Ai K H E w c.hp)(hw:DX K H w)(hf:Free E c)
  (ho:o.op=.call {callee:=.builtin .append,args:=#[x,y],argTypes:=#[t,u]}) (ht:P.underlying t=ay (.slice e)) (hb:Jp C e=aC) (hown:MJ c.hp e (Bd c.tm x)=aC) (hl:QN c.hp e (Bd c.tm x)=ay l)
  (hm:ajT P w u (a.eval y) m) (hr:zV.room (zV.addN (zV.len l) (zV.len m)) 1=aC) (h:(alloc (Ci c (Bd c.tm x)) (.buf e (zV.app l m)) (.gs c.nx)).All φ):G7 P K H E w c a o φ:=by
 have dx:=AV (H:=H) (E:=E) hd x;obtain ⟨hu8,i,i1,i2,i3,i4⟩:=PO hC hb;obtain ⟨o1,o2,_⟩:=Xu (st:=1) hh hown dx;obtain ⟨r2,r1⟩:=Fa hr;obtain ⟨v',w',hrun,hb',hg,hv'⟩:=afJ (P:=P) t u o.type e i ht i1 i2 i3 i4 (a.eval x) l (Q7 hh hl dx) (a.eval y) m hm r1 r2;have ER:∀b,Ah v'=ay b->Mine K H b:=fun b hb=>by
  rcases hv' b hb with h|h
  ·exact o2 b h
  ·refine ⟨?_,.inl (by have:=hw.size;omega)⟩
   cases hH:H b with
   |none=>rfl |some o=>have:=(bG.1 (hw.on b o hH)).1;omega
 obtain ⟨c',hφ,hp⟩:=Js hh hw hf h o1 o2 hg hv' (fun _=>⟨v',fA _ _ _,hb',ER⟩);obtain ⟨A,n',cc,e3⟩:=aal hb';refine ⟨_,v',_,H,_,w',hφ,⟨fA _ _ _,A,n',cc,e3⟩,hp,.inl rfl,?_⟩;simp only[execOp,ho,resolve];simp[invoke,builtin,hrun]
theorem ah9{c:Core}{a:Act}{o:Oper}{t u:Nat}{x y:Operand}{φ:SV×Core->Prop}(hC:A8 P C)(hd:Af H E c.tm a.tmps.toList)(hh:Ai K H E w c.hp)(hw:DX K H w)(hf:Free E c)
  (ho:o.op=.call {callee:=.builtin .append,args:=#[x,y],argTypes:=#[t,u]}) (h:(Pz C c t u (Bd c.tm x) (Bd c.tm y)).All φ):G7 P K H E w c a o φ:=by
 have dy:=AV (H:=H) (E:=E) hd y;unfold Pz at h;split at h
 ·rename_i ti ui hti hui
  split at h
  ·rename_i e h1 h2
   split at h
   ·rename_i l m hl hm
    cases hb:(Jp C e&&MJ c.hp e (Bd c.tm x))<;>simp only[hb,cond_true,cond_false] at h
    ·exact h.elim
    simp only[aH] at hb;rw[hC.A] at h;have hu:=(hC.ty _ _ hui).desc;rw[h2] at hu;have ey:=ND hm dy;exact QB hC hd hh hw hf ho (Je (hC.ty _ _ hti) h1) hb.1 hb.2 hl (by rw[ey];exact ak2 hu m) h.1 h.2
   ·exact h.elim
  ·exact h.elim
 ·exact h.elim
theorem aia{c:Core}{a:Act}{o:Oper}{t:Nat}{x y:Operand}{φ:SV×Core->Prop}{r:Tree (SV×Core)}(hC:A8 P C)(hd:Af H E c.tm a.tmps.toList)(hh:Ai K H E w c.hp)(hw:DX K H w)(hf:Free E c)
  (ho:o.op=.call {callee:=.builtin .append,args:=#[x,y],argTypes:=#[t,t]}) (hr:PD C c t (Bd c.tm x) (Bd c.tm y)=ay r) (h:r.All φ):G7 P K H E w c a o φ:=by
 have dy:=AV (H:=H) (E:=E) hd y;unfold PD at hr;split at hr
 ·rename_i id hx
  split at hr
  ·rename_i e l hl
   split at hr
   ·rename_i ti m hti hm
    split at hr
    ·rename_i e' hty
     cases hb:(e==e'&&Jp C e && !Nv (Bd c.tm x) (Bd c.tm y))<;>simp only[hb,cond_true,cond_false] at hr
     ·cases hr
     cases hr;simp only[aH,beq_iff_eq] at hb;obtain ⟨⟨rfl,hb⟩,_⟩:=hb;rw[hC.A] at h;have ht:=Je (hC.ty _ _ hti) hty;have ho1:MJ c.hp e (Bd c.tm x)=aC:=by rw[hx];simp[MJ,hl]
     have ho2:QN c.hp e (Bd c.tm x)=ay l:=by rw[hx];simp[QN,hl]
     exact QB hC hd hh hw hf ho ht hb ho1 ho2 (ak3 ht (Q7 hh hm dy)) h.1 h.2
    ·cases hr
   ·cases hr
  ·cases hr
 ·cases hr
theorem aqB{c:Core}{a:Act}{o:Oper}{t u:Nat}{x:Operand}{φ:SV×Core->Prop}(hC:A8 P C)(hd:Af H E c.tm a.tmps.toList)(hh:Ai K H E w c.hp)(hw:DX K H w)(hf:Free E c)
  (ho:o.op=.convert t u x) (h:(Xk C c t u (Bd c.tm x)).All φ):G7 P K H E w c a o φ:=by
 have dx:=AV (H:=H) (E:=E) hd x;unfold Xk at h;split at h
 ·rename_i ti ui hti hui
  have ht:=(hC.ty _ _ hti).desc;have hu:=(hC.ty _ _ hui).desc;split at h
  ·rename_i k1 k2 e1 e2
   rw[e1] at ht;rw[e2] at hu;have key:∀(k:IntKind) (n:Int),a.eval x=.int k n->(execOp a.eval o).run P w=.ok (.value (.int k2 (k2.wrap n))) w:=fun k n hv=>by
    simp only[execOp,ho,hv];simp[convert,run_underlying ht,run_underlying hu,Conv.intToInt]
   split at h
   ·rename_i k n hx
    rw[hx] at dx;exact ⟨_,.int k2 (k2.wrap n),_,H,E,w,h,rfl,oN hh hw,.inl rfl,key k n dx⟩
   ·rename_i k n hx
    rw[hx] at dx;rw[hC.A] at h;exact ⟨_,.int k2 (k2.wrap n),_,H,E,w,h,rfl,oN hh hw,.inl rfl,key k n dx⟩
   ·exact h.elim
  ·rename_i e e1 e2
   rw[e1] at ht;rw[e2] at hu;split at h
   ·rename_i l hl
    cases hb:Jp C e<;>simp only[hb,cond_true,cond_false] at h
    ·exact h.elim
    rw[hC.A] at h;obtain ⟨h1,h2⟩:=h;obtain ⟨r2,r1⟩:=Fa h1;obtain ⟨hu8,_⟩:=PO hC hb;have ex:=ND hl dx;obtain ⟨v',w',hrun,hb',hg,hv'⟩:=afK (P:=P) (w:=w) (src:=t) (dst:=u) ht hu hu8 l r1;have ER:∀b,Ah v'=ay b->Mine K H b:=fun b hb=>by
     have:=hv' b hb;refine ⟨?_,.inl (by have:=hw.size;omega)⟩;cases hH:H b with
     |none=>rfl |some o=>have:=(bG.1 (hw.on b o hH)).1;omega
    obtain ⟨c',hφ,hp⟩:=Js (s:=.Aw) (v:=.slice aK 0 0) (v':=v') hh hw hf h2 (.inl ⟨rfl,rfl⟩) (fun b hb=>by simp[Ah] at hb) hg (fun b hb=>.inr (hv' b hb)) (fun _=>⟨v',fA _ _ _,hb',ER⟩);obtain ⟨A,n',cc,e3⟩:=aal hb';refine ⟨_,v',_,H,_,w',hφ,⟨fA _ _ _,A,n',cc,e3⟩,hp,.inl rfl,?_⟩;simp only[execOp,ho,ex];simp[hrun]
   ·exact h.elim
  ·rename_i e e1 e2
   rw[e1] at ht;rw[e2] at hu;split at h
   ·rename_i l hl
    cases hb:Jp C e<;>simp only[hb,cond_true,cond_false] at h
    ·exact h.elim
    obtain ⟨hu8,_⟩:=PO hC hb;have hrun:=ak4 (P:=P) (src:=t) (dst:=u) ht hu8 hu (Q7 hh hl dx) w fun _ _=>rfl
    refine ⟨_,.string ⟨l.toArray⟩,_,H,E,w,h,.str l,oN hh hw,.inl rfl,?_⟩;simp only[execOp,ho];simp[hrun]
   ·exact h.elim
  ·exact h.elim
 ·exact h.elim
end
section
variable{P:Program}{C:Ctx}{K:Kx}{H H':Mem}{E E':Env}{w w':World}
theorem aam{st n:Nat}{g:Nat->List Sh}{u:Value}(h:Rep H (.sl st n g) u):∃A cap,u=.slice A n cap/\n<=cap/\cap<=maxLen:=by
 cases h with
 |sl0 _ _ A cap hc=>exact ⟨_,_,rfl,gX _,hc⟩ |sl _ _ _ b off cap c h1 h2=>exact ⟨_,_,rfl,h1,h2⟩
theorem amS{st n l h cap:Nat}{g g':Nat->List Sh}{A:Option Addr}(hr:Rep H (.sl st n g) (.slice A n cap))(hl:l<=h)(hh:h<=n)(hg:∀j,j<h - l->g' j=g (l+j)):
  Rep H (.sl st (h - l) g') (sliced A l h cap st):=by
 by_cases e:h - l=0
 ·unfold sliced
  rw[e];refine .sl0 _ _ _ _ ?_;obtain ⟨A',cap',e1,_,e2⟩:=aam hr;cases e1;omega
 ·generalize hn:n=m at hr
  cases hr with
  |sl0 _ _ _ _ hc=>omega |sl _ _ _ b off _ c h1 h2 h3 h4 h5 h6=>
   subst hn;unfold sliced;rw[if_neg (by omega)];simp only[lI,eX];refine .sl _ _ _ b (off+l*st) _ (fun i j=>c (l+i) j) (by omega) (by omega) (fun i hi=>by rw[hg i hi];exact h3 _ (by omega)) (fun i j hi hj=>?_) (fun i j hi hj=>h5 _ _ (by omega) hj) fun i j s hi e=>?_
   ·have:=h4 (l+i) j (by omega) hj
    rw[gq] at this;rw[<-this];congr 1;omega
   ·rw[hg i hi] at e
    exact h6 _ _ _ (by omega) e
theorem JW{i:Int}{n:Nat}(h:zV.upTo i n=aC):0<=i/\i<=n:=by simpa[zV] using h
theorem aib{c:Core}{hp:List (Nat×SB)}(hH:H.le H')(hh:Ai K H' E w hp)(hw:DX K H' w)(hz:Uu H' E c.hp hp):Post K H E w c H' E w {c with hp}:=
 ⟨hH,fun _ _ e=>e,fun _ h1 h2=>(h2 h1).elim,dh _,.inr rfl,rfl,rfl,hh,hw,fun _ h=>h,dh _,fun _ _ _=>rfl,fun i b h1 h2=>by simp[bk,h1] at h2,fun _ h=>.inl h,
  fun id sb b h1 _ h3=>(hz.keep id sb b h1 h3).imp (fun h=>h) fun h=>⟨sb,h,h3⟩,fun id sb h _=>hz.old id sb h⟩
theorem amT{c:Core}{a:Act}{o:Oper}{t:Nat}{x:Operand}{lo hi:Option Operand}{φ:SV×Core->Prop}(hC:A8 P C)(hd:Af H E c.tm a.tmps.toList)(hh:Ai K H E w c.hp)(hw:DX K H w)
  (ho:o.op=.slice t x lo hi aK) (h:(Uh C c t (Bd c.tm x) (lo.map (Bd c.tm)) (hi.map (Bd c.tm))).All φ):G7 P K H E w c a o φ:=by
 have dx:=AV (H:=H) (E:=E) hd x;unfold Uh at h;split at h
 ·rename_i ti hti
  split at h
  ·rename_i e hty
   have hu:=Je (hC.ty _ _ hti) hty;split at h
   ·rename_i te hte
    have hsz:∀w,(sizeOf e).run P w=.ok te.size w:=fun w=>Ja (hC.ty _ _ hte) w;split at h
    ·rename_i id n hv hvw e1 e2
     have e1':lo=aK:=by cases lo<;>simp at e1 ⊢
     subst e1';simp only[bV] at e2;obtain ⟨y,rfl,rfl⟩:=e2;split at h
     ·rename_i hi hn q1 q2
      obtain ⟨k,ey⟩:=Gy q1 (AV (H:=H) (E:=E) hd y);rw[hC.A] at h q2;have q2:=GH q1 q2;obtain ⟨g1,g2⟩:=h;obtain ⟨g1,g3⟩:=JW g1;unfold ajO at hvw;split at hvw
      ·rename_i id' hx
       split at hvw
       ·rename_i el st' m g hl
        cases hb:(te.size==st')<;>simp only[hb,cond_true,cond_false] at hvw
        ·cases hvw
        cases hvw;rw[hx] at dx;obtain ⟨he,A,n2,cap,eu⟩:=dx;obtain ⟨v,xs,e3,e4,_⟩:=hh.ent _ _ hl;rw[he] at e3;cases e3;rw[eu] at e4 he;have hk:n2=n:=by
         have:=LY e4;simpa[lenV] using this
        subst hk;have helem:P.elem t=e:=by simp[vJ,hu]
        have hu':P.underlying t=ay (.slice (P.elem t)):=by rw[helem];exact hu
        have hcap:n2<=cap:=by
         rcases e4.2 with ⟨e5,_⟩ |⟨_,_,_,e5,_,_,e6,_⟩
         ·cases e5;exact dh _
         ·cases e5;exact e6
        have hr:=run_slice_h (P:=P) w t A n2 cap hu' k hi (by omega) (by omega);subst q2;have hs:sliced A 0 hi.toNat cap te.size=.slice A hi.toNat cap:=by cases A<;>simp[sliced,mW]
        refine ⟨_,.slice A hi.toNat cap,_,H,E,w,g2,⟨A,n2,cap,he,by omega,rfl⟩,oN hh hw,.inl rfl,?_⟩;rw[helem,hsz] at hr;simp[execOp,ho,run_sliceAt_slice _ _ _ _ _ _ hu',eu,ey,hr,hs]
       ·cases hvw
      ·cases hvw
     ·exact h.elim
    split at h
    ·exact h.elim
    ·rename_i hp hfz
     have hfz':∃H',H.le H'/\Ai K H' E w hp/\DX K H' w/\Uu H' E c.hp hp:=by
      split at hfz
      ·exact MO hfz hh hw
      ·cases hfz;exact ⟨H,fun _ _ e=>e,hh,hw,Uu.refl _ _ _⟩
     obtain ⟨H',hH,hh',hw',hz'⟩:=hfz';split at h
     ·rename_i st n g hsh
      have hrep:=LZ hh' hsh (dx.le hH (fun _ _ e=>e));obtain ⟨A,cap,eu,hcap,hmax⟩:=aam hrep;rw[eu] at hrep;cases hb:(st==te.size)<;>simp only[hb,cond_true,cond_false] at h
      ·exact h.elim
      obtain rfl:st=te.size:=by simpa using hb
      have helem:P.elem t=e:=by simp[vJ,hu]
      have hu':P.underlying t=ay (.slice (P.elem t)):=by rw[helem];exact hu
      have fin:∀(sv:SV) (l h:Nat) (g':Nat->List Sh),φ (sv,{c with hp})->sv=.sh (.sl te.size (h - l) g')->l<=h->h<=n->(∀j,j<h - l->g' j=g (l+j))->
        (Instr.slice t (.slice A n cap) (lo.map a.eval) (hi.map a.eval) aK).run P w=((sizeOf (P.elem t)).run P w).andThen (fun s w=>.ok (sliced A l h cap s) w)->G7 P K H E w c a o φ:=by
       intro sv l h g' hφ hsv h1 h2 h3 hr;refine ⟨_,sliced A l h cap te.size,_,H',E,w,hφ,?_,aib hH hh' hw' hz',.inl rfl,?_⟩
       ·subst hsv
        exact amS hrep h1 h2 h3
       ·rw[helem,hsz] at hr
        simp[execOp,ho,run_sliceAt_slice _ _ _ _ _ _ hu',eu,hr]
      have hA:=hC.A;rw[hA] at h;split at h
      ·rename_i e1 e2
       have e1':lo=aK:=by cases lo<;>simp at e1 ⊢
       have e2':hi=aK:=by cases hi<;>simp at e2 ⊢
       subst e1' e2';exact fin _ 0 n g h (by rw[tX]) (by omega) (by omega) (fun j _=>by rw[gJ]) (run_slice_all (P:=P) w t A n cap hu')
      ·rename_i hv e1 e2
       have e1':lo=aK:=by cases lo<;>simp at e1 ⊢
       subst e1';simp only[bV] at e2;obtain ⟨y,rfl,rfl⟩:=e2;split at h
       ·rename_i hi hn q1 q2
        obtain ⟨k,ey⟩:=Gy q1 (AV (H:=H) (E:=E) hd y);have q2:=GH q1 q2;obtain ⟨g1,g2⟩:=h;obtain ⟨g1,g3⟩:=JW g1;refine fin _ 0 hn g g2 (by rw[tX]) (by omega) (by omega) (fun j _=>by rw[gJ]) ?_;have:=run_slice_h (P:=P) w t A n cap hu' k hi (by omega) (by omega);simp only[lI,tZ,ey];rw[this,q2]
       ·exact h.elim
      ·rename_i lv e1 e2
       have e2':hi=aK:=by cases hi<;>simp at e2 ⊢
       subst e2';simp only[bV] at e1;obtain ⟨y,rfl,rfl⟩:=e1;split at h
       ·rename_i li l q1 q2
        obtain ⟨k,ey⟩:=Gy q1 (AV (H:=H) (E:=E) hd y);have q2:=GH q1 q2;obtain ⟨g1,g2⟩:=h;obtain ⟨g1,g3⟩:=JW g1;refine fin _ l n _ g2 rfl (by omega) (by omega) (fun j _=>rfl) ?_;have:=run_slice_l (P:=P) w t A n cap hu' k li (by omega) (by omega);simp only[lI,tZ,ey];rw[this,q2]
       ·exact h.elim
      ·rename_i lv hv e1 e2
       simp only[bV] at e1 e2;obtain ⟨y,rfl,rfl⟩:=e1;obtain ⟨z,rfl,rfl⟩:=e2;split at h
       ·rename_i li l hi hn q1 q2 q3 q4
        obtain ⟨k,ey⟩:=Gy q1 (AV (H:=H) (E:=E) hd y);obtain ⟨k2,ez⟩:=Gy q3 (AV (H:=H) (E:=E) hd z);have q2:=GH q1 q2;have q4:=GH q3 q4;obtain ⟨g1,g2,g3⟩:=h;obtain ⟨g1,g4⟩:=JW g1;obtain ⟨g2,g5⟩:=JW g2;refine fin _ l hn _ g3 rfl (by omega) (by omega) (fun j _=>rfl) ?_;have:=run_slice_lh (P:=P) w t A n cap hu' k k2 li hi (by omega) (by omega) (by omega);simp only[lI,ey,ez];rw[this,q2,q4]
       ·exact h.elim
     ·exact h.elim
   ·exact h.elim
  ·exact h.elim
 ·exact h.elim
theorem YI{k:IntKind}{n:Int}{sv:SV}{v:Value}(hv:Den H E sv v):∀{es es':List (SV×SV)} {ms:List MapEntry} (j:Nat),Vm k n sv es=ay es'->Nz H E es ms->
  (∃i u m,dM (.int k) (.int k n) ms j=ay (ay (j+i,u))/\ms[i]?=ay m/\m.key=.int k n/\Nz H E es' (ms.modify i fun m=>{m with key:=.int k n,val:=v}))\/
  (dM (.int k) (.int k n) ms j=ay aK/\∀clk,Nz H E es' (ms++[{key:=.int k n,val:=v,born:=clk}]))
 |[],es',[],j,h,_=>by
  simp[Vm] at h;subst h;exact .inr ⟨rfl,fun clk=>⟨rfl,hv,trivial⟩⟩
 |(k',u)::es,es',m::ms,j,h,⟨h1,h2,h3⟩=>by
  unfold Vm at h;split at h
  ·rename_i e;cases e
  ·rename_i l p u es0 e
   simp only[qj,jO] at e;obtain ⟨⟨rfl,rfl⟩,rfl⟩:=e;have h1:m.key=.int l p:=h1;cases hb:(l==k)<;>simp only[hb,cond_true,cond_false] at h
   ·cases h
   obtain rfl:l=k:=by simpa using hb
   cases hp:(p==n)<;>simp only[hp,cond_true,cond_false] at h
   ·have hne:(n==p)=ak:=by simp at hp ⊢;exact fun e=>hp e.symm
    simp only[bV] at h;obtain ⟨r,hr,rfl⟩:=h;rcases YI hv (j+1) hr h3 with ⟨i,u',m',e1,e2,e3,e4⟩ |⟨e1,e2⟩
    ·refine .inl ⟨i+1,u',m',?_,by simpa using e2,e3,?_⟩
     ·simp[dM,h1,dZ,hne,e1];omega
     ·simp only[List.modify_succ_cons]
      exact ⟨h1,h2,e4⟩
    ·refine .inr ⟨by simp[dM,h1,dZ,hne,e1],fun clk=>⟨h1,h2,e2 clk⟩⟩
   ·cases h
    obtain rfl:p=n:=by simpa using hp
    refine .inl ⟨0,m.val,m,by simp[dM,h1,dZ],rfl,h1,?_⟩;simp only[List.modify_zero_cons];exact ⟨rfl,hv,h3⟩
  ·cases h
 |[],_,_::_,_,_,h=>h.elim |_::_,_,[],_,_,h=>h.elim
theorem EF(w:World)(b k:Nat)(o o':Obj)(h:w.heap[b]?=ay o):(w.heap.setIfInBounds b o')[k]?=if k=b then ay o' else w.heap[k]?:=by
 have hlt:=(bG.1 h).1;by_cases e:k=b
 ·subst e;simp[hlt]
 ·simp[e,Array.getElem?_setIfInBounds_ne (Ne.symm e)]
theorem Yr.push{ms:List MapEntry}{N:DC->Option Value}(h:Yr ms N){n:DC}(hne:∀m∈ms,m.key≠CZ n)(v:Value)(clk:Nat):
  Yr (ms++[{key:=CZ n,val:=v,born:=clk}]) (fun j=>if j=n then ay v else N j):=by
 have hget:∀(i:Nat) (m:MapEntry),(ms++[{key:=CZ n,val:=v,born:=clk:MapEntry}])[i]?=ay m->(i<ms.length/\ms[i]?=ay m)\/(i=ms.length/\m={key:=CZ n,val:=v,born:=clk}):=fun i m hi=>by
  rw[kG] at hi;split at hi
  ·exact .inl ⟨by assumption,hi⟩
  ·have:i - ms.length=0:=by
    have:=(aU.1 hi).1;simp at this;omega
   rw[this] at hi;simp at hi;exact .inr ⟨by omega,hi.symm⟩
 refine ⟨fun m hm=>?_,fun m hm j e=>?_,fun j u hj=>?_,fun i j m m' a b e=>?_⟩
 ·rcases bK.1 hm with hm|hm
  ·exact h.key m hm
  ·simp at hm;subst hm;exact ⟨n,rfl⟩
 ·rcases bK.1 hm with hm1|hm1
  ·rw[if_neg (show ¬j=n from fun e2=>hne m hm1 (by rw[<-e2];exact e))]
   exact h.Zj m hm1 j e
  ·simp at hm1;subst hm1
   rw[if_pos (PL e).symm]
 ·by_cases e:j=n
  ·subst e;exact ⟨_,bK.2 (.inr (cu ..)),rfl⟩
  ·rw[if_neg e] at hj
   obtain ⟨m,hm,q⟩:=h.ex j u hj;exact ⟨m,bK.2 (.inl hm),q⟩
 ·rcases hget i m a with ⟨_,a⟩ |⟨a,rfl⟩<;>rcases hget j m' b with ⟨_,b⟩ |⟨b,rfl⟩
  ·exact h.one i j m m' a b e
  ·exact (hne m (bT a) e).elim
  ·exact (hne m' (bT b) e.symm).elim
  ·omega
theorem Yr.set{ms:List MapEntry}{N:DC->Option Value}(h:Yr ms N){n:DC}{i:Nat}{m0:MapEntry}(hi:ms[i]?=ay m0)(hk:m0.key=CZ n)(v:Value){f:MapEntry->MapEntry}
  (hf1:(f m0).key=CZ n) (hf2:(f m0).val=v):Yr (ms.modify i f) (fun j=>if j=n then ay v else N j):=by
 have hget:∀(j:Nat) (m:MapEntry),(ms.modify i f)[j]?=ay m->(j=i/\m=f m0)\/(j≠i/\ms[j]?=ay m):=fun j m hj=>by
  rw[iy] at hj;by_cases e:i=j
  ·subst e
   rw[hi] at hj;simp at hj;exact .inl ⟨rfl,hj.symm⟩
  ·simp[e] at hj
   exact .inr ⟨fun e2=>e e2.symm,hj⟩
 have hin:∀m∈ms.modify i f,m=f m0\/(m∈ms/\m.key≠CZ n):=fun m hm=>by
  obtain ⟨j,hj⟩:=dB.1 hm;rcases hget j m hj with ⟨_,e⟩ |⟨e,e2⟩
  ·exact .inl e
  ·refine .inr ⟨bT e2,fun e3=>e ?_⟩
   exact h.one j i m m0 e2 hi (e3.trans hk.symm)
 have hnew:f m0∈ms.modify i f:=by
  refine dB.2 ⟨i,?_⟩;rw[iy];simp[hi]
 refine ⟨fun m hm=>?_,fun m hm j e=>?_,fun j u hj=>?_,fun a b m m' ha hb e=>?_⟩
 ·rcases hin m hm with rfl|hm
  ·exact ⟨n,hf1⟩
  ·exact h.key m hm.1
 ·rcases hin m hm with rfl|⟨hm,hne⟩
  ·rw[hf1] at e;rw[if_pos (PL e).symm,hf2]
  ·rw[if_neg fun e2=>by subst e2;exact hne e]
   exact h.Zj m hm j e
 ·by_cases e:j=n
  ·subst e;exact ⟨_,hnew,hf1⟩
  ·rw[if_neg e] at hj
   obtain ⟨m,hm,q⟩:=h.ex j u hj;obtain ⟨a,ha⟩:=dB.1 hm;refine ⟨m,dB.2 ⟨a,?_⟩,q⟩;have hne:¬i=a:=fun e2=>by subst e2;rw[hi] at ha;cases ha;rw[hk] at q;exact e (PL q).symm
   rw[iy,ha];simp[hne]
 ·rcases hget a m ha with ⟨a1,rfl⟩ |⟨a1,a2⟩<;>rcases hget b m' hb with ⟨b1,rfl⟩ |⟨b1,b2⟩
  ·omega
  ·exact (b1 (h.one b i m' m0 b2 hi (e.symm.trans (hf1.trans hk.symm)))).elim
  ·exact (a1 (h.one a i m m0 a2 hi (e.trans (hf1.trans hk.symm)))).elim
  ·exact h.one a b m m' a2 b2 e
theorem aan{M:DC->Option Value}{n:DC}{o:Option Value}{uv:List (DC×Option Value)}:QX M ((n,o)::uv)=fun j=>if j=n then o else QX M uv j:=rfl
theorem aic(n:DC):lX 10000 (CZ n) (CZ n)=aC:=by
 have h (b:ByteArray):(b==b)=aC:=by
  obtain ⟨⟨l⟩⟩:=b;show ((⟨⟨l⟩⟩:ByteArray).data==(⟨⟨l⟩⟩:ByteArray).data)=aC;exact beq_self_eq_true _
 simp[CZ,lX,h]
theorem ac4{c:Core}{a:Act}{o:Oper}{t:Nat}{x y z:Operand}{φ:SV×Core->Prop}(hC:A8 P C)(hd:Af H E c.tm a.tmps.toList)(hh:Ai K H E w c.hp)(hw:DX K H w)
  (ho:o.op=.mapUpdate t x y z\/o.op=.insert t x y z) (h:(Nw C c t (Bd c.tm x) (Bd c.tm y) (Bd c.tm z)).All φ):G7 P K H E w c a o φ:=by
 have dx:=AV (H:=H) (E:=E) hd x;have dy:=AV (H:=H) (E:=E) hd y;have dz:=AV (H:=H) (E:=E) hd z;unfold Nw at h;split at h
 ·rename_i ti hti
  split at h
  ·rename_i kt vt hty
   have ht:=(hC.ty _ _ hti).desc;rw[hty] at ht;have ht:P.underlying t=ay (.map kt vt):=ht;split at h
   ·rename_i Z4 afN
    have hk:=(hC.ty _ _ afN).desc;split at h
    ·rename_i kk id k n hkk hx hy
     rw[hkk] at hk;have hk:P.underlying kt=ay (.int kk):=hk;rw[hx] at dx;rw[hy] at dy;obtain ⟨b,he,ex⟩:=dx;have ey:a.eval y=.int k n:=dy;split at h
     ·rename_i es hl
      cases hb:(kk==k)<;>simp only[hb,cond_true,cond_false] at h
      ·exact h.elim
      obtain rfl:kk=k:=by simpa using hb
      split at h
      ·rename_i es' hes
       obtain ⟨b',ms,clk,he',h1,h2,h3⟩:=hh.ent _ _ hl;rw[he] at he';cases he';have hg:(getObj b).run P w=.ok (.map ms clk) w:=by simp[getObj,kW,h1]
       have hck:=Ky (P:=P) hk ak kk n w;have hso:∀o',(setObj b o').run P w=.ok () {w with heap:=w.heap.setIfInBounds b o'}:=fun o'=>by simp[setObj,kW,h1]
       have fin:∀(o':Obj) (ms':Array MapEntry) (MP:Nat),o'=.map ms' MP->Nz H E es' ms'.toList->(jy t (.map (ay b)) (.int kk n) (a.eval z)).run P w=.ok () {w with heap:=w.heap.setIfInBounds b o'}->G7 P K H E w c a o φ:=by
        intro o' ms' MP ho' hd' hr;subst ho';refine ⟨_,undef,_,H,E,{w with heap:=w.heap.setIfInBounds b (.map ms' MP)},h,trivial,?_,.inr ⟨rfl,rfl⟩,?_⟩
        rotate_left
        ·rcases ho with ho|ho<;>simp[execOp,ho,ex,ey,hr]
        ·refine JU hh hw hl (b:=b) (by simp[AL,he,Ah]) (fun k hk=>?_) (by simp) rfl rfl rfl ?_ (by simp[AL,he,Ah])
         ·simp only;rw[EF w b k _ _ h1,if_neg hk]
         ·exact ⟨b,ms',MP,he,by simp only;rw[EF w b b _ _ h1,if_pos rfl],hd',h3⟩
       rcases YI dz 0 hes h2 with ⟨i,u,m,e1,e2,e3,e4⟩ |⟨e1,e2⟩
       ·refine fin (.map (ms.modify i fun m=>{m with key:=.int kk n,val:=a.eval z}) clk) _ clk rfl (by simpa using e4) ?_
        have e2':ms[i]?=ay m:=by simpa using e2
        simp only[gJ] at e1;simp[jy,run_underlying ht,hg,hck,iq,run_underlying hk,e1,e2',e3,mX,lX,hso]
       ·refine fin (.map (ms.push {key:=.int kk n,val:=a.eval z,born:=clk}) (clk+1)) _ (clk+1) rfl (by simpa using e2 clk) ?_
        simp[jy,run_underlying ht,hg,hck,iq,run_underlying hk,e1,hso]
      ·exact h.elim
     ·exact h.elim
    ·rename_i fs id kk hkk hx
     rw[hx] at dx;obtain ⟨b,he,ex⟩:=dx;split at h
     ·rename_i vt M us hl
      split at h
      ·rename_i n hn
       have ey:a.eval y=CZ n:=VJ hn dy;cases hb:(C.ZV.contains kt&&(Bd c.tm z).one&&(Bd c.tm z).acT vt)<;>simp only[hb,cond_true,cond_false] at h
       ·exact h.elim
       rw[aH,aH] at hb;obtain ⟨⟨hpk,hone⟩,hvt⟩:=hb;have hp:=hC.ZV _ hpk;obtain ⟨b',ms,clk,uv,he',h1,d2,hT,hL,hok,h3⟩:=hh.ent _ _ hl;have hL':amA vt ((n,aC,Bd c.tm z)::us):=fun u hu q=>by
        rcases List.mem_cons.1 hu with rfl|hu
        ·exact hvt
        ·exact hL u hu q
       rw[he] at he';cases he';have hg:(getObj b).run P w=.ok (.map ms clk) w:=by simp[getObj,kW,h1]
       have hck:=hp.chk ak n w;have hso:∀o',(setObj b o').run P w=.ok () {w with heap:=w.heap.setIfInBounds b o'}:=fun o'=>by simp[setObj,kW,h1]
       have fin:∀(ms':Array MapEntry) (MP:Nat),Yr ms'.toList (QX M ((n,ay (a.eval z))::uv))->(jy t (.map (ay b)) (CZ n) (a.eval z)).run P w=.ok () {w with heap:=w.heap.setIfInBounds b (.map ms' MP)}->G7 P K H E w c a o φ:=by
        intro ms' MP hok' hr;refine ⟨_,undef,_,H,E,{w with heap:=w.heap.setIfInBounds b (.map ms' MP)},h,trivial,?_,.inr ⟨rfl,rfl⟩,?_⟩
        rotate_left
        ·rcases ho with ho|ho<;>simp[execOp,ho,ex,ey,hr]
        ·refine JU hh hw hl (b:=b) (by simp[AL,he,Ah]) (fun k hk=>?_) (by simp) rfl rfl rfl ?_ (by simp[AL,he,Ah])
         ·simp only;rw[EF w b k _ _ h1,if_neg hk]
         ·exact ⟨b,ms',MP,(n,ay (a.eval z))::uv,he,by simp only;rw[EF w b b _ _ h1,if_pos rfl],⟨rfl,⟨dz,one_cell hone dz⟩,d2⟩,hT,hL',hok',h3⟩
       obtain ⟨r,e1,e2⟩:=N9 hp (n:=n) (w:=w) hok.key;rcases e2 with ⟨rfl,e2⟩ |⟨i,m,rfl,e3,e4⟩
       ·refine fin (ms.push {key:=CZ n,val:=a.eval z,born:=clk}) (clk+1) (by simpa[aan] using hok.push e2 (a.eval z) clk) ?_
        simp[jy,run_underlying ht,hg,hck,e1,hso]
       ·refine fin (ms.modify i fun m=>{m with key:=CZ n,val:=a.eval z}) clk ?_ ?_
        ·have:=hok.set e3 e4 (a.eval z) (f:=fun m=>{m with key:=CZ n,val:=a.eval z}) rfl rfl
         simpa[aan] using this
        ·have e3':ms[i]?=ay m:=by simpa using e3
         simp[jy,run_underlying ht,hg,hck,e1,e3',e4,mX,aic,hso]
      ·exact h.elim
     ·exact h.elim
    ·exact h.elim
   ·exact h.elim
  ·exact h.elim
 ·exact h.elim
theorem aie{c:Core}{id b nx':Nat}{sb sb':SB}(hh:Ai K H E w c.hp)(hw:DX K H w)(hl:zX c.hp id=ay sb)(hb:AL E id sb=ay b)
  (hE:E.le E') (hnew:∀i,E i=aK->E' i≠aK->c.nx<=i/\i<nx') (hbk:∀i,E i=aK->bk E' i=aK) (hnx:c.nx<=nx') (hlim:nx'<=c.lim\/nx'=c.nx)
  (hother:∀k,k≠b->w'.heap[k]?=w.heap[k]?) (hsz:w'.heap.size=w.heap.size) (hos:w'.os=w.os) (htape:w'.tape=w.tape) (hout:w'.output=w.output)
  (he:Gg K H E' w' id sb') (hb':AL E' id sb'=ay b):Post K H E w c H E' w' {c with hp:=hset c.hp id sb',nx:=nx',tc:=id::c.tc}:=by
 have ER:=((hh.ent _ _ hl).lt hb);refine ⟨fun _ _ e=>e,hE,hnew,hnx,hlim,rfl,rfl,?_,?_,fun _ h=>dw _ h,by omega,?_,fun i b h1 h2=>(by rw[hbk i h1] at h2;cases h2),?_,?_,?_⟩
 ·refine ⟨fun id2 VL hl2=>?_,fun id1 id2 sb1 VL b0 h1 h2 o1 o2=>?_⟩
  ·simp only[Es] at hl2
   cases hid:(id==id2)<;>simp only[hid,cond_true,cond_false] at hl2
   ·have hent:=hh.ent _ _ hl2
    refine hent.kept (fun _ _ e=>e) hE (fun b0 hb0=>hother b0 fun e=>?_) fun b0 hb0=>(hent.lt hb0).2.1;subst e;have:=hh.FQ _ _ _ _ _ hl hl2 hb hb0;subst this;simp at hid
   ·obtain rfl:id=id2:=by simpa using hid
    rw[hl] at hl2;cases hl2;exact he
  ·have conv:∀{i:Nat} {s:SB},zX (hset c.hp id sb') i=ay s->AL E' i s=ay b0->∃s',zX c.hp i=ay s'/\AL E i s'=ay b0:=by
    intro i s h o;rw[Es] at h;cases hid:(id==i)<;>simp only[hid,cond_true,cond_false] at h
    ·exact ⟨s,h,by rw[<-Gi (hh.ent _ _ h) hE];exact o⟩
    ·obtain rfl:id=i:=by simpa using hid
     rw[hl] at h;cases h;rw[hb'] at o;cases o;exact ⟨sb,hl,hb⟩
   obtain ⟨s1,a1,a2⟩:=conv h1 o1;obtain ⟨s2,a3,a4⟩:=conv h2 o2;exact hh.FQ _ _ _ _ _ a1 a3 a2 a4
 ·refine ⟨hos.trans hw.os,htape.trans hw.tape,hout.trans hw.output,by have:=hw.size;omega,fun k hk hn=>?_,fun k o hk=>?_,hw.le,hw.fresh⟩
  ·rw[hother k fun e=>?_]
   ·exact hw.kept k hk hn
   ·subst e
    rcases ER.2.2 with h|h
    ·omega
    ·exact hn h
  ·rw[hother k fun e=>?_]
   ·exact hw.on k o hk
   ·subst e
    rw[ER.2.1] at hk;cases hk
 ·intro k hk hne
  refine hother k fun e=>?_
  subst e;exact hne id (cu ..) (Gh hb)
 ·intro i hi
  cases hi with
  |head=>exact .inr (.inr ⟨sb,hl,hb.trans (Gh hb).symm⟩) |tail _ hi=>exact .inl hi
 ·intro i s0 b0 h1 h2 h3
  refine .inr ⟨s0,?_,ZF h3 hE⟩;simp only[Es];cases hid:(id==i)<;>simp only[cond_true,cond_false]
  ·exact h1
  ·obtain rfl:id=i:=by simpa using hid
   exact (h2 (cu ..)).elim
 ·intro i s0 h1 _
  simp only[Es] at h1;cases hid:(id==i)<;>simp only[hid,cond_true,cond_false] at h1
  ·exact ⟨s0,h1,fun b0 h=>by rw[Gi (hh.ent _ _ h1) hE] at h;exact h⟩
  ·obtain rfl:id=i:=by simpa using hid
   rw[hl] at h1;cases h1;exact ⟨sb,hl,fun b0 h=>by rw[hb'] at h;cases h;exact hb⟩
theorem int_inj{k:IntKind}{a b:Int}(h:iQ k a=.int k b):a=b:=by cases h;rfl
theorem YJ{k:IntKind}{n p:Int}{m:MapEntry}{ms:List MapEntry}(hm:m.key=.int k p):Iu k n (m::ms)=if n=p then ay m.val else Iu k n ms:=by
 by_cases e:n=p
 ·subst e;simp[Iu,hm,dZ]
 ·have e':(n==p)=ak:=by simpa using e
  rw[if_neg e];simp[Iu,hm,dZ,e']
theorem Uw{k:IntKind}{n:Int}:∀{ms:List MapEntry},(∀m∈ms,∃n,m.key=.int k n)->(∀(i j:Nat) (m m':MapEntry),ms[i]?=ay m->ms[j]?=ay m'->m.key=m'.key->i=j)->∀m∈ms,m.key=.int k n->Iu k n ms=ay m.val
 |m0::ms,hk,h1,m,hm,e=>by
  obtain ⟨p,hp⟩:=hk m0 (cu ..);rw[YJ hp];by_cases en:n=p
  ·subst en
   rw[if_pos rfl];obtain ⟨j,hj⟩:=dB.1 hm;have:=h1 0 j m0 m rfl hj (hp.trans e.symm);subst this;simp at hj;rw[hj]
  ·rw[if_neg en]
   refine Uw (fun m hm=>hk m (dw _ hm)) (fun i j m m' a b c=>by have:=h1 (i+1) (j+1) m m' (by simpa using a) (by simpa using b) c;omega) m ?_ e;cases hm with
   |head=>rw[hp] at e;exact (en (int_inj e).symm).elim |tail _ h=>exact h
theorem YK{k:IntKind}{n:Int}:∀{ms:List MapEntry},(∀m∈ms,∃n,m.key=.int k n)->(∀m∈ms,m.key≠.int k n)->Iu k n ms=aK
 |[],_,_=>rfl |m::ms,hk,h=>by
  obtain ⟨p,hp⟩:=hk m (cu ..);rw[YJ hp,if_neg]
  ·exact YK (fun m hm=>hk m (dw _ hm)) fun m hm=>h m (dw _ hm)
  ·intro e;subst e;exact h m (cu ..) hp
theorem Xv{k:IntKind}{ms:List MapEntry}{N:Int->Option Value}(hk:∀m∈ms,∃n,m.key=.int k n)(h1:∀(i j:Nat) (m m':MapEntry),ms[i]?=ay m->ms[j]?=ay m'->m.key=m'.key->i=j)
  (h2:∀m∈ms,∀n,m.key=.int k n->N n=ay m.val) (h3:∀n v,N n=ay v->∃m∈ms,m.key=.int k n):∀n,Iu k n ms=N n:=fun n=>by
 cases hn:N n with
 |none=>
  refine YK hk fun m hm e=>?_
  rw[h2 m hm n e] at hn;cases hn
 |some v=>
  obtain ⟨m,hm,e⟩:=h3 n v hn;rw[Uw hk h1 m hm e];rw[h2 m hm n e] at hn;exact hn
theorem EY.Zj{k:IntKind}{ms:List MapEntry}{clk:Nat}{N:Int->Option Value}(h:EY k ms clk N):(∀m∈ms,∀n,m.key=.int k n->N n=ay m.val)/\(∀n v,N n=ay v->∃m∈ms,m.key=.int k n/\m.val=v):=by
 refine ⟨fun m hm n e=>by rw[<-h.at_,Uw h.key h.one m hm e],fun n v hn=>?_⟩;rw[<-h.at_] at hn;obtain ⟨i,_,m,h1,h2,h3⟩:=IE h.key 0 hn;exact ⟨m,bT h1,h2,h3⟩
theorem EY.push{k:IntKind}{ms:List MapEntry}{clk:Nat}{N:Int->Option Value}(h:EY k ms clk N){n:Int}(hn:N n=aK)(v:Value):
  EY k (ms++[{key:=.int k n,val:=v,born:=clk}]) (clk+1) (fun j=>if j=n then ay v else N j):=by
 have hne:∀m∈ms,m.key≠.int k n:=fun m hm e=>by rw[h.Zj.1 m hm n e] at hn;cases hn
 have hkey:∀m∈ms++[{key:=.int k n,val:=v,born:=clk:MapEntry}],∃n,m.key=.int k n:=fun m hm=>by
  rcases bK.1 hm with hm|hm
  ·exact h.key m hm
  ·simp at hm;subst hm;exact ⟨n,rfl⟩
 have hget:∀(i:Nat) (m:MapEntry),(ms++[{key:=.int k n,val:=v,born:=clk:MapEntry}])[i]?=ay m->(i<ms.length/\ms[i]?=ay m)\/(i=ms.length/\m={key:=.int k n,val:=v,born:=clk}):=fun i m hi=>by
  rw[kG] at hi;split at hi
  ·exact .inl ⟨by assumption,hi⟩
  ·have:i - ms.length=0:=by
    have:=(aU.1 hi).1;simp at this;omega
   rw[this] at hi;simp at hi;exact .inr ⟨by omega,hi.symm⟩
 have hone:∀(i j:Nat) (m m':MapEntry),(ms++[{key:=.int k n,val:=v,born:=clk:MapEntry}])[i]?=ay m->(ms++[{key:=.int k n,val:=v,born:=clk:MapEntry}])[j]?=ay m'->m.key=m'.key->i=j:=fun i j m m' a b e=>by
  rcases hget i m a with ⟨_,a⟩ |⟨a,rfl⟩<;>rcases hget j m' b with ⟨_,b⟩ |⟨b,rfl⟩
  ·exact h.one i j m m' a b e
  ·exact (hne m (bT a) e).elim
  ·exact (hne m' (bT b) e.symm).elim
  ·omega
 refine ⟨hkey,Xv hkey hone (fun m hm j e=>?_) (fun j u hj=>?_),hone,fun i j m m' a b e=>?_,fun m hm=>?_⟩
 ·rcases bK.1 hm with hm1|hm1
  ·rw[if_neg (show ¬j=n from fun e2=>hne m hm1 (by rw[<-e2];exact e))]
   exact h.Zj.1 m hm1 j e
  ·simp at hm1;subst hm1
   rw[if_pos (int_inj e).symm]
 ·by_cases e:j=n
  ·subst e;exact ⟨_,bK.2 (.inr (cu ..)),rfl⟩
  ·rw[if_neg e] at hj
   obtain ⟨m,hm,q,_⟩:=h.Zj.2 j u hj;exact ⟨m,bK.2 (.inl hm),q⟩
 ·rcases hget i m a with ⟨_,a⟩ |⟨a,rfl⟩<;>rcases hget j m' b with ⟨_,b⟩ |⟨b,rfl⟩
  ·exact h.born i j m m' a b e
  ·have:=h.lt m (bT a);simp at e;omega
  ·have:=h.lt m' (bT b);simp at e;omega
  ·omega
 ·rcases bK.1 hm with hm|hm
  ·have:=h.lt m hm;omega
  ·simp at hm;subst hm;simp
theorem EY.set{k:IntKind}{ms:List MapEntry}{clk:Nat}{N:Int->Option Value}(h:EY k ms clk N){n:Int}{i:Nat}{m0:MapEntry}(hi:ms[i]?=ay m0)(hk:m0.key=.int k n)(v:Value){f:MapEntry->MapEntry}
  (hf1:(f m0).key=.int k n) (hf2:(f m0).val=v) (hf3:(f m0).born=m0.born):EY k (ms.modify i f) clk (fun j=>if j=n then ay v else N j):=by
 have hget:∀(j:Nat) (m:MapEntry),(ms.modify i f)[j]?=ay m->(j=i/\m=f m0)\/(j≠i/\ms[j]?=ay m):=fun j m hj=>by
  rw[iy] at hj;by_cases e:i=j
  ·subst e
   rw[hi] at hj;simp at hj;exact .inl ⟨rfl,hj.symm⟩
  ·simp[e] at hj
   exact .inr ⟨fun e2=>e e2.symm,hj⟩
 have hin:∀m∈ms.modify i f,m=f m0\/(m∈ms/\m.key≠.int k n):=fun m hm=>by
  obtain ⟨j,hj⟩:=dB.1 hm;rcases hget j m hj with ⟨_,e⟩ |⟨e,e2⟩
  ·exact .inl e
  ·refine .inr ⟨bT e2,fun e3=>e ?_⟩
   exact h.one j i m m0 e2 hi (e3.trans hk.symm)
 have hkey:∀m∈ms.modify i f,∃n,m.key=.int k n:=fun m hm=>by
  rcases hin m hm with rfl|hm
  ·exact ⟨n,hf1⟩
  ·exact h.key m hm.1
 have hnew:f m0∈ms.modify i f:=by
  refine dB.2 ⟨i,?_⟩;rw[iy];simp[hi]
 have hone:∀(a b:Nat) (m m':MapEntry),(ms.modify i f)[a]?=ay m->(ms.modify i f)[b]?=ay m'->m.key=m'.key->a=b:=fun a b m m' ha hb e=>by
  rcases hget a m ha with ⟨a1,rfl⟩ |⟨a1,a2⟩<;>rcases hget b m' hb with ⟨b1,rfl⟩ |⟨b1,b2⟩
  ·omega
  ·exact (b1 (h.one b i m' m0 b2 hi (e.symm.trans (hf1.trans hk.symm)))).elim
  ·exact (a1 (h.one a i m m0 a2 hi (e.trans (hf1.trans hk.symm)))).elim
  ·exact h.one a b m m' a2 b2 e
 refine ⟨hkey,Xv hkey hone (fun m hm j e=>?_) (fun j u hj=>?_),hone,fun a b m m' ha hb e=>?_,fun m hm=>?_⟩
 ·rcases hin m hm with rfl|⟨hm,hne⟩
  ·rw[hf1] at e;rw[if_pos (int_inj e).symm,hf2]
  ·rw[if_neg fun e2=>by subst e2;exact hne e]
   exact h.Zj.1 m hm j e
 ·by_cases e:j=n
  ·subst e;exact ⟨_,hnew,hf1⟩
  ·rw[if_neg e] at hj
   obtain ⟨m,hm,q,_⟩:=h.Zj.2 j u hj;obtain ⟨a,ha⟩:=dB.1 hm;refine ⟨m,dB.2 ⟨a,?_⟩,q⟩;have hne:¬i=a:=fun e2=>by subst e2;rw[hi] at ha;cases ha;rw[hk] at q;exact e (int_inj q).symm
   rw[iy,ha];simp[hne]
 ·rcases hget a m ha with ⟨a1,rfl⟩ |⟨a1,a2⟩<;>rcases hget b m' hb with ⟨b1,rfl⟩ |⟨b1,b2⟩
  ·omega
  ·exact (b1 (h.born b i m' m0 b2 hi (e.symm.trans hf3))).elim
  ·exact (a1 (h.born a i m m0 a2 hi (e.trans hf3))).elim
  ·exact h.born a b m m' a2 b2 e
 ·rcases hin m hm with rfl|hm
  ·rw[hf3];exact h.lt m0 (bT hi)
  ·exact h.lt m hm.1
theorem EY.del{k:IntKind}{ms:List MapEntry}{clk:Nat}{N:Int->Option Value}(h:EY k ms clk N){n:Int}{i:Nat}{m0:MapEntry}(hi:ms[i]?=ay m0)(hk:m0.key=.int k n):
  EY k (ms.eraseIdx i) clk (fun j=>if j=n then aK else N j):=by
 have hget:∀(j:Nat) (m:MapEntry),(ms.eraseIdx i)[j]?=ay m->ms[if j<i then j else j+1]?=ay m:=fun j m hj=>by
  rw[qI] at hj;split at hj
  ·rename_i e;rw[if_pos e];exact hj
  ·rename_i e;rw[if_neg e];exact hj
 have hne:∀m∈ms.eraseIdx i,m∈ms/\m.key≠.int k n:=fun m hm=>by
  obtain ⟨j,hj⟩:=dB.1 hm;have:=hget j m hj;refine ⟨bT this,fun e=>?_⟩;have:=h.one _ i m m0 this hi (e.trans hk.symm);split at this<;>omega
 have hkey:∀m∈ms.eraseIdx i,∃n,m.key=.int k n:=fun m hm=>h.key m (hne m hm).1;have hone:∀(a b:Nat) (m m':MapEntry),(ms.eraseIdx i)[a]?=ay m->(ms.eraseIdx i)[b]?=ay m'->m.key=m'.key->a=b:=fun a b m m' ha hb e=>by
  have:=h.one _ _ m m' (hget a m ha) (hget b m' hb) e;split at this<;>split at this<;>omega
 refine ⟨hkey,Xv hkey hone (fun m hm j e=>?_) (fun j u hj=>?_),hone,fun a b m m' ha hb e=>?_,fun m hm=>h.lt m (hne m hm).1⟩
 ·rw[if_neg fun e2=>by subst e2;exact (hne m hm).2 e]
  exact h.Zj.1 m (hne m hm).1 j e
 ·by_cases e:j=n
  ·rw[if_pos e] at hj;cases hj
  ·rw[if_neg e] at hj
   obtain ⟨m,hm,q,_⟩:=h.Zj.2 j u hj;obtain ⟨a,ha⟩:=dB.1 hm;have hai:a≠i:=fun e2=>by subst e2;rw[hi] at ha;cases ha;rw[hk] at q;exact e (int_inj q).symm
   refine ⟨m,dB.2 ⟨if a<i then a else a - 1,?_⟩,q⟩;rw[qI];by_cases hlt:a<i
   ·simp[hlt,ha]
   ·rw[if_neg hlt,if_neg (by omega),show a - 1+1=a by omega,ha]
 ·have:=h.born _ _ m m' (hget a m ha) (hget b m' hb) e
  split at this<;>split at this<;>omega
theorem OJ{M:Int->Option Value}{n:Int}{o:Option Value}{uv:List (Int×Option Value)}:TI M ((n,o)::uv)=fun j=>if j=n then o else TI M uv j:=rfl
theorem EY.same{k:IntKind}{ms:List MapEntry}{clk:Nat}{N N':Int->Option Value}(h:EY k ms clk N)(e:∀j,N j=N' j):EY k ms clk N':=by
 have:N=N':=funext e;rw[<-this];exact h
theorem aif{e:Nat}{te:JI}{z:SV}(hte:NC P e te)(hz:pack te.ty.isAgg te.zero=ay z):∃zv:Value,Den H E z zv/\(∀w:World,(zeroValue e).run P w=.ok zv w)/\(te.ty.isAgg=ak->zv.oneCell'=aC):=by
 obtain ⟨inf,zv,h1,h2,_,h4,h5,h6,h7,h8⟩:=hte.info;have h5':Af H E te.zero zv.cells.toList:=h5.le (fun _ _ e=>by cases e) (fun _ _ e=>by cases e);refine ⟨zv,?_,fun w=>by simp[zeroValue,typeInfo,h1,h4],fun ha=>(h8 ha).2⟩;rcases ML hz with ⟨ha,rfl⟩ |⟨ha,hl⟩
 ·obtain ⟨cs,rfl⟩:=h7 ha
  exact ⟨cs,rfl,h5'⟩
 ·rw[hl] at h5'
  have h8:=(h8 ha).2;cases zv with
  |agg cs=>simp[jQ] at h8 |_=>
   simp[mJ,Af] at h5';exact h5'
theorem Xw{es:Array MapEntry}{i:Nat}{f:MapEntry->MapEntry}{m:MapEntry}(h:es[i]?=ay m)(hf:f m=m):es.modify i f=es:=by
 apply Array.ext
 ·simp
 ·intro j h1 h2
  rw[Array.getElem_modify];split
  ·rename_i e
   subst e;have:es[i]=m:=by
    rw[fD h2] at h;cases h;rfl
   rw[this,hf]
  ·rfl
theorem afO{c:Core}{a:Act}{o:Oper}{t:Nat}{x y:Operand}{φ:SV×Core->Prop}(hC:A8 P C)(hd:Af H E c.tm a.tmps.toList)(hh:Ai K H E w c.hp)(hw:DX K H w)(hf:Free E c)
  (ho:o.op=.mapEntry t x y) (h:(NW C c t (Bd c.tm x) (Bd c.tm y)).All φ):G7 P K H E w c a o φ:=by
 have dx:=AV (H:=H) (E:=E) hd x;have dy:=AV (H:=H) (E:=E) hd y;unfold NW at h;split at h
 ·rename_i ti hti
  split at h
  ·rename_i kt e hty
   have ht:=(hC.ty _ _ hti).desc;rw[hty] at ht;have ht:P.underlying t=ay (.map kt e):=ht;split at h
   ·rename_i Z4 te afN hte
    have hk:=(hC.ty _ _ afN).desc;have hte:=hC.ty _ _ hte;split at h
    ·rename_i kk z id j n lit hkk hz hx hy
     rw[hkk] at hk;have hk:P.underlying kt=ay (.int kk):=hk;rw[hx] at dx;obtain ⟨b,he,ex⟩:=dx;have ey:a.eval y=.int j n:=Kv hy dy;split at h
     ·rename_i fk M fs us tag hl
      cases hb:(j==kk&&fk==kk&&z.one&&fV c.nx c.lim)<;>simp only[hb,cond_true,cond_false] at h
      ·exact h.elim
      simp only[aH,beq_iff_eq] at hb;obtain ⟨⟨⟨rfl,rfl⟩,asr⟩,hlt⟩:=hb;have hlt:=EO hlt;obtain ⟨b',ms,clk,fv,uv,he',h1,d1,d2,hM,hok,_,ER⟩:=hh.ent _ _ hl;rw[he] at he';cases he';rw[hC.A] at h;obtain ⟨p,sv,ov,hφ,hpo,hat⟩:=YB hM d2 d1 h;have hg:(getObj b).run P w=.ok (.map ms clk) w:=by simp[getObj,kW,h1]
      have hck:=Ky (P:=P) hk ak fk n w;have hso:∀o',(setObj b o').run P w=.ok () {w with heap:=w.heap.setIfInBounds b o'}:=fun o'=>by simp[setObj,kW,h1]
      obtain ⟨zv,hzd,TJ,hz1⟩:=aif (H:=H) (E:=E) hte hz;have hnone:=hf c.nx (dh _) hlt;have fin:∀(ms':Array MapEntry) (MP:Nat) (v:Value) (bn:Nat),Den H E (bif p then sv else z) v->v.oneCell'=aC->EY fk ms'.toList MP (TI M ((n,ay v)::uv))->(∃m∈ms'.toList,m.key=.int fk n/\m.born=bn)->
        (oO t (.map (ay b)) (.int fk n)).run P w=.ok (.tuple #[v,goInt bn]) {w with heap:=w.heap.setIfInBounds b (.map ms' MP)}->G7 P K H E w c a o φ:=by
       intro ms' MP v bn hv hv1 hok' htag hr;obtain ⟨m,hm,hmk,hmb⟩:=htag;have hle:E.le (E.set c.nx (goInt bn)):=nI hnone;refine ⟨_,.tuple #[v,goInt bn],_,H,E.set c.nx (goInt bn),{w with heap:=w.heap.setIfInBounds b (.map ms' MP)},hφ,⟨_,rfl,hv.le (fun _ _ e=>e) hle,fA _ _ _,trivial⟩,?_,.inl rfl,?_⟩
       ·refine aie (E':=E.set c.nx (goInt bn)) (nx':=c.nx+1) hh hw hl (b:=b) (by simp[AL,he,Ah]) hle (fun i h1 h2=>?_) (fun i h1=>?_) (Nat.le_succ _) (.inl hlt) (fun k hk=>?_) (by simp) rfl rfl rfl ?_ (by simp[AL,hle _ _ he,Ah])
        ·by_cases e:i=c.nx
         ·subst e;omega
         ·simp[nT,e,h1] at h2
        ·by_cases e:i=c.nx
         ·subst e;simp[bk,nT,goInt,Ah]
         ·simp[bk,nT,e,h1]
        ·simp only;rw[EF w b k _ _ h1,if_neg hk]
        ·exact ⟨b,ms',MP,fv,(n,ay v)::uv,hle _ _ he,by simp only;rw[EF w b b _ _ h1,if_pos rfl],d1.le (fun _ _ e=>e) hle,⟨rfl,⟨hv.le (fun _ _ e=>e) hle,hv1⟩,d2.le (fun _ _ e=>e) hle⟩,hM,hok',
          ⟨m,hm,hmk,by rw[fA,hmb];rfl⟩,ER⟩
       ·simp[execOp,ho,ex,ey,hr]
      rw[<-hok.at_] at hat;cases p with
      |true=>
       cases ov with
       |none=>exact hpo.elim |some v=>
        obtain ⟨i,e1,m,e2,e3,e4⟩:=IE hok.key 0 hat;simp only[gJ] at e1;have e2':ms[i]?=ay m:=by simpa using e2
        refine fin ms clk v m.born hpo.1 hpo.2 (hok.same fun k=>?_) ⟨m,bT e2,e3,rfl⟩ ?_
        ·rw[OJ]
         by_cases ek:k=n
         ·subst ek;simp only[if_true];rw[<-hok.at_];exact hat
         ·simp[ek]
        ·have hmod:(ms.modify i fun e=>{key:=.int fk n,val:=e.val,born:=e.born})=ms:=Xw e2' (by cases m;simp at e3;simp[e3])
         simp[oO,run_underlying ht,hg,hck,iq,run_underlying hk,e1,e2',e3,mX,lX,hso,hmod]
      |false=>
       cases ov with
       |some v=>exact hpo.elim |none=>
        have e1:=Kw hok.key 0 hat;rw[hok.at_] at hat;have hz1:zv.oneCell'=aC:=one_cell asr hzd;refine fin (ms.push {key:=.int fk n,val:=zv,born:=clk}) (clk+1) zv clk hzd hz1 (by simpa[OJ] using hok.push hat zv) ⟨{key:=.int fk n,val:=zv,born:=clk},by simp,rfl,rfl⟩ ?_;simp[oO,run_underlying ht,hg,hck,iq,run_underlying hk,e1,TJ,hso]
     ·exact h.elim
    ·exact h.elim
   ·exact h.elim
  ·exact h.elim
 ·exact h.elim
theorem acB{c:Core}{a:Act}{o:Oper}{t:Nat}{x y z:Operand}{φ:SV×Core->Prop}(hd:Af H E c.tm a.tmps.toList)(hh:Ai K H E w c.hp)(hw:DX K H w)
  (ho:o.op=.entryStore t x y z) (h:(KR c (Bd c.tm x) (Bd c.tm y) (Bd c.tm z)).All φ):G7 P K H E w c a o φ:=by
 have dx:=AV (H:=H) (E:=E) hd x;have dy:=AV (H:=H) (E:=E) hd y;have dz:=AV (H:=H) (E:=E) hd z;unfold KR at h;split at h
 ·rename_i id s hx hy
  rw[hx] at dx;rw[hy] at dy;obtain ⟨b,he,ex⟩:=dx;have dy:E s=ay (a.eval y):=dy;split at h
  ·rename_i fk M fs us s' n hl
   cases hb:(s==s'&&(Bd c.tm z).one)<;>simp only[hb,cond_true,cond_false] at h
   ·exact h.elim
   simp only[aH,beq_iff_eq] at hb;obtain ⟨rfl,hone⟩:=hb;obtain ⟨b',ms,clk,fv,uv,he',h1,d1,d2,hM,hok,⟨m,hm,hmk,hms⟩,ER⟩:=hh.ent _ _ hl;rw[he] at he';cases he';rw[dy] at hms;have ey:a.eval y=.int .i64 m.born:=dD hms;have hg:(getObj b).run P w=.ok (.map ms clk) w:=by simp[getObj,kW,h1]
   have hso:∀o',(setObj b o').run P w=.ok () {w with heap:=w.heap.setIfInBounds b o'}:=fun o'=>by simp[setObj,kW,h1]
   obtain ⟨i,hi⟩:=dB.1 hm;have hi':ms[i]?=ay m:=by simpa using hi
   have hfind:ms.findIdx? (fun e=>(e.born:Int)==m.born)=ay i:=by
    rw[Array.findIdx?_eq_some_iff_getElem];have hlt:=(bG.1 hi').1;refine ⟨hlt,by rw[(bG.1 hi').2];simp,fun j hj=>?_⟩;have hjl:j<ms.size:=by omega
    intro e;have e:ms[j].born=m.born:=by simp only[beq_iff_eq] at e;exact kT e
    have:=hok.born j i ms[j] m (by simp[hjl]) hi e;omega
   refine ⟨_,undef,_,H,E,{w with heap:=w.heap.setIfInBounds b (.map (ms.modify i fun e=>{e with val:=a.eval z}) clk)},h,trivial,?_,.inr ⟨rfl,rfl⟩,?_⟩
   ·refine JU hh hw hl (b:=b) (by simp[AL,he,Ah]) (fun k hk=>?_) (by simp) rfl rfl rfl ?_ (by simp[AL,he,Ah])
    ·simp only;rw[EF w b k _ _ h1,if_neg hk]
    ·refine ⟨b,_,clk,fv,(n,ay (a.eval z))::uv,he,by simp only;rw[EF w b b _ _ h1,if_pos rfl],d1,⟨rfl,⟨dz,one_cell hone dz⟩,d2⟩,hM,?_,⟨{m with val:=a.eval z},?_,hmk,by rw[dy,ey]⟩,ER⟩
     ·have:=hok.set hi hmk (a.eval z) (f:=fun e=>{e with val:=a.eval z}) hmk rfl rfl
      simpa[OJ] using this
     ·rw[Array.toList_modify]
      refine dB.2 ⟨i,?_⟩;rw[iy,hi];simp
   ·simp[execOp,ho,Instr.entryStore,ex,ey,hg,asInt,asIntOf,hfind,hso]
  ·exact h.elim
 ·exact h.elim
theorem ak7{c:Core}{a:Act}{o:Oper}{t:Nat}{ts:Array TypeId}{x y:Operand}{φ:SV×Core->Prop}(hC:A8 P C)(hd:Af H E c.tm a.tmps.toList)(hh:Ai K H E w c.hp)(hw:DX K H w)
  (ho:o.op=.call {callee:=.builtin .delete,args:=#[x,y],argTypes:=ts}) (hts:ts[0]?=ay t) (h:(QU C c t (Bd c.tm x) (Bd c.tm y)).All φ):G7 P K H E w c a o φ:=by
 have dx:=AV (H:=H) (E:=E) hd x;have dy:=AV (H:=H) (E:=E) hd y;unfold QU at h;split at h
 ·rename_i ti hti
  split at h
  ·rename_i kt e hty
   have ht:=(hC.ty _ _ hti).desc;rw[hty] at ht;have ht:P.underlying t=ay (.map kt e):=ht;split at h
   ·rename_i Z4 afN
    have hk:=(hC.ty _ _ afN).desc;split at h
    ·rename_i kk id j n lit hkk hx hy
     rw[hkk] at hk;have hk:P.underlying kt=ay (.int kk):=hk;rw[hx] at dx;obtain ⟨b,he,ex⟩:=dx;have ey:a.eval y=.int j n:=Kv hy dy;split at h
     ·rename_i fk M fs us tag hl
      cases hb:(j==kk&&fk==kk)<;>simp only[hb,cond_true,cond_false] at h
      ·exact h.elim
      simp only[aH,beq_iff_eq] at hb;obtain ⟨rfl,rfl⟩:=hb;obtain ⟨b',ms,clk,fv,uv,he',h1,d1,d2,hM,hok,_,ER⟩:=hh.ent _ _ hl;rw[he] at he';cases he';have hg:(getObj b).run P w=.ok (.map ms clk) w:=by simp[getObj,kW,h1]
      have hck:=fun em=>Ky (P:=P) hk em fk n w;have hso:∀o',(setObj b o').run P w=.ok () {w with heap:=w.heap.setIfInBounds b o'}:=fun o'=>by simp[setObj,kW,h1]
      have fin:∀(ms':Array MapEntry),EY fk ms'.toList clk (TI M ((n,aK)::uv))->(nU ts o.type #[.map (ay b),.int fk n]).run P w=.ok (.tuple #[]) {w with heap:=w.heap.setIfInBounds b (.map ms' clk)}->G7 P K H E w c a o φ:=by
       intro ms' hok' hr;refine ⟨_,.tuple #[],_,H,E,{w with heap:=w.heap.setIfInBounds b (.map ms' clk)},h,trivial,?_,.inl rfl,?_⟩
       ·refine JU hh hw hl (b:=b) (by simp[AL,he,Ah]) (fun k hk=>?_) (by simp) rfl rfl rfl ?_ (by simp[AL,he,Ah])
        ·simp only;rw[EF w b k _ _ h1,if_neg hk]
        ·exact ⟨b,ms',clk,fv,(n,aK)::uv,he,by simp only;rw[EF w b b _ _ h1,if_pos rfl],d1,⟨rfl,trivial,d2⟩,hM,hok',trivial,ER⟩
       ·simp only[execOp,ho,resolve]
        simp[invoke,builtin,ex,ey,hr]
      cases hat:Iu fk n ms.toList with
      |some v=>
       obtain ⟨i,e1,m,e2,e3,e4⟩:=IE hok.key 0 hat;simp only[gJ] at e1;refine fin (ms.eraseIdxIfInBounds i) ?_ ?_
       ·have:=hok.del e2 e3
        simpa[OJ,Array.toList_eraseIdxIfInBounds] using this
       ·simp[nU,hts,run_underlying ht,hg,hck,iq,run_underlying hk,e1,hso]
      |none=>
       have e1:=Kw hok.key 0 hat;refine fin ms ?_ ?_
       ·refine hok.same fun k=>?_
        rw[OJ];by_cases ek:k=n
        ·subst ek;simp only[if_true];rw[<-hok.at_];exact hat
        ·simp[ek]
       ·simp[nU,hts,run_underlying ht,hg,hck,iq,run_underlying hk,e1,hso]
     ·exact h.elim
    ·exact h.elim
   ·exact h.elim
  ·exact h.elim
 ·exact h.elim
end
end Go.Sx
