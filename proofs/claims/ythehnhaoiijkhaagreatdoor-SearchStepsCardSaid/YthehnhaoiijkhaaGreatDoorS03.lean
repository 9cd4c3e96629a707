/- Own work. -/
import Derived.Test.YthehnhaoiijkhaaGreatDoorS02
import Derived.Lib.AppendStr
import Derived.Lib.ConvBytes
import Derived.Laws.BytesString
open Int (ofNat)
open Array renaming length_toList->bV,getElem?_toList->dX,getElem?_eq_getElem->fF,getD_eq_getD_getElem?->iM,size_append->oC,ext'->zn,getElem?_eq_some_iff->bH
open Bool renaming true->aF,and_eq_true->aJ,false->aA
open ByteArray renaming size->nS
open Go.Addr renaming add->nG,add_lit->eU
open Go.Builtin renaming append_->eF,lenOf->kW,firstCells->gG,zeroCells->jh,delete_->oG
open Go.Instr renaming buildSlice->uI,findNow->dP,sameNow->dZ,sameBits->mJ,mapUpdate->jD,findKey->iD,keyThatStays->nH,mapEntry->pJ
open Go.Program renaming elem->wz
open Go.Question renaming forced->sW
open Go.Sem renaming run->lC
open Go.Sx.Env renaming set_self->fB,aeX->nT,set->oD
open Go.Sx.Post renaming refl->pI
open Go.Value renaming int->iU,oneCell'->jW,cells->mZ
open Go.World renaming ownsRow_lit->tK
open Int renaming toNat_natCast->fK
open Int.ofNat renaming inj->kZ
open List renaming eq_nil_of_length_eq_zero->kC,size_toArray->gW,toList_toArray->sV,length_append->bf,length_take->cu,length_drop->dS,mem_iff_getElem?->dG,mem_of_getElem?->bP,append_assoc->dV,getElem?_append_left->dM,getElem?_take->bZ,getElem?_append_right->fD,getElem?_drop->eH,getElem?_eq_some_iff->aQ,getElem?_append->kQ,length_nil->qE,take_left->lD,range->aY,mem_append->bK,mem_cons_of_mem->dB,mem_cons_self->cO,getElem?_modify->iF,getElem?_eraseIdx->qZ
open List.cons renaming injEq->qK
open Nat renaming le_refl->dw,zero_le->gV,add_mul->gB,mul_le_mul_right->dR,add_zero->jB,ble->gY,le_of_ble_eq_true->fP,one_mul->iI,min_eq_left->qV,add_comm->zl,zero_add->gU,mod_eq_of_lt->iG,mod_lt->zN,blt->fZ,mul_comm->lX,mul_add_mod->wW,add_assoc->jX,sub_zero->uH
open Option renaming some->ay,none->aN,map_eq_some_iff->bW,bind_some->eP,map_some->lU,map_none->uJ
open Option.some renaming injEq->kU,inj->dH
open Prod.mk renaming injEq->jU
open UInt8 renaming ofNat->kG
namespace Go.Sx
section
variable{P:Program}{C:Ctx}{K:Kx}{H H':Mem}{E E':Env}{w w':World}
theorem RQ(t ty e:TypeId)(i:TypeInfo)(z:Value)(size bytes:Nat)(ht:P.underlying t=ay (.slice e))(hi:P.info? e=ay i)(hz:i.zero=ay z)
  (hsize:i.size=size) (hby:i.bytes=bytes) (hzs:z.cells.size=size) (hsz:0<size) (v:Value) (n:Nat) (xs:List Value) (hown:w.ownsRow 0 e size v n xs)
  (a:Addr) (m c:Nat) (news:List Value) (hl:news.length=m*size) (hnews:∀j u,news[j]?=ay u->w.cell? (a.add j)=ay u) (h1:∀u∈news,u.oneCell'=aF)
  (h63:n+m<=maxLen) (hbytes:(n+m)*bytes<=140737488355328) :
  ∃v' w',(eF #[t,t] ty #[v,.slice (ay a) m c]).run P w=.ok v' w'/\w'.ownsRow 0 e size v' (n+m) (xs++news)/\w.grownBy w' (AY v)/\
   ∀b,AY v'=ay b->AY v=ay b\/w.heap.size<=b:=by
 have hsmall:n+m<=9223372036854775807:=by simp only[maxLen] at h63;omega
 rcases hown.2 with ⟨rfl,rfl⟩ |⟨g,cap,cur,rfl,_,hg,hnc,hcm,hcs,htake⟩
 ·obtain ⟨v',w',hr,ho,hgr,_⟩:=run_append_own (P:=P) w w.heap.size t ty e i z size bytes ht hi hz hsize hby hzs hsz (.slice aN 0 0) 0 xs ⟨hown.1,.inl ⟨rfl,rfl⟩⟩ a m c news hl hnews h1 h63 hbytes (dw _)
  refine ⟨v',w',hr,⟨ho.1,?_⟩,hgr,fun b hb=>.inr ?_⟩
  ·rcases ho.2 with h|⟨g,cap,cur,h2,_,h4⟩
   ·exact .inl h
   ·exact .inr ⟨g,cap,cur,h2,gV _,h4⟩
  ·rcases ho.2 with ⟨rfl,_⟩ |⟨g,cap,cur,rfl,hge,h4⟩
   ·simp[AY] at hb
   ·simp[AY] at hb;omega
 ·obtain ⟨v',w',hr,ho,hgr,_⟩:=run_append_own (P:=P) w 0 t ty e i z size bytes ht hi hz hsize hby hzs hsz _ n xs hown a m c news hl hnews h1 h63 hbytes (gV _)
  refine ⟨v',w',hr,ho,hgr,fun b hb=>?_⟩;subst hsize hby
  by_cases hroom:n+m<=cap
  ·have hfit:n*i.size+news.length<=cur.size:=by rw[hl,hcs,<-gB];exact dR _ hroom
   have hr2:=run_append_room (P:=P) w t ty e i ht hi g n cap cur hg a m c news hl hnews h1 hroom hfit;rw[hr2] at hr;cases hr;simp[AY] at hb;subst hb;exact .inl rfl
  ·have holds:∀j u,xs[j]?=ay u->w.cell? ((⟨g,0,aN⟩:Addr).add j)=ay u:=hown.cells (g:=g) rfl
   have hr2:=run_append_grow (P:=P) w t ty e i z ht hi hz ⟨g,0,aN⟩ n cap xs hown.1 holds a m c news hl hnews (by omega) (by omega) (growslice_fits (by omega) hbytes);rw[hr2] at hr;cases hr;simp[AY] at hb;exact .inr (by omega)
theorem agm(t ty e:TypeId)(i:TypeInfo)(z:Value)(size bytes:Nat)(ht:P.underlying t=ay (.slice e))(hi:P.info? e=ay i)(hz:i.zero=ay z)
  (hsize:i.size=size) (hby:i.bytes=bytes) (hzs:z.cells.size=size) (hsz:0<size) (v:Value) (n:Nat) (xs:List Value) (hown:w.ownsRow 0 e size v n xs)
  (x:Value) (m:Nat) (news:List Value) (hx:(m=0/\∃A c,x=.slice A 0 c)\/(∃a c,x=.slice (ay a) m c/\∀j u,news[j]?=ay u->w.cell? (a.add j)=ay u)) (hl:news.length=m*size) (h1:∀u∈news,u.oneCell'=aF)
  (h63:n+m<=maxLen) (hbytes:(n+m)*bytes<=140737488355328) :
  ∃v' w',(eF #[t,t] ty #[v,x]).run P w=.ok v' w'/\w'.ownsRow 0 e size v' (n+m) (xs++news)/\w.grownBy w' (AY v)/\
   ∀b,AY v'=ay b->AY v=ay b\/w.heap.size<=b:=by
 rcases hx with ⟨rfl,A,c,rfl⟩ |⟨a,c,rfl,hc⟩
 ·have hn:news=[]:=kC (by simpa using hl)
  subst hn;cases A with
  |some a=>exact RQ t ty e i z size bytes ht hi hz hsize hby hzs hsz v n xs hown a 0 c [] (by simp) (by simp) (by simp) h63 hbytes |none=>
   have hr:(eF #[t,t] ty #[v,.slice aN 0 c]).run P w=.ok v w:=by
    rcases hown.2 with ⟨rfl,rfl⟩ |⟨g,cap,cur,rfl,_,_,hnc,_⟩
    ·simp[eF,run_underlying ht,sizeOf,typeInfo,hi,kW,gG]
    ·simp[eF,run_underlying ht,sizeOf,typeInfo,hi,kW,gG,hnc,storeCells]
   exact ⟨v,w,hr,by simpa using hown,⟨rfl,rfl,rfl,dw _,fun _ _ _=>rfl⟩,fun b hb=>.inl hb⟩
 ·exact RQ t ty e i z size bytes ht hi hz hsize hby hzs hsz v n xs hown a m c news hl hc h1 h63 hbytes
mutual
theorem MV{hp:List (Nat×SB)}(hh:AZ K H E w hp):∀{x:SV} {s:Sh} {u:Value},Ee hp x=ay s->Den H E x u->Rep H s u
 | .int k n,s,u,h,hd=>by simp[Ee] at h;subst h;simp only[Den] at hd;subst hd;exact .i k n | .sym k n,s,u,h,hd=>by simp[Ee] at h;subst h;simp only[Den] at hd;subst hd;exact .i k n | .bool b,s,u,h,hd=>by simp[Ee] at h;subst h;simp only[Den] at hd;subst hd;exact .b b | .test b,s,u,h,hd=>by simp[Ee] at h;subst h;simp only[Den] at hd;subst hd;exact .b b | .str l,s,u,h,hd=>by simp[Ee] at h;subst h;simp only[Den] at hd;subst hd;exact .str l | .val v,s,u,h,hd=>by simp[Ee] at h;subst h;obtain ⟨rfl,h1⟩:=hd;exact .v _ h1 | .Fg,s,u,h,hd=>by simp[Ee] at h;subst h;simp only[Den] at hd;subst hd;exact .v _ rfl | .GN,s,u,h,hd=>by simp[Ee] at h;subst h;simp only[Den] at hd;subst hd;exact .v _ rfl | .Ed,s,u,h,hd=>by simp[Ee] at h;subst h;simp only[Den] at hd;subst hd;exact .v _ rfl | .Bj,s,u,h,hd=>by simp[Ee] at h;subst h;simp only[Den] at hd;subst hd;exact .sl0 _ _ _ _ (gV _) | .sh s',s,u,h,hd=>by simp[Ee] at h;subst h;exact hd | .agg l,s,u,h,hd=>by
  simp only[Ee,bW] at h;obtain ⟨l',h1,rfl⟩:=h;obtain ⟨vs,rfl,hl⟩:=hd;have hr:=EC hh h1 hl;exact .agg _ _ (by rw[<-bV];exact hr.length) fun j s v e1 e2=>hr.at_ e1 (by simpa using e2)
 | .Ba l,s,u,h,hd=>by
  simp only[Ee,bW] at h;obtain ⟨l',h1,rfl⟩:=h;obtain ⟨vs,rfl,hl⟩:=hd;have hr:=EC hh h1 hl;exact .Ba _ _ (by rw[<-bV];exact hr.length) fun j s v e1 e2=>hr.at_ e1 (by simpa using e2)
 | .fn f l,s,u,h,hd=>by
  simp only[Ee,bW] at h;obtain ⟨l',h1,rfl⟩:=h;obtain ⟨vs,rfl,hl⟩:=hd;have hr:=EC hh h1 hl;exact .fn _ _ _ (by rw[<-bV];exact hr.length) fun j s v e1 e2=>hr.at_ e1 (by simpa using e2)
 | .Dv t x,s,u,h,hd=>by
  simp only[Ee,bW] at h;obtain ⟨s',h1,rfl⟩:=h;obtain ⟨v,rfl,hl⟩:=hd;exact .Dv _ _ _ (MV hh h1 hl)
 | .gs id,s,u,h,hd=>by
  simp only[Ee] at h;split at h
  ·rename_i st m g hl
   cases h;obtain ⟨v,he,hr⟩:=hh.ent _ _ hl;rw[hd.1] at he;cases he;exact hr
  ·cases h
 | .any,s,u,h,hd=>by simp[Ee] at h | .ptr id off,s,u,h,hd=>by
  simp only[Ee] at h;split at h
  ·rename_i l hl
   cases hb:(off==0)<;>simp only[hb,cond_true,cond_false] at h
   ·cases h
   ·cases h
    obtain rfl:off=0:=by simpa using hb
    obtain ⟨v,he,hr⟩:=hh.ent _ _ hl;obtain ⟨b,h1,rfl⟩:=hd;cases hr with
    |pt _ b2 off2 c a1 a2 a3=>
     rw[he] at h1;simp only[eP] at h1;have h02:b2=b/\off2=0:=by
      unfold AY at h1;split at h1<;>simp_all
     obtain ⟨rfl,rfl⟩:=h02;exact .pt _ _ _ c a1 a2 a3
  ·cases h
 | .gp _ _ _ _,s,u,h,hd=>by simp[Ee] at h | .F6,s,u,h,hd=>by simp[Ee] at h | .mp _,s,u,h,hd=>by simp[Ee] at h | .G5 st n g i off,s,u,h,hd=>by
  simp only[Ee] at h;cases hb:(off==0&&(g i).length==st)<;>simp only[hb,cond_true,cond_false] at h
  ·cases h
  ·cases h
   simp only[aJ,beq_iff_eq] at hb;obtain ⟨rfl,h1⟩:=hb;obtain ⟨b,o,c,rfl,_,h3,h4,h5⟩:=hd;exact .pt _ _ _ c (fun j hj=>(h4 j (by omega)).1) (fun j hj=>(h4 j (by omega)).2) h5
 | .glob _,s,u,h,hd=>by simp[Ee] at h | .ev _,s,u,h,hd=>by simp[Ee] at h | .vw _ _,s,u,h,hd=>by simp[Ee] at h
theorem EC{hp:List (Nat×SB)}(hh:AZ K H E w hp):∀{l:List SV} {l':List Sh} {vs:List Value},IB hp l=ay l'->AV H E l vs->D9 H l' vs
 |[],l',[],h,_=>by simp[IB] at h;subst h;trivial |x::l,l',v::vs,h,⟨h1,h2⟩=>by
  simp only[IB] at h;split at h
  ·rename_i s r e1 e2
   cases h;exact ⟨MV hh e1 h1,EC hh e2 h2⟩
  ·cases h
 |[],_,_::_,_,h=>h.elim |_::_,_,[],_,h=>h.elim
end
theorem anw{c:Core}{a:Act}{o:Oper}{t:Nat}{x y:Operand}{φ:SV×Core->Prop}(hC:BL P C)(hd:AV H E c.tm a.tmps.toList)(hh:AZ K H E w c.hp)(hw:Es K H w)
  (ho:o.op=.store t x y) (h:(UM C c t (BP c.tm x) (BP c.tm y)).All φ):Ia P K H E w c a o φ:=by
 have dx:=BJ (H:=H) (E:=E) hd x;have dy:=BJ (H:=H) (E:=E) hd y;unfold UM at h;split at h
 ·rename_i i hi
  have ht:=hC.ty _ _ hi;cases hb:((BP c.tm y).cells.length==i.size&&FU (BP c.tm y).cells)<;>simp only[hb,cond_true,cond_false] at h
  ·exact h.elim
  simp only[aJ,beq_iff_eq] at hb;obtain ⟨hlen,hone⟩:=hb;have avP:(BP c.tm y).ZT=aF:=by
   cases hy:BP c.tm y<;>rw[hy] at hone<;>simp[SV.cells,FU,SV.one] at hone<;>simp[SV.ZT]
   rename_i s;cases s<;>simp at hone ⊢
  have dcs:=OH avP dy;have hcl:=dcs.length;have hoc:=FC hone dcs;have hrun:∀(b off:Nat) (cur:Array Value) (e:Nat),a.eval x=.pointer (ay ⟨b,off,aN⟩)->w.heap[b]?=ay (.cells cur e (0,0))->off+i.size<=cur.size->
    (execOp a.eval o).run P w=.ok .skip (w.setRow b (cur.toList.take off++(a.eval y).cells.toList++cur.toList.drop (off+(a.eval y).cells.toList.length)).toArray):=by
   intro b off cur e ex hcur hle;have hs:=run_storeCells_at P b off e (a.eval y).cells.toList 0 cur w hcur (by rw[hcl,hlen];simpa using hle) hoc;have hsz:(a.eval y).cells.size=i.size:=by rw[<-bV,hcl,hlen]
   simp only[jB] at hs;simp[execOp,ho,Instr.storeAt,ex,Instr.sureAddr,storeVar,Jz ht,hsz,hs]
  split at h
  ·rename_i id off hx
   rw[hx] at dx;obtain ⟨b,hbk,ex⟩:=dx;split at h
   ·rename_i cells e hl
    cases hle:gY (off+i.size) cells.length<;>simp only[hle,cond_true,cond_false] at h
    ·exact h.elim
    have hle:=fP hle;obtain ⟨b',cs,he,h1,h2,h3⟩:=hh.ent _ _ hl;simp only[he,eP,AY,kU] at hbk;subst hbk;have hl2:=h2.length;rw[bV] at hl2;refine ⟨_,undef,_,H,E,_,h,trivial,?_,.inr ⟨rfl,rfl⟩,hrun b' off cs e ex h1 (by omega)⟩;refine KC hh hw hl (b:=b') (by simp[Bv,he,AY]) (fun k hk=>setRow_other w b' k _ hk) (setRow_size _ _ _) rfl rfl rfl ?_ (by simp[Bv,he,AY]);refine ⟨b',_,he,setRow_heap w b' cs _ e _ h1,?_,h3⟩;exact Y9 h2 dcs (by omega)
   ·rename_i cells e st n hl
    cases hle:gY (off+i.size) cells.length<;>simp only[hle,cond_true,cond_false] at h
    ·exact h.elim
    have hle:=fP hle;obtain ⟨v,xs,he,h1,h2,h3⟩:=hh.ent _ _ hl;simp only[he,eP] at hbk;have hl2:=h2.length;obtain ⟨hx1,hx2⟩:=h1;rcases hx2 with ⟨rfl,_⟩ |⟨g,cap,cur,rfl,hg0,hg1,hg2,hg3,hg4,hg5⟩
    ·simp[AY] at hbk
    simp[AY] at hbk;subst hbk;have hmul:n*st<=cap*st:=dR _ hg2;have hcur:cur.toList.length=cap*st:=by rw[bV];exact hg4
    have hlc:(a.eval y).cells.toList.length=i.size:=by rw[hcl,hlen]
    refine ⟨_,undef,_,H,E,_,h,trivial,?_,.inr ⟨rfl,rfl⟩,hrun g off cur e ex hg1 (by omega)⟩;refine KC hh hw hl (b:=g) (by simp[Bv,he,AY]) (fun k hk=>setRow_other w g k _ hk) (setRow_size _ _ _) rfl rfl rfl ?_ (by simp[Bv,he,AY]);refine ⟨_,xs.take off++(a.eval y).cells.toList++xs.drop (off+(a.eval y).cells.toList.length),he,⟨?_,.inr ⟨g,cap,_,rfl,hg0,setRow_heap w g cur _ e _ hg1,hg2,hg3,?_,?_⟩⟩,Y9 h2 dcs (by omega),h3⟩
    ·rw[G7 _ _ _ (by omega)];exact hx1
    ·rw[gW,G7 _ _ _ (by rw[hlc,hcur];omega)];exact hcur
    ·rw[sV,WE _ _ _ _ (by rw[hlc];omega) (by rw[hcur];omega),hg5]
   ·exact h.elim
  ·rename_i id st j off hx
   rw[hx] at dx;obtain ⟨b,v0,he0,hbk,hj,ex⟩:=dx;split at h
   ·rename_i e st' n g hl
    cases hb:(st==st'&&gY (off+i.size) st)<;>simp only[hb,cond_true,cond_false] at h
    ·exact h.elim
    simp only[aJ,beq_iff_eq] at hb;obtain ⟨rfl,hle⟩:=hb;have hle:=fP hle;split at h
    ·rename_i l hsl
     rw[hC.A] at h;obtain ⟨v,xs,he,h1,h2,h3⟩:=hh.ent _ _ hl;rw[he0] at he;cases he;obtain ⟨hx1,hx2⟩:=h1;rcases hx2 with ⟨rfl,_⟩ |⟨bg,cap,cur,rfl,hg0,hg1,hg2,hg3,hg4,hg5⟩
     ·simp[AY] at hbk
     simp[AY] at hbk;subst hbk;have hj:j<n:=hj;have hmul:n*st<=cap*st:=dR _ hg2;have hjs:j*st+st<=n*st:=by
      calc j*st+st=(j+1)*st:=by rw[gB,iI]
       _<=n*st:=dR _ hj
     have hcur:cur.toList.length=cap*st:=by rw[bV];exact hg4
     have hlc:(a.eval y).cells.toList.length=i.size:=by rw[hcl,hlen]
     have hrep:=EC hh hsl dcs;have hll:l.length=i.size:=by rw[<-hrep.length];exact hlc
     refine ⟨_,undef,_,H,E,_,h,trivial,?_,.inr ⟨rfl,rfl⟩,hrun bg (j*st+off) cur e ex hg1 (by rw[<-bV,hcur];omega)⟩;refine KC hh hw hl (b:=bg) (by simp[Bv,he0,AY]) (fun k hk=>setRow_other w bg k _ hk) (setRow_size _ _ _) rfl rfl rfl ?_ (by simp[Bv,he0,AY]);refine ⟨_,xs.take (j*st+off)++(a.eval y).cells.toList++xs.drop (j*st+off+(a.eval y).cells.toList.length),he0,⟨?_,.inr ⟨bg,cap,_,rfl,hg0,setRow_heap w bg cur _ e _ hg1,hg2,hg3,?_,?_⟩⟩,?_,h3⟩
     ·rw[G7 _ _ _ (by omega)];exact hx1
     ·rw[gW,G7 _ _ _ (by rw[hlc,hcur];omega)];exact hcur
     ·rw[sV,WE _ _ _ _ (by rw[hlc];omega) (by rw[hcur];omega),hg5]
     ·obtain ⟨r1,r2,r3,r4⟩:=h2
      refine ⟨by rw[G7 _ _ _ (by omega)];exact r1,fun k hk=>?_,fun u hu=>?_,fun k m s u hk e1 e2=>?_⟩
      ·have:=r2 k hk
       simp only[Aw];split
       ·rw[bf,bf,cu,dS,hll];omega
       ·exact this
      ·obtain ⟨m,hm⟩:=dG.1 hu
       rw[Ld _ _ _ _ (by omega)] at hm;split at hm
       ·exact hoc u (bP hm)
       ·exact r3 u (bP hm)
      ·rw[Ld _ _ _ _ (by omega)] at e2
       have hkl:(if k=j then (g k).take off++l++(g k).drop (off+l.length) else g k)[m]?=ay s:=e1;have hg:=r2 k hk;by_cases hkj:k=j
       ·subst hkj
        rw[if_pos rfl] at hkl;by_cases c1:m<off
        ·rw[dV,dM (by rw[cu];omega),bZ,if_pos c1] at hkl
         rw[if_neg (by omega)] at e2;exact r4 k m s u hk hkl e2
        ·by_cases c2:m<off+l.length
         ·rw[dV,fD (by rw[cu];omega),cu,qV (by omega),dM (by omega)] at hkl
          rw[if_pos (by omega)] at e2;have:k*st+m - (k*st+off)=m - off:=by omega
          rw[this] at e2;exact hrep.at_ hkl e2
         ·rw[fD (by rw[bf,cu];omega),eH,bf,cu,qV (by omega)] at hkl
          have hm:off+l.length+(m - (off+l.length))=m:=by omega
          rw[hm] at hkl;have hml:m<st:=by rw[<-hg];exact (aQ.1 hkl).1
          rw[if_neg (by omega)] at e2;exact r4 k m s u hk hkl e2
       ·rw[if_neg hkj] at hkl
        have hml:m<st:=by rw[<-hg];exact (aQ.1 hkl).1
        rw[if_neg ?_] at e2
        ·exact r4 k m s u hk hkl e2
        ·intro hc
         rcases Nat.lt_or_gt_of_ne hkj with q|q
         ·have:k*st+st<=j*st:=by
           calc k*st+st=(k+1)*st:=by rw[gB,iI]
            _<=j*st:=dR _ q
          omega
         ·have:j*st+st<=k*st:=by
           calc j*st+st=(j+1)*st:=by rw[gB,iI]
            _<=k*st:=dR _ q
          omega
    ·exact h.elim
   ·exact h.elim
  ·exact h.elim
 ·exact h.elim
theorem Qo(st:Nat):∀(n:Nat) (l:List Sh) (i:Nat),i<n->BD (chunks st n l) i=(l.drop (i*st)).take st
 |n+1,l,0,_=>by simp[BD,chunks] |n+1,l,i+1,h=>by
  have ih:=Qo st n (l.drop st) i (by omega);simp only[BD,chunks,List.getD_cons_succ] at ih ⊢;rw[ih,List.drop_drop];congr 2;rw[gB,iI,zl]
theorem JU{st n:Nat}{l:List Sh}{xs:List Value}(hl:xs.length=n*st)(hr:D9 H l xs)(h1:∀u∈xs,u.oneCell'=aF):CQ H st n (BD (chunks st n l)) xs:=by
 have hll:=hr.length;have hle:∀i,i<n->i*st+st<=n*st:=fun i hi=>by
  calc i*st+st=(i+1)*st:=by rw[gB,iI]
   _<=n*st:=dR _ hi
 refine ⟨hl,fun i hi=>?_,h1,fun i j s v hi e1 e2=>?_⟩
 ·rw[Qo _ _ _ _ hi,cu,dS]
  have:=hle i hi;omega
 ·rw[Qo _ _ _ _ hi,bZ] at e1
  split at e1
  ·rw[eH] at e1
   exact hr.at_ e1 e2
  ·cases e1
theorem ML{st n elem:Nat}{g:Nat->List Sh}{v:Value}{xs:List Value}(ho:w.ownsRow 0 elem st v n xs)(hr:CQ H st n g xs)(hon:∀b,AY v=ay b->H b=w.heap[b]?):Rep H (.sl st n g) v:=by
 obtain ⟨h1,h2⟩:=ho;rcases h2 with ⟨rfl,rfl⟩ |⟨b,cap,cur,rfl,_,hb,hn,hc,hs,ht⟩
 ·exact .sl0 _ _ _ _ (gV _)
 ·have hx:∀i j,i<n->j<st->xs[i*st+j]?=ay (xs.getD (i*st+j) undef):=fun i j hi hj=>by
   have:i*st+j<xs.length:=by
    rw[h1];calc i*st+j<i*st+st:=by omega
     _=(i+1)*st:=by rw[gB,iI]
     _<=n*st:=dR _ hi
   rw[List.getD_eq_getElem?_getD,List.getElem?_eq_getElem this];rfl
  refine .sl st n g b 0 cap (fun i j=>xs.getD (i*st+j) undef) hn hc hr.2.1 (fun i j hi hj=>?_) (fun i j hi hj=>hr.2.2.1 _ (bP (hx i j hi hj))) fun i j s hi e=>?_
  ·have e:=hx i j hi hj
   rw[<-ht,bZ] at e;split at e
   ·have hH:H b=ay (.cells cur elem (0,0)):=by rw[hon b rfl,hb]
    rw[dX] at e;simp only[hcell,hH,gU];rw[e,ht]
   ·cases e
  ·have hj:j<st:=by rw[<-hr.2.1 i hi];exact (aQ.1 e).1
   exact hr.2.2.2 i j s _ hi e (hx i j hi hj)
def Mem.add(H:Mem)(w:World)(b:Option Nat):Mem:=fun k=>if b=ay k then w.heap[k]? else H k
structure U4(H':Mem)(E:Env)(hp hp':List (Nat×SB)):Prop where
 keep:∀id sb b,AA hp id=ay sb->Bv E id sb=ay b->H' b≠aN\/AA hp' id=ay sb
 old:∀id sb,AA hp' id=ay sb->∃sb0,AA hp id=ay sb0/\∀b,Bv E id sb=ay b->Bv E id sb0=ay b
theorem U4.refl(H':Mem)(E:Env)(hp:List (Nat×SB)):U4 H' E hp hp:=⟨fun _ _ _ h _=>.inr h,fun _ sb h=>⟨sb,h,fun _ h=>h⟩⟩
theorem U4.trans{H1 H2:Mem}{hp hp1 hp2:List (Nat×SB)}(h1:U4 H1 E hp hp1)(h2:U4 H2 E hp1 hp2)(hle:H1.le H2):U4 H2 E hp hp2:=
 ⟨fun id sb b a1 a2=>by
  rcases h1.keep id sb b a1 a2 with h|h
  ·cases hb:H1 b with
   |none=>exact (h hb).elim |some o=>exact .inl (by rw[hle b o hb];simp)
  ·exact h2.keep id sb b h a2,fun id sb h=>by
  obtain ⟨s1,a1,a2⟩:=h2.old id sb h;obtain ⟨s0,b1,b2⟩:=h1.old id s1 a1;exact ⟨s0,b1,fun b hb=>b2 b (a2 b hb)⟩⟩
theorem anz{hp:List (Nat×SB)}{id:Nat}{sb nb:SB}{v:Value}(hh:AZ K H E w hp)(hw:Es K H w)(hl:AA hp id=ay sb)
  (hm:∀b,AY v=ay b->Mine K H b) (agn:Bv E id sb=AY v) (hnb:Bv E id nb=aN) (hent:H.le (H.add w (AY v))->GV K (H.add w (AY v)) E w id nb) :
  H.le (H.add w (AY v))/\AZ K (H.add w (AY v)) E w (hset hp id nb)/\Es K (H.add w (AY v)) w/\U4 (H.add w (AY v)) E hp (hset hp id nb):=by
 have hle:H.le (H.add w (AY v)):=fun b o hb=>by
  unfold Mem.add;split
  ·rename_i e
   have:=(hm b e).1;rw[hb] at this;cases this
  ·exact hb
 have hfin:U4 (H.add w (AY v)) E hp (hset hp id nb):=by
  refine ⟨fun i s b h1 h2=>?_,fun i s h1=>?_⟩
  ·rw[ES]
   cases hid:(id==i)<;>simp only[cond_true,cond_false]
   ·exact .inr h1
   ·obtain rfl:id=i:=by simpa using hid
    rw[hl] at h1;cases h1;rw[agn] at h2;refine .inl ?_;unfold Mem.add;rw[if_pos h2];have h3:(w.heap[b]?).isSome=aF:=by
     have:=(hh.ent _ _ hl).lt (agn.trans h2);simp[this.1]
    intro e;rw[e] at h3;cases h3
  ·rw[ES] at h1
   cases hid:(id==i)<;>simp only[hid,cond_true,cond_false] at h1
   ·exact ⟨s,h1,fun _ h=>h⟩
   ·obtain rfl:id=i:=by simpa using hid
    rw[hl] at h1;cases h1;exact ⟨sb,hl,fun b h=>by rw[hnb] at h;cases h⟩
 refine ⟨hle,⟨fun id2 WB h2=>?_,fun id1 id2 s1 s2 b h1 h2 o1 o2=>?_⟩,⟨hw.os,hw.tape,hw.output,hw.size,hw.kept,fun b o hb=>?_,fun b o hb=>hle b o (hw.le b o hb),fun b hb=>?_⟩,hfin⟩
 ·rw[ES] at h2
  cases hid:(id==id2)<;>simp only[hid,cond_true,cond_false] at h2
  ·have hent:=hh.ent _ _ h2
   refine hent.kept hle (fun _ _ e=>e) (fun _ _=>rfl) fun b hb=>?_
   unfold Mem.add;rw[if_neg]
   ·exact (hent.lt hb).2.1
   ·intro e
    have:=hh.Gu _ _ _ _ _ hl h2 (agn.trans e) hb;subst this;simp at hid
  ·obtain rfl:id=id2:=by simpa using hid
   rw[hl] at h2;cases h2;exact hent hle
 ·have conv:∀{i:Nat} {s:SB},AA (hset hp id nb) i=ay s->Bv E i s=ay b->AA hp i=ay s:=by
   intro i s h o;rw[ES] at h;cases hid:(id==i)<;>simp only[hid,cond_true,cond_false] at h
   ·exact h
   ·obtain rfl:id=i:=by simpa using hid
    rw[hl] at h;cases h;rw[hnb] at o;cases o
  exact hh.Gu _ _ _ _ _ (conv h1 o1) (conv h2 o2) o1 o2
 ·unfold Mem.add at hb
  split at hb
  ·exact hb
  ·exact hw.on b o hb
 ·unfold Mem.add at hb
  split at hb
  ·rename_i e
   exact .inr (hm b e).2
  ·exact hw.fresh b hb
theorem agp(b:Nat):AY (.pointer (ay ⟨b,0,aN⟩))=ay b:=rfl
theorem IE:∀{m:Nat} {ids:List Nat} {hp hp':List (Nat×SB)} {H:Mem},FH m hp ids=ay hp'->AZ K H E w hp->Es K H w->
  ∃H',H.le H'/\AZ K H' E w hp'/\Es K H' w/\U4 H' E hp hp'
 |m,[],hp,hp',H,h,hh,hw=>by
  have h:ay hp=ay hp':=by cases m<;>exact h
  cases h;exact ⟨H,fun _ _ e=>e,hh,hw,U4.refl _ _ _⟩
 |0,_::_,hp,hp',H,h,hh,hw=>by cases h |m+1,id::ids,hp,hp',H,h,hh,hw=>by
  simp only[FH] at h;have step:∀{sb nb:SB} {v:Value},AA hp id=ay sb->(∀b,AY v=ay b->Mine K H b)->Bv E id sb=AY v->Bv E id nb=aN->(H.le (H.add w (AY v))->GV K (H.add w (AY v)) E w id nb)->FH m (hset hp id nb) ids=ay hp'->
    ∃H',H.le H'/\AZ K H' E w hp'/\Es K H' w/\U4 H' E hp hp':=fun {sb nb v} hl hm agn hnb hent h=>by
   obtain ⟨h1,h2,h3,h4⟩:=anz hh hw hl hm agn hnb hent;obtain ⟨H',a1,a2,a3,a4⟩:=IE h h2 h3;exact ⟨H',fun b o hb=>a1 b o (h1 b o hb),a2,a3,h4.trans a4 a1⟩
  split at h
  ·exact IE h hh hw
  ·exact IE h hh hw
  ·rename_i e st n g hl
   obtain ⟨v,xs,he,ho,hr,hm⟩:=hh.ent _ _ hl;exact step (nb:=.fz st n g) hl hm (by simp[Bv,he]) (by simp[Bv]) (fun hle=>⟨v,he,ML ho (hr.le hle) fun b hb=>by simp[Mem.add,hb]⟩) h
  ·rename_i cells e st n hl
   obtain ⟨v,xs,he,ho,hd,hm⟩:=hh.ent _ _ hl;split at h
   ·rename_i l hsl
    cases hone:FU cells<;>simp only[hone,cond_true,cond_false] at h
    ·cases h
    have hr:=JU ho.1 (EC hh hsl hd) (FC hone hd);exact step (nb:=.fz st n (BD (chunks st n l))) hl hm (by simp[Bv,he]) (by simp[Bv]) (fun hle=>⟨v,he,ML ho (hr.le hle) fun b hb=>by simp[Mem.add,hb]⟩) h
   ·exact IE h hh hw
  ·rename_i cells e hl
   split at h
   ·rename_i l hsl
    cases hone:FU cells<;>simp only[hone,cond_true,cond_false] at h
    ·cases h
    obtain ⟨b,cs,he,hb,hd,hm⟩:=hh.ent _ _ hl;have hr:=EC hh hsl hd;have h1:=FC hone hd;have hlen:=hr.length;rw[bV] at hlen;refine step (nb:=.Rt l) (v:=.pointer (ay ⟨b,0,aN⟩)) hl (fun b' hb'=>by rw[agp] at hb';cases hb';exact hm) (by simp[Bv,he]) (by simp[Bv]) (fun hle=>⟨_,he,?_⟩) h;refine .pt l b 0 (fun j=>cs.getD j undef) (fun j hj=>?_) (fun j hj=>?_) fun j s hs=>?_
    ·have hH:(H.add w (AY (.pointer (ay ⟨b,0,aN⟩)))) b=ay (.cells cs e (0,0)):=by simp[Mem.add,agp,hb]
     simp only[hcell,hH,gU];rw[fF (by omega)];simp[iM,fF (show j<cs.size by omega)]
    ·have:cs.getD j undef=cs[j]'(by omega):=by simp[iM,fF (show j<cs.size by omega)]
     simp only[this];exact h1 _ (by simp)
    ·have hj:j<l.length:=(aQ.1 hs).1
     have:cs.getD j undef=cs[j]'(by omega):=by simp[iM,fF (show j<cs.size by omega)]
     simp only[this];exact (hr.at_ hs (by rw[dX];exact fF (by omega))).le hle
   ·exact IE h hh hw
  ·cases h
theorem Ny{ids:List Nat}{hp hp':List (Nat×SB)}{H:Mem}(h:freeze hp ids=ay hp')(hh:AZ K H E w hp)(hw:Es K H w):
  ∃H',H.le H'/\AZ K H' E w hp'/\Es K H' w/\U4 H' E hp hp':=IE h hh hw
end
section
variable{P:Program}{C:Ctx}{K:Kx}{H H':Mem}{E E':Env}{w w':World}
theorem Za(z:List SV):∀n,(rep z n).length=n*z.length
 |0=>by simp[rep] |n+1=>by simp[rep,Za z n,gB,zl]
theorem agq(z:List SV)(hz:0<z.length):∀(n j:Nat),j<n*z.length->(rep z n)[j]?=z[j % z.length]?
 |0,j,h=>by simp at h |n+1,j,h=>by
  rw[rep,kQ];split
  ·rw[iG (by assumption)]
  ·rename_i hj
   have hj:z.length<=j:=by omega
   rw[agq z hz n _ (by rw[gB] at h;omega)];rw[Nat.mod_eq_sub_mod hj]
theorem adJ(cs:Array Value)(n j:Nat)(h:j<n)(hc:0<cs.size):(madeCells cs n).toList[j]?=cs.toList[j % cs.size]?:=by
 have:j % cs.size<cs.size:=zN _ hc;simp[madeCells,h,this]
theorem anA{z:List SV}{cs:Array Value}{n st:Nat}(hd:AV H E z cs.toList)(hs:cs.size=st)(h0:0<st):AV H E (rep z n) (madeCells cs (n*st)).toList:=by
 have hl:=hd.length;rw[bV,hs] at hl;refine AV.OG (by rw[bV,size_madeCells,Za,<-hl]) fun j s v h1 h2=>?_
 have hj:j<n*st:=by
  have:=(aQ.1 h2).1;rwa[bV,size_madeCells] at this
 rw[agq z (by omega) n j (by rw[<-hl];exact hj)] at h1;rw[adJ cs _ _ hj (by omega),hs] at h2;rw[<-hl] at h1;exact hd.at_ h1 h2
theorem JD{t e:Nat}{i:Kr}(h:Oe P t i)(hi:i.ty=.slice e):P.underlying t=ay (.slice e):=by
 have:=h.desc;rw[hi] at this;exact this
theorem ags:16777216<=maxLen:=by decide
theorem ade{c:Core}{a:Act}{o:Oper}{t n:Nat}{parts:Array (Nat×Operand)}{φ:SV×Core->Prop}(hC:BL P C)(hd:AV H E c.tm a.tmps.toList)(hh:AZ K H E w c.hp)(hw:Es K H w)(hf:Free E c)
  (ho:o.op=.buildSlice t n parts) (h:(LG C c t n parts.toList).All φ):Ia P K H E w c a o φ:=by
 unfold LG at h;split at h
 ·rename_i i hi
  split at h
  ·rename_i e hty
   have hu:=JD (hC.ty _ _ hi) hty;split at h
   ·rename_i j hj
    obtain ⟨inf,z,h1,h2,h3,h4,h5,h6,_⟩:=(hC.ty _ _ hj).info;cases hb:(gY (n*j.size) 16777216&&fZ 0 j.size)<;>simp only[hb,cond_true,cond_false] at h
    ·exact h.elim
    simp only[aJ] at hb;have hb1:=fP hb.1;have hb2:=Fv hb.2;split at h
    ·rename_i l hl
     have h5':AV H E j.zero z.cells.toList:=h5.le (fun _ _ e=>by cases e) (fun _ _ e=>by cases e);have hz:=anA (n:=n) h5' h6 hb2;obtain ⟨cells',e1,e2⟩:=XV (place:=fun i=>ay (i*j.size,j.size)) (fun _ _ _ e=>e) hd parts.toList hz hl;have hlt:c.nx<c.lim:=by
      unfold alloc at h;cases hb:fZ c.nx c.lim<;>simp only[hb,cond_true,cond_false] at h
      ·exact h.elim
      ·exact Fv hb
     have hlen:cells'.size=n*j.size:=by
      have q1:=e2.length;have q2:=hz.length;have q3:l.length=(rep j.zero n).length:=by
       have:∀(parts:List (Nat×Operand)) (z l:List SV),Qc (fun k=>ay (k*j.size,j.size)) (BP c.tm) z parts=ay l->l.length=z.length:=by
        intro parts;induction parts with
        |nil=>intro z l h;simp[Qc] at h;subst h;rfl |cons p r ih=>
         intro z l h;obtain ⟨k,x⟩:=p;simp only[Qc] at h;cases hb:((BP c.tm x).ZT&&(BP c.tm x).cells.length==j.size&&gY (k*j.size+j.size) z.length)<;>simp only[hb,cond_true,cond_false] at h
         ·cases h
         ·rw[ih _ _ h,OI]
       exact this _ _ _ hl
      rw[bV] at q1 q2;rw[size_madeCells] at q2;omega
     have hmax:n<=maxLen:=by
      have:n*1<=n*j.size:=Nat.mul_le_mul_left _ hb2;have:=ags;omega
     have hmul:0<n->0<n*j.size:=fun h=>Nat.mul_pos h hb2
     obtain ⟨c',hφ,hp⟩:=Hq (o:=.cells cells' e) (v:=.slice (ay ⟨w.heap.size,0,aN⟩) n n) hh hw hf h rfl
      ⟨_,cells'.toList,fB _ _ _,tK w cells' n (gV _) hmax hlen,e2.le (fun _ _ e=>e) (nT (hf _ (dw _) hlt)),fun b hb=>by
       simp[AY] at hb;subst hb;exact JC hw⟩
     refine ⟨_,_,_,H,_,_,hφ,⟨fB _ _ _,_,_,_,rfl⟩,hp,.inl rfl,?_⟩;have hsz:(sizeOf e).run P w=.ok j.size w:=Jz (hC.ty _ _ hj) w;have e1':Instr.fill (fun i=>ay (i*j.size,j.size)) (madeCells z.cells (n*j.size)) (parts.toList.map fun p=>(p.1,a.eval p.2))=ay cells':=e1;have Uk:(zeroValue e).run P w=.ok z w:=by simp[zeroValue,typeInfo,h1,h4]
     have hn2:¬(16777216<n*j.size):=by omega
     by_cases hn:n*j.size=0
     ·have:madeCells z.cells (n*j.size)=#[]:=by rw[hn];simp[madeCells]
      rw[this] at e1';simp[execOp,ho,uI,run_underlying hu,hsz,hn,newRow,Array.range_zero'];rw[e1'];rfl
     ·simp[execOp,ho,uI,run_underlying hu,hsz,hn,hn2,Uk,newRow]
      unfold madeCells at e1';rw[e1'];rfl
    ·exact h.elim
   ·exact h.elim
  ·exact h.elim
 ·exact h.elim
theorem XW{c:Core}{b:SB}{v:SV}{φ:SV×Core->Prop}(h:(alloc c b v).All φ):c.nx<c.lim:=by
 unfold alloc at h;cases hb:fZ c.nx c.lim<;>simp only[hb,cond_true,cond_false] at h
 ·exact h.elim
 ·exact Fv hb
theorem Hr{x:SV}{n:Int}{m:Nat}(h1:Hw x=ay n)(h2:OB Aw x=ay m):m=n.toNat:=by
 cases x<;>simp[Hw,OB] at h1 h2
 all_goals (subst h1;subst h2;rfl)
theorem aeY{x:SV}{u:Value}(h:isZero x=aF)(hd:Den H E x u):∃k,u=.int k 0:=by
 cases x<;>simp[isZero] at h
 subst h;exact ⟨_,hd⟩
theorem FV{n b:Nat}(h:Aw.room n b=aF):n*b<=140737488355328/\n<=maxLen:=by simpa[Aw] using h
theorem agt{a b:Int}(h:Aw.le a b=aF):a<=b:=by simpa[Aw] using h
theorem adK{p q kn:Nat}(h:p=q)(hb:kn*q<=140737488355328):(p:Int)*(kn:Int)<=281474976710656:=by
 subst h;have h:((p*kn:Nat):Int)<=281474976710656:=by rw[lX];omega
 rwa[Int.natCast_mul] at h
theorem aiW{K:Kx}{H:Mem}{E:Env}{w:World}{id e st:Nat}{x:SV}{v:Value}(he:E id=ay v)(hr:w.ownsRow 0 e st v 0 [])(hm:∀b,AY v=ay b->Mine K H b):GV K H E w id (am9 x e st):=by
 have h1:GV K H E w id (.row [] e st 0):=⟨_,[],he,hr,trivial,hm⟩;have h2:GV K H E w id (.own e st 0 fun _=>[]):=⟨_,[],he,hr,⟨by simp,fun _ h=>by omega,fun _ h=>by simp at h,fun _ _ _ _ h=>by omega⟩,hm⟩;cases x<;>first|exact h1|exact h2
theorem aeZ{c:Core}{a:Act}{o:Oper}{t:Nat}{x y:Operand}{same:Bool}{φ:SV×Core->Prop}(hC:BL P C)(hd:AV H E c.tm a.tmps.toList)(hh:AZ K H E w c.hp)(hw:Es K H w)(hf:Free E c)
  (ho:o.op=.makeSlice t x y) (hsame:same=aF->a.eval x=a.eval y) (h:(Nq C c t (BP c.tm x) (BP c.tm y) same).All φ):Ia P K H E w c a o φ:=by
 have dx:=BJ (H:=H) (E:=E) hd x;have dy:=BJ (H:=H) (E:=E) hd y;unfold Nq at h;split at h
 ·rename_i i hi
  split at h
  ·rename_i e hty
   have hu:=JD (hC.ty _ _ hi) hty;split at h
   ·rename_i j hj
    obtain ⟨inf,z,h1,h2,h3,h4,h5,h6,_⟩:=(hC.ty _ _ hj).info;split at h
    ·rename_i ki kn hki hkn
     obtain ⟨k,ey⟩:=Ho hki dy;have hA:=hC.A;rw[hA] at h hkn;have hkn:=Hr hki hkn;cases hz:isZero (BP c.tm x)<;>simp only[hz,cond_true,cond_false] at h
     ·cases hs:(same&&FU j.zero&&fZ 0 j.size)<;>simp only[hs,cond_true,cond_false] at h
      ·exact h.elim
      simp only[aJ] at hs;have ex:=hsame hs.1.1;have hj0:=Fv hs.2;split at h
      ·rename_i zs hzs
       obtain ⟨g1,g2,g3⟩:=h;have g1:=agt g1;obtain ⟨g2,g4⟩:=FV g2;have hlt:=XW g3;have anB:ki=(kn:Int):=by omega
       subst anB;have hr:=run_make (P:=P) w t e inf z hu h1 h4 k k (kn:Int) (kn:Int) (by omega) (Int.le_refl _) (adK h3 g2) (by have:maxLen=9223372036854775807:=rfl;omega);simp only[fK,h2] at hr;have h5':AV H E j.zero z.cells.toList:=h5.le (fun _ _ e=>by cases e) (fun _ _ e=>by cases e);have Uk:D9 H zs z.cells.toList:=EC (K:=K) (w:=w) (hp:=[]) ⟨fun _ _ e=>by simp[AA] at e,fun _ _ _ _ _ e=>by simp[AA] at e⟩ hzs h5';have hone:=FC hs.1.2 h5';have hzl:=Uk.length;rw[bV,h6] at hzl;have hget:∀(m:Nat) (u:Value),(madeCells z.cells (kn*j.size)).toList[m]?=ay u->z.cells.toList[m % j.size]?=ay u:=fun m u hm=>by
        have:m<kn*j.size:=by
         have:=(aQ.1 hm).1;rwa[bV,size_madeCells] at this
        rw[adJ _ _ _ this (by omega),h6] at hm;exact hm
       have hrows:CQ H j.size kn (fun _=>zs) (madeCells z.cells (kn*j.size)).toList:=by
        refine ⟨by rw[bV,size_madeCells],fun _ _=>hzl.symm,fun u hu'=>?_,fun i m s v hi e1 e2=>?_⟩
        ·obtain ⟨m,hm⟩:=dG.1 hu'
         exact hone u (bP (hget m u hm))
        ·have e2:=hget _ _ e2
         have hm:m<j.size:=by rw[hzl];exact (aQ.1 e1).1
         rw[lX,wW,iG hm] at e2;exact Uk.at_ e1 e2
       obtain ⟨c',hφ,hp⟩:=Hq (o:=.cells (madeCells z.cells (kn*j.size)) e) (v:=.slice (ay ⟨w.heap.size,0,aN⟩) kn kn) hh hw hf g3 rfl
        ⟨_,_,fB _ _ _,tK w _ kn (gV _) g4 (size_madeCells _ _),hrows,fun b hb=>by
         simp[AY] at hb;subst hb;exact JC hw⟩
       refine ⟨_,_,_,H,_,_,hφ,⟨fB _ _ _,_,_,_,rfl⟩,hp,.inl rfl,?_⟩;simp[execOp,ho,ex,ey,hr]
      ·exact h.elim
     ·obtain ⟨g1,g2,g3⟩:=h
      have g1:=agt g1;obtain ⟨g2,g4⟩:=FV g2;have hlt:=XW g3;obtain ⟨l,ex⟩:=aeY hz dx;have anB:ki=(kn:Int):=by omega
      subst anB;have hr:=run_make (P:=P) w t e inf z hu h1 h4 l k 0 (kn:Int) (by omega) (by omega) (adK h3 g2) (by have:maxLen=9223372036854775807:=rfl;omega);simp only[fK,Int.toNat_zero,h2] at hr;obtain ⟨c',hφ,hp⟩:=Hq (o:=.cells (madeCells z.cells (kn*j.size)) e) (v:=.slice (ay ⟨w.heap.size,0,aN⟩) 0 kn) hh hw hf g3 rfl
       (aiW (fB _ _ _) (World.ownsRow_made w _ kn (gV _) g4 (size_madeCells _ _)) fun b hb=>by
        simp[AY] at hb;subst hb;exact JC hw)
      refine ⟨_,_,_,H,_,_,hφ,⟨fB _ _ _,_,_,_,rfl⟩,hp,.inl rfl,?_⟩;simp[execOp,ho,ex,ey,hr]
    ·exact h.elim
   ·exact h.elim
  ·exact h.elim
 ·exact h.elim
end
open Go.Lib
section
variable{P:Program}{w:World}
theorem D5(l:List UInt8):(bytesV l).length=l.length:=by simp[bytesV]
theorem Zb(l m:List UInt8):bytesV (l++m)=bytesV l++bytesV m:=by simp[bytesV]
theorem agu(l:List UInt8):∀u∈bytesV l,u.oneCell'=aF:=fun u hu=>by
 simp only[bytesV,List.mem_map] at hu;obtain ⟨b,_,rfl⟩:=hu;rfl
theorem Ku(P:Program)(g o:Nat)(t:TypeId)(fz:Nat×Nat):∀(vs:List Value) (i:Nat) (cur:Array Value) (w:World),w.heap[g]?=ay (.cells cur t fz)->(∀j,o+i<=j->j<cur.size->¬(fz.1<=j/\j<fz.2))->o+i+vs.length<=cur.size->(∀v∈vs,v.oneCell'=aF)->
  (storeCells ⟨g,o,aN⟩ vs i).run P w=.ok () (w.setRow g (cur.toList.take (o+i)++vs++cur.toList.drop (o+i+vs.length)).toArray)
 |[],i,cur,w,hg,_,_,_=>by
  simp only[storeCells,List.append_nil,qE,jB,List.take_append_drop,Array.toArray_toList];rw[setRow_self w g cur t fz hg];rfl
 |v::rest,i,cur,w,hg,hfz,hl,h1=>by
  have hi:o+i<cur.size:=by simp at hl;omega
  have hadd:(⟨g,o,aN⟩:Addr).add i=⟨g,o+i,aN⟩:=by unfold nG;split<;>simp_all
  have hcell:w.cell? ⟨g,o+i,aN⟩=ay cur[o+i]:=by simp[World.cell?,hg,hi]
  have hfro:w.frozen? ⟨g,o+i,aN⟩=aA:=by
   have:=hfz (o+i) (dw _) hi;obtain ⟨lo,hi'⟩:=fz;simp only[World.frozen?,hg,Bool.and_eq_false_iff,decide_eq_false_iff_not];simp only at this;omega
  have hst:(store ((⟨g,o,aN⟩:Addr).add i) v).run P w=.ok () (w.setRow g (cur.setIfInBounds (o+i) v)):=by
   rw[hadd,run_store P w _ v _ (h1 v (by simp)),hcell];simp[hfro,setCell_eq_setRow w g (o+i) cur t fz v hg]
  have ih:=Ku P g o t fz rest (i+1) (cur.setIfInBounds (o+i) v) (w.setRow g (cur.setIfInBounds (o+i) v)) (setRow_heap w g cur _ t _ hg) (fun j h1 h2=>hfz j (by omega) (by simpa using h2)) (by simp at hl ⊢;omega) (fun x hx=>h1 x (by simp[hx]));simp only[storeCells,Sem.run_bind,hst,Result.andThen_ok,ih,setRow_setRow];congr 3;have e:=list_seg_step cur.toList (o+i) v rest (by simp at hl ⊢;omega);simpa[Array.toList_setIfInBounds,jX] using e
structure akE(P:Program)(w:World)(u:TypeId)(x:Value)(m:List UInt8):Prop where
 ty:P.underlying u=ay .string\/∃d,P.underlying u=ay (.slice d)
 len:∀w':World,(kW x).run P w'=.ok m.length w'
 cells:∀w':World,w'.heap=w.heap->(gG 1 m.length x).run P w'=.ok (bytesV m).toArray w'
theorem agv(t u ty e:TypeId)(i:TypeInfo)(ht:P.underlying t=ay (.slice e))(hi:P.info? e=ay i)(hz:i.zero=ay (.int .u8 0))(hsize:i.size=1)(hby:i.bytes=1)
  (v:Value) (l:List UInt8) (hown:G6 w e v l) (x:Value) (m:List UInt8) (hx:akE P w u x m) (h63:l.length+m.length<=maxLen) (hbytes:(l.length+m.length)*1<=140737488355328) :
  ∃v' w',(eF #[t,u] ty #[v,x]).run P w=.ok v' w'/\G6 w' e v' (l++m)/\w.grownBy w' (AY v)/\∀b,AY v'=ay b->AY v=ay b\/w.heap.size<=b:=by
 have hsmall:l.length+m.length<=9223372036854775807:=by simp only[maxLen] at h63;omega
 have hll:(l++m).length=l.length+m.length:=by simp
 have hz1:(iU .u8 0).cells.size=1:=rfl;have grown:∀(cap:Nat) (row:Option Nat),G6 (w.drew.alloc (.cells ((bytesV l).toArray++(bytesV m).toArray++jh (iU .u8 0).cells (grownCap w (l.length+m.length) cap e - (l.length+m.length))) e)) e
   (.slice (ay ⟨w.heap.size,0,aN⟩) (l.length+m.length) (grownCap w (l.length+m.length) cap e)) (l++m)/\
   w.grownBy (w.drew.alloc (.cells ((bytesV l).toArray++(bytesV m).toArray++jh (iU .u8 0).cells (grownCap w (l.length+m.length) cap e - (l.length+m.length))) e)) row:=fun cap row=>by
  have hge:=grownCap_ge w (l.length+m.length) cap e;have hcm:grownCap w (l.length+m.length) cap e<=maxLen:=grownCap_le_maxLen w (l.length+m.length) cap e h63;refine ⟨.inr ⟨w.heap.size,_,_,(0,0),by rw[hll],heap_alloc_new w.drew _,.inl (gV _),by rw[hll];exact hge,hcm,?_,?_⟩,⟨rfl,rfl,rfl,by simp,fun k hk _=>by first|exact Go.heap_alloc_old w.drew _ k hk|exact heap_alloc_old w.drew _ hk⟩⟩
  ·simp only[oC,gW,size_zeroCells,hz1,D5]
   omega
  ·simp only[Array.toList_append,dV]
   rw[<-dV,<-Zb,<-D5 (l++m)];exact lD
 have grow:∀(base:Option Addr) (cap:Nat),v=.slice base l.length cap->cap<l.length+m.length->(gG 1 l.length v).run P w.drew=.ok (bytesV l).toArray w.drew->
   (eF #[t,u] ty #[v,x]).run P w=.ok (.slice (ay ⟨w.heap.size,0,aN⟩) (l.length+m.length) (grownCap w (l.length+m.length) cap e))
    (w.drew.alloc (.cells ((bytesV l).toArray++(bytesV m).toArray++jh (iU .u8 0).cells (grownCap w (l.length+m.length) cap e - (l.length+m.length))) e)):=fun base cap hv hg hfo=>by
  subst hv;have hn:¬(l.length+m.length<=cap):=by omega
  have h63':¬(9223372036854775807<((l.length:Int)+(m.length:Int))):=by omega
  have h48':¬(281474976710656<Builtin.nextslicecap (l.length+m.length) cap):=by
   have:=growslice_fits (old:=cap) (need:=l.length+m.length) (by omega) hbytes;omega
  have hf:=hx.cells w.drew rfl;have hl:=hx.len w;rcases hx.ty with hu|⟨d,hu⟩
  ·simp[eF,run_underlying ht,run_underlying hu,sizeOf,typeInfo,zeroValue,hi,hz,hsize,hl,hn,h48',hby,sW,hf,hfo,newRow,grownCap]
   congr 2;apply zn;simp[dV]
  ·simp[eF,run_underlying ht,run_underlying hu,sizeOf,typeInfo,zeroValue,hi,hz,hsize,hl,hn,h48',hby,sW,hf,hfo,newRow,grownCap]
   congr 2;apply zn;simp[dV]
 rcases hown with ⟨rfl,rfl⟩ |⟨g,cap,cur,fz,rfl,hg,hfz,hnc,hcm,hcs,htake⟩
 ·by_cases hm:m.length=0
  ·have hm0:m=[]:=kC hm
   subst hm0;have hl:=hx.len w;have hf:=hx.cells w rfl;refine ⟨.slice aN 0 0,w,?_,.inl ⟨rfl,rfl⟩,⟨rfl,rfl,rfl,dw _,fun _ _ _=>rfl⟩,fun b hb=>.inl hb⟩;simp only[qE] at hl hf;rcases hx.ty with hu|⟨d,hu⟩
   ·simp[eF,run_underlying ht,run_underlying hu,sizeOf,typeInfo,hi,hsize,hl,hf]
   ·simp[eF,run_underlying ht,run_underlying hu,sizeOf,typeInfo,hi,hsize,hl,hf]
  ·have hr:=grow aN 0 rfl (by simp;omega) (by simp[gG,bytesV])
   have hgr:=grown 0 (AY (.slice aN 0 0));exact ⟨_,_,hr,hgr.1,hgr.2,fun b hb=>.inr (by simp[AY] at hb;omega)⟩
 ·by_cases hroom:l.length+m.length<=cap
  ·have hl:=hx.len w
   have hf:=hx.cells w rfl;have hst:=Ku P g l.length e fz (bytesV m) 0 cur w hg (fun j h1 h2=>by omega) (by rw[D5];omega) (agu m);simp only[jB,D5] at hst;have hr:(eF #[t,u] ty #[.slice (ay ⟨g,0,aN⟩) l.length cap,x]).run P w=.ok (.slice (ay ⟨g,0,aN⟩) (l.length+m.length) cap) (w.setRow g (cur.toList.take l.length++bytesV m++cur.toList.drop (l.length+m.length)).toArray):=by
    rcases hx.ty with hu|⟨d,hu⟩
    ·simp[eF,run_underlying ht,run_underlying hu,sizeOf,typeInfo,hi,hsize,hl,hroom,hf,eU,hst]
    ·simp[eF,run_underlying ht,run_underlying hu,sizeOf,typeInfo,hi,hsize,hl,hroom,hf,eU,hst]
   refine ⟨_,_,hr,.inr ⟨g,cap,_,fz,by rw[hll],setRow_heap w g cur _ e _ hg,by rw[hll];omega,by rw[hll];exact hroom,hcm,?_,?_⟩,⟨rfl,rfl,rfl,by simp,fun k _ hk=>setRow_other w g k _ (fun e=>hk (by simp[AY,e]))⟩,fun b hb=>.inl hb⟩
   ·simp only[gW,bf,cu,dS,bV,D5]
    omega
   ·rw[htake,<-Zb,<-D5 (l++m)]
    exact lD
  ·have hfo:(gG 1 l.length (.slice (ay ⟨g,0,aN⟩) l.length cap)).run P w.drew=.ok (bytesV l).toArray w.drew:=by
    refine run_firstCells_some (P:=P) w.drew 1 l.length ⟨g,0,aN⟩ l.length cap (bytesV l) (by rw[D5];omega) fun j u hj=>?_
    have hadd:(⟨g,0,aN⟩:Addr).add j=⟨g,j,aN⟩:=by unfold nG;split<;>simp_all
    show w.cell? _=_;rw[hadd,cell_of_row w g j cur e fz hg];rw[<-htake,bZ] at hj;split at hj
    ·simpa using hj
    ·cases hj
   have hr:=grow (ay ⟨g,0,aN⟩) cap rfl (by omega) hfo;have hgr:=grown cap (AY (.slice (ay ⟨g,0,aN⟩) l.length cap));exact ⟨_,_,hr,hgr.1,hgr.2,fun b hb=>.inr (by simp[AY] at hb;omega)⟩
theorem alN{u:TypeId}(hu:P.underlying u=ay .string)(m:List UInt8):akE P w u (.string ⟨m.toArray⟩) m:=by
 refine ⟨.inl hu,fun w'=>?_,fun w' _=>?_⟩
 ·simp[kW,nS]
 ·have:=run_firstCells_string (P:=P) w' 1 ⟨m.toArray⟩
  have e:(⟨m.toArray⟩:ByteArray).size=m.length:=by simp[nS]
  rw[e] at this;rw[this];simp[strCells,bytesV]
theorem alO{u e' e:TypeId}(hu:P.underlying u=ay (.slice e')){x:Value}{m:List UInt8}(hx:G6 w e x m):akE P w u x m:=by
 refine ⟨.inr ⟨e',hu⟩,fun w'=>?_,fun w' hw=>?_⟩
 ·rcases hx with ⟨rfl,rfl⟩ |⟨g,cap,cur,fz,rfl,_⟩<;>simp[kW]
 ·rcases hx with ⟨rfl,rfl⟩ |⟨g,cap,cur,fz,rfl,hg,hfz,hnc,hcm,hcs,htake⟩
  ·simp[gG,bytesV]
  ·refine run_firstCells_some (P:=P) w' 1 m.length ⟨g,0,aN⟩ m.length cap (bytesV m) (by rw[D5];omega) fun j u hj=>?_
   have hadd:(⟨g,0,aN⟩:Addr).add j=⟨g,j,aN⟩:=by unfold nG;split<;>simp_all
   rw[hadd,cell_of_row w' g j cur e fz (by rw[hw];exact hg)];rw[<-htake,bZ] at hj;split at hj
   ·simpa using hj
   ·cases hj
theorem ae0{e n:Nat}{v:Value}{xs:List Value}{l:List UInt8}(h:w.ownsRow 0 e 1 v n xs)(hx:xs=bytesV l):G6 w e v l:=by
 have hn:n=l.length:=by have:=h.1;rw[hx,D5] at this;omega
 subst hn;rcases h.2 with ⟨rfl,h0⟩ |⟨g,cap,cur,rfl,_,hg,hnc,hcm,hcs,htake⟩
 ·exact .inl ⟨rfl,kC h0⟩
 ·exact .inr ⟨g,cap,cur,(0,0),rfl,hg,.inl (gV _),hnc,hcm,by omega,by rw[<-hx,<-htake];simp⟩
theorem alP{src dst e:TypeId}(hs:P.underlying src=ay (.slice e))(he:P.underlying e=ay (.int .u8))(hd:P.underlying dst=ay .string){v:Value}{l:List UInt8}(h:G6 w e v l):
  ∀w':World,(∀b,AY v=ay b->w'.heap[b]?=w.heap[b]?)->(convert src dst v).run P w'=.ok (.string ⟨l.toArray⟩) w':=fun w' hk=>by
 rcases h with ⟨rfl,rfl⟩ |⟨g,cap,cur,fz,rfl,hg,hfz,hnc,hcm,hcs,htake⟩
 ·rw[run_convert_bytes_string w' src dst e aN 0 0 hs he hd]
  rfl
 ·rw[run_convert_bytes_string w' src dst e _ _ _ hs he hd]
  have hg':w'.heap[g]?=ay (.cells cur e fz):=by rw[hk g rfl];exact hg
  have hl:(loadCells ⟨g,0,aN⟩ l.length).run P w'=.ok ((l.map fun b=>(b.toNat:Int)).map (iU .u8)).toArray w':=by
   have:=run_loadCells_list (P:=P) (w:=w') ⟨g,0,aN⟩ (bytesV l) fun j u hj=>by
    have hadd:(⟨g,0,aN⟩:Addr).add j=⟨g,j,aN⟩:=by unfold nG;split<;>simp_all
    rw[hadd,cell_of_row w' g j cur e fz hg'];rw[<-htake,bZ] at hj;split at hj
    ·simpa using hj
    ·cases hj
   rw[D5] at this;rw[this];simp[bytesV,Function.comp_def]
  rw[run_bytesToString w' _ _ _ _ hl];have key:∀(l:List UInt8) (s:ByteArray),(l.map fun b=>(b.toNat:Int)).foldl (fun r n=>r.push (kG n.toNat)) s=⟨s.data++l.toArray⟩:=by
   intro l;induction l with
   |nil=>intro s;simp |cons a l ih=>
    intro s;rw[List.map_cons,List.foldl_cons,ih];congr 1;simp[ByteArray.push]
  rw[key];congr 3;simp[ByteArray.empty,ByteArray.emptyWithCapacity];first|done|rfl
theorem agw{src dst e:TypeId}(hs:P.underlying src=ay .string)(hd:P.underlying dst=ay (.slice e))(he:P.underlying e=ay (.int .u8))(l:List UInt8)(hmax:l.length<=maxLen):
  ∃v' w',(convert src dst (.string ⟨l.toArray⟩)).run P w=.ok v' w'/\G6 w' e v' l/\w.grownBy w' aN/\∀b,AY v'=ay b->w.heap.size<=b:=by
 have hr:=Lib.run_convert_string_bytes (P:=P) w src dst e ⟨l.toArray⟩ hs hd he;have es:(⟨l.toArray⟩:ByteArray).size=l.length:=by simp[nS]
 have hge:=grownCap_ge w l.length 0 e;have hcm:grownCap w l.length 0 e<=maxLen:=grownCap_le_maxLen w l.length 0 e hmax;have hcz:(bytesCells w e ⟨l.toArray⟩).size=grownCap w l.length 0 e:=by
  simp only[bytesCells,oC,Array.size_map,Array.size_replicate,es];have:l.toArray.size=l.length:=by simp
  omega
 refine ⟨_,_,hr,.inr ⟨w.heap.size,_,_,_,by rw[es],bytesWorld_at_new w e _,.inr (by rw[hcz];exact dw _),hge,hcm,hcz,?_⟩,⟨rfl,rfl,rfl,by rw[bytesWorld_size];omega,fun k hk _=>bytesWorld_at_old w e _ k hk⟩,fun b hb=>by simp[AY] at hb;omega⟩;have:(bytesCells w e ⟨l.toArray⟩).toList=bytesV l++List.replicate (grownCap w l.length 0 e - l.length) (.int .u8 0):=by
  simp[bytesCells,bytesV,es]
 rw[this,<-D5 l];exact lD
end
section
variable{P:Program}{C:Ctx}{K:Kx}{H H':Mem}{E E':Env}{w w':World}
def Src(w:World)(u:Value)(m:Nat)(xs:List Value):Prop:=
 (m=0/\∃A c,u=.slice A 0 c)\/(∃a c,u=.slice (ay a) m c/\∀j v,xs[j]?=ay v->w.cell? (a.add j)=ay v)
theorem WG{e st m:Nat}{u:Value}{xs:List Value}(h:w.ownsRow 0 e st u m xs):Src w u m xs:=by
 rcases h.2 with ⟨rfl,rfl⟩ |⟨g,cap,cur,rfl,_⟩
 ·exact .inl ⟨rfl,_,_,rfl⟩
 ·exact .inr ⟨_,_,rfl,h.cells (g:=g) rfl⟩
theorem agx{st n:Nat}{g:Nat->List Sh}{u:Value}(h0:0<st)(h:Rep H (.sl st n g) u)(hon:H.on w):∃xs,CQ H st n g xs/\Src w u n xs:=by
 cases h with
 |sl0 _ _ A cap hc=>exact ⟨[],⟨by simp,fun _ h=>by omega,fun _ h=>by simp at h,fun _ _ _ _ h=>by omega⟩,.inl ⟨rfl,_,_,rfl⟩⟩ |sl _ _ _ b off cap c h1 h2 h3 h4 h5 h6=>
  have hk:∀k,k<n*st->k / st<n/\k % st<st/\k / st*st+k % st=k:=fun k hk=>⟨(Nat.div_lt_iff_lt_mul h0).2 hk,zN _ h0,by rw[lX];exact Nat.div_add_mod _ _⟩;have hget:∀(k:Nat) (v:Value),((aY (n*st)).map fun k=>c (k / st) (k % st))[k]?=ay v->k<n*st/\v=c (k / st) (k % st):=fun k v e=>by
   have e:=range_map_get e;exact ⟨e.1,e.2.symm⟩
  refine ⟨(aY (n*st)).map fun k=>c (k / st) (k % st),⟨by simp,h3,fun u hu=>?_,fun i j s v hi e1 e2=>?_⟩,.inr ⟨_,_,rfl,fun j v e=>?_⟩⟩
  ·obtain ⟨k,hk'⟩:=dG.1 hu
   obtain ⟨a1,rfl⟩:=hget _ _ hk';exact h5 _ _ (hk k a1).1 (hk k a1).2.1
  ·obtain ⟨_,rfl⟩:=hget _ _ e2
   have hj:j<st:=by rw[<-h3 i hi];exact (aQ.1 e1).1
   have d1:(i*st+j) / st=i:=by rw[lX,Nat.mul_add_div h0,Nat.div_eq_of_lt hj,jB]
   have d2:(i*st+j) % st=j:=by rw[lX,wW,iG hj]
   rw[d1,d2];exact h6 i j s hi e1
  ·obtain ⟨a1,rfl⟩:=hget _ _ e
   obtain ⟨b1,b2,b3⟩:=hk j a1;have:=MR hon (h4 _ _ b1 b2);rw[jX,b3] at this;simpa[eU] using this
theorem KD(st:Nat)(g:Nat->List Sh):CQ H st 0 g []:=⟨by simp,fun _ h=>by omega,fun _ h=>by simp at h,fun _ _ _ _ h=>by omega⟩
theorem aiX{st m n:Nat}{g:Nat->List Sh}{xs:List Value}(h:CQ H st m g xs)(hn:n<=m):CQ H st n g (xs.take (n*st)):=by
 obtain ⟨h1,h2,h3,h4⟩:=h;have hle:n*st<=m*st:=dR _ hn;refine ⟨by rw[cu,h1];omega,fun i hi=>h2 i (by omega),fun u hu=>h3 u (List.mem_of_mem_take hu),fun i j s v hi e1 e2=>?_⟩;rw[bZ] at e2;split at e2
 ·exact h4 i j s v (by omega) e1 e2
 ·cases e2
theorem alQ{e st m n:Nat}{A:Option Addr}{k c:Nat}{xs:List Value}(h:w.ownsRow 0 e st (.slice A k c) m xs)(hn:n<=k):Src w (.slice A n c) n (xs.take (n*st)):=by
 rcases WG h with ⟨rfl,A',c',e⟩ |⟨a,c',e,hc⟩
 ·cases e
  have:n=0:=by omega
  subst this;exact .inl ⟨rfl,_,_,rfl⟩
 ·cases e
  refine .inr ⟨_,_,rfl,fun j v hj=>hc j v ?_⟩;rw[bZ] at hj;split at hj
  ·exact hj
  ·cases hj
theorem anC{hp:List (Nat×SB)}{st m:Nat}{h:Nat->List Sh}{x:SV}{u:Value}(h0:0<st)(hh:AZ K H E w hp)(hon:H.on w)(he:Nr hp st x=ay (m,h))(hd:Den H E x u):
  ∃xs,CQ H st m h xs/\Src w u m xs:=by
 unfold Nr at he;split at he
 ·cases he
  simp only[Den] at hd;subst hd;exact ⟨[],KD _ _,.inl ⟨rfl,_,_,rfl⟩⟩
 ·rename_i id
  split at he
  ·rename_i cells el st' n hl
   cases hb:(st==st'&&FU cells)<;>simp only[hb,cond_true,cond_false] at he
   ·cases he
   simp only[aJ,beq_iff_eq] at hb;obtain ⟨rfl,hone⟩:=hb;simp only[bW] at he;obtain ⟨l,h1,h2⟩:=he;simp only[jU] at h2;obtain ⟨rfl,rfl⟩:=h2;obtain ⟨v,xs,e1,e2,e3,_⟩:=hh.ent _ _ hl;rw[hd.1] at e1;cases e1;exact ⟨xs,JU e2.1 (EC hh h1 e3) (FC hone e3),WG e2⟩
  ·rename_i el st' n g hl
   cases hb:(st==st')<;>simp only[hb,cond_true,cond_false] at he
   ·cases he
   obtain rfl:st=st':=by simpa using hb
   cases he;obtain ⟨v,xs,e1,e2,e3,_⟩:=hh.ent _ _ hl;rw[hd.1] at e1;cases e1;exact ⟨xs,e3,WG e2⟩
  ·rename_i st' n g hl
   cases hb:(st==st')<;>simp only[hb,cond_true,cond_false] at he
   ·cases he
   obtain rfl:st=st':=by simpa using hb
   cases he;obtain ⟨v,e1,e2⟩:=hh.ent _ _ hl;rw[hd.1] at e1;cases e1;exact agx h0 e2 hon
  ·cases he
 ·rename_i st' n g
  cases hb:(st==st')<;>simp only[hb,cond_true,cond_false] at he
  ·cases hb2:(st'==0&&n==0)<;>simp only[hb2,cond_true,cond_false] at he
   ·cases he
   simp only[aJ,beq_iff_eq] at hb2;obtain ⟨rfl,rfl⟩:=hb2;cases he;cases hd with
   |sl0 _ _ A cap hc=>exact ⟨[],KD _ _,.inl ⟨rfl,_,_,rfl⟩⟩ |sl _ _ _ b off cap c h1 h2 h3 h4 h5 h6=>exact ⟨[],KD _ _,.inl ⟨rfl,_,_,rfl⟩⟩
  ·obtain rfl:st=st':=by simpa using hb
   cases he;exact agx h0 hd hon
 ·rename_i id n
  split at he
  ·rename_i el st' m' g hl
   cases hb:(st==st')<;>simp only[hb,cond_true,cond_false] at he
   ·cases he
   obtain rfl:st=st':=by simpa using hb
   cases he;obtain ⟨v,xs,e1,e2,e3,_⟩:=hh.ent _ _ hl;obtain ⟨A,k,c,a1,a2,rfl⟩:=hd;rw[a1] at e1;cases e1;have hk:k=m':=by
    have:=MS e2;simpa[lenV] using this
   exact ⟨_,aiX e3 (by omega),alQ e2 a2⟩
  ·cases he
 ·cases he
theorem aaR{st n m:Nat}{g h:Nat->List Sh}{xs ys:List Value}(h1:CQ H st n g xs)(h2:CQ H st m h ys):CQ H st (n+m) (Aw.snoc g n h) (xs++ys):=by
 obtain ⟨a1,a2,a3,a4⟩:=h1;obtain ⟨b1,b2,b3,b4⟩:=h2;have hs:∀i,Aw.snoc g n h i=if i<n then g i else h (i - n):=fun _=>rfl
 refine ⟨by rw[bf,a1,b1,gB],fun i hi=>?_,fun u hu=>?_,fun i j s v hi e1 e2=>?_⟩
 ·rw[hs]
  split
  ·exact a2 i (by assumption)
  ·exact b2 _ (by omega)
 ·rcases bK.1 hu with hu|hu
  ·exact a3 u hu
  ·exact b3 u hu
 ·rw[hs] at e1
  split at e1
  ·rename_i hin
   have hj:j<st:=by rw[<-a2 i hin];exact (aQ.1 e1).1
   have:i*st+j<xs.length:=by
    rw[a1];calc i*st+j<i*st+st:=by omega
     _=(i+1)*st:=by rw[gB,iI]
     _<=n*st:=dR _ hin
   rw[dM this] at e2;exact a4 i j s v hin e1 e2
  ·rename_i hin
   have hge:n*st<=i*st:=dR _ (by omega);rw[fD (by rw[a1];omega)] at e2;have:i*st+j - xs.length=(i - n)*st+j:=by rw[a1,Nat.sub_mul];omega
   rw[this] at e2;exact b4 (i - n) j s v (by omega) e1 e2
theorem JV{c:Core}{s:SV}{v v':Value}{sb:SB}{φ:SV×Core->Prop}(hh:AZ K H E w c.hp)(hw:Es K H w)(hf:Free E c)
  (h:(alloc (Dh c s) sb (.gs c.nx)).All φ) (hs:(Qg s=aN/\AY v=aN)\/∃id sb0,Qg s=ay id/\AA c.hp id=ay sb0/\E id=ay v/\Bv E id sb0=AY v)
  (hm:∀b,AY v=ay b->Mine K H b) (hg:w.grownBy w' (AY v)) (hv':∀b,AY v'=ay b->AY v=ay b\/w.heap.size<=b)
  (he:c.nx<c.lim->GV K H (E.set c.nx v') w' c.nx sb):∃c',φ (.gs c.nx,c')/\Post K H E w c H (E.set c.nx v') w' c':=by
 have hnx:(Dh c s).nx=c.nx:=by unfold Dh;split<;>rfl
 have hlim:(Dh c s).lim=c.lim:=by unfold Dh;split<;>rfl
 have htm:(Dh c s).tm=c.tm:=by unfold Dh;split<;>rfl
 have htc:∀id∈c.tc,id∈(Dh c s).tc:=by
  unfold Dh;split
  ·exact fun _ h=>dB _ h
  ·exact fun _ h=>h
 have hlt:=XW h;rw[hnx,hlim] at hlt;have he:=he hlt;have hnone:=hf c.nx (dw _) hlt;have hle:E.le (E.set c.nx v'):=nT hnone;have hb:fZ (Dh c s).nx (Dh c s).lim=aF:=by
  rw[hnx,hlim];unfold fZ;exact Nat.ble_eq_true_of_le hlt
 unfold alloc at h;rw[hb] at h;simp only[cond_true] at h;have hvb:∀b,AY v=ay b->b<w.heap.size/\∃id sb0,Qg s=ay id/\AA c.hp id=ay sb0/\E id=ay v/\Bv E id sb0=ay b/\id∈(Dh c s).tc:=fun b hb=>by
  rcases hs with ⟨_,h2⟩ |⟨id,sb0,h1,h2,h3,h4⟩
  ·rw[hb] at h2;cases h2
  ·exact ⟨((hh.ent _ _ h2).lt (h4.trans hb)).1,id,sb0,h1,h2,h3,h4.trans hb,by simp[Dh,h1]⟩
 have hold:∀id2 WB,AA (Dh c s).hp id2=ay WB->AA c.hp id2=ay WB/\∀b,Bv E id2 WB=ay b->AY v≠ay b:=by
  intro id2 WB hl;have key:AA c.hp id2=ay WB/\Qg s≠ay id2:=by
   unfold Dh at hl;split at hl
   ·rename_i id hid
    simp only[U3] at hl;cases e:(id==id2)<;>simp only[e,cond_true,cond_false] at hl
    ·refine ⟨hl,fun e2=>?_⟩
     rw[hid] at e2;cases e2;simp at e
    ·cases hl
   ·rename_i hid
    exact ⟨hl,fun e2=>by rw[hid] at e2;cases e2⟩
  refine ⟨key.1,fun b ho e=>?_⟩;obtain ⟨_,id,sb0,h1,h2,h3,h4,_⟩:=hvb b e;have:=hh.Gu _ _ _ _ _ h2 key.1 h4 ho;subst this;exact key.2 h1
 have hkeep:∀b,b<w.heap.size->AY v≠ay b->w'.heap[b]?=w.heap[b]?:=fun b hb hn=>hg.block b hb fun e=>hn e.symm
 refine ⟨_,h,fun _ _ e=>e,hle,?_,by simp[hnx],.inl (by simp[hnx];omega),hlim,htm,?_,?_,htc,hg.size,?_,?_,?_,?_,?_⟩
 ·intro i h1 h2
  by_cases e:i=c.nx
  ·subst e;simp[hnx]
  ·simp[oD,e,h1] at h2
 ·have hent:∀id sb',AA (Dh c s).hp id=ay sb'->GV K H (E.set c.nx v') w' id sb'/\GV K H E w id sb'/\∀b,Bv E id sb'=ay b->AY v≠ay b:=fun id sb' hl=>by
   obtain ⟨h1,h2⟩:=hold id sb' hl;have:=hh.ent _ _ h1;exact ⟨this.kept (fun _ _ e=>e) hle (fun b hb=>hkeep b (this.lt hb).1 (h2 b hb)) (fun b hb=>(this.lt hb).2.1),this,h2⟩
  have hnew:∀b,Bv (E.set c.nx v') c.nx sb=ay b->AY v'=ay b:=fun b hb=>by
   have:=GX hb;simpa[bk,oD] using this
  refine ⟨fun id sb' hl=>?_,fun id id' sb1 WB b h1 h2 o1 o2=>?_⟩
  ·simp only[E5,hnx] at hl
   cases hid:(c.nx==id)<;>simp only[hid,cond_true,cond_false] at hl
   ·exact (hent id sb' hl).1
   ·cases hl
    obtain rfl:c.nx=id:=by simpa using hid
    exact he
  ·simp only[E5,hnx] at h1 h2
   have cross:∀{i:Nat} {s1:SB},AA (Dh c s).hp i=ay s1->Bv (E.set c.nx v') i s1=ay b->AY v'=ay b->False:=fun {i s1} h1 o1 avQ=>by
    obtain ⟨_,a2,a3⟩:=hent _ _ h1;rw[GY a2 hle] at o1;rcases hv' b avQ with h|h
    ·exact a3 b o1 h
    ·have:=(a2.lt o1).1;omega
   cases hid:(c.nx==id)<;>cases Uz:(c.nx==id')<;>simp only[hid,Uz,cond_true,cond_false] at h1 h2
   ·obtain ⟨_,a2,_⟩:=hent _ _ h1
    obtain ⟨_,b2,_⟩:=hent _ _ h2;rw[GY a2 hle] at o1;rw[GY b2 hle] at o2;exact hh.Gu _ _ _ _ _ (hold _ _ h1).1 (hold _ _ h2).1 o1 o2
   ·obtain rfl:c.nx=id':=by simpa using Uz
    cases h2;exact (cross h1 o1 (hnew b o2)).elim
   ·obtain rfl:c.nx=id:=by simpa using hid
    cases h1;exact (cross h2 o2 (hnew b o1)).elim
   ·have e1:c.nx=id:=by simpa using hid
    have e2:c.nx=id':=by simpa using Uz
    rw[<-e1,<-e2]
 ·refine ⟨hg.os.trans hw.os,hg.tape.trans hw.tape,hg.output.trans hw.output,Nat.le_trans hw.size hg.size,fun b hb hn=>?_,fun b o hb=>?_,hw.le,hw.fresh⟩
  ·rw[hkeep b (by have:=hw.size;omega) fun e=>?_]
   ·exact hw.kept b hb hn
   ·rcases (hm b e).2 with h|h
    ·omega
    ·exact hn h
  ·have h1:=hw.on b o hb
   rw[hkeep b (bH.1 h1).1 fun e=>?_]
   ·exact h1
   ·have:=(hm b e).1
    rw[hb] at this;cases this
 ·intro b hb hne
  refine hkeep b hb fun e=>?_
  obtain ⟨_,id,sb0,h1,h2,h3,h4,h5⟩:=hvb b e;exact hne id h5 (GX h4)
 ·intro i b h1 h2
  by_cases e:i=c.nx
  ·subst e
   simp[bk,oD] at h2;rcases hv' b h2 with h|h
   ·obtain ⟨_,id,sb0,h1,h2,h3,h4,h5⟩:=hvb b h
    exact .inr ⟨id,h5,GX h4⟩
   ·exact .inl h
  ·simp[bk,oD,e,h1] at h2
 ·intro i hi
  have hi:i∈(Dh c s).tc:=hi;unfold Dh at hi;split at hi
  ·rename_i id hid
   cases hi with
   |head=>
    rcases hs with ⟨h1,_⟩ |⟨id',sb0,h1,h2,h3,h4⟩
    ·rw[hid] at h1;cases h1
    ·rw[hid] at h1;cases h1
     exact .inr (.inr ⟨sb0,h2,by rw[h4];simp[bk,h3]⟩)
   |tail _ hi=>exact .inl hi
  ·exact .inl hi
 ·intro i s0 b0 h1 h2 h3
  refine .inr ⟨s0,?_,aam h3 hle⟩;have h2:i ∉ (Dh c s).tc:=h2;have hd:AA (Dh c s).hp i=ay s0:=by
   unfold Dh at h2 ⊢;split at h2
   ·rename_i id hid
    simp only[U3];cases e:(id==i)<;>simp only[cond_true,cond_false]
    ·exact h1
    ·obtain rfl:id=i:=by simpa using e
     exact (h2 (cO ..)).elim
   ·exact h1
  simp only[E5,hnx];cases hid:(c.nx==i)<;>simp only[cond_true,cond_false]
  ·exact hd
  ·obtain rfl:c.nx=i:=by simpa using hid
   obtain ⟨u,hu⟩:=(hh.ent _ _ h1).some_;rw[hnone] at hu;cases hu
 ·intro i s0 h1 hne
  simp only[E5,hnx] at h1;cases hid:(c.nx==i)<;>simp only[hid,cond_true,cond_false] at h1
  ·have:=(hold _ _ h1).1
   exact ⟨s0,this,fun b h=>by rw[GY (hh.ent _ _ this) hle] at h;exact h⟩
  ·obtain rfl:c.nx=i:=by simpa using hid
   exact (hne hnone).elim
theorem Po(w:World)(e st:Nat):w.ownsRow 0 e st (.slice aN 0 0) 0 []:=⟨by simp,.inl ⟨rfl,rfl⟩⟩
theorem XY{c:Core}{e st:Nat}{s:SV}{v:Value}(hh:AZ K H E w c.hp)(h:Ns c.hp e s=aF)(hd:Den H E s v):
  ((Qg s=aN/\AY v=aN)\/∃id sb0,Qg s=ay id/\AA c.hp id=ay sb0/\E id=ay v/\Bv E id sb0=AY v)/\(∀b,AY v=ay b->Mine K H b)/\
  (∀a n,rowOf c.hp st s=ay (a,n)->∃xs,w.ownsRow 0 e st v n xs/\AV H E a xs)/\
  (∀n g,Nr c.hp st s=ay (n,g)->∃xs,w.ownsRow 0 e st v n xs/\CQ H st n g xs)/\
  (∀n g more,xOf c.hp e st s=ay (n,g,more)->∃xs ys,w.ownsRow 0 e st v (n+more.length / st) (xs++ys)/\CQ H st n g xs/\AV H E more ys/\more.length % st=0/\FU more=aF):=by
 unfold Ns at h;split at h
 ·simp only[Den] at hd;subst hd
  refine ⟨.inl ⟨rfl,rfl⟩,fun b hb=>by simp[AY] at hb,fun a n hr=>?_,fun n g hr=>?_,fun n g more hr=>by simp[xOf] at hr⟩
  ·simp[rowOf] at hr
   obtain ⟨rfl,rfl⟩:=hr;exact ⟨[],Po _ _ _,trivial⟩
  ·simp[Nr] at hr
   obtain ⟨rfl,rfl⟩:=hr;exact ⟨[],Po _ _ _,KD _ _⟩
 ·rename_i id
  split at h
  ·rename_i cells e' st' n hl
   obtain rfl:e=e':=by simpa using h
   obtain ⟨v2,xs,e1,e2,e3,e4⟩:=hh.ent _ _ hl;rw[hd.1] at e1;cases e1;refine ⟨.inr ⟨id,_,rfl,hl,hd.1,by simp[Bv,hd.1]⟩,e4,fun a n2 hr=>?_,fun n2 g hr=>?_,fun n2 g more hr=>by simp[xOf,hl] at hr⟩
   ·simp only[rowOf,hl] at hr
    cases hb:(st==st')<;>simp only[hb,cond_true,cond_false] at hr
    ·cases hr
    obtain rfl:st=st':=by simpa using hb
    cases hr;exact ⟨xs,e2,e3⟩
   ·simp only[Nr,hl] at hr
    cases hb:(st==st'&&FU cells)<;>simp only[hb,cond_true,cond_false] at hr
    ·cases hr
    simp only[aJ,beq_iff_eq] at hb;obtain ⟨rfl,hone⟩:=hb;simp only[bW] at hr;obtain ⟨l,h1,h2⟩:=hr;simp only[jU] at h2;obtain ⟨rfl,rfl⟩:=h2;exact ⟨xs,e2,JU e2.1 (EC hh h1 e3) (FC hone e3)⟩
  ·rename_i e' st' n g hl
   obtain rfl:e=e':=by simpa using h
   obtain ⟨v2,xs,e1,e2,e3,e4⟩:=hh.ent _ _ hl;rw[hd.1] at e1;cases e1;refine ⟨.inr ⟨id,_,rfl,hl,hd.1,by simp[Bv,hd.1]⟩,e4,fun a n2 hr=>?_,fun n2 g2 hr=>?_,fun n2 g2 more hr=>?_⟩
   ·simp[rowOf,hl] at hr
   ·simp only[Nr,hl] at hr
    cases hb:(st==st')<;>simp only[hb,cond_true,cond_false] at hr
    ·cases hr
    obtain rfl:st=st':=by simpa using hb
    cases hr;exact ⟨xs,e2,e3⟩
   ·simp only[xOf,hl] at hr
    cases hb:(e==e&&st==st')<;>simp only[hb,cond_true,cond_false] at hr
    ·cases hr
    simp only[aJ,beq_iff_eq] at hb;obtain ⟨_,rfl⟩:=hb;cases hr;exact ⟨xs,[],by simpa using e2,e3,trivial,by simp,rfl⟩
  ·rename_i e' st' n g more hl
   obtain rfl:e=e':=by simpa using h
   obtain ⟨v2,xs,ys,e1,e2,e3,e4,e5,e6,e7⟩:=hh.ent _ _ hl;rw[hd.1] at e1;cases e1;refine ⟨.inr ⟨id,_,rfl,hl,hd.1,by simp[Bv,hd.1]⟩,e7,fun a n2 hr=>by simp[rowOf,hl] at hr,fun n2 g2 hr=>by simp[Nr,hl] at hr,fun n2 g2 more2 hr=>?_⟩;simp only[xOf,hl] at hr;cases hb:(e==e&&st==st')<;>simp only[hb,cond_true,cond_false] at hr
   ·cases hr
   simp only[aJ,beq_iff_eq] at hb;obtain ⟨_,rfl⟩:=hb;cases hr;exact ⟨xs,ys,e2,e3,e4,e5,e6⟩
  ·rename_i e' l hl
   obtain rfl:e=e':=by simpa using h
   obtain ⟨v2,e1,e2,e4⟩:=hh.ent _ _ hl;rw[hd.1] at e1;cases e1;exact ⟨.inr ⟨id,_,rfl,hl,hd.1,by simp[Bv,hd.1]⟩,e4,fun a n2 hr=>by simp[rowOf,hl] at hr,fun n2 g2 hr=>by simp[Nr,hl] at hr,fun n2 g2 more2 hr=>by simp[xOf,hl] at hr⟩
  ·cases h
 ·cases h
theorem aaS{hp:List (Nat×SB)}{st m:Nat}{b:List SV}{x:SV}{u:Value}(hh:AZ K H E w hp)(he:rowOf hp st x=ay (b,m))(hd:Den H E x u):
  ∃xs,xs.length=m*st/\AV H E b xs/\Src w u m xs:=by
 unfold rowOf at he;split at he
 ·cases he
  simp only[Den] at hd;subst hd;exact ⟨[],by simp,trivial,.inl ⟨rfl,_,_,rfl⟩⟩
 ·rename_i id
  split at he
  ·rename_i cells el st' n hl
   cases hb:(st==st')<;>simp only[hb,cond_true,cond_false] at he
   ·cases he
   obtain rfl:st=st':=by simpa using hb
   cases he;obtain ⟨v,xs,e1,e2,e3,_⟩:=hh.ent _ _ hl;rw[hd.1] at e1;cases e1;exact ⟨xs,e2.1,e3,WG e2⟩
  ·cases he
 ·cases he
theorem one_app:∀{l m:List SV},FU l=aF->FU m=aF->FU (l++m)=aF
 |[],_,_,h=>h |x::l,m,h1,h2=>by
  simp only[FU,aJ,List.cons_append] at h1 ⊢;exact ⟨h1.1,one_app h1.2 h2⟩
theorem JE{e st n:Nat}{v:Value}{xs:List Value}(h:w.ownsRow 0 e st v n xs):∃A n c,v=.slice A n c:=by
 rcases h.2 with ⟨rfl,_⟩ |⟨g,cap,cur,rfl,_⟩
 ·exact ⟨_,_,_,rfl⟩
 ·exact ⟨_,_,_,rfl⟩
theorem agy(n m b:Nat)(h1:gY ((n+m)*b) 140737488355328=aF)(h2:gY (n+m) 1073741824=aF):n+m<=maxLen/\(n+m)*b<=140737488355328:=by
 have h1:=fP h1;have h2:=fP h2;have:maxLen=9223372036854775807:=rfl;exact ⟨by omega,h1⟩
theorem alR{c:Core}{a:Act}{o:Oper}{t:Nat}{x y:Operand}{φ:SV×Core->Prop}(hC:BL P C)(hd:AV H E c.tm a.tmps.toList)(hh:AZ K H E w c.hp)(hw:Es K H w)(hf:Free E c)
  (ho:o.op=.call {callee:=.builtin .append,args:=#[x,y],argTypes:=#[t,t]}) (h:(Rz C c t (BP c.tm x) (BP c.tm y)).All φ):Ia P K H E w c a o φ:=by
 have dx:=BJ (H:=H) (E:=E) hd x;have dy:=BJ (H:=H) (E:=E) hd y;unfold Rz at h;split at h
 ·rename_i i hi
  split at h
  ·rename_i e hty
   have hu:=JD (hC.ty _ _ hi) hty;split at h
   ·rename_i te hte
    obtain ⟨inf,z,h1,h2,h3,h4,h5,h6,_⟩:=(hC.ty _ _ hte).info;cases hb:(Ns c.hp e (BP c.tm x) && !N8 (BP c.tm x) (BP c.tm y)&&fZ 0 te.size)<;>simp only[hb,cond_true,cond_false] at h
    ·exact h.elim
    simp only[aJ] at hb;have h0:=Fv hb.2;obtain ⟨o1,o2,o3,o4,o5⟩:=XY (st:=te.size) hh hb.1.1 dx;have fin:∀(n m:Nat) (xs news:List Value) (sb:SB),(alloc (Dh c (BP c.tm x)) sb (.gs c.nx)).All φ->w.ownsRow 0 e te.size (a.eval x) n xs->Src w (a.eval y) m news->news.length=m*te.size->(∀u∈news,u.oneCell'=aF)->
      n+m<=maxLen->(n+m)*te.bytes<=140737488355328->
      (∀(v':Value) (w':World),w'.ownsRow 0 e te.size v' (n+m) (xs++news)->(∀b,AY v'=ay b->Mine K H b)->c.nx<c.lim->GV K H (E.set c.nx v') w' c.nx sb)->Ia P K H E w c a o φ:=by
     intro n m xs news sb h hown hsrc hl hone hmax hbytes hent;obtain ⟨v',w',hr,ho',hg,hv'⟩:=agm (P:=P) t o.type e inf z te.size te.bytes hu h1 h4 h2 h3 h6 h0 (a.eval x) n xs hown (a.eval y) m news hsrc hl hone hmax hbytes;have FB:∀b,AY v'=ay b->Mine K H b:=fun b hb=>by
      rcases hv' b hb with h|h
      ·exact o2 b h
      ·refine ⟨?_,.inl (by have:=hw.size;omega)⟩
       cases hH:H b with
       |none=>rfl |some o=>have:=(bH.1 (hw.on b o hH)).1;omega
     obtain ⟨c',hφ,hp⟩:=JV hh hw hf h o1 o2 hg hv' (hent v' w' ho' FB);obtain ⟨A,n',cc,e3⟩:=JE ho';refine ⟨_,v',_,H,_,w',hφ,⟨fB _ _ _,A,n',cc,e3⟩,hp,.inl rfl,?_⟩;simp only[execOp,ho,resolve];simp[invoke,builtin,hr]
    split at h
    ·rename_i aa n bb m hr1 hr2
     cases hb2:(FU bb&&gY ((n+m)*te.bytes) 140737488355328&&gY (n+m) 1073741824)<;>simp only[hb2,cond_true,cond_false] at h
     ·exact h.elim
     simp only[aJ] at hb2;obtain ⟨xs,p1,p2⟩:=o3 _ _ hr1;obtain ⟨ys,q1,q2,q3⟩:=aaS hh hr2 dy;obtain ⟨r1,r2⟩:=agy n m te.bytes hb2.1.2 hb2.2;exact fin n m xs ys _ h p1 q3 q1 (FC hb2.1.1 q2) r1 r2 fun v' w' s1 s2 s3=>
      ⟨v',_,fB _ _ _,s1,(p2.append q2).le (fun _ _ e=>e) (nT (hf _ (dw _) s3)),s2⟩
    ·split at h
     ·rename_i n g m k hr1 hr2
      rw[hC.A] at h;obtain ⟨hroom,h⟩:=h;obtain ⟨r2,r1⟩:=FV hroom;have ea:Aw.addN n m=n+m:=rfl;rw[ea] at r1 r2 h;obtain ⟨xs,p1,p2⟩:=o4 _ _ hr1;obtain ⟨ys,q1,q2⟩:=anC h0 hh hw.on hr2 dy;exact fin n m xs ys _ h p1 q2 q1.1 q1.2.2.1 r1 r2 fun v' w' s1 s2 s3=>
       ⟨v',_,fB _ _ _,s1,aaR p2 q1,s2⟩
     ·split at h
      ·rename_i n g more bb m hr1 hr2
       cases hone:FU bb<;>simp only[hone,cond_true,cond_false] at h
       ·exact h.elim
       rw[hC.A] at h;obtain ⟨hroom,h⟩:=h;obtain ⟨r2,r1⟩:=FV hroom;obtain ⟨xs,zs,p1,p2,p3,p4,p5⟩:=o5 _ _ _ hr1;obtain ⟨ys,q1,q2,q3⟩:=aaS hh hr2 dy;have hbl:bb.length=m*te.size:=by rw[<-q2.length,q1]
       have hdiv:(more++bb).length / te.size=more.length / te.size+m:=by
        rw[bf,hbl,Nat.add_mul_div_right _ _ h0]
       have hmod:(more++bb).length % te.size=0:=by
        rw[bf,hbl,Nat.add_mul_mod_self_right,p4]
       have ea:Aw.addN n (Nat.div (more++bb).length te.size)=n+more.length / te.size+m:=by
        show n+(more++bb).length / te.size=_;rw[hdiv];omega
       rw[ea] at r1 r2;have hon:FU (more++bb)=aF:=one_app p5 hone;exact fin (n+more.length / te.size) m (xs++zs) ys _ h p1 q3 q1 (FC hone q2) r1 r2 fun v' w' s1 s2 s3=>
        ⟨v',xs,zs++ys,fB _ _ _,by rw[hdiv,<-dV,<-jX];exact s1,p2,(p3.append q2).le (fun _ _ e=>e) (nT (hf _ (dw _) s3)),hmod,hon,s2⟩
      ·exact h.elim
   ·exact h.elim
  ·exact h.elim
 ·exact h.elim
theorem Zc:∀{cells:List SV} {l:List UInt8} {xs:List Value},aaE cells=ay l->AV H E cells xs->xs=bytesV l
 |[],_,[],h,_=>by simp[aaE] at h;subst h;rfl |x::r,l,v::vs,h,⟨hd,hr⟩=>by
  unfold aaE at h;split at h
  ·rename_i e;cases e
  ·rename_i n r' e
   cases e;cases hb:(decide (0<=n)&&decide (n<256))<;>simp only[hb,cond_true,cond_false] at h
   ·cases h
   simp only[aJ,decide_eq_true_eq] at hb;simp only[bW] at h;obtain ⟨m,hm,rfl⟩:=h;have ih:=Zc hm hr;have hv:v=.int .u8 n:=hd;rw[ih,hv];show _=iU .u8 ((kG n.toNat).toNat:Int)::bytesV m;have:(kG n.toNat).toNat=n.toNat:=by
    rw[UInt8.toNat_ofNat'];exact iG (by omega)
   rw[this,show ((n.toNat:Nat):Int)=n by omega]
  ·cases h
 |[],_,_::_,_,h=>h.elim |_::_,_,[],_,h=>h.elim
theorem RS{hp:List (Nat×SB)}{e:Nat}{x:SV}{u:Value}{l:List UInt8}(hh:AZ K H E w hp)(h:Ry hp e x=ay l)(hd:Den H E x u):G6 w e u l:=by
 unfold Ry at h;split at h
 ·cases h
  have hd:u=_:=hd;exact .inl ⟨hd,rfl⟩
 ·rename_i id
  split at h
  ·rename_i e' l' hl
   cases hb:(e==e')<;>simp only[hb,cond_true,cond_false] at h
   ·cases h
   cases h;obtain rfl:e=e':=by simpa using hb
   obtain ⟨v,e1,e2,_⟩:=hh.ent _ _ hl;rw[hd.1] at e1;cases e1;exact e2
  ·rename_i cells e' st n hl
   cases hb:(e==e'&&st==1&&n==cells.length)<;>simp only[hb,cond_true,cond_false] at h
   ·cases h
   simp only[aJ,beq_iff_eq] at hb;obtain ⟨⟨rfl,rfl⟩,rfl⟩:=hb;obtain ⟨v,xs,e1,e2,e3,_⟩:=hh.ent _ _ hl;rw[hd.1] at e1;cases e1;exact ae0 e2 (Zc h e3)
  ·cases h
 ·cases h
theorem Qp(hC:BL P C){e:Nat}(h:JQ C e=aF):P.underlying e=ay (.int .u8)/\∃i,P.info? e=ay i/\i.zero=ay (.int .u8 0)/\i.size=1/\i.bytes=1:=by
 unfold JQ at h;split at h
 ·rename_i te hte
  have ht:=hC.ty _ _ hte;split at h
  ·rename_i n hty hz
   simp only[aJ,beq_iff_eq] at h;obtain ⟨⟨h1,h2⟩,rfl⟩:=h;have hu:=ht.desc;rw[hty] at hu;obtain ⟨inf,z,q1,q2,q3,q4,q5,q6,_,q8⟩:=ht.info;rw[hz] at q5;refine ⟨hu,inf,q1,?_,by omega,by omega⟩;rw[q4];have hone:=(q8 (by rw[hty];rfl)).2;have hc:z.cells=#[z]:=by
    cases z<;>simp[jW,mZ] at hone ⊢
   rw[hc] at q5;have:z=.int .u8 0:=q5.1;rw[this]
  ·cases h
 ·cases h
theorem aaT{e:Nat}{v:Value}{l:List UInt8}(h:G6 w e v l):∃A n c,v=.slice A n c:=by
 rcases h with ⟨rfl,_⟩ |⟨g,cap,cur,fz,rfl,_⟩
 ·exact ⟨_,_,_,rfl⟩
 ·exact ⟨_,_,_,rfl⟩
theorem Rh{c:Core}{a:Act}{o:Oper}{t u e:Nat}{x y:Operand}{l m:List UInt8}{φ:SV×Core->Prop}(hC:BL P C)(hd:AV H E c.tm a.tmps.toList)(hh:AZ K H E w c.hp)(hw:Es K H w)(hf:Free E c)
  (ho:o.op=.call {callee:=.builtin .append,args:=#[x,y],argTypes:=#[t,u]}) (ht:P.underlying t=ay (.slice e)) (hb:JQ C e=aF) (hown:Ns c.hp e (BP c.tm x)=aF) (hl:Ry c.hp e (BP c.tm x)=ay l)
  (hm:akE P w u (a.eval y) m) (hr:Aw.room (Aw.addN (Aw.len l) (Aw.len m)) 1=aF) (h:(alloc (Dh c (BP c.tm x)) (.buf e (Aw.app l m)) (.gs c.nx)).All φ):Ia P K H E w c a o φ:=by
 have dx:=BJ (H:=H) (E:=E) hd x;obtain ⟨hu8,i,i1,i2,i3,i4⟩:=Qp hC hb;obtain ⟨o1,o2,_⟩:=XY (st:=1) hh hown dx;obtain ⟨r2,r1⟩:=FV hr;obtain ⟨v',w',hrun,hb',hg,hv'⟩:=agv (P:=P) t u o.type e i ht i1 i2 i3 i4 (a.eval x) l (RS hh hl dx) (a.eval y) m hm r1 r2;have FB:∀b,AY v'=ay b->Mine K H b:=fun b hb=>by
  rcases hv' b hb with h|h
  ·exact o2 b h
  ·refine ⟨?_,.inl (by have:=hw.size;omega)⟩
   cases hH:H b with
   |none=>rfl |some o=>have:=(bH.1 (hw.on b o hH)).1;omega
 obtain ⟨c',hφ,hp⟩:=JV hh hw hf h o1 o2 hg hv' (fun _=>⟨v',fB _ _ _,hb',FB⟩);obtain ⟨A,n',cc,e3⟩:=aaT hb';refine ⟨_,v',_,H,_,w',hφ,⟨fB _ _ _,A,n',cc,e3⟩,hp,.inl rfl,?_⟩;simp only[execOp,ho,resolve];simp[invoke,builtin,hrun]
theorem aiY{c:Core}{a:Act}{o:Oper}{t u:Nat}{x y:Operand}{φ:SV×Core->Prop}(hC:BL P C)(hd:AV H E c.tm a.tmps.toList)(hh:AZ K H E w c.hp)(hw:Es K H w)(hf:Free E c)
  (ho:o.op=.call {callee:=.builtin .append,args:=#[x,y],argTypes:=#[t,u]}) (h:(Qh C c t u (BP c.tm x) (BP c.tm y)).All φ):Ia P K H E w c a o φ:=by
 have dy:=BJ (H:=H) (E:=E) hd y;unfold Qh at h;split at h
 ·rename_i ti ui hti hui
  split at h
  ·rename_i e h1 h2
   split at h
   ·rename_i l m hl hm
    cases hb:(JQ C e&&Ns c.hp e (BP c.tm x))<;>simp only[hb,cond_true,cond_false] at h
    ·exact h.elim
    simp only[aJ] at hb;rw[hC.A] at h;have hu:=(hC.ty _ _ hui).desc;rw[h2] at hu;have ey:=Og hm dy;exact Rh hC hd hh hw hf ho (JD (hC.ty _ _ hti) h1) hb.1 hb.2 hl (by rw[ey];exact alN hu m) h.1 h.2
   ·exact h.elim
  ·exact h.elim
 ·exact h.elim
theorem aiZ{c:Core}{a:Act}{o:Oper}{t:Nat}{x y:Operand}{φ:SV×Core->Prop}{r:Tree (SV×Core)}(hC:BL P C)(hd:AV H E c.tm a.tmps.toList)(hh:AZ K H E w c.hp)(hw:Es K H w)(hf:Free E c)
  (ho:o.op=.call {callee:=.builtin .append,args:=#[x,y],argTypes:=#[t,t]}) (hr:Qi C c t (BP c.tm x) (BP c.tm y)=ay r) (h:r.All φ):Ia P K H E w c a o φ:=by
 have dy:=BJ (H:=H) (E:=E) hd y;unfold Qi at hr;split at hr
 ·rename_i id hx
  split at hr
  ·rename_i e l hl
   split at hr
   ·rename_i ti m hti hm
    split at hr
    ·rename_i e' hty
     cases hb:(e==e'&&JQ C e && !N8 (BP c.tm x) (BP c.tm y))<;>simp only[hb,cond_true,cond_false] at hr
     ·cases hr
     cases hr;simp only[aJ,beq_iff_eq] at hb;obtain ⟨⟨rfl,hb⟩,_⟩:=hb;rw[hC.A] at h;have ht:=JD (hC.ty _ _ hti) hty;have ho1:Ns c.hp e (BP c.tm x)=aF:=by rw[hx];simp[Ns,hl]
     have ho2:Ry c.hp e (BP c.tm x)=ay l:=by rw[hx];simp[Ry,hl]
     exact Rh hC hd hh hw hf ho ht hb ho1 ho2 (alO ht (RS hh hm dy)) h.1 h.2
    ·cases hr
   ·cases hr
  ·cases hr
 ·cases hr
theorem ars{c:Core}{a:Act}{o:Oper}{t u:Nat}{x:Operand}{φ:SV×Core->Prop}(hC:BL P C)(hd:AV H E c.tm a.tmps.toList)(hh:AZ K H E w c.hp)(hw:Es K H w)(hf:Free E c)
  (ho:o.op=.convert t u x) (h:(XM C c t u (BP c.tm x)).All φ):Ia P K H E w c a o φ:=by
 have dx:=BJ (H:=H) (E:=E) hd x;unfold XM at h;split at h
 ·rename_i ti ui hti hui
  have ht:=(hC.ty _ _ hti).desc;have hu:=(hC.ty _ _ hui).desc;split at h
  ·rename_i k1 k2 e1 e2
   rw[e1] at ht;rw[e2] at hu;have key:∀(k:IntKind) (n:Int),a.eval x=.int k n->(execOp a.eval o).run P w=.ok (.value (.int k2 (k2.wrap n))) w:=fun k n hv=>by
    simp only[execOp,ho,hv];simp[convert,run_underlying ht,run_underlying hu,Conv.intToInt]
   split at h
   ·rename_i k n hx
    rw[hx] at dx;exact ⟨_,.int k2 (k2.wrap n),_,H,E,w,h,rfl,pI hh hw,.inl rfl,key k n dx⟩
   ·rename_i k n hx
    rw[hx] at dx;rw[hC.A] at h;exact ⟨_,.int k2 (k2.wrap n),_,H,E,w,h,rfl,pI hh hw,.inl rfl,key k n dx⟩
   ·exact h.elim
  ·rename_i e e1 e2
   rw[e1] at ht;rw[e2] at hu;split at h
   ·rename_i l hl
    cases hb:JQ C e<;>simp only[hb,cond_true,cond_false] at h
    ·exact h.elim
    rw[hC.A] at h;obtain ⟨h1,h2⟩:=h;obtain ⟨r2,r1⟩:=FV h1;obtain ⟨hu8,_⟩:=Qp hC hb;have ex:=Og hl dx;obtain ⟨v',w',hrun,hb',hg,hv'⟩:=agw (P:=P) (w:=w) (src:=t) (dst:=u) ht hu hu8 l r1;have FB:∀b,AY v'=ay b->Mine K H b:=fun b hb=>by
     have:=hv' b hb;refine ⟨?_,.inl (by have:=hw.size;omega)⟩;cases hH:H b with
     |none=>rfl |some o=>have:=(bH.1 (hw.on b o hH)).1;omega
    obtain ⟨c',hφ,hp⟩:=JV (s:=.Bj) (v:=.slice aN 0 0) (v':=v') hh hw hf h2 (.inl ⟨rfl,rfl⟩) (fun b hb=>by simp[AY] at hb) hg (fun b hb=>.inr (hv' b hb)) (fun _=>⟨v',fB _ _ _,hb',FB⟩);obtain ⟨A,n',cc,e3⟩:=aaT hb';refine ⟨_,v',_,H,_,w',hφ,⟨fB _ _ _,A,n',cc,e3⟩,hp,.inl rfl,?_⟩;simp only[execOp,ho,ex];simp[hrun]
   ·exact h.elim
  ·rename_i e e1 e2
   rw[e1] at ht;rw[e2] at hu;split at h
   ·rename_i l hl
    cases hb:JQ C e<;>simp only[hb,cond_true,cond_false] at h
    ·exact h.elim
    obtain ⟨hu8,_⟩:=Qp hC hb;have hrun:=alP (P:=P) (src:=t) (dst:=u) ht hu8 hu (RS hh hl dx) w fun _ _=>rfl
    refine ⟨_,.string ⟨l.toArray⟩,_,H,E,w,h,.str l,pI hh hw,.inl rfl,?_⟩;simp only[execOp,ho];simp[hrun]
   ·exact h.elim
  ·exact h.elim
 ·exact h.elim
end
section
variable{P:Program}{C:Ctx}{K:Kx}{H H':Mem}{E E':Env}{w w':World}
theorem aaU{st n:Nat}{g:Nat->List Sh}{u:Value}(h:Rep H (.sl st n g) u):∃A cap,u=.slice A n cap/\n<=cap/\cap<=maxLen:=by
 cases h with
 |sl0 _ _ A cap hc=>exact ⟨_,_,rfl,gV _,hc⟩ |sl _ _ _ b off cap c h1 h2=>exact ⟨_,_,rfl,h1,h2⟩
theorem anD{st n l h cap:Nat}{g g':Nat->List Sh}{A:Option Addr}(hr:Rep H (.sl st n g) (.slice A n cap))(hl:l<=h)(hh:h<=n)(hg:∀j,j<h - l->g' j=g (l+j)):
  Rep H (.sl st (h - l) g') (sliced A l h cap st):=by
 by_cases e:h - l=0
 ·unfold sliced
  rw[e];refine .sl0 _ _ _ _ ?_;obtain ⟨A',cap',e1,_,e2⟩:=aaU hr;cases e1;omega
 ·generalize hn:n=m at hr
  cases hr with
  |sl0 _ _ _ _ hc=>omega |sl _ _ _ b off _ c h1 h2 h3 h4 h5 h6=>
   subst hn;unfold sliced;rw[if_neg (by omega)];simp only[lU,eU];refine .sl _ _ _ b (off+l*st) _ (fun i j=>c (l+i) j) (by omega) (by omega) (fun i hi=>by rw[hg i hi];exact h3 _ (by omega)) (fun i j hi hj=>?_) (fun i j hi hj=>h5 _ _ (by omega) hj) fun i j s hi e=>?_
   ·have:=h4 (l+i) j (by omega) hj
    rw[gB] at this;rw[<-this];congr 1;omega
   ·rw[hg i hi] at e
    exact h6 _ _ _ (by omega) e
theorem KE{i:Int}{n:Nat}(h:Aw.upTo i n=aF):0<=i/\i<=n:=by simpa[Aw] using h
theorem ai0{c:Core}{hp:List (Nat×SB)}(hH:H.le H')(hh:AZ K H' E w hp)(hw:Es K H' w)(hz:U4 H' E c.hp hp):Post K H E w c H' E w {c with hp}:=
 ⟨hH,fun _ _ e=>e,fun _ h1 h2=>(h2 h1).elim,dw _,.inr rfl,rfl,rfl,hh,hw,fun _ h=>h,dw _,fun _ _ _=>rfl,fun i b h1 h2=>by simp[bk,h1] at h2,fun _ h=>.inl h,
  fun id sb b h1 _ h3=>(hz.keep id sb b h1 h3).imp (fun h=>h) fun h=>⟨sb,h,h3⟩,fun id sb h _=>hz.old id sb h⟩
theorem anE{c:Core}{a:Act}{o:Oper}{t:Nat}{x:Operand}{lo hi:Option Operand}{φ:SV×Core->Prop}(hC:BL P C)(hd:AV H E c.tm a.tmps.toList)(hh:AZ K H E w c.hp)(hw:Es K H w)
  (ho:o.op=.slice t x lo hi aN) (h:(UO C c t (BP c.tm x) (lo.map (BP c.tm)) (hi.map (BP c.tm))).All φ):Ia P K H E w c a o φ:=by
 have dx:=BJ (H:=H) (E:=E) hd x;unfold UO at h;split at h
 ·rename_i ti hti
  split at h
  ·rename_i e hty
   have hu:=JD (hC.ty _ _ hti) hty;split at h
   ·rename_i te hte
    have hsz:∀w,(sizeOf e).run P w=.ok te.size w:=fun w=>Jz (hC.ty _ _ hte) w;split at h
    ·rename_i id n hv hvw e1 e2
     have e1':lo=aN:=by cases lo<;>simp at e1 ⊢
     subst e1';simp only[bW] at e2;obtain ⟨y,rfl,rfl⟩:=e2;split at h
     ·rename_i hi hn q1 q2
      obtain ⟨k,ey⟩:=Ho q1 (BJ (H:=H) (E:=E) hd y);rw[hC.A] at h q2;have q2:=Hr q1 q2;obtain ⟨g1,g2⟩:=h;obtain ⟨g1,g3⟩:=KE g1;unfold akz at hvw;split at hvw
      ·rename_i id' hx
       split at hvw
       ·rename_i el st' m g hl
        cases hb:(te.size==st')<;>simp only[hb,cond_true,cond_false] at hvw
        ·cases hvw
        cases hvw;rw[hx] at dx;obtain ⟨he,A,n2,cap,eu⟩:=dx;obtain ⟨v,xs,e3,e4,_⟩:=hh.ent _ _ hl;rw[he] at e3;cases e3;rw[eu] at e4 he;have hk:n2=n:=by
         have:=MS e4;simpa[lenV] using this
        subst hk;have helem:P.elem t=e:=by simp[wz,hu]
        have hu':P.underlying t=ay (.slice (P.elem t)):=by rw[helem];exact hu
        have hcap:n2<=cap:=by
         rcases e4.2 with ⟨e5,_⟩ |⟨_,_,_,e5,_,_,e6,_⟩
         ·cases e5;exact dw _
         ·cases e5;exact e6
        have hr:=run_slice_h (P:=P) w t A n2 cap hu' k hi (by omega) (by omega);subst q2;have hs:sliced A 0 hi.toNat cap te.size=.slice A hi.toNat cap:=by cases A<;>simp[sliced,nG]
        refine ⟨_,.slice A hi.toNat cap,_,H,E,w,g2,⟨A,n2,cap,he,by omega,rfl⟩,pI hh hw,.inl rfl,?_⟩;rw[helem,hsz] at hr;simp[execOp,ho,run_sliceAt_slice _ _ _ _ _ _ hu',eu,ey,hr,hs]
       ·cases hvw
      ·cases hvw
     ·exact h.elim
    split at h
    ·exact h.elim
    ·rename_i hp hfz
     have hfz':∃H',H.le H'/\AZ K H' E w hp/\Es K H' w/\U4 H' E c.hp hp:=by
      split at hfz
      ·exact Ny hfz hh hw
      ·cases hfz;exact ⟨H,fun _ _ e=>e,hh,hw,U4.refl _ _ _⟩
     obtain ⟨H',hH,hh',hw',hz'⟩:=hfz';split at h
     ·rename_i st n g hsh
      have hrep:=MV hh' hsh (dx.le hH (fun _ _ e=>e));obtain ⟨A,cap,eu,hcap,hmax⟩:=aaU hrep;rw[eu] at hrep;cases hb:(st==te.size)<;>simp only[hb,cond_true,cond_false] at h
      ·exact h.elim
      obtain rfl:st=te.size:=by simpa using hb
      have helem:P.elem t=e:=by simp[wz,hu]
      have hu':P.underlying t=ay (.slice (P.elem t)):=by rw[helem];exact hu
      have fin:∀(sv:SV) (l h:Nat) (g':Nat->List Sh),φ (sv,{c with hp})->sv=.sh (.sl te.size (h - l) g')->l<=h->h<=n->(∀j,j<h - l->g' j=g (l+j))->
        (Instr.slice t (.slice A n cap) (lo.map a.eval) (hi.map a.eval) aN).run P w=((sizeOf (P.elem t)).run P w).andThen (fun s w=>.ok (sliced A l h cap s) w)->Ia P K H E w c a o φ:=by
       intro sv l h g' hφ hsv h1 h2 h3 hr;refine ⟨_,sliced A l h cap te.size,_,H',E,w,hφ,?_,ai0 hH hh' hw' hz',.inl rfl,?_⟩
       ·subst hsv
        exact anD hrep h1 h2 h3
       ·rw[helem,hsz] at hr
        simp[execOp,ho,run_sliceAt_slice _ _ _ _ _ _ hu',eu,hr]
      have hA:=hC.A;rw[hA] at h;split at h
      ·rename_i e1 e2
       have e1':lo=aN:=by cases lo<;>simp at e1 ⊢
       have e2':hi=aN:=by cases hi<;>simp at e2 ⊢
       subst e1' e2';exact fin _ 0 n g h (by rw[uH]) (by omega) (by omega) (fun j _=>by rw[gU]) (run_slice_all (P:=P) w t A n cap hu')
      ·rename_i hv e1 e2
       have e1':lo=aN:=by cases lo<;>simp at e1 ⊢
       subst e1';simp only[bW] at e2;obtain ⟨y,rfl,rfl⟩:=e2;split at h
       ·rename_i hi hn q1 q2
        obtain ⟨k,ey⟩:=Ho q1 (BJ (H:=H) (E:=E) hd y);have q2:=Hr q1 q2;obtain ⟨g1,g2⟩:=h;obtain ⟨g1,g3⟩:=KE g1;refine fin _ 0 hn g g2 (by rw[uH]) (by omega) (by omega) (fun j _=>by rw[gU]) ?_;have:=run_slice_h (P:=P) w t A n cap hu' k hi (by omega) (by omega);simp only[lU,uJ,ey];rw[this,q2]
       ·exact h.elim
      ·rename_i lv e1 e2
       have e2':hi=aN:=by cases hi<;>simp at e2 ⊢
       subst e2';simp only[bW] at e1;obtain ⟨y,rfl,rfl⟩:=e1;split at h
       ·rename_i li l q1 q2
        obtain ⟨k,ey⟩:=Ho q1 (BJ (H:=H) (E:=E) hd y);have q2:=Hr q1 q2;obtain ⟨g1,g2⟩:=h;obtain ⟨g1,g3⟩:=KE g1;refine fin _ l n _ g2 rfl (by omega) (by omega) (fun j _=>rfl) ?_;have:=run_slice_l (P:=P) w t A n cap hu' k li (by omega) (by omega);simp only[lU,uJ,ey];rw[this,q2]
       ·exact h.elim
      ·rename_i lv hv e1 e2
       simp only[bW] at e1 e2;obtain ⟨y,rfl,rfl⟩:=e1;obtain ⟨z,rfl,rfl⟩:=e2;split at h
       ·rename_i li l hi hn q1 q2 q3 q4
        obtain ⟨k,ey⟩:=Ho q1 (BJ (H:=H) (E:=E) hd y);obtain ⟨k2,ez⟩:=Ho q3 (BJ (H:=H) (E:=E) hd z);have q2:=Hr q1 q2;have q4:=Hr q3 q4;obtain ⟨g1,g2,g3⟩:=h;obtain ⟨g1,g4⟩:=KE g1;obtain ⟨g2,g5⟩:=KE g2;refine fin _ l hn _ g3 rfl (by omega) (by omega) (fun j _=>rfl) ?_;have:=run_slice_lh (P:=P) w t A n cap hu' k k2 li hi (by omega) (by omega) (by omega);simp only[lU,ey,ez];rw[this,q2,q4]
       ·exact h.elim
     ·exact h.elim
   ·exact h.elim
  ·exact h.elim
 ·exact h.elim
theorem Zd{k:IntKind}{n:Int}{sv:SV}{v:Value}(hv:Den H E sv v):∀{es es':List (SV×SV)} {ms:List MapEntry} (j:Nat),VY k n sv es=ay es'->Oc H E es ms->
  (∃i u m,dP (.int k) (.int k n) ms j=ay (ay (j+i,u))/\ms[i]?=ay m/\m.key=.int k n/\Oc H E es' (ms.modify i fun m=>{m with key:=.int k n,val:=v}))\/
  (dP (.int k) (.int k n) ms j=ay aN/\∀clk,Oc H E es' (ms++[{key:=.int k n,val:=v,born:=clk}]))
 |[],es',[],j,h,_=>by
  simp[VY] at h;subst h;exact .inr ⟨rfl,fun clk=>⟨rfl,hv,trivial⟩⟩
 |(k',u)::es,es',m::ms,j,h,⟨h1,h2,h3⟩=>by
  unfold VY at h;split at h
  ·rename_i e;cases e
  ·rename_i l p u es0 e
   simp only[qK,jU] at e;obtain ⟨⟨rfl,rfl⟩,rfl⟩:=e;have h1:m.key=.int l p:=h1;cases hb:(l==k)<;>simp only[hb,cond_true,cond_false] at h
   ·cases h
   obtain rfl:l=k:=by simpa using hb
   cases hp:(p==n)<;>simp only[hp,cond_true,cond_false] at h
   ·have hne:(n==p)=aA:=by simp at hp ⊢;exact fun e=>hp e.symm
    simp only[bW] at h;obtain ⟨r,hr,rfl⟩:=h;rcases Zd hv (j+1) hr h3 with ⟨i,u',m',e1,e2,e3,e4⟩ |⟨e1,e2⟩
    ·refine .inl ⟨i+1,u',m',?_,by simpa using e2,e3,?_⟩
     ·simp[dP,h1,dZ,hne,e1];omega
     ·simp only[List.modify_succ_cons]
      exact ⟨h1,h2,e4⟩
    ·refine .inr ⟨by simp[dP,h1,dZ,hne,e1],fun clk=>⟨h1,h2,e2 clk⟩⟩
   ·cases h
    obtain rfl:p=n:=by simpa using hp
    refine .inl ⟨0,m.val,m,by simp[dP,h1,dZ],rfl,h1,?_⟩;simp only[List.modify_zero_cons];exact ⟨rfl,hv,h3⟩
  ·cases h
 |[],_,_::_,_,_,h=>h.elim |_::_,_,[],_,_,h=>h.elim
theorem E8(w:World)(b k:Nat)(o o':Obj)(h:w.heap[b]?=ay o):(w.heap.setIfInBounds b o')[k]?=if k=b then ay o' else w.heap[k]?:=by
 have hlt:=(bH.1 h).1;by_cases e:k=b
 ·subst e;simp[hlt]
 ·simp[e,Array.getElem?_setIfInBounds_ne (Ne.symm e)]
theorem YW.push{ms:List MapEntry}{N:Ea->Option Value}(h:YW ms N){n:Ea}(hne:∀m∈ms,m.key≠Dz n)(v:Value)(clk:Nat):
  YW (ms++[{key:=Dz n,val:=v,born:=clk}]) (fun j=>if j=n then ay v else N j):=by
 have hget:∀(i:Nat) (m:MapEntry),(ms++[{key:=Dz n,val:=v,born:=clk:MapEntry}])[i]?=ay m->(i<ms.length/\ms[i]?=ay m)\/(i=ms.length/\m={key:=Dz n,val:=v,born:=clk}):=fun i m hi=>by
  rw[kQ] at hi;split at hi
  ·exact .inl ⟨by assumption,hi⟩
  ·have:i - ms.length=0:=by
    have:=(aQ.1 hi).1;simp at this;omega
   rw[this] at hi;simp at hi;exact .inr ⟨by omega,hi.symm⟩
 refine ⟨fun m hm=>?_,fun m hm j e=>?_,fun j u hj=>?_,fun i j m m' a b e=>?_⟩
 ·rcases bK.1 hm with hm|hm
  ·exact h.key m hm
  ·simp at hm;subst hm;exact ⟨n,rfl⟩
 ·rcases bK.1 hm with hm1|hm1
  ·rw[if_neg (show ¬j=n from fun e2=>hne m hm1 (by rw[<-e2];exact e))]
   exact h.ZU m hm1 j e
  ·simp at hm1;subst hm1
   rw[if_pos (Qn e).symm]
 ·by_cases e:j=n
  ·subst e;exact ⟨_,bK.2 (.inr (cO ..)),rfl⟩
  ·rw[if_neg e] at hj
   obtain ⟨m,hm,q⟩:=h.ex j u hj;exact ⟨m,bK.2 (.inl hm),q⟩
 ·rcases hget i m a with ⟨_,a⟩ |⟨a,rfl⟩<;>rcases hget j m' b with ⟨_,b⟩ |⟨b,rfl⟩
  ·exact h.one i j m m' a b e
  ·exact (hne m (bP a) e).elim
  ·exact (hne m' (bP b) e.symm).elim
  ·omega
theorem YW.set{ms:List MapEntry}{N:Ea->Option Value}(h:YW ms N){n:Ea}{i:Nat}{m0:MapEntry}(hi:ms[i]?=ay m0)(hk:m0.key=Dz n)(v:Value){f:MapEntry->MapEntry}
  (hf1:(f m0).key=Dz n) (hf2:(f m0).val=v):YW (ms.modify i f) (fun j=>if j=n then ay v else N j):=by
 have hget:∀(j:Nat) (m:MapEntry),(ms.modify i f)[j]?=ay m->(j=i/\m=f m0)\/(j≠i/\ms[j]?=ay m):=fun j m hj=>by
  rw[iF] at hj;by_cases e:i=j
  ·subst e
   rw[hi] at hj;simp at hj;exact .inl ⟨rfl,hj.symm⟩
  ·simp[e] at hj
   exact .inr ⟨fun e2=>e e2.symm,hj⟩
 have hin:∀m∈ms.modify i f,m=f m0\/(m∈ms/\m.key≠Dz n):=fun m hm=>by
  obtain ⟨j,hj⟩:=dG.1 hm;rcases hget j m hj with ⟨_,e⟩ |⟨e,e2⟩
  ·exact .inl e
  ·refine .inr ⟨bP e2,fun e3=>e ?_⟩
   exact h.one j i m m0 e2 hi (e3.trans hk.symm)
 have hnew:f m0∈ms.modify i f:=by
  refine dG.2 ⟨i,?_⟩;rw[iF];simp[hi]
 refine ⟨fun m hm=>?_,fun m hm j e=>?_,fun j u hj=>?_,fun a b m m' ha hb e=>?_⟩
 ·rcases hin m hm with rfl|hm
  ·exact ⟨n,hf1⟩
  ·exact h.key m hm.1
 ·rcases hin m hm with rfl|⟨hm,hne⟩
  ·rw[hf1] at e;rw[if_pos (Qn e).symm,hf2]
  ·rw[if_neg fun e2=>by subst e2;exact hne e]
   exact h.ZU m hm j e
 ·by_cases e:j=n
  ·subst e;exact ⟨_,hnew,hf1⟩
  ·rw[if_neg e] at hj
   obtain ⟨m,hm,q⟩:=h.ex j u hj;obtain ⟨a,ha⟩:=dG.1 hm;refine ⟨m,dG.2 ⟨a,?_⟩,q⟩;have hne:¬i=a:=fun e2=>by subst e2;rw[hi] at ha;cases ha;rw[hk] at q;exact e (Qn q).symm
   rw[iF,ha];simp[hne]
 ·rcases hget a m ha with ⟨a1,rfl⟩ |⟨a1,a2⟩<;>rcases hget b m' hb with ⟨b1,rfl⟩ |⟨b1,b2⟩
  ·omega
  ·exact (b1 (h.one b i m' m0 b2 hi (e.symm.trans (hf1.trans hk.symm)))).elim
  ·exact (a1 (h.one a i m m0 a2 hi (e.trans (hf1.trans hk.symm)))).elim
  ·exact h.one a b m m' a2 b2 e
theorem aaV{M:Ea->Option Value}{n:Ea}{o:Option Value}{uv:List (Ea×Option Value)}:RJ M ((n,o)::uv)=fun j=>if j=n then o else RJ M uv j:=rfl
theorem ai1(n:Ea):mJ 10000 (Dz n) (Dz n)=aF:=by
 have h (b:ByteArray):(b==b)=aF:=by
  obtain ⟨⟨l⟩⟩:=b;show ((⟨⟨l⟩⟩:ByteArray).data==(⟨⟨l⟩⟩:ByteArray).data)=aF;exact beq_self_eq_true _
 simp[Dz,mJ,h]
theorem adL{c:Core}{a:Act}{o:Oper}{t:Nat}{x y z:Operand}{φ:SV×Core->Prop}(hC:BL P C)(hd:AV H E c.tm a.tmps.toList)(hh:AZ K H E w c.hp)(hw:Es K H w)
  (ho:o.op=.mapUpdate t x y z\/o.op=.insert t x y z) (h:(N9 C c t (BP c.tm x) (BP c.tm y) (BP c.tm z)).All φ):Ia P K H E w c a o φ:=by
 have dx:=BJ (H:=H) (E:=E) hd x;have dy:=BJ (H:=H) (E:=E) hd y;have dz:=BJ (H:=H) (E:=E) hd z;unfold N9 at h;split at h
 ·rename_i ti hti
  split at h
  ·rename_i kt vt hty
   have ht:=(hC.ty _ _ hti).desc;rw[hty] at ht;have ht:P.underlying t=ay (.map kt vt):=ht;split at h
   ·rename_i kti agz
    have hk:=(hC.ty _ _ agz).desc;split at h
    ·rename_i kk id k n hkk hx hy
     rw[hkk] at hk;have hk:P.underlying kt=ay (.int kk):=hk;rw[hx] at dx;rw[hy] at dy;obtain ⟨b,he,ex⟩:=dx;have ey:a.eval y=.int k n:=dy;split at h
     ·rename_i es hl
      cases hb:(kk==k)<;>simp only[hb,cond_true,cond_false] at h
      ·exact h.elim
      obtain rfl:kk=k:=by simpa using hb
      split at h
      ·rename_i es' hes
       obtain ⟨b',ms,clk,he',h1,h2,h3⟩:=hh.ent _ _ hl;rw[he] at he';cases he';have hg:(getObj b).run P w=.ok (.map ms clk) w:=by simp[getObj,lC,h1]
       have hck:=KX (P:=P) hk aA kk n w;have hso:∀o',(setObj b o').run P w=.ok () {w with heap:=w.heap.setIfInBounds b o'}:=fun o'=>by simp[setObj,lC,h1]
       have fin:∀(o':Obj) (ms':Array MapEntry) (Nz:Nat),o'=.map ms' Nz->Oc H E es' ms'.toList->(jD t (.map (ay b)) (.int kk n) (a.eval z)).run P w=.ok () {w with heap:=w.heap.setIfInBounds b o'}->Ia P K H E w c a o φ:=by
        intro o' ms' Nz ho' hd' hr;subst ho';refine ⟨_,undef,_,H,E,{w with heap:=w.heap.setIfInBounds b (.map ms' Nz)},h,trivial,?_,.inr ⟨rfl,rfl⟩,?_⟩
        rotate_left
        ·rcases ho with ho|ho<;>simp[execOp,ho,ex,ey,hr]
        ·refine KC hh hw hl (b:=b) (by simp[Bv,he,AY]) (fun k hk=>?_) (by simp) rfl rfl rfl ?_ (by simp[Bv,he,AY])
         ·simp only;rw[E8 w b k _ _ h1,if_neg hk]
         ·exact ⟨b,ms',Nz,he,by simp only;rw[E8 w b b _ _ h1,if_pos rfl],hd',h3⟩
       rcases Zd dz 0 hes h2 with ⟨i,u,m,e1,e2,e3,e4⟩ |⟨e1,e2⟩
       ·refine fin (.map (ms.modify i fun m=>{m with key:=.int kk n,val:=a.eval z}) clk) _ clk rfl (by simpa using e4) ?_
        have e2':ms[i]?=ay m:=by simpa using e2
        simp only[gU] at e1;simp[jD,run_underlying ht,hg,hck,iD,run_underlying hk,e1,e2',e3,nH,mJ,hso]
       ·refine fin (.map (ms.push {key:=.int kk n,val:=a.eval z,born:=clk}) (clk+1)) _ (clk+1) rfl (by simpa using e2 clk) ?_
        simp[jD,run_underlying ht,hg,hck,iD,run_underlying hk,e1,hso]
      ·exact h.elim
     ·exact h.elim
    ·rename_i fs id kk hkk hx
     rw[hx] at dx;obtain ⟨b,he,ex⟩:=dx;split at h
     ·rename_i vt M us hl
      split at h
      ·rename_i n hn
       have ey:a.eval y=Dz n:=Wy hn dy;cases hb:(C.pks.contains kt&&(BP c.tm z).one&&(BP c.tm z).adA vt)<;>simp only[hb,cond_true,cond_false] at h
       ·exact h.elim
       rw[aJ,aJ] at hb;obtain ⟨⟨hpk,hone⟩,hvt⟩:=hb;have hp:=hC.pks _ hpk;obtain ⟨b',ms,clk,uv,he',h1,d2,hT,hL,hok,h3⟩:=hh.ent _ _ hl;have hL':ani vt ((n,aF,BP c.tm z)::us):=fun u hu q=>by
        rcases List.mem_cons.1 hu with rfl|hu
        ·exact hvt
        ·exact hL u hu q
       rw[he] at he';cases he';have hg:(getObj b).run P w=.ok (.map ms clk) w:=by simp[getObj,lC,h1]
       have hck:=hp.chk aA n w;have hso:∀o',(setObj b o').run P w=.ok () {w with heap:=w.heap.setIfInBounds b o'}:=fun o'=>by simp[setObj,lC,h1]
       have fin:∀(ms':Array MapEntry) (Nz:Nat),YW ms'.toList (RJ M ((n,ay (a.eval z))::uv))->(jD t (.map (ay b)) (Dz n) (a.eval z)).run P w=.ok () {w with heap:=w.heap.setIfInBounds b (.map ms' Nz)}->Ia P K H E w c a o φ:=by
        intro ms' Nz hok' hr;refine ⟨_,undef,_,H,E,{w with heap:=w.heap.setIfInBounds b (.map ms' Nz)},h,trivial,?_,.inr ⟨rfl,rfl⟩,?_⟩
        rotate_left
        ·rcases ho with ho|ho<;>simp[execOp,ho,ex,ey,hr]
        ·refine KC hh hw hl (b:=b) (by simp[Bv,he,AY]) (fun k hk=>?_) (by simp) rfl rfl rfl ?_ (by simp[Bv,he,AY])
         ·simp only;rw[E8 w b k _ _ h1,if_neg hk]
         ·exact ⟨b,ms',Nz,(n,ay (a.eval z))::uv,he,by simp only;rw[E8 w b b _ _ h1,if_pos rfl],⟨rfl,⟨dz,one_cell hone dz⟩,d2⟩,hT,hL',hok',h3⟩
       obtain ⟨r,e1,e2⟩:=OJ hp (n:=n) (w:=w) hok.key;rcases e2 with ⟨rfl,e2⟩ |⟨i,m,rfl,e3,e4⟩
       ·refine fin (ms.push {key:=Dz n,val:=a.eval z,born:=clk}) (clk+1) (by simpa[aaV] using hok.push e2 (a.eval z) clk) ?_
        simp[jD,run_underlying ht,hg,hck,e1,hso]
       ·refine fin (ms.modify i fun m=>{m with key:=Dz n,val:=a.eval z}) clk ?_ ?_
        ·have:=hok.set e3 e4 (a.eval z) (f:=fun m=>{m with key:=Dz n,val:=a.eval z}) rfl rfl
         simpa[aaV] using this
        ·have e3':ms[i]?=ay m:=by simpa using e3
         simp[jD,run_underlying ht,hg,hck,e1,e3',e4,nH,ai1,hso]
      ·exact h.elim
     ·exact h.elim
    ·exact h.elim
   ·exact h.elim
  ·exact h.elim
 ·exact h.elim
theorem ai2{c:Core}{id b nx':Nat}{sb sb':SB}(hh:AZ K H E w c.hp)(hw:Es K H w)(hl:AA c.hp id=ay sb)(hb:Bv E id sb=ay b)
  (hE:E.le E') (hnew:∀i,E i=aN->E' i≠aN->c.nx<=i/\i<nx') (hbk:∀i,E i=aN->bk E' i=aN) (hnx:c.nx<=nx') (hlim:nx'<=c.lim\/nx'=c.nx)
  (hother:∀k,k≠b->w'.heap[k]?=w.heap[k]?) (hsz:w'.heap.size=w.heap.size) (hos:w'.os=w.os) (htape:w'.tape=w.tape) (hout:w'.output=w.output)
  (he:GV K H E' w' id sb') (hb':Bv E' id sb'=ay b):Post K H E w c H E' w' {c with hp:=hset c.hp id sb',nx:=nx',tc:=id::c.tc}:=by
 have FB:=((hh.ent _ _ hl).lt hb);refine ⟨fun _ _ e=>e,hE,hnew,hnx,hlim,rfl,rfl,?_,?_,fun _ h=>dB _ h,by omega,?_,fun i b h1 h2=>(by rw[hbk i h1] at h2;cases h2),?_,?_,?_⟩
 ·refine ⟨fun id2 WB hl2=>?_,fun id1 id2 sb1 WB b0 h1 h2 o1 o2=>?_⟩
  ·simp only[ES] at hl2
   cases hid:(id==id2)<;>simp only[hid,cond_true,cond_false] at hl2
   ·have hent:=hh.ent _ _ hl2
    refine hent.kept (fun _ _ e=>e) hE (fun b0 hb0=>hother b0 fun e=>?_) fun b0 hb0=>(hent.lt hb0).2.1;subst e;have:=hh.Gu _ _ _ _ _ hl hl2 hb hb0;subst this;simp at hid
   ·obtain rfl:id=id2:=by simpa using hid
    rw[hl] at hl2;cases hl2;exact he
  ·have conv:∀{i:Nat} {s:SB},AA (hset c.hp id sb') i=ay s->Bv E' i s=ay b0->∃s',AA c.hp i=ay s'/\Bv E i s'=ay b0:=by
    intro i s h o;rw[ES] at h;cases hid:(id==i)<;>simp only[hid,cond_true,cond_false] at h
    ·exact ⟨s,h,by rw[<-GY (hh.ent _ _ h) hE];exact o⟩
    ·obtain rfl:id=i:=by simpa using hid
     rw[hl] at h;cases h;rw[hb'] at o;cases o;exact ⟨sb,hl,hb⟩
   obtain ⟨s1,a1,a2⟩:=conv h1 o1;obtain ⟨s2,a3,a4⟩:=conv h2 o2;exact hh.Gu _ _ _ _ _ a1 a3 a2 a4
 ·refine ⟨hos.trans hw.os,htape.trans hw.tape,hout.trans hw.output,by have:=hw.size;omega,fun k hk hn=>?_,fun k o hk=>?_,hw.le,hw.fresh⟩
  ·rw[hother k fun e=>?_]
   ·exact hw.kept k hk hn
   ·subst e
    rcases FB.2.2 with h|h
    ·omega
    ·exact hn h
  ·rw[hother k fun e=>?_]
   ·exact hw.on k o hk
   ·subst e
    rw[FB.2.1] at hk;cases hk
 ·intro k hk hne
  refine hother k fun e=>?_
  subst e;exact hne id (cO ..) (GX hb)
 ·intro i hi
  cases hi with
  |head=>exact .inr (.inr ⟨sb,hl,hb.trans (GX hb).symm⟩) |tail _ hi=>exact .inl hi
 ·intro i s0 b0 h1 h2 h3
  refine .inr ⟨s0,?_,aam h3 hE⟩;simp only[ES];cases hid:(id==i)<;>simp only[cond_true,cond_false]
  ·exact h1
  ·obtain rfl:id=i:=by simpa using hid
   exact (h2 (cO ..)).elim
 ·intro i s0 h1 _
  simp only[ES] at h1;cases hid:(id==i)<;>simp only[hid,cond_true,cond_false] at h1
  ·exact ⟨s0,h1,fun b0 h=>by rw[GY (hh.ent _ _ h1) hE] at h;exact h⟩
  ·obtain rfl:id=i:=by simpa using hid
   rw[hl] at h1;cases h1;exact ⟨sb,hl,fun b0 h=>by rw[hb'] at h;cases h;exact hb⟩
theorem int_inj{k:IntKind}{a b:Int}(h:iU k a=.int k b):a=b:=by cases h;rfl
theorem Ze{k:IntKind}{n p:Int}{m:MapEntry}{ms:List MapEntry}(hm:m.key=.int k p):I5 k n (m::ms)=if n=p then ay m.val else I5 k n ms:=by
 by_cases e:n=p
 ·subst e;simp[I5,hm,dZ]
 ·have e':(n==p)=aA:=by simpa using e
  rw[if_neg e];simp[I5,hm,dZ,e']
theorem U5{k:IntKind}{n:Int}:∀{ms:List MapEntry},(∀m∈ms,∃n,m.key=.int k n)->(∀(i j:Nat) (m m':MapEntry),ms[i]?=ay m->ms[j]?=ay m'->m.key=m'.key->i=j)->∀m∈ms,m.key=.int k n->I5 k n ms=ay m.val
 |m0::ms,hk,h1,m,hm,e=>by
  obtain ⟨p,hp⟩:=hk m0 (cO ..);rw[Ze hp];by_cases en:n=p
  ·subst en
   rw[if_pos rfl];obtain ⟨j,hj⟩:=dG.1 hm;have:=h1 0 j m0 m rfl hj (hp.trans e.symm);subst this;simp at hj;rw[hj]
  ·rw[if_neg en]
   refine U5 (fun m hm=>hk m (dB _ hm)) (fun i j m m' a b c=>by have:=h1 (i+1) (j+1) m m' (by simpa using a) (by simpa using b) c;omega) m ?_ e;cases hm with
   |head=>rw[hp] at e;exact (en (int_inj e).symm).elim |tail _ h=>exact h
theorem Zf{k:IntKind}{n:Int}:∀{ms:List MapEntry},(∀m∈ms,∃n,m.key=.int k n)->(∀m∈ms,m.key≠.int k n)->I5 k n ms=aN
 |[],_,_=>rfl |m::ms,hk,h=>by
  obtain ⟨p,hp⟩:=hk m (cO ..);rw[Ze hp,if_neg]
  ·exact Zf (fun m hm=>hk m (dB _ hm)) fun m hm=>h m (dB _ hm)
  ·intro e;subst e;exact h m (cO ..) hp
theorem XZ{k:IntKind}{ms:List MapEntry}{N:Int->Option Value}(hk:∀m∈ms,∃n,m.key=.int k n)(h1:∀(i j:Nat) (m m':MapEntry),ms[i]?=ay m->ms[j]?=ay m'->m.key=m'.key->i=j)
  (h2:∀m∈ms,∀n,m.key=.int k n->N n=ay m.val) (h3:∀n v,N n=ay v->∃m∈ms,m.key=.int k n):∀n,I5 k n ms=N n:=fun n=>by
 cases hn:N n with
 |none=>
  refine Zf hk fun m hm e=>?_
  rw[h2 m hm n e] at hn;cases hn
 |some v=>
  obtain ⟨m,hm,e⟩:=h3 n v hn;rw[U5 hk h1 m hm e];rw[h2 m hm n e] at hn;exact hn
theorem FP.ZU{k:IntKind}{ms:List MapEntry}{clk:Nat}{N:Int->Option Value}(h:FP k ms clk N):(∀m∈ms,∀n,m.key=.int k n->N n=ay m.val)/\(∀n v,N n=ay v->∃m∈ms,m.key=.int k n/\m.val=v):=by
 refine ⟨fun m hm n e=>by rw[<-h.at_,U5 h.key h.one m hm e],fun n v hn=>?_⟩;rw[<-h.at_] at hn;obtain ⟨i,_,m,h1,h2,h3⟩:=Jc h.key 0 hn;exact ⟨m,bP h1,h2,h3⟩
theorem FP.push{k:IntKind}{ms:List MapEntry}{clk:Nat}{N:Int->Option Value}(h:FP k ms clk N){n:Int}(hn:N n=aN)(v:Value):
  FP k (ms++[{key:=.int k n,val:=v,born:=clk}]) (clk+1) (fun j=>if j=n then ay v else N j):=by
 have hne:∀m∈ms,m.key≠.int k n:=fun m hm e=>by rw[h.ZU.1 m hm n e] at hn;cases hn
 have hkey:∀m∈ms++[{key:=.int k n,val:=v,born:=clk:MapEntry}],∃n,m.key=.int k n:=fun m hm=>by
  rcases bK.1 hm with hm|hm
  ·exact h.key m hm
  ·simp at hm;subst hm;exact ⟨n,rfl⟩
 have hget:∀(i:Nat) (m:MapEntry),(ms++[{key:=.int k n,val:=v,born:=clk:MapEntry}])[i]?=ay m->(i<ms.length/\ms[i]?=ay m)\/(i=ms.length/\m={key:=.int k n,val:=v,born:=clk}):=fun i m hi=>by
  rw[kQ] at hi;split at hi
  ·exact .inl ⟨by assumption,hi⟩
  ·have:i - ms.length=0:=by
    have:=(aQ.1 hi).1;simp at this;omega
   rw[this] at hi;simp at hi;exact .inr ⟨by omega,hi.symm⟩
 have hone:∀(i j:Nat) (m m':MapEntry),(ms++[{key:=.int k n,val:=v,born:=clk:MapEntry}])[i]?=ay m->(ms++[{key:=.int k n,val:=v,born:=clk:MapEntry}])[j]?=ay m'->m.key=m'.key->i=j:=fun i j m m' a b e=>by
  rcases hget i m a with ⟨_,a⟩ |⟨a,rfl⟩<;>rcases hget j m' b with ⟨_,b⟩ |⟨b,rfl⟩
  ·exact h.one i j m m' a b e
  ·exact (hne m (bP a) e).elim
  ·exact (hne m' (bP b) e.symm).elim
  ·omega
 refine ⟨hkey,XZ hkey hone (fun m hm j e=>?_) (fun j u hj=>?_),hone,fun i j m m' a b e=>?_,fun m hm=>?_⟩
 ·rcases bK.1 hm with hm1|hm1
  ·rw[if_neg (show ¬j=n from fun e2=>hne m hm1 (by rw[<-e2];exact e))]
   exact h.ZU.1 m hm1 j e
  ·simp at hm1;subst hm1
   rw[if_pos (int_inj e).symm]
 ·by_cases e:j=n
  ·subst e;exact ⟨_,bK.2 (.inr (cO ..)),rfl⟩
  ·rw[if_neg e] at hj
   obtain ⟨m,hm,q,_⟩:=h.ZU.2 j u hj;exact ⟨m,bK.2 (.inl hm),q⟩
 ·rcases hget i m a with ⟨_,a⟩ |⟨a,rfl⟩<;>rcases hget j m' b with ⟨_,b⟩ |⟨b,rfl⟩
  ·exact h.born i j m m' a b e
  ·have:=h.lt m (bP a);simp at e;omega
  ·have:=h.lt m' (bP b);simp at e;omega
  ·omega
 ·rcases bK.1 hm with hm|hm
  ·have:=h.lt m hm;omega
  ·simp at hm;subst hm;simp
theorem FP.set{k:IntKind}{ms:List MapEntry}{clk:Nat}{N:Int->Option Value}(h:FP k ms clk N){n:Int}{i:Nat}{m0:MapEntry}(hi:ms[i]?=ay m0)(hk:m0.key=.int k n)(v:Value){f:MapEntry->MapEntry}
  (hf1:(f m0).key=.int k n) (hf2:(f m0).val=v) (hf3:(f m0).born=m0.born):FP k (ms.modify i f) clk (fun j=>if j=n then ay v else N j):=by
 have hget:∀(j:Nat) (m:MapEntry),(ms.modify i f)[j]?=ay m->(j=i/\m=f m0)\/(j≠i/\ms[j]?=ay m):=fun j m hj=>by
  rw[iF] at hj;by_cases e:i=j
  ·subst e
   rw[hi] at hj;simp at hj;exact .inl ⟨rfl,hj.symm⟩
  ·simp[e] at hj
   exact .inr ⟨fun e2=>e e2.symm,hj⟩
 have hin:∀m∈ms.modify i f,m=f m0\/(m∈ms/\m.key≠.int k n):=fun m hm=>by
  obtain ⟨j,hj⟩:=dG.1 hm;rcases hget j m hj with ⟨_,e⟩ |⟨e,e2⟩
  ·exact .inl e
  ·refine .inr ⟨bP e2,fun e3=>e ?_⟩
   exact h.one j i m m0 e2 hi (e3.trans hk.symm)
 have hkey:∀m∈ms.modify i f,∃n,m.key=.int k n:=fun m hm=>by
  rcases hin m hm with rfl|hm
  ·exact ⟨n,hf1⟩
  ·exact h.key m hm.1
 have hnew:f m0∈ms.modify i f:=by
  refine dG.2 ⟨i,?_⟩;rw[iF];simp[hi]
 have hone:∀(a b:Nat) (m m':MapEntry),(ms.modify i f)[a]?=ay m->(ms.modify i f)[b]?=ay m'->m.key=m'.key->a=b:=fun a b m m' ha hb e=>by
  rcases hget a m ha with ⟨a1,rfl⟩ |⟨a1,a2⟩<;>rcases hget b m' hb with ⟨b1,rfl⟩ |⟨b1,b2⟩
  ·omega
  ·exact (b1 (h.one b i m' m0 b2 hi (e.symm.trans (hf1.trans hk.symm)))).elim
  ·exact (a1 (h.one a i m m0 a2 hi (e.trans (hf1.trans hk.symm)))).elim
  ·exact h.one a b m m' a2 b2 e
 refine ⟨hkey,XZ hkey hone (fun m hm j e=>?_) (fun j u hj=>?_),hone,fun a b m m' ha hb e=>?_,fun m hm=>?_⟩
 ·rcases hin m hm with rfl|⟨hm,hne⟩
  ·rw[hf1] at e;rw[if_pos (int_inj e).symm,hf2]
  ·rw[if_neg fun e2=>by subst e2;exact hne e]
   exact h.ZU.1 m hm j e
 ·by_cases e:j=n
  ·subst e;exact ⟨_,hnew,hf1⟩
  ·rw[if_neg e] at hj
   obtain ⟨m,hm,q,_⟩:=h.ZU.2 j u hj;obtain ⟨a,ha⟩:=dG.1 hm;refine ⟨m,dG.2 ⟨a,?_⟩,q⟩;have hne:¬i=a:=fun e2=>by subst e2;rw[hi] at ha;cases ha;rw[hk] at q;exact e (int_inj q).symm
   rw[iF,ha];simp[hne]
 ·rcases hget a m ha with ⟨a1,rfl⟩ |⟨a1,a2⟩<;>rcases hget b m' hb with ⟨b1,rfl⟩ |⟨b1,b2⟩
  ·omega
  ·exact (b1 (h.born b i m' m0 b2 hi (e.symm.trans hf3))).elim
  ·exact (a1 (h.born a i m m0 a2 hi (e.trans hf3))).elim
  ·exact h.born a b m m' a2 b2 e
 ·rcases hin m hm with rfl|hm
  ·rw[hf3];exact h.lt m0 (bP hi)
  ·exact h.lt m hm.1
theorem FP.del{k:IntKind}{ms:List MapEntry}{clk:Nat}{N:Int->Option Value}(h:FP k ms clk N){n:Int}{i:Nat}{m0:MapEntry}(hi:ms[i]?=ay m0)(hk:m0.key=.int k n):
  FP k (ms.eraseIdx i) clk (fun j=>if j=n then aN else N j):=by
 have hget:∀(j:Nat) (m:MapEntry),(ms.eraseIdx i)[j]?=ay m->ms[if j<i then j else j+1]?=ay m:=fun j m hj=>by
  rw[qZ] at hj;split at hj
  ·rename_i e;rw[if_pos e];exact hj
  ·rename_i e;rw[if_neg e];exact hj
 have hne:∀m∈ms.eraseIdx i,m∈ms/\m.key≠.int k n:=fun m hm=>by
  obtain ⟨j,hj⟩:=dG.1 hm;have:=hget j m hj;refine ⟨bP this,fun e=>?_⟩;have:=h.one _ i m m0 this hi (e.trans hk.symm);split at this<;>omega
 have hkey:∀m∈ms.eraseIdx i,∃n,m.key=.int k n:=fun m hm=>h.key m (hne m hm).1;have hone:∀(a b:Nat) (m m':MapEntry),(ms.eraseIdx i)[a]?=ay m->(ms.eraseIdx i)[b]?=ay m'->m.key=m'.key->a=b:=fun a b m m' ha hb e=>by
  have:=h.one _ _ m m' (hget a m ha) (hget b m' hb) e;split at this<;>split at this<;>omega
 refine ⟨hkey,XZ hkey hone (fun m hm j e=>?_) (fun j u hj=>?_),hone,fun a b m m' ha hb e=>?_,fun m hm=>h.lt m (hne m hm).1⟩
 ·rw[if_neg fun e2=>by subst e2;exact (hne m hm).2 e]
  exact h.ZU.1 m (hne m hm).1 j e
 ·by_cases e:j=n
  ·rw[if_pos e] at hj;cases hj
  ·rw[if_neg e] at hj
   obtain ⟨m,hm,q,_⟩:=h.ZU.2 j u hj;obtain ⟨a,ha⟩:=dG.1 hm;have hai:a≠i:=fun e2=>by subst e2;rw[hi] at ha;cases ha;rw[hk] at q;exact e (int_inj q).symm
   refine ⟨m,dG.2 ⟨if a<i then a else a - 1,?_⟩,q⟩;rw[qZ];by_cases hlt:a<i
   ·simp[hlt,ha]
   ·rw[if_neg hlt,if_neg (by omega),show a - 1+1=a by omega,ha]
 ·have:=h.born _ _ m m' (hget a m ha) (hget b m' hb) e
  split at this<;>split at this<;>omega
theorem Pq{M:Int->Option Value}{n:Int}{o:Option Value}{uv:List (Int×Option Value)}:Uj M ((n,o)::uv)=fun j=>if j=n then o else Uj M uv j:=rfl
theorem FP.same{k:IntKind}{ms:List MapEntry}{clk:Nat}{N N':Int->Option Value}(h:FP k ms clk N)(e:∀j,N j=N' j):FP k ms clk N':=by
 have:N=N':=funext e;rw[<-this];exact h
theorem ai3{e:Nat}{te:Kr}{z:SV}(hte:Oe P e te)(hz:pack te.ty.isAgg te.zero=ay z):∃zv:Value,Den H E z zv/\(∀w:World,(zeroValue e).run P w=.ok zv w)/\(te.ty.isAgg=aA->zv.oneCell'=aF):=by
 obtain ⟨inf,zv,h1,h2,_,h4,h5,h6,h7,h8⟩:=hte.info;have h5':AV H E te.zero zv.cells.toList:=h5.le (fun _ _ e=>by cases e) (fun _ _ e=>by cases e);refine ⟨zv,?_,fun w=>by simp[zeroValue,typeInfo,h1,h4],fun ha=>(h8 ha).2⟩;rcases Nv hz with ⟨ha,rfl⟩ |⟨ha,hl⟩
 ·obtain ⟨cs,rfl⟩:=h7 ha
  exact ⟨cs,rfl,h5'⟩
 ·rw[hl] at h5'
  have h8:=(h8 ha).2;cases zv with
  |agg cs=>simp[jW] at h8 |_=>
   simp[mZ,AV] at h5';exact h5'
theorem X0{es:Array MapEntry}{i:Nat}{f:MapEntry->MapEntry}{m:MapEntry}(h:es[i]?=ay m)(hf:f m=m):es.modify i f=es:=by
 apply Array.ext
 ·simp
 ·intro j h1 h2
  rw[Array.getElem_modify];split
  ·rename_i e
   subst e;have:es[i]=m:=by
    rw[fF h2] at h;cases h;rfl
   rw[this,hf]
  ·rfl
theorem agA{c:Core}{a:Act}{o:Oper}{t:Nat}{x y:Operand}{φ:SV×Core->Prop}(hC:BL P C)(hd:AV H E c.tm a.tmps.toList)(hh:AZ K H E w c.hp)(hw:Es K H w)(hf:Free E c)
  (ho:o.op=.mapEntry t x y) (h:(OC C c t (BP c.tm x) (BP c.tm y)).All φ):Ia P K H E w c a o φ:=by
 have dx:=BJ (H:=H) (E:=E) hd x;have dy:=BJ (H:=H) (E:=E) hd y;unfold OC at h;split at h
 ·rename_i ti hti
  split at h
  ·rename_i kt e hty
   have ht:=(hC.ty _ _ hti).desc;rw[hty] at ht;have ht:P.underlying t=ay (.map kt e):=ht;split at h
   ·rename_i kti te agz hte
    have hk:=(hC.ty _ _ agz).desc;have hte:=hC.ty _ _ hte;split at h
    ·rename_i kk z id j n lit hkk hz hx hy
     rw[hkk] at hk;have hk:P.underlying kt=ay (.int kk):=hk;rw[hx] at dx;obtain ⟨b,he,ex⟩:=dx;have ey:a.eval y=.int j n:=KU hy dy;split at h
     ·rename_i fk M fs us tag hl
      cases hb:(j==kk&&fk==kk&&z.one&&fZ c.nx c.lim)<;>simp only[hb,cond_true,cond_false] at h
      ·exact h.elim
      simp only[aJ,beq_iff_eq] at hb;obtain ⟨⟨⟨rfl,rfl⟩,atm⟩,hlt⟩:=hb;have hlt:=Fv hlt;obtain ⟨b',ms,clk,fv,uv,he',h1,d1,d2,hM,hok,_,FB⟩:=hh.ent _ _ hl;rw[he] at he';cases he';rw[hC.A] at h;obtain ⟨p,sv,ov,hφ,hpo,hat⟩:=Y6 hM d2 d1 h;have hg:(getObj b).run P w=.ok (.map ms clk) w:=by simp[getObj,lC,h1]
      have hck:=KX (P:=P) hk aA fk n w;have hso:∀o',(setObj b o').run P w=.ok () {w with heap:=w.heap.setIfInBounds b o'}:=fun o'=>by simp[setObj,lC,h1]
      obtain ⟨zv,hzd,Uk,hz1⟩:=ai3 (H:=H) (E:=E) hte hz;have hnone:=hf c.nx (dw _) hlt;have fin:∀(ms':Array MapEntry) (Nz:Nat) (v:Value) (bn:Nat),Den H E (bif p then sv else z) v->v.oneCell'=aF->FP fk ms'.toList Nz (Uj M ((n,ay v)::uv))->(∃m∈ms'.toList,m.key=.int fk n/\m.born=bn)->
        (pJ t (.map (ay b)) (.int fk n)).run P w=.ok (.tuple #[v,goInt bn]) {w with heap:=w.heap.setIfInBounds b (.map ms' Nz)}->Ia P K H E w c a o φ:=by
       intro ms' Nz v bn hv hv1 hok' htag hr;obtain ⟨m,hm,hmk,hmb⟩:=htag;have hle:E.le (E.set c.nx (goInt bn)):=nT hnone;refine ⟨_,.tuple #[v,goInt bn],_,H,E.set c.nx (goInt bn),{w with heap:=w.heap.setIfInBounds b (.map ms' Nz)},hφ,⟨_,rfl,hv.le (fun _ _ e=>e) hle,fB _ _ _,trivial⟩,?_,.inl rfl,?_⟩
       ·refine ai2 (E':=E.set c.nx (goInt bn)) (nx':=c.nx+1) hh hw hl (b:=b) (by simp[Bv,he,AY]) hle (fun i h1 h2=>?_) (fun i h1=>?_) (Nat.le_succ _) (.inl hlt) (fun k hk=>?_) (by simp) rfl rfl rfl ?_ (by simp[Bv,hle _ _ he,AY])
        ·by_cases e:i=c.nx
         ·subst e;omega
         ·simp[oD,e,h1] at h2
        ·by_cases e:i=c.nx
         ·subst e;simp[bk,oD,goInt,AY]
         ·simp[bk,oD,e,h1]
        ·simp only;rw[E8 w b k _ _ h1,if_neg hk]
        ·exact ⟨b,ms',Nz,fv,(n,ay v)::uv,hle _ _ he,by simp only;rw[E8 w b b _ _ h1,if_pos rfl],d1.le (fun _ _ e=>e) hle,⟨rfl,⟨hv.le (fun _ _ e=>e) hle,hv1⟩,d2.le (fun _ _ e=>e) hle⟩,hM,hok',
          ⟨m,hm,hmk,by rw[fB,hmb];rfl⟩,FB⟩
       ·simp[execOp,ho,ex,ey,hr]
      rw[<-hok.at_] at hat;cases p with
      |true=>
       cases ov with
       |none=>exact hpo.elim |some v=>
        obtain ⟨i,e1,m,e2,e3,e4⟩:=Jc hok.key 0 hat;simp only[gU] at e1;have e2':ms[i]?=ay m:=by simpa using e2
        refine fin ms clk v m.born hpo.1 hpo.2 (hok.same fun k=>?_) ⟨m,bP e2,e3,rfl⟩ ?_
        ·rw[Pq]
         by_cases ek:k=n
         ·subst ek;simp only[if_true];rw[<-hok.at_];exact hat
         ·simp[ek]
        ·have hmod:(ms.modify i fun e=>{key:=.int fk n,val:=e.val,born:=e.born})=ms:=X0 e2' (by cases m;simp at e3;simp[e3])
         simp[pJ,run_underlying ht,hg,hck,iD,run_underlying hk,e1,e2',e3,nH,mJ,hso,hmod]
      |false=>
       cases ov with
       |some v=>exact hpo.elim |none=>
        have e1:=KW hok.key 0 hat;rw[hok.at_] at hat;have hz1:zv.oneCell'=aF:=one_cell atm hzd;refine fin (ms.push {key:=.int fk n,val:=zv,born:=clk}) (clk+1) zv clk hzd hz1 (by simpa[Pq] using hok.push hat zv) ⟨{key:=.int fk n,val:=zv,born:=clk},by simp,rfl,rfl⟩ ?_;simp[pJ,run_underlying ht,hg,hck,iD,run_underlying hk,e1,Uk,hso]
     ·exact h.elim
    ·exact h.elim
   ·exact h.elim
  ·exact h.elim
 ·exact h.elim
theorem adf{c:Core}{a:Act}{o:Oper}{t:Nat}{x y z:Operand}{φ:SV×Core->Prop}(hd:AV H E c.tm a.tmps.toList)(hh:AZ K H E w c.hp)(hw:Es K H w)
  (ho:o.op=.entryStore t x y z) (h:(LH c (BP c.tm x) (BP c.tm y) (BP c.tm z)).All φ):Ia P K H E w c a o φ:=by
 have dx:=BJ (H:=H) (E:=E) hd x;have dy:=BJ (H:=H) (E:=E) hd y;have dz:=BJ (H:=H) (E:=E) hd z;unfold LH at h;split at h
 ·rename_i id s hx hy
  rw[hx] at dx;rw[hy] at dy;obtain ⟨b,he,ex⟩:=dx;have dy:E s=ay (a.eval y):=dy;split at h
  ·rename_i fk M fs us s' n hl
   cases hb:(s==s'&&(BP c.tm z).one)<;>simp only[hb,cond_true,cond_false] at h
   ·exact h.elim
   simp only[aJ,beq_iff_eq] at hb;obtain ⟨rfl,hone⟩:=hb;obtain ⟨b',ms,clk,fv,uv,he',h1,d1,d2,hM,hok,⟨m,hm,hmk,hms⟩,FB⟩:=hh.ent _ _ hl;rw[he] at he';cases he';rw[dy] at hms;have ey:a.eval y=.int .i64 m.born:=dH hms;have hg:(getObj b).run P w=.ok (.map ms clk) w:=by simp[getObj,lC,h1]
   have hso:∀o',(setObj b o').run P w=.ok () {w with heap:=w.heap.setIfInBounds b o'}:=fun o'=>by simp[setObj,lC,h1]
   obtain ⟨i,hi⟩:=dG.1 hm;have hi':ms[i]?=ay m:=by simpa using hi
   have hfind:ms.findIdx? (fun e=>(e.born:Int)==m.born)=ay i:=by
    rw[Array.findIdx?_eq_some_iff_getElem];have hlt:=(bH.1 hi').1;refine ⟨hlt,by rw[(bH.1 hi').2];simp,fun j hj=>?_⟩;have hjl:j<ms.size:=by omega
    intro e;have e:ms[j].born=m.born:=by simp only[beq_iff_eq] at e;exact kZ e
    have:=hok.born j i ms[j] m (by simp[hjl]) hi e;omega
   refine ⟨_,undef,_,H,E,{w with heap:=w.heap.setIfInBounds b (.map (ms.modify i fun e=>{e with val:=a.eval z}) clk)},h,trivial,?_,.inr ⟨rfl,rfl⟩,?_⟩
   ·refine KC hh hw hl (b:=b) (by simp[Bv,he,AY]) (fun k hk=>?_) (by simp) rfl rfl rfl ?_ (by simp[Bv,he,AY])
    ·simp only;rw[E8 w b k _ _ h1,if_neg hk]
    ·refine ⟨b,_,clk,fv,(n,ay (a.eval z))::uv,he,by simp only;rw[E8 w b b _ _ h1,if_pos rfl],d1,⟨rfl,⟨dz,one_cell hone dz⟩,d2⟩,hM,?_,⟨{m with val:=a.eval z},?_,hmk,by rw[dy,ey]⟩,FB⟩
     ·have:=hok.set hi hmk (a.eval z) (f:=fun e=>{e with val:=a.eval z}) hmk rfl rfl
      simpa[Pq] using this
     ·rw[Array.toList_modify]
      refine dG.2 ⟨i,?_⟩;rw[iF,hi];simp
   ·simp[execOp,ho,Instr.entryStore,ex,ey,hg,asInt,asIntOf,hfind,hso]
  ·exact h.elim
 ·exact h.elim
theorem alS{c:Core}{a:Act}{o:Oper}{t:Nat}{ts:Array TypeId}{x y:Operand}{φ:SV×Core->Prop}(hC:BL P C)(hd:AV H E c.tm a.tmps.toList)(hh:AZ K H E w c.hp)(hw:Es K H w)
  (ho:o.op=.call {callee:=.builtin .delete,args:=#[x,y],argTypes:=ts}) (hts:ts[0]?=ay t) (h:(RG C c t (BP c.tm x) (BP c.tm y)).All φ):Ia P K H E w c a o φ:=by
 have dx:=BJ (H:=H) (E:=E) hd x;have dy:=BJ (H:=H) (E:=E) hd y;unfold RG at h;split at h
 ·rename_i ti hti
  split at h
  ·rename_i kt e hty
   have ht:=(hC.ty _ _ hti).desc;rw[hty] at ht;have ht:P.underlying t=ay (.map kt e):=ht;split at h
   ·rename_i kti agz
    have hk:=(hC.ty _ _ agz).desc;split at h
    ·rename_i kk id j n lit hkk hx hy
     rw[hkk] at hk;have hk:P.underlying kt=ay (.int kk):=hk;rw[hx] at dx;obtain ⟨b,he,ex⟩:=dx;have ey:a.eval y=.int j n:=KU hy dy;split at h
     ·rename_i fk M fs us tag hl
      cases hb:(j==kk&&fk==kk)<;>simp only[hb,cond_true,cond_false] at h
      ·exact h.elim
      simp only[aJ,beq_iff_eq] at hb;obtain ⟨rfl,rfl⟩:=hb;obtain ⟨b',ms,clk,fv,uv,he',h1,d1,d2,hM,hok,_,FB⟩:=hh.ent _ _ hl;rw[he] at he';cases he';have hg:(getObj b).run P w=.ok (.map ms clk) w:=by simp[getObj,lC,h1]
      have hck:=fun em=>KX (P:=P) hk em fk n w;have hso:∀o',(setObj b o').run P w=.ok () {w with heap:=w.heap.setIfInBounds b o'}:=fun o'=>by simp[setObj,lC,h1]
      have fin:∀(ms':Array MapEntry),FP fk ms'.toList clk (Uj M ((n,aN)::uv))->(oG ts o.type #[.map (ay b),.int fk n]).run P w=.ok (.tuple #[]) {w with heap:=w.heap.setIfInBounds b (.map ms' clk)}->Ia P K H E w c a o φ:=by
       intro ms' hok' hr;refine ⟨_,.tuple #[],_,H,E,{w with heap:=w.heap.setIfInBounds b (.map ms' clk)},h,trivial,?_,.inl rfl,?_⟩
       ·refine KC hh hw hl (b:=b) (by simp[Bv,he,AY]) (fun k hk=>?_) (by simp) rfl rfl rfl ?_ (by simp[Bv,he,AY])
        ·simp only;rw[E8 w b k _ _ h1,if_neg hk]
        ·exact ⟨b,ms',clk,fv,(n,aN)::uv,he,by simp only;rw[E8 w b b _ _ h1,if_pos rfl],d1,⟨rfl,trivial,d2⟩,hM,hok',trivial,FB⟩
       ·simp only[execOp,ho,resolve]
        simp[invoke,builtin,ex,ey,hr]
      cases hat:I5 fk n ms.toList with
      |some v=>
       obtain ⟨i,e1,m,e2,e3,e4⟩:=Jc hok.key 0 hat;simp only[gU] at e1;refine fin (ms.eraseIdxIfInBounds i) ?_ ?_
       ·have:=hok.del e2 e3
        simpa[Pq,Array.toList_eraseIdxIfInBounds] using this
       ·simp[oG,hts,run_underlying ht,hg,hck,iD,run_underlying hk,e1,hso]
      |none=>
       have e1:=KW hok.key 0 hat;refine fin ms ?_ ?_
       ·refine hok.same fun k=>?_
        rw[Pq];by_cases ek:k=n
        ·subst ek;simp only[if_true];rw[<-hok.at_];exact hat
        ·simp[ek]
       ·simp[oG,hts,run_underlying ht,hg,hck,iD,run_underlying hk,e1,hso]
     ·exact h.elim
    ·exact h.elim
   ·exact h.elim
  ·exact h.elim
 ·exact h.elim
end
end Go.Sx
