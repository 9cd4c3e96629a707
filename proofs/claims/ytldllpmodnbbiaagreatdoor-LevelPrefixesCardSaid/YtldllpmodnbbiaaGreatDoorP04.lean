/- Own work. -/
import Derived.Test.YtldllpmodnbbiaaGreatDoorP03
import Derived.KernelRfl
open Int (ofNat)
open Array renaming getElem?_toList->kV,replicate->dX
open Bool renaming true->ay,false->aA,and_eq_true->aB
open Go.Frame renaming finish_at->nS,enter->gX
open Go.Oper renaming upon->xw
open Go.Region renaming free->mV,noSelect->tK,ready->jH
open Go.Result renaming andThen_ok->iK
open Go.Sem renaming run_bind->gq,run_pure->zh
open Go.Sx.BT renaming V3->zL
open Go.Sx.BL renaming all->bZ
open Go.Sx.EN renaming QN->zC
open Go.Sx.Tree renaming Gx->dZ
open Go.stepG renaming apply->fV
open List renaming mem_cons_of_mem->bV,mem_cons_self->dn,countP_cons->uJ,range->aU,mem_range->eF,mem_append->bQ,replicate->dD
open Nat renaming add_le_add_left->rX,mul_le_mul_left->jJ,blt->fC,ble->gy
open Option renaming some->aj,none->aF,map_eq_some_iff->bH,isSome_iff_exists->dO
open Prod.mk renaming injEq->jo
namespace Go.Sx
section
variable{P:Program}{C:Ctx}{K:Kx}{H H' RG:Mem}{E E' RH:Env}{w w' w'':World}
theorem ado{α:Type}{φ:α->Prop}:∀{bs:List Bool} {t:Tree α},(needs t bs).All φ->(∀b∈bs,b=ay)/\t.All φ
 |[],_,h=>⟨fun _ h=>(by cases h),h⟩ |b::r,t,h=>by
  obtain ⟨h1,h2⟩:=h;obtain ⟨h3,h4⟩:=ado h2;simp_all
theorem aic{r:Option (List Bool×SV)}{x:List Bool×SV}(h:ahW r=aj x):r=aj x:=by
 unfold ahW at h;grind
theorem U3:∀{t:Tree (SV×Core)} {bs bs':List Bool} {v:SV},Ez t bs=aj (bs',v)->∀b∈bs,b∈bs'
 | .leaf _,_,_,_,h=>by simp[Ez] at h;obtain ⟨rfl,_⟩:=h;exact fun _ h=>h | .need b t,bs,bs',v,h=>fun x hx=>U3 (t:=t) h x (bV _ hx) | .node _ _ _,_,_,_,h=>by simp[Ez] at h | .both _ _,_,_,_,h=>by simp[Ez] at h | .must _ _,_,_,_,h=>by simp[Ez] at h | .fail,_,_,_,h=>by simp[Ez] at h
theorem Pq:∀{t:Tree (SV×Core)} {bs bs':List Bool} {v:SV},Ez t bs=aj (bs',v)->(∀b∈bs',b=ay)->t.All fun p=>p.1=v
 | .leaf _,_,_,_,h,_=>by simp[Ez] at h;exact h.2 | .need b t,bs,bs',v,h,hb=>⟨hb b (U3 (t:=t) h b (dn ..)),Pq (t:=t) h hb⟩ | .node _ _ _,_,_,_,h,_=>by simp[Ez] at h | .both _ _,_,_,_,h,_=>by simp[Ez] at h | .must _ _,_,_,_,h,_=>by simp[Ez] at h | .fail,_,_,_,h,_=>by simp[Ez] at h
theorem adp{α:Type}{φ:α->Prop}{f:Nat->Tree α}:∀{rs:List Nat},(allOf f rs).All φ->∀i∈rs,(f i).All φ
 |[],h,_,_=>h.elim |[i],h,j,hj=>by simp at hj;subst hj;exact h |i::k::r,h,j,hj=>by
  obtain ⟨h1,h2⟩:=h;cases hj with
  |head=>exact h1 |tail _ hj=>exact adp h2 j hj
theorem Tj{BQ:Array Oper}{lock:List (Nat×SB)}{listed:Array Bool}{IU:List SV}{c:Core}{q:Quiet}:∀{rs:List Nat},Yf C BQ lock listed IU c rs=q->q≠.no->∃i∈rs,V6 C BQ lock listed IU c i=q
 |[],h,hn=>by simp_all [Yf] |i::r,h,hn=>by
  unfold Yf at h;split at h
  ·obtain ⟨j,h1,h2⟩:=Tj h hn
   grind
  simp_all
theorem adq{p q:Nat->Bool}{i:Nat}:∀{l:List Nat},(∀x,q x=ay->p x=ay)->i∈l->p i=ay->q i=aA->l.countP q<l.countP p
 |[],_,h,_,_=>by cases h |x::l,hpq,h,h1,h2=>by
  have hle:l.countP q<=l.countP p:=List.countP_mono_left fun x _ h=>hpq x h
  rw[uJ,uJ];cases h with
  |head=>grind |tail _ h=>
   have:=adq hpq h h1 h2;grind
def cnt(ops:Array Oper)(listed:Array Bool):Nat:=(aU ops.size).countP fun j=>!listed.getD j ay
theorem as6{ops:Array Oper}{listed:Array Bool}{i:Nat}(hi:i<ops.size)(hu:listed.getD i ay=aA):cnt ops (listed.setIfInBounds i ay)<cnt ops listed:=by
 have hs:i<listed.size:=by
  grind
 refine adq (i:=i) (fun x hx=>?_) (eF.2 hi) (by rw[hu];rfl) (by simp[hs]);(by_cases hxi:i=x)<;>simp_all
theorem aae{unl:List Nat}:∀{hp:List (Nat×SB)} {id:Nat} {sb:SB},Aq (Oz hp unl) id=aj sb->unl.contains id=aA
 |[],_,_,h=>by simp[Oz,Aq] at h |(j,x)::l,id,sb,h=>by
  unfold Oz at h;cases hu:unl.contains j<;>simp only[hu,ϰ,ϗ] at h
  ·simp only[Aq] at h
   cases hj:(j==id)<;>simp only[hj,ϰ,ϗ] at h
   ·exact aae h
   simp_all
  ·exact aae h
theorem XC{unl:List Nat}:∀{hp:List (Nat×SB)} {id:Nat} {sb:SB},Aq (Oz hp unl) id=aj sb->Aq hp id=aj sb
 |[],_,_,h=>h |(j,x)::l,id,sb,h=>by
  have hn:=aae h;unfold Oz at h;cases hu:unl.contains j<;>simp only[hu,ϰ,ϗ] at h
  ·simp only[Aq] at h ⊢
   cases hj:(j==id)<;>simp only[hj,ϰ,ϗ] at h ⊢
   ·exact XC h
   ·exact h
  ·have h:=XC h
   grind [Aq]
structure Rg(C:Ctx)(K:Kx)(BQ:Array Oper)(base KZ:Nat)(lock:List (Nat×SB))(H0:Mem)(E0:Env)(w0:World)(c0:Core)(H:Mem)(E:Env)(w:World)(c:Core)(a:Act)(listed:Array Bool)(IU:List SV):Prop where
 st:St C K H E w c a
 nx:c.nx=0
 lim:c.lim=0
 free:∀j,j<BQ.size->listed.getD j ay=aA->∀id,base+KZ*j<=id->id<base+KZ*(j+1)->E id=aF
 ao5:AP H0 E0 IU a.tmps.toList
 ch:Ch K H0 E0 w0 c0.hp c0.tc H E w c.hp c.tc (fun i=>base<=i/\i<base+KZ*BQ.size)
 lk:∀id sb b,Aq lock id=aj sb->Bv E0 id sb=aj b->H b≠aF\/∃sb',Aq c.hp id=aj sb'/\Bv E id sb'=aj b
 agr:Xp H0 E0 lock w0 w
 on:H0.on w
def Still(H0:Mem)(E0:Env)(lock:List (Nat×SB))(w0:World)(w':World):Prop:=Xp H0 E0 lock w0 w'/\H0.on w'
variable{BQ:Array Oper}{base KZ:Nat}{lock:List (Nat×SB)}{H0:Mem}{E0:Env}{w0:World}{c0:Core}{c:Core}{a:Act}{listed:Array Bool}{IU:List SV}
theorem aie(hC:BP P C)(hH0:Bc K H0 E0 w0 lock)(hg0:DI C.gls H0)(r:Rg C K BQ base KZ lock H0 E0 w0 c0 H E w c a listed IU){i j:Nat}{bs:List Bool}{v v0:SV}
  (h:V6 C BQ lock listed IU c i=.take j bs v v0) (hb:∀b∈bs,b=ay) :
  j=i/\∃o u,BQ[i]?=aj o/\mV .any BQ listed i=ay/\YieldsIf P BQ (Still H0 E0 lock w0) o u a/\Den H E v u/\Den H0 E0 v0 u:=by
 unfold V6 at h;have hop:opAt BQ.toList i=BQ[i]?:=by simp[opAt]
 rw[hop] at h;simp only[agv] at h;split at h
 ·cases h
 ·rename_i o hi
  have hs:=Jz (ops:=BQ) r.st.den o;split at h
  ·cases h
  ·rename_i hw
   rw[hw] at hs;cases hf:mV .any BQ listed i<;>simp only[hf,ϰ,ϗ] at h
   ·cases h
   cases h;exact ⟨rfl,o,undef,hi,rfl,.inr ⟨hs,rfl⟩,aib,aib⟩
  ·rename_i hw
   rw[hw] at hs;cases hq:(DY o.op&&mV .any BQ listed i)<;>simp only[hq,ϰ,ϗ] at h
   ·cases h
   simp only[aB] at hq;split at h
   ·rename_i bs' v' hl
    cases h;have hall:=Pq (aic hl) hb;obtain ⟨p,u,h1,h2,h3,h4⟩:=ajU (c:={c with tm:=IU,hp:=lock}) (w:=w0) hC r.ao5 hH0 hg0 hq.1 hall
    subst h1;exact ⟨rfl,o,u,hi,hq.2,.inl ⟨hs,fun w' hw'=>h4 w' hw'.1 hw'.2⟩,h3.le r.ch.Ji r.ch.Qc,h3⟩
   ·cases hp:OA c.tm o.op<;>simp only[hp,ϰ,ϗ] at h
    ·cases h
    split at h
    ·rename_i bs' v' hl
     cases h;have hall:=Pq hl hb;obtain ⟨p,u,h1,h2,h3,h4⟩:=am5 hC r.st.den r.st.hp r.st.gl hp hall;subst h1;exact ⟨rfl,o,u,hi,hq.2,.inl ⟨hs,fun w' _=>h4 w'⟩,h3,ϖ⟩
    ·cases h
  ·cases h
theorem akf(_hC:BP P C)(r:Rg C K BQ base KZ lock H0 E0 w0 c0 H E w c a listed IU){i d:Nat}{t:Bool}(h:V6 C BQ lock listed IU c i=.ask d t):c.tm.getD d .any=.test t:=by
 unfold V6 at h;have hop:opAt BQ.toList i=BQ[i]?:=by simp[opAt]
 rw[hop] at h;simp only[agv] at h;split at h
 ·cases h
 ·rename_i o hi
  have hs:=Jz (ops:=BQ) r.st.den o;grind
theorem Rg.take(r:Rg C K BQ base KZ lock H0 E0 w0 c0 H E w c a listed IU){i:Nat}{d:Option Nat}{u:Value}{v v0:SV}(h1:Den H E v u)(h0:Den H0 E0 v0 u):
  Rg C K BQ base KZ lock H0 E0 w0 c0 H E w (c.put d v) (a.put d u) (listed.setIfInBounds i ay) (UR IU d v0):=by
 refine ⟨r.st.put d h1,r.nx,r.lim,fun j hj hu=>r.free j hj ?_,?_,r.ch,r.lk,r.agr,r.on⟩
 ·(by_cases hij:i=j)<;>simp_all
 ·have:=Nv (c:={c with tm:=IU}) (a:=a) r.ao5 d h0
  exact this
theorem Rg.know(r:Rg C K BQ base KZ lock H0 E0 w0 c0 H E w c a listed IU){d:Nat}{b:Bool}(hd:c.tm.getD d .any=.test b):
  Rg C K BQ base KZ lock H0 E0 w0 c0 H E w (c.put (aj d) (.bool b)) a listed (IU.set d (.bool b)):=by
 refine ⟨r.st.know hd,r.nx,r.lim,r.free,?_,r.ch,r.lk,r.agr,r.on⟩;obtain ⟨v,e1,e2⟩:=Wh r.st.den hd (by simp);have e2:v=.bool b:=e2;subst e2;have h2:=r.ao5.set d (s:=.bool b) (v:=.bool b) rfl;have h3:a.tmps.toList.set d (.bool b)=a.tmps.toList:=by
  rw[<-kV] at e1;apply List.ext_getElem?;grind
 simp_all
theorem akg{i j:Nat}(hij:(listed.setIfInBounds i ay).getD j ay=aA):j≠i/\listed.getD j ay=aA:=by
 by_cases h:i=j
 ·simp_all
 ·rw[getD_set_ne ay h] at hij
  grind
theorem Rg.step(_hl0:∀id sb,Aq lock id=aj sb->Aq c0.hp id=aj sb)(r:Rg C K BQ base KZ lock H0 E0 w0 c0 H E w c a listed IU){i:Nat}(hi:i<BQ.size){c':Core}{a':Act}{u:Value}
  (st':St C K H' E' w' c' a') (mv:Mv K H E w {c with tc:=[],nx:=base+KZ*i,lim:=base+KZ*(i+1)} H' E' w' c') (ha:a'=a.put ((BQ[i]?).bind (·.dst)) u)
  (hdj:disjoint c'.tc lock=ay) :
  Rg C K BQ base KZ lock H0 E0 w0 c0 H' E' w' {c' with tc:=c'.tc++c.tc,nx:=c.nx,lim:=c.lim} a' (listed.setIfInBounds i ay) (UR IU ((BQ[i]?).bind (·.dst)) .any):=by
 have hch:=mv.ch;have hnx1:base+KZ*i<=c'.nx:=mv.nx;have hlim:c'.nx<=base+KZ*(i+1):=by
  have h1:c'.nx<=base+KZ*(i+1)\/c'.nx=base+KZ*i:=mv.lim;grind
 have aGl:∀id∈c'.tc,Aq lock id=aF:=fun id hid=>by
  have:=List.all_eq_true.1 hdj id hid;simp_all
 have hge:∀i',i'<BQ.size->base+KZ*(i'+1)<=base+KZ*BQ.size:=fun i' h=>rX (jJ _ h) _;have hkeep:∀b,H b≠aF->w'.heap[b]?=w.heap[b]?:=fun b hb=>by
  cases h:H b with
  |none=>simp_all |some o=>rw[st'.CP.on b o (mv.Ji b o h),r.st.CP.on b o h]
 have hother:∀id sb b,Aq lock id=aj sb->Bv E0 id sb=aj b->w'.heap[b]?=w.heap[b]?/\(H' b≠aF\/∃sb',Aq c'.hp id=aj sb'/\Bv E' id sb'=aj b):=fun id sb b h1 h2=>by
  rcases r.lk id sb b h1 h2 with h|⟨sb',h3,h4⟩
  ·refine ⟨hkeep b h,.inl ?_⟩
   cases hb:H b with
   |none=>simp_all |some o=>rw[mv.Ji b o hb];simp
  ·have hnot:id ∉ c'.tc:=fun hid=>by simp_all
   refine ⟨mv.fr b ((r.st.hp.ent _ _ h3).lt h4).1 fun id' ajW e=>?_,mv.keep id sb' b h3 hnot h4⟩;rcases mv.Z5 id' ajW with h5|h5|⟨Yx,h5,h6⟩
   ·cases h5
   ·grind [bk]
   ·have:=r.st.hp.GH _ _ _ _ _ h3 h5 h4 (h6.trans e)
    simp_all
 refine ⟨⟨st'.den,st'.hp,st'.CP,?_,st'.gl,st'.defers⟩,r.nx,r.lim,fun j hj hu id h1 h2=>?_,?_,r.ch.trans ((hch.add c.tc).mono fun k hk=>?_),fun id sb b h1 h2=>(hother id sb b h1 h2).2,fun b hb=>?_,fun b o hb=>?_⟩
 ·intro k h1 h2
  have h1:c.nx<=k:=h1;have h2:k<c.lim:=h2;have:=r.nx;have:=r.lim;omega
 ·obtain ⟨hji,hu⟩:=akg hu
  have h0:=r.free j hj hu id h1 h2;cases he:E' id with
  |none=>rfl |some v=>
   have:=hch.new id h0 (by rw[he];simp);simp only at this;have q1:=this.1;have q2:=this.2;rcases Nat.lt_or_gt_of_ne hji with q|q
   ·have:KZ*(j+1)<=KZ*i:=jJ _ q
    omega
   ·have:KZ*(i+1)<=KZ*j:=jJ _ q
    omega
 ·subst ha
  exact Nv (c:={c with tm:=IU}) (a:=a) r.ao5 _ trivial
 ·grind
 ·rcases hb with hb|⟨id,sb,h1,h2⟩
  ·have hH:H b≠aF:=by
    cases h:H0 b with
    |none=>simp_all |some o=>rw[r.ch.Ji b o h];simp
   rw[hkeep b hH];exact r.agr b (.inl hb)
  ·rw[(hother id sb b h1 h2).1]
   exact r.agr b (.inr ⟨id,sb,h1,h2⟩)
 ·exact st'.CP.on b o (mv.Ji b o (r.ch.Ji b o hb))
theorem Nw{call:Nat->List SV->Core->Tree (SV×Core)}(hC:BP P C)(hF:BJ P C)(hK:IJ P C K call)(hH0:Bc K H0 E0 w0 lock)(hg0:DI C.gls H0)
  (hl0:∀id sb,Aq lock id=aj sb->Aq c0.hp id=aj sb) (hns:tK BQ=ay) {R:Act->World->Prop} {φ:Core->Prop}
  (hfin:∀H E w c a listed IU,Rg C K BQ base KZ lock H0 E0 w0 c0 H E w c a listed IU->φ c->R a w) :
  ∀(n:Nat) (listed:Array Bool) (IU:List SV) (c:Core) (H:Mem) (E:Env) (w:World) (a:Act) (m:Nat),Rg C K BQ base KZ lock H0 E0 w0 c0 H E w c a listed IU->cnt BQ listed<=m->
   (explore C call base KZ BQ lock n listed IU c).All φ->wpAnyH P .any BQ (fun e a w=>e=.normal/\R a w) (Still H0 E0 lock w0) m listed a w
 |0,_,_,_,_,_,_,_,_,_,_,h=>h.elim |n+1,listed,IU,c,H,E,w,a,m,r,hm,h=>by
  unfold explore at h;simp only[amT] at h;split at h
  ·rename_i hr
   exact wpAnyH_done hr ⟨rfl,hfin H E w c a listed IU r h⟩ m
  ·rename_i hne
   have hrange:∀i,i∈jH .any BQ listed->i<BQ.size/\listed.getD i ay=aA:=fun i hi=>by
    simp_all [jH,eF,List.mem_filter]
   have hdec:∀i,i∈jH .any BQ listed->∃m',m=m'+1/\cnt BQ (listed.setIfInBounds i ay)<=m':=fun i hi=>by
    have:=as6 (hrange i hi).1 (hrange i hi).2;exact ⟨m - 1,by omega,by omega⟩
   split at h
   ·rename_i j bs v v0 hq
    obtain ⟨i,hi,hq1⟩:=Tj hq (by simp);obtain ⟨hb,h⟩:=ado h;obtain ⟨rfl,o,u,ho,hf,hy,hd,hd0⟩:=aie hC hH0 hg0 r hq1 hb;obtain ⟨m',rfl,hm'⟩:=hdec j hi;have hop:(opAt BQ.toList j).bind (·.dst)=o.dst:=by simp[opAt,ho]
    rw[hop] at h;refine wpAnyH_take ho hns hf (by grind) (fun c a w hh=>by cases hh.1) hy ⟨r.agr,r.on⟩ ?_;exact Nw hC hF hK hH0 hg0 hl0 hns hfin n _ _ _ H E w _ m' (r.take hd hd0) hm' h
   ·rename_i d t hq
    obtain ⟨i,hi,hq1⟩:=Tj hq (by simp);have ht:=akf hC r hq1;cases t with
    |true=>exact Nw hC hF hK hH0 hg0 hl0 hns hfin n _ _ _ H E w a m (r.know ht) hm (h.1 rfl) |false=>exact Nw hC hF hK hH0 hg0 hl0 hns hfin n _ _ _ H E w a m (r.know ht) hm (h.2 rfl)
   ·rename_i hq
    have hall:=adp h;obtain ⟨i0,hi0⟩:∃i0,i0∈jH .any BQ listed:=by
     cases hr:jH .any BQ listed with
     |nil=>simp_all |cons x xs=>simp
    obtain ⟨m',rfl,_⟩:=hdec i0 hi0;refine wpAnyH_all rfl (fun hr=>hne hr) fun i hi=>?_
    obtain ⟨m'',aGm,hc⟩:=hdec i hi;have hmm:m''=m':=by omega
    subst hmm;have hi':=hrange i hi;have st1:St C K H E w {c with tc:=[],nx:=base+KZ*i,lim:=base+KZ*(i+1)} a:=
     ⟨r.st.den,r.st.hp,r.st.CP,fun k h1 h2=>r.free i hi'.1 hi'.2 k h1 h2,r.st.gl,r.st.defers⟩
    refine XB hC hF hK st1 (dZ (hall i hi)) _ _ fun c' a' H' E' w' e1 e2 e3 e4=>?_
    obtain ⟨u,e4⟩:=e4;cases hdj:disjoint c'.tc lock<;>simp only[hdj,ϰ,ϗ] at e1
    ·exact e1.elim
    have hop:opAt BQ.toList i=BQ[i]?:=by simp[opAt]
    rw[hop] at e1;have r':=r.step hl0 hi'.1 e2 e3 e4 hdj;exact ⟨⟨r'.agr,r'.on⟩,Nw hC hF hK hH0 hg0 hl0 hns hfin n _ _ _ H' E' w' a' m'' r' hc e1⟩
theorem St.sameHeap{c:Core}{a:Act}(st:St C K H E w c a)(h1:w'.heap=w.heap)(h2:w'.os=w.os)(h3:w'.tape=w.tape)(h4:w'.output=w.output):St C K H E w' c a:=
 ⟨st.den,⟨fun id sb hl=>(st.hp.ent id sb hl).kept (fun _ _ e=>e) (fun _ _ e=>e) (fun b _=>by rw[h1]) fun b hb=>((st.hp.ent id sb hl).lt hb).2.1,st.hp.GH⟩,
  ⟨h2.trans st.CP.os,h3.trans st.CP.tape,h4.trans st.CP.output,by rw[h1];exact st.CP.size,fun b hb hn=>by rw[h1];exact st.CP.kept b hb hn,fun b o hb=>by rw[h1];exact st.CP.on b o hb,st.CP.le,st.CP.fresh⟩,
  st.free,st.gl,st.defers⟩
theorem aif{c c':Core}(h:Mv K H E w c H' E' w' c')(h1:w.heap=w''.heap):Mv K H E w'' c H' E' w' c':=by
 obtain ⟨a1,a2,a3,a4,a5,a6,a7,a8,a9,a10,a11,a12,a13,a14,a15,a16⟩:=h;exact ⟨a1,a2,a3,a4,a5,a6,a7,a8,a9,a10,by simp_all,by simp_all,by grind,a14,a15,a16⟩
theorem BL.EO:∀{l l':List BL},bZ (l++l')->bZ l/\bZ l'
 |[],_,h=>⟨ϖ,h⟩ |_::_,_,h=>⟨⟨h.1,(BL.EO h.2).1⟩,(BL.EO h.2).2⟩
theorem Ci{a b:Option (List BL)}{l:List BL}(h:FM a b=aj l):∃x y,a=aj x/\b=aj y/\l=x++y:=by
 unfold FM at h;grind
theorem BF{c:Bool}{a:Option (List BL)}{l:List BL}(h:Dw c a=aj l):c=ay/\a=aj l:=by
 cases c
 ·cases h
 ·exact ⟨rfl,h⟩
theorem as7{s s':Sh}{q:List BL}(h:asE s s'=aj q)(ha:bZ q):s=s':=by
 unfold asE at h;split at h
 ·grind [BF]
 ·cases h
  exact ha.1
mutual
theorem RJ:∀{x y:SV} {q:List BL},aa9 x y=aj q->bZ q->x=y
 |x,y,q,h,ha=>by
  unfold aa9 at h;split at h;all_goals first
   |(cases h;done)
   |(cases h;rfl)
   |(obtain ⟨h1,h2⟩:=BF h;simp only[aB,ϡ] at h1;obtain ⟨rfl,rfl⟩:=h1;rfl)
   |(obtain ⟨h1,h2⟩:=BF h;simp only[ϡ] at h1;subst h1;cases h2;rfl)
   |skip
  case h_3=>obtain ⟨h1,h2⟩:=BF h;simp only[ϡ] at h1;subst h1;cases h2;rw[ha.1]
  case h_5=>cases h;rw[ha.1]
  case h_7=>cases h;rw[ha.1]
  case h_10=>obtain ⟨h1,h2⟩:=BF h;simp only[aB,ϡ] at h1;obtain ⟨⟨rfl,rfl⟩,rfl⟩:=h1;cases h2;rw[ha.1]
  case h_11=>obtain ⟨h1,h2⟩:=BF h;simp only[aB,ϡ] at h1;obtain ⟨rfl,rfl⟩:=h1;cases h2;rw[ha.1,ha.2.1,ha.2.2.1]
  case h_17=>obtain ⟨h1,h2⟩:=BF h;simp only[ϡ] at h1;subst h1;rw[KJ h2 ha]
  case h_18=>rw[KJ h ha]
  case h_19=>rw[KJ h ha]
  case h_20=>obtain ⟨h1,h2⟩:=BF h;simp only[ϡ] at h1;subst h1;rw[RJ h2 ha]
  grind [as7]
theorem KJ:∀{l m:List SV} {q:List BL},NZ l m=aj q->bZ q->l=m
 |[],[],_,_,_=>rfl |x::l,y::m,q,h,ha=>by
  simp only[NZ] at h;obtain ⟨a,b,h1,h2,rfl⟩:=Ci h;rw[RJ h1 (BL.EO ha).1,KJ h2 (BL.EO ha).2]
 |[],_::_,_,h,_=>by simp[NZ] at h |_::_,[],_,h,_=>by simp[NZ] at h
end
theorem agG:∀{l m:List (SV×SV)} {q:List BL},ZU l m=aj q->bZ q->l=m
 |[],[],_,_,_=>rfl |(a,b)::l,(c,d)::m,q,h,ha=>by
  simp only[ZU] at h;obtain ⟨q1,q2,h1,h2,rfl⟩:=Ci h;obtain ⟨q3,q4,h3,h4,rfl⟩:=Ci h2;obtain ⟨a1,a2⟩:=BL.EO ha;obtain ⟨a3,a4⟩:=BL.EO a2;rw[RJ h1 a1,RJ h3 a3,agG h4 a4]
 |[],_::_,_,h,_=>by simp[ZU] at h |_::_,[],_,h,_=>by simp[ZU] at h
theorem adr:∀{l m:List (Int×Bool×SV)} {q:List BL},ac0 l m=aj q->bZ q->l=m
 |[],[],_,_,_=>rfl |(a,p,b)::l,(c,r,d)::m,q,h,ha=>by
  simp only[ac0] at h;obtain ⟨h0,h⟩:=BF h;obtain ⟨q1,q2,h1,h2,rfl⟩:=Ci h;obtain ⟨q3,q4,h3,h4,rfl⟩:=Ci h2;obtain ⟨a1,a2⟩:=BL.EO ha;obtain ⟨a3,a4⟩:=BL.EO a2;cases h1;have h0:p=r:=by grind
  rw[h0,a1.1,RJ h3 a3,adr h4 a4]
 |[],_::_,_,h,_=>by simp[ac0] at h |_::_,[],_,h,_=>by simp[ac0] at h
theorem akh:∀{l m:List (Ep×Bool×SV)} {q:List BL},agw l m=aj q->bZ q->l=m
 |[],[],_,_,_=>rfl |((a,s),p,b)::l,((c,t),r,d)::m,q,h,ha=>by
  simp only[agw] at h;obtain ⟨h0,h⟩:=BF h;obtain ⟨q1,q2,h1,h2,rfl⟩:=Ci h;obtain ⟨q3,q4,h3,h4,rfl⟩:=Ci h2;obtain ⟨a1,a2⟩:=BL.EO ha;obtain ⟨a3,a4⟩:=BL.EO a2;cases h1;have h0:p=r:=by grind
  have e1:a=c:=a1.1;have e2:s=t:=a1.2.1;rw[h0,e1,e2,RJ h3 a3,akh h4 a4]
 |[],_::_,_,h,_=>by simp[agw] at h |_::_,[],_,h,_=>by simp[agw] at h
theorem aqS{x y:Option (Nat×Int)}{q:List BL}(h:amU x y=aj q)(ha:bZ q):x=y:=by
 unfold amU at h;split at h
 ·rfl
 ·obtain ⟨h1,h2⟩:=BF h
  cases h2;have h1:=by simpa using h1
  rw[h1,ha.1]
 ·cases h
theorem as8{x y:SB}{q:List BL}(h:asF x y=aj q)(ha:bZ q):x=y:=by
 unfold asF at h;split at h
 ·grind [BF,KJ]
 ·obtain ⟨h1,h2⟩:=BF h
  grind [KJ]
 ·obtain ⟨h1,h2⟩:=BF h
  simp only[aB,ϡ] at h1;cases h2;rw[h1.1,h1.2,ha.1,ha.2.1]
 ·obtain ⟨h1,h2⟩:=BF h
  have h1:=by simpa using h1
  cases h2;rw[h1,ha.1,ha.2.1]
 ·rw[agG h ha]
 ·cases h
  have:=ha.1;simp_all [BL.ok,Sh.pt.injEq]
 ·obtain ⟨h1,h2⟩:=BF h
  simp only[aB,ϡ] at h1;obtain ⟨q1,q2,h3,h4,rfl⟩:=Ci h2;cases h3;obtain ⟨a1,a2⟩:=BL.EO ha;rw[h1.1,h1.2,a1.1,a1.2.1,KJ h4 a2]
 ·obtain ⟨h1,h2⟩:=BF h
  have h1:=by simpa using h1
  cases h2;rw[h1,ha.1]
 ·obtain ⟨h1,h2⟩:=BF h
  have h1:=by simpa using h1
  obtain ⟨q1,q2,h3,h4,rfl⟩:=Ci h2;obtain ⟨q3,q4,h5,h6,rfl⟩:=Ci h4;obtain ⟨q5,q6,h7,h8,rfl⟩:=Ci h6;cases h3;obtain ⟨a1,a2⟩:=BL.EO ha;obtain ⟨a3,a4⟩:=BL.EO a2;obtain ⟨a5,a6⟩:=BL.EO a4;rw[h1,a1.1,adr h5 a3,adr h7 a5,aqS h8 a6]
 ·obtain ⟨h1,h2⟩:=BF h
  have h1:=by simpa using h1
  obtain ⟨q1,q2,h3,h4,rfl⟩:=Ci h2;cases h3;obtain ⟨a1,a2⟩:=BL.EO ha;rw[h1,show _=_ from a1.1,akh h4 a2]
 ·cases h
theorem aki:∀{l m:List (Nat×SB)} {q:List BL},agx l m=aj q->bZ q->l=m
 |[],[],_,_,_=>rfl |(i,a)::l,(j,b)::m,q,h,ha=>by
  simp only[agx] at h;obtain ⟨h0,h⟩:=BF h;obtain ⟨q1,q2,h1,h2,rfl⟩:=Ci h;have h0:=by simpa using h0
  rw[h0,as8 h1 (BL.EO ha).1,aki h2 (BL.EO ha).2]
 |[],_::_,_,h,_=>by simp[agx] at h |_::_,[],_,h,_=>by simp[agx] at h
theorem ani{a b:Core}{q:List BL}(h:ahX a b=aj q)(ha:bZ q):a=b:=by
 unfold ahX at h;obtain ⟨h0,h⟩:=BF h;obtain ⟨q1,q2,h1,h2,rfl⟩:=Ci h;simp only[aB,ϡ] at h0;obtain ⟨⟨h3,h4⟩,h5⟩:=h0;obtain ⟨t,hp,nx,lim,tc⟩:=a;obtain ⟨t',hp',nx',lim',tc'⟩:=b;grind [KJ,BL.EO,aki]
def Ob.ok:Ob->Prop
 | .b x=>x=ay | .e l=>bZ l
theorem Tm{α:Type}{φ:α->Prop}:∀{t:Tree α} {o:List Ob} {a:α},strip t=aj (o,a)->(∀x∈o,x.ok)->φ a->t.All φ
 | .leaf _,o,a,h,_,hφ=>by simp[strip] at h;rw[h.2];exact hφ | .need b t,o,a,h,ho,hφ=>by
  simp only[strip,bH,jo] at h;obtain ⟨⟨o',a'⟩,h1,rfl,rfl⟩:=h;exact ⟨ho _ (dn ..),Tm h1 (fun x hx=>ho x (bV _ hx)) hφ⟩
 | .must l t,o,a,h,ho,hφ=>by
  simp only[strip,bH,jo] at h;obtain ⟨⟨o',a'⟩,h1,rfl,rfl⟩:=h;exact ⟨ho _ (dn ..),Tm h1 (fun x hx=>ho x (bV _ hx)) hφ⟩
 | .node _ _ _,_,_,h,_,_=>by simp[strip] at h | .both _ _,_,_,h,_,_=>by simp[strip] at h | .fail,_,_,h,_,_=>by simp[strip] at h
theorem aaf{α:Type}{φ:α->Prop}{t:Tree α}:∀{o:List Ob},(wrap t o).All φ->(∀x∈o,x.ok)/\t.All φ
 |[],h=>⟨fun _ h=>(by cases h),h⟩ | .b x::r,h=>by
  obtain ⟨h1,h2⟩:=h;obtain ⟨h3,h4⟩:=aaf h2;refine ⟨fun y hy=>?_,h4⟩;cases hy with
  |head=>exact h1 |tail _ hy=>exact h3 y hy
 | .e l::r,h=>by
  obtain ⟨h1,h2⟩:=h;obtain ⟨h3,h4⟩:=aaf h2;refine ⟨fun y hy=>?_,h4⟩;cases hy with
  |head=>exact h1 |tail _ hy=>exact h3 y hy
theorem anj{α:Type}{φ:α->Prop}{t:Tree α}{l:List BL}(h:(ZV l t).All φ):bZ l/\t.All φ:=by
 unfold ZV at h;split at h
 ·exact ⟨ϖ,h⟩
 ·exact h
theorem akj{t f:Tree Core}{φ:Core->Prop}(h:(acu t f).All φ):t.All φ/\f.All φ:=by
 unfold acu at h;split at h
 ·rename_i o a q b h1 h2
  split at h
  ·rename_i l he
   obtain ⟨h3,h4⟩:=aaf h;obtain ⟨h5,h6⟩:=anj h4;have:=ani he h5;subst this;exact ⟨Tm h1 (fun x hx=>h3 x (bQ.2 (.inl hx))) h6,Tm h2 (fun x hx=>h3 x (bQ.2 (.inr hx))) h6⟩
  ·exact h
 ·exact h
theorem Kw{φ:Core->Prop}:∀{t:Tree Core},(merge t).All φ->t.All φ
 | .leaf _,h=>h | .fail,h=>h | .need _ t,h=>⟨h.1,Kw h.2⟩ | .must _ t,h=>⟨h.1,Kw h.2⟩ | .node _ t f,h=>⟨fun e=>Kw (h.1 e),fun e=>Kw (h.2 e)⟩ | .both t f,h=>by
  have:=akj (show (acu (merge t) (merge f)).All φ from h);exact ⟨Kw this.1,Kw this.2⟩
theorem abz:∀{m:Nat} {l:List SV} {vs:List Value},AP H E l vs->AP H E (acv m l) vs
 |_,[],_,h=>h |m,x::l,v::vs,⟨h1,h2⟩=>by
  simp only[acv];refine ⟨?_,abz h2⟩;cases Nat.beq (m % 2) 1
  ·trivial
  ·exact h1
 |_,_::_,[],h=>h.elim
theorem ads{g:Nat}{l:List SV}{vs:List Value}(h:AP H E l vs):AP H E (Ph C g l) vs:=by
 grind [Ph,abz]
theorem agH{i j:Nat}:∀{l:List Nat},i∈ajG j l↔i=j\/i∈l
 |[]=>by simp[ajG] |k::l=>by
  unfold ajG;cases h1:(j==k)<;>simp only[ϰ,ϗ]
  ·cases h2:fC j k<;>simp only[ϰ,ϗ]
   ·simp only[List.mem_cons,agH (l:=l)]
    grind
   ·simp
  simp_all
theorem adt{i:Nat}:∀{l:List Nat},i∈UU l↔i∈l
 |[]=>by simp[UU] |j::l=>by simp[UU,agH,adt (l:=l)]
theorem Ch.aCn{hp hp':List (Nat×SB)}{tc tc' tc2:List Nat}{N:Nat->Prop}(h:Ch K H E w hp tc H' E' w' hp' tc' N)(he:∀i,i∈tc2↔i∈tc'):Ch K H E w hp tc H' E' w' hp' tc2 N:=
 {h with
  tc:=fun id hid=>(he id).2 (h.tc id hid)
  fr:=fun b hb hne=>h.fr b hb fun id hid=>hne id ((he id).2 hid)
  Pn:=fun i b h1 h2=>(h.Pn i b h1 h2).imp (fun h=>h) fun ⟨id,h3,h4⟩=>⟨id,(he id).2 h3,h4⟩
  Z5:=fun id hid=>h.Z5 id ((he id).1 hid)
  keep:=fun id sb b h1 h2 h3=>h.keep id sb b h1 (fun h4=>h2 ((he id).2 h4)) h3}
theorem adu{call:Nat->List SV->Core->Tree (SV×Core)}(hC:BP P C)(hF:BJ P C)(hK:IJ P C K call){c:Core}{a:Act}{φ:Core->Prop}(st:St C K H E w c a){g:Nat}(h:(drawn C call g BQ c).All φ):
  wpAny P .any BQ (fun e a' w'=>e=.normal/\∃c' H' E',φ c'/\St C K H' E' w' c' a'/\Mv K H E w c H' E' w' c') BQ.size (dX BQ.size aA) a {w with drawn:=w.drawn+1}:=by
 unfold drawn at h;simp only at h;generalize hlk:Oz c.hp (ZW C BQ.toList c [])=lock at h;cases hb:(gy (c.nx+KU c BQ.size*BQ.size) c.lim&&tK BQ)<;>simp only[hb,ϰ,ϗ] at h
 ·exact h.elim
 simp only[aB] at hb;have hle:=Nat.le_of_ble_eq_true hb.1;let w1:World:={w with drawn:=w.drawn+1}
 have st1:St C K H E w1 c a:=st.sameHeap rfl rfl rfl rfl;have hlook:∀id sb,Aq lock id=aj sb->Aq c.hp id=aj sb:=fun id sb hl=>by grind [XC]
 have hH0:Bc K H E w1 lock:=⟨fun id sb hl=>st1.hp.ent id sb (hlook id sb hl),fun i j s1 s2 b h1 h2=>st1.hp.GH i j s1 s2 b (hlook _ _ h1) (hlook _ _ h2)⟩;have hrefl:Ch K H E w1 c.hp c.tc H E w1 c.hp c.tc (fun i=>c.nx<=i/\i<c.nx+KU c BQ.size*BQ.size):=by
  have:=(Post.refl (c:=c) st1.hp st1.CP).mv.ch;exact this.mono fun i hi=>by omega
 refine wpAny_of_held (S:=Still H E lock w1) _ _ _ _ ?_;refine (Nw (c0:=c) (R:=fun a' w'=>∃c' H' E',φ c'/\St C K H' E' w' c' a'/\Mv K H E w c H' E' w' c') (φ:=fun c'=>φ {tm:=Ph C g c'.tm,hp:=c'.hp,nx:=c.nx+KU c BQ.size*BQ.size,lim:=c.lim,tc:=UU c'.tc}) hC hF hK hH0 st1.gl hlook hb.2 ?_
  (2*BQ.size+1) (dX BQ.size aA) c.tm {c with nx:=0,lim:=0} H E w1 a BQ.size ?_ ?_ (dZ (Kw h)))
 ·intro H' E' w' c' a' listed IU r hφ
  have hnew:Free E' {tm:=Ph C g c'.tm,hp:=c'.hp,nx:=c.nx+KU c BQ.size*BQ.size,lim:=c.lim,tc:=UU c'.tc}:=fun i h1 h2=>by
   have h1:c.nx+KU c BQ.size*BQ.size<=i:=h1;have h2:i<c.lim:=h2;cases he:E' i with
   |none=>rfl |some v=>
    have:=r.ch.new i (st.free i (by omega) h2) (by rw[he];simp);omega
  refine ⟨_,H',E',hφ,⟨ads r.st.den,r.st.hp,r.st.CP,hnew,r.st.gl,r.st.defers⟩,?_⟩;exact aif (Ch.mv (c:=c) (c':={tm:=Ph C g c'.tm,hp:=c'.hp,nx:=c.nx+KU c BQ.size*BQ.size,lim:=c.lim,tc:=UU c'.tc}) (r.ch.aCn fun i=>adt) (Nat.le_add_right _ _) (.inl hle) rfl) rfl
 ·refine ⟨⟨st1.den,st1.hp,st1.CP,fun i h1 h2=>by simp at h2,st1.gl,st1.defers⟩,rfl,rfl,fun j hj _ id h1 h2=>?_,st1.den,hrefl,fun id sb b h1 h2=>.inr ⟨sb,hlook id sb h1,h2⟩,fun _ _=>rfl,st1.CP.on⟩
  have:c.nx+KU c BQ.size*(j+1)<=c.nx+KU c BQ.size*BQ.size:=rX (jJ _ hj) _;exact st.free id (by omega) (by omega)
 grind [cnt,Nat.le_trans,List.countP_le_length]
theorem aqT{call:Nat->List SV->Core->Tree (SV×Core)}(hC:BP P C)(hF:BJ P C)(hK:IJ P C K call){c:Core}{a:Act}{φ:Core->Prop}{id:Nat}(st:St C K H E w c a){g:Nat}(h:(drawn C call g BQ c).All φ):
  (Code.region id BQ ay).wp P (fun e a' w'=>e=.normal/\∃c' H' E',φ c'/\St C K H' E' w' c' a'/\Mv K H E w c H' E' w' c') a w:=
 wp_region_any hC.mixed (adu hC hF hK st h)
end
section
variable{P:Program}{C:Ctx}{K:Kx}{H H' RG:Mem}{E E' RH:Env}{w w' w'':World}
theorem axe{ops:Array Oper}{i:Nat}{rest:List Nat}{next:Act->World->Prop}{a:Act}(h:wpOp P ops (fun _ _ _=>False) i next a w)(b:Frame)(k:List Item)(cs:List Frame):
  ∃a' w',next a' w'/\Steps P (lone (b.at a (.inRegion ops (i::rest)::k)) cs w) (lone (b.at a' (.inRegion ops rest::k)) cs w'):=by
 unfold wpOp at h;cases ho:ops[i]? with
 |none=>
  simp only[ho] at h;have hs:=step_op_skip (P:=P) (b:=b) (a:=a) (k:=k) (cs:=cs) (w:=w) (ops:=ops) (i:=i) (rest:=rest) (by simp[ho]);simp only[ho,Option.bind_none,Act.put] at hs;exact ⟨a,w,h,.one hs⟩
 |some o=>
  simp only[ho] at h;by_cases hw:Region.wanted o (yielded ops a.tmps)=ay
  ·simp only[hw,if_true] at h
   rcases h with h|⟨_,_,_,hq⟩
   case inr=>exact hq.elim
   simp only[Oper.wp] at h;have hg:=stepG_op (P:=P) (b:=b) (k:=k) (cs:=cs) (w:=w) (rest:=rest) ho hw;have hfin:∀v,(b.at a (.inRegion ops (i::rest)::k)).finish v=b.at (a.put o.dst v) (.inRegion ops rest::k):=by
    simp_all [nS]
   generalize hr:(execOp a.eval o).run P w=r at h;cases r with
   |ok n w'=>
    cases n<;>simp only[xw] at h
    case value v=>
     refine ⟨_,_,h,.one (step_lone_go ?_)⟩;simp_all [fV]
    case skip=>
     refine ⟨_,_,h,.one (step_lone_go ?_)⟩;simp_all [fV]
    case defer d=>
     refine ⟨_,_,h,.one (step_lone_go ?_)⟩;have:({b.at a (.inRegion ops (i::rest)::k) with defers:=d::a.defers}:Frame).finish undef =
       b.at ({a with defers:=d::a.defers}.put o.dst undef) (.inRegion ops rest::k):=by
      have:=nS b {a with defers:=d::a.defers} ops i rest k undef
      rw[ho] at this;exact this
     rw[hg];simp only[fV,Sem.runT_eq,hr,GStep.bare_after];exact congrArg (fun fr=>GStep.go {frame:=fr,callers:=cs,status:=.running,dying:=aF} w') this
    case enter f args=>
     obtain ⟨e,w'',fr,hR,hsteps,_,hleave⟩:=h (b.at a (.inRegion ops (i::rest)::k)::cs);have henter:step P (lone (b.at a (.inRegion ops (i::rest)::k)) cs w) =
       .next (lone (gX P f args .normal) (b.at a (.inRegion ops (i::rest)::k)::cs) w'):=
      step_lone_go (by simp_all [fV,Frame.at])
     cases e with
     |returned v=>
      refine ⟨_,_,hR,.head henter (hsteps.trans (.one ?_))⟩;grind [step_leave_returned]
     |panicked chain=>exact hR.elim |outgrown=>obtain ⟨_,_,hq⟩:=hR;exact hq.elim
    case row row args=>
     obtain ⟨v,w'',hR,hsteps⟩:=h (b.at a (.inRegion ops (i::rest)::k)) cs;have henter:step P (lone (b.at a (.inRegion ops (i::rest)::k)) cs w) =
       .next (lone (Frame.ofRow P row args .normal) (b.at a (.inRegion ops (i::rest)::k)::cs) w'):=
      step_lone_go (by simp_all [fV,Frame.at])
     refine ⟨_,_,hR,.head henter ?_⟩;simp_all
    all_goals exact h.elim
   |halt x w'=>
    cases x<;>simp only[xw] at h
    all_goals exact h.elim
  ·simp only[hw,if_false,Bool.false_eq_true] at h
   have hs:=step_op_skip (P:=P) (b:=b) (a:=a) (k:=k) (cs:=cs) (w:=w) (ops:=ops) (i:=i) (rest:=rest)
    (by simp_all)
   simp only[ho,Option.bind_some] at hs;exact ⟨_,_,h,.one hs⟩
inductive Dp(body:Code):List It->List Item->Prop
 |nil:Dp body [] []
 |code (p:List Nat) {td:List It} {k:List Item}:Dp body td k->Dp body (.code p::td) (.code (BA body p)::k)
 |loop (p:List Nat) (x:Code) {td:List It} {k:List Item}:BA body p=.loop x->Dp body td k->Dp body (.code p::td) (.inLoop x::k)
 |inBlock (id:Nat) {td:List It} {k:List Item}:Dp body td k->Dp body (.inBlock id::td) (.inBlock id::k)
 |ZX {td:List It} {k:List Item}:Dp body td k->Dp body (.ZX::td) (.beginRound::k)
 |reg (p:List Nat) (l:List Nat) (id:Nat) (ops:Array Oper) {td:List It} {k:List Item}:BA body p=.region id ops aA->Dp body td k->Dp body (.reg p l::td) (.inRegion ops l::k)
theorem akk{body:Code}{id:Nat}:∀{td Ih:List It} {k:List Item},Dp body td k->OB id td=aj Ih->∃k',exitTo id k=aj k'/\Dp body Ih k':=by
 intro td Ih k h;induction h with
 |nil=>simp_all [OB] |code p _ ih=>assumption |ZX _ ih=>assumption |loop p x _ _ ih=>assumption |reg p l id ops _ _ ih=>assumption |inBlock j h0 ih=>
  intro h;simp only[OB] at h;grind [exitTo]
def resV(a:Act)(r:ResultVar):Sem Value:=
 match r with
 | .tmp t=>pure (a.tmps.getD t undef) | .cell x t=>do loadVar t (<-asAddr (a.tmps.getD x undef))
theorem af0(fn:Func)(a:Act):results fn a.tmps=(do let vs <-fn.results.mapM (resV a);pure (if h:vs.size=1 then vs[0] else .tuple vs)):=rfl
theorem YC(hC:BP P C){c:Core}{a:Act}(st:St C K H E w c a):∀{rs:List ResultVar} {l:List SV},ac1 C c rs=aj l->∃vs:List Value,
  (rs.mapM (resV a)).run P w=.ok vs w/\AP H E l vs
 |[],l,h=>by simp[ac1] at h;subst h;exact ⟨[],by simp,ϖ⟩ | .tmp t::rs,l,h=>by
  simp only[ac1] at h;split at h
  ·rename_i sv r h1 h2
   cases h;obtain ⟨vs,e1,e2⟩:=YC hC st h2;obtain ⟨u,h3,h4⟩:=st.den.get h1;refine ⟨u::vs,?_,h4,e2⟩;rw[kV] at h3;have:a.tmps.getD t undef=u:=by simp_all
   simp_all [resV,List.mapM_cons,iK]
  ·cases h
 | .cell x t::rs,l,h=>by
  simp only[ac1] at h;split at h
  ·rename_i i r h1 h2
   simp only[bH] at h;obtain ⟨sv,h3,rfl⟩:=h;obtain ⟨vs,e1,e2⟩:=YC hC st h2;have ht:=hC.ty _ _ h1;have dx:=BM (H:=H) (E:=E) st.den (.tmp x);obtain ⟨ad,cs,q1,q2,q3,q4⟩:=abd (w:=w) dx st.hp st.gl (fun hz=>by
    obtain ⟨_,_,_,_,_,_,_,_,_,h1⟩:=ht.info;grind) h3
   refine ⟨Pm i.ty.isAgg cs::vs,?_,q3,e2⟩;have q1:a.tmps.getD x undef=.pointer (aj ad):=q1;have hl:=agz ht q2 (q4 w (Xp.refl _ _ _ _) st.CP.on);have hv:(resV a (.cell x t)).run P w=.ok (Pm i.ty.isAgg cs) w:=by simp[resV,asAddr,q1,hl,Pm]
   simp_all
  ·cases h
theorem adv(hC:BP P C){c:Core}{a:Act}{fn:Func}{φ:Out->Prop}(st:St C K H E w c a)(h:(result C fn c).All φ):∃sv v,φ (.done sv c)/\Den H E sv v/\(results fn a.tmps).run P w=.ok v w:=by
 have key:∀vs:List Value,(fn.results.toList.mapM (resV a)).run P w=.ok vs w->
   (results fn a.tmps).run P w=.ok (if h:vs.toArray.size=1 then vs.toArray[0] else .tuple vs.toArray) w:=by
  grind [af0,Array.mapM_eq_mapM_toList,gq,map_eq_pure_bind,zh,iK]
 unfold result at h;split at h
 ·rename_i sv hs
  obtain ⟨vs,e1,e2⟩:=YC hC st hs;match vs,e2 with
  |[v],⟨e2,_⟩=>
   exact ⟨sv,v,h,e2,by simp_all⟩
 ·rename_i l hne hs
  obtain ⟨vs,e1,e2⟩:=YC hC st hs;refine ⟨_,.tuple vs.toArray,h,⟨vs.toArray,rfl,e2⟩,?_⟩;rw[key vs e1,dif_neg];intro h1;have:=e2.length;simp at h1;match l,hne,(this ▸ h1:l.length=1) with
  |[x],hne,_=>grind
 ·exact h.elim
end
section
variable{P:Program}{C:Ctx}{K:Kx}{H H' RG:Mem}{E E' RH:Env}{w w' w'':World}
def aii(P:Program)(C:Ctx)(K:Kx)(fn:Func)(g:Nat)(H:Mem)(E:Env)(w:World)(c:Core)(m:Machine)(b:Frame)(cs:List Frame):Out->Prop
 | .done sv c'=>∃(a':Act) (w':World) (H':Mem) (E':Env) (v:Value) (todo:List Item),Steps P m (lone {b.at a' todo with mode:=.returning} cs w')/\St C K H' E' w' c' a'/\Mv K H E w c H' E' w' c'/\
   Den H' E' sv v/\(results fn a'.tmps).run P w'=.ok v w'
 | .stop g' Ih c'=>g'=g/\∃(a':Act) (w':World) (H':Mem) (E':Env) (items':List Item),Steps P m (lone (b.at a' items') cs w')/\St C K H' E' w' c' a'/\Mv K H E w c H' E' w' c'/\Dp (AU fn) Ih items'
theorem aii.of{fn:Func}{g:Nat}{c c1:Core}{m m1:Machine}{b:Frame}{cs:List Frame}{out:Out}(hs:Steps P m m1)(hm:Mv K H E w c H' E' w' c1)(h:aii P C K fn g H' E' w' c1 m1 b cs out):
  aii P C K fn g H E w c m b cs out:=by
 cases out with
 |done sv c'=>
  obtain ⟨a2,w2,H2,E2,v,todo,h1,h2,h3,h4,h5⟩:=h;exact ⟨a2,w2,H2,E2,v,todo,hs.trans h1,h2,hm.trans h3,h4,h5⟩
 |stop g' Ih c'=>
  obtain ⟨hg,a2,w2,H2,E2,items,h1,h2,h3,h4⟩:=h;exact ⟨hg,a2,w2,H2,E2,items,hs.trans h1,h2,hm.trans h3,h4⟩
def ank(P:Program)(C:Ctx)(K:Kx)(fn:Func)(H:Mem)(E:Env)(w:World)(c:Core)(m:Machine)(b:Frame)(cs:List Frame):Sig->Prop
 | .done sv c'=>∃(a':Act) (w':World) (H':Mem) (E':Env) (v:Value) (todo:List Item),Steps P m (lone {b.at a' todo with mode:=.returning} cs w')/\St C K H' E' w' c' a'/\Mv K H E w c H' E' w' c'/\
   Den H' E' sv v/\(results fn a'.tmps).run P w'=.ok v w'
 | .go Ih c'=>∃(a':Act) (w':World) (H':Mem) (E':Env) (items':List Item),Steps P m (lone (b.at a' items') cs w')/\St C K H' E' w' c' a'/\Mv K H E w c H' E' w' c'/\Dp (AU fn) Ih items' | .halt Ih c'=>∃(a':Act) (w':World) (H':Mem) (E':Env) (items':List Item),Steps P m (lone (b.at a' items') cs w')/\St C K H' E' w' c' a'/\Mv K H E w c H' E' w' c'/\Dp (AU fn) Ih items'
theorem St.Ph{c:Core}{a:Act}(st:St C K H E w c a)(g:Nat):St C K H E w {c with tm:=Go.Sx.Ph C g c.tm} a:=
 ⟨ads st.den,st.hp,st.CP,st.free,st.gl,st.defers⟩
theorem agI(hC:BP P C)(hF:BJ P C){call:Nat->List SV->Core->Tree (SV×Core)}(hK:IJ P C K call){top:Bool}{g:Nat}{fn:Func}{td:List It}{c:Core}{a:Act}{items:List Item}{φ:Sig->Prop}
  (h:(Xn C call top g fn td c).All φ) (st:St C K H E w c a) (hi:Dp (AU fn) td items) (b:Frame) (cs:List Frame) :
  ∃sig,φ sig/\ank P C K fn H E w c (lone (b.at a items) cs w) b cs sig:=by
 have N7:Mv K H E w c H E w c:=JY st rfl rfl rfl rfl;have go:∀{Ih:List It} {c':Core} {H':Mem} {E':Env} {w':World} {a':Act} {items':List Item},φ (.go Ih c')->St C K H' E' w' c' a'->Mv K H E w c H' E' w' c'->Dp (AU fn) Ih items'->
   Steps P (lone (b.at a items) cs w) (lone (b.at a' items') cs w')->∃sig,φ sig/\ank P C K fn H E w c (lone (b.at a items) cs w) b cs sig:=fun h1 h2 h3 h4 h5=>⟨_,h1,_,_,_,_,_,h5,h2,h3,h4⟩
 have fin:∀(todo:List Item),((result C fn c).bind ahY).All φ->step P (lone (b.at a items) cs w)=.next (lone {b.at a todo with mode:=.returning} cs w)->∃sig,φ sig/\ank P C K fn H E w c (lone (b.at a items) cs w) b cs sig:=fun todo hr hs=>by
  obtain ⟨sv,v,h1,h2,h3⟩:=adv hC st (dZ hr);exact ⟨_,h1,a,w,H,E,v,todo,.one hs,st,N7,h2,h3⟩
 unfold Xn at h;split at h
 ·cases hi
  exact fin _ h step_end
 ·cases hi with
  |inBlock id hk=>exact go h st N7 hk (.one step_inBlock)
 ·exact h.elim
 ·cases hi with
  |reg p l id ops hc hk=>exact go h (st.Ph g) (JY st rfl rfl rfl rfl) hk (.one step_region_end)
 ·rename_i p i r k
  cases hi with
  |reg p l id ops hc hk=>
   rw[hc] at h;simp only at h;obtain ⟨a',w',h1,h2⟩:=axe (XB hC hF hK st (dZ h) (fun a' w'=>∃c' H' E',φ (.go (.reg p r::k) c')/\St C K H' E' w' c' a'/\Mv K H E w c H' E' w' c') (fun _ _ _=>False)
    fun c' a' H' E' w' e1 e2 e3 _=>⟨c',H',E',e1,e2,e3⟩) b _ cs
   obtain ⟨c',H',E',e1,e2,e3⟩:=h1;exact go e1 e2 e3 (.reg p r id ops hc hk) h2
 ·rename_i p k
  have hloop:∀{x:Code},BA (AU fn) p=x->(∀y,x≠.loop y)->∃k',items=.code x::k'/\Dp (AU fn) k k':=fun {x} hx hne=>by
   cases hi with
   |code p hk=>simp_all |loop p y hl hk=>grind
  split at h
  ·rename_i hx
   obtain ⟨k',rfl,hk⟩:=hloop hx (by simp);exact go h st N7 hk (.one step_skip)
  ·grind [step_ret]
  ·rename_i x y hx
   obtain ⟨k',rfl,hk⟩:=hloop hx (by simp);have h0:BA (AU fn) (0::p)=x:=by simp[BA,hx,child]
   have h1:BA (AU fn) (1::p)=y:=by simp[BA,hx,child]
   have:=Dp.code (0::p) (Dp.code (1::p) hk);rw[h0,h1] at this;exact go h st N7 this (.one step_seq)
  ·rename_i id x hx
   obtain ⟨k',rfl,hk⟩:=hloop hx (by simp);have h0:BA (AU fn) (0::p)=x:=by simp[BA,hx,child]
   have:=Dp.code (0::p) (Dp.inBlock id hk);rw[h0] at this;exact go h st N7 this (.one step_block)
  ·rename_i x hx
   have h0:BA (AU fn) (0::p)=x:=by simp[BA,hx,child]
   cases hst:C.L9 g p<;>simp only[hst,ϰ,ϗ] at h
   ·cases hi with
    |code p hk=>
     have:=Dp.code (0::p) (Dp.loop p x hx hk);rw[h0] at this;rw[hx] at go ⊢;exact go h st N7 this (.one step_loop)
    |loop p y hl hk=>
     rw[hx] at hl;cases hl;have:=Dp.code (0::p) (Dp.loop p x hx hk);rw[h0] at this;exact go h st N7 this (.one step_inLoop)
   ·exact ⟨_,h,a,w,H,E,items,.refl _ _,st,N7,hi⟩
  ·rename_i id hx
   obtain ⟨k',rfl,hk⟩:=hloop hx (by simp);split at h
   ·rename_i k2 he
    obtain ⟨k3,h1,h2⟩:=akk hk he;exact go h st N7 h2 (.one (step_exit h1))
   ·exact h.elim
  ·rename_i x y z hx
   obtain ⟨k',rfl,hk⟩:=hloop hx (by simp);have h0:=Dp.code (0::p) hk;have h1:=Dp.code (1::p) hk;have e0:BA (AU fn) (0::p)=y:=by simp[BA,hx,child]
   have e1:BA (AU fn) (1::p)=z:=by simp[BA,hx,child]
   rw[e0] at h0;rw[e1] at h1;have dx:=BM (H:=H) (E:=E) st.den x;split at h
   ·rename_i hv
    rw[hv] at dx;exact go h st N7 h0 (.one (step_cond (t:=ay) dx))
   ·rename_i hv
    rw[hv] at dx;exact go h st N7 h1 (.one (step_cond (t:=aA) dx))
   ·rename_i t hv
    rw[hv] at dx;have st':∀v,t=v->St C K H E w (c.put (Yg x) (.bool v)) a:=fun v hv2=>by
     subst hv2;cases x with
     |tmp d=>exact st.know hv |const u=>assumption |global u=>assumption |func u=>assumption
    have mv':∀v:Bool,Mv K H E w c H E w (c.put (Yg x) (.bool v)):=fun v=>JY st rfl rfl rfl rfl
    cases t with
    |true=>exact go (h.1 rfl) (st' ay rfl) (mv' ay) h0 (.one (step_cond (t:=ay) dx)) |false=>exact go (h.2 rfl) (st' aA rfl) (mv' aA) h1 (.one (step_cond (t:=aA) dx))
   ·exact h.elim
  ·rename_i id ops dr hx
   obtain ⟨k',rfl,hk⟩:=hloop hx (by simp);cases dr with
   |false=>
    simp only[ϗ] at h;exact go h st N7 (.reg p (aU ops.size) id ops hx hk) (.one step_region)
   |true=>
    simp only[ϰ] at h;have key:∀(f:Core->Tree Sig),((drawn C call g ops c).bind f).All φ->∃c' a' H' E' w',(f c').All φ/\St C K H' E' w' c' a'/\Mv K H E w c H' E' w' c'/\Steps P (lone (b.at a (.code (.region id ops ay)::k')) cs w) (lone (b.at a' k') cs w'):=fun f hf=>by
     obtain ⟨e,a',w',⟨he,c',H',E',h1,h2,h3⟩,harr⟩:=aqT (id:=id) hC hF hK st (dZ hf) b k' cs;subst he;exact ⟨c',a',H',E',w',h1,h2,h3,harr⟩
    cases hl:(top && !(drawn C call g ops c).lone)<;>simp only[hl,ϰ,ϗ] at h
    ·obtain ⟨c',a',H',E',w',h1,h2,h3,h4⟩:=key _ h
     exact go h1 h2 h3 hk h4
    ·obtain ⟨c',a',H',E',w',h1,h2,h3,h4⟩:=key _ h
     exact ⟨_,h1,a',w',H',E',k',h4,h2,h3,hk⟩
  ·exact h.elim
def adw(P:Program)(C:Ctx)(K:Kx)(run:Bool->Nat->List It->Core->Tree Out):Prop:=
 ∀(top:Bool) (g:Nat) (td:List It) (c:Core) (H:Mem) (E:Env) (w:World) (a:Act) (fn:Func) (items:List Item) (φ:Out->Prop),C.fns.get g=aj fn->(run top g td c).All φ->St C K H E w c a->
  Dp (AU fn) td items->∀(b:Frame) (cs:List Frame),∃out,φ out/\aii P C K fn g H E w c (lone (b.at a items) cs w) b cs out
theorem Np{p:Nat->Bool}:∀{l:List (Nat×SB)} {i:Nat},Aq (dropKey p l) i=bif p i then aF else Aq l i
 |[],i=>by simp_all [dropKey,Aq] |(j,b)::r,i=>by
  have ih:=Np (p:=p) (l:=r) (i:=i);simp only[dropKey];grind [Aq]
theorem Mv.gc{c c':Core}(h:Mv K H E w c H' E' w' c')(hf:Free E c){p:Nat->Bool}(hp:∀i,p i=ay->c.nx<=i/\i<c.lim):Mv K H E w c H' E' w' {c' with hp:=dropKey p c'.hp}:=by
 have hl:∀{i sb},Aq (dropKey p c'.hp) i=aj sb->Aq c'.hp i=aj sb:=fun {i sb} h=>by
  grind [Np]
 have hch:=h.ch;refine Ch.mv (c:=c) (c':={c' with hp:=dropKey p c'.hp}) ⟨hch.Ji,hch.Qc,hch.new,⟨fun id sb hq=>hch.hp.ent _ _ (hl hq),fun id id' sb sb' b q1 q2=>hch.hp.GH _ _ _ _ _ (hl q1) (hl q2)⟩,hch.CP,hch.tc,hch.size,hch.fr,hch.Pn,hch.Z5,fun id sb b q1 q2 q3=>?_,fun id sb q1=>hch.old id sb (hl q1)⟩ h.nx h.lim h.agC
 rcases hch.keep id sb b q1 q2 q3 with q|⟨sb',q4,q5⟩
 ·exact .inl q
 ·refine .inr ⟨sb',?_,q5⟩
  show Aq (dropKey p c'.hp) id=aj sb';rw[Np];cases hi:p id<;>simp only[ϰ,ϗ]
  ·exact q4
  ·have:=hf id (hp id hi).1 (hp id hi).2
   have q6:=GK q3;simp_all [bk]
theorem aag(hC:BP P C)(hF:BJ P C){run:Bool->Nat->List It->Core->Tree Out}(hr:adw P C K run):IJ P C K (Rw C (run aA)):=by
 intro H E w c g args FQ φ hd hh hw hf hg h;unfold Rw at h;split at h
 ·exact h.elim
 ·rename_i fn hfn
  cases hb:(gy args.length fn.ntmps&&fn.body.isSome)<;>simp only[hb,ϰ,ϗ] at h
  ·exact h.elim
  simp only[aB] at hb;obtain ⟨body,hbody⟩:=dO.1 hb.2;have hP:=hC.fn g fn hfn;refine ⟨hF.en g (.inr (by rw[hfn];rfl)),fun cs=>?_⟩;let b:Frame:={(default:Frame) with fn:=g,kind:=.normal}
  let a:Act:={tmps:=FQ.toArray++dX (fn.ntmps - FQ.toArray.size) undef,defers:=[]}
  have henter:gX P g FQ.toArray .normal=b.at a [.code body]:=by
   grind [gX,Frame.at]
  have hlen:=hd.length;have st:St C K H E w {tm:=args++dD (fn.ntmps - args.length) .any,hp:=c.hp,nx:=c.nx,lim:=c.lim,tc:=c.tc} a:=by
   refine ⟨?_,hh,hw,hf,hg,rfl⟩;have:a.tmps.toList=FQ++dD (fn.ntmps - args.length) undef:=by simp[a,hlen]
   rw[this];exact hd.append (AP.any _ _ (by simp))
  have hit:Dp (AU fn) [.code []] [.code body]:=by
   have:=Dp.code (body:=AU fn) [] Dp.nil;simp_all [BA,AU]
  obtain ⟨out,h1,h2⟩:=hr aA g [.code []] _ H E w a fn [.code body] _ hfn (dZ h) st hit b cs;cases out with
  |stop _ _ _=>exact h1.elim |done sv c'=>
   obtain ⟨a',w',H',E',v,todo,q1,q2,q3,q4,q5⟩:=h2;refine ⟨.returned v,w',_,⟨_,v,H',E',rfl,h1,q4,?_⟩,by rw[henter];exact q1,rfl,rfl,q2.defers,rfl,fn,hP,q5⟩;have q3':=q3.to (d:=c) (d':={c' with tm:=c.tm}) rfl rfl rfl rfl rfl rfl rfl rfl
   have q6:=q3'.gc hf (p:=fun i=>gy c.nx i&&fC i c.lim && !(reach c'.hp 4000 (refs sv++Oy c'.hp c'.tc) []).contains i) (fun i hi=>by simp_all);exact q6
theorem aqU:adw P C K (run C 0):=fun _ _ _ _ H E w a _ items _ _ h st hi _ _=>
 ⟨_,h,rfl,a,w,H,E,items,.refl _ _,st,JY st rfl rfl rfl rfl,hi⟩
theorem aqV(hC:BP P C)(hF:BJ P C){n:Nat}(ih:adw P C K (run C n)):adw P C K (run C (n+1)):=by
 intro top g td c H E w a fn items φ hfn h st hi b cs;have hK:=aag hC hF ih;unfold run at h;rw[hfn] at h;simp only at h;obtain ⟨sig,h1,h2⟩:=agI hC hF hK (dZ h) st hi b cs;cases sig with
 |go Ih c'=>
  obtain ⟨a',w',H',E',items',q1,q2,q3,q4⟩:=h2;obtain ⟨out,q5,q6⟩:=ih top g _ _ _ _ _ _ fn _ φ hfn h1 q2 q4 b cs;exact ⟨out,q5,q6.of q1 q3⟩
 |done sv c'=>exact ⟨_,h1,h2⟩ |halt Ih c'=>exact ⟨_,h1,rfl,h2⟩
theorem acA(hC:BP P C)(hF:BJ P C):∀n,adw P C K (run C n)
 |0=>aqU |n+1=>aqV hC hF (acA hC hF n)
end
mutual
def agJ:SV->List Nat
 | .agg l=>XD l | .Az l=>XD l | .fn _ l=>Kr l | .DK _ x=>amN x | .ptr id _=>[id] |_=>[]
def XD:List SV->List Nat
 |[]=>[] |x::r=>agJ x++XD r
end
def YD(hp:List (Nat×SB))(id:Nat):Option (Nat×Nat×Nat×(ϝ)):=
 match Aq hp id with
 |some (.own e st n g)=>aj (e,st,n,g) |some (.row cells e st n)=>bif Gf cells then (Jh hp cells).map fun l=>(e,st,n,Bh (chunks st n l)) else aF |_=>aF
mutual
def Ky(hp:List (Nat×SB)):SV->List Nat
 | .agg l=>YE hp l | .Az l=>YE hp l | .gs id=>match Aq hp id with
  |some (.fz _ _ _)=>[] |_=>[id]
 |_=>[]
def YE(hp:List (Nat×SB)):List SV->List Nat
 |[]=>[] |x::r=>Ky hp x++YE hp r
end
mutual
def Kz(hp:List (Nat×SB)):SV->Option Sh
 | .agg l=>(Wi hp l).map .agg | .Az l=>(Wi hp l).map .Az | .gs id=>match Aq hp id with
  |some (.fz st n g)=>aj (.sl st n g) |_=>(YD hp id).map fun r=>.os r.1 r.2.1 r.2.2.1 r.2.2.2
 |x=>Eu hp x
def Wi(hp:List (Nat×SB)):List SV->Option (List Sh)
 |[]=>aj [] |x::r=>match Kz hp x,Wi hp r with
  |some s,aj l=>aj (s::l) |_,_=>aF
end
def MK:List Nat->Bool
 |[]=>ay |x::l=>!l.contains x&&MK l
def as9(hp:List (Nat×SB)):List Nat->List Nat
 |[]=>[] |id::r=>(match Aq hp id with
  |some (.row cells _ _ _)=>Kr cells |_=>[])++as9 hp r
def finish(c:Core)(v:SV):Option Sh:=
 match freeze c.hp (agJ v++as9 c.hp (Ky c.hp v)) with
 |some hp=>bif MK (Ky hp v) then Kz hp v else aF |none=>aF
section
variable{P:Program}{C:Ctx}{K:Kx}{H H' RG:Mem}{E E' RH E1:Env}{w w' w'':World}
theorem adx:∀{l:List Nat} {i j x:Nat},MK l=ay->l[i]?=aj x->l[j]?=aj x->i=j
 |[],_,_,_,_,h,_=>by simp at h |y::l,0,0,_,_,_,_=>rfl |y::l,0,j+1,x,h,h1,h2=>by
  grind [MK]
 |y::l,i+1,0,x,h,h1,h2=>by
  grind [MK]
 |y::l,i+1,j+1,x,h,h1,h2=>by
  simp only[MK,aB] at h;have e:=adx (l:=l) (i:=i) (j:=j) (x:=x) h.2 (by grind) (by grind);rw[e]
theorem ady{hp:List (Nat×SB)}{id:Nat}{r:Nat×Nat×Nat×(ϝ)}(hh:Bc K H E w hp)(h:YD hp id=aj r):
  Ho K H E w id (.own r.1 r.2.1 r.2.2.1 r.2.2.2)/\∃sb,Aq hp id=aj sb/\∀b,bk E id=aj b->Bv E id sb=aj b:=by
 unfold YD at h;split at h
 ·rename_i e st n g hl
  cases h;exact ⟨hh.ent _ _ hl,_,hl,fun b hb=>hb⟩
 ·rename_i cells e st n hl
  cases ho:Gf cells<;>simp only[ho,ϰ,ϗ] at h
  ·cases h
  simp only[bH] at h;obtain ⟨l,h1,rfl⟩:=h;obtain ⟨v,xs,e1,e2,e3,e4⟩:=hh.ent _ _ hl;exact ⟨⟨v,xs,e1,e2,KW e2.1 (EL hh h1 e3) (FP ho e3),e4⟩,_,hl,fun b hb=>hb⟩
 ·cases h
def ay2(K:Kx)(H:Mem)(E:Env)(w:World)(hp:List (Nat×SB))(id:Nat)(x:SB):Prop:=
 Ho K H E w id x/\(∃e st n g,x=.own e st n g)/\∃sb,Aq hp id=aj sb/\∀b,bk E id=aj b->Bv E id sb=aj b
mutual
theorem aah:∀{s:Sh} {u:Value} (b0:Nat),Rep H s u->Den H E1 (Dt s b0).1 u/\(Dt s b0).2.2=b0/\(Dt s b0).2.1=[]
 | .i k n,_,b0,h=>by cases h;exact ⟨rfl,rfl,rfl⟩ | .b y,_,b0,h=>by cases h;exact ⟨rfl,rfl,rfl⟩ | .v y,_,b0,h=>by cases h with|v _ h1=>exact ⟨ajI h1,rfl,rfl⟩
 | .str l,_,b0,h=>⟨h,rfl,rfl⟩ | .sl _ _ _,_,b0,h=>⟨h,rfl,rfl⟩ | .DK _ _,_,b0,h=>⟨h,rfl,rfl⟩ | .fn _ _,_,b0,h=>⟨Xo h,rfl,rfl⟩ | .er _ _,_,b0,h=>⟨h,rfl,rfl⟩ | .pt _,_,b0,h=>⟨Xo h,rfl,rfl⟩ | .os _ _ _ _,_,b0,h=>by cases h | .agg l,u,b0,h=>by
  cases h with
  |agg _ vs h1 h2=>
   have:=XE (l:=l) (vs:=vs.toList) b0 (zC (by omega) fun j s v e1 e2=>h2 j s v e1 (by grind));exact ⟨⟨vs,rfl,this.1⟩,this.2.1,this.2.2⟩
 | .Az l,u,b0,h=>by
  cases h with
  |Az _ vs h1 h2=>
   have:=XE (l:=l) (vs:=vs.toList) b0 (zC (by omega) fun j s v e1 e2=>h2 j s v e1 (by grind));exact ⟨⟨vs,rfl,this.1⟩,this.2.1,this.2.2⟩
theorem XE:∀{l:List Sh} {vs:List Value} (b0:Nat),EN H l vs->AP H E1 (ES l b0).1 vs/\(ES l b0).2.2=b0/\(ES l b0).2.1=[]
 |[],[],b0,_=>⟨ϖ,rfl,rfl⟩ |s::l,v::vs,b0,⟨h1,h2⟩=>by
  have a:=aah b0 h1;have b:=XE b0 h2;simp only[ES,a.2.1,a.2.2,List.nil_append];exact ⟨⟨a.1,b.1⟩,b.2⟩
 |[],_::_,_,h=>h.elim |_::_,[],_,h=>h.elim
end
def Knows(E E1:Env)(b0:Nat)(ids:List Nat):Prop:=∀k id,ids[k]?=aj id->E1 (b0+k)=E id
theorem Knows.left{b0:Nat}{l l':List Nat}(h:Knows E E1 b0 (l++l')):Knows E E1 b0 l:=fun k id hk=>h k id (by
 grind)
theorem Knows.right{b0:Nat}{l l':List Nat}(h:Knows E E1 b0 (l++l')):Knows E E1 (b0+l.length) l':=fun k id hk=>by
 rw[Nat.add_assoc];exact h (l.length+k) id (by grind)
structure N8(K:Kx)(H:Mem)(E E1:Env)(w:World)(hp:List (Nat×SB))(ids:List Nat)(b0 n:Nat)(l:List (Nat×SB)):Prop where
 len:n=b0+ids.length
 mem:∀i x,(i,x)∈l->∃k id,i=b0+k/\ids[k]?=aj id/\ay2 K H E w hp id x
 cov:∀id∈ids,∃sb,Aq hp id=aj sb/\∀b,bk E id=aj b->Bv E id sb=aj b
theorem N8.nil{hp:List (Nat×SB)}{b0:Nat}:N8 K H E E1 w hp [] b0 b0 []:=⟨rfl,fun _ _ h=>(by cases h),fun _ h=>(by cases h)⟩
theorem N8.app{hp:List (Nat×SB)}{b0 n m:Nat}{i1 i2:List Nat}{l1 l2:List (Nat×SB)}(h1:N8 K H E E1 w hp i1 b0 n l1)(h2:N8 K H E E1 w hp i2 n m l2):N8 K H E E1 w hp (i1++i2) b0 m (l1++l2):=by
 refine ⟨by rw[h2.len,h1.len,List.length_append];omega,fun i x hx=>?_,fun id hid=>(bQ.1 hid).elim (h1.cov id) (h2.cov id)⟩;rcases bQ.1 hx with hx|hx
 ·obtain ⟨k,id,e1,e2,e3⟩:=h1.mem i x hx
  exact ⟨k,id,e1,by grind,e3⟩
 ·obtain ⟨k,id,e1,e2,e3⟩:=h2.mem i x hx
  exact ⟨i1.length+k,id,by rw[e1,h1.len];omega,by grind,e3⟩
mutual
theorem agK{hp:List (Nat×SB)}(hh:Bc K H E w hp):∀{x:SV} {s:Sh} {u:Value} (b0:Nat),Kz hp x=aj s->Den H E x u->Knows E E1 b0 (Ky hp x)->
  Den H E1 (Dt s b0).1 u/\N8 K H E E1 w hp (Ky hp x) b0 (Dt s b0).2.2 (Dt s b0).2.1
 | .agg l,s,u,b0,h,hd,hk=>by
  simp only[Kz,bH] at h;obtain ⟨l',h1,rfl⟩:=h;obtain ⟨vs,rfl,hl⟩:=hd;have:=XF hh b0 h1 hl (by assumption);exact ⟨⟨vs,rfl,this.1⟩,by simp_all [Ky,Dt]⟩
 | .Az l,s,u,b0,h,hd,hk=>by
  simp only[Kz,bH] at h;obtain ⟨l',h1,rfl⟩:=h;obtain ⟨vs,rfl,hl⟩:=hd;have:=XF hh b0 h1 hl (by assumption);exact ⟨⟨vs,rfl,this.1⟩,by simp_all [Ky,Dt]⟩
 | .gs id,s,u,b0,h,hd,hk=>by
  simp only[Kz] at h;split at h
  ·rename_i st n g hl
   cases h;obtain ⟨v,he,hr⟩:=hh.ent _ _ hl;rw[hd.1] at he;grind [Ky,aah,N8.nil]
  ·rename_i hne
   simp only[bH] at h;obtain ⟨r,h1,rfl⟩:=h;have hi:Ky hp (.gs id)=[id]:=by
    simp only[Ky]
   rw[hi] at hk ⊢;have hE1:E1 b0=E id:=by simpa using hk 0 id rfl
   obtain ⟨a1,a2⟩:=ady hh h1;refine ⟨⟨by rw[hE1];exact hd.1,hd.2⟩,⟨by simp[Dt],fun i x hx=>?_,fun i hi=>?_⟩⟩;rotate_left
   ·simp_all
   simp[Dt] at hx;obtain ⟨rfl,rfl⟩:=hx;exact ⟨0,id,rfl,rfl,a1,⟨_,_,_,_,rfl⟩,a2⟩
 | .any,s,u,b0,h,hd,hk=>by simp[Kz,Eu] at h | .val _,s,u,b0,h,hd,hk=>EM hh b0 h (by rfl) (by rfl) hd | .int _ _,s,u,b0,h,hd,hk=>EM hh b0 h (by rfl) (by rfl) hd | .sym _ _,s,u,b0,h,hd,hk=>EM hh b0 h (by rfl) (by rfl) hd | .bool _,s,u,b0,h,hd,hk=>EM hh b0 h (by rfl) (by rfl) hd | .test _,s,u,b0,h,hd,hk=>EM hh b0 h (by rfl) (by rfl) hd | .str _,s,u,b0,h,hd,hk=>EM hh b0 h (by rfl) (by rfl) hd | .ptr _ _,s,u,b0,h,hd,hk=>EM hh b0 h (by rfl) (by rfl) hd | .gp _ _ _ _,s,u,b0,h,hd,hk=>by simp[Kz,Eu] at h | .Fj,s,u,b0,h,hd,hk=>EM hh b0 h (by rfl) (by rfl) hd | .Bg,s,u,b0,h,hd,hk=>EM hh b0 h (by rfl) (by rfl) hd | .Ht,s,u,b0,h,hd,hk=>EM hh b0 h (by rfl) (by rfl) hd | .Eo,s,u,b0,h,hd,hk=>EM hh b0 h (by rfl) (by rfl) hd | .Gy,s,u,b0,h,hd,hk=>by simp[Kz,Eu] at h | .fn _ _,s,u,b0,h,hd,hk=>EM hh b0 h (by rfl) (by rfl) hd | .DK _ _,s,u,b0,h,hd,hk=>EM hh b0 h (by rfl) (by rfl) hd | .mp _,s,u,b0,h,hd,hk=>by simp[Kz,Eu] at h | .sh _,s,u,b0,h,hd,hk=>EM hh b0 h (by rfl) (by rfl) hd | .Iu _ _ _ _ _,s,u,b0,h,hd,hk=>EM hh b0 h (by rfl) (by rfl) hd | .ev _,s,u,b0,h,hd,hk=>by simp[Kz,Eu] at h | .vw _ _,s,u,b0,h,hd,hk=>by simp[Kz,Eu] at h | .glob _,s,u,b0,h,hd,hk=>by simp[Kz,Eu] at h
theorem XF{hp:List (Nat×SB)}(hh:Bc K H E w hp):∀{l:List SV} {l':List Sh} {vs:List Value} (b0:Nat),Wi hp l=aj l'->AP H E l vs->Knows E E1 b0 (YE hp l)->
  AP H E1 (ES l' b0).1 vs/\N8 K H E E1 w hp (YE hp l) b0 (ES l' b0).2.2 (ES l' b0).2.1
 |[],l',[],b0,h,_,_=>by simp[Wi] at h;subst h;exact ⟨ϖ,N8.nil⟩ |x::l,l',v::vs,b0,h,⟨h1,h2⟩,hk=>by
  simp only[Wi] at h;split at h
  ·rename_i s r e1 e2
   cases h;have a:=agK hh b0 e1 h1 hk.left;have hk2:=hk.right;rw[<-a.2.len] at hk2;have b:=XF hh _ e2 h2 hk2;simp only[ES];exact ⟨⟨a.1,b.1⟩,a.2.app b.2⟩
  ·cases h
 |[],_,_::_,_,_,h,_=>h.elim |_::_,_,[],_,_,h,_=>h.elim
theorem EM{hp:List (Nat×SB)}(hh:Bc K H E w hp){x:SV}{s:Sh}{u:Value}(b0:Nat)(h:Kz hp x=aj s)(hx:Kz hp x=Eu hp x)(hi:Ky hp x=[])(hd:Den H E x u):
  Den H E1 (Dt s b0).1 u/\N8 K H E E1 w hp (Ky hp x) b0 (Dt s b0).2.2 (Dt s b0).2.1:=by
 grind [aah,OT,N8.nil]
end
theorem agL:∀{l hp:List (Nat×SB)} {i:Nat} {x:SB},Aq (Ed hp l) i=aj x->(i,x)∈l\/Aq hp i=aj x
 |[],_,_,_,h=>.inr h |(j,b)::l,hp,i,x,h=>by
  rcases agL (l:=l) h with h|h
  ·simp_all
  grind [Fb]
def K0(H:Mem)(w:World):Kx:=⟨w,fun _=>False,H⟩
theorem adz{c:Core}{a:Act}{H0:Mem}{w0:World}{sv:SV}{s:Sh}{u:Value}(st:St C (K0 H0 w0) H E w c a)(hf:finish c sv=aj s)(hd:Den H E sv u):∃H',Dx H0 w0 s u H' w:=by
 unfold finish at hf;split at hf
 ·rename_i hp hfz
  obtain ⟨H1,hH,hh,hw,_⟩:=MH hfz st.hp st.CP;cases hn:MK (Ky hp sv)<;>simp only[hn,ϰ,ϗ] at hf
  ·cases hf
  refine ⟨H1,hw.le,hw.on,hw.os,hw.tape,hw.output,hw.size,fun b hb=>hw.kept b hb id,fun b hb=>?_,fun b0=>?_⟩
  ·rcases hw.fresh b hb with h|h|h
   ·exact .inl h
   ·exact .inr h
   ·exact h.elim
  ·let ids:=Ky hp sv
   let E1:Env:=fun i=>if b0<=i then (ids[i - b0]?).bind E else aF
   have hk:Knows E E1 b0 ids:=fun k id hk=>by
    grind
   obtain ⟨a1,a2⟩:=agK (E1:=E1) hh b0 hf (hd.le hH fun _ _ e=>e) hk;have hid:∀i v,E1 i=aj v->∃k id,i=b0+k/\ids[k]?=aj id/\E id=aj v:=fun i v hv=>by
    grind
   have hat:∀i x,Aq (Ed [] (Dt s b0).2.1) i=aj x->∃k id,i=b0+k/\ids[k]?=aj id/\ay2 (K0 H0 w0) H1 E w hp id x:=fun i x hl=>by
    rcases agL hl with h|h
    ·exact a2.mem i x h
    ·simp[Aq] at h
   have hbk:∀{k id:Nat},ids[k]?=aj id->bk E1 (b0+k)=bk E id:=fun {k id} h=>by grind [bk]
   refine ⟨E1,fun i hi=>?_,fun i b hb=>?_,a1,⟨fun i x hl=>?_,fun i j x y b h1 h2 o1 o2=>?_⟩⟩
   ·cases hv:E1 i with
    |none=>simp_all |some v=>
     obtain ⟨k,id,rfl,h2,_⟩:=hid i v hv;have:k<(Ky hp sv).length:=(List.getElem?_eq_some_iff.1 h2).1;rw[a2.len];omega
   ·cases hv:E1 i with
    |none=>grind [bk] |some v=>
     obtain ⟨k,id,rfl,h2,h3⟩:=hid i v hv;rw[hbk h2] at hb;have hown:∃sb,Aq hp id=aj sb/\Bv E id sb=aj b:=by
      obtain ⟨sb,q1,q2⟩:=a2.cov id (List.mem_of_getElem? h2);simp_all
     obtain ⟨sb,h4,h5⟩:=hown;have:=((hh.ent _ _ h4).lt h5).2.2;rcases this with h|h
     ·exact h
     ·exact h.elim
   ·obtain ⟨k,id,rfl,h2,h3,⟨e,st',n,g,rfl⟩,_⟩:=hat i x hl
    obtain ⟨v,xs,e1,e2,e3,e4⟩:=h3;exact ⟨v,xs,by grind,e2,e3,e4⟩
   ·obtain ⟨k,id,rfl,p1,_,⟨_,_,_,_,rfl⟩,sb1,p3,p4⟩:=hat i x h1
    obtain ⟨k',id',rfl,q1,_,⟨_,_,_,_,rfl⟩,Yx,q3,q4⟩:=hat j y h2;have o1':bk E id=aj b:=by rw[<-hbk p1];exact o1
    have o2':bk E id'=aj b:=by rw[<-hbk q1];exact o2
    have:=hh.GH _ _ _ _ _ p3 q3 (p4 b o1') (q4 b o2');grind [adx]
 ·cases hf
end
inductive Fin where
 |ret (s:Sh)
 |stop (td:List It) (c:Core)
def fin:Out->Tree Fin
 | .done sv c=>match finish c sv with
  |some s=>.leaf (.ret s) |none=>.fail
 | .stop _ td c=>.leaf (.stop td c)
def BH(m:Nat)(Bl:List Sh)(L:Nat):Core:={tm:=Un Bl++dD (m - Bl.length) .any,hp:=[],nx:=0,lim:=L,tc:=[]}
section
variable{P:Program}{C:Ctx}{K:Kx}{H H' RG H0:Mem}{E E' RH E1:Env}{w w' w'' w0:World}
theorem AO.mono{gls:List (Nat×Sh)}{f:Nat}{F F':ϵ}(h:AO P gls f F')(hp:∀(H:Mem) (Bl:List Sh) (args:List Value) (φ:Sh->Prop),EN H Bl args->(F Bl).All φ->(F' Bl).All φ):AO P gls f F:=
 fun H w Bl args φ h1 h2 h3 h4=>h H w Bl args φ h1 h2 h3 (hp H Bl args φ h3 h4)
end
inductive Rn where
 |id (i:Nat)
 |nil
mutual
def Fz(hp:List (Nat×SB))(ρ:List (Nat×Rn)):SV->SV->Prop
 |_,.any=>True |x,.sym k m=>match x with
  | .int k' n=>k'=k/\n=m | .sym k' n=>k'=k/\n=m |_=>False
 |x,.test b=>match x with
  | .bool b'=>b'=b | .test b'=>b'=b |_=>False
 |x,.gs id'=>match x with
  | .gs id=>Aq ρ id'=aj (.id id) | .Bg=>Aq ρ id'=aj .nil |_=>False
 |x,.ptr id' off'=>match x with
  | .ptr id off=>Aq ρ id'=aj (.id id)/\off=off' |_=>False
 |x,.mp id'=>match x with
  | .mp id=>Aq ρ id'=aj (.id id) |_=>False
 |x,.fn f' l'=>match x with
  | .fn f l=>f=f'/\leL hp ρ l l' |_=>False
 |x,.agg l'=>match x with
  | .agg l=>leL hp ρ l l' |_=>False
 |x,.Az l'=>match x with
  | .Az l=>leL hp ρ l l' |_=>False
 |x,.DK t' y=>match x with
  | .DK t z=>t=t'/\Fz hp ρ z y |_=>False
 |x,.sh s=>Eu hp x=aj s\/(match x,s with| .Bg,.sl _ n _=>n=0|_,_=>False)
 |x,.Iu st' n' g' i' off'=>match x with
  | .Iu st n g i off=>st=st'/\n=n'/\g=g'/\i=i'/\off=off' |x=>Eu hp x=aj (.pt (g' i'))/\off'=0/\(g' i').length=st'/\i'<n'
 |x,.int k' n'=>match x with
  | .int k n=>k=k'/\n=n' | .sym k n=>k=k'/\n=n' |_=>False
 |x,.bool b'=>match x with
  | .bool b=>b=b' | .test b=>b=b' |_=>False
 | .Fj,.Fj=>True | .Bg,.Bg=>True | .Ht,.Ht=>True | .Eo,.Eo=>True | .Gy,.Gy=>True | .glob g,.glob g'=>g=g' | .str l,.str l'=>l=l' | .val v,.val v'=>v=v' |_,_=>False
def leL(hp:List (Nat×SB))(ρ:List (Nat×Rn)):List SV->List SV->Prop
 |[],[]=>True |x::l,y::l'=>Fz hp ρ x y/\leL hp ρ l l' |_,_=>False
end
def leM(hp:List (Nat×SB))(ρ:List (Nat×Rn)):List (SV×SV)->List (SV×SV)->Prop
 |[],[]=>True |(a,b)::l,(a',b')::l'=>Fz hp ρ a a'/\Fz hp ρ b b'/\leM hp ρ l l' |_,_=>False
def valOf:SV->Option Value
 | .int k n=>aj (.int k n) | .sym k n=>aj (.int k n) | .bool b=>aj (.bool b) | .test b=>aj (.bool b) |_=>aF
end Go.Sx
namespace Go.Pl
open Go Go.Sx
def Pv(n:Ep)(o:Option Value)(N:Ep->Option Value):Ep->Option Value:=fun j=>if j=n then o else N j
end Go.Pl
namespace Go.Sx
open Go.Pl (Pv)
def adB(M:Ep->Option Value):List (Ep×Bool×SV)->Option (Ep->Option Value)
 |[]=>aj M |(n,p,sv)::r=>match adB M r with
  |some N=>match p with
   |true=>(valOf sv).map fun v=>Pv n (aj v) N |false=>aj (Pv n aF N)
  |none=>aF
theorem aqW{H:Mem}{E:Env}{sv:SV}{v x:Value}(h:valOf sv=aj v)(hd:Den H E sv x):x=v:=by
 unfold valOf at h;split at h;all_goals first|cases h
 all_goals exact hd
theorem akl{H:Mem}{E:Env}{M:Ep->Option Value}:∀{us:List (Ep×Bool×SV)} {uv:List (Ep×Option Value)} {N:Ep->Option Value},adB M us=aj N->Yh H E us uv->UW M uv=N
 |[],[],N,h,_=>by cases h;rfl |[],_::_,_,_,h=>h.elim |_::_,[],_,_,h=>h.elim |(n,p,sv)::r,(m,o)::uv,N,h,⟨e,hd,hr⟩=>by
  subst e;simp only[adB] at h;split at h
  ·rename_i N' hN
   have ih:=akl hN hr;cases p with
   |true=>
    cases o with
    |none=>exact hd.elim |some x=>
     simp only at h;cases hv:valOf sv with
     |none=>simp_all |some v=>
      rw[hv] at h;cases h;rw[aqW hv hd.1];show (fun j=>if j=m then aj v else UW M uv j)=_;rw[ih];rfl
   |false=>
    cases o with
    |some x=>exact hd.elim |none=>
     cases h;show (fun j=>if j=m then aF else UW M uv j)=_;rw[ih];rfl
  ·cases h
theorem agM{vt:VT}{M:Ep->Option Value}(hM:ao0 vt M):∀{us:List (Ep×Bool×SV)} {N:Ep->Option Value},asH vt us->adB M us=aj N->ao0 vt N
 |[],N,_,h=>by cases h;exact hM |(n,p,sv)::r,N,hL,h=>by
  simp only[adB] at h;split at h
  ·rename_i N' hN
   have ih:=agM hM (fun u hu=>hL u (bV _ hu)) hN;cases p with
   |true=>
    simp only at h;cases hv:valOf sv with
    |none=>simp_all |some v=>
     rw[hv] at h;cases h;have ht:sv.agu vt=ay:=hL (n,ay,sv) dn rfl;intro k x hx;have hx:(if k=n then aj v else N' k)=aj x:=hx;split at hx
     ·cases hx
      cases sv<;>cases vt<;>simp[SV.agu] at ht<;>(unfold valOf at hv;cases hv)
      all_goals first|exact ⟨_,rfl⟩ |skip
      all_goals (rename_i kk _;cases kk<;>simp at ht;exact ⟨_,rfl⟩)
     ·exact ih k x hx
   |false=>
    cases h;intro k x hx;have hx:(if k=n then aF else N' k)=aj x:=hx;split at hx
    ·cases hx
    ·exact ih k x hx
  ·cases h
def leB(hp:List (Nat×SB))(ρ:List (Nat×Rn))(id':Nat):SB->Prop
 | .box cells' e'=>match Aq ρ id' with
  |some (.id id)=>match Aq hp id with
   |some (.box cells e)=>e=e'/\leL hp ρ cells cells' |_=>False
  |_=>False
 | .row cells' e' st' n'=>match Aq ρ id' with
  |some (.id id)=>match Aq hp id with
   |some (.row cells e st n)=>e=e'/\st=st'/\n=n'/\leL hp ρ cells cells' |_=>False
  |_=>False
 | .own e' st' n' g'=>match Aq ρ id' with
  |some (.id id)=>match YD hp id with
   |some (e,st,n,g)=>e=e'/\st=st'/\n=n'/\∀i,i<n->g i=g' i |_=>False
  |some .nil=>n'=0 |none=>False
 | .map es'=>match Aq ρ id' with
  |some (.id id)=>match Aq hp id with
   |some (.map es)=>leM hp ρ es es' |_=>False
  |_=>False
 | .fz _ _ _=>False | .UC _=>False | .Ik _ _ _ _ _=>False | .fm _ _ _ _ _=>False | .pm vt' M' us'=>match Aq ρ id' with
  |some (.id id)=>match Aq hp id with
   |some (.pm vt M us)=>us'=[]/\vt=vt'/\adB M us=aj M' |_=>False
  |_=>False
 | .buf e' l'=>match Aq ρ id' with
  |some (.id id)=>match Aq hp id with
   |some (.buf e l)=>e=e'/\l=l' |_=>False
  |_=>False
def leH(hp:List (Nat×SB))(ρ:List (Nat×Rn)):List (Nat×SB)->Prop
 |[]=>True |(id',sb)::l=>leB hp ρ id' sb/\leH hp ρ l
def N9:List (Nat×Rn)->List Nat
 |[]=>[] |(_,.id i)::l=>i::N9 l |_::l=>N9 l
def ao6(nx:Nat):List (Nat×Rn)->Bool
 |[]=>ay |(j,_)::l=>fC j nx&&ao6 nx l
def atc(nx:Nat)(ρ:List (Nat×Rn)):Bool:=MK (N9 ρ)&&ao6 nx ρ
def leC(ρ:List (Nat×Rn))(c c':Core):Prop:=leL c.hp ρ c.tm c'.tm/\leH c.hp ρ c'.hp/\atc c'.nx ρ=ay
section
variable{P:Program}{C:Ctx}{K:Kx}{H H' RG H0:Mem}{E E' RH E1:Env}{w w' w'' w0:World}{hp:List (Nat×SB)}{ρ:List (Nat×Rn)}
def Gv(ρ:List (Nat×Rn))(E:Env):Env:=fun i'=>match Aq ρ i' with
 |some (.id i)=>E i |some .nil=>aj (.slice aF 0 0) |none=>aF
theorem Ee{i i':Nat}(h:Aq ρ i'=aj (.id i)):Gv ρ E i'=E i:=by simp[Gv,h]
theorem XG{i':Nat}(h:Aq ρ i'=aj .nil):Gv ρ E i'=aj (.slice aF 0 0):=by simp[Gv,h]
mutual
theorem U4(hh:Bc K H E w hp):∀{x:SV} (y:SV) {u:Value},Fz hp ρ x y->Den H E x u->Den H (Gv ρ E) y u
 |x,.any,u,_,_=>trivial |x,.sym k m,u,h,hd=>by
  cases x<;>simp only[Fz] at h
  all_goals first|exact h.elim|(obtain ⟨rfl,rfl⟩:=h;exact hd)
 |x,.test b,u,h,hd=>by
  cases x<;>simp only[Fz] at h
  all_goals first|exact h.elim|(subst h;exact hd)
 |x,.gs id',u,h,hd=>by
  cases x<;>simp only[Fz] at h
  case gs id=>exact ⟨by rw[Ee h];exact hd.1,hd.2⟩
  case Bg=>obtain rfl:u=_:=hd;exact ⟨XG h,_,_,_,rfl⟩
 |x,.ptr id' off',u,h,hd=>by
  cases x<;>simp only[Fz] at h
  case ptr id off=>obtain ⟨h,rfl⟩:=h;obtain ⟨b,h1,h2⟩:=hd;exact ⟨b,by grind [Ee],h2⟩
 |x,.mp id',u,h,hd=>by
  cases x<;>simp only[Fz] at h
  case mp id=>obtain ⟨b,h1,h2⟩:=hd;exact ⟨b,by grind [Ee],h2⟩
 |x,.fn f' l',u,h,hd=>by
  cases x<;>simp only[Fz] at h
  case fn f l=>obtain ⟨rfl,h⟩:=h;obtain ⟨vs,rfl,hl⟩:=hd;exact ⟨vs,rfl,JZ hh l' h hl⟩
 |x,.agg l',u,h,hd=>by
  cases x<;>simp only[Fz] at h
  case agg l=>obtain ⟨vs,rfl,hl⟩:=hd;exact ⟨vs,rfl,JZ hh l' h hl⟩
 |x,.Az l',u,h,hd=>by
  cases x<;>simp only[Fz] at h
  case Az l=>obtain ⟨vs,rfl,hl⟩:=hd;exact ⟨vs,rfl,JZ hh l' h hl⟩
 |x,.DK t' y,u,h,hd=>by
  cases x<;>simp only[Fz] at h
  case DK t z=>obtain ⟨rfl,h⟩:=h;obtain ⟨v,rfl,hl⟩:=hd;exact ⟨v,rfl,U4 hh y h hl⟩
 |x,.sh s,u,h,hd=>by
  have key:Eu hp x=aj s\/(x=.Bg/\∃st g,s=.sl st 0 g):=by
   unfold Fz at h;grind
  rcases key with h|⟨rfl,st,g,rfl⟩
  ·exact OT hh h hd
  ·obtain rfl:u=_:=hd
   exact .sl0 _ _ _ _ (Nat.zero_le _)
 |x,.int k n,u,h,hd=>by
  cases x<;>simp only[Fz] at h
  case int k' n'=>obtain ⟨rfl,rfl⟩:=h;exact hd
  case sym k' n'=>obtain ⟨rfl,rfl⟩:=h;exact hd
 |x,.bool b,u,h,hd=>by
  cases x<;>simp only[Fz] at h
  case bool b'=>subst h;exact hd
  case test b'=>subst h;exact hd
 |x,.Fj,u,h,hd=>by
  cases x<;>simp only[Fz] at h
  assumption
 |x,.Bg,u,h,hd=>by
  cases x<;>simp only[Fz] at h
  assumption
 |x,.Ht,u,h,hd=>by
  cases x<;>simp only[Fz] at h
  assumption
 |x,.Eo,u,h,hd=>by
  cases x<;>simp only[Fz] at h
  assumption
 |x,.Gy,u,h,hd=>by
  cases x<;>simp only[Fz] at h
  assumption
 |x,.glob g,u,h,hd=>by
  cases x<;>simp only[Fz] at h
  case glob g'=>subst h;exact hd
 |x,.str l,u,h,hd=>by
  cases x<;>simp only[Fz] at h
  case str l'=>subst h;exact hd
 |x,.val v,u,h,hd=>by
  cases x<;>simp only[Fz] at h
  case val v'=>subst h;exact hd
 |x,.Iu st n g i off,u,h,hd=>by
  have key:(∃st' n' g' i' off',x=.Iu st' n' g' i' off'/\st'=st/\n'=n/\g'=g/\i'=i/\off'=off)\/(Eu hp x=aj (.pt (g i))/\off=0/\(g i).length=st/\i<n):=by
   (cases x<;>simp only[Fz] at h)<;>grind
  rcases key with ⟨_,_,_,_,_,rfl,rfl,rfl,rfl,rfl,rfl⟩ |⟨h9,rfl,h2,h3⟩
  ·exact hd
  ·have hr:=OT hh h9 hd
   cases hr with
   |pt _ b off2 c a1 a2 a3=>exact ⟨b,off2,c,rfl,h3,h2,fun j hj=>⟨a1 j (by omega),a2 j (by omega)⟩,a3⟩
 |x,.gp id st i off,u,h,hd=>by
  simp_all [Fz]
 |x,.ev id,u,h,hd=>by
  simp_all [Fz]
 |x,.vw id n,u,h,hd=>by
  simp_all [Fz]
theorem JZ(hh:Bc K H E w hp):∀{l:List SV} (l':List SV) {vs:List Value},leL hp ρ l l'->AP H E l vs->AP H (Gv ρ E) l' vs
 |[],[],[],_,_=>trivial |_::_,y::l',_::_,⟨h1,h2⟩,⟨d1,d2⟩=>⟨U4 hh y h1 d1,JZ hh l' h2 d2⟩ |[],_::_,_,h,_=>h.elim |_::_,[],_,h,_=>h.elim |_::_,_::_,[],_,hd=>hd.elim |[],[],_::_,_,hd=>hd.elim
end
theorem akm(hh:Bc K H E w hp):∀{l l':List (SV×SV)} {ms:List MapEntry},leM hp ρ l l'->Qn H E l ms->Qn H (Gv ρ E) l' ms
 |[],[],[],_,_=>trivial |(_,_)::_,(a,b)::_,_::_,⟨h1,h2,h3⟩,⟨d1,d2,d3⟩=>⟨U4 hh a h1 d1,U4 hh b h2 d2,akm hh h3 d3⟩ |[],_::_,_,h,_=>h.elim |(_,_)::_,[],_,h,_=>h.elim |(_,_)::_,(_,_)::_,[],_,hd=>hd.elim |[],[],_::_,_,hd=>hd.elim
theorem U5{st n:Nat}{g g':ϝ}{xs:List Value}(h:CQ H st n g xs)(hg:∀i,i<n->g i=g' i):CQ H st n g' xs:=
 ⟨h.1,fun i hi=>by rw[<-hg i hi];exact h.2.1 i hi,h.2.2.1,fun i j s v hi e1 e2=>h.2.2.2 i j s v hi (by simp_all) e2⟩
theorem YF(hh:Bc K H E w hp){id':Nat}{sb:SB}(h:leB hp ρ id' sb):Ho K H (Gv ρ E) w id' sb/\∀b,Bv (Gv ρ E) id' sb=aj b->∃id s0,Aq ρ id'=aj (.id id)/\Aq hp id=aj s0/\Bv E id s0=aj b:=by
 cases sb with
 |box cells' e'=>
  simp only[leB] at h;split at h
  ·rename_i id hr
   split at h
   ·rename_i cells e hl
    obtain ⟨rfl,h⟩:=h;obtain ⟨b,cs,h1,h2,h3,h4⟩:=hh.ent _ _ hl;refine ⟨⟨b,cs,by grind [Ee],h2,JZ hh _ h h3,h4⟩,fun b' hb=>⟨id,_,hr,hl,?_⟩⟩;simp_all [Bv,Ee]
   grind
  grind
 |row cells' e' st' n'=>
  simp only[leB] at h;split at h
  ·rename_i id hr
   split at h
   ·rename_i cells e st n hl
    obtain ⟨rfl,rfl,rfl,h⟩:=h;obtain ⟨v,xs,h1,h2,h3,h4⟩:=hh.ent _ _ hl;refine ⟨⟨v,xs,by grind [Ee],h2,JZ hh _ h h3,h4⟩,fun b' hb=>⟨id,_,hr,hl,?_⟩⟩;simp_all [Bv,Ee]
   grind
  grind
 |own e' st' n' g'=>
  simp only[leB] at h;split at h
  ·rename_i id hr
   split at h
   ·rename_i e st n g hl
    obtain ⟨rfl,rfl,rfl,h⟩:=h;obtain ⟨⟨v,xs,h1,h2,h3,h4⟩,sb0,h5,h6⟩:=ady hh hl;refine ⟨⟨v,xs,by grind [Ee],h2,U5 h3 h,h4⟩,fun b' hb=>⟨id,_,hr,h5,h6 b' ?_⟩⟩;simp only[Bv,Ee hr] at hb;exact hb
   grind
  ·rename_i hr
   subst h;refine ⟨⟨_,[],XG hr,RD _ _ _,MI _ _,fun b hb=>by simp[Ba] at hb⟩,fun b hb=>?_⟩;grind [Bv,XG,Ba]
  grind
 |map es'=>
  simp only[leB] at h;split at h
  ·rename_i id hr
   split at h
   ·rename_i es hl
    obtain ⟨b,ms,clk,h1,h2,h3,h4⟩:=hh.ent _ _ hl;refine ⟨⟨b,ms,clk,by grind [Ee],h2,akm hh h h3,h4⟩,fun b' hb=>⟨id,_,hr,hl,?_⟩⟩;simp_all [Bv,Ee]
   grind
  grind
 |fz st n g=>exact h.elim |UC l=>exact h.elim |Ik e st n g m=>exact h.elim |fm k M fs us t=>exact h.elim |pm vt' M' us'=>
  simp only[leB] at h;split at h
  ·rename_i id hr
   split at h
   ·rename_i vt M us hl
    obtain ⟨rfl,rfl,h1⟩:=h;obtain ⟨b,ms,clk,uv,he,q1,d2,hT,hL,hok,h4⟩:=hh.ent _ _ hl;refine ⟨⟨b,ms,clk,[],by grind [Ee],q1,ϖ,agM hT hL h1,(fun _ h=>by cases h),?_,h4⟩,fun b' hb=>⟨id,_,hr,hl,?_⟩⟩
    ·have:=akl h1 d2
     rw[this] at hok;exact hok
    simp_all [Bv,Ee]
   grind
  grind
 |buf e l=>
  simp only[leB] at h;split at h
  ·rename_i id hr
   split at h
   ·rename_i e1 l1 hl
    obtain ⟨rfl,rfl⟩:=h;obtain ⟨v,he,h1,h3⟩:=hh.ent _ _ hl;refine ⟨⟨v,by grind [Ee],h1,h3⟩,fun b hb=>⟨id,_,hr,hl,?_⟩⟩;simp_all [Bv,Ee]
   grind
  grind
theorem YG:∀{l:List (Nat×SB)} {i:Nat} {sb:SB},leH hp ρ l->Aq l i=aj sb->leB hp ρ i sb
 |[],_,_,_,h=>by simp[Aq] at h |(j,x)::l,i,sb,⟨h1,h2⟩,h=>by
  simp only[Aq] at h;cases hj:(j==i)<;>simp only[hj,ϰ,ϗ] at h
  ·exact YG h2 h
  simp_all
theorem akn{nx:Nat}:∀{ρ:List (Nat×Rn)} {i:Nat} {r:Rn},ao6 nx ρ=ay->Aq ρ i=aj r->i<nx
 |[],_,_,_,h=>by simp[Aq] at h |(j,x)::l,i,r,hu,h=>by
  simp only[ao6,aB] at hu;simp only[Aq] at h;cases hj:(j==i)<;>simp only[hj,ϰ,ϗ] at h
  ·exact akn hu.2 h
  simp_all
theorem XH:∀{ρ:List (Nat×Rn)} {i k:Nat},Aq ρ i=aj (.id k)->k∈N9 ρ
 |[],_,_,h=>by simp[Aq] at h |(j,x)::l,i,k,h=>by
  simp only[Aq] at h;cases hj:(j==i)<;>simp only[hj,ϰ,ϗ] at h
  ·have:=XH h
   cases x<;>simp[N9,this]
  simp_all [N9]
theorem aij:∀{ρ:List (Nat×Rn)} {i j k:Nat},MK (N9 ρ)=ay->Aq ρ i=aj (.id k)->Aq ρ j=aj (.id k)->i=j
 |[],_,_,_,_,h,_=>by simp[Aq] at h |(m,x)::l,i,j,k,hn,h1,h2=>by
  simp only[Aq] at h1 h2;have tail:MK (N9 l)=ay:=by
   cases x with
   |id a=>simp_all [N9,MK,aB] |nil=>exact hn
  have head:∀a,x=.id a->a∈N9 l->False:=fun a hx ha=>by
   simp_all [N9,MK]
  cases hi:(m==i)<;>cases hj:(m==j)<;>simp only[hi,hj,ϰ,ϗ] at h1 h2
  ·exact aij tail h1 h2
  ·grind [XH]
  ·grind [XH]
  simp_all
theorem St.weak{c c':Core}{a:Act}(st:St C K H E w c a)(h:leC ρ c c'):St C K H (Gv ρ E) w c' a:=by
 obtain ⟨h1,h2,h3⟩:=h;simp only[atc,aB] at h3;refine ⟨JZ st.hp _ h1 st.den,⟨fun id sb hl=>(YF st.hp (YG h2 hl)).1,fun id id' sb sb' b l1 l2 o1 o2=>?_⟩,st.CP,fun i hi _=>?_,st.gl,st.defers⟩
 ·obtain ⟨i1,s1,a1,a2,a3⟩:=(YF st.hp (YG h2 l1)).2 b o1
  obtain ⟨i2,s2,b1,b2,b3⟩:=(YF st.hp (YG h2 l2)).2 b o2;have:=st.hp.GH _ _ _ _ _ a2 b2 a3 b3;grind [aij]
 ·unfold Gv
  cases hr:Aq ρ i with
  |none=>rfl |some r=>have:=akn h3.2 hr;omega
end
def ate:SV->Value->Bool
 | .int k n,.int k' m=>k==k'&&n==m | .bool b,.bool c=>b==c | .str [],.string s=>s.data.toList.isEmpty | .Fj,.pointer aF=>ay | .Bg,.slice aF 0 0=>ay | .Ht,.nilFunc=>ay | .Eo,.nilIface=>ay | .Gy,.map aF=>ay |_,_=>aA
def aai:List SV->List Value->Bool
 |[],[]=>ay |x::l,v::vs=>ate x v&&aai l vs |_,_=>aA
def fieldsB(P:Program):List Field->List (Nat×Nat×Bool)->Bool
 |[],[]=>ay |f::r,p::q=>f.offset==p.1&&(match P.info? f.type with|some inf=>inf.size==p.2.1|none=>aA) &&
   (match P.underlying f.type with|some (.struct _)=>p.2.2|some (.array _ _)=>p.2.2|some _=>!p.2.2|none=>aA)&&fieldsB P r q
 |_,_=>aA
def anl(P:Program)(t:Nat):Ty->Bool
 | .int k=>match P.underlying t with|some (.int k')=>k==k' |_=>aA
 | .bool=>match P.underlying t with|some .bool=>ay|_=>aA
 | .str=>match P.underlying t with|some .string=>ay|_=>aA
 | .ptr e=>match P.underlying t with|some (.pointer e')=>e==e' |_=>aA
 | .fn=>match P.underlying t with|some (.func _ _ _)=>ay|_=>aA
 | .iface=>match P.underlying t with|some (.interface _)=>ay|_=>aA
 | .map k e=>match P.underlying t with|some (.map k' e')=>k==k'&&e==e' |_=>aA
 | .slice e=>match P.underlying t with|some (.slice e')=>e==e' |_=>aA
 | .struct fs=>match P.underlying t with|some (.struct fields)=>fieldsB P fields.toList fs|_=>aA
 | .arr n e=>match P.underlying t with|some (.array n' e')=>n==n'&&e==e' |_=>aA
 | .other=>aA
def anm(agg:Bool)(size:Nat):Value->Bool
 | .agg _=>agg |v=>!agg&&size==1&&v.oneCell'
def tyB(P:Program)(t:Nat)(i:LJ):Bool:=
 anl P t i.ty&&match P.info? t with
  |some inf=>inf.size==i.size&&inf.bytes==i.bytes&&match inf.zero with
   |some z=>aai i.zero z.cells.toList&&z.cells.size==i.size&&anm i.ty.isAgg i.size z |none=>aA
  |none=>aA
def ay3(P:Program)(t:BT LJ):Bool:=t.allB (tyB P)
theorem atf{x:SV}{v:Value}(h:ate x v=ay){H:Mem}{E:Env}:Den H E x v:=by
 unfold ate at h;split at h
 ·simp only[aB,ϡ] at h
  obtain ⟨rfl,rfl⟩:=h;rfl
 ·simp only[ϡ] at h
  subst h;rfl
 ·rename_i s
  have:s.data.toList=[]:=by simpa using h
  obtain ⟨⟨l⟩⟩:=s;simp at this;subst this;rfl
 all_goals first|rfl|cases h
theorem agN{H:Mem}{E:Env}:∀{l:List SV} {vs:List Value},aai l vs=ay->AP H E l vs
 |[],[],_=>trivial |x::l,v::vs,h=>by
  simp only[aai,aB] at h;exact ⟨atf h.1,agN h.2⟩
 |[],_::_,h=>by simp[aai] at h |_::_,[],h=>by simp[aai] at h
theorem abA{P:Program}:∀{fields:List Field} {fs:List (Nat×Nat×Bool)},fieldsB P fields fs=ay->fields.length=fs.length/\∀(j:Nat) (f:Field),fields[j]?=aj f->∃inf:TypeInfo,P.info? f.type=aj inf/\
  fs[j]?=aj (f.offset,inf.size,match P.underlying f.type with|some (.struct _) |some (.array _ _)=>ay|_=>aA)/\(P.underlying f.type).isSome=ay
 |[],[],_=>⟨rfl,fun _ _ h=>by simp at h⟩ |f::r,p::q,h=>by
  simp only[fieldsB,aB,ϡ] at h;obtain ⟨⟨⟨h1,h2⟩,h3⟩,h4⟩:=h;obtain ⟨h5,h6⟩:=abA h4;grind
 |[],_::_,h=>by simp[fieldsB] at h |_::_,[],h=>by simp[fieldsB] at h
theorem aqX{P:Program}{t:Nat}{ty:Ty}(h:anl P t ty=ay):ah0 P t ty:=by
 unfold anl at h;cases ty;case other=>cases h
 case arr=>simp only at h;split at h;rename_i hu;simp only[aB,ϡ] at h;obtain ⟨rfl,rfl⟩:=h;exact hu;cases h
 case int=>simp only at h;split at h;rename_i hu;simp only[ϡ] at h;subst h;exact hu;cases h
 case bool=>simp only at h;split at h;rename_i hu;exact hu;cases h
 case str=>simp only at h;split at h;rename_i hu;exact hu;cases h
 case ptr=>simp only at h;split at h;rename_i hu;simp only[ϡ] at h;subst h;exact hu;cases h
 case fn=>simp only at h;split at h;rename_i hu;exact ⟨_,_,_,hu⟩;cases h
 case iface=>simp only at h;split at h;rename_i hu;exact ⟨_,hu⟩;cases h
 case map=>simp only at h;split at h;rename_i hu;simp only[aB,ϡ] at h;obtain ⟨rfl,rfl⟩:=h;exact hu;cases h
 case slice=>simp only at h;split at h;rename_i hu;simp only[ϡ] at h;subst h;exact hu;cases h
 case struct=>
  simp only at h;split at h
  ·rename_i fields hu
   have:=abA h;exact ⟨fields,hu,by simp_all,fun j f hj=>this.2 j f (by grind)⟩
  ·cases h
theorem axh{P:Program}{t:Nat}{i:LJ}(h:tyB P t i=ay):Qo P t i:=by
 unfold tyB at h;simp only[aB] at h;obtain ⟨h1,h2⟩:=h;refine ⟨aqX h1,?_⟩;split at h2
 ·rename_i inf hi
  simp only[aB,ϡ] at h2;obtain ⟨⟨a1,a2⟩,h3⟩:=h2;split at h3
  ·rename_i z hz
   simp only[aB,ϡ] at h3;obtain ⟨⟨b1,b2⟩,b3⟩:=h3;refine ⟨inf,z,hi,a1,a2,hz,agN b1,b2,fun ha=>?_,fun ha=>?_⟩
   ·unfold anm at b3
    grind
   ·unfold anm at b3
    grind
  ·cases h3
 ·cases h2
theorem YH{P:Program}{l:BT LJ}(h:ay3 P l=ay)(t:Nat)(i:LJ)(hl:l.get t=aj i):Qo P t i:=axh ((zL h).get hl)
def aik(P:Program)(l:BT Func):Prop:=l.All fun g fn=>P.funcs[g]?=aj fn
theorem Px{P:Program}{l:BT Func}(h:aik P l)(g:Nat)(fn:Func)(hl:l.get g=aj fn):P.funcs[g]?=aj fn:=BT.All.get h hl
def ako(l:BT Func):Bool:=l.allB fun _ fn=>fn.body.isSome && !(fn.name == "runtime.NumGoroutine")
theorem FY{P:Program}{l:BT Func}(h:aik P l)(he:ako l=ay)(g:Nat)(hl:(l.get g).isSome=ay):∃fn,P.funcs[g]?=aj fn/\fn.body.isSome=ay/\fn.name≠ "runtime.NumGoroutine" :=by
 obtain ⟨fn,hf⟩:=dO.1 hl;have h1:=(zL he).get hf;grind [Px]
end Go.Sx
