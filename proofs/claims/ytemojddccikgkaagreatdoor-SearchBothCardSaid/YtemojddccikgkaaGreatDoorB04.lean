/- Own work. -/
import Derived.Test.YtemojddccikgkaaGreatDoorB03
import Derived.KernelRfl
open Int (ofNat)
open Array renaming getElem?_toList->eG,replicate->bo
open Bool renaming true->ah,false->ag,and_eq_true->ak
open Go.Frame renaming finish_at->eF,enter->cw
open Go.Oper renaming upon->kI
open Go.Region renaming free->fL,noSelect->jk,ready->du
open Go.Result renaming andThen_ok->cK
open Go.Sem renaming run_bind->ct,run_pure->lW
open Go.Sx.BT renaming MW->mr
open Go.Sx.oM renaming all->bi
open Go.Sx.sD renaming G5->md
open Go.Sx.Tree renaming vW->bz
open Go.stepG renaming apply->bZ
open List renaming mem_cons_of_mem->aZ,mem_cons_self->bj,countP_cons->jA,range->aD,mem_range->bI,mem_append->aU,replicate->bf
open Nat renaming add_le_add_left->iR,mul_le_mul_left->dA,blt->bO,ble->cq
open Option renaming some->ae,none->ao,map_eq_some_iff->aP,isSome_iff_exists->bG
open Prod.mk renaming injEq->dK
namespace Go.Sx
section
variable{P:Program}{C:Ctx}{K:Kx}{H H' G9:Mem}{E E' He:Env}{w w' w'':World}
theorem Xb{α:Type}{φ:α->Prop}:∀{bs:List Bool} {t:Tree α},(needs t bs).All φ->(∀b∈bs,b=ah)/\t.All φ
 |[],_,h=>⟨fun _ h=>(by cases h),h⟩ |b::r,t,h=>by
  obtain ⟨h1,h2⟩:=h;obtain ⟨h3,h4⟩:=Xb h2;simp_all
theorem abV{r:Option (List Bool×SV)}{x:List Bool×SV}(h:abE r=ae x):r=ae x:=by
 unfold abE at h;grind
theorem KZ:∀{t:Tree (SV×Core)} {bs bs':List Bool} {v:SV},sH t bs=ae (bs',v)->∀b∈bs,b∈bs'
 | .leaf _,_,_,_,h=>by simp[sH] at h;obtain ⟨rfl,_⟩:=h;exact fun _ h=>h | .need b t,bs,bs',v,h=>fun x hx=>KZ (t:=t) h x (aZ _ hx) | .node _ _ _,_,_,_,h=>by simp[sH] at h | .both _ _,_,_,_,h=>by simp[sH] at h | .must _ _,_,_,_,h=>by simp[sH] at h | .fail,_,_,_,h=>by simp[sH] at h
theorem Fq:∀{t:Tree (SV×Core)} {bs bs':List Bool} {v:SV},sH t bs=ae (bs',v)->(∀b∈bs',b=ah)->t.All fun p=>p.1=v
 | .leaf _,_,_,_,h,_=>by simp[sH] at h;exact h.2 | .need b t,bs,bs',v,h,hb=>⟨hb b (KZ (t:=t) h b (bj ..)),Fq (t:=t) h hb⟩ | .node _ _ _,_,_,_,h,_=>by simp[sH] at h | .both _ _,_,_,_,h,_=>by simp[sH] at h | .must _ _,_,_,_,h,_=>by simp[sH] at h | .fail,_,_,_,h,_=>by simp[sH] at h
theorem Xc{α:Type}{φ:α->Prop}{f:Nat->Tree α}:∀{rs:List Nat},(allOf f rs).All φ->∀i∈rs,(f i).All φ
 |[],h,_,_=>h.elim |[i],h,j,hj=>by simp at hj;subst hj;exact h |i::k::r,h,j,hj=>by
  obtain ⟨h1,h2⟩:=h;cases hj with
  |head=>exact h1 |tail _ hj=>exact Xc h2 j hj
theorem Jl{oK:Array Oper}{lock:List (Nat×SB)}{listed:Array Bool}{yY:List SV}{c:Core}{q:Quiet}:∀{rs:List Nat},Qb C oK lock listed yY c rs=q->q≠.no->∃i∈rs,Na C oK lock listed yY c i=q
 |[],h,hn=>by simp_all [Qb] |i::r,h,hn=>by
  unfold Qb at h;split at h
  ·obtain ⟨j,h1,h2⟩:=Jl h hn
   grind
  simp_all
theorem Xd{p q:Nat->Bool}{i:Nat}:∀{l:List Nat},(∀x,q x=ah->p x=ah)->i∈l->p i=ah->q i=ag->l.countP q<l.countP p
 |[],_,h,_,_=>by cases h |x::l,hpq,h,h1,h2=>by
  have hle:l.countP q<=l.countP p:=List.countP_mono_left fun x _ h=>hpq x h
  rw[jA,jA];cases h with
  |head=>grind |tail _ h=>
   have:=Xd hpq h h1 h2;grind
def cnt(ops:Array Oper)(listed:Array Bool):Nat:=(aD ops.size).countP fun j=>!listed.getD j ah
theorem alY{ops:Array Oper}{listed:Array Bool}{i:Nat}(hi:i<ops.size)(hu:listed.getD i ah=ag):cnt ops (listed.setIfInBounds i ah)<cnt ops listed:=by
 have hs:i<listed.size:=by
  grind
 refine Xd (i:=i) (fun x hx=>?_) (bI.2 hi) (by rw[hu];rfl) (by simp[hs]);(by_cases hxi:i=x)<;>simp_all
theorem Tc{ZE:List Nat}:∀{hp:List (Nat×SB)} {id:Nat} {sb:SB},mQ (Ey hp ZE) id=ae sb->ZE.contains id=ag
 |[],_,_,h=>by simp[Ey,mQ] at h |(j,x)::l,id,sb,h=>by
  unfold Ey at h;cases hu:ZE.contains j<;>simp only[hu,cond_true,cond_false] at h
  ·simp only[mQ] at h
   cases hj:(j==id)<;>simp only[hj,cond_true,cond_false] at h
   ·exact Tc h
   simp_all
  ·exact Tc h
theorem OY{ZE:List Nat}:∀{hp:List (Nat×SB)} {id:Nat} {sb:SB},mQ (Ey hp ZE) id=ae sb->mQ hp id=ae sb
 |[],_,_,h=>h |(j,x)::l,id,sb,h=>by
  have hn:=Tc h;unfold Ey at h;cases hu:ZE.contains j<;>simp only[hu,cond_true,cond_false] at h
  ·simp only[mQ] at h ⊢
   cases hj:(j==id)<;>simp only[hj,cond_true,cond_false] at h ⊢
   ·exact OY h
   ·exact h
  ·have h:=OY h
   grind [mQ]
structure Rg(C:Ctx)(K:Kx)(oK:Array Oper)(base Bq:Nat)(lock:List (Nat×SB))(H0:Mem)(E0:Env)(w0:World)(c0:Core)(H:Mem)(E:Env)(w:World)(c:Core)(a:Act)(listed:Array Bool)(yY:List SV):Prop where
 st:St C K H E w c a
 nx:c.nx=0
 lim:c.lim=0
 free:∀j,j<oK.size->listed.getD j ah=ag->∀id,base+Bq*j<=id->id<base+Bq*(j+1)->E id=ao
 aiq:ni H0 E0 yY a.tmps.toList
 ch:Ch K H0 E0 w0 c0.hp c0.tc H E w c.hp c.tc (fun i=>base<=i/\i<base+Bq*oK.size)
 lk:∀id sb b,mQ lock id=ae sb->nU E0 id sb=ae b->H b≠ao\/∃sb',mQ c.hp id=ae sb'/\nU E id sb'=ae b
 agr:OH H0 E0 lock w0 w
 on:H0.on w
def Still(H0:Mem)(E0:Env)(lock:List (Nat×SB))(w0:World)(w':World):Prop:=OH H0 E0 lock w0 w'/\H0.on w'
variable{oK:Array Oper}{base Bq:Nat}{lock:List (Nat×SB)}{H0:Mem}{E0:Env}{w0:World}{c0:Core}{c:Core}{a:Act}{listed:Array Bool}{yY:List SV}
theorem abW(hC:oC P C)(hH0:nI K H0 E0 w0 lock)(hg0:qE C.gls H0)(r:Rg C K oK base Bq lock H0 E0 w0 c0 H E w c a listed yY){i j:Nat}{bs:List Bool}{v v0:SV}
  (h:Na C oK lock listed yY c i=.take j bs v v0) (hb:∀b∈bs,b=ah) :
  j=i/\∃o u,oK[i]?=ae o/\fL .any oK listed i=ah/\YieldsIf P oK (Still H0 E0 lock w0) o u a/\Den H E v u/\Den H0 E0 v0 u:=by
 unfold Na at h;have hop:opAt oK.toList i=oK[i]?:=by simp[opAt]
 rw[hop] at h;simp only[aai] at h;split at h
 ·cases h
 ·rename_i o hi
  have hs:=wZ (ops:=oK) r.st.den o;split at h
  ·cases h
  ·rename_i hw
   rw[hw] at hs;cases hf:fL .any oK listed i<;>simp only[hf,cond_true,cond_false] at h
   ·cases h
   cases h;exact ⟨rfl,o,undef,hi,rfl,.inr ⟨hs,rfl⟩,abU,abU⟩
  ·rename_i hw
   rw[hw] at hs;cases hq:(qW o.op&&fL .any oK listed i)<;>simp only[hq,cond_true,cond_false] at h
   ·cases h
   simp only[ak] at hq;split at h
   ·rename_i bs' v' hl
    cases h;have hall:=Fq (abV hl) hb;obtain ⟨p,u,h1,h2,h3,h4⟩:=adA (c:={c with tm:=yY,hp:=lock}) (w:=w0) hC r.aiq hH0 hg0 hq.1 hall
    subst h1;exact ⟨rfl,o,u,hi,hq.2,.inl ⟨hs,fun w' hw'=>h4 w' hw'.1 hw'.2⟩,h3.le r.ch.x9 r.ch.BR,h3⟩
   ·cases hp:Ez c.tm o.op<;>simp only[hp,cond_true,cond_false] at h
    ·cases h
    split at h
    ·rename_i bs' v' hl
     cases h;have hall:=Fq hl hb;obtain ⟨p,u,h1,h2,h3,h4⟩:=agu hC r.st.den r.st.hp r.st.gl hp hall;subst h1;exact ⟨rfl,o,u,hi,hq.2,.inl ⟨hs,fun w' _=>h4 w'⟩,h3,trivial⟩
    ·cases h
  ·cases h
theorem adR(hC:oC P C)(r:Rg C K oK base Bq lock H0 E0 w0 c0 H E w c a listed yY){i d:Nat}{t:Bool}(h:Na C oK lock listed yY c i=.ask d t):c.tm.getD d .any=.test t:=by
 unfold Na at h;have hop:opAt oK.toList i=oK[i]?:=by simp[opAt]
 rw[hop] at h;simp only[aai] at h;split at h
 ·cases h
 ·rename_i o hi
  have hs:=wZ (ops:=oK) r.st.den o;grind
theorem Rg.take(r:Rg C K oK base Bq lock H0 E0 w0 c0 H E w c a listed yY){i:Nat}{d:Option Nat}{u:Value}{v v0:SV}(h1:Den H E v u)(h0:Den H0 E0 v0 u):
  Rg C K oK base Bq lock H0 E0 w0 c0 H E w (c.put d v) (a.put d u) (listed.setIfInBounds i ah) (BX yY d v0):=by
 refine ⟨r.st.put d h1,r.nx,r.lim,fun j hj hu=>r.free j hj ?_,?_,r.ch,r.lk,r.agr,r.on⟩
 ·(by_cases hij:i=j)<;>simp_all
 ·have:=zY (c:={c with tm:=yY}) (a:=a) r.aiq d h0
  exact this
theorem Rg.know(r:Rg C K oK base Bq lock H0 E0 w0 c0 H E w c a listed yY){d:Nat}{b:Bool}(hd:c.tm.getD d .any=.test b):
  Rg C K oK base Bq lock H0 E0 w0 c0 H E w (c.put (ae d) (.bool b)) a listed (yY.set d (.bool b)):=by
 refine ⟨r.st.know hd,r.nx,r.lim,r.free,?_,r.ch,r.lk,r.agr,r.on⟩;obtain ⟨v,e1,e2⟩:=Nj r.st.den hd (by simp);have e2:v=.bool b:=e2;subst e2;have h2:=r.aiq.set d (s:=.bool b) (v:=.bool b) rfl;have h3:a.tmps.toList.set d (.bool b)=a.tmps.toList:=by
  rw[<-eG] at e1;apply List.ext_getElem?;grind
 simp_all
theorem adS{i j:Nat}(hij:(listed.setIfInBounds i ah).getD j ah=ag):j≠i/\listed.getD j ah=ag:=by
 by_cases h:i=j
 ·simp_all
 ·rw[getD_set_ne ah h] at hij
  grind
theorem Rg.step(hl0:∀id sb,mQ lock id=ae sb->mQ c0.hp id=ae sb)(r:Rg C K oK base Bq lock H0 E0 w0 c0 H E w c a listed yY){i:Nat}(hi:i<oK.size){c':Core}{a':Act}{u:Value}
  (st':St C K H' E' w' c' a') (mv:Mv K H E w {c with tc:=[],nx:=base+Bq*i,lim:=base+Bq*(i+1)} H' E' w' c') (ha:a'=a.put ((oK[i]?).bind (·.dst)) u)
  (hdj:disjoint c'.tc lock=ah) :
  Rg C K oK base Bq lock H0 E0 w0 c0 H' E' w' {c' with tc:=c'.tc++c.tc,nx:=c.nx,lim:=c.lim} a' (listed.setIfInBounds i ah) (BX yY ((oK[i]?).bind (·.dst)) .any):=by
 have hch:=mv.ch;have hnx1:base+Bq*i<=c'.nx:=mv.nx;have hlim:c'.nx<=base+Bq*(i+1):=by
  have h1:c'.nx<=base+Bq*(i+1)\/c'.nx=base+Bq*i:=mv.lim;grind
 have ayt:∀id∈c'.tc,mQ lock id=ao:=fun id hid=>by
  have:=List.all_eq_true.1 hdj id hid;simp_all
 have hge:∀i',i'<oK.size->base+Bq*(i'+1)<=base+Bq*oK.size:=fun i' h=>iR (dA _ h) _;have hkeep:∀b,H b≠ao->w'.heap[b]?=w.heap[b]?:=fun b hb=>by
  cases h:H b with
  |none=>simp_all |some o=>rw[st'.o7.on b o (mv.x9 b o h),r.st.o7.on b o h]
 have hother:∀id sb b,mQ lock id=ae sb->nU E0 id sb=ae b->w'.heap[b]?=w.heap[b]?/\(H' b≠ao\/∃sb',mQ c'.hp id=ae sb'/\nU E' id sb'=ae b):=fun id sb b h1 h2=>by
  rcases r.lk id sb b h1 h2 with h|⟨sb',h3,h4⟩
  ·refine ⟨hkeep b h,.inl ?_⟩
   cases hb:H b with
   |none=>simp_all |some o=>rw[mv.x9 b o hb];simp
  ·have hnot:id ∉ c'.tc:=fun hid=>by simp_all
   refine ⟨mv.fr b ((r.st.hp.ent _ _ h3).lt h4).1 fun id' adC e=>?_,mv.keep id sb' b h3 hnot h4⟩;rcases mv.SN id' adC with h5|h5|⟨Qu,h5,h6⟩
   ·cases h5
   ·grind [bk]
   ·have:=r.st.hp.vV _ _ _ _ _ h3 h5 h4 (h6.trans e)
    simp_all
 refine ⟨⟨st'.den,st'.hp,st'.o7,?_,st'.gl,st'.defers⟩,r.nx,r.lim,fun j hj hu id h1 h2=>?_,?_,r.ch.trans ((hch.add c.tc).mono fun k hk=>?_),fun id sb b h1 h2=>(hother id sb b h1 h2).2,fun b hb=>?_,fun b o hb=>?_⟩
 ·intro k h1 h2
  have h1:c.nx<=k:=h1;have h2:k<c.lim:=h2;have:=r.nx;have:=r.lim;omega
 ·obtain ⟨hji,hu⟩:=adS hu
  have h0:=r.free j hj hu id h1 h2;cases he:E' id with
  |none=>rfl |some v=>
   have:=hch.new id h0 (by rw[he];simp);simp only at this;have q1:=this.1;have q2:=this.2;rcases Nat.lt_or_gt_of_ne hji with q|q
   ·have:Bq*(j+1)<=Bq*i:=dA _ q
    omega
   ·have:Bq*(i+1)<=Bq*j:=dA _ q
    omega
 ·subst ha
  exact zY (c:={c with tm:=yY}) (a:=a) r.aiq _ trivial
 ·grind
 ·rcases hb with hb|⟨id,sb,h1,h2⟩
  ·have hH:H b≠ao:=by
    cases h:H0 b with
    |none=>simp_all |some o=>rw[r.ch.x9 b o h];simp
   rw[hkeep b hH];exact r.agr b (.inl hb)
  ·rw[(hother id sb b h1 h2).1]
   exact r.agr b (.inr ⟨id,sb,h1,h2⟩)
 ·exact st'.o7.on b o (mv.x9 b o (r.ch.x9 b o hb))
theorem DK{call:Nat->List SV->Core->Tree (SV×Core)}(hC:oC P C)(hF:oD P C)(hK:yR P C K call)(hH0:nI K H0 E0 w0 lock)(hg0:qE C.gls H0)
  (hl0:∀id sb,mQ lock id=ae sb->mQ c0.hp id=ae sb) (hns:jk oK=ah) {R:Act->World->Prop} {φ:Core->Prop}
  (hfin:∀H E w c a listed yY,Rg C K oK base Bq lock H0 E0 w0 c0 H E w c a listed yY->φ c->R a w) :
  ∀(n:Nat) (listed:Array Bool) (yY:List SV) (c:Core) (H:Mem) (E:Env) (w:World) (a:Act) (m:Nat),Rg C K oK base Bq lock H0 E0 w0 c0 H E w c a listed yY->cnt oK listed<=m->
   (explore C call base Bq oK lock n listed yY c).All φ->wpAnyH P .any oK (fun e a w=>e=.normal/\R a w) (Still H0 E0 lock w0) m listed a w
 |0,_,_,_,_,_,_,_,_,_,_,h=>h.elim |n+1,listed,yY,c,H,E,w,a,m,r,hm,h=>by
  unfold explore at h;simp only[agf] at h;split at h
  ·rename_i hr
   exact wpAnyH_done hr ⟨rfl,hfin H E w c a listed yY r h⟩ m
  ·rename_i hne
   have hrange:∀i,i∈du .any oK listed->i<oK.size/\listed.getD i ah=ag:=fun i hi=>by
    simp_all [du,bI,List.mem_filter]
   have hdec:∀i,i∈du .any oK listed->∃m',m=m'+1/\cnt oK (listed.setIfInBounds i ah)<=m':=fun i hi=>by
    have:=alY (hrange i hi).1 (hrange i hi).2;exact ⟨m - 1,by omega,by omega⟩
   split at h
   ·rename_i j bs v v0 hq
    obtain ⟨i,hi,hq1⟩:=Jl hq (by simp);obtain ⟨hb,h⟩:=Xb h;obtain ⟨rfl,o,u,ho,hf,hy,hd,hd0⟩:=abW hC hH0 hg0 r hq1 hb;obtain ⟨m',rfl,hm'⟩:=hdec j hi;have hop:(opAt oK.toList j).bind (·.dst)=o.dst:=by simp[opAt,ho]
    rw[hop] at h;refine wpAnyH_take ho hns hf (by grind) (fun c a w hh=>by cases hh.1) hy ⟨r.agr,r.on⟩ ?_;exact DK hC hF hK hH0 hg0 hl0 hns hfin n _ _ _ H E w _ m' (r.take hd hd0) hm' h
   ·rename_i d t hq
    obtain ⟨i,hi,hq1⟩:=Jl hq (by simp);have ht:=adR hC r hq1;cases t with
    |true=>exact DK hC hF hK hH0 hg0 hl0 hns hfin n _ _ _ H E w a m (r.know ht) hm (h.1 rfl) |false=>exact DK hC hF hK hH0 hg0 hl0 hns hfin n _ _ _ H E w a m (r.know ht) hm (h.2 rfl)
   ·rename_i hq
    have hall:=Xc h;obtain ⟨i0,hi0⟩:∃i0,i0∈du .any oK listed:=by
     cases hr:du .any oK listed with
     |nil=>simp_all |cons x xs=>simp
    obtain ⟨m',rfl,_⟩:=hdec i0 hi0;refine wpAnyH_all rfl (fun hr=>hne hr) fun i hi=>?_
    obtain ⟨m'',ayu,hc⟩:=hdec i hi;have hmm:m''=m':=by omega
    subst hmm;have hi':=hrange i hi;have st1:St C K H E w {c with tc:=[],nx:=base+Bq*i,lim:=base+Bq*(i+1)} a:=
     ⟨r.st.den,r.st.hp,r.st.o7,fun k h1 h2=>r.free i hi'.1 hi'.2 k h1 h2,r.st.gl,r.st.defers⟩
    refine OX hC hF hK st1 (bz (hall i hi)) _ _ fun c' a' H' E' w' e1 e2 e3 e4=>?_
    obtain ⟨u,e4⟩:=e4;cases hdj:disjoint c'.tc lock<;>simp only[hdj,cond_true,cond_false] at e1
    ·exact e1.elim
    have hop:opAt oK.toList i=oK[i]?:=by simp[opAt]
    rw[hop] at e1;have r':=r.step hl0 hi'.1 e2 e3 e4 hdj;exact ⟨⟨r'.agr,r'.on⟩,DK hC hF hK hH0 hg0 hl0 hns hfin n _ _ _ H' E' w' a' m'' r' hc e1⟩
theorem St.sameHeap{c:Core}{a:Act}(st:St C K H E w c a)(h1:w'.heap=w.heap)(h2:w'.os=w.os)(h3:w'.tape=w.tape)(h4:w'.output=w.output):St C K H E w' c a:=
 ⟨st.den,⟨fun id sb hl=>(st.hp.ent id sb hl).kept (fun _ _ e=>e) (fun _ _ e=>e) (fun b _=>by rw[h1]) fun b hb=>((st.hp.ent id sb hl).lt hb).2.1,st.hp.vV⟩,
  ⟨h2.trans st.o7.os,h3.trans st.o7.tape,h4.trans st.o7.output,by rw[h1];exact st.o7.size,fun b hb hn=>by rw[h1];exact st.o7.kept b hb hn,fun b o hb=>by rw[h1];exact st.o7.on b o hb,st.o7.le,st.o7.fresh⟩,
  st.free,st.gl,st.defers⟩
theorem abX{c c':Core}(h:Mv K H E w c H' E' w' c')(h1:w.heap=w''.heap):Mv K H E w'' c H' E' w' c':=by
 obtain ⟨a1,a2,a3,a4,a5,a6,a7,a8,a9,a10,a11,a12,a13,a14,a15,a16⟩:=h;exact ⟨a1,a2,a3,a4,a5,a6,a7,a8,a9,a10,by simp_all,by simp_all,by grind,a14,a15,a16⟩
theorem oM.tK:∀{l l':List oM},bi (l++l')->bi l/\bi l'
 |[],_,h=>⟨trivial,h⟩ |_::_,_,h=>⟨⟨h.1,(oM.tK h.2).1⟩,(oM.tK h.2).2⟩
theorem oU{a b:Option (List oM)}{l:List oM}(h:uU a b=ae l):∃x y,a=ae x/\b=ae y/\l=x++y:=by
 unfold uU at h;grind
theorem nV{c:Bool}{a:Option (List oM)}{l:List oM}(h:qI c a=ae l):c=ah/\a=ae l:=by
 cases c
 ·cases h
 ·exact ⟨rfl,h⟩
theorem alZ{s s':Sh}{q:List oM}(h:aly s s'=ae q)(ha:bi q):s=s':=by
 unfold aly at h;split at h
 ·grind [nV]
 ·cases h
  exact ha.1
mutual
theorem Io:∀{x y:SV} {q:List oM},Uy x y=ae q->bi q->x=y
 |x,y,q,h,ha=>by
  unfold Uy at h;split at h;all_goals first
   |(cases h;done)
   |(cases h;rfl)
   |(obtain ⟨h1,h2⟩:=nV h;simp only[ak,beq_iff_eq] at h1;obtain ⟨rfl,rfl⟩:=h1;rfl)
   |(obtain ⟨h1,h2⟩:=nV h;simp only[beq_iff_eq] at h1;subst h1;cases h2;rfl)
   |skip
  case h_3=>obtain ⟨h1,h2⟩:=nV h;simp only[beq_iff_eq] at h1;subst h1;cases h2;rw[ha.1]
  case h_5=>cases h;rw[ha.1]
  case h_7=>cases h;rw[ha.1]
  case h_10=>obtain ⟨h1,h2⟩:=nV h;simp only[ak,beq_iff_eq] at h1;obtain ⟨⟨rfl,rfl⟩,rfl⟩:=h1;cases h2;rw[ha.1]
  case h_11=>obtain ⟨h1,h2⟩:=nV h;simp only[ak,beq_iff_eq] at h1;obtain ⟨rfl,rfl⟩:=h1;cases h2;rw[ha.1,ha.2.1,ha.2.2.1]
  case h_17=>obtain ⟨h1,h2⟩:=nV h;simp only[beq_iff_eq] at h1;subst h1;rw[AX h2 ha]
  case h_18=>rw[AX h ha]
  case h_19=>rw[AX h ha]
  case h_20=>obtain ⟨h1,h2⟩:=nV h;simp only[beq_iff_eq] at h1;subst h1;rw[Io h2 ha]
  grind [alZ]
theorem AX:∀{l m:List SV} {q:List oM},D8 l m=ae q->bi q->l=m
 |[],[],_,_,_=>rfl |x::l,y::m,q,h,ha=>by
  simp only[D8] at h;obtain ⟨a,b,h1,h2,rfl⟩:=oU h;rw[Io h1 (oM.tK ha).1,AX h2 (oM.tK ha).2]
 |[],_::_,_,h,_=>by simp[D8] at h |_::_,[],_,h,_=>by simp[D8] at h
end
theorem aat:∀{l m:List (SV×SV)} {q:List oM},SC l m=ae q->bi q->l=m
 |[],[],_,_,_=>rfl |(a,b)::l,(c,d)::m,q,h,ha=>by
  simp only[SC] at h;obtain ⟨q1,q2,h1,h2,rfl⟩:=oU h;obtain ⟨q3,q4,h3,h4,rfl⟩:=oU h2;obtain ⟨a1,a2⟩:=oM.tK ha;obtain ⟨a3,a4⟩:=oM.tK a2;rw[Io h1 a1,Io h3 a3,aat h4 a4]
 |[],_::_,_,h,_=>by simp[SC] at h |_::_,[],_,h,_=>by simp[SC] at h
theorem Xe:∀{l m:List (Int×Bool×SV)} {q:List oM},WE l m=ae q->bi q->l=m
 |[],[],_,_,_=>rfl |(a,p,b)::l,(c,r,d)::m,q,h,ha=>by
  simp only[WE] at h;obtain ⟨h0,h⟩:=nV h;obtain ⟨q1,q2,h1,h2,rfl⟩:=oU h;obtain ⟨q3,q4,h3,h4,rfl⟩:=oU h2;obtain ⟨a1,a2⟩:=oM.tK ha;obtain ⟨a3,a4⟩:=oM.tK a2;cases h1;have h0:p=r:=by grind
  rw[h0,a1.1,Io h3 a3,Xe h4 a4]
 |[],_::_,_,h,_=>by simp[WE] at h |_::_,[],_,h,_=>by simp[WE] at h
theorem adT:∀{l m:List (rX×Bool×SV)} {q:List oM},aaj l m=ae q->bi q->l=m
 |[],[],_,_,_=>rfl |((a,s),p,b)::l,((c,t),r,d)::m,q,h,ha=>by
  simp only[aaj] at h;obtain ⟨h0,h⟩:=nV h;obtain ⟨q1,q2,h1,h2,rfl⟩:=oU h;obtain ⟨q3,q4,h3,h4,rfl⟩:=oU h2;obtain ⟨a1,a2⟩:=oM.tK ha;obtain ⟨a3,a4⟩:=oM.tK a2;cases h1;have h0:p=r:=by grind
  have e1:a=c:=a1.1;have e2:s=t:=a1.2.1;rw[h0,e1,e2,Io h3 a3,adT h4 a4]
 |[],_::_,_,h,_=>by simp[aaj] at h |_::_,[],_,h,_=>by simp[aaj] at h
theorem ajT{x y:Option (Nat×Int)}{q:List oM}(h:agh x y=ae q)(ha:bi q):x=y:=by
 unfold agh at h;split at h
 ·rfl
 ·obtain ⟨h1,h2⟩:=nV h
  cases h2;have h1:=by simpa using h1
  rw[h1,ha.1]
 ·cases h
theorem al0{x y:SB}{q:List oM}(h:alz x y=ae q)(ha:bi q):x=y:=by
 unfold alz at h;split at h
 ·grind [nV,AX]
 ·obtain ⟨h1,h2⟩:=nV h
  grind [AX]
 ·obtain ⟨h1,h2⟩:=nV h
  simp only[ak,beq_iff_eq] at h1;cases h2;rw[h1.1,h1.2,ha.1,ha.2.1]
 ·obtain ⟨h1,h2⟩:=nV h
  have h1:=by simpa using h1
  cases h2;rw[h1,ha.1,ha.2.1]
 ·rw[aat h ha]
 ·cases h
  have:=ha.1;simp_all [oM.ok,Sh.pt.injEq]
 ·obtain ⟨h1,h2⟩:=nV h
  simp only[ak,beq_iff_eq] at h1;obtain ⟨q1,q2,h3,h4,rfl⟩:=oU h2;cases h3;obtain ⟨a1,a2⟩:=oM.tK ha;rw[h1.1,h1.2,a1.1,a1.2.1,AX h4 a2]
 ·obtain ⟨h1,h2⟩:=nV h
  have h1:=by simpa using h1
  cases h2;rw[h1,ha.1]
 ·obtain ⟨h1,h2⟩:=nV h
  have h1:=by simpa using h1
  obtain ⟨q1,q2,h3,h4,rfl⟩:=oU h2;obtain ⟨q3,q4,h5,h6,rfl⟩:=oU h4;obtain ⟨q5,q6,h7,h8,rfl⟩:=oU h6;cases h3;obtain ⟨a1,a2⟩:=oM.tK ha;obtain ⟨a3,a4⟩:=oM.tK a2;obtain ⟨a5,a6⟩:=oM.tK a4;rw[h1,a1.1,Xe h5 a3,Xe h7 a5,ajT h8 a6]
 ·obtain ⟨h1,h2⟩:=nV h
  have h1:=by simpa using h1
  obtain ⟨q1,q2,h3,h4,rfl⟩:=oU h2;cases h3;obtain ⟨a1,a2⟩:=oM.tK ha;rw[h1,show _=_ from a1.1,adT h4 a2]
 ·cases h
theorem adU:∀{l m:List (Nat×SB)} {q:List oM},aak l m=ae q->bi q->l=m
 |[],[],_,_,_=>rfl |(i,a)::l,(j,b)::m,q,h,ha=>by
  simp only[aak] at h;obtain ⟨h0,h⟩:=nV h;obtain ⟨q1,q2,h1,h2,rfl⟩:=oU h;have h0:=by simpa using h0
  rw[h0,al0 h1 (oM.tK ha).1,adU h2 (oM.tK ha).2]
 |[],_::_,_,h,_=>by simp[aak] at h |_::_,[],_,h,_=>by simp[aak] at h
theorem agG{a b:Core}{q:List oM}(h:abG a b=ae q)(ha:bi q):a=b:=by
 unfold abG at h;obtain ⟨h0,h⟩:=nV h;obtain ⟨q1,q2,h1,h2,rfl⟩:=oU h;simp only[ak,beq_iff_eq] at h0;obtain ⟨⟨h3,h4⟩,h5⟩:=h0;obtain ⟨t,hp,nx,lim,tc⟩:=a;obtain ⟨t',hp',nx',lim',ZN⟩:=b;grind [AX,oM.tK,adU]
def Ob.ok:Ob->Prop
 | .b x=>x=ah | .e l=>bi l
theorem Jm{α:Type}{φ:α->Prop}:∀{t:Tree α} {o:List Ob} {a:α},strip t=ae (o,a)->(∀x∈o,x.ok)->φ a->t.All φ
 | .leaf _,o,a,h,_,hφ=>by simp[strip] at h;rw[h.2];exact hφ | .need b t,o,a,h,ho,hφ=>by
  simp only[strip,aP,dK] at h;obtain ⟨⟨o',a'⟩,h1,rfl,rfl⟩:=h;exact ⟨ho _ (bj ..),Jm h1 (fun x hx=>ho x (aZ _ hx)) hφ⟩
 | .must l t,o,a,h,ho,hφ=>by
  simp only[strip,aP,dK] at h;obtain ⟨⟨o',a'⟩,h1,rfl,rfl⟩:=h;exact ⟨ho _ (bj ..),Jm h1 (fun x hx=>ho x (aZ _ hx)) hφ⟩
 | .node _ _ _,_,_,h,_,_=>by simp[strip] at h | .both _ _,_,_,h,_,_=>by simp[strip] at h | .fail,_,_,h,_,_=>by simp[strip] at h
theorem Td{α:Type}{φ:α->Prop}{t:Tree α}:∀{o:List Ob},(wrap t o).All φ->(∀x∈o,x.ok)/\t.All φ
 |[],h=>⟨fun _ h=>(by cases h),h⟩ | .b x::r,h=>by
  obtain ⟨h1,h2⟩:=h;obtain ⟨h3,h4⟩:=Td h2;refine ⟨fun y hy=>?_,h4⟩;cases hy with
  |head=>exact h1 |tail _ hy=>exact h3 y hy
 | .e l::r,h=>by
  obtain ⟨h1,h2⟩:=h;obtain ⟨h3,h4⟩:=Td h2;refine ⟨fun y hy=>?_,h4⟩;cases hy with
  |head=>exact h1 |tail _ hy=>exact h3 y hy
theorem agH{α:Type}{φ:α->Prop}{t:Tree α}{l:List oM}(h:(SE l t).All φ):bi l/\t.All φ:=by
 unfold SE at h;split at h
 ·exact ⟨trivial,h⟩
 ·exact h
theorem adV{t f:Tree Core}{φ:Core->Prop}(h:(VU t f).All φ):t.All φ/\f.All φ:=by
 unfold VU at h;split at h
 ·rename_i o a q b h1 h2
  split at h
  ·rename_i l he
   obtain ⟨h3,h4⟩:=Td h;obtain ⟨h5,h6⟩:=agH h4;have:=agG he h5;subst this;exact ⟨Jm h1 (fun x hx=>h3 x (aU.2 (.inl hx))) h6,Jm h2 (fun x hx=>h3 x (aU.2 (.inr hx))) h6⟩
  ·exact h
 ·exact h
theorem Am{φ:Core->Prop}:∀{t:Tree Core},(merge t).All φ->t.All φ
 | .leaf _,h=>h | .fail,h=>h | .need _ t,h=>⟨h.1,Am h.2⟩ | .must _ t,h=>⟨h.1,Am h.2⟩ | .node _ t f,h=>⟨fun e=>Am (h.1 e),fun e=>Am (h.2 e)⟩ | .both t f,h=>by
  have:=adV (show (VU (merge t) (merge f)).All φ from h);exact ⟨Am this.1,Am this.2⟩
theorem U0:∀{m:Nat} {l:List SV} {vs:List Value},ni H E l vs->ni H E (VW m l) vs
 |_,[],_,h=>h |m,x::l,v::vs,⟨h1,h2⟩=>by
  simp only[VW];refine ⟨?_,U0 h2⟩;cases Nat.beq (m % 2) 1
  ·trivial
  ·exact h1
 |_,_::_,[],h=>h.elim
theorem Xf{g:Nat}{l:List SV}{vs:List Value}(h:ni H E l vs):ni H E (Fb C g l) vs:=by
 grind [Fb,U0]
theorem aau{i j:Nat}:∀{l:List Nat},i∈adl j l↔i=j\/i∈l
 |[]=>by simp[adl] |k::l=>by
  unfold adl;cases h1:(j==k)<;>simp only[cond_true,cond_false]
  ·cases h2:bO j k<;>simp only[cond_true,cond_false]
   ·simp only[List.mem_cons,aau (l:=l)]
    grind
   ·simp
  simp_all
theorem Xg{i:Nat}:∀{l:List Nat},i∈KQ l↔i∈l
 |[]=>by simp[KQ] |j::l=>by simp[KQ,aau,Xg (l:=l)]
theorem Ch.auK{hp hp':List (Nat×SB)}{tc ZN ZO:List Nat}{N:Nat->Prop}(h:Ch K H E w hp tc H' E' w' hp' ZN N)(he:∀i,i∈ZO↔i∈ZN):Ch K H E w hp tc H' E' w' hp' ZO N:=
 {h with
  tc:=fun id hid=>(he id).2 (h.tc id hid)
  fr:=fun b hb hne=>h.fr b hb fun id hid=>hne id ((he id).2 hid)
  Fj:=fun i b h1 h2=>(h.Fj i b h1 h2).imp (fun h=>h) fun ⟨id,h3,h4⟩=>⟨id,(he id).2 h3,h4⟩
  SN:=fun id hid=>h.SN id ((he id).1 hid)
  keep:=fun id sb b h1 h2 h3=>h.keep id sb b h1 (fun h4=>h2 ((he id).2 h4)) h3}
theorem Xh{call:Nat->List SV->Core->Tree (SV×Core)}(hC:oC P C)(hF:oD P C)(hK:yR P C K call){c:Core}{a:Act}{φ:Core->Prop}(st:St C K H E w c a){g:Nat}(h:(drawn C call g oK c).All φ):
  wpAny P .any oK (fun e a' w'=>e=.normal/\∃c' H' E',φ c'/\St C K H' E' w' c' a'/\Mv K H E w c H' E' w' c') oK.size (bo oK.size ag) a {w with drawn:=w.drawn+1}:=by
 unfold drawn at h;simp only at h;generalize hlk:Ey c.hp (SH C oK.toList c [])=lock at h;cases hb:(cq (c.nx+Bh c oK.size*oK.size) c.lim&&jk oK)<;>simp only[hb,cond_true,cond_false] at h
 ·exact h.elim
 simp only[ak] at hb;have hle:=Nat.le_of_ble_eq_true hb.1;let w1:World:={w with drawn:=w.drawn+1}
 have st1:St C K H E w1 c a:=st.sameHeap rfl rfl rfl rfl;have hlook:∀id sb,mQ lock id=ae sb->mQ c.hp id=ae sb:=fun id sb hl=>by grind [OY]
 have hH0:nI K H E w1 lock:=⟨fun id sb hl=>st1.hp.ent id sb (hlook id sb hl),fun i j s1 s2 b h1 h2=>st1.hp.vV i j s1 s2 b (hlook _ _ h1) (hlook _ _ h2)⟩;have hrefl:Ch K H E w1 c.hp c.tc H E w1 c.hp c.tc (fun i=>c.nx<=i/\i<c.nx+Bh c oK.size*oK.size):=by
  have:=(Post.refl (c:=c) st1.hp st1.o7).mv.ch;exact this.mono fun i hi=>by omega
 refine wpAny_of_held (S:=Still H E lock w1) _ _ _ _ ?_;refine (DK (c0:=c) (R:=fun a' w'=>∃c' H' E',φ c'/\St C K H' E' w' c' a'/\Mv K H E w c H' E' w' c') (φ:=fun c'=>φ {tm:=Fb C g c'.tm,hp:=c'.hp,nx:=c.nx+Bh c oK.size*oK.size,lim:=c.lim,tc:=KQ c'.tc}) hC hF hK hH0 st1.gl hlook hb.2 ?_
  (2*oK.size+1) (bo oK.size ag) c.tm {c with nx:=0,lim:=0} H E w1 a oK.size ?_ ?_ (bz (Am h)))
 ·intro H' E' w' c' a' listed yY r hφ
  have hnew:Free E' {tm:=Fb C g c'.tm,hp:=c'.hp,nx:=c.nx+Bh c oK.size*oK.size,lim:=c.lim,tc:=KQ c'.tc}:=fun i h1 h2=>by
   have h1:c.nx+Bh c oK.size*oK.size<=i:=h1;have h2:i<c.lim:=h2;cases he:E' i with
   |none=>rfl |some v=>
    have:=r.ch.new i (st.free i (by omega) h2) (by rw[he];simp);omega
  refine ⟨_,H',E',hφ,⟨Xf r.st.den,r.st.hp,r.st.o7,hnew,r.st.gl,r.st.defers⟩,?_⟩;exact abX (Ch.mv (c:=c) (c':={tm:=Fb C g c'.tm,hp:=c'.hp,nx:=c.nx+Bh c oK.size*oK.size,lim:=c.lim,tc:=KQ c'.tc}) (r.ch.auK fun i=>Xg) (Nat.le_add_right _ _) (.inl hle) rfl) rfl
 ·refine ⟨⟨st1.den,st1.hp,st1.o7,fun i h1 h2=>by simp at h2,st1.gl,st1.defers⟩,rfl,rfl,fun j hj _ id h1 h2=>?_,st1.den,hrefl,fun id sb b h1 h2=>.inr ⟨sb,hlook id sb h1,h2⟩,fun _ _=>rfl,st1.o7.on⟩
  have:c.nx+Bh c oK.size*(j+1)<=c.nx+Bh c oK.size*oK.size:=iR (dA _ hj) _;exact st.free id (by omega) (by omega)
 grind [cnt,Nat.le_trans,List.countP_le_length]
theorem ajU{call:Nat->List SV->Core->Tree (SV×Core)}(hC:oC P C)(hF:oD P C)(hK:yR P C K call){c:Core}{a:Act}{φ:Core->Prop}{id:Nat}(st:St C K H E w c a){g:Nat}(h:(drawn C call g oK c).All φ):
  (Code.region id oK ah).wp P (fun e a' w'=>e=.normal/\∃c' H' E',φ c'/\St C K H' E' w' c' a'/\Mv K H E w c H' E' w' c') a w:=
 wp_region_any hC.mixed (Xh hC hF hK st h)
end
section
variable{P:Program}{C:Ctx}{K:Kx}{H H' G9:Mem}{E E' He:Env}{w w' w'':World}
theorem apL{ops:Array Oper}{i:Nat}{rest:List Nat}{next:Act->World->Prop}{a:Act}(h:wpOp P ops (fun _ _ _=>False) i next a w)(b:Frame)(k:List Item)(cs:List Frame):
  ∃a' w',next a' w'/\Steps P (lone (b.at a (.inRegion ops (i::rest)::k)) cs w) (lone (b.at a' (.inRegion ops rest::k)) cs w'):=by
 unfold wpOp at h;cases ho:ops[i]? with
 |none=>
  simp only[ho] at h;have hs:=step_op_skip (P:=P) (b:=b) (a:=a) (k:=k) (cs:=cs) (w:=w) (ops:=ops) (i:=i) (rest:=rest) (by simp[ho]);simp only[ho,Option.bind_none,Act.put] at hs;exact ⟨a,w,h,.one hs⟩
 |some o=>
  simp only[ho] at h;by_cases hw:Region.wanted o (yielded ops a.tmps)=ah
  ·simp only[hw,if_true] at h
   rcases h with h|⟨_,_,_,hq⟩
   case inr=>exact hq.elim
   simp only[Oper.wp] at h;have hg:=stepG_op (P:=P) (b:=b) (k:=k) (cs:=cs) (w:=w) (rest:=rest) ho hw;have hfin:∀v,(b.at a (.inRegion ops (i::rest)::k)).finish v=b.at (a.put o.dst v) (.inRegion ops rest::k):=by
    simp_all [eF]
   generalize hr:(execOp a.eval o).run P w=r at h;cases r with
   |ok n w'=>
    cases n<;>simp only[kI] at h
    case value v=>
     refine ⟨_,_,h,.one (step_lone_go ?_)⟩;simp_all [bZ]
    case skip=>
     refine ⟨_,_,h,.one (step_lone_go ?_)⟩;simp_all [bZ]
    case defer d=>
     refine ⟨_,_,h,.one (step_lone_go ?_)⟩;have:({b.at a (.inRegion ops (i::rest)::k) with defers:=d::a.defers}:Frame).finish undef =
       b.at ({a with defers:=d::a.defers}.put o.dst undef) (.inRegion ops rest::k):=by
      have:=eF b {a with defers:=d::a.defers} ops i rest k undef
      rw[ho] at this;exact this
     rw[hg];simp only[bZ,Sem.runT_eq,hr,GStep.bare_after];exact congrArg (fun fr=>GStep.go {frame:=fr,callers:=cs,status:=.running,dying:=ao} w') this
    case enter f args=>
     obtain ⟨e,w'',fr,hR,hsteps,_,hleave⟩:=h (b.at a (.inRegion ops (i::rest)::k)::cs);have henter:step P (lone (b.at a (.inRegion ops (i::rest)::k)) cs w) =
       .next (lone (cw P f args .normal) (b.at a (.inRegion ops (i::rest)::k)::cs) w'):=
      step_lone_go (by simp_all [bZ,Frame.at])
     cases e with
     |returned v=>
      refine ⟨_,_,hR,.head henter (hsteps.trans (.one ?_))⟩;grind [step_leave_returned]
     |panicked chain=>exact hR.elim |outgrown=>obtain ⟨_,_,hq⟩:=hR;exact hq.elim
    case row row args=>
     obtain ⟨v,w'',hR,hsteps⟩:=h (b.at a (.inRegion ops (i::rest)::k)) cs;have henter:step P (lone (b.at a (.inRegion ops (i::rest)::k)) cs w) =
       .next (lone (Frame.ofRow P row args .normal) (b.at a (.inRegion ops (i::rest)::k)::cs) w'):=
      step_lone_go (by simp_all [bZ,Frame.at])
     refine ⟨_,_,hR,.head henter ?_⟩;simp_all
    all_goals exact h.elim
   |halt x w'=>
    cases x<;>simp only[kI] at h
    all_goals exact h.elim
  ·simp only[hw,if_false,Bool.false_eq_true] at h
   have hs:=step_op_skip (P:=P) (b:=b) (a:=a) (k:=k) (cs:=cs) (w:=w) (ops:=ops) (i:=i) (rest:=rest)
    (by simp_all)
   simp only[ho,Option.bind_some] at hs;exact ⟨_,_,h,.one hs⟩
inductive pV(body:Code):List It->List Item->Prop
 |nil:pV body [] []
 |code (p:List Nat) {td:List It} {k:List Item}:pV body td k->pV body (.code p::td) (.code (oh body p)::k)
 |loop (p:List Nat) (x:Code) {td:List It} {k:List Item}:oh body p=.loop x->pV body td k->pV body (.code p::td) (.inLoop x::k)
 |inBlock (id:Nat) {td:List It} {k:List Item}:pV body td k->pV body (.inBlock id::td) (.inBlock id::k)
 |SI {td:List It} {k:List Item}:pV body td k->pV body (.SI::td) (.beginRound::k)
 |reg (p:List Nat) (l:List Nat) (id:Nat) (ops:Array Oper) {td:List It} {k:List Item}:oh body p=.region id ops ag->pV body td k->pV body (.reg p l::td) (.inRegion ops l::k)
theorem adW{body:Code}{id:Nat}:∀{td uJ:List It} {k:List Item},pV body td k->EC id td=ae uJ->∃k',exitTo id k=ae k'/\pV body uJ k':=by
 intro td uJ k h;induction h with
 |nil=>simp_all [EC] |code p _ ih=>assumption |SI _ ih=>assumption |loop p x _ _ ih=>assumption |reg p l id ops _ _ ih=>assumption |inBlock j h0 ih=>
  intro h;simp only[EC] at h;grind [exitTo]
def resV(a:Act)(r:ResultVar):Sem Value:=
 match r with
 | .tmp t=>pure (a.tmps.getD t undef) | .cell x t=>do loadVar t (<-asAddr (a.tmps.getD x undef))
theorem ZP(fn:Func)(a:Act):results fn a.tmps=(do let vs <-fn.results.mapM (resV a);pure (if h:vs.size=1 then vs[0] else .tuple vs)):=rfl
theorem Qz(hC:oC P C){c:Core}{a:Act}(st:St C K H E w c a):∀{rs:List ResultVar} {l:List SV},WG C c rs=ae l->∃vs:List Value,
  (rs.mapM (resV a)).run P w=.ok vs w/\ni H E l vs
 |[],l,h=>by simp[WG] at h;subst h;exact ⟨[],by simp,trivial⟩ | .tmp t::rs,l,h=>by
  simp only[WG] at h;split at h
  ·rename_i sv r h1 h2
   cases h;obtain ⟨vs,e1,e2⟩:=Qz hC st h2;obtain ⟨u,h3,h4⟩:=st.den.get h1;refine ⟨u::vs,?_,h4,e2⟩;rw[eG] at h3;have:a.tmps.getD t undef=u:=by simp_all
   simp_all [resV,List.mapM_cons,cK]
  ·cases h
 | .cell x t::rs,l,h=>by
  simp only[WG] at h;split at h
  ·rename_i i r h1 h2
   simp only[aP] at h;obtain ⟨sv,h3,rfl⟩:=h;obtain ⟨vs,e1,e2⟩:=Qz hC st h2;have ht:=hC.ty _ _ h1;have dx:=ou (H:=H) (E:=E) st.den (.tmp x);obtain ⟨ad,cs,q1,q2,q3,q4⟩:=UA (w:=w) dx st.hp st.gl (fun hz=>by
    obtain ⟨_,_,_,_,_,_,_,_,_,h1⟩:=ht.info;grind) h3
   refine ⟨Fh i.ty.isAgg cs::vs,?_,q3,e2⟩;have q1:a.tmps.getD x undef=.pointer (ae ad):=q1;have hl:=aam ht q2 (q4 w (OH.refl _ _ _ _) st.o7.on);have hv:(resV a (.cell x t)).run P w=.ok (Fh i.ty.isAgg cs) w:=by simp[resV,asAddr,q1,hl,Fh]
   simp_all
  ·cases h
theorem Xi(hC:oC P C){c:Core}{a:Act}{fn:Func}{φ:Out->Prop}(st:St C K H E w c a)(h:(result C fn c).All φ):∃sv v,φ (.done sv c)/\Den H E sv v/\(results fn a.tmps).run P w=.ok v w:=by
 have key:∀vs:List Value,(fn.results.toList.mapM (resV a)).run P w=.ok vs w->
   (results fn a.tmps).run P w=.ok (if h:vs.toArray.size=1 then vs.toArray[0] else .tuple vs.toArray) w:=by
  grind [ZP,Array.mapM_eq_mapM_toList,ct,map_eq_pure_bind,lW,cK]
 unfold result at h;split at h
 ·rename_i sv hs
  obtain ⟨vs,e1,e2⟩:=Qz hC st hs;match vs,e2 with
  |[v],⟨e2,_⟩=>
   exact ⟨sv,v,h,e2,by simp_all⟩
 ·rename_i l hne hs
  obtain ⟨vs,e1,e2⟩:=Qz hC st hs;refine ⟨_,.tuple vs.toArray,h,⟨vs.toArray,rfl,e2⟩,?_⟩;rw[key vs e1,dif_neg];intro h1;have:=e2.length;simp at h1;match l,hne,(this ▸ h1:l.length=1) with
  |[x],hne,_=>grind
 ·exact h.elim
end
section
variable{P:Program}{C:Ctx}{K:Kx}{H H' G9:Mem}{E E' He:Env}{w w' w'':World}
def abY(P:Program)(C:Ctx)(K:Kx)(fn:Func)(g:Nat)(H:Mem)(E:Env)(w:World)(c:Core)(m:Machine)(b:Frame)(cs:List Frame):Out->Prop
 | .done sv c'=>∃(a':Act) (w':World) (H':Mem) (E':Env) (v:Value) (todo:List Item),Steps P m (lone {b.at a' todo with mode:=.returning} cs w')/\St C K H' E' w' c' a'/\Mv K H E w c H' E' w' c'/\
   Den H' E' sv v/\(results fn a'.tmps).run P w'=.ok v w'
 | .stop g' uJ c'=>g'=g/\∃(a':Act) (w':World) (H':Mem) (E':Env) (items':List Item),Steps P m (lone (b.at a' items') cs w')/\St C K H' E' w' c' a'/\Mv K H E w c H' E' w' c'/\pV (nC fn) uJ items'
theorem abY.of{fn:Func}{g:Nat}{c c1:Core}{m m1:Machine}{b:Frame}{cs:List Frame}{out:Out}(hs:Steps P m m1)(hm:Mv K H E w c H' E' w' c1)(h:abY P C K fn g H' E' w' c1 m1 b cs out):
  abY P C K fn g H E w c m b cs out:=by
 cases out with
 |done sv c'=>
  obtain ⟨a2,w2,H2,E2,v,todo,h1,h2,h3,h4,h5⟩:=h;exact ⟨a2,w2,H2,E2,v,todo,hs.trans h1,h2,hm.trans h3,h4,h5⟩
 |stop g' uJ c'=>
  obtain ⟨hg,a2,w2,H2,E2,items,h1,h2,h3,h4⟩:=h;exact ⟨hg,a2,w2,H2,E2,items,hs.trans h1,h2,hm.trans h3,h4⟩
def agI(P:Program)(C:Ctx)(K:Kx)(fn:Func)(H:Mem)(E:Env)(w:World)(c:Core)(m:Machine)(b:Frame)(cs:List Frame):Sig->Prop
 | .done sv c'=>∃(a':Act) (w':World) (H':Mem) (E':Env) (v:Value) (todo:List Item),Steps P m (lone {b.at a' todo with mode:=.returning} cs w')/\St C K H' E' w' c' a'/\Mv K H E w c H' E' w' c'/\
   Den H' E' sv v/\(results fn a'.tmps).run P w'=.ok v w'
 | .go uJ c'=>∃(a':Act) (w':World) (H':Mem) (E':Env) (items':List Item),Steps P m (lone (b.at a' items') cs w')/\St C K H' E' w' c' a'/\Mv K H E w c H' E' w' c'/\pV (nC fn) uJ items' | .halt uJ c'=>∃(a':Act) (w':World) (H':Mem) (E':Env) (items':List Item),Steps P m (lone (b.at a' items') cs w')/\St C K H' E' w' c' a'/\Mv K H E w c H' E' w' c'/\pV (nC fn) uJ items'
theorem St.Fb{c:Core}{a:Act}(st:St C K H E w c a)(g:Nat):St C K H E w {c with tm:=Go.Sx.Fb C g c.tm} a:=
 ⟨Xf st.den,st.hp,st.o7,st.free,st.gl,st.defers⟩
theorem Nk(hC:oC P C)(hF:oD P C){call:Nat->List SV->Core->Tree (SV×Core)}(hK:yR P C K call){top:Bool}{g:Nat}{fn:Func}{td:List It}{c:Core}{a:Act}{items:List Item}{φ:Sig->Prop}
  (h:(Jf C call top g fn td c).All φ) (st:St C K H E w c a) (hi:pV (nC fn) td items) (b:Frame) (cs:List Frame) :
  ∃sig,φ sig/\agI P C K fn H E w c (lone (b.at a items) cs w) b cs sig:=by
 have D9:Mv K H E w c H E w c:=zZ st rfl rfl rfl rfl;have go:∀{uJ:List It} {c':Core} {H':Mem} {E':Env} {w':World} {a':Act} {items':List Item},φ (.go uJ c')->St C K H' E' w' c' a'->Mv K H E w c H' E' w' c'->pV (nC fn) uJ items'->
   Steps P (lone (b.at a items) cs w) (lone (b.at a' items') cs w')->∃sig,φ sig/\agI P C K fn H E w c (lone (b.at a items) cs w) b cs sig:=fun h1 h2 h3 h4 h5=>⟨_,h1,_,_,_,_,_,h5,h2,h3,h4⟩
 have fin:∀(todo:List Item),((result C fn c).bind abH).All φ->step P (lone (b.at a items) cs w)=.next (lone {b.at a todo with mode:=.returning} cs w)->∃sig,φ sig/\agI P C K fn H E w c (lone (b.at a items) cs w) b cs sig:=fun todo hr hs=>by
  obtain ⟨sv,v,h1,h2,h3⟩:=Xi hC st (bz hr);exact ⟨_,h1,a,w,H,E,v,todo,.one hs,st,D9,h2,h3⟩
 unfold Jf at h;split at h
 ·cases hi
  exact fin _ h step_end
 ·cases hi with
  |inBlock id hk=>exact go h st D9 hk (.one step_inBlock)
 ·exact h.elim
 ·cases hi with
  |reg p l id ops hc hk=>exact go h (st.Fb g) (zZ st rfl rfl rfl rfl) hk (.one step_region_end)
 ·rename_i p i r k
  cases hi with
  |reg p l id ops hc hk=>
   rw[hc] at h;simp only at h;obtain ⟨a',w',h1,h2⟩:=apL (OX hC hF hK st (bz h) (fun a' w'=>∃c' H' E',φ (.go (.reg p r::k) c')/\St C K H' E' w' c' a'/\Mv K H E w c H' E' w' c') (fun _ _ _=>False)
    fun c' a' H' E' w' e1 e2 e3 _=>⟨c',H',E',e1,e2,e3⟩) b _ cs
   obtain ⟨c',H',E',e1,e2,e3⟩:=h1;exact go e1 e2 e3 (.reg p r id ops hc hk) h2
 ·rename_i p k
  have hloop:∀{x:Code},oh (nC fn) p=x->(∀y,x≠.loop y)->∃k',items=.code x::k'/\pV (nC fn) k k':=fun {x} hx hne=>by
   cases hi with
   |code p hk=>simp_all |loop p y hl hk=>grind
  split at h
  ·rename_i hx
   obtain ⟨k',rfl,hk⟩:=hloop hx (by simp);exact go h st D9 hk (.one step_skip)
  ·grind [step_ret]
  ·rename_i x y hx
   obtain ⟨k',rfl,hk⟩:=hloop hx (by simp);have h0:oh (nC fn) (0::p)=x:=by simp[oh,hx,child]
   have h1:oh (nC fn) (1::p)=y:=by simp[oh,hx,child]
   have:=pV.code (0::p) (pV.code (1::p) hk);rw[h0,h1] at this;exact go h st D9 this (.one step_seq)
  ·rename_i id x hx
   obtain ⟨k',rfl,hk⟩:=hloop hx (by simp);have h0:oh (nC fn) (0::p)=x:=by simp[oh,hx,child]
   have:=pV.code (0::p) (pV.inBlock id hk);rw[h0] at this;exact go h st D9 this (.one step_block)
  ·rename_i x hx
   have h0:oh (nC fn) (0::p)=x:=by simp[oh,hx,child]
   cases hst:C.Cm g p<;>simp only[hst,cond_true,cond_false] at h
   ·cases hi with
    |code p hk=>
     have:=pV.code (0::p) (pV.loop p x hx hk);rw[h0] at this;rw[hx] at go ⊢;exact go h st D9 this (.one step_loop)
    |loop p y hl hk=>
     rw[hx] at hl;cases hl;have:=pV.code (0::p) (pV.loop p x hx hk);rw[h0] at this;exact go h st D9 this (.one step_inLoop)
   ·exact ⟨_,h,a,w,H,E,items,.refl _ _,st,D9,hi⟩
  ·rename_i id hx
   obtain ⟨k',rfl,hk⟩:=hloop hx (by simp);split at h
   ·rename_i k2 he
    obtain ⟨k3,h1,h2⟩:=adW hk he;exact go h st D9 h2 (.one (step_exit h1))
   ·exact h.elim
  ·rename_i x y z hx
   obtain ⟨k',rfl,hk⟩:=hloop hx (by simp);have h0:=pV.code (0::p) hk;have h1:=pV.code (1::p) hk;have e0:oh (nC fn) (0::p)=y:=by simp[oh,hx,child]
   have e1:oh (nC fn) (1::p)=z:=by simp[oh,hx,child]
   rw[e0] at h0;rw[e1] at h1;have dx:=ou (H:=H) (E:=E) st.den x;split at h
   ·rename_i hv
    rw[hv] at dx;exact go h st D9 h0 (.one (step_cond (t:=ah) dx))
   ·rename_i hv
    rw[hv] at dx;exact go h st D9 h1 (.one (step_cond (t:=ag) dx))
   ·rename_i t hv
    rw[hv] at dx;have st':∀v,t=v->St C K H E w (c.put (Qc x) (.bool v)) a:=fun v hv2=>by
     subst hv2;cases x with
     |tmp d=>exact st.know hv |const u=>assumption |global u=>assumption |func u=>assumption
    have mv':∀v:Bool,Mv K H E w c H E w (c.put (Qc x) (.bool v)):=fun v=>zZ st rfl rfl rfl rfl
    cases t with
    |true=>exact go (h.1 rfl) (st' ah rfl) (mv' ah) h0 (.one (step_cond (t:=ah) dx)) |false=>exact go (h.2 rfl) (st' ag rfl) (mv' ag) h1 (.one (step_cond (t:=ag) dx))
   ·exact h.elim
  ·rename_i id ops dr hx
   obtain ⟨k',rfl,hk⟩:=hloop hx (by simp);cases dr with
   |false=>
    simp only[cond_false] at h;exact go h st D9 (.reg p (aD ops.size) id ops hx hk) (.one step_region)
   |true=>
    simp only[cond_true] at h;have key:∀(f:Core->Tree Sig),((drawn C call g ops c).bind f).All φ->∃c' a' H' E' w',(f c').All φ/\St C K H' E' w' c' a'/\Mv K H E w c H' E' w' c'/\Steps P (lone (b.at a (.code (.region id ops ah)::k')) cs w) (lone (b.at a' k') cs w'):=fun f hf=>by
     obtain ⟨e,a',w',⟨he,c',H',E',h1,h2,h3⟩,harr⟩:=ajU (id:=id) hC hF hK st (bz hf) b k' cs;subst he;exact ⟨c',a',H',E',w',h1,h2,h3,harr⟩
    cases hl:(top && !(drawn C call g ops c).lone)<;>simp only[hl,cond_true,cond_false] at h
    ·obtain ⟨c',a',H',E',w',h1,h2,h3,h4⟩:=key _ h
     exact go h1 h2 h3 hk h4
    ·obtain ⟨c',a',H',E',w',h1,h2,h3,h4⟩:=key _ h
     exact ⟨_,h1,a',w',H',E',k',h4,h2,h3,hk⟩
  ·exact h.elim
def Xj(P:Program)(C:Ctx)(K:Kx)(run:Bool->Nat->List It->Core->Tree Out):Prop:=
 ∀(top:Bool) (g:Nat) (td:List It) (c:Core) (H:Mem) (E:Env) (w:World) (a:Act) (fn:Func) (items:List Item) (φ:Out->Prop),C.fns.get g=ae fn->(run top g td c).All φ->St C K H E w c a->
  pV (nC fn) td items->∀(b:Frame) (cs:List Frame),∃out,φ out/\abY P C K fn g H E w c (lone (b.at a items) cs w) b cs out
theorem Dz{p:Nat->Bool}:∀{l:List (Nat×SB)} {i:Nat},mQ (dropKey p l) i=bif p i then ao else mQ l i
 |[],i=>by simp_all [dropKey,mQ] |(j,b)::r,i=>by
  have ih:=Dz (p:=p) (l:=r) (i:=i);simp only[dropKey];grind [mQ]
theorem Mv.gc{c c':Core}(h:Mv K H E w c H' E' w' c')(hf:Free E c){p:Nat->Bool}(hp:∀i,p i=ah->c.nx<=i/\i<c.lim):Mv K H E w c H' E' w' {c' with hp:=dropKey p c'.hp}:=by
 have hl:∀{i sb},mQ (dropKey p c'.hp) i=ae sb->mQ c'.hp i=ae sb:=fun {i sb} h=>by
  grind [Dz]
 have hch:=h.ch;refine Ch.mv (c:=c) (c':={c' with hp:=dropKey p c'.hp}) ⟨hch.x9,hch.BR,hch.new,⟨fun id sb hq=>hch.hp.ent _ _ (hl hq),fun id id' sb sb' b q1 q2=>hch.hp.vV _ _ _ _ _ (hl q1) (hl q2)⟩,hch.o7,hch.tc,hch.size,hch.fr,hch.Fj,hch.SN,fun id sb b q1 q2 q3=>?_,fun id sb q1=>hch.old id sb (hl q1)⟩ h.nx h.lim h.aap
 rcases hch.keep id sb b q1 q2 q3 with q|⟨sb',q4,q5⟩
 ·exact .inl q
 ·refine .inr ⟨sb',?_,q5⟩
  show mQ (dropKey p c'.hp) id=ae sb';rw[Dz];cases hi:p id<;>simp only[cond_true,cond_false]
  ·exact q4
  ·have:=hf id (hp id hi).1 (hp id hi).2
   have q6:=wW q3;simp_all [bk]
theorem Ip(hC:oC P C)(hF:oD P C){run:Bool->Nat->List It->Core->Tree Out}(hr:Xj P C K run):yR P C K (CB C (run ag)):=by
 intro H E w c g args vF φ hd hh hw hf hg h;unfold CB at h;split at h
 ·exact h.elim
 ·rename_i fn hfn
  cases hb:(cq args.length fn.ntmps&&fn.body.isSome)<;>simp only[hb,cond_true,cond_false] at h
  ·exact h.elim
  simp only[ak] at hb;obtain ⟨body,hbody⟩:=bG.1 hb.2;have hP:=hC.fn g fn hfn;refine ⟨hF.en g (.inr (by rw[hfn];rfl)),fun cs=>?_⟩;let b:Frame:={(default:Frame) with fn:=g,kind:=.normal}
  let a:Act:={tmps:=vF.toArray++bo (fn.ntmps - vF.toArray.size) undef,defers:=[]}
  have henter:cw P g vF.toArray .normal=b.at a [.code body]:=by
   grind [cw,Frame.at]
  have hlen:=hd.length;have st:St C K H E w {tm:=args++bf (fn.ntmps - args.length) .any,hp:=c.hp,nx:=c.nx,lim:=c.lim,tc:=c.tc} a:=by
   refine ⟨?_,hh,hw,hf,hg,rfl⟩;have:a.tmps.toList=vF++bf (fn.ntmps - args.length) undef:=by simp[a,hlen]
   rw[this];exact hd.append (ni.any _ _ (by simp))
  have hit:pV (nC fn) [.code []] [.code body]:=by
   have:=pV.code (body:=nC fn) [] pV.nil;simp_all [oh,nC]
  obtain ⟨out,h1,h2⟩:=hr ag g [.code []] _ H E w a fn [.code body] _ hfn (bz h) st hit b cs;cases out with
  |stop _ _ _=>exact h1.elim |done sv c'=>
   obtain ⟨a',w',H',E',v,todo,q1,q2,q3,q4,q5⟩:=h2;refine ⟨.returned v,w',_,⟨_,v,H',E',rfl,h1,q4,?_⟩,by rw[henter];exact q1,rfl,rfl,q2.defers,rfl,fn,hP,q5⟩;have q3':=q3.to (d:=c) (d':={c' with tm:=c.tm}) rfl rfl rfl rfl rfl rfl rfl rfl
   have q6:=q3'.gc hf (p:=fun i=>cq c.nx i&&bO i c.lim && !(reach c'.hp 4000 (refs sv++Ew c'.hp c'.tc) []).contains i) (fun i hi=>by simp_all);exact q6
theorem ajV:Xj P C K (run C 0):=fun _ _ _ _ H E w a _ items _ _ h st hi _ _=>
 ⟨_,h,rfl,a,w,H,E,items,.refl _ _,st,zZ st rfl rfl rfl rfl,hi⟩
theorem ajW(hC:oC P C)(hF:oD P C){n:Nat}(ih:Xj P C K (run C n)):Xj P C K (run C (n+1)):=by
 intro top g td c H E w a fn items φ hfn h st hi b cs;have hK:=Ip hC hF ih;unfold run at h;rw[hfn] at h;simp only at h;obtain ⟨sig,h1,h2⟩:=Nk hC hF hK (bz h) st hi b cs;cases sig with
 |go uJ c'=>
  obtain ⟨a',w',H',E',items',q1,q2,q3,q4⟩:=h2;obtain ⟨out,q5,q6⟩:=ih top g _ _ _ _ _ _ fn _ φ hfn h1 q2 q4 b cs;exact ⟨out,q5,q6.of q1 q3⟩
 |done sv c'=>exact ⟨_,h1,h2⟩ |halt uJ c'=>exact ⟨_,h1,rfl,h2⟩
theorem Nl(hC:oC P C)(hF:oD P C):∀n,Xj P C K (run C n)
 |0=>ajV |n+1=>ajW hC hF (Nl hC hF n)
end
mutual
def aav:SV->List Nat
 | .agg l=>OZ l | .mX l=>OZ l | .fn _ l=>Ai l | .qK _ x=>af8 x | .ptr id _=>[id] |_=>[]
def OZ:List SV->List Nat
 |[]=>[] |x::r=>aav x++OZ r
end
def QA(hp:List (Nat×SB))(id:Nat):Option (Nat×Nat×Nat×(Nat->List Sh)):=
 match mQ hp id with
 |some (.own e st n g)=>ae (e,st,n,g) |some (.row cells e st n)=>bif vY cells then (xY hp cells).map fun l=>(e,st,n,nM (chunks st n l)) else ao |_=>ao
mutual
def Ap(hp:List (Nat×SB)):SV->List Nat
 | .agg l=>QB hp l | .mX l=>QB hp l | .gs id=>match mQ hp id with
  |some (.fz _ _ _)=>[] |_=>[id]
 |_=>[]
def QB(hp:List (Nat×SB)):List SV->List Nat
 |[]=>[] |x::r=>Ap hp x++QB hp r
end
mutual
def Aq(hp:List (Nat×SB)):SV->Option Sh
 | .agg l=>(Np hp l).map .agg | .mX l=>(Np hp l).map .mX | .gs id=>match mQ hp id with
  |some (.fz st n g)=>ae (.sl st n g) |_=>(QA hp id).map fun r=>.os r.1 r.2.1 r.2.2.1 r.2.2.2
 |x=>rZ hp x
def Np(hp:List (Nat×SB)):List SV->Option (List Sh)
 |[]=>ae [] |x::r=>match Aq hp x,Np hp r with
  |some s,ae l=>ae (s::l) |_,_=>ao
end
def CX:List Nat->Bool
 |[]=>ah |x::l=>!l.contains x&&CX l
def al1(hp:List (Nat×SB)):List Nat->List Nat
 |[]=>[] |id::r=>(match mQ hp id with
  |some (.row cells _ _ _)=>Ai cells |_=>[])++al1 hp r
def finish(c:Core)(v:SV):Option Sh:=
 match freeze c.hp (aav v++al1 c.hp (Ap c.hp v)) with
 |some hp=>bif CX (Ap hp v) then Aq hp v else ao |none=>ao
section
variable{P:Program}{C:Ctx}{K:Kx}{H H' G9:Mem}{E E' He E1:Env}{w w' w'':World}
theorem Xk:∀{l:List Nat} {i j x:Nat},CX l=ah->l[i]?=ae x->l[j]?=ae x->i=j
 |[],_,_,_,_,h,_=>by simp at h |y::l,0,0,_,_,_,_=>rfl |y::l,0,j+1,x,h,h1,h2=>by
  grind [CX]
 |y::l,i+1,0,x,h,h1,h2=>by
  grind [CX]
 |y::l,i+1,j+1,x,h,h1,h2=>by
  simp only[CX,ak] at h;have e:=Xk (l:=l) (i:=i) (j:=j) (x:=x) h.2 (by grind) (by grind);rw[e]
theorem Xl{hp:List (Nat×SB)}{id:Nat}{r:Nat×Nat×Nat×(Nat->List Sh)}(hh:nI K H E w hp)(h:QA hp id=ae r):
  xU K H E w id (.own r.1 r.2.1 r.2.2.1 r.2.2.2)/\∃sb,mQ hp id=ae sb/\∀b,bk E id=ae b->nU E id sb=ae b:=by
 unfold QA at h;split at h
 ·rename_i e st n g hl
  cases h;exact ⟨hh.ent _ _ hl,_,hl,fun b hb=>hb⟩
 ·rename_i cells e st n hl
  cases ho:vY cells<;>simp only[ho,cond_true,cond_false] at h
  ·cases h
  simp only[aP] at h;obtain ⟨l,h1,rfl⟩:=h;obtain ⟨v,xs,e1,e2,e3,e4⟩:=hh.ent _ _ hl;exact ⟨⟨v,xs,e1,e2,Bj e2.1 (sJ hh h1 e3) (vC ho e3),e4⟩,_,hl,fun b hb=>hb⟩
 ·cases h
def arl(K:Kx)(H:Mem)(E:Env)(w:World)(hp:List (Nat×SB))(id:Nat)(x:SB):Prop:=
 xU K H E w id x/\(∃e st n g,x=.own e st n g)/\∃sb,mQ hp id=ae sb/\∀b,bk E id=ae b->nU E id sb=ae b
mutual
theorem Tf:∀{s:Sh} {u:Value} (b0:Nat),Rep H s u->Den H E1 (qA s b0).1 u/\(qA s b0).2.2=b0/\(qA s b0).2.1=[]
 | .i k n,_,b0,h=>by cases h;exact ⟨rfl,rfl,rfl⟩ | .b y,_,b0,h=>by cases h;exact ⟨rfl,rfl,rfl⟩ | .v y,_,b0,h=>by cases h with|v _ h1=>exact ⟨ado h1,rfl,rfl⟩
 | .str l,_,b0,h=>⟨h,rfl,rfl⟩ | .sl _ _ _,_,b0,h=>⟨h,rfl,rfl⟩ | .qK _ _,_,b0,h=>⟨h,rfl,rfl⟩ | .fn _ _,_,b0,h=>⟨OG h,rfl,rfl⟩ | .er _ _,_,b0,h=>⟨h,rfl,rfl⟩ | .pt _,_,b0,h=>⟨OG h,rfl,rfl⟩ | .os _ _ _ _,_,b0,h=>by cases h | .agg l,u,b0,h=>by
  cases h with
  |agg _ vs h1 h2=>
   have:=O1 (l:=l) (vs:=vs.toList) b0 (md (by omega) fun j s v e1 e2=>h2 j s v e1 (by grind));exact ⟨⟨vs,rfl,this.1⟩,this.2.1,this.2.2⟩
 | .mX l,u,b0,h=>by
  cases h with
  |mX _ vs h1 h2=>
   have:=O1 (l:=l) (vs:=vs.toList) b0 (md (by omega) fun j s v e1 e2=>h2 j s v e1 (by grind));exact ⟨⟨vs,rfl,this.1⟩,this.2.1,this.2.2⟩
theorem O1:∀{l:List Sh} {vs:List Value} (b0:Nat),sD H l vs->ni H E1 (tY l b0).1 vs/\(tY l b0).2.2=b0/\(tY l b0).2.1=[]
 |[],[],b0,_=>⟨trivial,rfl,rfl⟩ |s::l,v::vs,b0,⟨h1,h2⟩=>by
  have a:=Tf b0 h1;have b:=O1 b0 h2;simp only[tY,a.2.1,a.2.2,List.nil_append];exact ⟨⟨a.1,b.1⟩,b.2⟩
 |[],_::_,_,h=>h.elim |_::_,[],_,h=>h.elim
end
def Knows(E E1:Env)(b0:Nat)(ids:List Nat):Prop:=∀k id,ids[k]?=ae id->E1 (b0+k)=E id
theorem Knows.left{b0:Nat}{l l':List Nat}(h:Knows E E1 b0 (l++l')):Knows E E1 b0 l:=fun k id hk=>h k id (by
 grind)
theorem Knows.right{b0:Nat}{l l':List Nat}(h:Knows E E1 b0 (l++l')):Knows E E1 (b0+l.length) l':=fun k id hk=>by
 rw[Nat.add_assoc];exact h (l.length+k) id (by grind)
structure Ea(K:Kx)(H:Mem)(E E1:Env)(w:World)(hp:List (Nat×SB))(ids:List Nat)(b0 n:Nat)(l:List (Nat×SB)):Prop where
 len:n=b0+ids.length
 mem:∀i x,(i,x)∈l->∃k id,i=b0+k/\ids[k]?=ae id/\arl K H E w hp id x
 cov:∀id∈ids,∃sb,mQ hp id=ae sb/\∀b,bk E id=ae b->nU E id sb=ae b
theorem Ea.nil{hp:List (Nat×SB)}{b0:Nat}:Ea K H E E1 w hp [] b0 b0 []:=⟨rfl,fun _ _ h=>(by cases h),fun _ h=>(by cases h)⟩
theorem Ea.app{hp:List (Nat×SB)}{b0 n m:Nat}{i1 i2:List Nat}{l1 l2:List (Nat×SB)}(h1:Ea K H E E1 w hp i1 b0 n l1)(h2:Ea K H E E1 w hp i2 n m l2):Ea K H E E1 w hp (i1++i2) b0 m (l1++l2):=by
 refine ⟨by rw[h2.len,h1.len,List.length_append];omega,fun i x hx=>?_,fun id hid=>(aU.1 hid).elim (h1.cov id) (h2.cov id)⟩;rcases aU.1 hx with hx|hx
 ·obtain ⟨k,id,e1,e2,e3⟩:=h1.mem i x hx
  exact ⟨k,id,e1,by grind,e3⟩
 ·obtain ⟨k,id,e1,e2,e3⟩:=h2.mem i x hx
  exact ⟨i1.length+k,id,by rw[e1,h1.len];omega,by grind,e3⟩
mutual
theorem aaw{hp:List (Nat×SB)}(hh:nI K H E w hp):∀{x:SV} {s:Sh} {u:Value} (b0:Nat),Aq hp x=ae s->Den H E x u->Knows E E1 b0 (Ap hp x)->
  Den H E1 (qA s b0).1 u/\Ea K H E E1 w hp (Ap hp x) b0 (qA s b0).2.2 (qA s b0).2.1
 | .agg l,s,u,b0,h,hd,hk=>by
  simp only[Aq,aP] at h;obtain ⟨l',h1,rfl⟩:=h;obtain ⟨vs,rfl,hl⟩:=hd;have:=O4 hh b0 h1 hl (by assumption);exact ⟨⟨vs,rfl,this.1⟩,by simp_all [Ap,qA]⟩
 | .mX l,s,u,b0,h,hd,hk=>by
  simp only[Aq,aP] at h;obtain ⟨l',h1,rfl⟩:=h;obtain ⟨vs,rfl,hl⟩:=hd;have:=O4 hh b0 h1 hl (by assumption);exact ⟨⟨vs,rfl,this.1⟩,by simp_all [Ap,qA]⟩
 | .gs id,s,u,b0,h,hd,hk=>by
  simp only[Aq] at h;split at h
  ·rename_i st n g hl
   cases h;obtain ⟨v,he,hr⟩:=hh.ent _ _ hl;rw[hd.1] at he;grind [Ap,Tf,Ea.nil]
  ·rename_i hne
   simp only[aP] at h;obtain ⟨r,h1,rfl⟩:=h;have hi:Ap hp (.gs id)=[id]:=by
    simp only[Ap]
   rw[hi] at hk ⊢;have hE1:E1 b0=E id:=by simpa using hk 0 id rfl
   obtain ⟨a1,a2⟩:=Xl hh h1;refine ⟨⟨by rw[hE1];exact hd.1,hd.2⟩,⟨by simp[qA],fun i x hx=>?_,fun i hi=>?_⟩⟩;rotate_left
   ·simp_all
   simp[qA] at hx;obtain ⟨rfl,rfl⟩:=hx;exact ⟨0,id,rfl,rfl,a1,⟨_,_,_,_,rfl⟩,a2⟩
 | .any,s,u,b0,h,hd,hk=>by simp[Aq,rZ] at h | .val _,s,u,b0,h,hd,hk=>tC hh b0 h (by rfl) (by rfl) hd | .int _ _,s,u,b0,h,hd,hk=>tC hh b0 h (by rfl) (by rfl) hd | .sym _ _,s,u,b0,h,hd,hk=>tC hh b0 h (by rfl) (by rfl) hd | .bool _,s,u,b0,h,hd,hk=>tC hh b0 h (by rfl) (by rfl) hd | .test _,s,u,b0,h,hd,hk=>tC hh b0 h (by rfl) (by rfl) hd | .str _,s,u,b0,h,hd,hk=>tC hh b0 h (by rfl) (by rfl) hd | .ptr _ _,s,u,b0,h,hd,hk=>tC hh b0 h (by rfl) (by rfl) hd | .gp _ _ _ _,s,u,b0,h,hd,hk=>by simp[Aq,rZ] at h | .uN,s,u,b0,h,hd,hk=>tC hh b0 h (by rfl) (by rfl) hd | .nS,s,u,b0,h,hd,hk=>tC hh b0 h (by rfl) (by rfl) hd | .xX,s,u,b0,h,hd,hk=>tC hh b0 h (by rfl) (by rfl) hd | .sS,s,u,b0,h,hd,hk=>tC hh b0 h (by rfl) (by rfl) hd | .wS,s,u,b0,h,hd,hk=>by simp[Aq,rZ] at h | .fn _ _,s,u,b0,h,hd,hk=>tC hh b0 h (by rfl) (by rfl) hd | .qK _ _,s,u,b0,h,hd,hk=>tC hh b0 h (by rfl) (by rfl) hd | .mp _,s,u,b0,h,hd,hk=>by simp[Aq,rZ] at h | .sh _,s,u,b0,h,hd,hk=>tC hh b0 h (by rfl) (by rfl) hd | .yD _ _ _ _ _,s,u,b0,h,hd,hk=>tC hh b0 h (by rfl) (by rfl) hd | .ev _,s,u,b0,h,hd,hk=>by simp[Aq,rZ] at h | .vw _ _,s,u,b0,h,hd,hk=>by simp[Aq,rZ] at h | .glob _,s,u,b0,h,hd,hk=>by simp[Aq,rZ] at h
theorem O4{hp:List (Nat×SB)}(hh:nI K H E w hp):∀{l:List SV} {l':List Sh} {vs:List Value} (b0:Nat),Np hp l=ae l'->ni H E l vs->Knows E E1 b0 (QB hp l)->
  ni H E1 (tY l' b0).1 vs/\Ea K H E E1 w hp (QB hp l) b0 (tY l' b0).2.2 (tY l' b0).2.1
 |[],l',[],b0,h,_,_=>by simp[Np] at h;subst h;exact ⟨trivial,Ea.nil⟩ |x::l,l',v::vs,b0,h,⟨h1,h2⟩,hk=>by
  simp only[Np] at h;split at h
  ·rename_i s r e1 e2
   cases h;have a:=aaw hh b0 e1 h1 hk.left;have hk2:=hk.right;rw[<-a.2.len] at hk2;have b:=O4 hh _ e2 h2 hk2;simp only[tY];exact ⟨⟨a.1,b.1⟩,a.2.app b.2⟩
  ·cases h
 |[],_,_::_,_,_,h,_=>h.elim |_::_,_,[],_,_,h,_=>h.elim
theorem tC{hp:List (Nat×SB)}(hh:nI K H E w hp){x:SV}{s:Sh}{u:Value}(b0:Nat)(h:Aq hp x=ae s)(hx:Aq hp x=rZ hp x)(hi:Ap hp x=[])(hd:Den H E x u):
  Den H E1 (qA s b0).1 u/\Ea K H E E1 w hp (Ap hp x) b0 (qA s b0).2.2 (qA s b0).2.1:=by
 grind [Tf,EM,Ea.nil]
end
theorem aax:∀{l hp:List (Nat×SB)} {i:Nat} {x:SB},mQ (rM hp l) i=ae x->(i,x)∈l\/mQ hp i=ae x
 |[],_,_,_,h=>.inr h |(j,b)::l,hp,i,x,h=>by
  rcases aax (l:=l) h with h|h
  ·simp_all
  grind [uI]
def K0(H:Mem)(w:World):Kx:=⟨w,fun _=>False,H⟩
theorem O5{c:Core}{a:Act}{H0:Mem}{w0:World}{sv:SV}{s:Sh}{u:Value}(st:St C (K0 H0 w0) H E w c a)(hf:finish c sv=ae s)(hd:Den H E sv u):∃H',qy H0 w0 s u H' w:=by
 unfold finish at hf;split at hf
 ·rename_i hp hfz
  obtain ⟨H1,hH,hh,hw,_⟩:=CU hfz st.hp st.o7;cases hn:CX (Ap hp sv)<;>simp only[hn,cond_true,cond_false] at hf
  ·cases hf
  refine ⟨H1,hw.le,hw.on,hw.os,hw.tape,hw.output,hw.size,fun b hb=>hw.kept b hb id,fun b hb=>?_,fun b0=>?_⟩
  ·rcases hw.fresh b hb with h|h|h
   ·exact .inl h
   ·exact .inr h
   ·exact h.elim
  ·let ids:=Ap hp sv
   let E1:Env:=fun i=>if b0<=i then (ids[i - b0]?).bind E else ao
   have hk:Knows E E1 b0 ids:=fun k id hk=>by
    grind
   obtain ⟨a1,a2⟩:=aaw (E1:=E1) hh b0 hf (hd.le hH fun _ _ e=>e) hk;have hid:∀i v,E1 i=ae v->∃k id,i=b0+k/\ids[k]?=ae id/\E id=ae v:=fun i v hv=>by
    grind
   have hat:∀i x,mQ (rM [] (qA s b0).2.1) i=ae x->∃k id,i=b0+k/\ids[k]?=ae id/\arl (K0 H0 w0) H1 E w hp id x:=fun i x hl=>by
    rcases aax hl with h|h
    ·exact a2.mem i x h
    ·simp[mQ] at h
   have hbk:∀{k id:Nat},ids[k]?=ae id->bk E1 (b0+k)=bk E id:=fun {k id} h=>by grind [bk]
   refine ⟨E1,fun i hi=>?_,fun i b hb=>?_,a1,⟨fun i x hl=>?_,fun i j x y b h1 h2 o1 o2=>?_⟩⟩
   ·cases hv:E1 i with
    |none=>simp_all |some v=>
     obtain ⟨k,id,rfl,h2,_⟩:=hid i v hv;have:k<(Ap hp sv).length:=(List.getElem?_eq_some_iff.1 h2).1;rw[a2.len];omega
   ·cases hv:E1 i with
    |none=>grind [bk] |some v=>
     obtain ⟨k,id,rfl,h2,h3⟩:=hid i v hv;rw[hbk h2] at hb;have hown:∃sb,mQ hp id=ae sb/\nU E id sb=ae b:=by
      obtain ⟨sb,q1,q2⟩:=a2.cov id (List.mem_of_getElem? h2);simp_all
     obtain ⟨sb,h4,h5⟩:=hown;have:=((hh.ent _ _ h4).lt h5).2.2;rcases this with h|h
     ·exact h
     ·exact h.elim
   ·obtain ⟨k,id,rfl,h2,h3,⟨e,st',n,g,rfl⟩,_⟩:=hat i x hl
    obtain ⟨v,xs,e1,e2,e3,e4⟩:=h3;exact ⟨v,xs,by grind,e2,e3,e4⟩
   ·obtain ⟨k,id,rfl,p1,_,⟨_,_,_,_,rfl⟩,sb1,p3,p4⟩:=hat i x h1
    obtain ⟨k',id',rfl,q1,_,⟨_,_,_,_,rfl⟩,Qu,q3,q4⟩:=hat j y h2;have o1':bk E id=ae b:=by rw[<-hbk p1];exact o1
    have o2':bk E id'=ae b:=by rw[<-hbk q1];exact o2
    have:=hh.vV _ _ _ _ _ p3 q3 (p4 b o1') (q4 b o2');grind [Xk]
 ·cases hf
end
inductive Fin where
 |ret (s:Sh)
 |stop (td:List It) (c:Core)
def fin:Out->Tree Fin
 | .done sv c=>match finish c sv with
  |some s=>.leaf (.ret s) |none=>.fail
 | .stop _ td c=>.leaf (.stop td c)
def nX(m:Nat)(nY:List Sh)(L:Nat):Core:={tm:=EW nY++bf (m - nY.length) .any,hp:=[],nx:=0,lim:=L,tc:=[]}
section
variable{P:Program}{C:Ctx}{K:Kx}{H H' G9 H0:Mem}{E E' He E1:Env}{w w' w'' w0:World}
theorem nD.mono{gls:List (Nat×Sh)}{f:Nat}{F F':List Sh->Tree Sh}(h:nD P gls f F')(hp:∀(H:Mem) (nY:List Sh) (args:List Value) (φ:Sh->Prop),sD H nY args->(F nY).All φ->(F' nY).All φ):nD P gls f F:=
 fun H w nY args φ h1 h2 h3 h4=>h H w nY args φ h1 h2 h3 (hp H nY args φ h3 h4)
end
inductive Rn where
 |id (i:Nat)
 |nil
mutual
def uS(hp:List (Nat×SB))(ρ:List (Nat×Rn)):SV->SV->Prop
 |_,.any=>True |x,.sym k m=>match x with
  | .int k' n=>k'=k/\n=m | .sym k' n=>k'=k/\n=m |_=>False
 |x,.test b=>match x with
  | .bool b'=>b'=b | .test b'=>b'=b |_=>False
 |x,.gs id'=>match x with
  | .gs id=>mQ ρ id'=ae (.id id) | .nS=>mQ ρ id'=ae .nil |_=>False
 |x,.ptr id' off'=>match x with
  | .ptr id off=>mQ ρ id'=ae (.id id)/\off=off' |_=>False
 |x,.mp id'=>match x with
  | .mp id=>mQ ρ id'=ae (.id id) |_=>False
 |x,.fn f' l'=>match x with
  | .fn f l=>f=f'/\Xm hp ρ l l' |_=>False
 |x,.agg l'=>match x with
  | .agg l=>Xm hp ρ l l' |_=>False
 |x,.mX l'=>match x with
  | .mX l=>Xm hp ρ l l' |_=>False
 |x,.qK t' y=>match x with
  | .qK t z=>t=t'/\uS hp ρ z y |_=>False
 |x,.sh s=>rZ hp x=ae s\/(match x,s with| .nS,.sl _ n _=>n=0|_,_=>False)
 |x,.yD st' n' g' i' off'=>match x with
  | .yD st n g i off=>st=st'/\n=n'/\g=g'/\i=i'/\off=off' |x=>rZ hp x=ae (.pt (g' i'))/\off'=0/\(g' i').length=st'/\i'<n'
 |x,.int k' n'=>match x with
  | .int k n=>k=k'/\n=n' | .sym k n=>k=k'/\n=n' |_=>False
 |x,.bool b'=>match x with
  | .bool b=>b=b' | .test b=>b=b' |_=>False
 | .uN,.uN=>True | .nS,.nS=>True | .xX,.xX=>True | .sS,.sS=>True | .wS,.wS=>True | .glob g,.glob g'=>g=g' | .str l,.str l'=>l=l' | .val v,.val v'=>v=v' |_,_=>False
def Xm(hp:List (Nat×SB))(ρ:List (Nat×Rn)):List SV->List SV->Prop
 |[],[]=>True |x::l,y::l'=>uS hp ρ x y/\Xm hp ρ l l' |_,_=>False
end
def leM(hp:List (Nat×SB))(ρ:List (Nat×Rn)):List (SV×SV)->List (SV×SV)->Prop
 |[],[]=>True |(a,b)::l,(a',b')::l'=>uS hp ρ a a'/\uS hp ρ b b'/\leM hp ρ l l' |_,_=>False
def valOf:SV->Option Value
 | .int k n=>ae (.int k n) | .sym k n=>ae (.int k n) | .bool b=>ae (.bool b) | .test b=>ae (.bool b) |_=>ao
end Go.Sx
namespace Go.Pl
open Go Go.Sx
def Ep(n:rX)(o:Option Value)(N:rX->Option Value):rX->Option Value:=fun j=>if j=n then o else N j
end Go.Pl
namespace Go.Sx
open Go.Pl (Ep)
def Xn(M:rX->Option Value):List (rX×Bool×SV)->Option (rX->Option Value)
 |[]=>ae M |(n,p,sv)::r=>match Xn M r with
  |some N=>match p with
   |true=>(valOf sv).map fun v=>Ep n (ae v) N |false=>ae (Ep n ao N)
  |none=>ao
theorem ajX{H:Mem}{E:Env}{sv:SV}{v x:Value}(h:valOf sv=ae v)(hd:Den H E sv x):x=v:=by
 unfold valOf at h;split at h;all_goals first|cases h
 all_goals exact hd
theorem adX{H:Mem}{E:Env}{M:rX->Option Value}:∀{us:List (rX×Bool×SV)} {uv:List (rX×Option Value)} {N:rX->Option Value},Xn M us=ae N->Qd H E us uv->KR M uv=N
 |[],[],N,h,_=>by cases h;rfl |[],_::_,_,_,h=>h.elim |_::_,[],_,_,h=>h.elim |(n,p,sv)::r,(m,o)::uv,N,h,⟨e,hd,hr⟩=>by
  subst e;simp only[Xn] at h;split at h
  ·rename_i N' hN
   have ih:=adX hN hr;cases p with
   |true=>
    cases o with
    |none=>exact hd.elim |some x=>
     simp only at h;cases hv:valOf sv with
     |none=>simp_all |some v=>
      rw[hv] at h;cases h;rw[ajX hv hd.1];show (fun j=>if j=m then ae v else KR M uv j)=_;rw[ih];rfl
   |false=>
    cases o with
    |some x=>exact hd.elim |none=>
     cases h;show (fun j=>if j=m then ao else KR M uv j)=_;rw[ih];rfl
  ·cases h
theorem aay{vt:VT}{M:rX->Option Value}(hM:aik vt M):∀{us:List (rX×Bool×SV)} {N:rX->Option Value},alB vt us->Xn M us=ae N->aik vt N
 |[],N,_,h=>by cases h;exact hM |(n,p,sv)::r,N,hL,h=>by
  simp only[Xn] at h;split at h
  ·rename_i N' hN
   have ih:=aay hM (fun u hu=>hL u (aZ _ hu)) hN;cases p with
   |true=>
    simp only at h;cases hv:valOf sv with
    |none=>simp_all |some v=>
     rw[hv] at h;cases h;have ht:sv.aah vt=ah:=hL (n,ah,sv) bj rfl;intro k x hx;have hx:(if k=n then ae v else N' k)=ae x:=hx;split at hx
     ·cases hx
      cases sv<;>cases vt<;>simp[SV.aah] at ht<;>(unfold valOf at hv;cases hv)
      all_goals first|exact ⟨_,rfl⟩ |skip
      all_goals (rename_i kk _;cases kk<;>simp at ht;exact ⟨_,rfl⟩)
     ·exact ih k x hx
   |false=>
    cases h;intro k x hx;have hx:(if k=n then ao else N' k)=ae x:=hx;split at hx
    ·cases hx
    ·exact ih k x hx
  ·cases h
def leB(hp:List (Nat×SB))(ρ:List (Nat×Rn))(id':Nat):SB->Prop
 | .box cells' e'=>match mQ ρ id' with
  |some (.id id)=>match mQ hp id with
   |some (.box cells e)=>e=e'/\Xm hp ρ cells cells' |_=>False
  |_=>False
 | .row cells' e' st' n'=>match mQ ρ id' with
  |some (.id id)=>match mQ hp id with
   |some (.row cells e st n)=>e=e'/\st=st'/\n=n'/\Xm hp ρ cells cells' |_=>False
  |_=>False
 | .own e' st' n' g'=>match mQ ρ id' with
  |some (.id id)=>match QA hp id with
   |some (e,st,n,g)=>e=e'/\st=st'/\n=n'/\∀i,i<n->g i=g' i |_=>False
  |some .nil=>n'=0 |none=>False
 | .map es'=>match mQ ρ id' with
  |some (.id id)=>match mQ hp id with
   |some (.map es)=>leM hp ρ es es' |_=>False
  |_=>False
 | .fz _ _ _=>False | .KA _=>False | .yE _ _ _ _ _=>False | .fm _ _ _ _ _=>False | .pm vt' M' us'=>match mQ ρ id' with
  |some (.id id)=>match mQ hp id with
   |some (.pm vt M us)=>us'=[]/\vt=vt'/\Xn M us=ae M' |_=>False
  |_=>False
 | .buf e' l'=>match mQ ρ id' with
  |some (.id id)=>match mQ hp id with
   |some (.buf e l)=>e=e'/\l=l' |_=>False
  |_=>False
def leH(hp:List (Nat×SB))(ρ:List (Nat×Rn)):List (Nat×SB)->Prop
 |[]=>True |(id',sb)::l=>leB hp ρ id' sb/\leH hp ρ l
def Eb:List (Nat×Rn)->List Nat
 |[]=>[] |(_,.id i)::l=>i::Eb l |_::l=>Eb l
def air(nx:Nat):List (Nat×Rn)->Bool
 |[]=>ah |(j,_)::l=>bO j nx&&air nx l
def al3(nx:Nat)(ρ:List (Nat×Rn)):Bool:=CX (Eb ρ)&&air nx ρ
def leC(ρ:List (Nat×Rn))(c c':Core):Prop:=Xm c.hp ρ c.tm c'.tm/\leH c.hp ρ c'.hp/\al3 c'.nx ρ=ah
section
variable{P:Program}{C:Ctx}{K:Kx}{H H' G9 H0:Mem}{E E' He E1:Env}{w w' w'' w0:World}{hp:List (Nat×SB)}{ρ:List (Nat×Rn)}
def wo(ρ:List (Nat×Rn))(E:Env):Env:=fun i'=>match mQ ρ i' with
 |some (.id i)=>E i |some .nil=>ae (.slice ao 0 0) |none=>ao
theorem rG{i i':Nat}(h:mQ ρ i'=ae (.id i)):wo ρ E i'=E i:=by simp[wo,h]
theorem O6{i':Nat}(h:mQ ρ i'=ae .nil):wo ρ E i'=ae (.slice ao 0 0):=by simp[wo,h]
mutual
theorem Ld(hh:nI K H E w hp):∀{x:SV} (y:SV) {u:Value},uS hp ρ x y->Den H E x u->Den H (wo ρ E) y u
 |x,.any,u,_,_=>trivial |x,.sym k m,u,h,hd=>by
  cases x<;>simp only[uS] at h
  all_goals first|exact h.elim|(obtain ⟨rfl,rfl⟩:=h;exact hd)
 |x,.test b,u,h,hd=>by
  cases x<;>simp only[uS] at h
  all_goals first|exact h.elim|(subst h;exact hd)
 |x,.gs id',u,h,hd=>by
  cases x<;>simp only[uS] at h
  case gs id=>exact ⟨by rw[rG h];exact hd.1,hd.2⟩
  case nS=>obtain rfl:u=_:=hd;exact ⟨O6 h,_,_,_,rfl⟩
 |x,.ptr id' off',u,h,hd=>by
  cases x<;>simp only[uS] at h
  case ptr id off=>obtain ⟨h,rfl⟩:=h;obtain ⟨b,h1,h2⟩:=hd;exact ⟨b,by grind [rG],h2⟩
 |x,.mp id',u,h,hd=>by
  cases x<;>simp only[uS] at h
  case mp id=>obtain ⟨b,h1,h2⟩:=hd;exact ⟨b,by grind [rG],h2⟩
 |x,.fn f' l',u,h,hd=>by
  cases x<;>simp only[uS] at h
  case fn f l=>obtain ⟨rfl,h⟩:=h;obtain ⟨vs,rfl,hl⟩:=hd;exact ⟨vs,rfl,Aa hh l' h hl⟩
 |x,.agg l',u,h,hd=>by
  cases x<;>simp only[uS] at h
  case agg l=>obtain ⟨vs,rfl,hl⟩:=hd;exact ⟨vs,rfl,Aa hh l' h hl⟩
 |x,.mX l',u,h,hd=>by
  cases x<;>simp only[uS] at h
  case mX l=>obtain ⟨vs,rfl,hl⟩:=hd;exact ⟨vs,rfl,Aa hh l' h hl⟩
 |x,.qK t' y,u,h,hd=>by
  cases x<;>simp only[uS] at h
  case qK t z=>obtain ⟨rfl,h⟩:=h;obtain ⟨v,rfl,hl⟩:=hd;exact ⟨v,rfl,Ld hh y h hl⟩
 |x,.sh s,u,h,hd=>by
  have key:rZ hp x=ae s\/(x=.nS/\∃st g,s=.sl st 0 g):=by
   unfold uS at h;grind
  rcases key with h|⟨rfl,st,g,rfl⟩
  ·exact EM hh h hd
  ·obtain rfl:u=_:=hd
   exact .sl0 _ _ _ _ (Nat.zero_le _)
 |x,.int k n,u,h,hd=>by
  cases x<;>simp only[uS] at h
  case int k' n'=>obtain ⟨rfl,rfl⟩:=h;exact hd
  case sym k' n'=>obtain ⟨rfl,rfl⟩:=h;exact hd
 |x,.bool b,u,h,hd=>by
  cases x<;>simp only[uS] at h
  case bool b'=>subst h;exact hd
  case test b'=>subst h;exact hd
 |x,.uN,u,h,hd=>by
  cases x<;>simp only[uS] at h
  assumption
 |x,.nS,u,h,hd=>by
  cases x<;>simp only[uS] at h
  assumption
 |x,.xX,u,h,hd=>by
  cases x<;>simp only[uS] at h
  assumption
 |x,.sS,u,h,hd=>by
  cases x<;>simp only[uS] at h
  assumption
 |x,.wS,u,h,hd=>by
  cases x<;>simp only[uS] at h
  assumption
 |x,.glob g,u,h,hd=>by
  cases x<;>simp only[uS] at h
  case glob g'=>subst h;exact hd
 |x,.str l,u,h,hd=>by
  cases x<;>simp only[uS] at h
  case str l'=>subst h;exact hd
 |x,.val v,u,h,hd=>by
  cases x<;>simp only[uS] at h
  case val v'=>subst h;exact hd
 |x,.yD st n g i off,u,h,hd=>by
  have key:(∃st' n' g' i' off',x=.yD st' n' g' i' off'/\st'=st/\n'=n/\g'=g/\i'=i/\off'=off)\/(rZ hp x=ae (.pt (g i))/\off=0/\(g i).length=st/\i<n):=by
   (cases x<;>simp only[uS] at h)<;>grind
  rcases key with ⟨_,_,_,_,_,rfl,rfl,rfl,rfl,rfl,rfl⟩ |⟨h9,rfl,h2,h3⟩
  ·exact hd
  ·have hr:=EM hh h9 hd
   cases hr with
   |pt _ b off2 c a1 a2 a3=>exact ⟨b,off2,c,rfl,h3,h2,fun j hj=>⟨a1 j (by omega),a2 j (by omega)⟩,a3⟩
 |x,.gp id st i off,u,h,hd=>by
  simp_all [uS]
 |x,.ev id,u,h,hd=>by
  simp_all [uS]
 |x,.vw id n,u,h,hd=>by
  simp_all [uS]
theorem Aa(hh:nI K H E w hp):∀{l:List SV} (l':List SV) {vs:List Value},Xm hp ρ l l'->ni H E l vs->ni H (wo ρ E) l' vs
 |[],[],[],_,_=>trivial |_::_,y::l',_::_,⟨h1,h2⟩,⟨d1,d2⟩=>⟨Ld hh y h1 d1,Aa hh l' h2 d2⟩ |[],_::_,_,h,_=>h.elim |_::_,[],_,h,_=>h.elim |_::_,_::_,[],_,hd=>hd.elim |[],[],_::_,_,hd=>hd.elim
end
theorem adY(hh:nI K H E w hp):∀{l l':List (SV×SV)} {ms:List MapEntry},leM hp ρ l l'->Gj H E l ms->Gj H (wo ρ E) l' ms
 |[],[],[],_,_=>trivial |(_,_)::_,(a,b)::_,_::_,⟨h1,h2,h3⟩,⟨d1,d2,d3⟩=>⟨Ld hh a h1 d1,Ld hh b h2 d2,adY hh h3 d3⟩ |[],_::_,_,h,_=>h.elim |(_,_)::_,[],_,h,_=>h.elim |(_,_)::_,(_,_)::_,[],_,hd=>hd.elim |[],[],_::_,_,hd=>hd.elim
theorem Le{st n:Nat}{g g':Nat->List Sh}{xs:List Value}(h:pG H st n g xs)(hg:∀i,i<n->g i=g' i):pG H st n g' xs:=
 ⟨h.1,fun i hi=>by rw[<-hg i hi];exact h.2.1 i hi,h.2.2.1,fun i j s v hi e1 e2=>h.2.2.2 i j s v hi (by simp_all) e2⟩
theorem QC(hh:nI K H E w hp){id':Nat}{sb:SB}(h:leB hp ρ id' sb):xU K H (wo ρ E) w id' sb/\∀b,nU (wo ρ E) id' sb=ae b->∃id s0,mQ ρ id'=ae (.id id)/\mQ hp id=ae s0/\nU E id s0=ae b:=by
 cases sb with
 |box cells' e'=>
  simp only[leB] at h;split at h
  ·rename_i id hr
   split at h
   ·rename_i cells e hl
    obtain ⟨rfl,h⟩:=h;obtain ⟨b,cs,h1,h2,h3,h4⟩:=hh.ent _ _ hl;refine ⟨⟨b,cs,by grind [rG],h2,Aa hh _ h h3,h4⟩,fun b' hb=>⟨id,_,hr,hl,?_⟩⟩;simp_all [nU,rG]
   grind
  grind
 |row cells' e' st' n'=>
  simp only[leB] at h;split at h
  ·rename_i id hr
   split at h
   ·rename_i cells e st n hl
    obtain ⟨rfl,rfl,rfl,h⟩:=h;obtain ⟨v,xs,h1,h2,h3,h4⟩:=hh.ent _ _ hl;refine ⟨⟨v,xs,by grind [rG],h2,Aa hh _ h h3,h4⟩,fun b' hb=>⟨id,_,hr,hl,?_⟩⟩;simp_all [nU,rG]
   grind
  grind
 |own e' st' n' g'=>
  simp only[leB] at h;split at h
  ·rename_i id hr
   split at h
   ·rename_i e st n g hl
    obtain ⟨rfl,rfl,rfl,h⟩:=h;obtain ⟨⟨v,xs,h1,h2,h3,h4⟩,sb0,h5,h6⟩:=Xl hh hl;refine ⟨⟨v,xs,by grind [rG],h2,Le h3 h,h4⟩,fun b' hb=>⟨id,_,hr,h5,h6 b' ?_⟩⟩;simp only[nU,rG hr] at hb;exact hb
   grind
  ·rename_i hr
   subst h;refine ⟨⟨_,[],O6 hr,Ik _ _ _,CV _ _,fun b hb=>by simp[nH] at hb⟩,fun b hb=>?_⟩;grind [nU,O6,nH]
  grind
 |map es'=>
  simp only[leB] at h;split at h
  ·rename_i id hr
   split at h
   ·rename_i es hl
    obtain ⟨b,ms,clk,h1,h2,h3,h4⟩:=hh.ent _ _ hl;refine ⟨⟨b,ms,clk,by grind [rG],h2,adY hh h h3,h4⟩,fun b' hb=>⟨id,_,hr,hl,?_⟩⟩;simp_all [nU,rG]
   grind
  grind
 |fz st n g=>exact h.elim |KA l=>exact h.elim |yE e st n g m=>exact h.elim |fm k M fs us t=>exact h.elim |pm vt' M' us'=>
  simp only[leB] at h;split at h
  ·rename_i id hr
   split at h
   ·rename_i vt M us hl
    obtain ⟨rfl,rfl,h1⟩:=h;obtain ⟨b,ms,clk,uv,he,q1,d2,hT,hL,hok,h4⟩:=hh.ent _ _ hl;refine ⟨⟨b,ms,clk,[],by grind [rG],q1,trivial,aay hT hL h1,(fun _ h=>by cases h),?_,h4⟩,fun b' hb=>⟨id,_,hr,hl,?_⟩⟩
    ·have:=adX h1 d2
     rw[this] at hok;exact hok
    simp_all [nU,rG]
   grind
  grind
 |buf e l=>
  simp only[leB] at h;split at h
  ·rename_i id hr
   split at h
   ·rename_i e1 l1 hl
    obtain ⟨rfl,rfl⟩:=h;obtain ⟨v,he,h1,h3⟩:=hh.ent _ _ hl;refine ⟨⟨v,by grind [rG],h1,h3⟩,fun b hb=>⟨id,_,hr,hl,?_⟩⟩;simp_all [nU,rG]
   grind
  grind
theorem QD:∀{l:List (Nat×SB)} {i:Nat} {sb:SB},leH hp ρ l->mQ l i=ae sb->leB hp ρ i sb
 |[],_,_,_,h=>by simp[mQ] at h |(j,x)::l,i,sb,⟨h1,h2⟩,h=>by
  simp only[mQ] at h;cases hj:(j==i)<;>simp only[hj,cond_true,cond_false] at h
  ·exact QD h2 h
  simp_all
theorem adZ{nx:Nat}:∀{ρ:List (Nat×Rn)} {i:Nat} {r:Rn},air nx ρ=ah->mQ ρ i=ae r->i<nx
 |[],_,_,_,h=>by simp[mQ] at h |(j,x)::l,i,r,hu,h=>by
  simp only[air,ak] at hu;simp only[mQ] at h;cases hj:(j==i)<;>simp only[hj,cond_true,cond_false] at h
  ·exact adZ hu.2 h
  simp_all
theorem O7:∀{ρ:List (Nat×Rn)} {i k:Nat},mQ ρ i=ae (.id k)->k∈Eb ρ
 |[],_,_,h=>by simp[mQ] at h |(j,x)::l,i,k,h=>by
  simp only[mQ] at h;cases hj:(j==i)<;>simp only[hj,cond_true,cond_false] at h
  ·have:=O7 h
   cases x<;>simp[Eb,this]
  simp_all [Eb]
theorem abZ:∀{ρ:List (Nat×Rn)} {i j k:Nat},CX (Eb ρ)=ah->mQ ρ i=ae (.id k)->mQ ρ j=ae (.id k)->i=j
 |[],_,_,_,_,h,_=>by simp[mQ] at h |(m,x)::l,i,j,k,hn,h1,h2=>by
  simp only[mQ] at h1 h2;have tail:CX (Eb l)=ah:=by
   cases x with
   |id a=>simp_all [Eb,CX,ak] |nil=>exact hn
  have head:∀a,x=.id a->a∈Eb l->False:=fun a hx ha=>by
   simp_all [Eb,CX]
  cases hi:(m==i)<;>cases hj:(m==j)<;>simp only[hi,hj,cond_true,cond_false] at h1 h2
  ·exact abZ tail h1 h2
  ·grind [O7]
  ·grind [O7]
  simp_all
theorem St.weak{c c':Core}{a:Act}(st:St C K H E w c a)(h:leC ρ c c'):St C K H (wo ρ E) w c' a:=by
 obtain ⟨h1,h2,h3⟩:=h;simp only[al3,ak] at h3;refine ⟨Aa st.hp _ h1 st.den,⟨fun id sb hl=>(QC st.hp (QD h2 hl)).1,fun id id' sb sb' b l1 l2 o1 o2=>?_⟩,st.o7,fun i hi _=>?_,st.gl,st.defers⟩
 ·obtain ⟨i1,s1,a1,a2,a3⟩:=(QC st.hp (QD h2 l1)).2 b o1
  obtain ⟨i2,s2,b1,b2,b3⟩:=(QC st.hp (QD h2 l2)).2 b o2;have:=st.hp.vV _ _ _ _ _ a2 b2 a3 b3;grind [abZ]
 ·unfold wo
  cases hr:mQ ρ i with
  |none=>rfl |some r=>have:=adZ h3.2 hr;omega
end
def al4:SV->Value->Bool
 | .int k n,.int k' m=>k==k'&&n==m | .bool b,.bool c=>b==c | .str [],.string s=>s.data.toList.isEmpty | .uN,.pointer ao=>ah | .nS,.slice ao 0 0=>ah | .xX,.nilFunc=>ah | .sS,.nilIface=>ah | .wS,.map ao=>ah |_,_=>ag
def Ti:List SV->List Value->Bool
 |[],[]=>ah |x::l,v::vs=>al4 x v&&Ti l vs |_,_=>ag
def fieldsB(P:Program):List Field->List (Nat×Nat×Bool)->Bool
 |[],[]=>ah |f::r,p::q=>f.offset==p.1&&(match P.info? f.type with|some inf=>inf.size==p.2.1|none=>ag) &&
   (match P.underlying f.type with|some (.struct _)=>p.2.2|some (.array _ _)=>p.2.2|some _=>!p.2.2|none=>ag)&&fieldsB P r q
 |_,_=>ag
def agJ(P:Program)(t:Nat):Ty->Bool
 | .int k=>match P.underlying t with|some (.int k')=>k==k' |_=>ag
 | .bool=>match P.underlying t with|some .bool=>ah|_=>ag
 | .str=>match P.underlying t with|some .string=>ah|_=>ag
 | .ptr e=>match P.underlying t with|some (.pointer e')=>e==e' |_=>ag
 | .fn=>match P.underlying t with|some (.func _ _ _)=>ah|_=>ag
 | .iface=>match P.underlying t with|some (.interface _)=>ah|_=>ag
 | .map k e=>match P.underlying t with|some (.map k' e')=>k==k'&&e==e' |_=>ag
 | .slice e=>match P.underlying t with|some (.slice e')=>e==e' |_=>ag
 | .struct fs=>match P.underlying t with|some (.struct fields)=>fieldsB P fields.toList fs|_=>ag
 | .arr n e=>match P.underlying t with|some (.array n' e')=>n==n'&&e==e' |_=>ag
 | .other=>ag
def agK(agg:Bool)(size:Nat):Value->Bool
 | .agg _=>agg |v=>!agg&&size==1&&v.oneCell'
def tyB(P:Program)(t:Nat)(i:BQ):Bool:=
 agJ P t i.ty&&match P.info? t with
  |some inf=>inf.size==i.size&&inf.bytes==i.bytes&&match inf.zero with
   |some z=>Ti i.zero z.cells.toList&&z.cells.size==i.size&&agK i.ty.isAgg i.size z |none=>ag
  |none=>ag
def arn(P:Program)(t:BT BQ):Bool:=t.allB (tyB P)
theorem al5{x:SV}{v:Value}(h:al4 x v=ah){H:Mem}{E:Env}:Den H E x v:=by
 unfold al4 at h;split at h
 ·simp only[ak,beq_iff_eq] at h
  obtain ⟨rfl,rfl⟩:=h;rfl
 ·simp only[beq_iff_eq] at h
  subst h;rfl
 ·rename_i s
  have:s.data.toList=[]:=by simpa using h
  obtain ⟨⟨l⟩⟩:=s;simp at this;subst this;rfl
 all_goals first|rfl|cases h
theorem aaz{H:Mem}{E:Env}:∀{l:List SV} {vs:List Value},Ti l vs=ah->ni H E l vs
 |[],[],_=>trivial |x::l,v::vs,h=>by
  simp only[Ti,ak] at h;exact ⟨al5 h.1,aaz h.2⟩
 |[],_::_,h=>by simp[Ti] at h |_::_,[],h=>by simp[Ti] at h
theorem U1{P:Program}:∀{fields:List Field} {fs:List (Nat×Nat×Bool)},fieldsB P fields fs=ah->fields.length=fs.length/\∀(j:Nat) (f:Field),fields[j]?=ae f->∃inf:TypeInfo,P.info? f.type=ae inf/\
  fs[j]?=ae (f.offset,inf.size,match P.underlying f.type with|some (.struct _) |some (.array _ _)=>ah|_=>ag)/\(P.underlying f.type).isSome=ah
 |[],[],_=>⟨rfl,fun _ _ h=>by simp at h⟩ |f::r,p::q,h=>by
  simp only[fieldsB,ak,beq_iff_eq] at h;obtain ⟨⟨⟨h1,h2⟩,h3⟩,h4⟩:=h;obtain ⟨h5,h6⟩:=U1 h4;grind
 |[],_::_,h=>by simp[fieldsB] at h |_::_,[],h=>by simp[fieldsB] at h
theorem ajZ{P:Program}{t:Nat}{ty:Ty}(h:agJ P t ty=ah):abJ P t ty:=by
 unfold agJ at h;cases ty;case other=>cases h
 case arr=>simp only at h;split at h;rename_i hu;simp only[ak,beq_iff_eq] at h;obtain ⟨rfl,rfl⟩:=h;exact hu;cases h
 case int=>simp only at h;split at h;rename_i hu;simp only[beq_iff_eq] at h;subst h;exact hu;cases h
 case bool=>simp only at h;split at h;rename_i hu;exact hu;cases h
 case str=>simp only at h;split at h;rename_i hu;exact hu;cases h
 case ptr=>simp only at h;split at h;rename_i hu;simp only[beq_iff_eq] at h;subst h;exact hu;cases h
 case fn=>simp only at h;split at h;rename_i hu;exact ⟨_,_,_,hu⟩;cases h
 case iface=>simp only at h;split at h;rename_i hu;exact ⟨_,hu⟩;cases h
 case map=>simp only at h;split at h;rename_i hu;simp only[ak,beq_iff_eq] at h;obtain ⟨rfl,rfl⟩:=h;exact hu;cases h
 case slice=>simp only at h;split at h;rename_i hu;simp only[beq_iff_eq] at h;subst h;exact hu;cases h
 case struct=>
  simp only at h;split at h
  ·rename_i fields hu
   have:=U1 h;exact ⟨fields,hu,by simp_all,fun j f hj=>this.2 j f (by grind)⟩
  ·cases h
theorem apO{P:Program}{t:Nat}{i:BQ}(h:tyB P t i=ah):Gl P t i:=by
 unfold tyB at h;simp only[ak] at h;obtain ⟨h1,h2⟩:=h;refine ⟨ajZ h1,?_⟩;split at h2
 ·rename_i inf hi
  simp only[ak,beq_iff_eq] at h2;obtain ⟨⟨a1,a2⟩,h3⟩:=h2;split at h3
  ·rename_i z hz
   simp only[ak,beq_iff_eq] at h3;obtain ⟨⟨b1,b2⟩,b3⟩:=h3;refine ⟨inf,z,hi,a1,a2,hz,aaz b1,b2,fun ha=>?_,fun ha=>?_⟩
   ·unfold agK at b3
    grind
   ·unfold agK at b3
    grind
  ·cases h3
 ·cases h2
theorem QE{P:Program}{l:BT BQ}(h:arn P l=ah)(t:Nat)(i:BQ)(hl:l.get t=ae i):Gl P t i:=apO ((mr h).get hl)
def ab1(P:Program)(l:BT Func):Prop:=l.All fun g fn=>P.funcs[g]?=ae fn
theorem Fv{P:Program}{l:BT Func}(h:ab1 P l)(g:Nat)(fn:Func)(hl:l.get g=ae fn):P.funcs[g]?=ae fn:=BT.All.get h hl
def ad1(l:BT Func):Bool:=l.allB fun _ fn=>fn.body.isSome && !(fn.name == "runtime.NumGoroutine")
theorem uz{P:Program}{l:BT Func}(h:ab1 P l)(he:ad1 l=ah)(g:Nat)(hl:(l.get g).isSome=ah):∃fn,P.funcs[g]?=ae fn/\fn.body.isSome=ah/\fn.name≠ "runtime.NumGoroutine" :=by
 obtain ⟨fn,hf⟩:=bG.1 hl;have h1:=(mr he).get hf;grind [Fv]
end Go.Sx
