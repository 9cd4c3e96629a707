/- Own work. -/
import Derived.Test.YthehnhaoiijkhaaGreatDoorO03
open Int (ofNat)
open Array renaming getElem?_toList->cI,replicate->bw
open Bool renaming true->aj,false->ag,and_eq_true->al
open Go.Frame renaming finish_at->eA,enter->bY
open Go.Oper renaming upon->ku
open Go.Region renaming free->fI,noSelect->ja,ready->du
open Go.Result renaming andThen_ok->cH
open Go.Sem renaming run_bind->cn,run_pure->lC
open Go.Sx.BT renaming J8->l4
open Go.Sx.mW renaming any->ig
open Go.Sx.oC renaming all->aX
open Go.Sx.qQ renaming Fa->lR
open Go.Sx.Tree renaming vk->bG
open Go.stepG renaming apply->b5
open List renaming mem_cons_of_mem->bi,mem_cons_self->bo,countP_cons->jq,range->aE,mem_range->bh,mem_append->aU,replicate->bp
open Nat renaming add_le_add_left->iJ,mul_le_mul_left->dB,blt->bT,ble->cm
open Option renaming some->ae,none->aq,map_eq_some_iff->aO,isSome_iff_exists->bJ
open Prod.mk renaming injEq->db
namespace Go.Sx
section
variable{P:Program}{C:Ctx}{K:Kx}{H H' Fj:Mem}{E E' Fp:Env}{w w' w'':World}
theorem U4{α:Type}{φ:α->Prop}:∀{bs:List Bool} {t:Tree α},(needs t bs).All φ->(∀b∈bs,b=aj)/\t.All φ
 |[],_,h=>⟨fun _ h=>(by cases h),h⟩ |b::r,t,h=>by
  obtain ⟨h1,h2⟩:=h;obtain ⟨h3,h4⟩:=U4 h2;simp_all
theorem Zt{r:Option (List Bool×SV)}{x:List Bool×SV}(h:Zc r=ae x):r=ae x:=by
 unfold Zc at h;grind
theorem Jh:∀{t:Tree (SV×Core)} {bs bs':List Bool} {v:SV},rO t bs=ae (bs',v)->∀b∈bs,b∈bs'
 | .leaf _,_,_,_,h=>by simp[rO] at h;obtain ⟨rfl,_⟩:=h;exact fun _ h=>h | .need b t,bs,bs',v,h=>fun x hx=>Jh (t:=t) h x (bi _ hx) | .node _ _ _,_,_,_,h=>by simp[rO] at h | .both _ _,_,_,_,h=>by simp[rO] at h | .must _ _,_,_,_,h=>by simp[rO] at h | .fail,_,_,_,h=>by simp[rO] at h
theorem D5:∀{t:Tree (SV×Core)} {bs bs':List Bool} {v:SV},rO t bs=ae (bs',v)->(∀b∈bs',b=aj)->t.All fun p=>p.1=v
 | .leaf _,_,_,_,h,_=>by simp[rO] at h;exact h.2 | .need b t,bs,bs',v,h,hb=>⟨hb b (Jh (t:=t) h b (bo ..)),D5 (t:=t) h hb⟩ | .node _ _ _,_,_,_,h,_=>by simp[rO] at h | .both _ _,_,_,_,h,_=>by simp[rO] at h | .must _ _,_,_,_,h,_=>by simp[rO] at h | .fail,_,_,_,h,_=>by simp[rO] at h
theorem U5{α:Type}{φ:α->Prop}{f:Nat->Tree α}:∀{rs:List Nat},(allOf f rs).All φ->∀i∈rs,(f i).All φ
 |[],h,_,_=>h.elim |[i],h,j,hj=>by simp at hj;subst hj;exact h |i::k::r,h,j,hj=>by
  obtain ⟨h1,h2⟩:=h;cases hj with
  |head=>exact h1 |tail _ hj=>exact U5 h2 j hj
theorem G7{ou:Array Oper}{lock:List (Nat×SB)}{listed:Array Bool}{xJ:List SV}{c:Core}{q:Quiet}:∀{rs:List Nat},NZ C ou lock listed xJ c rs=q->q≠.no->∃i∈rs,Kq C ou lock listed xJ c i=q
 |[],h,hn=>by simp_all [NZ] |i::r,h,hn=>by
  unfold NZ at h;split at h
  ·obtain ⟨j,h1,h2⟩:=G7 h hn
   grind
  simp_all
theorem U6{p q:Nat->Bool}{i:Nat}:∀{l:List Nat},(∀x,q x=aj->p x=aj)->i∈l->p i=aj->q i=ag->l.countP q<l.countP p
 |[],_,h,_,_=>by cases h |x::l,hpq,h,h1,h2=>by
  have hle:l.countP q<=l.countP p:=List.countP_mono_left fun x _ h=>hpq x h
  rw[jq,jq];cases h with
  |head=>grind |tail _ h=>
   have:=U6 hpq h h1 h2;grind
def cnt(ops:Array Oper)(listed:Array Bool):Nat:=(aE ops.size).countP fun j=>!listed.getD j aj
theorem aiY{ops:Array Oper}{listed:Array Bool}{i:Nat}(hi:i<ops.size)(hu:listed.getD i aj=ag):cnt ops (listed.setIfInBounds i aj)<cnt ops listed:=by
 have hs:i<listed.size:=by
  grind
 refine U6 (i:=i) (fun x hx=>?_) (bh.2 hi) (by rw[hu];rfl) (by simp[hs]);(by_cases hxi:i=x)<;>simp_all
theorem Qr{Xp:List Nat}:∀{hp:List (Nat×SB)} {id:Nat} {sb:SB},mG (CY hp Xp) id=ae sb->Xp.contains id=ag
 |[],_,_,h=>by simp[CY,mG] at h |(j,x)::l,id,sb,h=>by
  unfold CY at h;cases hu:Xp.contains j<;>simp only[hu,cond_true,cond_false] at h
  ·simp only[mG] at h
   cases hj:(j==id)<;>simp only[hj,cond_true,cond_false] at h
   ·exact Qr h
   simp_all
  ·exact Qr h
theorem MH{Xp:List Nat}:∀{hp:List (Nat×SB)} {id:Nat} {sb:SB},mG (CY hp Xp) id=ae sb->mG hp id=ae sb
 |[],_,_,h=>h |(j,x)::l,id,sb,h=>by
  have hn:=Qr h;unfold CY at h;cases hu:Xp.contains j<;>simp only[hu,cond_true,cond_false] at h
  ·simp only[mG] at h ⊢
   cases hj:(j==id)<;>simp only[hj,cond_true,cond_false] at h ⊢
   ·exact MH h
   ·exact h
  ·have h:=MH h
   grind [mG]
structure Rg(C:Ctx)(K:Kx)(ou:Array Oper)(base zV:Nat)(lock:List (Nat×SB))(H0:Mem)(E0:Env)(w0:World)(c0:Core)(H:Mem)(E:Env)(w:World)(c:Core)(a:Act)(listed:Array Bool)(xJ:List SV):Prop where
 st:St C K H E w c a
 nx:c.nx=0
 lim:c.lim=0
 free:∀j,j<ou.size->listed.getD j aj=ag->∀id,base+zV*j<=id->id<base+zV*(j+1)->E id=aq
 afG:mW H0 E0 xJ a.tmps.toList
 ch:Ch K H0 E0 w0 c0.hp c0.tc H E w c.hp c.tc (fun i=>base<=i/\i<base+zV*ou.size)
 lk:∀id sb b,mG lock id=ae sb->nN E0 id sb=ae b->H b≠aq\/∃sb',mG c.hp id=ae sb'/\nN E id sb'=ae b
 agr:LW H0 E0 lock w0 w
 on:H0.on w
def Still(H0:Mem)(E0:Env)(lock:List (Nat×SB))(w0:World)(w':World):Prop:=LW H0 E0 lock w0 w'/\H0.on w'
variable{ou:Array Oper}{base zV:Nat}{lock:List (Nat×SB)}{H0:Mem}{E0:Env}{w0:World}{c0:Core}{c:Core}{a:Act}{listed:Array Bool}{xJ:List SV}
theorem Zu(hC:oh P C)(hH0:mZ K H0 E0 w0 lock)(hg0:qh C.gls H0)(r:Rg C K ou base zV lock H0 E0 w0 c0 H E w c a listed xJ){i j:Nat}{bs:List Bool}{v v0:SV}
  (h:Kq C ou lock listed xJ c i=.take j bs v v0) (hb:∀b∈bs,b=aj) :
  j=i/\∃o u,ou[i]?=ae o/\fI .any ou listed i=aj/\YieldsIf P ou (Still H0 E0 lock w0) o u a/\Den H E v u/\Den H0 E0 v0 u:=by
 unfold Kq at h;have hop:opAt ou.toList i=ou[i]?:=by simp[opAt]
 rw[hop] at h;simp only[XW] at h;split at h
 ·cases h
 ·rename_i o hi
  have hs:=wX (ops:=ou) r.st.den o;split at h
  ·cases h
  ·rename_i hw
   rw[hw] at hs;cases hf:fI .any ou listed i<;>simp only[hf,cond_true,cond_false] at h
   ·cases h
   cases h;exact ⟨rfl,o,undef,hi,rfl,.inr ⟨hs,rfl⟩,Zr,Zr⟩
  ·rename_i hw
   rw[hw] at hs;cases hq:(qw o.op&&fI .any ou listed i)<;>simp only[hq,cond_true,cond_false] at h
   ·cases h
   simp only[al] at hq;split at h
   ·rename_i bs' v' hl
    cases h;have hall:=D5 (Zt hl) hb;obtain ⟨p,u,h1,h2,h3,h4⟩:=aaW (c:={c with tm:=xJ,hp:=lock}) (w:=w0) hC r.afG hH0 hg0 hq.1 hall
    subst h1;exact ⟨rfl,o,u,hi,hq.2,.inl ⟨hs,fun w' hw'=>h4 w' hw'.1 hw'.2⟩,h3.le r.ch.yF r.ch.Dc,h3⟩
   ·cases hp:CZ c.tm o.op<;>simp only[hp,cond_true,cond_false] at h
    ·cases h
    split at h
    ·rename_i bs' v' hl
     cases h;have hall:=D5 hl hb;obtain ⟨p,u,h1,h2,h3,h4⟩:=adO hC r.st.den r.st.hp r.st.gl hp hall;subst h1;exact ⟨rfl,o,u,hi,hq.2,.inl ⟨hs,fun w' _=>h4 w'⟩,h3,trivial⟩
    ·cases h
  ·cases h
theorem abh(hC:oh P C)(r:Rg C K ou base zV lock H0 E0 w0 c0 H E w c a listed xJ){i d:Nat}{t:Bool}(h:Kq C ou lock listed xJ c i=.ask d t):c.tm.getD d .any=.test t:=by
 unfold Kq at h;have hop:opAt ou.toList i=ou[i]?:=by simp[opAt]
 rw[hop] at h;simp only[XW] at h;split at h
 ·cases h
 ·rename_i o hi
  have hs:=wX (ops:=ou) r.st.den o;grind
theorem Rg.take(r:Rg C K ou base zV lock H0 E0 w0 c0 H E w c a listed xJ){i:Nat}{d:Option Nat}{u:Value}{v v0:SV}(h1:Den H E v u)(h0:Den H0 E0 v0 u):
  Rg C K ou base zV lock H0 E0 w0 c0 H E w (c.put d v) (a.put d u) (listed.setIfInBounds i aj) (IB xJ d v0):=by
 refine ⟨r.st.put d h1,r.nx,r.lim,fun j hj hu=>r.free j hj ?_,?_,r.ch,r.lk,r.agr,r.on⟩
 ·(by_cases hij:i=j)<;>simp_all
 ·have:=zU (c:={c with tm:=xJ}) (a:=a) r.afG d h0
  exact this
theorem Rg.know(r:Rg C K ou base zV lock H0 E0 w0 c0 H E w c a listed xJ){d:Nat}{b:Bool}(hd:c.tm.getD d .any=.test b):
  Rg C K ou base zV lock H0 E0 w0 c0 H E w (c.put (ae d) (.bool b)) a listed (xJ.set d (.bool b)):=by
 refine ⟨r.st.know hd,r.nx,r.lim,r.free,?_,r.ch,r.lk,r.agr,r.on⟩;obtain ⟨v,e1,e2⟩:=Kv r.st.den hd (by simp);have e2:v=.bool b:=e2;subst e2;have h2:=r.afG.set d (s:=.bool b) (v:=.bool b) rfl;have h3:a.tmps.toList.set d (.bool b)=a.tmps.toList:=by
  rw[<-cI] at e1;apply List.ext_getElem?;grind
 simp_all
theorem abj{i j:Nat}(hij:(listed.setIfInBounds i aj).getD j aj=ag):j≠i/\listed.getD j aj=ag:=by
 by_cases h:i=j
 ·simp_all
 ·rw[getD_set_ne aj h] at hij
  grind
theorem Rg.step(hl0:∀id sb,mG lock id=ae sb->mG c0.hp id=ae sb)(r:Rg C K ou base zV lock H0 E0 w0 c0 H E w c a listed xJ){i:Nat}(hi:i<ou.size){c':Core}{a':Act}{u:Value}
  (st':St C K H' E' w' c' a') (mv:Mv K H E w {c with tc:=[],nx:=base+zV*i,lim:=base+zV*(i+1)} H' E' w' c') (ha:a'=a.put ((ou[i]?).bind (·.dst)) u)
  (hdj:disjoint c'.tc lock=aj) :
  Rg C K ou base zV lock H0 E0 w0 c0 H' E' w' {c' with tc:=c'.tc++c.tc,nx:=c.nx,lim:=c.lim} a' (listed.setIfInBounds i aj) (IB xJ ((ou[i]?).bind (·.dst)) .any):=by
 have hch:=mv.ch;have hnx1:base+zV*i<=c'.nx:=mv.nx;have hlim:c'.nx<=base+zV*(i+1):=by
  have h1:c'.nx<=base+zV*(i+1)\/c'.nx=base+zV*i:=mv.lim;grind
 have avE:∀id∈c'.tc,mG lock id=aq:=fun id hid=>by
  have:=List.all_eq_true.1 hdj id hid;simp_all
 have hge:∀i',i'<ou.size->base+zV*(i'+1)<=base+zV*ou.size:=fun i' h=>iJ (dB _ h) _;have hkeep:∀b,H b≠aq->w'.heap[b]?=w.heap[b]?:=fun b hb=>by
  cases h:H b with
  |none=>simp_all |some o=>rw[st'.oQ.on b o (mv.yF b o h),r.st.oQ.on b o h]
 have hother:∀id sb b,mG lock id=ae sb->nN E0 id sb=ae b->w'.heap[b]?=w.heap[b]?/\(H' b≠aq\/∃sb',mG c'.hp id=ae sb'/\nN E' id sb'=ae b):=fun id sb b h1 h2=>by
  rcases r.lk id sb b h1 h2 with h|⟨sb',h3,h4⟩
  ·refine ⟨hkeep b h,.inl ?_⟩
   cases hb:H b with
   |none=>simp_all |some o=>rw[mv.yF b o hb];simp
  ·have hnot:id ∉ c'.tc:=fun hid=>by simp_all
   refine ⟨mv.fr b ((r.st.hp.ent _ _ h3).lt h4).1 fun id' aaZ e=>?_,mv.keep id sb' b h3 hnot h4⟩;rcases mv.TG id' aaZ with h5|h5|⟨Ox,h5,h6⟩
   ·cases h5
   ·grind [bk]
   ·have:=r.st.hp.vO _ _ _ _ _ h3 h5 h4 (h6.trans e)
    simp_all
 refine ⟨⟨st'.den,st'.hp,st'.oQ,?_,st'.gl,st'.defers⟩,r.nx,r.lim,fun j hj hu id h1 h2=>?_,?_,r.ch.trans ((hch.add c.tc).mono fun k hk=>?_),fun id sb b h1 h2=>(hother id sb b h1 h2).2,fun b hb=>?_,fun b o hb=>?_⟩
 ·intro k h1 h2
  have h1:c.nx<=k:=h1;have h2:k<c.lim:=h2;have:=r.nx;have:=r.lim;omega
 ·obtain ⟨hji,hu⟩:=abj hu
  have h0:=r.free j hj hu id h1 h2;cases he:E' id with
  |none=>rfl |some v=>
   have:=hch.new id h0 (by rw[he];simp);simp only at this;have q1:=this.1;have q2:=this.2;rcases Nat.lt_or_gt_of_ne hji with q|q
   ·have:zV*(j+1)<=zV*i:=dB _ q
    omega
   ·have:zV*(i+1)<=zV*j:=dB _ q
    omega
 ·subst ha
  exact zU (c:={c with tm:=xJ}) (a:=a) r.afG _ trivial
 ·grind
 ·rcases hb with hb|⟨id,sb,h1,h2⟩
  ·have hH:H b≠aq:=by
    cases h:H0 b with
    |none=>simp_all |some o=>rw[r.ch.yF b o h];simp
   rw[hkeep b hH];exact r.agr b (.inl hb)
  ·rw[(hother id sb b h1 h2).1]
   exact r.agr b (.inr ⟨id,sb,h1,h2⟩)
 ·exact st'.oQ.on b o (mv.yF b o (r.ch.yF b o hb))
theorem BI{call:Nat->List SV->Core->Tree (SV×Core)}(hC:oh P C)(hF:oH P C)(hK:xw P C K call)(hH0:mZ K H0 E0 w0 lock)(hg0:qh C.gls H0)
  (hl0:∀id sb,mG lock id=ae sb->mG c0.hp id=ae sb) (hns:ja ou=aj) {R:Act->World->Prop} {φ:Core->Prop}
  (hfin:∀H E w c a listed xJ,Rg C K ou base zV lock H0 E0 w0 c0 H E w c a listed xJ->φ c->R a w) :
  ∀(n:Nat) (listed:Array Bool) (xJ:List SV) (c:Core) (H:Mem) (E:Env) (w:World) (a:Act) (m:Nat),Rg C K ou base zV lock H0 E0 w0 c0 H E w c a listed xJ->cnt ou listed<=m->
   (explore C call base zV ou lock n listed xJ c).All φ->wpAnyH P .any ou (fun e a w=>e=.normal/\R a w) (Still H0 E0 lock w0) m listed a w
 |0,_,_,_,_,_,_,_,_,_,_,h=>h.elim |n+1,listed,xJ,c,H,E,w,a,m,r,hm,h=>by
  unfold explore at h;simp only[adC] at h;split at h
  ·rename_i hr
   exact wpAnyH_done hr ⟨rfl,hfin H E w c a listed xJ r h⟩ m
  ·rename_i hne
   have hrange:∀i,i∈du .any ou listed->i<ou.size/\listed.getD i aj=ag:=fun i hi=>by
    simp_all [du,bh,List.mem_filter]
   have hdec:∀i,i∈du .any ou listed->∃m',m=m'+1/\cnt ou (listed.setIfInBounds i aj)<=m':=fun i hi=>by
    have:=aiY (hrange i hi).1 (hrange i hi).2;exact ⟨m - 1,by omega,by omega⟩
   split at h
   ·rename_i j bs v v0 hq
    obtain ⟨i,hi,hq1⟩:=G7 hq (by simp);obtain ⟨hb,h⟩:=U4 h;obtain ⟨rfl,o,u,ho,hf,hy,hd,hd0⟩:=Zu hC hH0 hg0 r hq1 hb;obtain ⟨m',rfl,hm'⟩:=hdec j hi;have hop:(opAt ou.toList j).bind (·.dst)=o.dst:=by simp[opAt,ho]
    rw[hop] at h;refine wpAnyH_take ho hns hf (by grind) (fun c a w hh=>by cases hh.1) hy ⟨r.agr,r.on⟩ ?_;exact BI hC hF hK hH0 hg0 hl0 hns hfin n _ _ _ H E w _ m' (r.take hd hd0) hm' h
   ·rename_i d t hq
    obtain ⟨i,hi,hq1⟩:=G7 hq (by simp);have ht:=abh hC r hq1;cases t with
    |true=>exact BI hC hF hK hH0 hg0 hl0 hns hfin n _ _ _ H E w a m (r.know ht) hm (h.1 rfl) |false=>exact BI hC hF hK hH0 hg0 hl0 hns hfin n _ _ _ H E w a m (r.know ht) hm (h.2 rfl)
   ·rename_i hq
    have hall:=U5 h;obtain ⟨i0,hi0⟩:∃i0,i0∈du .any ou listed:=by
     cases hr:du .any ou listed with
     |nil=>simp_all |cons x xs=>simp
    obtain ⟨m',rfl,_⟩:=hdec i0 hi0;refine wpAnyH_all rfl (fun hr=>hne hr) fun i hi=>?_
    obtain ⟨m'',avF,hc⟩:=hdec i hi;have hmm:m''=m':=by omega
    subst hmm;have hi':=hrange i hi;have st1:St C K H E w {c with tc:=[],nx:=base+zV*i,lim:=base+zV*(i+1)} a:=
     ⟨r.st.den,r.st.hp,r.st.oQ,fun k h1 h2=>r.free i hi'.1 hi'.2 k h1 h2,r.st.gl,r.st.defers⟩
    refine MG hC hF hK st1 (bG (hall i hi)) _ _ fun c' a' H' E' w' e1 e2 e3 e4=>?_
    obtain ⟨u,e4⟩:=e4;cases hdj:disjoint c'.tc lock<;>simp only[hdj,cond_true,cond_false] at e1
    ·exact e1.elim
    have hop:opAt ou.toList i=ou[i]?:=by simp[opAt]
    rw[hop] at e1;have r':=r.step hl0 hi'.1 e2 e3 e4 hdj;exact ⟨⟨r'.agr,r'.on⟩,BI hC hF hK hH0 hg0 hl0 hns hfin n _ _ _ H' E' w' a' m'' r' hc e1⟩
theorem St.sameHeap{c:Core}{a:Act}(st:St C K H E w c a)(h1:w'.heap=w.heap)(h2:w'.os=w.os)(h3:w'.tape=w.tape)(h4:w'.output=w.output):St C K H E w' c a:=
 ⟨st.den,⟨fun id sb hl=>(st.hp.ent id sb hl).kept (fun _ _ e=>e) (fun _ _ e=>e) (fun b _=>by rw[h1]) fun b hb=>((st.hp.ent id sb hl).lt hb).2.1,st.hp.vO⟩,
  ⟨h2.trans st.oQ.os,h3.trans st.oQ.tape,h4.trans st.oQ.output,by rw[h1];exact st.oQ.size,fun b hb hn=>by rw[h1];exact st.oQ.kept b hb hn,fun b o hb=>by rw[h1];exact st.oQ.on b o hb,st.oQ.le,st.oQ.fresh⟩,
  st.free,st.gl,st.defers⟩
theorem Zv{c c':Core}(h:Mv K H E w c H' E' w' c')(h1:w.heap=w''.heap):Mv K H E w'' c H' E' w' c':=by
 obtain ⟨a1,a2,a3,a4,a5,a6,a7,a8,a9,a10,a11,a12,a13,a14,a15,a16⟩:=h;exact ⟨a1,a2,a3,a4,a5,a6,a7,a8,a9,a10,by simp_all,by simp_all,by grind,a14,a15,a16⟩
theorem oC.sK:∀{l l':List oC},aX (l++l')->aX l/\aX l'
 |[],_,h=>⟨trivial,h⟩ |_::_,_,h=>⟨⟨h.1,(oC.sK h.2).1⟩,(oC.sK h.2).2⟩
theorem oK{a b:Option (List oC)}{l:List oC}(h:uq a b=ae l):∃x y,a=ae x/\b=ae y/\l=x++y:=by
 unfold uq at h;grind
theorem nO{c:Bool}{a:Option (List oC)}{l:List oC}(h:qc c a=ae l):c=aj/\a=ae l:=by
 cases c
 ·cases h
 ·exact ⟨rfl,h⟩
theorem aiZ{s s':Sh}{q:List oC}(h:aiy s s'=ae q)(ha:aX q):s=s':=by
 unfold aiy at h;split at h
 ·grind [nO]
 ·cases h
  exact ha.1
mutual
theorem Gf:∀{x y:SV} {q:List oC},Ry x y=ae q->aX q->x=y
 |x,y,q,h,ha=>by
  unfold Ry at h;split at h;all_goals first
   |(cases h;done)
   |(cases h;rfl)
   |(obtain ⟨h1,h2⟩:=nO h;simp only[al,beq_iff_eq] at h1;obtain ⟨rfl,rfl⟩:=h1;rfl)
   |(obtain ⟨h1,h2⟩:=nO h;simp only[beq_iff_eq] at h1;subst h1;cases h2;rfl)
   |skip
  case h_3=>obtain ⟨h1,h2⟩:=nO h;simp only[beq_iff_eq] at h1;subst h1;cases h2;rw[ha.1]
  case h_5=>cases h;rw[ha.1]
  case h_7=>cases h;rw[ha.1]
  case h_10=>obtain ⟨h1,h2⟩:=nO h;simp only[al,beq_iff_eq] at h1;obtain ⟨⟨rfl,rfl⟩,rfl⟩:=h1;cases h2;rw[ha.1]
  case h_11=>obtain ⟨h1,h2⟩:=nO h;simp only[al,beq_iff_eq] at h1;obtain ⟨rfl,rfl⟩:=h1;cases h2;rw[ha.1,ha.2.1,ha.2.2.1]
  case h_17=>obtain ⟨h1,h2⟩:=nO h;simp only[beq_iff_eq] at h1;subst h1;rw[zG h2 ha]
  case h_18=>rw[zG h ha]
  case h_19=>rw[zG h ha]
  case h_20=>obtain ⟨h1,h2⟩:=nO h;simp only[beq_iff_eq] at h1;subst h1;rw[Gf h2 ha]
  grind [aiZ]
theorem zG:∀{l m:List SV} {q:List oC},BZ l m=ae q->aX q->l=m
 |[],[],_,_,_=>rfl |x::l,y::m,q,h,ha=>by
  simp only[BZ] at h;obtain ⟨a,b,h1,h2,rfl⟩:=oK h;rw[Gf h1 (oC.sK ha).1,zG h2 (oC.sK ha).2]
 |[],_::_,_,h,_=>by simp[BZ] at h |_::_,[],_,h,_=>by simp[BZ] at h
end
theorem X9:∀{l m:List (SV×SV)} {q:List oC},Qg l m=ae q->aX q->l=m
 |[],[],_,_,_=>rfl |(a,b)::l,(c,d)::m,q,h,ha=>by
  simp only[Qg] at h;obtain ⟨q1,q2,h1,h2,rfl⟩:=oK h;obtain ⟨q3,q4,h3,h4,rfl⟩:=oK h2;obtain ⟨a1,a2⟩:=oC.sK ha;obtain ⟨a3,a4⟩:=oC.sK a2;rw[Gf h1 a1,Gf h3 a3,X9 h4 a4]
 |[],_::_,_,h,_=>by simp[Qg] at h |_::_,[],_,h,_=>by simp[Qg] at h
theorem U7:∀{l m:List (Int×Bool×SV)} {q:List oC},UF l m=ae q->aX q->l=m
 |[],[],_,_,_=>rfl |(a,p,b)::l,(c,r,d)::m,q,h,ha=>by
  simp only[UF] at h;obtain ⟨h0,h⟩:=nO h;obtain ⟨q1,q2,h1,h2,rfl⟩:=oK h;obtain ⟨q3,q4,h3,h4,rfl⟩:=oK h2;obtain ⟨a1,a2⟩:=oC.sK ha;obtain ⟨a3,a4⟩:=oC.sK a2;cases h1;have h0:p=r:=by grind
  rw[h0,a1.1,Gf h3 a3,U7 h4 a4]
 |[],_::_,_,h,_=>by simp[UF] at h |_::_,[],_,h,_=>by simp[UF] at h
theorem abk:∀{l m:List (rC×Bool×SV)} {q:List oC},XY l m=ae q->aX q->l=m
 |[],[],_,_,_=>rfl |((a,s),p,b)::l,((c,t),r,d)::m,q,h,ha=>by
  simp only[XY] at h;obtain ⟨h0,h⟩:=nO h;obtain ⟨q1,q2,h1,h2,rfl⟩:=oK h;obtain ⟨q3,q4,h3,h4,rfl⟩:=oK h2;obtain ⟨a1,a2⟩:=oC.sK ha;obtain ⟨a3,a4⟩:=oC.sK a2;cases h1;have h0:p=r:=by grind
  have e1:a=c:=a1.1;have e2:s=t:=a1.2.1;rw[h0,e1,e2,Gf h3 a3,abk h4 a4]
 |[],_::_,_,h,_=>by simp[XY] at h |_::_,[],_,h,_=>by simp[XY] at h
theorem ag6{x y:Option (Nat×Int)}{q:List oC}(h:adD x y=ae q)(ha:aX q):x=y:=by
 unfold adD at h;split at h
 ·rfl
 ·obtain ⟨h1,h2⟩:=nO h
  cases h2;have h1:=by simpa using h1
  rw[h1,ha.1]
 ·cases h
theorem ai0{x y:SB}{q:List oC}(h:aiz x y=ae q)(ha:aX q):x=y:=by
 unfold aiz at h;split at h
 ·grind [nO,zG]
 ·obtain ⟨h1,h2⟩:=nO h
  grind [zG]
 ·obtain ⟨h1,h2⟩:=nO h
  simp only[al,beq_iff_eq] at h1;cases h2;rw[h1.1,h1.2,ha.1,ha.2.1]
 ·obtain ⟨h1,h2⟩:=nO h
  have h1:=by simpa using h1
  cases h2;rw[h1,ha.1,ha.2.1]
 ·rw[X9 h ha]
 ·cases h
  have:=ha.1;simp_all [oC.ok,Sh.pt.injEq]
 ·obtain ⟨h1,h2⟩:=nO h
  simp only[al,beq_iff_eq] at h1;obtain ⟨q1,q2,h3,h4,rfl⟩:=oK h2;cases h3;obtain ⟨a1,a2⟩:=oC.sK ha;rw[h1.1,h1.2,a1.1,a1.2.1,zG h4 a2]
 ·obtain ⟨h1,h2⟩:=nO h
  have h1:=by simpa using h1
  cases h2;rw[h1,ha.1]
 ·obtain ⟨h1,h2⟩:=nO h
  have h1:=by simpa using h1
  obtain ⟨q1,q2,h3,h4,rfl⟩:=oK h2;obtain ⟨q3,q4,h5,h6,rfl⟩:=oK h4;obtain ⟨q5,q6,h7,h8,rfl⟩:=oK h6;cases h3;obtain ⟨a1,a2⟩:=oC.sK ha;obtain ⟨a3,a4⟩:=oC.sK a2;obtain ⟨a5,a6⟩:=oC.sK a4;rw[h1,a1.1,U7 h5 a3,U7 h7 a5,ag6 h8 a6]
 ·obtain ⟨h1,h2⟩:=nO h
  have h1:=by simpa using h1
  obtain ⟨q1,q2,h3,h4,rfl⟩:=oK h2;cases h3;obtain ⟨a1,a2⟩:=oC.sK ha;rw[h1,show _=_ from a1.1,abk h4 a2]
 ·cases h
theorem abl:∀{l m:List (Nat×SB)} {q:List oC},XZ l m=ae q->aX q->l=m
 |[],[],_,_,_=>rfl |(i,a)::l,(j,b)::m,q,h,ha=>by
  simp only[XZ] at h;obtain ⟨h0,h⟩:=nO h;obtain ⟨q1,q2,h1,h2,rfl⟩:=oK h;have h0:=by simpa using h0
  rw[h0,ai0 h1 (oC.sK ha).1,abl h2 (oC.sK ha).2]
 |[],_::_,_,h,_=>by simp[XZ] at h |_::_,[],_,h,_=>by simp[XZ] at h
theorem ad2{a b:Core}{q:List oC}(h:Zd a b=ae q)(ha:aX q):a=b:=by
 unfold Zd at h;obtain ⟨h0,h⟩:=nO h;obtain ⟨q1,q2,h1,h2,rfl⟩:=oK h;simp only[al,beq_iff_eq] at h0;obtain ⟨⟨h3,h4⟩,h5⟩:=h0;obtain ⟨t,hp,nx,lim,tc⟩:=a;obtain ⟨t',hp',nx',lim',Xz⟩:=b;grind [zG,oC.sK,abl]
def Ob.ok:Ob->Prop
 | .b x=>x=aj | .e l=>aX l
theorem G8{α:Type}{φ:α->Prop}:∀{t:Tree α} {o:List Ob} {a:α},strip t=ae (o,a)->(∀x∈o,x.ok)->φ a->t.All φ
 | .leaf _,o,a,h,_,hφ=>by simp[strip] at h;rw[h.2];exact hφ | .need b t,o,a,h,ho,hφ=>by
  simp only[strip,aO,db] at h;obtain ⟨⟨o',a'⟩,h1,rfl,rfl⟩:=h;exact ⟨ho _ (bo ..),G8 h1 (fun x hx=>ho x (bi _ hx)) hφ⟩
 | .must l t,o,a,h,ho,hφ=>by
  simp only[strip,aO,db] at h;obtain ⟨⟨o',a'⟩,h1,rfl,rfl⟩:=h;exact ⟨ho _ (bo ..),G8 h1 (fun x hx=>ho x (bi _ hx)) hφ⟩
 | .node _ _ _,_,_,h,_,_=>by simp[strip] at h | .both _ _,_,_,h,_,_=>by simp[strip] at h | .fail,_,_,h,_,_=>by simp[strip] at h
theorem Qs{α:Type}{φ:α->Prop}{t:Tree α}:∀{o:List Ob},(wrap t o).All φ->(∀x∈o,x.ok)/\t.All φ
 |[],h=>⟨fun _ h=>(by cases h),h⟩ | .b x::r,h=>by
  obtain ⟨h1,h2⟩:=h;obtain ⟨h3,h4⟩:=Qs h2;refine ⟨fun y hy=>?_,h4⟩;cases hy with
  |head=>exact h1 |tail _ hy=>exact h3 y hy
 | .e l::r,h=>by
  obtain ⟨h1,h2⟩:=h;obtain ⟨h3,h4⟩:=Qs h2;refine ⟨fun y hy=>?_,h4⟩;cases hy with
  |head=>exact h1 |tail _ hy=>exact h3 y hy
theorem ad3{α:Type}{φ:α->Prop}{t:Tree α}{l:List oC}(h:(Qh l t).All φ):aX l/\t.All φ:=by
 unfold Qh at h;split at h
 ·exact ⟨trivial,h⟩
 ·exact h
theorem abm{t f:Tree Core}{φ:Core->Prop}(h:(TV t f).All φ):t.All φ/\f.All φ:=by
 unfold TV at h;split at h
 ·rename_i o a q b h1 h2
  split at h
  ·rename_i l he
   obtain ⟨h3,h4⟩:=Qs h;obtain ⟨h5,h6⟩:=ad3 h4;have:=ad2 he h5;subst this;exact ⟨G8 h1 (fun x hx=>h3 x (aU.2 (.inl hx))) h6,G8 h2 (fun x hx=>h3 x (aU.2 (.inr hx))) h6⟩
  ·exact h
 ·exact h
theorem yZ{φ:Core->Prop}:∀{t:Tree Core},(merge t).All φ->t.All φ
 | .leaf _,h=>h | .fail,h=>h | .need _ t,h=>⟨h.1,yZ h.2⟩ | .must _ t,h=>⟨h.1,yZ h.2⟩ | .node _ t f,h=>⟨fun e=>yZ (h.1 e),fun e=>yZ (h.2 e)⟩ | .both t f,h=>by
  have:=abm (show (TV (merge t) (merge f)).All φ from h);exact ⟨yZ this.1,yZ this.2⟩
theorem Sr:∀{m:Nat} {l:List SV} {vs:List Value},mW H E l vs->mW H E (TW m l) vs
 |_,[],_,h=>h |m,x::l,v::vs,⟨h1,h2⟩=>by
  simp only[TW];refine ⟨?_,Sr h2⟩;cases Nat.beq (m % 2) 1
  ·trivial
  ·exact h1
 |_,_::_,[],h=>h.elim
theorem U8{g:Nat}{l:List SV}{vs:List Value}(h:mW H E l vs):mW H E (DU C g l) vs:=by
 grind [DU,Sr]
theorem Ya{i j:Nat}:∀{l:List Nat},i∈aaI j l↔i=j\/i∈l
 |[]=>by simp[aaI] |k::l=>by
  unfold aaI;cases h1:(j==k)<;>simp only[cond_true,cond_false]
  ·cases h2:bT j k<;>simp only[cond_true,cond_false]
   ·simp only[List.mem_cons,Ya (l:=l)]
    grind
   ·simp
  simp_all
theorem U9{i:Nat}:∀{l:List Nat},i∈I9 l↔i∈l
 |[]=>by simp[I9] |j::l=>by simp[I9,Ya,U9 (l:=l)]
theorem Ch.ars{hp hp':List (Nat×SB)}{tc Xz XA:List Nat}{N:Nat->Prop}(h:Ch K H E w hp tc H' E' w' hp' Xz N)(he:∀i,i∈XA↔i∈Xz):Ch K H E w hp tc H' E' w' hp' XA N:=
 {h with
  tc:=fun id hid=>(he id).2 (h.tc id hid)
  fr:=fun b hb hne=>h.fr b hb fun id hid=>hne id ((he id).2 hid)
  EJ:=fun i b h1 h2=>(h.EJ i b h1 h2).imp (fun h=>h) fun ⟨id,h3,h4⟩=>⟨id,(he id).2 h3,h4⟩
  TG:=fun id hid=>h.TG id ((he id).1 hid)
  keep:=fun id sb b h1 h2 h3=>h.keep id sb b h1 (fun h4=>h2 ((he id).2 h4)) h3}
theorem Va{call:Nat->List SV->Core->Tree (SV×Core)}(hC:oh P C)(hF:oH P C)(hK:xw P C K call){c:Core}{a:Act}{φ:Core->Prop}(st:St C K H E w c a){g:Nat}(h:(drawn C call g ou c).All φ):
  wpAny P .any ou (fun e a' w'=>e=.normal/\∃c' H' E',φ c'/\St C K H' E' w' c' a'/\Mv K H E w c H' E' w' c') ou.size (bw ou.size ag) a {w with drawn:=w.drawn+1}:=by
 unfold drawn at h;simp only at h;generalize hlk:CY c.hp (Qi C ou.toList c [])=lock at h;cases hb:(cm (c.nx+zO c ou.size*ou.size) c.lim&&ja ou)<;>simp only[hb,cond_true,cond_false] at h
 ·exact h.elim
 simp only[al] at hb;have hle:=Nat.le_of_ble_eq_true hb.1;let w1:World:={w with drawn:=w.drawn+1}
 have st1:St C K H E w1 c a:=st.sameHeap rfl rfl rfl rfl;have hlook:∀id sb,mG lock id=ae sb->mG c.hp id=ae sb:=fun id sb hl=>by grind [MH]
 have hH0:mZ K H E w1 lock:=⟨fun id sb hl=>st1.hp.ent id sb (hlook id sb hl),fun i j s1 s2 b h1 h2=>st1.hp.vO i j s1 s2 b (hlook _ _ h1) (hlook _ _ h2)⟩;have hrefl:Ch K H E w1 c.hp c.tc H E w1 c.hp c.tc (fun i=>c.nx<=i/\i<c.nx+zO c ou.size*ou.size):=by
  have:=(Post.refl (c:=c) st1.hp st1.oQ).mv.ch;exact this.mono fun i hi=>by omega
 refine wpAny_of_held (S:=Still H E lock w1) _ _ _ _ ?_;refine (BI (c0:=c) (R:=fun a' w'=>∃c' H' E',φ c'/\St C K H' E' w' c' a'/\Mv K H E w c H' E' w' c') (φ:=fun c'=>φ {tm:=DU C g c'.tm,hp:=c'.hp,nx:=c.nx+zO c ou.size*ou.size,lim:=c.lim,tc:=I9 c'.tc}) hC hF hK hH0 st1.gl hlook hb.2 ?_
  (2*ou.size+1) (bw ou.size ag) c.tm {c with nx:=0,lim:=0} H E w1 a ou.size ?_ ?_ (bG (yZ h)))
 ·intro H' E' w' c' a' listed xJ r hφ
  have hnew:Free E' {tm:=DU C g c'.tm,hp:=c'.hp,nx:=c.nx+zO c ou.size*ou.size,lim:=c.lim,tc:=I9 c'.tc}:=fun i h1 h2=>by
   have h1:c.nx+zO c ou.size*ou.size<=i:=h1;have h2:i<c.lim:=h2;cases he:E' i with
   |none=>rfl |some v=>
    have:=r.ch.new i (st.free i (by omega) h2) (by rw[he];simp);omega
  refine ⟨_,H',E',hφ,⟨U8 r.st.den,r.st.hp,r.st.oQ,hnew,r.st.gl,r.st.defers⟩,?_⟩;exact Zv (Ch.mv (c:=c) (c':={tm:=DU C g c'.tm,hp:=c'.hp,nx:=c.nx+zO c ou.size*ou.size,lim:=c.lim,tc:=I9 c'.tc}) (r.ch.ars fun i=>U9) (Nat.le_add_right _ _) (.inl hle) rfl) rfl
 ·refine ⟨⟨st1.den,st1.hp,st1.oQ,fun i h1 h2=>by simp at h2,st1.gl,st1.defers⟩,rfl,rfl,fun j hj _ id h1 h2=>?_,st1.den,hrefl,fun id sb b h1 h2=>.inr ⟨sb,hlook id sb h1,h2⟩,fun _ _=>rfl,st1.oQ.on⟩
  have:c.nx+zO c ou.size*(j+1)<=c.nx+zO c ou.size*ou.size:=iJ (dB _ hj) _;exact st.free id (by omega) (by omega)
 grind [cnt,Nat.le_trans,List.countP_le_length]
theorem ag7{call:Nat->List SV->Core->Tree (SV×Core)}(hC:oh P C)(hF:oH P C)(hK:xw P C K call){c:Core}{a:Act}{φ:Core->Prop}{id:Nat}(st:St C K H E w c a){g:Nat}(h:(drawn C call g ou c).All φ):
  (Code.region id ou aj).wp P (fun e a' w'=>e=.normal/\∃c' H' E',φ c'/\St C K H' E' w' c' a'/\Mv K H E w c H' E' w' c') a w:=
 wp_region_any hC.mixed (Va hC hF hK st h)
end
section
variable{P:Program}{C:Ctx}{K:Kx}{H H' Fj:Mem}{E E' Fp:Env}{w w' w'':World}
theorem amY{ops:Array Oper}{i:Nat}{rest:List Nat}{next:Act->World->Prop}{a:Act}(h:wpOp P ops (fun _ _ _=>False) i next a w)(b:Frame)(k:List Item)(cs:List Frame):
  ∃a' w',next a' w'/\Steps P (lone (b.at a (.inRegion ops (i::rest)::k)) cs w) (lone (b.at a' (.inRegion ops rest::k)) cs w'):=by
 unfold wpOp at h;cases ho:ops[i]? with
 |none=>
  simp only[ho] at h;have hs:=step_op_skip (P:=P) (b:=b) (a:=a) (k:=k) (cs:=cs) (w:=w) (ops:=ops) (i:=i) (rest:=rest) (by simp[ho]);simp only[ho,Option.bind_none,Act.put] at hs;exact ⟨a,w,h,.one hs⟩
 |some o=>
  simp only[ho] at h;by_cases hw:Region.wanted o (yielded ops a.tmps)=aj
  ·simp only[hw,if_true] at h
   rcases h with h|⟨_,_,_,hq⟩
   case inr=>exact hq.elim
   simp only[Oper.wp] at h;have hg:=stepG_op (P:=P) (b:=b) (k:=k) (cs:=cs) (w:=w) (rest:=rest) ho hw;have hfin:∀v,(b.at a (.inRegion ops (i::rest)::k)).finish v=b.at (a.put o.dst v) (.inRegion ops rest::k):=by
    simp_all [eA]
   generalize hr:(execOp a.eval o).run P w=r at h;cases r with
   |ok n w'=>
    cases n<;>simp only[ku] at h
    case value v=>
     refine ⟨_,_,h,.one (step_lone_go ?_)⟩;simp_all [b5]
    case skip=>
     refine ⟨_,_,h,.one (step_lone_go ?_)⟩;simp_all [b5]
    case defer d=>
     refine ⟨_,_,h,.one (step_lone_go ?_)⟩;have:({b.at a (.inRegion ops (i::rest)::k) with defers:=d::a.defers}:Frame).finish undef =
       b.at ({a with defers:=d::a.defers}.put o.dst undef) (.inRegion ops rest::k):=by
      have:=eA b {a with defers:=d::a.defers} ops i rest k undef
      rw[ho] at this;exact this
     rw[hg];simp only[b5,Sem.runT_eq,hr,GStep.bare_after];exact congrArg (fun fr=>GStep.go {frame:=fr,callers:=cs,status:=.running,dying:=aq} w') this
    case enter f args=>
     obtain ⟨e,w'',fr,hR,hsteps,_,hleave⟩:=h (b.at a (.inRegion ops (i::rest)::k)::cs);have henter:step P (lone (b.at a (.inRegion ops (i::rest)::k)) cs w) =
       .next (lone (bY P f args .normal) (b.at a (.inRegion ops (i::rest)::k)::cs) w'):=
      step_lone_go (by simp_all [b5,Frame.at])
     cases e with
     |returned v=>
      refine ⟨_,_,hR,.head henter (hsteps.trans (.one ?_))⟩;grind [step_leave_returned]
     |panicked chain=>exact hR.elim |outgrown=>obtain ⟨_,_,hq⟩:=hR;exact hq.elim
    case row row args=>
     obtain ⟨v,w'',hR,hsteps⟩:=h (b.at a (.inRegion ops (i::rest)::k)) cs;have henter:step P (lone (b.at a (.inRegion ops (i::rest)::k)) cs w) =
       .next (lone (Frame.ofRow P row args .normal) (b.at a (.inRegion ops (i::rest)::k)::cs) w'):=
      step_lone_go (by simp_all [b5,Frame.at])
     refine ⟨_,_,hR,.head henter ?_⟩;simp_all
    all_goals exact h.elim
   |halt x w'=>
    cases x<;>simp only[ku] at h
    all_goals exact h.elim
  ·simp only[hw,if_false,Bool.false_eq_true] at h
   have hs:=step_op_skip (P:=P) (b:=b) (a:=a) (k:=k) (cs:=cs) (w:=w) (ops:=ops) (i:=i) (rest:=rest)
    (by simp_all)
   simp only[ho,Option.bind_some] at hs;exact ⟨_,_,h,.one hs⟩
inductive pq(body:Code):List It->List Item->Prop
 |nil:pq body [] []
 |code (p:List Nat) {td:List It} {k:List Item}:pq body td k->pq body (.code p::td) (.code (nP body p)::k)
 |loop (p:List Nat) (x:Code) {td:List It} {k:List Item}:nP body p=.loop x->pq body td k->pq body (.code p::td) (.inLoop x::k)
 |inBlock (id:Nat) {td:List It} {k:List Item}:pq body td k->pq body (.inBlock id::td) (.inBlock id::k)
 |Qj {td:List It} {k:List Item}:pq body td k->pq body (.Qj::td) (.beginRound::k)
 |reg (p:List Nat) (l:List Nat) (id:Nat) (ops:Array Oper) {td:List It} {k:List Item}:nP body p=.region id ops ag->pq body td k->pq body (.reg p l::td) (.inRegion ops l::k)
theorem abn{body:Code}{id:Nat}:∀{td vS:List It} {k:List Item},pq body td k->yw id td=ae vS->∃k',exitTo id k=ae k'/\pq body vS k':=by
 intro td vS k h;induction h with
 |nil=>simp_all [yw] |code p _ ih=>assumption |Qj _ ih=>assumption |loop p x _ _ ih=>assumption |reg p l id ops _ _ ih=>assumption |inBlock j h0 ih=>
  intro h;simp only[yw] at h;grind [exitTo]
def resV(a:Act)(r:ResultVar):Sem Value:=
 match r with
 | .tmp t=>pure (a.tmps.getD t undef) | .cell x t=>do loadVar t (<-asAddr (a.tmps.getD x undef))
theorem XB(fn:Func)(a:Act):results fn a.tmps=(do let vs <-fn.results.mapM (resV a);pure (if h:vs.size=1 then vs[0] else .tuple vs)):=rfl
theorem OC(hC:oh P C){c:Core}{a:Act}(st:St C K H E w c a):∀{rs:List ResultVar} {l:List SV},UG C c rs=ae l->∃vs:List Value,
  (rs.mapM (resV a)).run P w=.ok vs w/\mW H E l vs
 |[],l,h=>by simp[UG] at h;subst h;exact ⟨[],by simp,trivial⟩ | .tmp t::rs,l,h=>by
  simp only[UG] at h;split at h
  ·rename_i sv r h1 h2
   cases h;obtain ⟨vs,e1,e2⟩:=OC hC st h2;obtain ⟨u,h3,h4⟩:=st.den.get h1;refine ⟨u::vs,?_,h4,e2⟩;rw[cI] at h3;have:a.tmps.getD t undef=u:=by simp_all
   simp_all [resV,List.mapM_cons,cH]
  ·cases h
 | .cell x t::rs,l,h=>by
  simp only[UG] at h;split at h
  ·rename_i i r h1 h2
   simp only[aO] at h;obtain ⟨sv,h3,rfl⟩:=h;obtain ⟨vs,e1,e2⟩:=OC hC st h2;have ht:=hC.ty _ _ h1;have dx:=nU (H:=H) (E:=E) st.den (.tmp x);obtain ⟨ad,cs,q1,q2,q3,q4⟩:=RD (w:=w) dx st.hp st.gl (fun hz=>by
    obtain ⟨_,_,_,_,_,_,_,_,_,h1⟩:=ht.info;grind) h3
   refine ⟨DW i.ty.isAgg cs::vs,?_,q3,e2⟩;have q1:a.tmps.getD x undef=.pointer (ae ad):=q1;have hl:=X3 ht q2 (q4 w (LW.refl _ _ _ _) st.oQ.on);have hv:(resV a (.cell x t)).run P w=.ok (DW i.ty.isAgg cs) w:=by simp[resV,asAddr,q1,hl,DW]
   simp_all
  ·cases h
theorem Vb(hC:oh P C){c:Core}{a:Act}{fn:Func}{φ:Out->Prop}(st:St C K H E w c a)(h:(result C fn c).All φ):∃sv v,φ (.done sv c)/\Den H E sv v/\(results fn a.tmps).run P w=.ok v w:=by
 have key:∀vs:List Value,(fn.results.toList.mapM (resV a)).run P w=.ok vs w->
   (results fn a.tmps).run P w=.ok (if h:vs.toArray.size=1 then vs.toArray[0] else .tuple vs.toArray) w:=by
  grind [XB,Array.mapM_eq_mapM_toList,cn,map_eq_pure_bind,lC,cH]
 unfold result at h;split at h
 ·rename_i sv hs
  obtain ⟨vs,e1,e2⟩:=OC hC st hs;match vs,e2 with
  |[v],⟨e2,_⟩=>
   exact ⟨sv,v,h,e2,by simp_all⟩
 ·rename_i l hne hs
  obtain ⟨vs,e1,e2⟩:=OC hC st hs;refine ⟨_,.tuple vs.toArray,h,⟨vs.toArray,rfl,e2⟩,?_⟩;rw[key vs e1,dif_neg];intro h1;have:=e2.length;simp at h1;match l,hne,(this ▸ h1:l.length=1) with
  |[x],hne,_=>grind
 ·exact h.elim
end
section
variable{P:Program}{C:Ctx}{K:Kx}{H H' Fj:Mem}{E E' Fp:Env}{w w' w'':World}
def Zw(P:Program)(C:Ctx)(K:Kx)(fn:Func)(g:Nat)(H:Mem)(E:Env)(w:World)(c:Core)(m:Machine)(b:Frame)(cs:List Frame):Out->Prop
 | .done sv c'=>∃(a':Act) (w':World) (H':Mem) (E':Env) (v:Value) (todo:List Item),Steps P m (lone {b.at a' todo with mode:=.returning} cs w')/\St C K H' E' w' c' a'/\Mv K H E w c H' E' w' c'/\
   Den H' E' sv v/\(results fn a'.tmps).run P w'=.ok v w'
 | .stop g' vS c'=>g'=g/\∃(a':Act) (w':World) (H':Mem) (E':Env) (items':List Item),Steps P m (lone (b.at a' items') cs w')/\St C K H' E' w' c' a'/\Mv K H E w c H' E' w' c'/\pq (mX fn) vS items'
theorem Zw.of{fn:Func}{g:Nat}{c c1:Core}{m m1:Machine}{b:Frame}{cs:List Frame}{out:Out}(hs:Steps P m m1)(hm:Mv K H E w c H' E' w' c1)(h:Zw P C K fn g H' E' w' c1 m1 b cs out):
  Zw P C K fn g H E w c m b cs out:=by
 cases out with
 |done sv c'=>
  obtain ⟨a2,w2,H2,E2,v,todo,h1,h2,h3,h4,h5⟩:=h;exact ⟨a2,w2,H2,E2,v,todo,hs.trans h1,h2,hm.trans h3,h4,h5⟩
 |stop g' vS c'=>
  obtain ⟨hg,a2,w2,H2,E2,items,h1,h2,h3,h4⟩:=h;exact ⟨hg,a2,w2,H2,E2,items,hs.trans h1,h2,hm.trans h3,h4⟩
def ad4(P:Program)(C:Ctx)(K:Kx)(fn:Func)(H:Mem)(E:Env)(w:World)(c:Core)(m:Machine)(b:Frame)(cs:List Frame):Sig->Prop
 | .done sv c'=>∃(a':Act) (w':World) (H':Mem) (E':Env) (v:Value) (todo:List Item),Steps P m (lone {b.at a' todo with mode:=.returning} cs w')/\St C K H' E' w' c' a'/\Mv K H E w c H' E' w' c'/\
   Den H' E' sv v/\(results fn a'.tmps).run P w'=.ok v w'
 | .go vS c'=>∃(a':Act) (w':World) (H':Mem) (E':Env) (items':List Item),Steps P m (lone (b.at a' items') cs w')/\St C K H' E' w' c' a'/\Mv K H E w c H' E' w' c'/\pq (mX fn) vS items' | .halt vS c'=>∃(a':Act) (w':World) (H':Mem) (E':Env) (items':List Item),Steps P m (lone (b.at a' items') cs w')/\St C K H' E' w' c' a'/\Mv K H E w c H' E' w' c'/\pq (mX fn) vS items'
theorem St.DU{c:Core}{a:Act}(st:St C K H E w c a)(g:Nat):St C K H E w {c with tm:=Go.Sx.DU C g c.tm} a:=
 ⟨U8 st.den,st.hp,st.oQ,st.free,st.gl,st.defers⟩
theorem Qu(hC:oh P C)(hF:oH P C){call:Nat->List SV->Core->Tree (SV×Core)}(hK:xw P C K call){top:Bool}{g:Nat}{fn:Func}{td:List It}{c:Core}{a:Act}{items:List Item}{φ:Sig->Prop}
  (h:(Ja C call top g fn td c).All φ) (st:St C K H E w c a) (hi:pq (mX fn) td items) (b:Frame) (cs:List Frame) :
  ∃sig,φ sig/\ad4 P C K fn H E w c (lone (b.at a items) cs w) b cs sig:=by
 have Cb:Mv K H E w c H E w c:=yN st rfl rfl rfl rfl;have go:∀{vS:List It} {c':Core} {H':Mem} {E':Env} {w':World} {a':Act} {items':List Item},φ (.go vS c')->St C K H' E' w' c' a'->Mv K H E w c H' E' w' c'->pq (mX fn) vS items'->
   Steps P (lone (b.at a items) cs w) (lone (b.at a' items') cs w')->∃sig,φ sig/\ad4 P C K fn H E w c (lone (b.at a items) cs w) b cs sig:=fun h1 h2 h3 h4 h5=>⟨_,h1,_,_,_,_,_,h5,h2,h3,h4⟩
 have fin:∀(todo:List Item),((result C fn c).bind Ze).All φ->step P (lone (b.at a items) cs w)=.next (lone {b.at a todo with mode:=.returning} cs w)->∃sig,φ sig/\ad4 P C K fn H E w c (lone (b.at a items) cs w) b cs sig:=fun todo hr hs=>by
  obtain ⟨sv,v,h1,h2,h3⟩:=Vb hC st (bG hr);exact ⟨_,h1,a,w,H,E,v,todo,.one hs,st,Cb,h2,h3⟩
 unfold Ja at h;split at h
 ·cases hi
  exact fin _ h step_end
 ·cases hi with
  |inBlock id hk=>exact go h st Cb hk (.one step_inBlock)
 ·exact h.elim
 ·cases hi with
  |reg p l id ops hc hk=>exact go h (st.DU g) (yN st rfl rfl rfl rfl) hk (.one step_region_end)
 ·rename_i p i r k
  cases hi with
  |reg p l id ops hc hk=>
   rw[hc] at h;simp only at h;obtain ⟨a',w',h1,h2⟩:=amY (MG hC hF hK st (bG h) (fun a' w'=>∃c' H' E',φ (.go (.reg p r::k) c')/\St C K H' E' w' c' a'/\Mv K H E w c H' E' w' c') (fun _ _ _=>False)
    fun c' a' H' E' w' e1 e2 e3 _=>⟨c',H',E',e1,e2,e3⟩) b _ cs
   obtain ⟨c',H',E',e1,e2,e3⟩:=h1;exact go e1 e2 e3 (.reg p r id ops hc hk) h2
 ·rename_i p k
  have hloop:∀{x:Code},nP (mX fn) p=x->(∀y,x≠.loop y)->∃k',items=.code x::k'/\pq (mX fn) k k':=fun {x} hx hne=>by
   cases hi with
   |code p hk=>simp_all |loop p y hl hk=>grind
  split at h
  ·rename_i hx
   obtain ⟨k',rfl,hk⟩:=hloop hx (by simp);exact go h st Cb hk (.one step_skip)
  ·grind [step_ret]
  ·rename_i x y hx
   obtain ⟨k',rfl,hk⟩:=hloop hx (by simp);have h0:nP (mX fn) (0::p)=x:=by simp[nP,hx,child]
   have h1:nP (mX fn) (1::p)=y:=by simp[nP,hx,child]
   have:=pq.code (0::p) (pq.code (1::p) hk);rw[h0,h1] at this;exact go h st Cb this (.one step_seq)
  ·rename_i id x hx
   obtain ⟨k',rfl,hk⟩:=hloop hx (by simp);have h0:nP (mX fn) (0::p)=x:=by simp[nP,hx,child]
   have:=pq.code (0::p) (pq.inBlock id hk);rw[h0] at this;exact go h st Cb this (.one step_block)
  ·rename_i x hx
   have h0:nP (mX fn) (0::p)=x:=by simp[nP,hx,child]
   cases hst:C.Dq g p<;>simp only[hst,cond_true,cond_false] at h
   ·cases hi with
    |code p hk=>
     have:=pq.code (0::p) (pq.loop p x hx hk);rw[h0] at this;rw[hx] at go ⊢;exact go h st Cb this (.one step_loop)
    |loop p y hl hk=>
     rw[hx] at hl;cases hl;have:=pq.code (0::p) (pq.loop p x hx hk);rw[h0] at this;exact go h st Cb this (.one step_inLoop)
   ·exact ⟨_,h,a,w,H,E,items,.refl _ _,st,Cb,hi⟩
  ·rename_i id hx
   obtain ⟨k',rfl,hk⟩:=hloop hx (by simp);split at h
   ·rename_i k2 he
    obtain ⟨k3,h1,h2⟩:=abn hk he;exact go h st Cb h2 (.one (step_exit h1))
   ·exact h.elim
  ·rename_i x y z hx
   obtain ⟨k',rfl,hk⟩:=hloop hx (by simp);have h0:=pq.code (0::p) hk;have h1:=pq.code (1::p) hk;have e0:nP (mX fn) (0::p)=y:=by simp[nP,hx,child]
   have e1:nP (mX fn) (1::p)=z:=by simp[nP,hx,child]
   rw[e0] at h0;rw[e1] at h1;have dx:=nU (H:=H) (E:=E) st.den x;split at h
   ·rename_i hv
    rw[hv] at dx;exact go h st Cb h0 (.one (step_cond (t:=aj) dx))
   ·rename_i hv
    rw[hv] at dx;exact go h st Cb h1 (.one (step_cond (t:=ag) dx))
   ·rename_i t hv
    rw[hv] at dx;have st':∀v,t=v->St C K H E w (c.put (N7 x) (.bool v)) a:=fun v hv2=>by
     subst hv2;cases x with
     |tmp d=>exact st.know hv |const u=>assumption |global u=>assumption |func u=>assumption
    have mv':∀v:Bool,Mv K H E w c H E w (c.put (N7 x) (.bool v)):=fun v=>yN st rfl rfl rfl rfl
    cases t with
    |true=>exact go (h.1 rfl) (st' aj rfl) (mv' aj) h0 (.one (step_cond (t:=aj) dx)) |false=>exact go (h.2 rfl) (st' ag rfl) (mv' ag) h1 (.one (step_cond (t:=ag) dx))
   ·exact h.elim
  ·rename_i id ops dr hx
   obtain ⟨k',rfl,hk⟩:=hloop hx (by simp);cases dr with
   |false=>
    simp only[cond_false] at h;exact go h st Cb (.reg p (aE ops.size) id ops hx hk) (.one step_region)
   |true=>
    simp only[cond_true] at h;have key:∀(f:Core->Tree Sig),((drawn C call g ops c).bind f).All φ->∃c' a' H' E' w',(f c').All φ/\St C K H' E' w' c' a'/\Mv K H E w c H' E' w' c'/\Steps P (lone (b.at a (.code (.region id ops aj)::k')) cs w) (lone (b.at a' k') cs w'):=fun f hf=>by
     obtain ⟨e,a',w',⟨he,c',H',E',h1,h2,h3⟩,harr⟩:=ag7 (id:=id) hC hF hK st (bG hf) b k' cs;subst he;exact ⟨c',a',H',E',w',h1,h2,h3,harr⟩
    cases hl:(top && !(drawn C call g ops c).lone)<;>simp only[hl,cond_true,cond_false] at h
    ·obtain ⟨c',a',H',E',w',h1,h2,h3,h4⟩:=key _ h
     exact go h1 h2 h3 hk h4
    ·obtain ⟨c',a',H',E',w',h1,h2,h3,h4⟩:=key _ h
     exact ⟨_,h1,a',w',H',E',k',h4,h2,h3,hk⟩
  ·exact h.elim
def Vd(P:Program)(C:Ctx)(K:Kx)(run:Bool->Nat->List It->Core->Tree Out):Prop:=
 ∀(top:Bool) (g:Nat) (td:List It) (c:Core) (H:Mem) (E:Env) (w:World) (a:Act) (fn:Func) (items:List Item) (φ:Out->Prop),C.fns.get g=ae fn->(run top g td c).All φ->St C K H E w c a->
  pq (mX fn) td items->∀(b:Frame) (cs:List Frame),∃out,φ out/\Zw P C K fn g H E w c (lone (b.at a items) cs w) b cs out
theorem Bz{p:Nat->Bool}:∀{l:List (Nat×SB)} {i:Nat},mG (dropKey p l) i=bif p i then aq else mG l i
 |[],i=>by simp_all [dropKey,mG] |(j,b)::r,i=>by
  have ih:=Bz (p:=p) (l:=r) (i:=i);simp only[dropKey];grind [mG]
theorem Mv.gc{c c':Core}(h:Mv K H E w c H' E' w' c')(hf:Free E c){p:Nat->Bool}(hp:∀i,p i=aj->c.nx<=i/\i<c.lim):Mv K H E w c H' E' w' {c' with hp:=dropKey p c'.hp}:=by
 have hl:∀{i sb},mG (dropKey p c'.hp) i=ae sb->mG c'.hp i=ae sb:=fun {i sb} h=>by
  grind [Bz]
 have hch:=h.ch;refine Ch.mv (c:=c) (c':={c' with hp:=dropKey p c'.hp}) ⟨hch.yF,hch.Dc,hch.new,⟨fun id sb hq=>hch.hp.ent _ _ (hl hq),fun id id' sb sb' b q1 q2=>hch.hp.vO _ _ _ _ _ (hl q1) (hl q2)⟩,hch.oQ,hch.tc,hch.size,hch.fr,hch.EJ,hch.TG,fun id sb b q1 q2 q3=>?_,fun id sb q1=>hch.old id sb (hl q1)⟩ h.nx h.lim h.aaX
 rcases hch.keep id sb b q1 q2 q3 with q|⟨sb',q4,q5⟩
 ·exact .inl q
 ·refine .inr ⟨sb',?_,q5⟩
  show mG (dropKey p c'.hp) id=ae sb';rw[Bz];cases hi:p id<;>simp only[cond_true,cond_false]
  ·exact q4
  ·have:=hf id (hp id hi).1 (hp id hi).2
   have q6:=wz q3;simp_all [bk]
theorem Kw(hC:oh P C)(hF:oH P C){run:Bool->Nat->List It->Core->Tree Out}(hr:Vd P C K run):xw P C K (Dt C (run ag)):=by
 intro H E w c g args uG φ hd hh hw hf hg h;unfold Dt at h;split at h
 ·exact h.elim
 ·rename_i fn hfn
  cases hb:(cm args.length fn.ntmps&&fn.body.isSome)<;>simp only[hb,cond_true,cond_false] at h
  ·exact h.elim
  simp only[al] at hb;obtain ⟨body,hbody⟩:=bJ.1 hb.2;have hP:=hC.fn g fn hfn;refine ⟨hF.en g (.inr (by rw[hfn];rfl)),fun cs=>?_⟩;let b:Frame:={(default:Frame) with fn:=g,kind:=.normal}
  let a:Act:={tmps:=uG.toArray++bw (fn.ntmps - uG.toArray.size) undef,defers:=[]}
  have henter:bY P g uG.toArray .normal=b.at a [.code body]:=by
   grind [bY,Frame.at]
  have hlen:=hd.length;have st:St C K H E w {tm:=args++bp (fn.ntmps - args.length) .any,hp:=c.hp,nx:=c.nx,lim:=c.lim,tc:=c.tc} a:=by
   refine ⟨?_,hh,hw,hf,hg,rfl⟩;have:a.tmps.toList=uG++bp (fn.ntmps - args.length) undef:=by simp[a,hlen]
   rw[this];exact hd.append (ig _ _ (by simp))
  have hit:pq (mX fn) [.code []] [.code body]:=by
   have:=pq.code (body:=mX fn) [] pq.nil;simp_all [nP,mX]
  obtain ⟨out,h1,h2⟩:=hr ag g [.code []] _ H E w a fn [.code body] _ hfn (bG h) st hit b cs;cases out with
  |stop _ _ _=>exact h1.elim |done sv c'=>
   obtain ⟨a',w',H',E',v,todo,q1,q2,q3,q4,q5⟩:=h2;refine ⟨.returned v,w',_,⟨_,v,H',E',rfl,h1,q4,?_⟩,by rw[henter];exact q1,rfl,rfl,q2.defers,rfl,fn,hP,q5⟩;have q3':=q3.to (d:=c) (d':={c' with tm:=c.tm}) rfl rfl rfl rfl rfl rfl rfl rfl
   have q6:=q3'.gc hf (p:=fun i=>cm c.nx i&&bT i c.lim && !(reach c'.hp 4000 (refs sv++CX c'.hp c'.tc) []).contains i) (fun i hi=>by simp_all);exact q6
theorem ag8:Vd P C K (run C 0):=fun _ _ _ _ H E w a _ items _ _ h st hi _ _=>
 ⟨_,h,rfl,a,w,H,E,items,.refl _ _,st,yN st rfl rfl rfl rfl,hi⟩
theorem ag9(hC:oh P C)(hF:oH P C){n:Nat}(ih:Vd P C K (run C n)):Vd P C K (run C (n+1)):=by
 intro top g td c H E w a fn items φ hfn h st hi b cs;have hK:=Kw hC hF ih;unfold run at h;rw[hfn] at h;simp only at h;obtain ⟨sig,h1,h2⟩:=Qu hC hF hK (bG h) st hi b cs;cases sig with
 |go vS c'=>
  obtain ⟨a',w',H',E',items',q1,q2,q3,q4⟩:=h2;obtain ⟨out,q5,q6⟩:=ih top g _ _ _ _ _ _ fn _ φ hfn h1 q2 q4 b cs;exact ⟨out,q5,q6.of q1 q3⟩
 |done sv c'=>exact ⟨_,h1,h2⟩ |halt vS c'=>exact ⟨_,h1,rfl,h2⟩
theorem Ky(hC:oh P C)(hF:oH P C):∀n,Vd P C K (run C n)
 |0=>ag8 |n+1=>ag9 hC hF (Ky hC hF n)
end
mutual
def Yb:SV->List Nat
 | .agg l=>MI l | .mV l=>MI l | .fn _ l=>zM l | .pV _ x=>adw x | .ptr id _=>[id] |_=>[]
def MI:List SV->List Nat
 |[]=>[] |x::r=>Yb x++MI r
end
def OE(hp:List (Nat×SB))(id:Nat):Option (Nat×Nat×Nat×(Nat->List Sh)):=
 match mG hp id with
 |some (.own e st n g)=>ae (e,st,n,g) |some (.row cells e st n)=>bif uP cells then (xX hp cells).map fun l=>(e,st,n,nM (chunks st n l)) else aq |_=>aq
mutual
def zf(hp:List (Nat×SB)):SV->List Nat
 | .agg l=>OG hp l | .mV l=>OG hp l | .gs id=>match mG hp id with
  |some (.fz _ _ _)=>[] |_=>[id]
 |_=>[]
def OG(hp:List (Nat×SB)):List SV->List Nat
 |[]=>[] |x::r=>zf hp x++OG hp r
end
mutual
def zh(hp:List (Nat×SB)):SV->Option Sh
 | .agg l=>(Kz hp l).map .agg | .mV l=>(Kz hp l).map .mV | .gs id=>match mG hp id with
  |some (.fz st n g)=>ae (.sl st n g) |_=>(OE hp id).map fun r=>.os r.1 r.2.1 r.2.2.1 r.2.2.2
 |x=>rG hp x
def Kz(hp:List (Nat×SB)):List SV->Option (List Sh)
 |[]=>ae [] |x::r=>match zh hp x,Kz hp r with
  |some s,ae l=>ae (s::l) |_,_=>aq
end
def AQ:List Nat->Bool
 |[]=>aj |x::l=>!l.contains x&&AQ l
def ai1(hp:List (Nat×SB)):List Nat->List Nat
 |[]=>[] |id::r=>(match mG hp id with
  |some (.row cells _ _ _)=>zM cells |_=>[])++ai1 hp r
def finish(c:Core)(v:SV):Option Sh:=
 match freeze c.hp (Yb v++ai1 c.hp (zf c.hp v)) with
 |some hp=>bif AQ (zf hp v) then zh hp v else aq |none=>aq
section
variable{P:Program}{C:Ctx}{K:Kx}{H H' Fj:Mem}{E E' Fp E1:Env}{w w' w'':World}
theorem Ve:∀{l:List Nat} {i j x:Nat},AQ l=aj->l[i]?=ae x->l[j]?=ae x->i=j
 |[],_,_,_,_,h,_=>by simp at h |y::l,0,0,_,_,_,_=>rfl |y::l,0,j+1,x,h,h1,h2=>by
  grind [AQ]
 |y::l,i+1,0,x,h,h1,h2=>by
  grind [AQ]
 |y::l,i+1,j+1,x,h,h1,h2=>by
  simp only[AQ,al] at h;have e:=Ve (l:=l) (i:=i) (j:=j) (x:=x) h.2 (by grind) (by grind);rw[e]
theorem Vf{hp:List (Nat×SB)}{id:Nat}{r:Nat×Nat×Nat×(Nat->List Sh)}(hh:mZ K H E w hp)(h:OE hp id=ae r):
  wo K H E w id (.own r.1 r.2.1 r.2.2.1 r.2.2.2)/\∃sb,mG hp id=ae sb/\∀b,bk E id=ae b->nN E id sb=ae b:=by
 unfold OE at h;split at h
 ·rename_i e st n g hl
  cases h;exact ⟨hh.ent _ _ hl,_,hl,fun b hb=>hb⟩
 ·rename_i cells e st n hl
  cases ho:uP cells<;>simp only[ho,cond_true,cond_false] at h
  ·cases h
  simp only[aO] at h;obtain ⟨l,h1,rfl⟩:=h;obtain ⟨v,xs,e1,e2,e3,e4⟩:=hh.ent _ _ hl;exact ⟨⟨v,xs,e1,e2,zQ e2.1 (sG hh h1 e3) (uF ho e3),e4⟩,_,hl,fun b hb=>hb⟩
 ·cases h
def aoi(K:Kx)(H:Mem)(E:Env)(w:World)(hp:List (Nat×SB))(id:Nat)(x:SB):Prop:=
 wo K H E w id x/\(∃e st n g,x=.own e st n g)/\∃sb,mG hp id=ae sb/\∀b,bk E id=ae b->nN E id sb=ae b
mutual
theorem Qv:∀{s:Sh} {u:Value} (b0:Nat),Rep H s u->Den H E1 (pY s b0).1 u/\(pY s b0).2.2=b0/\(pY s b0).2.1=[]
 | .i k n,_,b0,h=>by cases h;exact ⟨rfl,rfl,rfl⟩ | .b y,_,b0,h=>by cases h;exact ⟨rfl,rfl,rfl⟩ | .v y,_,b0,h=>by cases h with|v _ h1=>exact ⟨aaK h1,rfl,rfl⟩
 | .str l,_,b0,h=>⟨h,rfl,rfl⟩ | .sl _ _ _,_,b0,h=>⟨h,rfl,rfl⟩ | .pV _ _,_,b0,h=>⟨h,rfl,rfl⟩ | .fn _ _,_,b0,h=>⟨LV h,rfl,rfl⟩ | .er _ _,_,b0,h=>⟨h,rfl,rfl⟩ | .pt _,_,b0,h=>⟨LV h,rfl,rfl⟩ | .os _ _ _ _,_,b0,h=>by cases h | .agg l,u,b0,h=>by
  cases h with
  |agg _ vs h1 h2=>
   have:=MJ (l:=l) (vs:=vs.toList) b0 (lR (by omega) fun j s v e1 e2=>h2 j s v e1 (by grind));exact ⟨⟨vs,rfl,this.1⟩,this.2.1,this.2.2⟩
 | .mV l,u,b0,h=>by
  cases h with
  |mV _ vs h1 h2=>
   have:=MJ (l:=l) (vs:=vs.toList) b0 (lR (by omega) fun j s v e1 e2=>h2 j s v e1 (by grind));exact ⟨⟨vs,rfl,this.1⟩,this.2.1,this.2.2⟩
theorem MJ:∀{l:List Sh} {vs:List Value} (b0:Nat),qQ H l vs->mW H E1 (sN l b0).1 vs/\(sN l b0).2.2=b0/\(sN l b0).2.1=[]
 |[],[],b0,_=>⟨trivial,rfl,rfl⟩ |s::l,v::vs,b0,⟨h1,h2⟩=>by
  have a:=Qv b0 h1;have b:=MJ b0 h2;simp only[sN,a.2.1,a.2.2,List.nil_append];exact ⟨⟨a.1,b.1⟩,b.2⟩
 |[],_::_,_,h=>h.elim |_::_,[],_,h=>h.elim
end
def Knows(E E1:Env)(b0:Nat)(ids:List Nat):Prop:=∀k id,ids[k]?=ae id->E1 (b0+k)=E id
theorem Knows.left{b0:Nat}{l l':List Nat}(h:Knows E E1 b0 (l++l')):Knows E E1 b0 l:=fun k id hk=>h k id (by
 grind)
theorem Knows.right{b0:Nat}{l l':List Nat}(h:Knows E E1 b0 (l++l')):Knows E E1 (b0+l.length) l':=fun k id hk=>by
 rw[Nat.add_assoc];exact h (l.length+k) id (by grind)
structure Cc(K:Kx)(H:Mem)(E E1:Env)(w:World)(hp:List (Nat×SB))(ids:List Nat)(b0 n:Nat)(l:List (Nat×SB)):Prop where
 len:n=b0+ids.length
 mem:∀i x,(i,x)∈l->∃k id,i=b0+k/\ids[k]?=ae id/\aoi K H E w hp id x
 cov:∀id∈ids,∃sb,mG hp id=ae sb/\∀b,bk E id=ae b->nN E id sb=ae b
theorem Cc.nil{hp:List (Nat×SB)}{b0:Nat}:Cc K H E E1 w hp [] b0 b0 []:=⟨rfl,fun _ _ h=>(by cases h),fun _ h=>(by cases h)⟩
theorem Cc.app{hp:List (Nat×SB)}{b0 n m:Nat}{i1 i2:List Nat}{l1 l2:List (Nat×SB)}(h1:Cc K H E E1 w hp i1 b0 n l1)(h2:Cc K H E E1 w hp i2 n m l2):Cc K H E E1 w hp (i1++i2) b0 m (l1++l2):=by
 refine ⟨by rw[h2.len,h1.len,List.length_append];omega,fun i x hx=>?_,fun id hid=>(aU.1 hid).elim (h1.cov id) (h2.cov id)⟩;rcases aU.1 hx with hx|hx
 ·obtain ⟨k,id,e1,e2,e3⟩:=h1.mem i x hx
  exact ⟨k,id,e1,by grind,e3⟩
 ·obtain ⟨k,id,e1,e2,e3⟩:=h2.mem i x hx
  exact ⟨i1.length+k,id,by rw[e1,h1.len];omega,by grind,e3⟩
mutual
theorem Yc{hp:List (Nat×SB)}(hh:mZ K H E w hp):∀{x:SV} {s:Sh} {u:Value} (b0:Nat),zh hp x=ae s->Den H E x u->Knows E E1 b0 (zf hp x)->
  Den H E1 (pY s b0).1 u/\Cc K H E E1 w hp (zf hp x) b0 (pY s b0).2.2 (pY s b0).2.1
 | .agg l,s,u,b0,h,hd,hk=>by
  simp only[zh,aO] at h;obtain ⟨l',h1,rfl⟩:=h;obtain ⟨vs,rfl,hl⟩:=hd;have:=MK hh b0 h1 hl (by assumption);exact ⟨⟨vs,rfl,this.1⟩,by simp_all [zf,pY]⟩
 | .mV l,s,u,b0,h,hd,hk=>by
  simp only[zh,aO] at h;obtain ⟨l',h1,rfl⟩:=h;obtain ⟨vs,rfl,hl⟩:=hd;have:=MK hh b0 h1 hl (by assumption);exact ⟨⟨vs,rfl,this.1⟩,by simp_all [zf,pY]⟩
 | .gs id,s,u,b0,h,hd,hk=>by
  simp only[zh] at h;split at h
  ·rename_i st n g hl
   cases h;obtain ⟨v,he,hr⟩:=hh.ent _ _ hl;rw[hd.1] at he;grind [zf,Qv,Cc.nil]
  ·rename_i hne
   simp only[aO] at h;obtain ⟨r,h1,rfl⟩:=h;have hi:zf hp (.gs id)=[id]:=by
    simp only[zf]
   rw[hi] at hk ⊢;have hE1:E1 b0=E id:=by simpa using hk 0 id rfl
   obtain ⟨a1,a2⟩:=Vf hh h1;refine ⟨⟨by rw[hE1];exact hd.1,hd.2⟩,⟨by simp[pY],fun i x hx=>?_,fun i hi=>?_⟩⟩;rotate_left
   ·simp_all
   simp[pY] at hx;obtain ⟨rfl,rfl⟩:=hx;exact ⟨0,id,rfl,rfl,a1,⟨_,_,_,_,rfl⟩,a2⟩
 | .any,s,u,b0,h,hd,hk=>by simp[zh,rG] at h | .val _,s,u,b0,h,hd,hk=>sH hh b0 h (by rfl) (by rfl) hd | .int _ _,s,u,b0,h,hd,hk=>sH hh b0 h (by rfl) (by rfl) hd | .sym _ _,s,u,b0,h,hd,hk=>sH hh b0 h (by rfl) (by rfl) hd | .bool _,s,u,b0,h,hd,hk=>sH hh b0 h (by rfl) (by rfl) hd | .test _,s,u,b0,h,hd,hk=>sH hh b0 h (by rfl) (by rfl) hd | .str _,s,u,b0,h,hd,hk=>sH hh b0 h (by rfl) (by rfl) hd | .ptr _ _,s,u,b0,h,hd,hk=>sH hh b0 h (by rfl) (by rfl) hd | .gp _ _ _ _,s,u,b0,h,hd,hk=>by simp[zh,rG] at h | .uj,s,u,b0,h,hd,hk=>sH hh b0 h (by rfl) (by rfl) hd | .nD,s,u,b0,h,hd,hk=>sH hh b0 h (by rfl) (by rfl) hd | .wC,s,u,b0,h,hd,hk=>sH hh b0 h (by rfl) (by rfl) hd | .qP,s,u,b0,h,hd,hk=>sH hh b0 h (by rfl) (by rfl) hd | .vC,s,u,b0,h,hd,hk=>by simp[zh,rG] at h | .fn _ _,s,u,b0,h,hd,hk=>sH hh b0 h (by rfl) (by rfl) hd | .pV _ _,s,u,b0,h,hd,hk=>sH hh b0 h (by rfl) (by rfl) hd | .mp _,s,u,b0,h,hd,hk=>by simp[zh,rG] at h | .sh _,s,u,b0,h,hd,hk=>sH hh b0 h (by rfl) (by rfl) hd | .wV _ _ _ _ _,s,u,b0,h,hd,hk=>sH hh b0 h (by rfl) (by rfl) hd | .ev _,s,u,b0,h,hd,hk=>by simp[zh,rG] at h | .vw _ _,s,u,b0,h,hd,hk=>by simp[zh,rG] at h | .glob _,s,u,b0,h,hd,hk=>by simp[zh,rG] at h
theorem MK{hp:List (Nat×SB)}(hh:mZ K H E w hp):∀{l:List SV} {l':List Sh} {vs:List Value} (b0:Nat),Kz hp l=ae l'->mW H E l vs->Knows E E1 b0 (OG hp l)->
  mW H E1 (sN l' b0).1 vs/\Cc K H E E1 w hp (OG hp l) b0 (sN l' b0).2.2 (sN l' b0).2.1
 |[],l',[],b0,h,_,_=>by simp[Kz] at h;subst h;exact ⟨trivial,Cc.nil⟩ |x::l,l',v::vs,b0,h,⟨h1,h2⟩,hk=>by
  simp only[Kz] at h;split at h
  ·rename_i s r e1 e2
   cases h;have a:=Yc hh b0 e1 h1 hk.left;have hk2:=hk.right;rw[<-a.2.len] at hk2;have b:=MK hh _ e2 h2 hk2;simp only[sN];exact ⟨⟨a.1,b.1⟩,a.2.app b.2⟩
  ·cases h
 |[],_,_::_,_,_,h,_=>h.elim |_::_,_,[],_,_,h,_=>h.elim
theorem sH{hp:List (Nat×SB)}(hh:mZ K H E w hp){x:SV}{s:Sh}{u:Value}(b0:Nat)(h:zh hp x=ae s)(hx:zh hp x=rG hp x)(hi:zf hp x=[])(hd:Den H E x u):
  Den H E1 (pY s b0).1 u/\Cc K H E E1 w hp (zf hp x) b0 (pY s b0).2.2 (pY s b0).2.1:=by
 grind [Qv,Dw,Cc.nil]
end
theorem Yd:∀{l hp:List (Nat×SB)} {i:Nat} {x:SB},mG (qK hp l) i=ae x->(i,x)∈l\/mG hp i=ae x
 |[],_,_,_,h=>.inr h |(j,b)::l,hp,i,x,h=>by
  rcases Yd (l:=l) h with h|h
  ·simp_all
  grind [tV]
def K0(H:Mem)(w:World):Kx:=⟨w,fun _=>False,H⟩
theorem G9{c:Core}{a:Act}{H0:Mem}{w0:World}{sv:SV}{s:Sh}{u:Value}(st:St C (K0 H0 w0) H E w c a)(hf:finish c sv=ae s)(hd:Den H E sv u):∃H',qR H0 w0 s u H' w:=by
 unfold finish at hf;split at hf
 ·rename_i hp hfz
  obtain ⟨H1,hH,hh,hw,_⟩:=DX hfz st.hp st.oQ;cases hn:AQ (zf hp sv)<;>simp only[hn,cond_true,cond_false] at hf
  ·cases hf
  refine ⟨H1,hw.le,hw.on,hw.os,hw.tape,hw.output,hw.size,fun b hb=>hw.kept b hb id,fun b hb=>?_,fun b0=>?_⟩
  ·rcases hw.fresh b hb with h|h|h
   ·exact .inl h
   ·exact .inr h
   ·exact h.elim
  ·let ids:=zf hp sv
   let E1:Env:=fun i=>if b0<=i then (ids[i - b0]?).bind E else aq
   have hk:Knows E E1 b0 ids:=fun k id hk=>by
    grind
   obtain ⟨a1,a2⟩:=Yc (E1:=E1) hh b0 hf (hd.le hH fun _ _ e=>e) hk;have hid:∀i v,E1 i=ae v->∃k id,i=b0+k/\ids[k]?=ae id/\E id=ae v:=fun i v hv=>by
    grind
   have hat:∀i x,mG (qK [] (pY s b0).2.1) i=ae x->∃k id,i=b0+k/\ids[k]?=ae id/\aoi (K0 H0 w0) H1 E w hp id x:=fun i x hl=>by
    rcases Yd hl with h|h
    ·exact a2.mem i x h
    ·simp[mG] at h
   have hbk:∀{k id:Nat},ids[k]?=ae id->bk E1 (b0+k)=bk E id:=fun {k id} h=>by grind [bk]
   refine ⟨E1,fun i hi=>?_,fun i b hb=>?_,a1,⟨fun i x hl=>?_,fun i j x y b h1 h2 o1 o2=>?_⟩⟩
   ·cases hv:E1 i with
    |none=>simp_all |some v=>
     obtain ⟨k,id,rfl,h2,_⟩:=hid i v hv;have:k<(zf hp sv).length:=(List.getElem?_eq_some_iff.1 h2).1;rw[a2.len];omega
   ·cases hv:E1 i with
    |none=>grind [bk] |some v=>
     obtain ⟨k,id,rfl,h2,h3⟩:=hid i v hv;rw[hbk h2] at hb;have hown:∃sb,mG hp id=ae sb/\nN E id sb=ae b:=by
      obtain ⟨sb,q1,q2⟩:=a2.cov id (List.mem_of_getElem? h2);simp_all
     obtain ⟨sb,h4,h5⟩:=hown;have:=((hh.ent _ _ h4).lt h5).2.2;rcases this with h|h
     ·exact h
     ·exact h.elim
   ·obtain ⟨k,id,rfl,h2,h3,⟨e,st',n,g,rfl⟩,_⟩:=hat i x hl
    obtain ⟨v,xs,e1,e2,e3,e4⟩:=h3;exact ⟨v,xs,by grind,e2,e3,e4⟩
   ·obtain ⟨k,id,rfl,p1,_,⟨_,_,_,_,rfl⟩,sb1,p3,p4⟩:=hat i x h1
    obtain ⟨k',id',rfl,q1,_,⟨_,_,_,_,rfl⟩,Ox,q3,q4⟩:=hat j y h2;have o1':bk E id=ae b:=by rw[<-hbk p1];exact o1
    have o2':bk E id'=ae b:=by rw[<-hbk q1];exact o2
    have:=hh.vO _ _ _ _ _ p3 q3 (p4 b o1') (q4 b o2');grind [Ve]
 ·cases hf
end
inductive Fin where
 |ret (s:Sh)
 |stop (td:List It) (c:Core)
def fin:Out->Tree Fin
 | .done sv c=>match finish c sv with
  |some s=>.leaf (.ret s) |none=>.fail
 | .stop _ td c=>.leaf (.stop td c)
def o7(C:Ctx)(n g:Nat)(td:List It)(c:Core):Tree Fin:=(run C n aj g td c).bind fin
def mM(m:Nat)(nV:List Sh)(L:Nat):Core:={tm:=Iz nV++bp (m - nV.length) .any,hp:=[],nx:=0,lim:=L,tc:=[]}
section
variable{P:Program}{C:Ctx}{K:Kx}{H H' Fj H0:Mem}{E E' Fp E1:Env}{w w' w'' w0:World}
def Goes(P:Program)(C:Ctx)(K:Kx)(fn:Func)(td:List It)(c:Core)(φ:Sh->Prop):Prop:=
 ∀(H:Mem) (E:Env) (w:World) (a:Act) (items:List Item) (b:Frame) (cs:List Frame),St C K H E w c a->pq (mX fn) td items->
  ∃(a':Act) (w':World) (v:Value) (s:Sh) (H':Mem) (todo:List Item),Steps P (lone (b.at a items) cs w) (lone {b.at a' todo with mode:=.returning} cs w')/\a'.defers=[]/\φ s/\qR K.H0 K.w0 s v H' w'/\(results fn a'.tmps).run P w'=.ok v w'
def oN(P:Program)(C:Ctx)(K:Kx)(fn:Func)(φ:Sh->Prop):Fin->Prop
 | .ret s=>φ s | .stop td c=>Goes P C K fn td c φ
theorem aha(hC:oh P C)(hF:oH P C){n g:Nat}{fn:Func}{td:List It}{c:Core}{φ:Sh->Prop}(hfn:C.fns.get g=ae fn)(h:(o7 C n g td c).All (oN P C (K0 H0 w0) fn φ)):
  Goes P C (K0 H0 w0) fn td c φ:=by
 intro H E w a items b cs st hi;obtain ⟨out,h1,h2⟩:=Ky hC hF n aj g td c H E w a fn items _ hfn (bG h) st hi b cs;cases out with
 |done sv c'=>
  obtain ⟨a',w',H',E',v,todo,q1,q2,q3,q4,q5⟩:=h2;simp only[fin] at h1;split at h1
  ·rename_i s hs
   obtain ⟨H2,r⟩:=G9 q2 hs q4;exact ⟨a',w',v,s,H2,todo,q1,q2.defers,h1,r,q5⟩
  ·exact h1.elim
 |stop g' vS c'=>
  obtain ⟨rfl,a',w',H',E',items',q1,q2,q3,q4⟩:=h2;obtain ⟨a2,w2,v,s,H2,todo,r1,r2⟩:=h1 H' E' w' a' items' b cs q2 q4;exact ⟨a2,w2,v,s,H2,todo,q1.trans r1,r2⟩
theorem ai2(hC:oh P C){g:Nat}{fn:Func}{F:List Sh->Tree Sh}(hfn:C.fns.get g=ae fn)(hb:fn.body.isSome=aj)
  (h:∀(H:Mem) (w:World) (nV:List Sh) (args:List Value) (φ:Sh->Prop),qQ H nV args->(F nV).All φ->∃qV:List Sh,qQ H qV args/\∃L,Goes P C (K0 H w) fn [.code []] (mM fn.ntmps qV L) φ):nG P C.gls g F:=by
 intro H w nV args φ hon hg hr hφ;obtain ⟨qV,hr,L,hgo⟩:=h H w nV args φ hr hφ;obtain ⟨body,hbody⟩:=bJ.1 hb;have hP:=hC.fn g fn hfn;intro cs;let b:Frame:={(default:Frame) with fn:=g,kind:=.normal}
 let a:Act:={tmps:=args.toArray++bw (fn.ntmps - args.toArray.size) undef,defers:=[]}
 have henter:bY P g args.toArray .normal=b.at a [.code body]:=by
  grind [bY,Frame.at]
 have hlen:=hr.length;have st:St C (K0 H w) H E0 w (mM fn.ntmps qV L) a:=by
  refine ⟨?_,⟨fun _ _ h=>by simp[mM,mG] at h,fun _ _ _ _ _ h=>by simp[mM,mG] at h⟩,⟨rfl,rfl,rfl,Nat.le_refl _,fun _ _ _=>rfl,hon,fun _ _ h=>h,fun _ h=>.inl h⟩,fun _ _ _=>rfl,hg,rfl⟩;have:a.tmps.toList=args++bp (fn.ntmps - qV.length) undef:=by simp[a,hlen]
  rw[this];exact (zA hr).append (ig _ _ (by simp))
 have hit:pq (mX fn) [.code []] [.code body]:=by
  have:=pq.code (body:=mX fn) [] pq.nil;simp_all [nP,mX]
 obtain ⟨a',w',v,s,H',todo,q1,q2,q3,q4,q5⟩:=hgo H E0 w a [.code body] b cs st hit;exact ⟨.returned v,w',_,⟨v,s,H',rfl,q3,q4⟩,by rw[henter];exact q1,rfl,rfl,q2,rfl,fn,hP,q5⟩
theorem xH(hC:oh P C)(hF:oH P C){g n L:Nat}{fn:Func}{F:List Sh->Tree Sh}(hfn:C.fns.get g=ae fn)(hb:fn.body.isSome=aj)
  (h:∀(H:Mem) (w:World) (nV:List Sh) (args:List Value) (φ:Sh->Prop),qQ H nV args->(F nV).All φ->∃qV:List Sh,qQ H qV args/\(o7 C n g [.code []] (mM fn.ntmps qV L)).All (oN P C (K0 H w) fn φ)):nG P C.gls g F:=
 ai2 hC hfn hb fun H w nV args φ h1 h2=>let ⟨qV,h3,h4⟩:=h H w nV args φ h1 h2;⟨qV,h3,L,aha hC hF hfn h4⟩
theorem nG.mono{gls:List (Nat×Sh)}{f:Nat}{F F':List Sh->Tree Sh}(h:nG P gls f F')(hp:∀(H:Mem) (nV:List Sh) (args:List Value) (φ:Sh->Prop),qQ H nV args->(F nV).All φ->(F' nV).All φ):nG P gls f F:=
 fun H w nV args φ h1 h2 h3 h4=>h H w nV args φ h1 h2 h3 (hp H nV args φ h3 h4)
end
inductive Rn where
 |id (i:Nat)
 |nil
mutual
def uo(hp:List (Nat×SB))(ρ:List (Nat×Rn)):SV->SV->Prop
 |_,.any=>True |x,.sym k m=>match x with
  | .int k' n=>k'=k/\n=m | .sym k' n=>k'=k/\n=m |_=>False
 |x,.test b=>match x with
  | .bool b'=>b'=b | .test b'=>b'=b |_=>False
 |x,.gs id'=>match x with
  | .gs id=>mG ρ id'=ae (.id id) | .nD=>mG ρ id'=ae .nil |_=>False
 |x,.ptr id' off'=>match x with
  | .ptr id off=>mG ρ id'=ae (.id id)/\off=off' |_=>False
 |x,.mp id'=>match x with
  | .mp id=>mG ρ id'=ae (.id id) |_=>False
 |x,.fn f' l'=>match x with
  | .fn f l=>f=f'/\Vg hp ρ l l' |_=>False
 |x,.agg l'=>match x with
  | .agg l=>Vg hp ρ l l' |_=>False
 |x,.mV l'=>match x with
  | .mV l=>Vg hp ρ l l' |_=>False
 |x,.pV t' y=>match x with
  | .pV t z=>t=t'/\uo hp ρ z y |_=>False
 |x,.sh s=>rG hp x=ae s\/(match x,s with| .nD,.sl _ n _=>n=0|_,_=>False)
 |x,.wV st' n' g' i' off'=>match x with
  | .wV st n g i off=>st=st'/\n=n'/\g=g'/\i=i'/\off=off' |x=>rG hp x=ae (.pt (g' i'))/\off'=0/\(g' i').length=st'/\i'<n'
 |x,.int k' n'=>match x with
  | .int k n=>k=k'/\n=n' | .sym k n=>k=k'/\n=n' |_=>False
 |x,.bool b'=>match x with
  | .bool b=>b=b' | .test b=>b=b' |_=>False
 | .uj,.uj=>True | .nD,.nD=>True | .wC,.wC=>True | .qP,.qP=>True | .vC,.vC=>True | .glob g,.glob g'=>g=g' | .str l,.str l'=>l=l' | .val v,.val v'=>v=v' |_,_=>False
def Vg(hp:List (Nat×SB))(ρ:List (Nat×Rn)):List SV->List SV->Prop
 |[],[]=>True |x::l,y::l'=>uo hp ρ x y/\Vg hp ρ l l' |_,_=>False
end
def leM(hp:List (Nat×SB))(ρ:List (Nat×Rn)):List (SV×SV)->List (SV×SV)->Prop
 |[],[]=>True |(a,b)::l,(a',b')::l'=>uo hp ρ a a'/\uo hp ρ b b'/\leM hp ρ l l' |_,_=>False
def valOf:SV->Option Value
 | .int k n=>ae (.int k n) | .sym k n=>ae (.int k n) | .bool b=>ae (.bool b) | .test b=>ae (.bool b) |_=>aq
end Go.Sx
namespace Go.Pl
open Go Go.Sx
def CJ(n:rC)(o:Option Value)(N:rC->Option Value):rC->Option Value:=fun j=>if j=n then o else N j
end Go.Pl
namespace Go.Sx
open Go.Pl (CJ)
def Vh(M:rC->Option Value):List (rC×Bool×SV)->Option (rC->Option Value)
 |[]=>ae M |(n,p,sv)::r=>match Vh M r with
  |some N=>match p with
   |true=>(valOf sv).map fun v=>CJ n (ae v) N |false=>ae (CJ n aq N)
  |none=>aq
theorem ahb{H:Mem}{E:Env}{sv:SV}{v x:Value}(h:valOf sv=ae v)(hd:Den H E sv x):x=v:=by
 unfold valOf at h;split at h;all_goals first|cases h
 all_goals exact hd
theorem abp{H:Mem}{E:Env}{M:rC->Option Value}:∀{us:List (rC×Bool×SV)} {uv:List (rC×Option Value)} {N:rC->Option Value},Vh M us=ae N->N8 H E us uv->Jb M uv=N
 |[],[],N,h,_=>by cases h;rfl |[],_::_,_,_,h=>h.elim |_::_,[],_,_,h=>h.elim |(n,p,sv)::r,(m,o)::uv,N,h,⟨e,hd,hr⟩=>by
  subst e;simp only[Vh] at h;split at h
  ·rename_i N' hN
   have ih:=abp hN hr;cases p with
   |true=>
    cases o with
    |none=>exact hd.elim |some x=>
     simp only at h;cases hv:valOf sv with
     |none=>simp_all |some v=>
      rw[hv] at h;cases h;rw[ahb hv hd.1];show (fun j=>if j=m then ae v else Jb M uv j)=_;rw[ih];rfl
   |false=>
    cases o with
    |some x=>exact hd.elim |none=>
     cases h;show (fun j=>if j=m then aq else Jb M uv j)=_;rw[ih];rfl
  ·cases h
theorem Ye{vt:VT}{M:rC->Option Value}(hM:afB vt M):∀{us:List (rC×Bool×SV)} {N:rC->Option Value},aiB vt us->Vh M us=ae N->afB vt N
 |[],N,_,h=>by cases h;exact hM |(n,p,sv)::r,N,hL,h=>by
  simp only[Vh] at h;split at h
  ·rename_i N' hN
   have ih:=Ye hM (fun u hu=>hL u (bi _ hu)) hN;cases p with
   |true=>
    simp only at h;cases hv:valOf sv with
    |none=>simp_all |some v=>
     rw[hv] at h;cases h;have ht:sv.XV vt=aj:=hL (n,aj,sv) bo rfl;intro k x hx;have hx:(if k=n then ae v else N' k)=ae x:=hx;split at hx
     ·cases hx
      cases sv<;>cases vt<;>simp[SV.XV] at ht<;>(unfold valOf at hv;cases hv)
      all_goals first|exact ⟨_,rfl⟩ |skip
      all_goals (rename_i kk _;cases kk<;>simp at ht;exact ⟨_,rfl⟩)
     ·exact ih k x hx
   |false=>
    cases h;intro k x hx;have hx:(if k=n then aq else N' k)=ae x:=hx;split at hx
    ·cases hx
    ·exact ih k x hx
  ·cases h
def leB(hp:List (Nat×SB))(ρ:List (Nat×Rn))(id':Nat):SB->Prop
 | .box cells' e'=>match mG ρ id' with
  |some (.id id)=>match mG hp id with
   |some (.box cells e)=>e=e'/\Vg hp ρ cells cells' |_=>False
  |_=>False
 | .row cells' e' st' n'=>match mG ρ id' with
  |some (.id id)=>match mG hp id with
   |some (.row cells e st n)=>e=e'/\st=st'/\n=n'/\Vg hp ρ cells cells' |_=>False
  |_=>False
 | .own e' st' n' g'=>match mG ρ id' with
  |some (.id id)=>match OE hp id with
   |some (e,st,n,g)=>e=e'/\st=st'/\n=n'/\∀i,i<n->g i=g' i |_=>False
  |some .nil=>n'=0 |none=>False
 | .map es'=>match mG ρ id' with
  |some (.id id)=>match mG hp id with
   |some (.map es)=>leM hp ρ es es' |_=>False
  |_=>False
 | .fz _ _ _=>False | .IQ _=>False | .wK _ _ _ _ _=>False | .fm _ _ _ _ _=>False | .pm vt' M' us'=>match mG ρ id' with
  |some (.id id)=>match mG hp id with
   |some (.pm vt M us)=>us'=[]/\vt=vt'/\Vh M us=ae M' |_=>False
  |_=>False
 | .buf e' l'=>match mG ρ id' with
  |some (.id id)=>match mG hp id with
   |some (.buf e l)=>e=e'/\l=l' |_=>False
  |_=>False
def leH(hp:List (Nat×SB))(ρ:List (Nat×Rn)):List (Nat×SB)->Prop
 |[]=>True |(id',sb)::l=>leB hp ρ id' sb/\leH hp ρ l
def Ce:List (Nat×Rn)->List Nat
 |[]=>[] |(_,.id i)::l=>i::Ce l |_::l=>Ce l
def afH(nx:Nat):List (Nat×Rn)->Bool
 |[]=>aj |(j,_)::l=>bT j nx&&afH nx l
def ai4(nx:Nat)(ρ:List (Nat×Rn)):Bool:=AQ (Ce ρ)&&afH nx ρ
def leC(ρ:List (Nat×Rn))(c c':Core):Prop:=Vg c.hp ρ c.tm c'.tm/\leH c.hp ρ c'.hp/\ai4 c'.nx ρ=aj
section
variable{P:Program}{C:Ctx}{K:Kx}{H H' Fj H0:Mem}{E E' Fp E1:Env}{w w' w'' w0:World}{hp:List (Nat×SB)}{ρ:List (Nat×Rn)}
def vg(ρ:List (Nat×Rn))(E:Env):Env:=fun i'=>match mG ρ i' with
 |some (.id i)=>E i |some .nil=>ae (.slice aq 0 0) |none=>aq
theorem qO{i i':Nat}(h:mG ρ i'=ae (.id i)):vg ρ E i'=E i:=by simp[vg,h]
theorem ML{i':Nat}(h:mG ρ i'=ae .nil):vg ρ E i'=ae (.slice aq 0 0):=by simp[vg,h]
mutual
theorem Ji(hh:mZ K H E w hp):∀{x:SV} (y:SV) {u:Value},uo hp ρ x y->Den H E x u->Den H (vg ρ E) y u
 |x,.any,u,_,_=>trivial |x,.sym k m,u,h,hd=>by
  cases x<;>simp only[uo] at h
  all_goals first|exact h.elim|(obtain ⟨rfl,rfl⟩:=h;exact hd)
 |x,.test b,u,h,hd=>by
  cases x<;>simp only[uo] at h
  all_goals first|exact h.elim|(subst h;exact hd)
 |x,.gs id',u,h,hd=>by
  cases x<;>simp only[uo] at h
  case gs id=>exact ⟨by rw[qO h];exact hd.1,hd.2⟩
  case nD=>obtain rfl:u=_:=hd;exact ⟨ML h,_,_,_,rfl⟩
 |x,.ptr id' off',u,h,hd=>by
  cases x<;>simp only[uo] at h
  case ptr id off=>obtain ⟨h,rfl⟩:=h;obtain ⟨b,h1,h2⟩:=hd;exact ⟨b,by grind [qO],h2⟩
 |x,.mp id',u,h,hd=>by
  cases x<;>simp only[uo] at h
  case mp id=>obtain ⟨b,h1,h2⟩:=hd;exact ⟨b,by grind [qO],h2⟩
 |x,.fn f' l',u,h,hd=>by
  cases x<;>simp only[uo] at h
  case fn f l=>obtain ⟨rfl,h⟩:=h;obtain ⟨vs,rfl,hl⟩:=hd;exact ⟨vs,rfl,yO hh l' h hl⟩
 |x,.agg l',u,h,hd=>by
  cases x<;>simp only[uo] at h
  case agg l=>obtain ⟨vs,rfl,hl⟩:=hd;exact ⟨vs,rfl,yO hh l' h hl⟩
 |x,.mV l',u,h,hd=>by
  cases x<;>simp only[uo] at h
  case mV l=>obtain ⟨vs,rfl,hl⟩:=hd;exact ⟨vs,rfl,yO hh l' h hl⟩
 |x,.pV t' y,u,h,hd=>by
  cases x<;>simp only[uo] at h
  case pV t z=>obtain ⟨rfl,h⟩:=h;obtain ⟨v,rfl,hl⟩:=hd;exact ⟨v,rfl,Ji hh y h hl⟩
 |x,.sh s,u,h,hd=>by
  have key:rG hp x=ae s\/(x=.nD/\∃st g,s=.sl st 0 g):=by
   unfold uo at h;grind
  rcases key with h|⟨rfl,st,g,rfl⟩
  ·exact Dw hh h hd
  ·obtain rfl:u=_:=hd
   exact .sl0 _ _ _ _ (Nat.zero_le _)
 |x,.int k n,u,h,hd=>by
  cases x<;>simp only[uo] at h
  case int k' n'=>obtain ⟨rfl,rfl⟩:=h;exact hd
  case sym k' n'=>obtain ⟨rfl,rfl⟩:=h;exact hd
 |x,.bool b,u,h,hd=>by
  cases x<;>simp only[uo] at h
  case bool b'=>subst h;exact hd
  case test b'=>subst h;exact hd
 |x,.uj,u,h,hd=>by
  cases x<;>simp only[uo] at h
  assumption
 |x,.nD,u,h,hd=>by
  cases x<;>simp only[uo] at h
  assumption
 |x,.wC,u,h,hd=>by
  cases x<;>simp only[uo] at h
  assumption
 |x,.qP,u,h,hd=>by
  cases x<;>simp only[uo] at h
  assumption
 |x,.vC,u,h,hd=>by
  cases x<;>simp only[uo] at h
  assumption
 |x,.glob g,u,h,hd=>by
  cases x<;>simp only[uo] at h
  case glob g'=>subst h;exact hd
 |x,.str l,u,h,hd=>by
  cases x<;>simp only[uo] at h
  case str l'=>subst h;exact hd
 |x,.val v,u,h,hd=>by
  cases x<;>simp only[uo] at h
  case val v'=>subst h;exact hd
 |x,.wV st n g i off,u,h,hd=>by
  have key:(∃st' n' g' i' off',x=.wV st' n' g' i' off'/\st'=st/\n'=n/\g'=g/\i'=i/\off'=off)\/(rG hp x=ae (.pt (g i))/\off=0/\(g i).length=st/\i<n):=by
   (cases x<;>simp only[uo] at h)<;>grind
  rcases key with ⟨_,_,_,_,_,rfl,rfl,rfl,rfl,rfl,rfl⟩ |⟨h9,rfl,h2,h3⟩
  ·exact hd
  ·have hr:=Dw hh h9 hd
   cases hr with
   |pt _ b off2 c a1 a2 a3=>exact ⟨b,off2,c,rfl,h3,h2,fun j hj=>⟨a1 j (by omega),a2 j (by omega)⟩,a3⟩
 |x,.gp id st i off,u,h,hd=>by
  simp_all [uo]
 |x,.ev id,u,h,hd=>by
  simp_all [uo]
 |x,.vw id n,u,h,hd=>by
  simp_all [uo]
theorem yO(hh:mZ K H E w hp):∀{l:List SV} (l':List SV) {vs:List Value},Vg hp ρ l l'->mW H E l vs->mW H (vg ρ E) l' vs
 |[],[],[],_,_=>trivial |_::_,y::l',_::_,⟨h1,h2⟩,⟨d1,d2⟩=>⟨Ji hh y h1 d1,yO hh l' h2 d2⟩ |[],_::_,_,h,_=>h.elim |_::_,[],_,h,_=>h.elim |_::_,_::_,[],_,hd=>hd.elim |[],[],_::_,_,hd=>hd.elim
end
theorem abq(hh:mZ K H E w hp):∀{l l':List (SV×SV)} {ms:List MapEntry},leM hp ρ l l'->EG H E l ms->EG H (vg ρ E) l' ms
 |[],[],[],_,_=>trivial |(_,_)::_,(a,b)::_,_::_,⟨h1,h2,h3⟩,⟨d1,d2,d3⟩=>⟨Ji hh a h1 d1,Ji hh b h2 d2,abq hh h3 d3⟩ |[],_::_,_,h,_=>h.elim |(_,_)::_,[],_,h,_=>h.elim |(_,_)::_,(_,_)::_,[],_,hd=>hd.elim |[],[],_::_,_,hd=>hd.elim
theorem Jj{st n:Nat}{g g':Nat->List Sh}{xs:List Value}(h:oW H st n g xs)(hg:∀i,i<n->g i=g' i):oW H st n g' xs:=
 ⟨h.1,fun i hi=>by rw[<-hg i hi];exact h.2.1 i hi,h.2.2.1,fun i j s v hi e1 e2=>h.2.2.2 i j s v hi (by simp_all) e2⟩
theorem OH(hh:mZ K H E w hp){id':Nat}{sb:SB}(h:leB hp ρ id' sb):wo K H (vg ρ E) w id' sb/\∀b,nN (vg ρ E) id' sb=ae b->∃id s0,mG ρ id'=ae (.id id)/\mG hp id=ae s0/\nN E id s0=ae b:=by
 cases sb with
 |box cells' e'=>
  simp only[leB] at h;split at h
  ·rename_i id hr
   split at h
   ·rename_i cells e hl
    obtain ⟨rfl,h⟩:=h;obtain ⟨b,cs,h1,h2,h3,h4⟩:=hh.ent _ _ hl;refine ⟨⟨b,cs,by grind [qO],h2,yO hh _ h h3,h4⟩,fun b' hb=>⟨id,_,hr,hl,?_⟩⟩;simp_all [nN,qO]
   grind
  grind
 |row cells' e' st' n'=>
  simp only[leB] at h;split at h
  ·rename_i id hr
   split at h
   ·rename_i cells e st n hl
    obtain ⟨rfl,rfl,rfl,h⟩:=h;obtain ⟨v,xs,h1,h2,h3,h4⟩:=hh.ent _ _ hl;refine ⟨⟨v,xs,by grind [qO],h2,yO hh _ h h3,h4⟩,fun b' hb=>⟨id,_,hr,hl,?_⟩⟩;simp_all [nN,qO]
   grind
  grind
 |own e' st' n' g'=>
  simp only[leB] at h;split at h
  ·rename_i id hr
   split at h
   ·rename_i e st n g hl
    obtain ⟨rfl,rfl,rfl,h⟩:=h;obtain ⟨⟨v,xs,h1,h2,h3,h4⟩,sb0,h5,h6⟩:=Vf hh hl;refine ⟨⟨v,xs,by grind [qO],h2,Jj h3 h,h4⟩,fun b' hb=>⟨id,_,hr,h5,h6 b' ?_⟩⟩;simp only[nN,qO hr] at hb;exact hb
   grind
  ·rename_i hr
   subst h;refine ⟨⟨_,[],ML hr,F7 _ _ _,AO _ _,fun b hb=>by simp[mY] at hb⟩,fun b hb=>?_⟩;grind [nN,ML,mY]
  grind
 |map es'=>
  simp only[leB] at h;split at h
  ·rename_i id hr
   split at h
   ·rename_i es hl
    obtain ⟨b,ms,clk,h1,h2,h3,h4⟩:=hh.ent _ _ hl;refine ⟨⟨b,ms,clk,by grind [qO],h2,abq hh h h3,h4⟩,fun b' hb=>⟨id,_,hr,hl,?_⟩⟩;simp_all [nN,qO]
   grind
  grind
 |fz st n g=>exact h.elim |IQ l=>exact h.elim |wK e st n g m=>exact h.elim |fm k M fs us t=>exact h.elim |pm vt' M' us'=>
  simp only[leB] at h;split at h
  ·rename_i id hr
   split at h
   ·rename_i vt M us hl
    obtain ⟨rfl,rfl,h1⟩:=h;obtain ⟨b,ms,clk,uv,he,q1,d2,hT,hL,hok,h4⟩:=hh.ent _ _ hl;refine ⟨⟨b,ms,clk,[],by grind [qO],q1,trivial,Ye hT hL h1,(fun _ h=>by cases h),?_,h4⟩,fun b' hb=>⟨id,_,hr,hl,?_⟩⟩
    ·have:=abp h1 d2
     rw[this] at hok;exact hok
    simp_all [nN,qO]
   grind
  grind
 |buf e l=>
  simp only[leB] at h;split at h
  ·rename_i id hr
   split at h
   ·rename_i e1 l1 hl
    obtain ⟨rfl,rfl⟩:=h;obtain ⟨v,he,h1,h3⟩:=hh.ent _ _ hl;refine ⟨⟨v,by grind [qO],h1,h3⟩,fun b hb=>⟨id,_,hr,hl,?_⟩⟩;simp_all [nN,qO]
   grind
  grind
theorem OI:∀{l:List (Nat×SB)} {i:Nat} {sb:SB},leH hp ρ l->mG l i=ae sb->leB hp ρ i sb
 |[],_,_,_,h=>by simp[mG] at h |(j,x)::l,i,sb,⟨h1,h2⟩,h=>by
  simp only[mG] at h;cases hj:(j==i)<;>simp only[hj,cond_true,cond_false] at h
  ·exact OI h2 h
  simp_all
theorem abr{nx:Nat}:∀{ρ:List (Nat×Rn)} {i:Nat} {r:Rn},afH nx ρ=aj->mG ρ i=ae r->i<nx
 |[],_,_,_,h=>by simp[mG] at h |(j,x)::l,i,r,hu,h=>by
  simp only[afH,al] at hu;simp only[mG] at h;cases hj:(j==i)<;>simp only[hj,cond_true,cond_false] at h
  ·exact abr hu.2 h
  simp_all
theorem MN:∀{ρ:List (Nat×Rn)} {i k:Nat},mG ρ i=ae (.id k)->k∈Ce ρ
 |[],_,_,h=>by simp[mG] at h |(j,x)::l,i,k,h=>by
  simp only[mG] at h;cases hj:(j==i)<;>simp only[hj,cond_true,cond_false] at h
  ·have:=MN h
   cases x<;>simp[Ce,this]
  simp_all [Ce]
theorem Zx:∀{ρ:List (Nat×Rn)} {i j k:Nat},AQ (Ce ρ)=aj->mG ρ i=ae (.id k)->mG ρ j=ae (.id k)->i=j
 |[],_,_,_,_,h,_=>by simp[mG] at h |(m,x)::l,i,j,k,hn,h1,h2=>by
  simp only[mG] at h1 h2;have tail:AQ (Ce l)=aj:=by
   cases x with
   |id a=>simp_all [Ce,AQ,al] |nil=>exact hn
  have head:∀a,x=.id a->a∈Ce l->False:=fun a hx ha=>by
   simp_all [Ce,AQ]
  cases hi:(m==i)<;>cases hj:(m==j)<;>simp only[hi,hj,cond_true,cond_false] at h1 h2
  ·exact Zx tail h1 h2
  ·grind [MN]
  ·grind [MN]
  simp_all
theorem St.weak{c c':Core}{a:Act}(st:St C K H E w c a)(h:leC ρ c c'):St C K H (vg ρ E) w c' a:=by
 obtain ⟨h1,h2,h3⟩:=h;simp only[ai4,al] at h3;refine ⟨yO st.hp _ h1 st.den,⟨fun id sb hl=>(OH st.hp (OI h2 hl)).1,fun id id' sb sb' b l1 l2 o1 o2=>?_⟩,st.oQ,fun i hi _=>?_,st.gl,st.defers⟩
 ·obtain ⟨i1,s1,a1,a2,a3⟩:=(OH st.hp (OI h2 l1)).2 b o1
  obtain ⟨i2,s2,b1,b2,b3⟩:=(OH st.hp (OI h2 l2)).2 b o2;have:=st.hp.vO _ _ _ _ _ a2 b2 a3 b3;grind [Zx]
 ·unfold vg
  cases hr:mG ρ i with
  |none=>rfl |some r=>have:=abr h3.2 hr;omega
end
def ai6:SV->Value->Bool
 | .int k n,.int k' m=>k==k'&&n==m | .bool b,.bool c=>b==c | .str [],.string s=>s.data.toList.isEmpty | .uj,.pointer aq=>aj | .nD,.slice aq 0 0=>aj | .wC,.nilFunc=>aj | .qP,.nilIface=>aj | .vC,.map aq=>aj |_,_=>ag
def Qw:List SV->List Value->Bool
 |[],[]=>aj |x::l,v::vs=>ai6 x v&&Qw l vs |_,_=>ag
def fieldsB(P:Program):List Field->List (Nat×Nat×Bool)->Bool
 |[],[]=>aj |f::r,p::q=>f.offset==p.1&&(match P.info? f.type with|some inf=>inf.size==p.2.1|none=>ag) &&
   (match P.underlying f.type with|some (.struct _)=>p.2.2|some (.array _ _)=>p.2.2|some _=>!p.2.2|none=>ag)&&fieldsB P r q
 |_,_=>ag
def ad5(P:Program)(t:Nat):Ty->Bool
 | .int k=>match P.underlying t with|some (.int k')=>k==k' |_=>ag
 | .bool=>match P.underlying t with|some .bool=>aj|_=>ag
 | .str=>match P.underlying t with|some .string=>aj|_=>ag
 | .ptr e=>match P.underlying t with|some (.pointer e')=>e==e' |_=>ag
 | .fn=>match P.underlying t with|some (.func _ _ _)=>aj|_=>ag
 | .iface=>match P.underlying t with|some (.interface _)=>aj|_=>ag
 | .map k e=>match P.underlying t with|some (.map k' e')=>k==k'&&e==e' |_=>ag
 | .slice e=>match P.underlying t with|some (.slice e')=>e==e' |_=>ag
 | .struct fs=>match P.underlying t with|some (.struct fields)=>fieldsB P fields.toList fs|_=>ag
 | .arr n e=>match P.underlying t with|some (.array n' e')=>n==n'&&e==e' |_=>ag
 | .other=>ag
def ad6(agg:Bool)(size:Nat):Value->Bool
 | .agg _=>agg |v=>!agg&&size==1&&v.oneCell'
def tyB(P:Program)(t:Nat)(i:Ai):Bool:=
 ad5 P t i.ty&&match P.info? t with
  |some inf=>inf.size==i.size&&inf.bytes==i.bytes&&match inf.zero with
   |some z=>Qw i.zero z.cells.toList&&z.cells.size==i.size&&ad6 i.ty.isAgg i.size z |none=>ag
  |none=>ag
def aoj(P:Program)(t:BT Ai):Bool:=t.allB (tyB P)
theorem ai7{x:SV}{v:Value}(h:ai6 x v=aj){H:Mem}{E:Env}:Den H E x v:=by
 unfold ai6 at h;split at h
 ·simp only[al,beq_iff_eq] at h
  obtain ⟨rfl,rfl⟩:=h;rfl
 ·simp only[beq_iff_eq] at h
  subst h;rfl
 ·rename_i s
  have:s.data.toList=[]:=by simpa using h
  obtain ⟨⟨l⟩⟩:=s;simp at this;subst this;rfl
 all_goals first|rfl|cases h
theorem Yf{H:Mem}{E:Env}:∀{l:List SV} {vs:List Value},Qw l vs=aj->mW H E l vs
 |[],[],_=>trivial |x::l,v::vs,h=>by
  simp only[Qw,al] at h;exact ⟨ai7 h.1,Yf h.2⟩
 |[],_::_,h=>by simp[Qw] at h |_::_,[],h=>by simp[Qw] at h
theorem Sv{P:Program}:∀{fields:List Field} {fs:List (Nat×Nat×Bool)},fieldsB P fields fs=aj->fields.length=fs.length/\∀(j:Nat) (f:Field),fields[j]?=ae f->∃inf:TypeInfo,P.info? f.type=ae inf/\
  fs[j]?=ae (f.offset,inf.size,match P.underlying f.type with|some (.struct _) |some (.array _ _)=>aj|_=>ag)/\(P.underlying f.type).isSome=aj
 |[],[],_=>⟨rfl,fun _ _ h=>by simp at h⟩ |f::r,p::q,h=>by
  simp only[fieldsB,al,beq_iff_eq] at h;obtain ⟨⟨⟨h1,h2⟩,h3⟩,h4⟩:=h;obtain ⟨h5,h6⟩:=Sv h4;grind
 |[],_::_,h=>by simp[fieldsB] at h |_::_,[],h=>by simp[fieldsB] at h
theorem ahc{P:Program}{t:Nat}{ty:Ty}(h:ad5 P t ty=aj):Zg P t ty:=by
 unfold ad5 at h;cases ty;case other=>cases h
 case arr=>simp only at h;split at h;rename_i hu;simp only[al,beq_iff_eq] at h;obtain ⟨rfl,rfl⟩:=h;exact hu;cases h
 case int=>simp only at h;split at h;rename_i hu;simp only[beq_iff_eq] at h;subst h;exact hu;cases h
 case bool=>simp only at h;split at h;rename_i hu;exact hu;cases h
 case str=>simp only at h;split at h;rename_i hu;exact hu;cases h
 case ptr=>simp only at h;split at h;rename_i hu;simp only[beq_iff_eq] at h;subst h;exact hu;cases h
 case fn=>simp only at h;split at h;rename_i hu;exact ⟨_,_,_,hu⟩;cases h
 case iface=>simp only at h;split at h;rename_i hu;exact ⟨_,hu⟩;cases h
 case map=>simp only at h;split at h;rename_i hu;simp only[al,beq_iff_eq] at h;obtain ⟨rfl,rfl⟩:=h;exact hu;cases h
 case slice=>simp only at h;split at h;rename_i hu;simp only[beq_iff_eq] at h;subst h;exact hu;cases h
 case struct=>
  simp only at h;split at h
  ·rename_i fields hu
   have:=Sv h;exact ⟨fields,hu,by simp_all,fun j f hj=>this.2 j f (by grind)⟩
  ·cases h
theorem am1{P:Program}{t:Nat}{i:Ai}(h:tyB P t i=aj):EH P t i:=by
 unfold tyB at h;simp only[al] at h;obtain ⟨h1,h2⟩:=h;refine ⟨ahc h1,?_⟩;split at h2
 ·rename_i inf hi
  simp only[al,beq_iff_eq] at h2;obtain ⟨⟨a1,a2⟩,h3⟩:=h2;split at h3
  ·rename_i z hz
   simp only[al,beq_iff_eq] at h3;obtain ⟨⟨b1,b2⟩,b3⟩:=h3;refine ⟨inf,z,hi,a1,a2,hz,Yf b1,b2,fun ha=>?_,fun ha=>?_⟩
   ·unfold ad6 at b3
    grind
   ·unfold ad6 at b3
    grind
  ·cases h3
 ·cases h2
theorem Vj{P:Program}{l:BT Ai}(h:aoj P l=aj)(t:Nat)(i:Ai)(hl:l.get t=ae i):EH P t i:=am1 ((l4 h).get hl)
def Zy(P:Program)(l:BT Func):Prop:=l.All fun g fn=>P.funcs[g]?=ae fn
theorem He{P:Program}{l:BT Func}(h:Zy P l)(g:Nat)(fn:Func)(hl:l.get g=ae fn):P.funcs[g]?=ae fn:=BT.All.get h hl
def abt(l:BT Func):Bool:=l.allB fun _ fn=>fn.body.isSome && !(fn.name == "runtime.NumGoroutine")
theorem wP{P:Program}{l:BT Func}(h:Zy P l)(he:abt l=aj)(g:Nat)(hl:(l.get g).isSome=aj):∃fn,P.funcs[g]?=ae fn/\fn.body.isSome=aj/\fn.name≠ "runtime.NumGoroutine" :=by
 obtain ⟨fn,hf⟩:=bJ.1 hl;have h1:=(l4 he).get hf;grind [He]
end Go.Sx
