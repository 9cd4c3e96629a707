/- Own work. -/
import Derived.Test.YthehnhaoiijkhaaGreatDoorF03
open Int (ofNat)
open Array renaming getElem?_toList->iJ,replicate->dN
open Bool renaming true->aC,false->ay,and_eq_true->aG
open Go.Frame renaming finish_at->kQ,enter->fM
open Go.Oper renaming upon->wu
open Go.Region renaming free->mP,noSelect->sK,ready->jA
open Go.Result renaming andThen_ok->iI
open Go.Sem renaming run_bind->gK,run_pure->yh
open Go.Sx.BT renaming SX->yT
open Go.Sx.zO renaming any->qj
open Go.Sx.AQ renaming all->cu
open Go.Sx.CU renaming Oh->yK
open Go.Sx.Tree renaming ET->dX
open Go.stepG renaming apply->fP
open List renaming mem_cons_of_mem->dF,mem_cons_self->dK,countP_cons->tV,range->aY,mem_range->dD,mem_append->cZ,replicate->dL
open Nat renaming add_le_add_left->rE,mul_le_mul_left->jD,blt->fF,ble->gJ
open Option renaming some->ak,none->aK,map_eq_some_iff->bM,isSome_iff_exists->eF
open Prod.mk renaming injEq->jk
namespace Go.Sx
section
variable{P:Program}{C:Ctx}{K:Kx}{H H' Oo:Mem}{E E' Oq:Env}{w w' w'':World}
theorem aaA{α:Type}{φ:α->Prop}:∀{bs:List Bool} {t:Tree α},(needs t bs).All φ->(∀b∈bs,b=aC)/\t.All φ
 |[],_,h=>⟨fun _ h=>(by cases h),h⟩ |b::r,t,h=>by
  obtain ⟨h1,h2⟩:=h;obtain ⟨h3,h4⟩:=aaA h2;simp_all
theorem aev{r:Option (List Bool×SV)}{x:List Bool×SV}(h:aed r=ak x):r=ak x:=by
 unfold aed at h;grind
theorem Rk:∀{t:Tree (SV×Core)} {bs bs':List Bool} {v:SV},Dp t bs=ak (bs',v)->∀b∈bs,b∈bs'
 | .leaf _,_,_,_,h=>by simp[Dp] at h;obtain ⟨rfl,_⟩:=h;exact fun _ h=>h | .need b t,bs,bs',v,h=>fun x hx=>Rk (t:=t) h x (dF _ hx) | .node _ _ _,_,_,_,h=>by simp[Dp] at h | .both _ _,_,_,_,h=>by simp[Dp] at h | .must _ _,_,_,_,h=>by simp[Dp] at h | .fail,_,_,_,h=>by simp[Dp] at h
theorem MQ:∀{t:Tree (SV×Core)} {bs bs':List Bool} {v:SV},Dp t bs=ak (bs',v)->(∀b∈bs',b=aC)->t.All fun p=>p.1=v
 | .leaf _,_,_,_,h,_=>by simp[Dp] at h;exact h.2 | .need b t,bs,bs',v,h,hb=>⟨hb b (Rk (t:=t) h b (dK ..)),MQ (t:=t) h hb⟩ | .node _ _ _,_,_,_,h,_=>by simp[Dp] at h | .both _ _,_,_,_,h,_=>by simp[Dp] at h | .must _ _,_,_,_,h,_=>by simp[Dp] at h | .fail,_,_,_,h,_=>by simp[Dp] at h
theorem aaB{α:Type}{φ:α->Prop}{f:Nat->Tree α}:∀{rs:List Nat},(allOf f rs).All φ->∀i∈rs,(f i).All φ
 |[],h,_,_=>h.elim |[i],h,j,hj=>by simp at hj;subst hj;exact h |i::k::r,h,j,hj=>by
  obtain ⟨h1,h2⟩:=h;cases hj with
  |head=>exact h1 |tail _ hj=>exact aaB h2 j hj
theorem PZ{AO:Array Oper}{lock:List (Nat×SB)}{listed:Array Bool}{GR:List SV}{c:Core}{q:Quiet}:∀{rs:List Nat},VL C AO lock listed GR c rs=q->q≠.no->∃i∈rs,Tc C AO lock listed GR c i=q
 |[],h,hn=>by simp_all [VL] |i::r,h,hn=>by
  unfold VL at h;split at h
  ·obtain ⟨j,h1,h2⟩:=PZ h hn
   grind
  simp_all
theorem aaC{p q:Nat->Bool}{i:Nat}:∀{l:List Nat},(∀x,q x=aC->p x=aC)->i∈l->p i=aC->q i=ay->l.countP q<l.countP p
 |[],_,h,_,_=>by cases h |x::l,hpq,h,h1,h2=>by
  have hle:l.countP q<=l.countP p:=List.countP_mono_left fun x _ h=>hpq x h
  rw[tV,tV];cases h with
  |head=>grind |tail _ h=>
   have:=aaC hpq h h1 h2;grind
def cnt(ops:Array Oper)(listed:Array Bool):Nat:=(aY ops.size).countP fun j=>!listed.getD j aC
theorem anA{ops:Array Oper}{listed:Array Bool}{i:Nat}(hi:i<ops.size)(hu:listed.getD i aC=ay):cnt ops (listed.setIfInBounds i aC)<cnt ops listed:=by
 have hs:i<listed.size:=by
  grind
 refine aaC (i:=i) (fun x hx=>?_) (dD.2 hi) (by rw[hu];rfl) (by simp[hs]);(by_cases hxi:i=x)<;>simp_all
theorem XM{unl:List Nat}:∀{hp:List (Nat×SB)} {id:Nat} {sb:SB},zI (Le hp unl) id=ak sb->unl.contains id=ay
 |[],_,_,h=>by simp[Le,zI] at h |(j,x)::l,id,sb,h=>by
  unfold Le at h;cases hu:unl.contains j<;>simp only[hu,cond_true,cond_false] at h
  ·simp only[zI] at h
   cases hj:(j==id)<;>simp only[hj,cond_true,cond_false] at h
   ·exact XM h
   simp_all
  ·exact XM h
theorem UM{unl:List Nat}:∀{hp:List (Nat×SB)} {id:Nat} {sb:SB},zI (Le hp unl) id=ak sb->zI hp id=ak sb
 |[],_,_,h=>h |(j,x)::l,id,sb,h=>by
  have hn:=XM h;unfold Le at h;cases hu:unl.contains j<;>simp only[hu,cond_true,cond_false] at h
  ·simp only[zI] at h ⊢
   cases hj:(j==id)<;>simp only[hj,cond_true,cond_false] at h ⊢
   ·exact UM h
   ·exact h
  ·have h:=UM h
   grind [zI]
structure Rg(C:Ctx)(K:Kx)(AO:Array Oper)(base Jj:Nat)(lock:List (Nat×SB))(H0:Mem)(E0:Env)(w0:World)(c0:Core)(H:Mem)(E:Env)(w:World)(c:Core)(a:Act)(listed:Array Bool)(GR:List SV):Prop where
 st:St C K H E w c a
 nx:c.nx=0
 lim:c.lim=0
 free:∀j,j<AO.size->listed.getD j aC=ay->∀id,base+Jj*j<=id->id<base+Jj*(j+1)->E id=aK
 akl:zO H0 E0 GR a.tmps.toList
 ch:Ch K H0 E0 w0 c0.hp c0.tc H E w c.hp c.tc (fun i=>base<=i/\i<base+Jj*AO.size)
 lk:∀id sb b,zI lock id=ak sb->Ag E0 id sb=ak b->H b≠aK\/∃sb',zI c.hp id=ak sb'/\Ag E id sb'=ak b
 agr:Ux H0 E0 lock w0 w
 on:H0.on w
def Still(H0:Mem)(E0:Env)(lock:List (Nat×SB))(w0:World)(w':World):Prop:=Ux H0 E0 lock w0 w'/\H0.on w'
variable{AO:Array Oper}{base Jj:Nat}{lock:List (Nat×SB)}{H0:Mem}{E0:Env}{w0:World}{c0:Core}{c:Core}{a:Act}{listed:Array Bool}{GR:List SV}
theorem aew(hC:Az P C)(hH0:zU K H0 E0 w0 lock)(hg0:BU C.gls H0)(r:Rg C K AO base Jj lock H0 E0 w0 c0 H E w c a listed GR){i j:Nat}{bs:List Bool}{v v0:SV}
  (h:Tc C AO lock listed GR c i=.take j bs v v0) (hb:∀b∈bs,b=aC) :
  j=i/\∃o u,AO[i]?=ak o/\mP .any AO listed i=aC/\YieldsIf P AO (Still H0 E0 lock w0) o u a/\Den H E v u/\Den H0 E0 v0 u:=by
 unfold Tc at h;have hop:opAt AO.toList i=AO[i]?:=by simp[opAt]
 rw[hop] at h;simp only[acX] at h;split at h
 ·cases h
 ·rename_i o hi
  have hs:=Gj (ops:=AO) r.st.den o;split at h
  ·cases h
  ·rename_i hw
   rw[hw] at hs;cases hf:mP .any AO listed i<;>simp only[hf,cond_true,cond_false] at h
   ·cases h
   cases h;exact ⟨rfl,o,undef,hi,rfl,.inr ⟨hs,rfl⟩,aeu,aeu⟩
  ·rename_i hw
   rw[hw] at hs;cases hq:(Ce o.op&&mP .any AO listed i)<;>simp only[hq,cond_true,cond_false] at h
   ·cases h
   simp only[aG] at hq;split at h
   ·rename_i bs' v' hl
    cases h;have hall:=MQ (aev hl) hb;obtain ⟨p,u,h1,h2,h3,h4⟩:=afN (c:={c with tm:=GR,hp:=lock}) (w:=w0) hC r.akl hH0 hg0 hq.1 hall
    subst h1;exact ⟨rfl,o,u,hi,hq.2,.inl ⟨hs,fun w' hw'=>h4 w' hw'.1 hw'.2⟩,h3.le r.ch.H7 r.ch.Ll,h3⟩
   ·cases hp:Lh c.tm o.op<;>simp only[hp,cond_true,cond_false] at h
    ·cases h
    split at h
    ·rename_i bs' v' hl
     cases h;have hall:=MQ hl hb;obtain ⟨p,u,h1,h2,h3,h4⟩:=aiu hC r.st.den r.st.hp r.st.gl hp hall;subst h1;exact ⟨rfl,o,u,hi,hq.2,.inl ⟨hs,fun w' _=>h4 w'⟩,h3,trivial⟩
    ·cases h
  ·cases h
theorem af8(hC:Az P C)(r:Rg C K AO base Jj lock H0 E0 w0 c0 H E w c a listed GR){i d:Nat}{t:Bool}(h:Tc C AO lock listed GR c i=.ask d t):c.tm.getD d .any=.test t:=by
 unfold Tc at h;have hop:opAt AO.toList i=AO[i]?:=by simp[opAt]
 rw[hop] at h;simp only[acX] at h;split at h
 ·cases h
 ·rename_i o hi
  have hs:=Gj (ops:=AO) r.st.den o;grind
theorem Rg.take(r:Rg C K AO base Jj lock H0 E0 w0 c0 H E w c a listed GR){i:Nat}{d:Option Nat}{u:Value}{v v0:SV}(h1:Den H E v u)(h0:Den H0 E0 v0 u):
  Rg C K AO base Jj lock H0 E0 w0 c0 H E w (c.put d v) (a.put d u) (listed.setIfInBounds i aC) (QE GR d v0):=by
 refine ⟨r.st.put d h1,r.nx,r.lim,fun j hj hu=>r.free j hj ?_,?_,r.ch,r.lk,r.agr,r.on⟩
 ·(by_cases hij:i=j)<;>simp_all
 ·have:=Ji (c:={c with tm:=GR}) (a:=a) r.akl d h0
  exact this
theorem Rg.know(r:Rg C K AO base Jj lock H0 E0 w0 c0 H E w c a listed GR){d:Nat}{b:Bool}(hd:c.tm.getD d .any=.test b):
  Rg C K AO base Jj lock H0 E0 w0 c0 H E w (c.put (ak d) (.bool b)) a listed (GR.set d (.bool b)):=by
 refine ⟨r.st.know hd,r.nx,r.lim,r.free,?_,r.ch,r.lk,r.agr,r.on⟩;obtain ⟨v,e1,e2⟩:=Tj r.st.den hd (by simp);have e2:v=.bool b:=e2;subst e2;have h2:=r.akl.set d (s:=.bool b) (v:=.bool b) rfl;have h3:a.tmps.toList.set d (.bool b)=a.tmps.toList:=by
  rw[<-iJ] at e1;apply List.ext_getElem?;grind
 simp_all
theorem af9{i j:Nat}(hij:(listed.setIfInBounds i aC).getD j aC=ay):j≠i/\listed.getD j aC=ay:=by
 by_cases h:i=j
 ·simp_all
 ·rw[getD_set_ne aC h] at hij
  grind
theorem Rg.step(hl0:∀id sb,zI lock id=ak sb->zI c0.hp id=ak sb)(r:Rg C K AO base Jj lock H0 E0 w0 c0 H E w c a listed GR){i:Nat}(hi:i<AO.size){c':Core}{a':Act}{u:Value}
  (st':St C K H' E' w' c' a') (mv:Mv K H E w {c with tc:=[],nx:=base+Jj*i,lim:=base+Jj*(i+1)} H' E' w' c') (ha:a'=a.put ((AO[i]?).bind (·.dst)) u)
  (hdj:disjoint c'.tc lock=aC) :
  Rg C K AO base Jj lock H0 E0 w0 c0 H' E' w' {c' with tc:=c'.tc++c.tc,nx:=c.nx,lim:=c.lim} a' (listed.setIfInBounds i aC) (QE GR ((AO[i]?).bind (·.dst)) .any):=by
 have hch:=mv.ch;have hnx1:base+Jj*i<=c'.nx:=mv.nx;have hlim:c'.nx<=base+Jj*(i+1):=by
  have h1:c'.nx<=base+Jj*(i+1)\/c'.nx=base+Jj*i:=mv.lim;grind
 have az8:∀id∈c'.tc,zI lock id=aK:=fun id hid=>by
  have:=List.all_eq_true.1 hdj id hid;simp_all
 have hge:∀i',i'<AO.size->base+Jj*(i'+1)<=base+Jj*AO.size:=fun i' h=>rE (jD _ h) _;have hkeep:∀b,H b≠aK->w'.heap[b]?=w.heap[b]?:=fun b hb=>by
  cases h:H b with
  |none=>simp_all |some o=>rw[st'.Bg.on b o (mv.H7 b o h),r.st.Bg.on b o h]
 have hother:∀id sb b,zI lock id=ak sb->Ag E0 id sb=ak b->w'.heap[b]?=w.heap[b]?/\(H' b≠aK\/∃sb',zI c'.hp id=ak sb'/\Ag E' id sb'=ak b):=fun id sb b h1 h2=>by
  rcases r.lk id sb b h1 h2 with h|⟨sb',h3,h4⟩
  ·refine ⟨hkeep b h,.inl ?_⟩
   cases hb:H b with
   |none=>simp_all |some o=>rw[mv.H7 b o hb];simp
  ·have hnot:id ∉ c'.tc:=fun hid=>by simp_all
   refine ⟨mv.fr b ((r.st.hp.ent _ _ h3).lt h4).1 fun id' afQ e=>?_,mv.keep id sb' b h3 hnot h4⟩;rcases mv.Zr id' afQ with h5|h5|⟨V9,h5,h6⟩
   ·cases h5
   ·grind [bk]
   ·have:=r.st.hp.Fg _ _ _ _ _ h3 h5 h4 (h6.trans e)
    simp_all
 refine ⟨⟨st'.den,st'.hp,st'.Bg,?_,st'.gl,st'.defers⟩,r.nx,r.lim,fun j hj hu id h1 h2=>?_,?_,r.ch.trans ((hch.add c.tc).mono fun k hk=>?_),fun id sb b h1 h2=>(hother id sb b h1 h2).2,fun b hb=>?_,fun b o hb=>?_⟩
 ·intro k h1 h2
  have h1:c.nx<=k:=h1;have h2:k<c.lim:=h2;have:=r.nx;have:=r.lim;omega
 ·obtain ⟨hji,hu⟩:=af9 hu
  have h0:=r.free j hj hu id h1 h2;cases he:E' id with
  |none=>rfl |some v=>
   have:=hch.new id h0 (by rw[he];simp);simp only at this;have q1:=this.1;have q2:=this.2;rcases Nat.lt_or_gt_of_ne hji with q|q
   ·have:Jj*(j+1)<=Jj*i:=jD _ q
    omega
   ·have:Jj*(i+1)<=Jj*j:=jD _ q
    omega
 ·subst ha
  exact Ji (c:={c with tm:=GR}) (a:=a) r.akl _ trivial
 ·grind
 ·rcases hb with hb|⟨id,sb,h1,h2⟩
  ·have hH:H b≠aK:=by
    cases h:H0 b with
    |none=>simp_all |some o=>rw[r.ch.H7 b o h];simp
   rw[hkeep b hH];exact r.agr b (.inl hb)
  ·rw[(hother id sb b h1 h2).1]
   exact r.agr b (.inr ⟨id,sb,h1,h2⟩)
 ·exact st'.Bg.on b o (mv.H7 b o (r.ch.H7 b o hb))
theorem Kt{call:Nat->List SV->Core->Tree (SV×Core)}(hC:Az P C)(hF:AU P C)(hK:Gu P C K call)(hH0:zU K H0 E0 w0 lock)(hg0:BU C.gls H0)
  (hl0:∀id sb,zI lock id=ak sb->zI c0.hp id=ak sb) (hns:sK AO=aC) {R:Act->World->Prop} {φ:Core->Prop}
  (hfin:∀H E w c a listed GR,Rg C K AO base Jj lock H0 E0 w0 c0 H E w c a listed GR->φ c->R a w) :
  ∀(n:Nat) (listed:Array Bool) (GR:List SV) (c:Core) (H:Mem) (E:Env) (w:World) (a:Act) (m:Nat),Rg C K AO base Jj lock H0 E0 w0 c0 H E w c a listed GR->cnt AO listed<=m->
   (explore C call base Jj AO lock n listed GR c).All φ->wpAnyH P .any AO (fun e a w=>e=.normal/\R a w) (Still H0 E0 lock w0) m listed a w
 |0,_,_,_,_,_,_,_,_,_,_,h=>h.elim |n+1,listed,GR,c,H,E,w,a,m,r,hm,h=>by
  unfold explore at h;simp only[aif] at h;split at h
  ·rename_i hr
   exact wpAnyH_done hr ⟨rfl,hfin H E w c a listed GR r h⟩ m
  ·rename_i hne
   have hrange:∀i,i∈jA .any AO listed->i<AO.size/\listed.getD i aC=ay:=fun i hi=>by
    simp_all [jA,dD,List.mem_filter]
   have hdec:∀i,i∈jA .any AO listed->∃m',m=m'+1/\cnt AO (listed.setIfInBounds i aC)<=m':=fun i hi=>by
    have:=anA (hrange i hi).1 (hrange i hi).2;exact ⟨m - 1,by omega,by omega⟩
   split at h
   ·rename_i j bs v v0 hq
    obtain ⟨i,hi,hq1⟩:=PZ hq (by simp);obtain ⟨hb,h⟩:=aaA h;obtain ⟨rfl,o,u,ho,hf,hy,hd,hd0⟩:=aew hC hH0 hg0 r hq1 hb;obtain ⟨m',rfl,hm'⟩:=hdec j hi;have hop:(opAt AO.toList j).bind (·.dst)=o.dst:=by simp[opAt,ho]
    rw[hop] at h;refine wpAnyH_take ho hns hf (by grind) (fun c a w hh=>by cases hh.1) hy ⟨r.agr,r.on⟩ ?_;exact Kt hC hF hK hH0 hg0 hl0 hns hfin n _ _ _ H E w _ m' (r.take hd hd0) hm' h
   ·rename_i d t hq
    obtain ⟨i,hi,hq1⟩:=PZ hq (by simp);have ht:=af8 hC r hq1;cases t with
    |true=>exact Kt hC hF hK hH0 hg0 hl0 hns hfin n _ _ _ H E w a m (r.know ht) hm (h.1 rfl) |false=>exact Kt hC hF hK hH0 hg0 hl0 hns hfin n _ _ _ H E w a m (r.know ht) hm (h.2 rfl)
   ·rename_i hq
    have hall:=aaB h;obtain ⟨i0,hi0⟩:∃i0,i0∈jA .any AO listed:=by
     cases hr:jA .any AO listed with
     |nil=>simp_all |cons x xs=>simp
    obtain ⟨m',rfl,_⟩:=hdec i0 hi0;refine wpAnyH_all rfl (fun hr=>hne hr) fun i hi=>?_
    obtain ⟨m'',az9,hc⟩:=hdec i hi;have hmm:m''=m':=by omega
    subst hmm;have hi':=hrange i hi;have st1:St C K H E w {c with tc:=[],nx:=base+Jj*i,lim:=base+Jj*(i+1)} a:=
     ⟨r.st.den,r.st.hp,r.st.Bg,fun k h1 h2=>r.free i hi'.1 hi'.2 k h1 h2,r.st.gl,r.st.defers⟩
    refine UL hC hF hK st1 (dX (hall i hi)) _ _ fun c' a' H' E' w' e1 e2 e3 e4=>?_
    obtain ⟨u,e4⟩:=e4;cases hdj:disjoint c'.tc lock<;>simp only[hdj,cond_true,cond_false] at e1
    ·exact e1.elim
    have hop:opAt AO.toList i=AO[i]?:=by simp[opAt]
    rw[hop] at e1;have r':=r.step hl0 hi'.1 e2 e3 e4 hdj;exact ⟨⟨r'.agr,r'.on⟩,Kt hC hF hK hH0 hg0 hl0 hns hfin n _ _ _ H' E' w' a' m'' r' hc e1⟩
theorem St.sameHeap{c:Core}{a:Act}(st:St C K H E w c a)(h1:w'.heap=w.heap)(h2:w'.os=w.os)(h3:w'.tape=w.tape)(h4:w'.output=w.output):St C K H E w' c a:=
 ⟨st.den,⟨fun id sb hl=>(st.hp.ent id sb hl).kept (fun _ _ e=>e) (fun _ _ e=>e) (fun b _=>by rw[h1]) fun b hb=>((st.hp.ent id sb hl).lt hb).2.1,st.hp.Fg⟩,
  ⟨h2.trans st.Bg.os,h3.trans st.Bg.tape,h4.trans st.Bg.output,by rw[h1];exact st.Bg.size,fun b hb hn=>by rw[h1];exact st.Bg.kept b hb hn,fun b o hb=>by rw[h1];exact st.Bg.on b o hb,st.Bg.le,st.Bg.fresh⟩,
  st.free,st.gl,st.defers⟩
theorem aex{c c':Core}(h:Mv K H E w c H' E' w' c')(h1:w.heap=w''.heap):Mv K H E w'' c H' E' w' c':=by
 obtain ⟨a1,a2,a3,a4,a5,a6,a7,a8,a9,a10,a11,a12,a13,a14,a15,a16⟩:=h;exact ⟨a1,a2,a3,a4,a5,a6,a7,a8,a9,a10,by simp_all,by simp_all,by grind,a14,a15,a16⟩
theorem AQ.DR:∀{l l':List AQ},cu (l++l')->cu l/\cu l'
 |[],_,h=>⟨trivial,h⟩ |_::_,_,h=>⟨⟨h.1,(AQ.DR h.2).1⟩,(AQ.DR h.2).2⟩
theorem AZ{a b:Option (List AQ)}{l:List AQ}(h:Em a b=ak l):∃x y,a=ak x/\b=ak y/\l=x++y:=by
 unfold Em at h;grind
theorem Ah{c:Bool}{a:Option (List AQ)}{l:List AQ}(h:BQ c a=ak l):c=aC/\a=ak l:=by
 cases c
 ·cases h
 ·exact ⟨rfl,h⟩
theorem anB{s s':Sh}{q:List AQ}(h:am6 s s'=ak q)(ha:cu q):s=s':=by
 unfold am6 at h;split at h
 ·grind [Ah]
 ·cases h
  exact ha.1
mutual
theorem O1:∀{x y:SV} {q:List AQ},YA x y=ak q->cu q->x=y
 |x,y,q,h,ha=>by
  unfold YA at h;split at h;all_goals first
   |(cases h;done)
   |(cases h;rfl)
   |(obtain ⟨h1,h2⟩:=Ah h;simp only[aG,beq_iff_eq] at h1;obtain ⟨rfl,rfl⟩:=h1;rfl)
   |(obtain ⟨h1,h2⟩:=Ah h;simp only[beq_iff_eq] at h1;subst h1;cases h2;rfl)
   |skip
  case h_3=>obtain ⟨h1,h2⟩:=Ah h;simp only[beq_iff_eq] at h1;subst h1;cases h2;rw[ha.1]
  case h_5=>cases h;rw[ha.1]
  case h_7=>cases h;rw[ha.1]
  case h_10=>obtain ⟨h1,h2⟩:=Ah h;simp only[aG,beq_iff_eq] at h1;obtain ⟨⟨rfl,rfl⟩,rfl⟩:=h1;cases h2;rw[ha.1]
  case h_11=>obtain ⟨h1,h2⟩:=Ah h;simp only[aG,beq_iff_eq] at h1;obtain ⟨rfl,rfl⟩:=h1;cases h2;rw[ha.1,ha.2.1,ha.2.2.1]
  case h_17=>obtain ⟨h1,h2⟩:=Ah h;simp only[beq_iff_eq] at h1;subst h1;rw[I5 h2 ha]
  case h_18=>rw[I5 h ha]
  case h_19=>rw[I5 h ha]
  case h_20=>obtain ⟨h1,h2⟩:=Ah h;simp only[beq_iff_eq] at h1;subst h1;rw[O1 h2 ha]
  grind [anB]
theorem I5:∀{l m:List SV} {q:List AQ},KG l m=ak q->cu q->l=m
 |[],[],_,_,_=>rfl |x::l,y::m,q,h,ha=>by
  simp only[KG] at h;obtain ⟨a,b,h1,h2,rfl⟩:=AZ h;rw[O1 h1 (AQ.DR ha).1,I5 h2 (AQ.DR ha).2]
 |[],_::_,_,h,_=>by simp[KG] at h |_::_,[],_,h,_=>by simp[KG] at h
end
theorem ac7:∀{l m:List (SV×SV)} {q:List AQ},XB l m=ak q->cu q->l=m
 |[],[],_,_,_=>rfl |(a,b)::l,(c,d)::m,q,h,ha=>by
  simp only[XB] at h;obtain ⟨q1,q2,h1,h2,rfl⟩:=AZ h;obtain ⟨q3,q4,h3,h4,rfl⟩:=AZ h2;obtain ⟨a1,a2⟩:=AQ.DR ha;obtain ⟨a3,a4⟩:=AQ.DR a2;rw[O1 h1 a1,O1 h3 a3,ac7 h4 a4]
 |[],_::_,_,h,_=>by simp[XB] at h |_::_,[],_,h,_=>by simp[XB] at h
theorem aaD:∀{l m:List (Int×Bool×SV)} {q:List AQ},aah l m=ak q->cu q->l=m
 |[],[],_,_,_=>rfl |(a,p,b)::l,(c,r,d)::m,q,h,ha=>by
  simp only[aah] at h;obtain ⟨h0,h⟩:=Ah h;obtain ⟨q1,q2,h1,h2,rfl⟩:=AZ h;obtain ⟨q3,q4,h3,h4,rfl⟩:=AZ h2;obtain ⟨a1,a2⟩:=AQ.DR ha;obtain ⟨a3,a4⟩:=AQ.DR a2;cases h1;have h0:p=r:=by grind
  rw[h0,a1.1,O1 h3 a3,aaD h4 a4]
 |[],_::_,_,h,_=>by simp[aah] at h |_::_,[],_,h,_=>by simp[aah] at h
theorem aga:∀{l m:List (CZ×Bool×SV)} {q:List AQ},acY l m=ak q->cu q->l=m
 |[],[],_,_,_=>rfl |((a,s),p,b)::l,((c,t),r,d)::m,q,h,ha=>by
  simp only[acY] at h;obtain ⟨h0,h⟩:=Ah h;obtain ⟨q1,q2,h1,h2,rfl⟩:=AZ h;obtain ⟨q3,q4,h3,h4,rfl⟩:=AZ h2;obtain ⟨a1,a2⟩:=AQ.DR ha;obtain ⟨a3,a4⟩:=AQ.DR a2;cases h1;have h0:p=r:=by grind
  have e1:a=c:=a1.1;have e2:s=t:=a1.2.1;rw[h0,e1,e2,O1 h3 a3,aga h4 a4]
 |[],_::_,_,h,_=>by simp[acY] at h |_::_,[],_,h,_=>by simp[acY] at h
theorem alH{x y:Option (Nat×Int)}{q:List AQ}(h:aii x y=ak q)(ha:cu q):x=y:=by
 unfold aii at h;split at h
 ·rfl
 ·obtain ⟨h1,h2⟩:=Ah h
  cases h2;have h1:=by simpa using h1
  rw[h1,ha.1]
 ·cases h
theorem anC{x y:SB}{q:List AQ}(h:am7 x y=ak q)(ha:cu q):x=y:=by
 unfold am7 at h;split at h
 ·grind [Ah,I5]
 ·obtain ⟨h1,h2⟩:=Ah h
  grind [I5]
 ·obtain ⟨h1,h2⟩:=Ah h
  simp only[aG,beq_iff_eq] at h1;cases h2;rw[h1.1,h1.2,ha.1,ha.2.1]
 ·obtain ⟨h1,h2⟩:=Ah h
  have h1:=by simpa using h1
  cases h2;rw[h1,ha.1,ha.2.1]
 ·rw[ac7 h ha]
 ·cases h
  have:=ha.1;simp_all [AQ.ok,Sh.pt.injEq]
 ·obtain ⟨h1,h2⟩:=Ah h
  simp only[aG,beq_iff_eq] at h1;obtain ⟨q1,q2,h3,h4,rfl⟩:=AZ h2;cases h3;obtain ⟨a1,a2⟩:=AQ.DR ha;rw[h1.1,h1.2,a1.1,a1.2.1,I5 h4 a2]
 ·obtain ⟨h1,h2⟩:=Ah h
  have h1:=by simpa using h1
  cases h2;rw[h1,ha.1]
 ·obtain ⟨h1,h2⟩:=Ah h
  have h1:=by simpa using h1
  obtain ⟨q1,q2,h3,h4,rfl⟩:=AZ h2;obtain ⟨q3,q4,h5,h6,rfl⟩:=AZ h4;obtain ⟨q5,q6,h7,h8,rfl⟩:=AZ h6;cases h3;obtain ⟨a1,a2⟩:=AQ.DR ha;obtain ⟨a3,a4⟩:=AQ.DR a2;obtain ⟨a5,a6⟩:=AQ.DR a4;rw[h1,a1.1,aaD h5 a3,aaD h7 a5,alH h8 a6]
 ·obtain ⟨h1,h2⟩:=Ah h
  have h1:=by simpa using h1
  obtain ⟨q1,q2,h3,h4,rfl⟩:=AZ h2;cases h3;obtain ⟨a1,a2⟩:=AQ.DR ha;rw[h1,show _=_ from a1.1,aga h4 a2]
 ·cases h
theorem agb:∀{l m:List (Nat×SB)} {q:List AQ},acZ l m=ak q->cu q->l=m
 |[],[],_,_,_=>rfl |(i,a)::l,(j,b)::m,q,h,ha=>by
  simp only[acZ] at h;obtain ⟨h0,h⟩:=Ah h;obtain ⟨q1,q2,h1,h2,rfl⟩:=AZ h;have h0:=by simpa using h0
  rw[h0,anC h1 (AQ.DR ha).1,agb h2 (AQ.DR ha).2]
 |[],_::_,_,h,_=>by simp[acZ] at h |_::_,[],_,h,_=>by simp[acZ] at h
theorem aiH{a b:Core}{q:List AQ}(h:aee a b=ak q)(ha:cu q):a=b:=by
 unfold aee at h;obtain ⟨h0,h⟩:=Ah h;obtain ⟨q1,q2,h1,h2,rfl⟩:=AZ h;simp only[aG,beq_iff_eq] at h0;obtain ⟨⟨h3,h4⟩,h5⟩:=h0;obtain ⟨t,hp,nx,lim,tc⟩:=a;obtain ⟨t',hp',nx',lim',tc'⟩:=b;grind [I5,AQ.DR,agb]
def Ob.ok:Ob->Prop
 | .b x=>x=aC | .e l=>cu l
theorem P5{α:Type}{φ:α->Prop}:∀{t:Tree α} {o:List Ob} {a:α},strip t=ak (o,a)->(∀x∈o,x.ok)->φ a->t.All φ
 | .leaf _,o,a,h,_,hφ=>by simp[strip] at h;rw[h.2];exact hφ | .need b t,o,a,h,ho,hφ=>by
  simp only[strip,bM,jk] at h;obtain ⟨⟨o',a'⟩,h1,rfl,rfl⟩:=h;exact ⟨ho _ (dK ..),P5 h1 (fun x hx=>ho x (dF _ hx)) hφ⟩
 | .must l t,o,a,h,ho,hφ=>by
  simp only[strip,bM,jk] at h;obtain ⟨⟨o',a'⟩,h1,rfl,rfl⟩:=h;exact ⟨ho _ (dK ..),P5 h1 (fun x hx=>ho x (dF _ hx)) hφ⟩
 | .node _ _ _,_,_,h,_,_=>by simp[strip] at h | .both _ _,_,_,h,_,_=>by simp[strip] at h | .fail,_,_,h,_,_=>by simp[strip] at h
theorem XO{α:Type}{φ:α->Prop}{t:Tree α}:∀{o:List Ob},(wrap t o).All φ->(∀x∈o,x.ok)/\t.All φ
 |[],h=>⟨fun _ h=>(by cases h),h⟩ | .b x::r,h=>by
  obtain ⟨h1,h2⟩:=h;obtain ⟨h3,h4⟩:=XO h2;refine ⟨fun y hy=>?_,h4⟩;cases hy with
  |head=>exact h1 |tail _ hy=>exact h3 y hy
 | .e l::r,h=>by
  obtain ⟨h1,h2⟩:=h;obtain ⟨h3,h4⟩:=XO h2;refine ⟨fun y hy=>?_,h4⟩;cases hy with
  |head=>exact h1 |tail _ hy=>exact h3 y hy
theorem aiI{α:Type}{φ:α->Prop}{t:Tree α}{l:List AQ}(h:(XC l t).All φ):cu l/\t.All φ:=by
 unfold XC at h;split at h
 ·exact ⟨trivial,h⟩
 ·exact h
theorem agc{t f:Tree Core}{φ:Core->Prop}(h:(ZF t f).All φ):t.All φ/\f.All φ:=by
 unfold ZF at h;split at h
 ·rename_i o a q b h1 h2
  split at h
  ·rename_i l he
   obtain ⟨h3,h4⟩:=XO h;obtain ⟨h5,h6⟩:=aiI h4;have:=aiH he h5;subst this;exact ⟨P5 h1 (fun x hx=>h3 x (cZ.2 (.inl hx))) h6,P5 h2 (fun x hx=>h3 x (cZ.2 (.inr hx))) h6⟩
  ·exact h
 ·exact h
theorem Iy{φ:Core->Prop}:∀{t:Tree Core},(merge t).All φ->t.All φ
 | .leaf _,h=>h | .fail,h=>h | .need _ t,h=>⟨h.1,Iy h.2⟩ | .must _ t,h=>⟨h.1,Iy h.2⟩ | .node _ t f,h=>⟨fun e=>Iy (h.1 e),fun e=>Iy (h.2 e)⟩ | .both t f,h=>by
  have:=agc (show (ZF (merge t) (merge f)).All φ from h);exact ⟨Iy this.1,Iy this.2⟩
theorem YV:∀{m:Nat} {l:List SV} {vs:List Value},zO H E l vs->zO H E (ZG m l) vs
 |_,[],_,h=>h |m,x::l,v::vs,⟨h1,h2⟩=>by
  simp only[ZG];refine ⟨?_,YV h2⟩;cases Nat.beq (m % 2) 1
  ·trivial
  ·exact h1
 |_,_::_,[],h=>h.elim
theorem aaE{g:Nat}{l:List SV}{vs:List Value}(h:zO H E l vs):zO H E (MJ C g l) vs:=by
 grind [MJ,YV]
theorem ac8{i j:Nat}:∀{l:List Nat},i∈afz j l↔i=j\/i∈l
 |[]=>by simp[afz] |k::l=>by
  unfold afz;cases h1:(j==k)<;>simp only[cond_true,cond_false]
  ·cases h2:fF j k<;>simp only[cond_true,cond_false]
   ·simp only[List.mem_cons,ac8 (l:=l)]
    grind
   ·simp
  simp_all
theorem aaF{i:Nat}:∀{l:List Nat},i∈QZ l↔i∈l
 |[]=>by simp[QZ] |j::l=>by simp[QZ,ac8,aaF (l:=l)]
theorem Ch.awh{hp hp':List (Nat×SB)}{tc tc' tc2:List Nat}{N:Nat->Prop}(h:Ch K H E w hp tc H' E' w' hp' tc' N)(he:∀i,i∈tc2↔i∈tc'):Ch K H E w hp tc H' E' w' hp' tc2 N:=
 {h with
  tc:=fun id hid=>(he id).2 (h.tc id hid)
  fr:=fun b hb hne=>h.fr b hb fun id hid=>hne id ((he id).2 hid)
  NK:=fun i b h1 h2=>(h.NK i b h1 h2).imp (fun h=>h) fun ⟨id,h3,h4⟩=>⟨id,(he id).2 h3,h4⟩
  Zr:=fun id hid=>h.Zr id ((he id).1 hid)
  keep:=fun id sb b h1 h2 h3=>h.keep id sb b h1 (fun h4=>h2 ((he id).2 h4)) h3}
theorem aaG{call:Nat->List SV->Core->Tree (SV×Core)}(hC:Az P C)(hF:AU P C)(hK:Gu P C K call){c:Core}{a:Act}{φ:Core->Prop}(st:St C K H E w c a){g:Nat}(h:(drawn C call g AO c).All φ):
  wpAny P .any AO (fun e a' w'=>e=.normal/\∃c' H' E',φ c'/\St C K H' E' w' c' a'/\Mv K H E w c H' E' w' c') AO.size (dN AO.size ay) a {w with drawn:=w.drawn+1}:=by
 unfold drawn at h;simp only at h;generalize hlk:Le c.hp (XD C AO.toList c [])=lock at h;cases hb:(gJ (c.nx+Je c AO.size*AO.size) c.lim&&sK AO)<;>simp only[hb,cond_true,cond_false] at h
 ·exact h.elim
 simp only[aG] at hb;have hle:=Nat.le_of_ble_eq_true hb.1;let w1:World:={w with drawn:=w.drawn+1}
 have st1:St C K H E w1 c a:=st.sameHeap rfl rfl rfl rfl;have hlook:∀id sb,zI lock id=ak sb->zI c.hp id=ak sb:=fun id sb hl=>by grind [UM]
 have hH0:zU K H E w1 lock:=⟨fun id sb hl=>st1.hp.ent id sb (hlook id sb hl),fun i j s1 s2 b h1 h2=>st1.hp.Fg i j s1 s2 b (hlook _ _ h1) (hlook _ _ h2)⟩;have hrefl:Ch K H E w1 c.hp c.tc H E w1 c.hp c.tc (fun i=>c.nx<=i/\i<c.nx+Je c AO.size*AO.size):=by
  have:=(Post.refl (c:=c) st1.hp st1.Bg).mv.ch;exact this.mono fun i hi=>by omega
 refine wpAny_of_held (S:=Still H E lock w1) _ _ _ _ ?_;refine (Kt (c0:=c) (R:=fun a' w'=>∃c' H' E',φ c'/\St C K H' E' w' c' a'/\Mv K H E w c H' E' w' c') (φ:=fun c'=>φ {tm:=MJ C g c'.tm,hp:=c'.hp,nx:=c.nx+Je c AO.size*AO.size,lim:=c.lim,tc:=QZ c'.tc}) hC hF hK hH0 st1.gl hlook hb.2 ?_
  (2*AO.size+1) (dN AO.size ay) c.tm {c with nx:=0,lim:=0} H E w1 a AO.size ?_ ?_ (dX (Iy h)))
 ·intro H' E' w' c' a' listed GR r hφ
  have hnew:Free E' {tm:=MJ C g c'.tm,hp:=c'.hp,nx:=c.nx+Je c AO.size*AO.size,lim:=c.lim,tc:=QZ c'.tc}:=fun i h1 h2=>by
   have h1:c.nx+Je c AO.size*AO.size<=i:=h1;have h2:i<c.lim:=h2;cases he:E' i with
   |none=>rfl |some v=>
    have:=r.ch.new i (st.free i (by omega) h2) (by rw[he];simp);omega
  refine ⟨_,H',E',hφ,⟨aaE r.st.den,r.st.hp,r.st.Bg,hnew,r.st.gl,r.st.defers⟩,?_⟩;exact aex (Ch.mv (c:=c) (c':={tm:=MJ C g c'.tm,hp:=c'.hp,nx:=c.nx+Je c AO.size*AO.size,lim:=c.lim,tc:=QZ c'.tc}) (r.ch.awh fun i=>aaF) (Nat.le_add_right _ _) (.inl hle) rfl) rfl
 ·refine ⟨⟨st1.den,st1.hp,st1.Bg,fun i h1 h2=>by simp at h2,st1.gl,st1.defers⟩,rfl,rfl,fun j hj _ id h1 h2=>?_,st1.den,hrefl,fun id sb b h1 h2=>.inr ⟨sb,hlook id sb h1,h2⟩,fun _ _=>rfl,st1.Bg.on⟩
  have:c.nx+Je c AO.size*(j+1)<=c.nx+Je c AO.size*AO.size:=rE (jD _ hj) _;exact st.free id (by omega) (by omega)
 grind [cnt,Nat.le_trans,List.countP_le_length]
theorem alI{call:Nat->List SV->Core->Tree (SV×Core)}(hC:Az P C)(hF:AU P C)(hK:Gu P C K call){c:Core}{a:Act}{φ:Core->Prop}{id:Nat}(st:St C K H E w c a){g:Nat}(h:(drawn C call g AO c).All φ):
  (Code.region id AO aC).wp P (fun e a' w'=>e=.normal/\∃c' H' E',φ c'/\St C K H' E' w' c' a'/\Mv K H E w c H' E' w' c') a w:=
 wp_region_any hC.mixed (aaG hC hF hK st h)
end
section
variable{P:Program}{C:Ctx}{K:Kx}{H H' Oo:Mem}{E E' Oq:Env}{w w' w'':World}
theorem arA{ops:Array Oper}{i:Nat}{rest:List Nat}{next:Act->World->Prop}{a:Act}(h:wpOp P ops (fun _ _ _=>False) i next a w)(b:Frame)(k:List Item)(cs:List Frame):
  ∃a' w',next a' w'/\Steps P (lone (b.at a (.inRegion ops (i::rest)::k)) cs w) (lone (b.at a' (.inRegion ops rest::k)) cs w'):=by
 unfold wpOp at h;cases ho:ops[i]? with
 |none=>
  simp only[ho] at h;have hs:=step_op_skip (P:=P) (b:=b) (a:=a) (k:=k) (cs:=cs) (w:=w) (ops:=ops) (i:=i) (rest:=rest) (by simp[ho]);simp only[ho,Option.bind_none,Act.put] at hs;exact ⟨a,w,h,.one hs⟩
 |some o=>
  simp only[ho] at h;by_cases hw:Region.wanted o (yielded ops a.tmps)=aC
  ·simp only[hw,if_true] at h
   rcases h with h|⟨_,_,_,hq⟩
   case inr=>exact hq.elim
   simp only[Oper.wp] at h;have hg:=stepG_op (P:=P) (b:=b) (k:=k) (cs:=cs) (w:=w) (rest:=rest) ho hw;have hfin:∀v,(b.at a (.inRegion ops (i::rest)::k)).finish v=b.at (a.put o.dst v) (.inRegion ops rest::k):=by
    simp_all [kQ]
   generalize hr:(execOp a.eval o).run P w=r at h;cases r with
   |ok n w'=>
    cases n<;>simp only[wu] at h
    case value v=>
     refine ⟨_,_,h,.one (step_lone_go ?_)⟩;simp_all [fP]
    case skip=>
     refine ⟨_,_,h,.one (step_lone_go ?_)⟩;simp_all [fP]
    case defer d=>
     refine ⟨_,_,h,.one (step_lone_go ?_)⟩;have:({b.at a (.inRegion ops (i::rest)::k) with defers:=d::a.defers}:Frame).finish undef =
       b.at ({a with defers:=d::a.defers}.put o.dst undef) (.inRegion ops rest::k):=by
      have:=kQ b {a with defers:=d::a.defers} ops i rest k undef
      rw[ho] at this;exact this
     rw[hg];simp only[fP,Sem.runT_eq,hr,GStep.bare_after];exact congrArg (fun fr=>GStep.go {frame:=fr,callers:=cs,status:=.running,dying:=aK} w') this
    case enter f args=>
     obtain ⟨e,w'',fr,hR,hsteps,_,hleave⟩:=h (b.at a (.inRegion ops (i::rest)::k)::cs);have henter:step P (lone (b.at a (.inRegion ops (i::rest)::k)) cs w) =
       .next (lone (fM P f args .normal) (b.at a (.inRegion ops (i::rest)::k)::cs) w'):=
      step_lone_go (by simp_all [fP,Frame.at])
     cases e with
     |returned v=>
      refine ⟨_,_,hR,.head henter (hsteps.trans (.one ?_))⟩;grind [step_leave_returned]
     |panicked chain=>exact hR.elim |outgrown=>obtain ⟨_,_,hq⟩:=hR;exact hq.elim
    case row row args=>
     obtain ⟨v,w'',hR,hsteps⟩:=h (b.at a (.inRegion ops (i::rest)::k)) cs;have henter:step P (lone (b.at a (.inRegion ops (i::rest)::k)) cs w) =
       .next (lone (Frame.ofRow P row args .normal) (b.at a (.inRegion ops (i::rest)::k)::cs) w'):=
      step_lone_go (by simp_all [fP,Frame.at])
     refine ⟨_,_,hR,.head henter ?_⟩;simp_all
    all_goals exact h.elim
   |halt x w'=>
    cases x<;>simp only[wu] at h
    all_goals exact h.elim
  ·simp only[hw,if_false,Bool.false_eq_true] at h
   have hs:=step_op_skip (P:=P) (b:=b) (a:=a) (k:=k) (cs:=cs) (w:=w) (ops:=ops) (i:=i) (rest:=rest)
    (by simp_all)
   simp only[ho,Option.bind_some] at hs;exact ⟨_,_,h,.one hs⟩
inductive BA(body:Code):List It->List Item->Prop
 |nil:BA body [] []
 |code (p:List Nat) {td:List It} {k:List Item}:BA body td k->BA body (.code p::td) (.code (Ai body p)::k)
 |loop (p:List Nat) (x:Code) {td:List It} {k:List Item}:Ai body p=.loop x->BA body td k->BA body (.code p::td) (.inLoop x::k)
 |inBlock (id:Nat) {td:List It} {k:List Item}:BA body td k->BA body (.inBlock id::td) (.inBlock id::k)
 |XE {td:List It} {k:List Item}:BA body td k->BA body (.XE::td) (.beginRound::k)
 |reg (p:List Nat) (l:List Nat) (id:Nat) (ops:Array Oper) {td:List It} {k:List Item}:Ai body p=.region id ops ay->BA body td k->BA body (.reg p l::td) (.inRegion ops l::k)
theorem agd{body:Code}{id:Nat}:∀{td Fj:List It} {k:List Item},BA body td k->Hu id td=ak Fj->∃k',exitTo id k=ak k'/\BA body Fj k':=by
 intro td Fj k h;induction h with
 |nil=>simp_all [Hu] |code p _ ih=>assumption |XE _ ih=>assumption |loop p x _ _ ih=>assumption |reg p l id ops _ _ ih=>assumption |inBlock j h0 ih=>
  intro h;simp only[Hu] at h;grind [exitTo]
def resV(a:Act)(r:ResultVar):Sem Value:=
 match r with
 | .tmp t=>pure (a.tmps.getD t undef) | .cell x t=>do loadVar t (<-asAddr (a.tmps.getD x undef))
theorem acD(fn:Func)(a:Act):results fn a.tmps=(do let vs <-fn.results.mapM (resV a);pure (if h:vs.size=1 then vs[0] else .tuple vs)):=rfl
theorem Wp(hC:Az P C){c:Core}{a:Act}(st:St C K H E w c a):∀{rs:List ResultVar} {l:List SV},aai C c rs=ak l->∃vs:List Value,
  (rs.mapM (resV a)).run P w=.ok vs w/\zO H E l vs
 |[],l,h=>by simp[aai] at h;subst h;exact ⟨[],by simp,trivial⟩ | .tmp t::rs,l,h=>by
  simp only[aai] at h;split at h
  ·rename_i sv r h1 h2
   cases h;obtain ⟨vs,e1,e2⟩:=Wp hC st h2;obtain ⟨u,h3,h4⟩:=st.den.get h1;refine ⟨u::vs,?_,h4,e2⟩;rw[iJ] at h3;have:a.tmps.getD t undef=u:=by simp_all
   simp_all [resV,List.mapM_cons,iI]
  ·cases h
 | .cell x t::rs,l,h=>by
  simp only[aai] at h;split at h
  ·rename_i i r h1 h2
   simp only[bM] at h;obtain ⟨sv,h3,rfl⟩:=h;obtain ⟨vs,e1,e2⟩:=Wp hC st h2;have ht:=hC.ty _ _ h1;have dx:=Ap (H:=H) (E:=E) st.den (.tmp x);obtain ⟨ad,cs,q1,q2,q3,q4⟩:=YC (w:=w) dx st.hp st.gl (fun hz=>by
    obtain ⟨_,_,_,_,_,_,_,_,_,h1⟩:=ht.info;grind) h3
   refine ⟨ML i.ty.isAgg cs::vs,?_,q3,e2⟩;have q1:a.tmps.getD x undef=.pointer (ak ad):=q1;have hl:=ac1 ht q2 (q4 w (Ux.refl _ _ _ _) st.Bg.on);have hv:(resV a (.cell x t)).run P w=.ok (ML i.ty.isAgg cs) w:=by simp[resV,asAddr,q1,hl,ML]
   simp_all
  ·cases h
theorem aaH(hC:Az P C){c:Core}{a:Act}{fn:Func}{φ:Out->Prop}(st:St C K H E w c a)(h:(result C fn c).All φ):∃sv v,φ (.done sv c)/\Den H E sv v/\(results fn a.tmps).run P w=.ok v w:=by
 have key:∀vs:List Value,(fn.results.toList.mapM (resV a)).run P w=.ok vs w->
   (results fn a.tmps).run P w=.ok (if h:vs.toArray.size=1 then vs.toArray[0] else .tuple vs.toArray) w:=by
  grind [acD,Array.mapM_eq_mapM_toList,gK,map_eq_pure_bind,yh,iI]
 unfold result at h;split at h
 ·rename_i sv hs
  obtain ⟨vs,e1,e2⟩:=Wp hC st hs;match vs,e2 with
  |[v],⟨e2,_⟩=>
   exact ⟨sv,v,h,e2,by simp_all⟩
 ·rename_i l hne hs
  obtain ⟨vs,e1,e2⟩:=Wp hC st hs;refine ⟨_,.tuple vs.toArray,h,⟨vs.toArray,rfl,e2⟩,?_⟩;rw[key vs e1,dif_neg];intro h1;have:=e2.length;simp at h1;match l,hne,(this ▸ h1:l.length=1) with
  |[x],hne,_=>grind
 ·exact h.elim
end
section
variable{P:Program}{C:Ctx}{K:Kx}{H H' Oo:Mem}{E E' Oq:Env}{w w' w'':World}
def aey(P:Program)(C:Ctx)(K:Kx)(fn:Func)(g:Nat)(H:Mem)(E:Env)(w:World)(c:Core)(m:Machine)(b:Frame)(cs:List Frame):Out->Prop
 | .done sv c'=>∃(a':Act) (w':World) (H':Mem) (E':Env) (v:Value) (todo:List Item),Steps P m (lone {b.at a' todo with mode:=.returning} cs w')/\St C K H' E' w' c' a'/\Mv K H E w c H' E' w' c'/\
   Den H' E' sv v/\(results fn a'.tmps).run P w'=.ok v w'
 | .stop g' Fj c'=>g'=g/\∃(a':Act) (w':World) (H':Mem) (E':Env) (items':List Item),Steps P m (lone (b.at a' items') cs w')/\St C K H' E' w' c' a'/\Mv K H E w c H' E' w' c'/\BA (zS fn) Fj items'
theorem aey.of{fn:Func}{g:Nat}{c c1:Core}{m m1:Machine}{b:Frame}{cs:List Frame}{out:Out}(hs:Steps P m m1)(hm:Mv K H E w c H' E' w' c1)(h:aey P C K fn g H' E' w' c1 m1 b cs out):
  aey P C K fn g H E w c m b cs out:=by
 cases out with
 |done sv c'=>
  obtain ⟨a2,w2,H2,E2,v,todo,h1,h2,h3,h4,h5⟩:=h;exact ⟨a2,w2,H2,E2,v,todo,hs.trans h1,h2,hm.trans h3,h4,h5⟩
 |stop g' Fj c'=>
  obtain ⟨hg,a2,w2,H2,E2,items,h1,h2,h3,h4⟩:=h;exact ⟨hg,a2,w2,H2,E2,items,hs.trans h1,h2,hm.trans h3,h4⟩
def aiJ(P:Program)(C:Ctx)(K:Kx)(fn:Func)(H:Mem)(E:Env)(w:World)(c:Core)(m:Machine)(b:Frame)(cs:List Frame):Sig->Prop
 | .done sv c'=>∃(a':Act) (w':World) (H':Mem) (E':Env) (v:Value) (todo:List Item),Steps P m (lone {b.at a' todo with mode:=.returning} cs w')/\St C K H' E' w' c' a'/\Mv K H E w c H' E' w' c'/\
   Den H' E' sv v/\(results fn a'.tmps).run P w'=.ok v w'
 | .go Fj c'=>∃(a':Act) (w':World) (H':Mem) (E':Env) (items':List Item),Steps P m (lone (b.at a' items') cs w')/\St C K H' E' w' c' a'/\Mv K H E w c H' E' w' c'/\BA (zS fn) Fj items' | .halt Fj c'=>∃(a':Act) (w':World) (H':Mem) (E':Env) (items':List Item),Steps P m (lone (b.at a' items') cs w')/\St C K H' E' w' c' a'/\Mv K H E w c H' E' w' c'/\BA (zS fn) Fj items'
theorem St.MJ{c:Core}{a:Act}(st:St C K H E w c a)(g:Nat):St C K H E w {c with tm:=Go.Sx.MJ C g c.tm} a:=
 ⟨aaE st.den,st.hp,st.Bg,st.free,st.gl,st.defers⟩
theorem XP(hC:Az P C)(hF:AU P C){call:Nat->List SV->Core->Tree (SV×Core)}(hK:Gu P C K call){top:Bool}{g:Nat}{fn:Func}{td:List It}{c:Core}{a:Act}{items:List Item}{φ:Sig->Prop}
  (h:(Q5 C call top g fn td c).All φ) (st:St C K H E w c a) (hi:BA (zS fn) td items) (b:Frame) (cs:List Frame) :
  ∃sig,φ sig/\aiJ P C K fn H E w c (lone (b.at a items) cs w) b cs sig:=by
 have KH:Mv K H E w c H E w c:=Ih st rfl rfl rfl rfl;have go:∀{Fj:List It} {c':Core} {H':Mem} {E':Env} {w':World} {a':Act} {items':List Item},φ (.go Fj c')->St C K H' E' w' c' a'->Mv K H E w c H' E' w' c'->BA (zS fn) Fj items'->
   Steps P (lone (b.at a items) cs w) (lone (b.at a' items') cs w')->∃sig,φ sig/\aiJ P C K fn H E w c (lone (b.at a items) cs w) b cs sig:=fun h1 h2 h3 h4 h5=>⟨_,h1,_,_,_,_,_,h5,h2,h3,h4⟩
 have fin:∀(todo:List Item),((result C fn c).bind aef).All φ->step P (lone (b.at a items) cs w)=.next (lone {b.at a todo with mode:=.returning} cs w)->∃sig,φ sig/\aiJ P C K fn H E w c (lone (b.at a items) cs w) b cs sig:=fun todo hr hs=>by
  obtain ⟨sv,v,h1,h2,h3⟩:=aaH hC st (dX hr);exact ⟨_,h1,a,w,H,E,v,todo,.one hs,st,KH,h2,h3⟩
 unfold Q5 at h;split at h
 ·cases hi
  exact fin _ h step_end
 ·cases hi with
  |inBlock id hk=>exact go h st KH hk (.one step_inBlock)
 ·exact h.elim
 ·cases hi with
  |reg p l id ops hc hk=>exact go h (st.MJ g) (Ih st rfl rfl rfl rfl) hk (.one step_region_end)
 ·rename_i p i r k
  cases hi with
  |reg p l id ops hc hk=>
   rw[hc] at h;simp only at h;obtain ⟨a',w',h1,h2⟩:=arA (UL hC hF hK st (dX h) (fun a' w'=>∃c' H' E',φ (.go (.reg p r::k) c')/\St C K H' E' w' c' a'/\Mv K H E w c H' E' w' c') (fun _ _ _=>False)
    fun c' a' H' E' w' e1 e2 e3 _=>⟨c',H',E',e1,e2,e3⟩) b _ cs
   obtain ⟨c',H',E',e1,e2,e3⟩:=h1;exact go e1 e2 e3 (.reg p r id ops hc hk) h2
 ·rename_i p k
  have hloop:∀{x:Code},Ai (zS fn) p=x->(∀y,x≠.loop y)->∃k',items=.code x::k'/\BA (zS fn) k k':=fun {x} hx hne=>by
   cases hi with
   |code p hk=>simp_all |loop p y hl hk=>grind
  split at h
  ·rename_i hx
   obtain ⟨k',rfl,hk⟩:=hloop hx (by simp);exact go h st KH hk (.one step_skip)
  ·grind [step_ret]
  ·rename_i x y hx
   obtain ⟨k',rfl,hk⟩:=hloop hx (by simp);have h0:Ai (zS fn) (0::p)=x:=by simp[Ai,hx,child]
   have h1:Ai (zS fn) (1::p)=y:=by simp[Ai,hx,child]
   have:=BA.code (0::p) (BA.code (1::p) hk);rw[h0,h1] at this;exact go h st KH this (.one step_seq)
  ·rename_i id x hx
   obtain ⟨k',rfl,hk⟩:=hloop hx (by simp);have h0:Ai (zS fn) (0::p)=x:=by simp[Ai,hx,child]
   have:=BA.code (0::p) (BA.inBlock id hk);rw[h0] at this;exact go h st KH this (.one step_block)
  ·rename_i x hx
   have h0:Ai (zS fn) (0::p)=x:=by simp[Ai,hx,child]
   cases hst:C.LU g p<;>simp only[hst,cond_true,cond_false] at h
   ·cases hi with
    |code p hk=>
     have:=BA.code (0::p) (BA.loop p x hx hk);rw[h0] at this;rw[hx] at go ⊢;exact go h st KH this (.one step_loop)
    |loop p y hl hk=>
     rw[hx] at hl;cases hl;have:=BA.code (0::p) (BA.loop p x hx hk);rw[h0] at this;exact go h st KH this (.one step_inLoop)
   ·exact ⟨_,h,a,w,H,E,items,.refl _ _,st,KH,hi⟩
  ·rename_i id hx
   obtain ⟨k',rfl,hk⟩:=hloop hx (by simp);split at h
   ·rename_i k2 he
    obtain ⟨k3,h1,h2⟩:=agd hk he;exact go h st KH h2 (.one (step_exit h1))
   ·exact h.elim
  ·rename_i x y z hx
   obtain ⟨k',rfl,hk⟩:=hloop hx (by simp);have h0:=BA.code (0::p) hk;have h1:=BA.code (1::p) hk;have e0:Ai (zS fn) (0::p)=y:=by simp[Ai,hx,child]
   have e1:Ai (zS fn) (1::p)=z:=by simp[Ai,hx,child]
   rw[e0] at h0;rw[e1] at h1;have dx:=Ap (H:=H) (E:=E) st.den x;split at h
   ·rename_i hv
    rw[hv] at dx;exact go h st KH h0 (.one (step_cond (t:=aC) dx))
   ·rename_i hv
    rw[hv] at dx;exact go h st KH h1 (.one (step_cond (t:=ay) dx))
   ·rename_i t hv
    rw[hv] at dx;have st':∀v,t=v->St C K H E w (c.put (VN x) (.bool v)) a:=fun v hv2=>by
     subst hv2;cases x with
     |tmp d=>exact st.know hv |const u=>assumption |global u=>assumption |func u=>assumption
    have mv':∀v:Bool,Mv K H E w c H E w (c.put (VN x) (.bool v)):=fun v=>Ih st rfl rfl rfl rfl
    cases t with
    |true=>exact go (h.1 rfl) (st' aC rfl) (mv' aC) h0 (.one (step_cond (t:=aC) dx)) |false=>exact go (h.2 rfl) (st' ay rfl) (mv' ay) h1 (.one (step_cond (t:=ay) dx))
   ·exact h.elim
  ·rename_i id ops dr hx
   obtain ⟨k',rfl,hk⟩:=hloop hx (by simp);cases dr with
   |false=>
    simp only[cond_false] at h;exact go h st KH (.reg p (aY ops.size) id ops hx hk) (.one step_region)
   |true=>
    simp only[cond_true] at h;have key:∀(f:Core->Tree Sig),((drawn C call g ops c).bind f).All φ->∃c' a' H' E' w',(f c').All φ/\St C K H' E' w' c' a'/\Mv K H E w c H' E' w' c'/\Steps P (lone (b.at a (.code (.region id ops aC)::k')) cs w) (lone (b.at a' k') cs w'):=fun f hf=>by
     obtain ⟨e,a',w',⟨he,c',H',E',h1,h2,h3⟩,harr⟩:=alI (id:=id) hC hF hK st (dX hf) b k' cs;subst he;exact ⟨c',a',H',E',w',h1,h2,h3,harr⟩
    cases hl:(top && !(drawn C call g ops c).lone)<;>simp only[hl,cond_true,cond_false] at h
    ·obtain ⟨c',a',H',E',w',h1,h2,h3,h4⟩:=key _ h
     exact go h1 h2 h3 hk h4
    ·obtain ⟨c',a',H',E',w',h1,h2,h3,h4⟩:=key _ h
     exact ⟨_,h1,a',w',H',E',k',h4,h2,h3,hk⟩
  ·exact h.elim
def aaI(P:Program)(C:Ctx)(K:Kx)(run:Bool->Nat->List It->Core->Tree Out):Prop:=
 ∀(top:Bool) (g:Nat) (td:List It) (c:Core) (H:Mem) (E:Env) (w:World) (a:Act) (fn:Func) (items:List Item) (φ:Out->Prop),C.fns.get g=ak fn->(run top g td c).All φ->St C K H E w c a->
  BA (zS fn) td items->∀(b:Frame) (cs:List Frame),∃out,φ out/\aey P C K fn g H E w c (lone (b.at a items) cs w) b cs out
theorem J7{p:Nat->Bool}:∀{l:List (Nat×SB)} {i:Nat},zI (dropKey p l) i=bif p i then aK else zI l i
 |[],i=>by simp_all [dropKey,zI] |(j,b)::r,i=>by
  have ih:=J7 (p:=p) (l:=r) (i:=i);simp only[dropKey];grind [zI]
theorem Mv.gc{c c':Core}(h:Mv K H E w c H' E' w' c')(hf:Free E c){p:Nat->Bool}(hp:∀i,p i=aC->c.nx<=i/\i<c.lim):Mv K H E w c H' E' w' {c' with hp:=dropKey p c'.hp}:=by
 have hl:∀{i sb},zI (dropKey p c'.hp) i=ak sb->zI c'.hp i=ak sb:=fun {i sb} h=>by
  grind [J7]
 have hch:=h.ch;refine Ch.mv (c:=c) (c':={c' with hp:=dropKey p c'.hp}) ⟨hch.H7,hch.Ll,hch.new,⟨fun id sb hq=>hch.hp.ent _ _ (hl hq),fun id id' sb sb' b q1 q2=>hch.hp.Fg _ _ _ _ _ (hl q1) (hl q2)⟩,hch.Bg,hch.tc,hch.size,hch.fr,hch.NK,hch.Zr,fun id sb b q1 q2 q3=>?_,fun id sb q1=>hch.old id sb (hl q1)⟩ h.nx h.lim h.afO
 rcases hch.keep id sb b q1 q2 q3 with q|⟨sb',q4,q5⟩
 ·exact .inl q
 ·refine .inr ⟨sb',?_,q5⟩
  show zI (dropKey p c'.hp) id=ak sb';rw[J7];cases hi:p id<;>simp only[cond_true,cond_false]
  ·exact q4
  ·have:=hf id (hp id hi).1 (hp id hi).2
   have q6:=FI q3;simp_all [bk]
theorem Tm(hC:Az P C)(hF:AU P C){run:Bool->Nat->List It->Core->Tree Out}(hr:aaI P C K run):Gu P C K (LV C (run ay)):=by
 intro H E w c g args Es φ hd hh hw hf hg h;unfold LV at h;split at h
 ·exact h.elim
 ·rename_i fn hfn
  cases hb:(gJ args.length fn.ntmps&&fn.body.isSome)<;>simp only[hb,cond_true,cond_false] at h
  ·exact h.elim
  simp only[aG] at hb;obtain ⟨body,hbody⟩:=eF.1 hb.2;have hP:=hC.fn g fn hfn;refine ⟨hF.en g (.inr (by rw[hfn];rfl)),fun cs=>?_⟩;let b:Frame:={(default:Frame) with fn:=g,kind:=.normal}
  let a:Act:={tmps:=Es.toArray++dN (fn.ntmps - Es.toArray.size) undef,defers:=[]}
  have henter:fM P g Es.toArray .normal=b.at a [.code body]:=by
   grind [fM,Frame.at]
  have hlen:=hd.length;have st:St C K H E w {tm:=args++dL (fn.ntmps - args.length) .any,hp:=c.hp,nx:=c.nx,lim:=c.lim,tc:=c.tc} a:=by
   refine ⟨?_,hh,hw,hf,hg,rfl⟩;have:a.tmps.toList=Es++dL (fn.ntmps - args.length) undef:=by simp[a,hlen]
   rw[this];exact hd.append (qj _ _ (by simp))
  have hit:BA (zS fn) [.code []] [.code body]:=by
   have:=BA.code (body:=zS fn) [] BA.nil;simp_all [Ai,zS]
  obtain ⟨out,h1,h2⟩:=hr ay g [.code []] _ H E w a fn [.code body] _ hfn (dX h) st hit b cs;cases out with
  |stop _ _ _=>exact h1.elim |done sv c'=>
   obtain ⟨a',w',H',E',v,todo,q1,q2,q3,q4,q5⟩:=h2;refine ⟨.returned v,w',_,⟨_,v,H',E',rfl,h1,q4,?_⟩,by rw[henter];exact q1,rfl,rfl,q2.defers,rfl,fn,hP,q5⟩;have q3':=q3.to (d:=c) (d':={c' with tm:=c.tm}) rfl rfl rfl rfl rfl rfl rfl rfl
   have q6:=q3'.gc hf (p:=fun i=>gJ c.nx i&&fF i c.lim && !(reach c'.hp 4000 (refs sv++Ld c'.hp c'.tc) []).contains i) (fun i hi=>by simp_all);exact q6
theorem alJ:aaI P C K (run C 0):=fun _ _ _ _ H E w a _ items _ _ h st hi _ _=>
 ⟨_,h,rfl,a,w,H,E,items,.refl _ _,st,Ih st rfl rfl rfl rfl,hi⟩
theorem alK(hC:Az P C)(hF:AU P C){n:Nat}(ih:aaI P C K (run C n)):aaI P C K (run C (n+1)):=by
 intro top g td c H E w a fn items φ hfn h st hi b cs;have hK:=Tm hC hF ih;unfold run at h;rw[hfn] at h;simp only at h;obtain ⟨sig,h1,h2⟩:=XP hC hF hK (dX h) st hi b cs;cases sig with
 |go Fj c'=>
  obtain ⟨a',w',H',E',items',q1,q2,q3,q4⟩:=h2;obtain ⟨out,q5,q6⟩:=ih top g _ _ _ _ _ _ fn _ φ hfn h1 q2 q4 b cs;exact ⟨out,q5,q6.of q1 q3⟩
 |done sv c'=>exact ⟨_,h1,h2⟩ |halt Fj c'=>exact ⟨_,h1,rfl,h2⟩
theorem Tn(hC:Az P C)(hF:AU P C):∀n,aaI P C K (run C n)
 |0=>alJ |n+1=>alK hC hF (Tn hC hF n)
end
mutual
def ac9:SV->List Nat
 | .agg l=>UN l | .zQ l=>UN l | .fn _ l=>Jc l | .BM _ x=>ah8 x | .ptr id _=>[id] |_=>[]
def UN:List SV->List Nat
 |[]=>[] |x::r=>ac9 x++UN r
end
def Wq(hp:List (Nat×SB))(id:Nat):Option (Nat×Nat×Nat×(Nat->List Sh)):=
 match zI hp id with
 |some (.own e st n g)=>ak (e,st,n,g) |some (.row cells e st n)=>bif EG cells then (G8 hp cells).map fun l=>(e,st,n,Af (chunks st n l)) else aK |_=>aK
mutual
def Iz(hp:List (Nat×SB)):SV->List Nat
 | .agg l=>Ws hp l | .zQ l=>Ws hp l | .gs id=>match zI hp id with
  |some (.fz _ _ _)=>[] |_=>[id]
 |_=>[]
def Ws(hp:List (Nat×SB)):List SV->List Nat
 |[]=>[] |x::r=>Iz hp x++Ws hp r
end
mutual
def IB(hp:List (Nat×SB)):SV->Option Sh
 | .agg l=>(Tq hp l).map .agg | .zQ l=>(Tq hp l).map .zQ | .gs id=>match zI hp id with
  |some (.fz st n g)=>ak (.sl st n g) |_=>(Wq hp id).map fun r=>.os r.1 r.2.1 r.2.2.1 r.2.2.2
 |x=>Di hp x
def Tq(hp:List (Nat×SB)):List SV->Option (List Sh)
 |[]=>ak [] |x::r=>match IB hp x,Tq hp r with
  |some s,ak l=>ak (s::l) |_,_=>aK
end
def JI:List Nat->Bool
 |[]=>aC |x::l=>!l.contains x&&JI l
def anD(hp:List (Nat×SB)):List Nat->List Nat
 |[]=>[] |id::r=>(match zI hp id with
  |some (.row cells _ _ _)=>Jc cells |_=>[])++anD hp r
def finish(c:Core)(v:SV):Option Sh:=
 match freeze c.hp (ac9 v++anD c.hp (Iz c.hp v)) with
 |some hp=>bif JI (Iz hp v) then IB hp v else aK |none=>aK
section
variable{P:Program}{C:Ctx}{K:Kx}{H H' Oo:Mem}{E E' Oq E1:Env}{w w' w'':World}
theorem aaJ:∀{l:List Nat} {i j x:Nat},JI l=aC->l[i]?=ak x->l[j]?=ak x->i=j
 |[],_,_,_,_,h,_=>by simp at h |y::l,0,0,_,_,_,_=>rfl |y::l,0,j+1,x,h,h1,h2=>by
  grind [JI]
 |y::l,i+1,0,x,h,h1,h2=>by
  grind [JI]
 |y::l,i+1,j+1,x,h,h1,h2=>by
  simp only[JI,aG] at h;have e:=aaJ (l:=l) (i:=i) (j:=j) (x:=x) h.2 (by grind) (by grind);rw[e]
theorem aaK{hp:List (Nat×SB)}{id:Nat}{r:Nat×Nat×Nat×(Nat->List Sh)}(hh:zU K H E w hp)(h:Wq hp id=ak r):
  FH K H E w id (.own r.1 r.2.1 r.2.2.1 r.2.2.2)/\∃sb,zI hp id=ak sb/\∀b,bk E id=ak b->Ag E id sb=ak b:=by
 unfold Wq at h;split at h
 ·rename_i e st n g hl
  cases h;exact ⟨hh.ent _ _ hl,_,hl,fun b hb=>hb⟩
 ·rename_i cells e st n hl
  cases ho:EG cells<;>simp only[ho,cond_true,cond_false] at h
  ·cases h
  simp only[bM] at h;obtain ⟨l,h1,rfl⟩:=h;obtain ⟨v,xs,e1,e2,e3,e4⟩:=hh.ent _ _ hl;exact ⟨⟨v,xs,e1,e2,Jf e2.1 (DK hh h1 e3) (Ep ho e3),e4⟩,_,hl,fun b hb=>hb⟩
 ·cases h
def asW(K:Kx)(H:Mem)(E:Env)(w:World)(hp:List (Nat×SB))(id:Nat)(x:SB):Prop:=
 FH K H E w id x/\(∃e st n g,x=.own e st n g)/\∃sb,zI hp id=ak sb/\∀b,bk E id=ak b->Ag E id sb=ak b
mutual
theorem XQ:∀{s:Sh} {u:Value} (b0:Nat),Rep H s u->Den H E1 (BP s b0).1 u/\(BP s b0).2.2=b0/\(BP s b0).2.1=[]
 | .i k n,_,b0,h=>by cases h;exact ⟨rfl,rfl,rfl⟩ | .b y,_,b0,h=>by cases h;exact ⟨rfl,rfl,rfl⟩ | .v y,_,b0,h=>by cases h with|v _ h1=>exact ⟨afB h1,rfl,rfl⟩
 | .str l,_,b0,h=>⟨h,rfl,rfl⟩ | .sl _ _ _,_,b0,h=>⟨h,rfl,rfl⟩ | .BM _ _,_,b0,h=>⟨h,rfl,rfl⟩ | .fn _ _,_,b0,h=>⟨Uw h,rfl,rfl⟩ | .er _ _,_,b0,h=>⟨h,rfl,rfl⟩ | .pt _,_,b0,h=>⟨Uw h,rfl,rfl⟩ | .os _ _ _ _,_,b0,h=>by cases h | .agg l,u,b0,h=>by
  cases h with
  |agg _ vs h1 h2=>
   have:=UO (l:=l) (vs:=vs.toList) b0 (yK (by omega) fun j s v e1 e2=>h2 j s v e1 (by grind));exact ⟨⟨vs,rfl,this.1⟩,this.2.1,this.2.2⟩
 | .zQ l,u,b0,h=>by
  cases h with
  |zQ _ vs h1 h2=>
   have:=UO (l:=l) (vs:=vs.toList) b0 (yK (by omega) fun j s v e1 e2=>h2 j s v e1 (by grind));exact ⟨⟨vs,rfl,this.1⟩,this.2.1,this.2.2⟩
theorem UO:∀{l:List Sh} {vs:List Value} (b0:Nat),CU H l vs->zO H E1 (DU l b0).1 vs/\(DU l b0).2.2=b0/\(DU l b0).2.1=[]
 |[],[],b0,_=>⟨trivial,rfl,rfl⟩ |s::l,v::vs,b0,⟨h1,h2⟩=>by
  have a:=XQ b0 h1;have b:=UO b0 h2;simp only[DU,a.2.1,a.2.2,List.nil_append];exact ⟨⟨a.1,b.1⟩,b.2⟩
 |[],_::_,_,h=>h.elim |_::_,[],_,h=>h.elim
end
def Knows(E E1:Env)(b0:Nat)(ids:List Nat):Prop:=∀k id,ids[k]?=ak id->E1 (b0+k)=E id
theorem Knows.left{b0:Nat}{l l':List Nat}(h:Knows E E1 b0 (l++l')):Knows E E1 b0 l:=fun k id hk=>h k id (by
 grind)
theorem Knows.right{b0:Nat}{l l':List Nat}(h:Knows E E1 b0 (l++l')):Knows E E1 (b0+l.length) l':=fun k id hk=>by
 rw[Nat.add_assoc];exact h (l.length+k) id (by grind)
structure KI(K:Kx)(H:Mem)(E E1:Env)(w:World)(hp:List (Nat×SB))(ids:List Nat)(b0 n:Nat)(l:List (Nat×SB)):Prop where
 len:n=b0+ids.length
 mem:∀i x,(i,x)∈l->∃k id,i=b0+k/\ids[k]?=ak id/\asW K H E w hp id x
 cov:∀id∈ids,∃sb,zI hp id=ak sb/\∀b,bk E id=ak b->Ag E id sb=ak b
theorem KI.nil{hp:List (Nat×SB)}{b0:Nat}:KI K H E E1 w hp [] b0 b0 []:=⟨rfl,fun _ _ h=>(by cases h),fun _ h=>(by cases h)⟩
theorem KI.app{hp:List (Nat×SB)}{b0 n m:Nat}{i1 i2:List Nat}{l1 l2:List (Nat×SB)}(h1:KI K H E E1 w hp i1 b0 n l1)(h2:KI K H E E1 w hp i2 n m l2):KI K H E E1 w hp (i1++i2) b0 m (l1++l2):=by
 refine ⟨by rw[h2.len,h1.len,List.length_append];omega,fun i x hx=>?_,fun id hid=>(cZ.1 hid).elim (h1.cov id) (h2.cov id)⟩;rcases cZ.1 hx with hx|hx
 ·obtain ⟨k,id,e1,e2,e3⟩:=h1.mem i x hx
  exact ⟨k,id,e1,by grind,e3⟩
 ·obtain ⟨k,id,e1,e2,e3⟩:=h2.mem i x hx
  exact ⟨i1.length+k,id,by rw[e1,h1.len];omega,by grind,e3⟩
mutual
theorem ada{hp:List (Nat×SB)}(hh:zU K H E w hp):∀{x:SV} {s:Sh} {u:Value} (b0:Nat),IB hp x=ak s->Den H E x u->Knows E E1 b0 (Iz hp x)->
  Den H E1 (BP s b0).1 u/\KI K H E E1 w hp (Iz hp x) b0 (BP s b0).2.2 (BP s b0).2.1
 | .agg l,s,u,b0,h,hd,hk=>by
  simp only[IB,bM] at h;obtain ⟨l',h1,rfl⟩:=h;obtain ⟨vs,rfl,hl⟩:=hd;have:=UQ hh b0 h1 hl (by assumption);exact ⟨⟨vs,rfl,this.1⟩,by simp_all [Iz,BP]⟩
 | .zQ l,s,u,b0,h,hd,hk=>by
  simp only[IB,bM] at h;obtain ⟨l',h1,rfl⟩:=h;obtain ⟨vs,rfl,hl⟩:=hd;have:=UQ hh b0 h1 hl (by assumption);exact ⟨⟨vs,rfl,this.1⟩,by simp_all [Iz,BP]⟩
 | .gs id,s,u,b0,h,hd,hk=>by
  simp only[IB] at h;split at h
  ·rename_i st n g hl
   cases h;obtain ⟨v,he,hr⟩:=hh.ent _ _ hl;rw[hd.1] at he;grind [Iz,XQ,KI.nil]
  ·rename_i hne
   simp only[bM] at h;obtain ⟨r,h1,rfl⟩:=h;have hi:Iz hp (.gs id)=[id]:=by
    simp only[Iz]
   rw[hi] at hk ⊢;have hE1:E1 b0=E id:=by simpa using hk 0 id rfl
   obtain ⟨a1,a2⟩:=aaK hh h1;refine ⟨⟨by rw[hE1];exact hd.1,hd.2⟩,⟨by simp[BP],fun i x hx=>?_,fun i hi=>?_⟩⟩;rotate_left
   ·simp_all
   simp[BP] at hx;obtain ⟨rfl,rfl⟩:=hx;exact ⟨0,id,rfl,rfl,a1,⟨_,_,_,_,rfl⟩,a2⟩
 | .any,s,u,b0,h,hd,hk=>by simp[IB,Di] at h | .val _,s,u,b0,h,hd,hk=>DL hh b0 h (by rfl) (by rfl) hd | .int _ _,s,u,b0,h,hd,hk=>DL hh b0 h (by rfl) (by rfl) hd | .sym _ _,s,u,b0,h,hd,hk=>DL hh b0 h (by rfl) (by rfl) hd | .bool _,s,u,b0,h,hd,hk=>DL hh b0 h (by rfl) (by rfl) hd | .test _,s,u,b0,h,hd,hk=>DL hh b0 h (by rfl) (by rfl) hd | .str _,s,u,b0,h,hd,hk=>DL hh b0 h (by rfl) (by rfl) hd | .ptr _ _,s,u,b0,h,hd,hk=>DL hh b0 h (by rfl) (by rfl) hd | .gp _ _ _ _,s,u,b0,h,hd,hk=>by simp[IB,Di] at h | .Ei,s,u,b0,h,hd,hk=>DL hh b0 h (by rfl) (by rfl) hd | .zY,s,u,b0,h,hd,hk=>DL hh b0 h (by rfl) (by rfl) hd | .FM,s,u,b0,h,hd,hk=>DL hh b0 h (by rfl) (by rfl) hd | .CS,s,u,b0,h,hd,hk=>DL hh b0 h (by rfl) (by rfl) hd | .EU,s,u,b0,h,hd,hk=>by simp[IB,Di] at h | .fn _ _,s,u,b0,h,hd,hk=>DL hh b0 h (by rfl) (by rfl) hd | .BM _ _,s,u,b0,h,hd,hk=>DL hh b0 h (by rfl) (by rfl) hd | .mp _,s,u,b0,h,hd,hk=>by simp[IB,Di] at h | .sh _,s,u,b0,h,hd,hk=>DL hh b0 h (by rfl) (by rfl) hd | .Gh _ _ _ _ _,s,u,b0,h,hd,hk=>DL hh b0 h (by rfl) (by rfl) hd | .ev _,s,u,b0,h,hd,hk=>by simp[IB,Di] at h | .vw _ _,s,u,b0,h,hd,hk=>by simp[IB,Di] at h | .glob _,s,u,b0,h,hd,hk=>by simp[IB,Di] at h
theorem UQ{hp:List (Nat×SB)}(hh:zU K H E w hp):∀{l:List SV} {l':List Sh} {vs:List Value} (b0:Nat),Tq hp l=ak l'->zO H E l vs->Knows E E1 b0 (Ws hp l)->
  zO H E1 (DU l' b0).1 vs/\KI K H E E1 w hp (Ws hp l) b0 (DU l' b0).2.2 (DU l' b0).2.1
 |[],l',[],b0,h,_,_=>by simp[Tq] at h;subst h;exact ⟨trivial,KI.nil⟩ |x::l,l',v::vs,b0,h,⟨h1,h2⟩,hk=>by
  simp only[Tq] at h;split at h
  ·rename_i s r e1 e2
   cases h;have a:=ada hh b0 e1 h1 hk.left;have hk2:=hk.right;rw[<-a.2.len] at hk2;have b:=UQ hh _ e2 h2 hk2;simp only[DU];exact ⟨⟨a.1,b.1⟩,a.2.app b.2⟩
  ·cases h
 |[],_,_::_,_,_,h,_=>h.elim |_::_,_,[],_,_,h,_=>h.elim
theorem DL{hp:List (Nat×SB)}(hh:zU K H E w hp){x:SV}{s:Sh}{u:Value}(b0:Nat)(h:IB hp x=ak s)(hx:IB hp x=Di hp x)(hi:Iz hp x=[])(hd:Den H E x u):
  Den H E1 (BP s b0).1 u/\KI K H E E1 w hp (Iz hp x) b0 (BP s b0).2.2 (BP s b0).2.1:=by
 grind [XQ,LZ,KI.nil]
end
theorem adb:∀{l hp:List (Nat×SB)} {i:Nat} {x:SB},zI (CJ hp l) i=ak x->(i,x)∈l\/zI hp i=ak x
 |[],_,_,_,h=>.inr h |(j,b)::l,hp,i,x,h=>by
  rcases adb (l:=l) h with h|h
  ·simp_all
  grind [Ec]
def K0(H:Mem)(w:World):Kx:=⟨w,fun _=>False,H⟩
theorem P6{c:Core}{a:Act}{H0:Mem}{w0:World}{sv:SV}{s:Sh}{u:Value}(st:St C (K0 H0 w0) H E w c a)(hf:finish c sv=ak s)(hd:Den H E sv u):∃H',CV H0 w0 s u H' w:=by
 unfold finish at hf;split at hf
 ·rename_i hp hfz
  obtain ⟨H1,hH,hh,hw,_⟩:=MN hfz st.hp st.Bg;cases hn:JI (Iz hp sv)<;>simp only[hn,cond_true,cond_false] at hf
  ·cases hf
  refine ⟨H1,hw.le,hw.on,hw.os,hw.tape,hw.output,hw.size,fun b hb=>hw.kept b hb id,fun b hb=>?_,fun b0=>?_⟩
  ·rcases hw.fresh b hb with h|h|h
   ·exact .inl h
   ·exact .inr h
   ·exact h.elim
  ·let ids:=Iz hp sv
   let E1:Env:=fun i=>if b0<=i then (ids[i - b0]?).bind E else aK
   have hk:Knows E E1 b0 ids:=fun k id hk=>by
    grind
   obtain ⟨a1,a2⟩:=ada (E1:=E1) hh b0 hf (hd.le hH fun _ _ e=>e) hk;have hid:∀i v,E1 i=ak v->∃k id,i=b0+k/\ids[k]?=ak id/\E id=ak v:=fun i v hv=>by
    grind
   have hat:∀i x,zI (CJ [] (BP s b0).2.1) i=ak x->∃k id,i=b0+k/\ids[k]?=ak id/\asW (K0 H0 w0) H1 E w hp id x:=fun i x hl=>by
    rcases adb hl with h|h
    ·exact a2.mem i x h
    ·simp[zI] at h
   have hbk:∀{k id:Nat},ids[k]?=ak id->bk E1 (b0+k)=bk E id:=fun {k id} h=>by grind [bk]
   refine ⟨E1,fun i hi=>?_,fun i b hb=>?_,a1,⟨fun i x hl=>?_,fun i j x y b h1 h2 o1 o2=>?_⟩⟩
   ·cases hv:E1 i with
    |none=>simp_all |some v=>
     obtain ⟨k,id,rfl,h2,_⟩:=hid i v hv;have:k<(Iz hp sv).length:=(List.getElem?_eq_some_iff.1 h2).1;rw[a2.len];omega
   ·cases hv:E1 i with
    |none=>grind [bk] |some v=>
     obtain ⟨k,id,rfl,h2,h3⟩:=hid i v hv;rw[hbk h2] at hb;have hown:∃sb,zI hp id=ak sb/\Ag E id sb=ak b:=by
      obtain ⟨sb,q1,q2⟩:=a2.cov id (List.mem_of_getElem? h2);simp_all
     obtain ⟨sb,h4,h5⟩:=hown;have:=((hh.ent _ _ h4).lt h5).2.2;rcases this with h|h
     ·exact h
     ·exact h.elim
   ·obtain ⟨k,id,rfl,h2,h3,⟨e,st',n,g,rfl⟩,_⟩:=hat i x hl
    obtain ⟨v,xs,e1,e2,e3,e4⟩:=h3;exact ⟨v,xs,by grind,e2,e3,e4⟩
   ·obtain ⟨k,id,rfl,p1,_,⟨_,_,_,_,rfl⟩,sb1,p3,p4⟩:=hat i x h1
    obtain ⟨k',id',rfl,q1,_,⟨_,_,_,_,rfl⟩,V9,q3,q4⟩:=hat j y h2;have o1':bk E id=ak b:=by rw[<-hbk p1];exact o1
    have o2':bk E id'=ak b:=by rw[<-hbk q1];exact o2
    have:=hh.Fg _ _ _ _ _ p3 q3 (p4 b o1') (q4 b o2');grind [aaJ]
 ·cases hf
end
inductive Fin where
 |ret (s:Sh)
 |stop (td:List It) (c:Core)
def fin:Out->Tree Fin
 | .done sv c=>match finish c sv with
  |some s=>.leaf (.ret s) |none=>.fail
 | .stop _ td c=>.leaf (.stop td c)
def Bv(C:Ctx)(n g:Nat)(td:List It)(c:Core):Tree Fin:=(run C n aC g td c).bind fin
def zL(m:Nat)(Aq:List Sh)(L:Nat):Core:={tm:=QD Aq++dL (m - Aq.length) .any,hp:=[],nx:=0,lim:=L,tc:=[]}
section
variable{P:Program}{C:Ctx}{K:Kx}{H H' Oo H0:Mem}{E E' Oq E1:Env}{w w' w'' w0:World}
def Goes(P:Program)(C:Ctx)(K:Kx)(fn:Func)(td:List It)(c:Core)(φ:Sh->Prop):Prop:=
 ∀(H:Mem) (E:Env) (w:World) (a:Act) (items:List Item) (b:Frame) (cs:List Frame),St C K H E w c a->BA (zS fn) td items->
  ∃(a':Act) (w':World) (v:Value) (s:Sh) (H':Mem) (todo:List Item),Steps P (lone (b.at a items) cs w) (lone {b.at a' todo with mode:=.returning} cs w')/\a'.defers=[]/\φ s/\CV K.H0 K.w0 s v H' w'/\(results fn a'.tmps).run P w'=.ok v w'
def Bc(P:Program)(C:Ctx)(K:Kx)(fn:Func)(φ:Sh->Prop):Fin->Prop
 | .ret s=>φ s | .stop td c=>Goes P C K fn td c φ
theorem alL(hC:Az P C)(hF:AU P C){n g:Nat}{fn:Func}{td:List It}{c:Core}{φ:Sh->Prop}(hfn:C.fns.get g=ak fn)(h:(Bv C n g td c).All (Bc P C (K0 H0 w0) fn φ)):
  Goes P C (K0 H0 w0) fn td c φ:=by
 intro H E w a items b cs st hi;obtain ⟨out,h1,h2⟩:=Tn hC hF n aC g td c H E w a fn items _ hfn (dX h) st hi b cs;cases out with
 |done sv c'=>
  obtain ⟨a',w',H',E',v,todo,q1,q2,q3,q4,q5⟩:=h2;simp only[fin] at h1;split at h1
  ·rename_i s hs
   obtain ⟨H2,r⟩:=P6 q2 hs q4;exact ⟨a',w',v,s,H2,todo,q1,q2.defers,h1,r,q5⟩
  ·exact h1.elim
 |stop g' Fj c'=>
  obtain ⟨rfl,a',w',H',E',items',q1,q2,q3,q4⟩:=h2;obtain ⟨a2,w2,v,s,H2,todo,r1,r2⟩:=h1 H' E' w' a' items' b cs q2 q4;exact ⟨a2,w2,v,s,H2,todo,q1.trans r1,r2⟩
theorem anE(hC:Az P C){g:Nat}{fn:Func}{F:List Sh->Tree Sh}(hfn:C.fns.get g=ak fn)(hb:fn.body.isSome=aC)
  (h:∀(H:Mem) (w:World) (Aq:List Sh) (args:List Value) (φ:Sh->Prop),CU H Aq args->(F Aq).All φ->∃C9:List Sh,CU H C9 args/\∃L,Goes P C (K0 H w) fn [.code []] (zL fn.ntmps C9 L) φ):zZ P C.gls g F:=by
 intro H w Aq args φ hon hg hr hφ;obtain ⟨C9,hr,L,hgo⟩:=h H w Aq args φ hr hφ;obtain ⟨body,hbody⟩:=eF.1 hb;have hP:=hC.fn g fn hfn;intro cs;let b:Frame:={(default:Frame) with fn:=g,kind:=.normal}
 let a:Act:={tmps:=args.toArray++dN (fn.ntmps - args.toArray.size) undef,defers:=[]}
 have henter:fM P g args.toArray .normal=b.at a [.code body]:=by
  grind [fM,Frame.at]
 have hlen:=hr.length;have st:St C (K0 H w) H E0 w (zL fn.ntmps C9 L) a:=by
  refine ⟨?_,⟨fun _ _ h=>by simp[zL,zI] at h,fun _ _ _ _ _ h=>by simp[zL,zI] at h⟩,⟨rfl,rfl,rfl,Nat.le_refl _,fun _ _ _=>rfl,hon,fun _ _ h=>h,fun _ h=>.inl h⟩,fun _ _ _=>rfl,hg,rfl⟩;have:a.tmps.toList=args++dL (fn.ntmps - C9.length) undef:=by simp[a,hlen]
  rw[this];exact (IW hr).append (qj _ _ (by simp))
 have hit:BA (zS fn) [.code []] [.code body]:=by
  have:=BA.code (body:=zS fn) [] BA.nil;simp_all [Ai,zS]
 obtain ⟨a',w',v,s,H',todo,q1,q2,q3,q4,q5⟩:=hgo H E0 w a [.code body] b cs st hit;exact ⟨.returned v,w',_,⟨v,s,H',rfl,q3,q4⟩,by rw[henter];exact q1,rfl,rfl,q2,rfl,fn,hP,q5⟩
theorem GL(hC:Az P C)(hF:AU P C){g n L:Nat}{fn:Func}{F:List Sh->Tree Sh}(hfn:C.fns.get g=ak fn)(hb:fn.body.isSome=aC)
  (h:∀(H:Mem) (w:World) (Aq:List Sh) (args:List Value) (φ:Sh->Prop),CU H Aq args->(F Aq).All φ->∃C9:List Sh,CU H C9 args/\(Bv C n g [.code []] (zL fn.ntmps C9 L)).All (Bc P C (K0 H w) fn φ)):zZ P C.gls g F:=
 anE hC hfn hb fun H w Aq args φ h1 h2=>let ⟨C9,h3,h4⟩:=h H w Aq args φ h1 h2;⟨C9,h3,L,alL hC hF hfn h4⟩
theorem zZ.mono{gls:List (Nat×Sh)}{f:Nat}{F F':List Sh->Tree Sh}(h:zZ P gls f F')(hp:∀(H:Mem) (Aq:List Sh) (args:List Value) (φ:Sh->Prop),CU H Aq args->(F Aq).All φ->(F' Aq).All φ):zZ P gls f F:=
 fun H w Aq args φ h1 h2 h3 h4=>h H w Aq args φ h1 h2 h3 (hp H Aq args φ h3 h4)
end
inductive Rn where
 |id (i:Nat)
 |nil
mutual
def Ej(hp:List (Nat×SB))(ρ:List (Nat×Rn)):SV->SV->Prop
 |_,.any=>True |x,.sym k m=>match x with
  | .int k' n=>k'=k/\n=m | .sym k' n=>k'=k/\n=m |_=>False
 |x,.test b=>match x with
  | .bool b'=>b'=b | .test b'=>b'=b |_=>False
 |x,.gs id'=>match x with
  | .gs id=>zI ρ id'=ak (.id id) | .zY=>zI ρ id'=ak .nil |_=>False
 |x,.ptr id' off'=>match x with
  | .ptr id off=>zI ρ id'=ak (.id id)/\off=off' |_=>False
 |x,.mp id'=>match x with
  | .mp id=>zI ρ id'=ak (.id id) |_=>False
 |x,.fn f' l'=>match x with
  | .fn f l=>f=f'/\leL hp ρ l l' |_=>False
 |x,.agg l'=>match x with
  | .agg l=>leL hp ρ l l' |_=>False
 |x,.zQ l'=>match x with
  | .zQ l=>leL hp ρ l l' |_=>False
 |x,.BM t' y=>match x with
  | .BM t z=>t=t'/\Ej hp ρ z y |_=>False
 |x,.sh s=>Di hp x=ak s\/(match x,s with| .zY,.sl _ n _=>n=0|_,_=>False)
 |x,.Gh st' n' g' i' off'=>match x with
  | .Gh st n g i off=>st=st'/\n=n'/\g=g'/\i=i'/\off=off' |x=>Di hp x=ak (.pt (g' i'))/\off'=0/\(g' i').length=st'/\i'<n'
 |x,.int k' n'=>match x with
  | .int k n=>k=k'/\n=n' | .sym k n=>k=k'/\n=n' |_=>False
 |x,.bool b'=>match x with
  | .bool b=>b=b' | .test b=>b=b' |_=>False
 | .Ei,.Ei=>True | .zY,.zY=>True | .FM,.FM=>True | .CS,.CS=>True | .EU,.EU=>True | .glob g,.glob g'=>g=g' | .str l,.str l'=>l=l' | .val v,.val v'=>v=v' |_,_=>False
def leL(hp:List (Nat×SB))(ρ:List (Nat×Rn)):List SV->List SV->Prop
 |[],[]=>True |x::l,y::l'=>Ej hp ρ x y/\leL hp ρ l l' |_,_=>False
end
def leM(hp:List (Nat×SB))(ρ:List (Nat×Rn)):List (SV×SV)->List (SV×SV)->Prop
 |[],[]=>True |(a,b)::l,(a',b')::l'=>Ej hp ρ a a'/\Ej hp ρ b b'/\leM hp ρ l l' |_,_=>False
def valOf:SV->Option Value
 | .int k n=>ak (.int k n) | .sym k n=>ak (.int k n) | .bool b=>ak (.bool b) | .test b=>ak (.bool b) |_=>aK
end Go.Sx
namespace Go.Pl
open Go Go.Sx
def KU(n:CZ)(o:Option Value)(N:CZ->Option Value):CZ->Option Value:=fun j=>if j=n then o else N j
end Go.Pl
namespace Go.Sx
open Go.Pl (KU)
def aaM(M:CZ->Option Value):List (CZ×Bool×SV)->Option (CZ->Option Value)
 |[]=>ak M |(n,p,sv)::r=>match aaM M r with
  |some N=>match p with
   |true=>(valOf sv).map fun v=>KU n (ak v) N |false=>ak (KU n aK N)
  |none=>aK
theorem alM{H:Mem}{E:Env}{sv:SV}{v x:Value}(h:valOf sv=ak v)(hd:Den H E sv x):x=v:=by
 unfold valOf at h;split at h;all_goals first|cases h
 all_goals exact hd
theorem agf{H:Mem}{E:Env}{M:CZ->Option Value}:∀{us:List (CZ×Bool×SV)} {uv:List (CZ×Option Value)} {N:CZ->Option Value},aaM M us=ak N->VO H E us uv->Q7 M uv=N
 |[],[],N,h,_=>by cases h;rfl |[],_::_,_,_,h=>h.elim |_::_,[],_,_,h=>h.elim |(n,p,sv)::r,(m,o)::uv,N,h,⟨e,hd,hr⟩=>by
  subst e;simp only[aaM] at h;split at h
  ·rename_i N' hN
   have ih:=agf hN hr;cases p with
   |true=>
    cases o with
    |none=>exact hd.elim |some x=>
     simp only at h;cases hv:valOf sv with
     |none=>simp_all |some v=>
      rw[hv] at h;cases h;rw[alM hv hd.1];show (fun j=>if j=m then ak v else Q7 M uv j)=_;rw[ih];rfl
   |false=>
    cases o with
    |some x=>exact hd.elim |none=>
     cases h;show (fun j=>if j=m then aK else Q7 M uv j)=_;rw[ih];rfl
  ·cases h
theorem ade{vt:VT}{M:CZ->Option Value}(hM:akg vt M):∀{us:List (CZ×Bool×SV)} {N:CZ->Option Value},am9 vt us->aaM M us=ak N->akg vt N
 |[],N,_,h=>by cases h;exact hM |(n,p,sv)::r,N,hL,h=>by
  simp only[aaM] at h;split at h
  ·rename_i N' hN
   have ih:=ade hM (fun u hu=>hL u (dF _ hu)) hN;cases p with
   |true=>
    simp only at h;cases hv:valOf sv with
    |none=>simp_all |some v=>
     rw[hv] at h;cases h;have ht:sv.acW vt=aC:=hL (n,aC,sv) dK rfl;intro k x hx;have hx:(if k=n then ak v else N' k)=ak x:=hx;split at hx
     ·cases hx
      cases sv<;>cases vt<;>simp[SV.acW] at ht<;>(unfold valOf at hv;cases hv)
      all_goals first|exact ⟨_,rfl⟩ |skip
      all_goals (rename_i kk _;cases kk<;>simp at ht;exact ⟨_,rfl⟩)
     ·exact ih k x hx
   |false=>
    cases h;intro k x hx;have hx:(if k=n then aK else N' k)=ak x:=hx;split at hx
    ·cases hx
    ·exact ih k x hx
  ·cases h
def leB(hp:List (Nat×SB))(ρ:List (Nat×Rn))(id':Nat):SB->Prop
 | .box cells' e'=>match zI ρ id' with
  |some (.id id)=>match zI hp id with
   |some (.box cells e)=>e=e'/\leL hp ρ cells cells' |_=>False
  |_=>False
 | .row cells' e' st' n'=>match zI ρ id' with
  |some (.id id)=>match zI hp id with
   |some (.row cells e st n)=>e=e'/\st=st'/\n=n'/\leL hp ρ cells cells' |_=>False
  |_=>False
 | .own e' st' n' g'=>match zI ρ id' with
  |some (.id id)=>match Wq hp id with
   |some (e,st,n,g)=>e=e'/\st=st'/\n=n'/\∀i,i<n->g i=g' i |_=>False
  |some .nil=>n'=0 |none=>False
 | .map es'=>match zI ρ id' with
  |some (.id id)=>match zI hp id with
   |some (.map es)=>leM hp ρ es es' |_=>False
  |_=>False
 | .fz _ _ _=>False | .QN _=>False | .FY _ _ _ _ _=>False | .fm _ _ _ _ _=>False | .pm vt' M' us'=>match zI ρ id' with
  |some (.id id)=>match zI hp id with
   |some (.pm vt M us)=>us'=[]/\vt=vt'/\aaM M us=ak M' |_=>False
  |_=>False
 | .buf e' l'=>match zI ρ id' with
  |some (.id id)=>match zI hp id with
   |some (.buf e l)=>e=e'/\l=l' |_=>False
  |_=>False
def leH(hp:List (Nat×SB))(ρ:List (Nat×Rn)):List (Nat×SB)->Prop
 |[]=>True |(id',sb)::l=>leB hp ρ id' sb/\leH hp ρ l
def KJ:List (Nat×Rn)->List Nat
 |[]=>[] |(_,.id i)::l=>i::KJ l |_::l=>KJ l
def akm(nx:Nat):List (Nat×Rn)->Bool
 |[]=>aC |(j,_)::l=>fF j nx&&akm nx l
def anG(nx:Nat)(ρ:List (Nat×Rn)):Bool:=JI (KJ ρ)&&akm nx ρ
def leC(ρ:List (Nat×Rn))(c c':Core):Prop:=leL c.hp ρ c.tm c'.tm/\leH c.hp ρ c'.hp/\anG c'.nx ρ=aC
section
variable{P:Program}{C:Ctx}{K:Kx}{H H' Oo H0:Mem}{E E' Oq E1:Env}{w w' w'' w0:World}{hp:List (Nat×SB)}{ρ:List (Nat×Rn)}
def ER(ρ:List (Nat×Rn))(E:Env):Env:=fun i'=>match zI ρ i' with
 |some (.id i)=>E i |some .nil=>ak (.slice aK 0 0) |none=>aK
theorem CP{i i':Nat}(h:zI ρ i'=ak (.id i)):ER ρ E i'=E i:=by simp[ER,h]
theorem UR{i':Nat}(h:zI ρ i'=ak .nil):ER ρ E i'=ak (.slice aK 0 0):=by simp[ER,h]
mutual
theorem Rl(hh:zU K H E w hp):∀{x:SV} (y:SV) {u:Value},Ej hp ρ x y->Den H E x u->Den H (ER ρ E) y u
 |x,.any,u,_,_=>trivial |x,.sym k m,u,h,hd=>by
  cases x<;>simp only[Ej] at h
  all_goals first|exact h.elim|(obtain ⟨rfl,rfl⟩:=h;exact hd)
 |x,.test b,u,h,hd=>by
  cases x<;>simp only[Ej] at h
  all_goals first|exact h.elim|(subst h;exact hd)
 |x,.gs id',u,h,hd=>by
  cases x<;>simp only[Ej] at h
  case gs id=>exact ⟨by rw[CP h];exact hd.1,hd.2⟩
  case zY=>obtain rfl:u=_:=hd;exact ⟨UR h,_,_,_,rfl⟩
 |x,.ptr id' off',u,h,hd=>by
  cases x<;>simp only[Ej] at h
  case ptr id off=>obtain ⟨h,rfl⟩:=h;obtain ⟨b,h1,h2⟩:=hd;exact ⟨b,by grind [CP],h2⟩
 |x,.mp id',u,h,hd=>by
  cases x<;>simp only[Ej] at h
  case mp id=>obtain ⟨b,h1,h2⟩:=hd;exact ⟨b,by grind [CP],h2⟩
 |x,.fn f' l',u,h,hd=>by
  cases x<;>simp only[Ej] at h
  case fn f l=>obtain ⟨rfl,h⟩:=h;obtain ⟨vs,rfl,hl⟩:=hd;exact ⟨vs,rfl,Ii hh l' h hl⟩
 |x,.agg l',u,h,hd=>by
  cases x<;>simp only[Ej] at h
  case agg l=>obtain ⟨vs,rfl,hl⟩:=hd;exact ⟨vs,rfl,Ii hh l' h hl⟩
 |x,.zQ l',u,h,hd=>by
  cases x<;>simp only[Ej] at h
  case zQ l=>obtain ⟨vs,rfl,hl⟩:=hd;exact ⟨vs,rfl,Ii hh l' h hl⟩
 |x,.BM t' y,u,h,hd=>by
  cases x<;>simp only[Ej] at h
  case BM t z=>obtain ⟨rfl,h⟩:=h;obtain ⟨v,rfl,hl⟩:=hd;exact ⟨v,rfl,Rl hh y h hl⟩
 |x,.sh s,u,h,hd=>by
  have key:Di hp x=ak s\/(x=.zY/\∃st g,s=.sl st 0 g):=by
   unfold Ej at h;grind
  rcases key with h|⟨rfl,st,g,rfl⟩
  ·exact LZ hh h hd
  ·obtain rfl:u=_:=hd
   exact .sl0 _ _ _ _ (Nat.zero_le _)
 |x,.int k n,u,h,hd=>by
  cases x<;>simp only[Ej] at h
  case int k' n'=>obtain ⟨rfl,rfl⟩:=h;exact hd
  case sym k' n'=>obtain ⟨rfl,rfl⟩:=h;exact hd
 |x,.bool b,u,h,hd=>by
  cases x<;>simp only[Ej] at h
  case bool b'=>subst h;exact hd
  case test b'=>subst h;exact hd
 |x,.Ei,u,h,hd=>by
  cases x<;>simp only[Ej] at h
  assumption
 |x,.zY,u,h,hd=>by
  cases x<;>simp only[Ej] at h
  assumption
 |x,.FM,u,h,hd=>by
  cases x<;>simp only[Ej] at h
  assumption
 |x,.CS,u,h,hd=>by
  cases x<;>simp only[Ej] at h
  assumption
 |x,.EU,u,h,hd=>by
  cases x<;>simp only[Ej] at h
  assumption
 |x,.glob g,u,h,hd=>by
  cases x<;>simp only[Ej] at h
  case glob g'=>subst h;exact hd
 |x,.str l,u,h,hd=>by
  cases x<;>simp only[Ej] at h
  case str l'=>subst h;exact hd
 |x,.val v,u,h,hd=>by
  cases x<;>simp only[Ej] at h
  case val v'=>subst h;exact hd
 |x,.Gh st n g i off,u,h,hd=>by
  have key:(∃st' n' g' i' off',x=.Gh st' n' g' i' off'/\st'=st/\n'=n/\g'=g/\i'=i/\off'=off)\/(Di hp x=ak (.pt (g i))/\off=0/\(g i).length=st/\i<n):=by
   (cases x<;>simp only[Ej] at h)<;>grind
  rcases key with ⟨_,_,_,_,_,rfl,rfl,rfl,rfl,rfl,rfl⟩ |⟨h9,rfl,h2,h3⟩
  ·exact hd
  ·have hr:=LZ hh h9 hd
   cases hr with
   |pt _ b off2 c a1 a2 a3=>exact ⟨b,off2,c,rfl,h3,h2,fun j hj=>⟨a1 j (by omega),a2 j (by omega)⟩,a3⟩
 |x,.gp id st i off,u,h,hd=>by
  simp_all [Ej]
 |x,.ev id,u,h,hd=>by
  simp_all [Ej]
 |x,.vw id n,u,h,hd=>by
  simp_all [Ej]
theorem Ii(hh:zU K H E w hp):∀{l:List SV} (l':List SV) {vs:List Value},leL hp ρ l l'->zO H E l vs->zO H (ER ρ E) l' vs
 |[],[],[],_,_=>trivial |_::_,y::l',_::_,⟨h1,h2⟩,⟨d1,d2⟩=>⟨Rl hh y h1 d1,Ii hh l' h2 d2⟩ |[],_::_,_,h,_=>h.elim |_::_,[],_,h,_=>h.elim |_::_,_::_,[],_,hd=>hd.elim |[],[],_::_,_,hd=>hd.elim
end
theorem agh(hh:zU K H E w hp):∀{l l':List (SV×SV)} {ms:List MapEntry},leM hp ρ l l'->NH H E l ms->NH H (ER ρ E) l' ms
 |[],[],[],_,_=>trivial |(_,_)::_,(a,b)::_,_::_,⟨h1,h2,h3⟩,⟨d1,d2,d3⟩=>⟨Rl hh a h1 d1,Rl hh b h2 d2,agh hh h3 d3⟩ |[],_::_,_,h,_=>h.elim |(_,_)::_,[],_,h,_=>h.elim |(_,_)::_,(_,_)::_,[],_,hd=>hd.elim |[],[],_::_,_,hd=>hd.elim
theorem Ro{st n:Nat}{g g':Nat->List Sh}{xs:List Value}(h:Bq H st n g xs)(hg:∀i,i<n->g i=g' i):Bq H st n g' xs:=
 ⟨h.1,fun i hi=>by rw[<-hg i hi];exact h.2.1 i hi,h.2.2.1,fun i j s v hi e1 e2=>h.2.2.2 i j s v hi (by simp_all) e2⟩
theorem Wu(hh:zU K H E w hp){id':Nat}{sb:SB}(h:leB hp ρ id' sb):FH K H (ER ρ E) w id' sb/\∀b,Ag (ER ρ E) id' sb=ak b->∃id s0,zI ρ id'=ak (.id id)/\zI hp id=ak s0/\Ag E id s0=ak b:=by
 cases sb with
 |box cells' e'=>
  simp only[leB] at h;split at h
  ·rename_i id hr
   split at h
   ·rename_i cells e hl
    obtain ⟨rfl,h⟩:=h;obtain ⟨b,cs,h1,h2,h3,h4⟩:=hh.ent _ _ hl;refine ⟨⟨b,cs,by grind [CP],h2,Ii hh _ h h3,h4⟩,fun b' hb=>⟨id,_,hr,hl,?_⟩⟩;simp_all [Ag,CP]
   grind
  grind
 |row cells' e' st' n'=>
  simp only[leB] at h;split at h
  ·rename_i id hr
   split at h
   ·rename_i cells e st n hl
    obtain ⟨rfl,rfl,rfl,h⟩:=h;obtain ⟨v,xs,h1,h2,h3,h4⟩:=hh.ent _ _ hl;refine ⟨⟨v,xs,by grind [CP],h2,Ii hh _ h h3,h4⟩,fun b' hb=>⟨id,_,hr,hl,?_⟩⟩;simp_all [Ag,CP]
   grind
  grind
 |own e' st' n' g'=>
  simp only[leB] at h;split at h
  ·rename_i id hr
   split at h
   ·rename_i e st n g hl
    obtain ⟨rfl,rfl,rfl,h⟩:=h;obtain ⟨⟨v,xs,h1,h2,h3,h4⟩,sb0,h5,h6⟩:=aaK hh hl;refine ⟨⟨v,xs,by grind [CP],h2,Ro h3 h,h4⟩,fun b' hb=>⟨id,_,hr,h5,h6 b' ?_⟩⟩;simp only[Ag,CP hr] at hb;exact hb
   grind
  ·rename_i hr
   subst h;refine ⟨⟨_,[],UR hr,OY _ _ _,JG _ _,fun b hb=>by simp[zT] at hb⟩,fun b hb=>?_⟩;grind [Ag,UR,zT]
  grind
 |map es'=>
  simp only[leB] at h;split at h
  ·rename_i id hr
   split at h
   ·rename_i es hl
    obtain ⟨b,ms,clk,h1,h2,h3,h4⟩:=hh.ent _ _ hl;refine ⟨⟨b,ms,clk,by grind [CP],h2,agh hh h h3,h4⟩,fun b' hb=>⟨id,_,hr,hl,?_⟩⟩;simp_all [Ag,CP]
   grind
  grind
 |fz st n g=>exact h.elim |QN l=>exact h.elim |FY e st n g m=>exact h.elim |fm k M fs us t=>exact h.elim |pm vt' M' us'=>
  simp only[leB] at h;split at h
  ·rename_i id hr
   split at h
   ·rename_i vt M us hl
    obtain ⟨rfl,rfl,h1⟩:=h;obtain ⟨b,ms,clk,uv,he,q1,d2,hT,hL,hok,h4⟩:=hh.ent _ _ hl;refine ⟨⟨b,ms,clk,[],by grind [CP],q1,trivial,ade hT hL h1,(fun _ h=>by cases h),?_,h4⟩,fun b' hb=>⟨id,_,hr,hl,?_⟩⟩
    ·have:=agf h1 d2
     rw[this] at hok;exact hok
    simp_all [Ag,CP]
   grind
  grind
 |buf e l=>
  simp only[leB] at h;split at h
  ·rename_i id hr
   split at h
   ·rename_i e1 l1 hl
    obtain ⟨rfl,rfl⟩:=h;obtain ⟨v,he,h1,h3⟩:=hh.ent _ _ hl;refine ⟨⟨v,by grind [CP],h1,h3⟩,fun b hb=>⟨id,_,hr,hl,?_⟩⟩;simp_all [Ag,CP]
   grind
  grind
theorem Wv:∀{l:List (Nat×SB)} {i:Nat} {sb:SB},leH hp ρ l->zI l i=ak sb->leB hp ρ i sb
 |[],_,_,_,h=>by simp[zI] at h |(j,x)::l,i,sb,⟨h1,h2⟩,h=>by
  simp only[zI] at h;cases hj:(j==i)<;>simp only[hj,cond_true,cond_false] at h
  ·exact Wv h2 h
  simp_all
theorem agi{nx:Nat}:∀{ρ:List (Nat×Rn)} {i:Nat} {r:Rn},akm nx ρ=aC->zI ρ i=ak r->i<nx
 |[],_,_,_,h=>by simp[zI] at h |(j,x)::l,i,r,hu,h=>by
  simp only[akm,aG] at hu;simp only[zI] at h;cases hj:(j==i)<;>simp only[hj,cond_true,cond_false] at h
  ·exact agi hu.2 h
  simp_all
theorem UU:∀{ρ:List (Nat×Rn)} {i k:Nat},zI ρ i=ak (.id k)->k∈KJ ρ
 |[],_,_,h=>by simp[zI] at h |(j,x)::l,i,k,h=>by
  simp only[zI] at h;cases hj:(j==i)<;>simp only[hj,cond_true,cond_false] at h
  ·have:=UU h
   cases x<;>simp[KJ,this]
  simp_all [KJ]
theorem aez:∀{ρ:List (Nat×Rn)} {i j k:Nat},JI (KJ ρ)=aC->zI ρ i=ak (.id k)->zI ρ j=ak (.id k)->i=j
 |[],_,_,_,_,h,_=>by simp[zI] at h |(m,x)::l,i,j,k,hn,h1,h2=>by
  simp only[zI] at h1 h2;have tail:JI (KJ l)=aC:=by
   cases x with
   |id a=>simp_all [KJ,JI,aG] |nil=>exact hn
  have head:∀a,x=.id a->a∈KJ l->False:=fun a hx ha=>by
   simp_all [KJ,JI]
  cases hi:(m==i)<;>cases hj:(m==j)<;>simp only[hi,hj,cond_true,cond_false] at h1 h2
  ·exact aez tail h1 h2
  ·grind [UU]
  ·grind [UU]
  simp_all
theorem St.weak{c c':Core}{a:Act}(st:St C K H E w c a)(h:leC ρ c c'):St C K H (ER ρ E) w c' a:=by
 obtain ⟨h1,h2,h3⟩:=h;simp only[anG,aG] at h3;refine ⟨Ii st.hp _ h1 st.den,⟨fun id sb hl=>(Wu st.hp (Wv h2 hl)).1,fun id id' sb sb' b l1 l2 o1 o2=>?_⟩,st.Bg,fun i hi _=>?_,st.gl,st.defers⟩
 ·obtain ⟨i1,s1,a1,a2,a3⟩:=(Wu st.hp (Wv h2 l1)).2 b o1
  obtain ⟨i2,s2,b1,b2,b3⟩:=(Wu st.hp (Wv h2 l2)).2 b o2;have:=st.hp.Fg _ _ _ _ _ a2 b2 a3 b3;grind [aez]
 ·unfold ER
  cases hr:zI ρ i with
  |none=>rfl |some r=>have:=agi h3.2 hr;omega
end
def anI:SV->Value->Bool
 | .int k n,.int k' m=>k==k'&&n==m | .bool b,.bool c=>b==c | .str [],.string s=>s.data.toList.isEmpty | .Ei,.pointer aK=>aC | .zY,.slice aK 0 0=>aC | .FM,.nilFunc=>aC | .CS,.nilIface=>aC | .EU,.map aK=>aC |_,_=>ay
def XR:List SV->List Value->Bool
 |[],[]=>aC |x::l,v::vs=>anI x v&&XR l vs |_,_=>ay
def fieldsB(P:Program):List Field->List (Nat×Nat×Bool)->Bool
 |[],[]=>aC |f::r,p::q=>f.offset==p.1&&(match P.info? f.type with|some inf=>inf.size==p.2.1|none=>ay) &&
   (match P.underlying f.type with|some (.struct _)=>p.2.2|some (.array _ _)=>p.2.2|some _=>!p.2.2|none=>ay)&&fieldsB P r q
 |_,_=>ay
def aiK(P:Program)(t:Nat):Ty->Bool
 | .int k=>match P.underlying t with|some (.int k')=>k==k' |_=>ay
 | .bool=>match P.underlying t with|some .bool=>aC|_=>ay
 | .str=>match P.underlying t with|some .string=>aC|_=>ay
 | .ptr e=>match P.underlying t with|some (.pointer e')=>e==e' |_=>ay
 | .fn=>match P.underlying t with|some (.func _ _ _)=>aC|_=>ay
 | .iface=>match P.underlying t with|some (.interface _)=>aC|_=>ay
 | .map k e=>match P.underlying t with|some (.map k' e')=>k==k'&&e==e' |_=>ay
 | .slice e=>match P.underlying t with|some (.slice e')=>e==e' |_=>ay
 | .struct fs=>match P.underlying t with|some (.struct fields)=>fieldsB P fields.toList fs|_=>ay
 | .arr n e=>match P.underlying t with|some (.array n' e')=>n==n'&&e==e' |_=>ay
 | .other=>ay
def aiL(agg:Bool)(size:Nat):Value->Bool
 | .agg _=>agg |v=>!agg&&size==1&&v.oneCell'
def tyB(P:Program)(t:Nat)(i:Jt):Bool:=
 aiK P t i.ty&&match P.info? t with
  |some inf=>inf.size==i.size&&inf.bytes==i.bytes&&match inf.zero with
   |some z=>XR i.zero z.cells.toList&&z.cells.size==i.size&&aiL i.ty.isAgg i.size z |none=>ay
  |none=>ay
def asX(P:Program)(t:BT Jt):Bool:=t.allB (tyB P)
theorem anJ{x:SV}{v:Value}(h:anI x v=aC){H:Mem}{E:Env}:Den H E x v:=by
 unfold anI at h;split at h
 ·simp only[aG,beq_iff_eq] at h
  obtain ⟨rfl,rfl⟩:=h;rfl
 ·simp only[beq_iff_eq] at h
  subst h;rfl
 ·rename_i s
  have:s.data.toList=[]:=by simpa using h
  obtain ⟨⟨l⟩⟩:=s;simp at this;subst this;rfl
 all_goals first|rfl|cases h
theorem adf{H:Mem}{E:Env}:∀{l:List SV} {vs:List Value},XR l vs=aC->zO H E l vs
 |[],[],_=>trivial |x::l,v::vs,h=>by
  simp only[XR,aG] at h;exact ⟨anJ h.1,adf h.2⟩
 |[],_::_,h=>by simp[XR] at h |_::_,[],h=>by simp[XR] at h
theorem YW{P:Program}:∀{fields:List Field} {fs:List (Nat×Nat×Bool)},fieldsB P fields fs=aC->fields.length=fs.length/\∀(j:Nat) (f:Field),fields[j]?=ak f->∃inf:TypeInfo,P.info? f.type=ak inf/\
  fs[j]?=ak (f.offset,inf.size,match P.underlying f.type with|some (.struct _) |some (.array _ _)=>aC|_=>ay)/\(P.underlying f.type).isSome=aC
 |[],[],_=>⟨rfl,fun _ _ h=>by simp at h⟩ |f::r,p::q,h=>by
  simp only[fieldsB,aG,beq_iff_eq] at h;obtain ⟨⟨⟨h1,h2⟩,h3⟩,h4⟩:=h;obtain ⟨h5,h6⟩:=YW h4;grind
 |[],_::_,h=>by simp[fieldsB] at h |_::_,[],h=>by simp[fieldsB] at h
theorem alN{P:Program}{t:Nat}{ty:Ty}(h:aiK P t ty=aC):aeh P t ty:=by
 unfold aiK at h;cases ty;case other=>cases h
 case arr=>simp only at h;split at h;rename_i hu;simp only[aG,beq_iff_eq] at h;obtain ⟨rfl,rfl⟩:=h;exact hu;cases h
 case int=>simp only at h;split at h;rename_i hu;simp only[beq_iff_eq] at h;subst h;exact hu;cases h
 case bool=>simp only at h;split at h;rename_i hu;exact hu;cases h
 case str=>simp only at h;split at h;rename_i hu;exact hu;cases h
 case ptr=>simp only at h;split at h;rename_i hu;simp only[beq_iff_eq] at h;subst h;exact hu;cases h
 case fn=>simp only at h;split at h;rename_i hu;exact ⟨_,_,_,hu⟩;cases h
 case iface=>simp only at h;split at h;rename_i hu;exact ⟨_,hu⟩;cases h
 case map=>simp only at h;split at h;rename_i hu;simp only[aG,beq_iff_eq] at h;obtain ⟨rfl,rfl⟩:=h;exact hu;cases h
 case slice=>simp only at h;split at h;rename_i hu;simp only[beq_iff_eq] at h;subst h;exact hu;cases h
 case struct=>
  simp only at h;split at h
  ·rename_i fields hu
   have:=YW h;exact ⟨fields,hu,by simp_all,fun j f hj=>this.2 j f (by grind)⟩
  ·cases h
theorem arD{P:Program}{t:Nat}{i:Jt}(h:tyB P t i=aC):NI P t i:=by
 unfold tyB at h;simp only[aG] at h;obtain ⟨h1,h2⟩:=h;refine ⟨alN h1,?_⟩;split at h2
 ·rename_i inf hi
  simp only[aG,beq_iff_eq] at h2;obtain ⟨⟨a1,a2⟩,h3⟩:=h2;split at h3
  ·rename_i z hz
   simp only[aG,beq_iff_eq] at h3;obtain ⟨⟨b1,b2⟩,b3⟩:=h3;refine ⟨inf,z,hi,a1,a2,hz,adf b1,b2,fun ha=>?_,fun ha=>?_⟩
   ·unfold aiL at b3
    grind
   ·unfold aiL at b3
    grind
  ·cases h3
 ·cases h2
theorem aaN{P:Program}{l:BT Jt}(h:asX P l=aC)(t:Nat)(i:Jt)(hl:l.get t=ak i):NI P t i:=arD ((yT h).get hl)
def aeA(P:Program)(l:BT Func):Prop:=l.All fun g fn=>P.funcs[g]?=ak fn
theorem P7{P:Program}{l:BT Func}(h:aeA P l)(g:Nat)(fn:Func)(hl:l.get g=ak fn):P.funcs[g]?=ak fn:=BT.All.get h hl
def agj(l:BT Func):Bool:=l.allB fun _ fn=>fn.body.isSome && !(fn.name == "runtime.NumGoroutine")
theorem F7{P:Program}{l:BT Func}(h:aeA P l)(he:agj l=aC)(g:Nat)(hl:(l.get g).isSome=aC):∃fn,P.funcs[g]?=ak fn/\fn.body.isSome=aC/\fn.name≠ "runtime.NumGoroutine" :=by
 obtain ⟨fn,hf⟩:=eF.1 hl;have h1:=(yT he).get hf;grind [P7]
end Go.Sx
