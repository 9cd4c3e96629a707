/- Own work. -/
import Derived.Test.YthehnhaoiijkhaaGreatDoorL03
open Int (ofNat)
open Array renaming getElem?_eq_some_iff->bH,getElem?_toList->dX,replicate->dY
open Bool renaming true->aC,and_eq_true->aI,not_eq_true'->fH,false->ay
open Go.Act renaming put->uH
open Go.Calls renaming mono->nH
open Go.Deferred renaming ofValue->jL
open Go.Frame renaming finish_at->mG,enter->gQ
open Go.Oper renaming wp->xP,upon->xq
open Go.Region renaming wanted->jB,free->lg,noSelect->uI,ready->kS
open Go.Result renaming andThen_ok->gy
open Go.Sem renaming run_bind->gK,run_pure->pI
open Go.Sx.AA renaming any->rY
open Go.Sx.Env renaming set_self->fB
open Go.Sx.BK renaming all->dI
open Go.Sx.Post renaming refl->pz
open Go.Sx.DX renaming OJ->zC
open Go.stepG renaming apply->gX
open List renaming mem_append->bI,length_append->bC,getElem?_eq_some_iff->aV,append_assoc->dV,getElem?_append_left->dN,getElem?_append_right->fF,getD_eq_getElem?_getD->aX,ext_getElem?->lM,getElem?_set_self->rD,getElem?_set_ne->rX,mem_cons_of_mem->dA,mem_cons_self->bZ,countP_cons->uX,range->aZ,mem_range->dh,mapM_cons->wR,replicate->dU,mem_of_getElem?->bT
open Nat renaming le_trans->iM,le_refl->dn,ble->iq,le_of_ble_eq_true->gq,mul_le_mul_right->dR,add_mul->gI,one_mul->iK,le_add_right->jf,blt->fV,beq->fC,lt_or_ge->pG,add_le_add_left->tK,mul_le_mul_left->kW
open Option renaming none->aK,some->ak,map_eq_some_iff->bW,bind_some->eU,isSome_iff_exists->fP
open Prod.mk renaming injEq->jW
namespace Go.Sx
theorem Tree.DZ{α β:Type}{φ:β->Prop}{k:α->Tree β}:∀{t:Tree α},(t.bind k).All φ->t.All fun a=>(k a).All φ
 | .leaf _,h=>h | .node _ _ _,h=>⟨fun e=>Tree.DZ (h.1 e),fun e=>Tree.DZ (h.2 e)⟩ | .need _ _,h=>⟨h.1,Tree.DZ h.2⟩ | .must _ _,h=>⟨h.1,Tree.DZ h.2⟩ | .both _ _,h=>⟨Tree.DZ h.1,Tree.DZ h.2⟩ | .fail,h=>h.elim
theorem Tree.All.mono{α:Type}{φ ψ:α->Prop}(h:∀a,φ a->ψ a):∀{t:Tree α},t.All φ->t.All ψ
 | .leaf _,hh=>h _ hh | .node _ _ _,hh=>⟨fun e=>(hh.1 e).mono h,fun e=>(hh.2 e).mono h⟩ | .need _ _,hh=>⟨hh.1,hh.2.mono h⟩ | .must _ _,hh=>⟨hh.1,hh.2.mono h⟩ | .both _ _,hh=>⟨hh.1.mono h,hh.2.mono h⟩ | .fail,hh=>hh.elim
section
variable{P:Program}{C:Ctx}{K:Kx}{H H' OQ:Mem}{E E' OT:Env}{w w' w'':World}
def Mv(K:Kx)(H:Mem)(E:Env)(w:World)(c:Core)(H':Mem)(E':Env)(w':World)(c':Core):Prop:=Post K H E w c H' E' w' {c' with tm:=c.tm}
theorem Post.mv{c c':Core}(h:Post K H E w c H' E' w' c'):Mv K H E w c H' E' w' c':=by
 have:=h.tm;unfold Mv;rw[<-this];exact h
theorem Mv.to{c c' d d':Core}(h:Mv K H E w c H' E' w' c')(h1:d.hp=c.hp)(h2:d.nx=c.nx)(h3:d.lim=c.lim)(h4:d.tc=c.tc)(h1':d'.hp=c'.hp)(h2':d'.nx=c'.nx)(h3':d'.lim=c'.lim)(h4':d'.tc=c'.tc):Mv K H E w d H' E' w' d':=by
 obtain ⟨t,hp,nx,lim,tc⟩:=c;obtain ⟨t',hp',nx',lim',tc'⟩:=c';obtain ⟨t1,hp1,nx1,aza,tc1⟩:=d;obtain ⟨t2,hp2,nx2,azb,X0⟩:=d';simp only at h1 h2 h3 h4 h1' h2' h3' h4';subst h1 h2 h3 h4 h1' h2' h3' h4';exact ⟨h.IX,h.ML,h.new,h.nx,h.lim,h.afT,rfl,h.hp,h.BZ,h.tc,h.size,h.fr,h.Om,h.ZR,h.keep,h.old⟩
structure Ch(K:Kx)(H:Mem)(E:Env)(w:World)(q:List (Nat×SB))(u:List Nat)(H':Mem)(E':Env)(w':World)(q':List (Nat×SB))(u':List Nat)(New:Nat->Prop):Prop where
 IX:H.le H'
 ML:E.le E'
 new:∀i,E i=aK->E' i≠aK->New i
 hp:AO K H' E' w' q'
 BZ:Eh K H' w'
 tc:∀id∈u,id∈u'
 size:w.heap.size<=w'.heap.size
 fr:∀b,b<w.heap.size->(∀id∈u',bk E id≠ak b)->w'.heap[b]?=w.heap[b]?
 Om:∀i b,E i=aK->bk E' i=ak b->w.heap.size<=b\/∃id∈u',bk E id=ak b
 ZR:∀id∈u',id∈u\/E id=aK\/∃sb,Ak q id=ak sb/\Bd E id sb=bk E id
 keep:∀id sb b,Ak q id=ak sb->id ∉ u'->Bd E id sb=ak b->H' b≠aK\/∃sb',Ak q' id=ak sb'/\Bd E' id sb'=ak b
 old:∀id sb,Ak q' id=ak sb->E id≠aK->∃sb0,Ak q id=ak sb0/\∀b,Bd E' id sb=ak b->Bd E id sb0=ak b
theorem Mv.ch{c c':Core}(h:Mv K H E w c H' E' w' c'):Ch K H E w c.hp c.tc H' E' w' c'.hp c'.tc (fun i=>c.nx<=i/\i<c'.nx):=
 ⟨h.IX,h.ML,h.new,h.hp,h.BZ,h.tc,h.size,h.fr,h.Om,h.ZR,h.keep,h.old⟩
theorem Ch.mv{c c':Core}(h:Ch K H E w c.hp c.tc H' E' w' c'.hp c'.tc (fun i=>c.nx<=i/\i<c'.nx))(h1:c.nx<=c'.nx)(h2:c'.nx<=c.lim\/c'.nx=c.nx)(h3:c'.lim=c.lim):Mv K H E w c H' E' w' c':=
 ⟨h.IX,h.ML,h.new,h1,h2,h3,rfl,h.hp,h.BZ,h.tc,h.size,h.fr,h.Om,h.ZR,h.keep,h.old⟩
theorem Ch.mono{hp hp':List (Nat×SB)}{tc tc':List Nat}{N N':Nat->Prop}(h:Ch K H E w hp tc H' E' w' hp' tc' N)(hN:∀i,N i->N' i):Ch K H E w hp tc H' E' w' hp' tc' N':=
 {h with new:=fun i h1 h2=>hN i (h.new i h1 h2)}
theorem Ch.add{hp hp':List (Nat×SB)}{tc':List Nat}{N:Nat->Prop}(h:Ch K H E w hp [] H' E' w' hp' tc' N)(t:List Nat):Ch K H E w hp t H' E' w' hp' (tc'++t) N:=
 {h with
  tc:=fun id hid=>bI.2 (.inr hid)
  fr:=fun b hb hne=>h.fr b hb fun id hid=>hne id (bI.2 (.inl hid))
  Om:=fun i b h1 h2=>(h.Om i b h1 h2).imp (fun h=>h) fun ⟨id,h3,h4⟩=>⟨id,bI.2 (.inl h3),h4⟩
  ZR:=fun id hid=>by
   rcases bI.1 hid with h1|h1
   ·rcases h.ZR id h1 with h2|h2
    ·cases h2
    ·exact .inr h2
   ·exact .inl h1
  keep:=fun id sb b h1 h2 h3=>h.keep id sb b h1 (fun h4=>h2 (bI.2 (.inl h4))) h3}
theorem Ch.trans{hp hp1 hp2:List (Nat×SB)}{tc tc1 X0:List Nat}{N:Nat->Prop}(h1:Ch K H E w hp tc H' E' w' hp1 tc1 N)(h2:Ch K H' E' w' hp1 tc1 OQ OT w'' hp2 X0 N):Ch K H E w hp tc OQ OT w'' hp2 X0 N:=by
 have tc1:=h1.tc;have X0:=h2.tc;have noneE:∀{i:Nat},E' i=aK->E i=aK:=fun {i} h=>by
  cases he:E i with
  |none=>rfl |some v=>rw[h1.ML _ _ he] at h;cases h
 have bkE:∀{i b:Nat},E i≠aK->bk E' i=ak b->bk E i=ak b:=fun {i b} hne h=>by
  cases he:E i with
  |none=>exact (hne he).elim |some v=>simp only[bk,h1.ML _ _ he] at h;simpa[bk,he] using h
 refine ⟨fun b o h=>h2.IX b o (h1.IX b o h),fun i v h=>h2.ML i v (h1.ML i v h),fun i e1 e2=>?_,h2.hp,h2.BZ,fun id h=>X0 id (tc1 id h),iM h1.size h2.size,
  fun b hb hne=>?_,fun i b e1 e2=>?_,fun id hid=>?_,fun id sb b hl hn ho=>?_,fun id sb hl hne=>?_⟩
 ·cases he:E' i with
  |none=>exact h2.new i he e2 |some v=>exact h1.new i e1 (by rw[he];simp)
 ·rw[h2.fr b (by have:=h1.size;omega) fun id hid e=>?_]
  ·exact h1.fr b hb fun id hid=>hne id (X0 id hid)
  ·cases he:E id with
   |none=>
    rcases h1.Om id b he e with h|⟨id',h3,h4⟩
    ·omega
    ·exact hne id' (X0 id' h3) h4
   |some v=>exact hne id hid (bkE (by rw[he];simp) e)
 ·cases he:E' i with
  |none=>
   rcases h2.Om i b he e2 with h|⟨id',h3,h4⟩
   ·exact .inl (by have:=h1.size;omega)
   ·cases he2:E id' with
    |none=>
     rcases h1.Om id' b he2 h4 with h|⟨id2,h5,h6⟩
     ·exact .inl h
     ·exact .inr ⟨id2,X0 _ h5,h6⟩
    |some v=>exact .inr ⟨id',h3,bkE (by rw[he2];simp) h4⟩
  |some v=>
   have e3:bk E' i=ak b:=by simp only[bk,h2.ML _ _ he] at e2;simpa[bk,he] using e2
   rcases h1.Om i b e1 e3 with h|⟨id2,h5,h6⟩
   ·exact .inl h
   ·exact .inr ⟨id2,X0 _ h5,h6⟩
 ·rcases h2.ZR id hid with h|h|⟨sb,h3,h4⟩
  ·exact h1.ZR id h
  ·exact .inr (.inl (noneE h))
  ·cases he:E id with
   |none=>exact .inr (.inl rfl) |some v=>
    obtain ⟨sb0,h5,h6⟩:=h1.old id sb h3 (by rw[he];simp);refine .inr (.inr ⟨sb0,h5,?_⟩);have e':bk E' id=bk E id:=by simp[bk,he,h1.ML _ _ he]
    rw[e'] at h4;cases hb:bk E id with
    |some b=>exact h6 b (by rw[h4,hb]) |none=>
     cases ho:Bd E id sb0 with
     |none=>rfl |some b=>rw[<-hb];rw[GL ho]
 ·rcases h1.keep id sb b hl (fun h=>hn (X0 id h)) ho with h|⟨sb',h3,h4⟩
  ·cases hb:H' b with
   |none=>exact (h hb).elim |some o=>exact .inl (by rw[h2.IX b o hb];simp)
  ·exact h2.keep id sb' b h3 hn h4
 ·have hne':E' id≠aK:=fun h=>hne (noneE h)
  obtain ⟨sb1,h3,h4⟩:=h2.old id sb hl hne';obtain ⟨sb0,h5,h6⟩:=h1.old id sb1 h3 hne;exact ⟨sb0,h5,fun b hb=>h6 b (h4 b hb)⟩
theorem Mv.trans{c c1 c2:Core}(h1:Mv K H E w c H' E' w' c1)(h2:Mv K H' E' w' c1 OQ OT w'' c2):Mv K H E w c OQ OT w'' c2:=by
 have hnx1:c.nx<=c1.nx:=h1.nx;have hnx2:c1.nx<=c2.nx:=h2.nx;have axI:c1.lim=c.lim:=h1.afT;have axJ:c2.lim=c1.lim:=h2.afT;have hl1:c1.nx<=c.lim\/c1.nx=c.nx:=h1.lim;have hl2:c2.nx<=c1.lim\/c2.nx=c1.nx:=h2.lim;exact ((h1.ch.mono fun i hi=>⟨hi.1,by omega⟩).trans (h2.ch.mono fun i hi=>⟨by omega,hi.2⟩)).mv (by omega) (by omega) (by omega)
theorem Mv.free{c c':Core}(h:Mv K H E w c H' E' w' c')(hf:Free E c):Free E' c':=by
 intro i h1 h2;have hn:c.nx<=c'.nx:=h.nx;have hl:c'.lim=c.lim:=h.afT;cases he:E' i with
 |none=>rfl |some v=>
  have:=h.new i (hf i (by omega) (by omega)) (by rw[he];simp);have h3:i<c'.nx:=this.2;omega
structure St(C:Ctx)(K:Kx)(H:Mem)(E:Env)(w:World)(c:Core)(a:Act):Prop where
 den:AA H E c.tm a.tmps.toList
 hp:AO K H E w c.hp
 BZ:Eh K H w
 free:Free E c
 gl:Dj C.gls H
 defers:a.defers=[]
structure Ew(H:Mem)(w:World)(s:Sh)(v:Value)(H':Mem)(w':World):Prop where
 IX:H.le H'
 on:H'.on w'
 os:w'.os=w.os
 tape:w'.tape=w.tape
 output:w'.output=w.output
 size:w.heap.size<=w'.heap.size
 old:∀b,b<w.heap.size->w'.heap[b]?=w.heap[b]?
 fresh:∀b,H' b≠aK->H b≠aK\/w.heap.size<=b
 res:∀b0:Nat,∃E1:Env,(∀i,E1 i≠aK->b0<=i/\i<(Dc s b0).2.2)/\(∀i b,bk E1 i=ak b->w.heap.size<=b)/\Den H' E1 (Dc s b0).1 v/\AO ⟨w,fun _=>False,H⟩ H' E1 w' (Dx [] (Dc s b0).2.1)
def AV(P:Program)(gls:List (Nat×Sh))(f:Nat)(F:List Sh->Tree Sh):Prop:=
 ∀(H:Mem) (w:World) (Bv:List Sh) (args:List Value) (φ:Sh->Prop),H.on w->Dj gls H->DX H Bv args->(F Bv).All φ->
  Calls P f args.toArray w fun e w'=>∃v s H',e=.returned v/\φ s/\Ew H w s v H' w'
def aaS(P:Program)(C:Ctx):Prop:=∀g F,C.spec g=ak F->AV P C.gls g F
theorem Gi:∀(l hp:List (Nat×SB)) (i:Nat),Ak (Dx hp l) i=match Ak (Dx [] l) i with|some x=>ak x|none=>Ak hp i
 |[],hp,i=>by simp[Dx,Ak] |(j,b)::l,hp,i=>by
  rw[Dx,Dx,Gi l (hins hp j b),Gi l (hins [] j b),ET,ET];cases Ak (Dx [] l) i with
  |some x=>rfl |none=>cases h:(j==i)<;>simp[Ak]
mutual
theorem aga:∀(s:Sh) (b:Nat),b<=(Dc s b).2.2
 | .os _ _ _ _,b=>by simp[Dc] | .agg l,b=>by simpa[Dc] using X3 l b | .AQ l,b=>by simpa[Dc] using X3 l b | .i _ _,b=>dn _ | .b _,b=>dn _ | .v _,b=>dn _ | .str _,b=>dn _ | .sl _ _ _,b=>dn _ | .C9 _ _,b=>dn _ | .fn _ _,b=>dn _ | .er _ _,b=>dn _ | .pt _,b=>dn _
theorem X3:∀(l:List Sh) (b:Nat),b<=(EC l b).2.2
 |[],b=>dn _ |x::r,b=>by simpa[EC] using iM (aga x b) (X3 r _)
end
theorem GI.world{K1:Kx}{id:Nat}{sb:SB}(h:GI K1 H E w id sb)(hE:E.le E')(hm:∀b,Mine K1 H b->Mine K H b):GI K H E' w id sb:=by
 cases sb with
 |box cells elem=>obtain ⟨b,cs,he,h1,h2,h3⟩:=h;exact ⟨b,cs,hE _ _ he,h1,h2.le (fun _ _ e=>e) hE,hm _ h3⟩ |row cells elem st n=>obtain ⟨v,xs,he,h1,h2,h3⟩:=h;exact ⟨v,xs,hE _ _ he,h1,h2.le (fun _ _ e=>e) hE,fun b hb=>hm _ (h3 b hb)⟩ |own elem st n g=>obtain ⟨v,xs,he,h1,h2,h3⟩:=h;exact ⟨v,xs,hE _ _ he,h1,h2,fun b hb=>hm _ (h3 b hb)⟩ |fz st n g=>obtain ⟨v,he,h1⟩:=h;exact ⟨v,hE _ _ he,h1⟩ |map es=>obtain ⟨b,ms,clk,he,h1,h2,h3⟩:=h;exact ⟨b,ms,clk,hE _ _ he,h1,h2.le (fun _ _ e=>e) hE,hm _ h3⟩ |Rw l=>obtain ⟨v,he,h1⟩:=h;exact ⟨v,hE _ _ he,h1⟩ |Hf elem st n g more=>obtain ⟨v,xs,ys,he,h1,h2,h3,h4,h5,h6⟩:=h;exact ⟨v,xs,ys,hE _ _ he,h1,h2,h3.le (fun _ _ e=>e) hE,h4,h5,fun b hb=>hm _ (h6 b hb)⟩ |fm k M fs us tag=>obtain ⟨b,ms,clk,fv,uv,he,h1,h2,h3,h4,h5,h6,h7⟩:=h;exact ⟨b,ms,clk,fv,uv,hE _ _ he,h1,h2.le (fun _ _ e=>e) hE,h3.le (fun _ _ e=>e) hE,h4,h5,h6.le hE,hm _ h7⟩ |pm vt M us=>obtain ⟨b,ms,clk,uv,he,h1,h2,h3,h4,h5,h7⟩:=h;exact ⟨b,ms,clk,uv,hE _ _ he,h1,h2.le (fun _ _ e=>e) hE,h3,h4,h5,hm _ h7⟩ |buf e l=>obtain ⟨v,he,h1,h3⟩:=h;exact ⟨v,hE _ _ he,h1,fun b hb=>hm _ (h3 b hb)⟩
def JU(P:Program)(K:Kx)(H:Mem)(E:Env)(w:World)(c:Core)(g:Nat)(Fz:List Value)(φ:SV×Core->Prop):Prop:=
 Calls P g Fz.toArray w fun e w'=>∃p v H' E',e=.returned v/\φ p/\Den H' E' p.1 v/\Post K H E w c H' E' w' p.2
theorem aiG(hS:aaS P C){c:Core}{g:Nat}{F:List Sh->Tree Sh}{args:List SV}{Fz:List Value}{φ:SV×Core->Prop}(hF:C.spec g=ak F)(hh:AO K H E w c.hp)(hw:Eh K H w)(hf:Free E c)
  (hg:Dj C.gls H) (hd:AA H E args Fz) (h:(spread c F args).All φ):JU P K H E w c g Fz φ:=by
 unfold spread at h;split at h
 ·exact h.elim
 ·rename_i hp hfz
  obtain ⟨H1,hH,hh1,hw1,hz⟩:=Nw hfz hh hw;split at h
  ·exact h.elim
  ·rename_i Bv hsh
   have hrep:=Ep hh1 hsh (hd.le hH fun _ _ e=>e);refine nH (hS g F hF H1 w Bv Fz _ hw1.on (hg.le hH) hrep (Tree.DZ h)) fun e w' ⟨v,s,H',he,hφ,r⟩=>?_;obtain ⟨E1,r1,r2,r3,r4⟩:=r.res c.nx;cases hb:iq (Dc s c.nx).2.2 c.lim<;>simp only[hb,cond_true,cond_false] at hφ
   ·exact hφ.elim
   have hb:=gq hb;have hge:=aga s c.nx;have aq7:∀i u,E i=ak u->E1 i=aK:=fun i u hu=>by
    cases h1:E1 i with
    |none=>rfl |some u'=>
     have:=r1 i (by rw[h1];simp);have:=hf i this.1 (by omega);rw[this] at hu;cases hu
   let E2:Env:=fun i=>match E1 i with|some u=>ak u|none=>E i
   have hE:E.le E2:=fun i u hu=>by simp[E2,aq7 i u hu,hu]
   have hE1:E1.le E2:=fun i u hu=>by simp[E2,hu]
   have conv:∀i,E i=aK->E2 i=E1 i:=fun i hi=>by simp only[E2,hi];cases E1 i<;>rfl
   have hold:∀{id:Nat} {sb:SB},GI K H1 E w id sb->GI K H' E2 w' id sb:=fun {id sb} hent=>
    hent.kept r.IX hE (fun b hb=>r.old b (hent.lt hb).1) fun b hb=>by
     cases hx:H' b with
     |none=>rfl |some o=>
      rcases r.fresh b (by rw[hx];simp) with h|h
      ·exact (h (hent.lt hb).2.1).elim
      ·have:=(hent.lt hb).1;omega
   have hnew:∀{id:Nat} {sb:SB},Ak (Dx [] (Dc s c.nx).2.1) id=ak sb->GI K H' E2 w' id sb/\(∀b,Bd E2 id sb=ak b->w.heap.size<=b/\Bd E1 id sb=ak b)/\E id=aK:=fun {id sb} hl=>by
    have hent:=r4.ent _ _ hl;refine ⟨hent.world hE1 fun b hm=>⟨hm.1,?_⟩,fun b ho=>?_,?_⟩
    ·rcases hm.2 with h|h
     ·exact .inl (iM hw.size h)
     ·exact h.elim
    ·rw[GN hent hE1] at ho
     exact ⟨r2 id b (GL ho),ho⟩
    ·obtain ⟨u,hu⟩:=hent.some_
     have:=r1 id (by rw[hu];simp);exact hf id this.1 (by omega)
   refine ⟨_,v,H',E2,he,hφ,r3.le (fun _ _ e=>e) hE1,fun b o h=>r.IX b o (hH b o h),hE,fun i h1 h2=>?_,hge,.inl hb,rfl,rfl,⟨fun id sb hl=>?_,fun id id' sb sb' b h1 h2 o1 o2=>?_⟩,
    ⟨r.os.trans hw.os,r.tape.trans hw.tape,r.output.trans hw.output,iM hw.size r.size,fun b hb hn=>?_,r.on,fun b o h=>r.IX b o (hw1.le b o h),fun b hb=>?_⟩,fun _ h=>h,r.size,fun b hb _=>r.old b hb,fun i b h1 h2=>?_,
    fun _ h=>.inl h,fun id sb b hl _ ho=>?_,fun id sb hl hne=>?_⟩
   ·rw[conv i h1] at h2
    exact r1 i h2
   ·have hl:Ak (Dx hp (Dc s c.nx).2.1) id=ak sb:=hl
    rw[Gi] at hl;split at hl
    ·rename_i x hx
     cases hl;exact (hnew hx).1
    ·exact hold (hh1.ent _ _ hl)
   ·have h1:Ak (Dx hp (Dc s c.nx).2.1) id=ak sb:=h1
    have h2:Ak (Dx hp (Dc s c.nx).2.1) id'=ak sb':=h2;rw[Gi] at h1 h2;split at h1
    ·rename_i x hx
     cases h1;split at h2
     ·rename_i y hy
      cases h2;exact r4.Gq _ _ _ _ _ hx hy ((hnew hx).2.1 b o1).2 ((hnew hy).2.1 b o2).2
     ·have a1:=((hnew hx).2.1 b o1).1
      rw[GN (hh1.ent _ _ h2) hE] at o2;have:=((hh1.ent _ _ h2).lt o2).1;omega
    ·rw[GN (hh1.ent _ _ h1) hE] at o1
     have a0:=((hh1.ent _ _ h1).lt o1).1;split at h2
     ·rename_i y hy
      cases h2;have a1:=((hnew hy).2.1 b o2).1;omega
     ·rw[GN (hh1.ent _ _ h2) hE] at o2
      exact hh1.Gq _ _ _ _ _ h1 h2 o1 o2
   ·rw[r.old b (by have:=hw.size;omega)]
    exact hw.kept b hb hn
   ·rcases r.fresh b hb with h|h
    ·exact hw1.fresh b h
    ·exact .inr (.inl (iM hw.size h))
   ·simp only[bk,conv i h1] at h2
    exact .inl (r2 i b h2)
   ·rcases hz.keep id sb b hl ho with h|h
    ·left
     cases hb:H1 b with
     |none=>exact (h hb).elim |some o=>rw[r.IX b o hb];simp
    ·refine .inr ⟨sb,?_,aai ho hE⟩
     show Ak (Dx hp (Dc s c.nx).2.1) id=ak sb;rw[Gi];split
     ·rename_i x hx
      obtain ⟨u,hu⟩:=(hh.ent _ _ hl).some_;have:=(hnew hx).2.2;rw[hu] at this;cases this
     ·exact h
   ·have hl:Ak (Dx hp (Dc s c.nx).2.1) id=ak sb:=hl
    rw[Gi] at hl;split at hl
    ·rename_i x hx
     exact (hne (hnew hx).2.2).elim
    ·obtain ⟨sb0,h3,h4⟩:=hz.old id sb hl
     exact ⟨sb0,h3,fun b hb=>h4 b (by rw[GN (hh1.ent _ _ hl) hE] at hb;exact hb)⟩
mutual
theorem aaT{H1 H2:Mem}{E1 E2:Env}:∀(s:Sh) (b:Nat) (v:Value),H6 s=aC->Den H1 E1 (Dc s b).1 v->Den H2 E2 (Dc s b).1 v
 | .i k n,_,_,_,h=>h | .b x,_,_,_,h=>h | .str l,_,_,_,h=>by cases h;exact .str l | .v x,_,_,_,h=>by
  cases x<;>exact h
 | .agg l,b,_,hp,⟨vs,h1,h2⟩=>⟨vs,h1,RZ l b _ (by simpa[H6] using hp) h2⟩ | .AQ l,b,_,hp,⟨vs,h1,h2⟩=>⟨vs,h1,RZ l b _ (by simpa[H6] using hp) h2⟩ | .sl _ _ _,_,_,hp,_=>by simp[H6] at hp | .os _ _ _ _,_,_,hp,_=>by simp[H6] at hp | .C9 _ _,_,_,hp,_=>by simp[H6] at hp | .fn _ _,_,_,hp,_=>by simp[H6] at hp | .er _ _,_,_,hp,_=>by simp[H6] at hp | .pt _,_,_,hp,_=>by simp[H6] at hp
theorem RZ{H1 H2:Mem}{E1 E2:Env}:∀(l:List Sh) (b:Nat) (vs:List Value),Pq l=aC->AA H1 E1 (EC l b).1 vs->AA H2 E2 (EC l b).1 vs
 |[],_,[],_,_=>trivial |[],_,_::_,_,h=>h.elim |_::_,_,[],_,h=>h.elim |x::r,b,v::vs,hp,⟨h1,h2⟩=>by
  simp only[Pq,aI] at hp;exact ⟨aaT x b v hp.1 h1,RZ r _ vs hp.2 h2⟩
end
theorem anm(hS:aaS P C){c:Core}{g:Nat}{F:List Sh->Tree Sh}{args:List SV}{Fz:List Value}{φ:SV×Core->Prop}(hF:C.spec g=ak F)(hh:AO K H E w c.hp)(hw:Eh K H w)
  (hg:Dj C.gls H) (hd:AA H E args Fz) (h:(V4 c F args).All φ):JU P K H E w c g Fz φ:=by
 unfold V4 at h;split at h
 ·exact h.elim
 ·rename_i hp hfz
  obtain ⟨H1,hH,hh1,hw1,hz⟩:=Nw hfz hh hw;split at h
  ·exact h.elim
  ·rename_i Bv hsh
   have hrep:=Ep hh1 hsh (hd.le hH fun _ _ e=>e);refine nH (hS g F hF H1 w Bv Fz _ hw1.on (hg.le hH) hrep (Tree.DZ h)) fun e w' ⟨v,s,H',he,hφ,r⟩=>?_;obtain ⟨E1,r1,r2,r3,r4⟩:=r.res c.nx;cases hb:H6 s<;>simp only[hb,cond_true,cond_false] at hφ
   ·exact hφ.elim
   have keep:∀id sb,Ak c.hp id=ak sb->GI K H E w' id sb:=fun id sb hl=>by
    have hent:=hh.ent id sb hl;exact hent.kept (fun _ _ e=>e) (fun _ _ e=>e) (fun b ho=>r.old b (hent.lt ho).1) fun b ho=>(hent.lt ho).2.1
   refine ⟨_,v,H,E,he,hφ,aaT s c.nx v hb r3,fun _ _ e=>e,fun _ _ e=>e,fun i h1 h2=>(h2 h1).elim,dn _,.inr rfl,rfl,rfl,⟨keep,fun id id' sb sb' b h1 h2 o1 o2=>hh.Gq id id' sb sb' b h1 h2 o1 o2⟩,
    ⟨r.os.trans hw.os,r.tape.trans hw.tape,r.output.trans hw.output,iM hw.size r.size,fun b hb hn=>?_,fun b o e=>?_,hw.le,hw.fresh⟩,fun _ h=>h,r.size,fun b hb _=>r.old b hb,fun i b h1 h2=>?_,
    fun _ h=>.inl h,fun id sb b hl _ ho=>.inr ⟨sb,hl,ho⟩,fun id sb hl _=>⟨sb,hl,fun b h=>h⟩⟩
   ·rw[r.old b (Nat.lt_of_lt_of_le hb hw.size)]
    exact hw.kept b hb hn
   ·rw[r.old b (bH.1 (hw.on b o e)).1]
    exact hw.on b o e
   ·simp[bk,h1] at h2
end
def Enters(P:Program)(g:Nat):Prop:=∃fn,P.funcs[g]?=ak fn/\fn.body.isSome=aC/\fn.name≠ "runtime.NumGoroutine"
def aiH(P:Program)(g e st bytes:Nat):Prop:=
 ∀(w:World) (v x:Value) (n i:Nat) (xs news:List Value),w.ownsRow 0 e st v n xs->w.ownsRow 0 e st x 1 news->(∀b,AL v=ak b->AL x≠ak b)->(∀u∈xs,u.oneCell'=aC)->(∀u∈news,u.oneCell'=aC)->
  i<=n->n+1<=maxLen->(n+1)*bytes<=140737488355328->Calls P g #[v,.int .i64 i,x] w fun en w'=>∃v',en=.returned v'/\w'.ownsRow 0 e st v' (n+1) (xs.take (i*st)++news++xs.drop (i*st))/\w.grownBy w' (AL v)/\
   ∀b,AL v'=ak b->AL v=ak b\/w.heap.size<=b
def aeP(P:Program)(g e st bytes:Nat):Prop:=
 ∀(w:World) (k:Nat),k<=maxLen->k*bytes<=140737488355328->Calls P g #[.slice aK 0 0,.int .i64 k] w fun en w'=>∃v',en=.returned v'/\w'.ownsRow 0 e st v' 0 []/\w.grownBy w' aK/\∀b,AL v'=ak b->w.heap.size<=b
structure BP(P:Program)(C:Ctx):Prop where
 sp:aaS P C
 en:∀g,(C.spec g).isSome=aC\/(C.fns.get g).isSome=aC->Enters P g
 is:∀g e te,C.ins g=ak e->C.ty e=ak te->Enters P g/\aiH P g e te.size te.bytes
 gr:∀g e te,C.grow g=ak e->C.ty e=ak te->Enters P g/\aeP P g e te.size te.bytes
section
variable{P:Program}{C:Ctx}{K:Kx}{H H' OQ:Mem}{E E' OT:Env}{w w' w'':World}
theorem Ih{g:Nat}(h:Enters P g)(args:Array Value)(w:World):(callFunc g args).run P w=.ok (.enter g args) w:=by
 obtain ⟨fn,h1,h2,h3⟩:=h;have hb:fn.body≠aK:=by cases hb:fn.body<;>simp[hb] at h2 ⊢
 unfold callFunc;rw[gK,run_program];simp[h1,h3,hb]
def aeQ(P:Program)(K:Kx)(H:Mem)(E:Env)(w:World)(c:Core)(a:Act)(o:Oper)(φ:SV×Core->Prop):Prop:=
 ∀(next:Act->World->Prop) (Q:Exit->Act->World->Prop),
  (∀(p:SV×Core) (v:Value) (H':Mem) (E':Env) (w':World),φ p->Den H' E' p.1 v->Post K H E w c H' E' w' p.2->next (a.put o.dst v) w')->o.wp P a w next Q
theorem H7.op{c:Core}{a:Act}{o:Oper}{φ:SV×Core->Prop}(h:H7 P K H E w c a o φ):aeQ P K H E w c a o φ:=by
 obtain ⟨p,v,r,H',E',w',h1,h2,h3,h4,h5⟩:=h;intro next Q hn;unfold xP;rw[h5];rcases h4 with rfl|⟨rfl,rfl⟩
 ·exact hn p v H' E' w' h1 h2 h3
 ·exact hn p _ H' E' w' h1 h2 h3
def H8(P:Program)(C:Ctx)(K:Kx)(call:Nat->List SV->Core->Tree (SV×Core)):Prop:=
 ∀(H:Mem) (E:Env) (w:World) (c:Core) (g:Nat) (args:List SV) (Fz:List Value) (φ:SV×Core->Prop),AA H E args Fz->AO K H E w c.hp->Eh K H w->Free E c->Dj C.gls H->
  (call g args c).All φ->Enters P g/\JU P K H E w c g Fz φ
theorem Nz{a:Act}{tm:List SV}(hd:AA H E tm a.tmps.toList):∀xs:List Operand,AA H E (xs.map (BI tm)) (xs.map a.eval)
 |[]=>trivial |x::xs=>⟨BA hd x,Nz hd xs⟩
theorem alB{st n i:Nat}{g:Nat->List Sh}{xs:List Value}{l:List Sh}{news:List Value}(h1:Ci H st n g xs)(hl:DX H l news)(hlen:news.length=st)(hone:∀u∈news,u.oneCell'=aC)(hi:i<=n):Ci H st (n+1) (Ai.ins g i l) (xs.take (i*st)++news++xs.drop (i*st)):=by
 obtain ⟨a1,a2,a3,a4⟩:=h1;have hle:i*st<=n*st:=dR _ hi;have htl:(xs.take (i*st)).length=i*st:=by rw[List.length_take];omega
 refine ⟨?_,fun j hj=>?_,fun u hu=>?_,fun j k s v hj e1 e2=>?_⟩
 ·rw[bC,bC,htl,hlen,List.length_drop,a1,gI];omega
 ·show (if j<i then g j else if j=i then l else g (j - 1)).length=st
  split
  ·exact a2 j (by omega)
  ·split
   ·rw[<-hl.length,hlen]
   ·exact a2 _ (by omega)
 ·rcases bI.1 hu with hu|hu
  ·rcases bI.1 hu with hu|hu
   ·exact a3 u (List.mem_of_mem_take hu)
   ·exact hone u hu
  ·exact a3 u (List.mem_of_mem_drop hu)
 ·replace e1:(if j<i then g j else if j=i then l else g (j - 1))[k]?=ak s:=e1
  have hk:∀{r:List Sh},r[k]?=ak s->r.length=st->k<st:=fun hr hl'=>by rw[<-hl'];exact (aV.1 hr).1
  split at e1
  ·rename_i hji
   have hks:=hk e1 (a2 j (by omega));have hlt:j*st+k<i*st:=by
    calc j*st+k<j*st+st:=by omega
     _=(j+1)*st:=by rw[gI,iK]
     _<=i*st:=dR _ hji
   rw[dV,dN (by omega),List.getElem?_take,if_pos hlt] at e2;exact a4 j k s v (by omega) e1 e2
  ·split at e1
   ·rename_i _ hji
    subst hji;have hks:=hk e1 (by rw[<-hl.length,hlen]);rw[dV,fF (by omega),htl,show j*st+k - j*st=k by omega,dN (by omega)] at e2;exact hl.at_ e1 e2
   ·rename_i hn1 hn2
    have hks:=hk e1 (a2 _ (by omega));have hge:i*st+st<=j*st+k:=by
     calc i*st+st=(i+1)*st:=by rw[gI,iK]
      _<=j*st:=dR _ (by omega)
      _<=j*st+k:=jf _ _
    have hjm:j*st=(j - 1)*st+st:=by
     obtain ⟨m,rfl⟩:∃m,j=m+1:=⟨j - 1,by omega⟩;rw[Nat.add_sub_cancel,gI,iK]
    rw[fF (by rw[bC,htl,hlen];exact hge),bC,htl,hlen,List.getElem?_drop] at e2;rw[show i*st+(j*st+k - (i*st+st))=(j - 1)*st+k by omega] at e2;exact a4 (j - 1) k s v (by omega) e1 e2
theorem aq8{c:Core}{g e:Nat}{args:List SV}{Fz:List Value}{φ:SV×Core->Prop}(hC:BG P C)(hF:BP P C)(hg:C.ins g=ak e)(hh:AO K H E w c.hp)(hw:Eh K H w)(hf:Free E c)
  (hd:AA H E args Fz) (h:(V5 C c e args).All φ):Enters P g/\JU P K H E w c g Fz φ:=by
 unfold V5 at h;split at h;rotate_left
 ·exact h.elim
 rename_i s i id';match Fz,hd with
 |[v,iv,x],⟨hv,hiv,hx,_⟩=>
 split at h;rotate_left
 ·exact h.elim
 rename_i te hte;split at h;rotate_left
 ·exact h.elim
 rename_i n gr cells e2 st2 m hl1 hl2;cases hb:(Nr c.hp e s&&e==e2&&st2==te.size&&m==1 && !Oc s (.gs id')&&fV 0 te.size&&FP cells)<;>simp only[hb,cond_true,cond_false] at h
 ·exact h.elim
 simp only[aI,beq_iff_eq,fH] at hb;obtain ⟨⟨⟨⟨⟨⟨hown,rfl⟩,rfl⟩,rfl⟩,hne⟩,h0⟩,hone⟩:=hb;have h0:=Fj h0;split at h;rotate_left
 ·exact h.elim
 rename_i l z k hl hz hk;rw[hC.A] at hk h;obtain ⟨g1,g2,h⟩:=h;obtain ⟨z0,z1⟩:=KC g1;obtain ⟨r2,r1⟩:=FQ g2;have hz':Hu i=ak z:=by
  unfold XM at hz;split at hz
  ·cases hz;rfl
  ·cases hz;rfl
  ·cases hz
 have eiv:iv=.int .i64 z:=by
  unfold XM at hz;split at hz
  ·cases hz;exact hiv
  ·cases hz;exact hiv
  ·cases hz
 have hkz:=Ho hz' hk;subst hkz;have ea:Ai.addN n 1=n+1:=rfl;rw[ea] at r1 r2 h;obtain ⟨o1,o2,_,o4,_⟩:=XW (st:=te.size) hh hown hv;obtain ⟨xs,p2,p3⟩:=o4 _ _ hl1;obtain ⟨x1,news,q1,q2,q3,q4⟩:=hh.ent _ _ hl2;rw[hx.1] at q1;cases q1;have hdis:∀b,AL v=ak b->AL x≠ak b:=fun b h1 h2=>by
  rcases o1 with ⟨_,h3⟩ |⟨id,sb0,h3,h4,h5,h6⟩
  ·rw[h1] at h3;cases h3
  ·have:=hh.Gq id id' _ _ b h4 hl2 (h6.trans h1) (by simp[Bd,hx.1,h2])
   subst this;have hs:Oc s (.gs id)=aC:=by
    unfold Oc;rw[h3];show (id==id)=aC;simp
   rw[hs] at hne;cases hne
 obtain ⟨hent,hins⟩:=hF.is g e te hg hte;have hrl:=Ep hh hl q3;have hnl:news.length=te.size:=by rw[q2.1,iK]
 have hno:=Fv hone q3;refine ⟨hent,?_⟩;unfold JU;have hiz:((z.toNat:Nat):Int)=z:=by omega
 subst eiv;have hcall:=hins w v x n z.toNat xs news p2 q2 hdis p3.2.2.1 hno (by omega) r1 r2;rw[hiz] at hcall;refine nH hcall fun en w' ⟨v',he,hown',hgr,hv'⟩=>?_;have Fq:∀b,AL v'=ak b->Mine K H b:=fun b hb=>by
  rcases hv' b hb with h|h
  ·exact o2 b h
  ·refine ⟨?_,.inl (by have:=hw.size;omega)⟩
   cases hH:H b with
   |none=>rfl |some o=>have:=(bH.1 (hw.on b o hH)).1;omega
 obtain ⟨c',hφ,hp⟩:=JR (s:=s) (v:=v) (v':=v') hh hw hf h o1 o2 hgr hv' (fun _=>⟨v',_,fB _ _ _,hown',alB p3 hrl hnl hno (by omega),Fq⟩);obtain ⟨A,n',cc,e3⟩:=JA hown';exact ⟨_,v',H,_,he,hφ,⟨fB _ _ _,A,n',cc,e3⟩,hp⟩
 |[],h|[_],h|[_,_],h|_::_::_::_::_,h=>exact (by simp[AA] at h)
theorem ano{c:Core}{g e:Nat}{args:List SV}{Fz:List Value}{φ:SV×Core->Prop}(hC:BG P C)(hF:BP P C)(hg:C.grow g=ak e)(hh:AO K H E w c.hp)(hw:Eh K H w)(hf:Free E c)
  (hd:AA H E args Fz) (h:(TP C c e args).All φ):Enters P g/\JU P K H E w c g Fz φ:=by
 unfold TP at h;split at h;rotate_left
 ·exact h.elim
 rename_i i;match Fz,hd with
 |[v,iv],⟨hv,hiv,_⟩=>
 split at h;rotate_left
 ·exact h.elim
 rename_i te z k hte hz hk;rw[hC.A] at hk h;obtain ⟨g1,g2,h⟩:=h;obtain ⟨r2,r1⟩:=FQ g2;have z0:(0:Int)<=z:=of_decide_eq_true g1;have hz':Hu i=ak z:=by
  unfold XM at hz;split at hz
  ·cases hz;rfl
  ·cases hz;rfl
  ·cases hz
 have eiv:iv=.int .i64 z:=by
  unfold XM at hz;split at hz
  ·cases hz;exact hiv
  ·cases hz;exact hiv
  ·cases hz
 have hkz:=Ho hz' hk;subst hkz;obtain ⟨hent,hgo⟩:=hF.gr g e te hg hte;refine ⟨hent,?_⟩;unfold JU;have hv:v=.slice aK 0 0:=hv;subst hv eiv;have hcall:=hgo w z.toNat r1 r2;rw[show ((z.toNat:Nat):Int)=z by omega] at hcall;refine nH hcall fun en w' ⟨v',he,hown',hgr,hv'⟩=>?_;have Fq:∀b,AL v'=ak b->Mine K H b:=fun b hb=>by
  have h:=hv' b hb;refine ⟨?_,.inl (by have:=hw.size;omega)⟩;cases hH:H b with
  |none=>rfl |some o=>have:=(bH.1 (hw.on b o hH)).1;omega
 obtain ⟨c',hφ,hp⟩:=JR (s:=.A8) (v:=.slice aK 0 0) (v':=v') hh hw hf h (.inl ⟨rfl,rfl⟩) (fun b hb=>by simp[AL] at hb) hgr (fun b hb=>.inr (hv' b hb)) (fun _=>⟨v',_,fB _ _ _,hown',KA _ _,Fq⟩);obtain ⟨A,n',cc,e3⟩:=JA hown';exact ⟨_,v',H,_,he,hφ,⟨fB _ _ _,A,n',cc,e3⟩,hp⟩
 |[],h|[_],h|_::_::_::_,h=>exact (by simp[AA] at h)
theorem aiI{call:Nat->List SV->Core->Tree (SV×Core)}{c:Core}{a:Act}{o:Oper}{k:Call}{f:Operand}{φ:SV×Core->Prop}(hC:BG P C)(hF:BP P C)(hK:H8 P C K call)(st:St C K H E w c a)(ho:o.op=.call k)
  (hf:k.callee=.value f) (h:(match BI c.tm f with
   | .fn g cs=>match C.ins g with
    |some e=>V5 C c e (k.args.toList.map (BI c.tm)++cs) |none=>match C.grow g with
    |some e=>TP C c e (k.args.toList.map (BI c.tm)++cs) |none=>match C.spec g with
    |some F=>bif C.lend g then V4 c F (k.args.toList.map (BI c.tm)++cs) else spread c F (k.args.toList.map (BI c.tm)++cs) |none=>call g (k.args.toList.map (BI c.tm)++cs) c
   |_=>.fail).All φ):aeQ P K H E w c a o φ:=by
 have df:=BA (H:=H) (E:=E) st.den f;split at h
 ·rename_i g cs hg
  rw[hg] at df;obtain ⟨vs,ef,hvs⟩:=df;have hargs:=(Nz st.den k.args.toList).append hvs;have key:Enters P g/\JU P K H E w c g (k.args.toList.map a.eval++vs.toList) φ:=by
   split at h
   ·rename_i e he
    exact aq8 hC hF he st.hp st.BZ st.free hargs h
   split at h
   ·rename_i e he
    exact ano hC hF he st.hp st.BZ st.free hargs h
   split at h
   ·rename_i F hF2
    refine ⟨hF.en g (.inl (by rw[hF2];rfl)),?_⟩;cases hl:C.lend g<;>simp only[hl,cond_true,cond_false] at h
    ·exact aiG hF.sp hF2 st.hp st.BZ st.free st.gl hargs h
    ·exact anm hF.sp hF2 st.hp st.BZ st.gl hargs h
   ·exact hK H E w c g _ _ φ hargs st.hp st.BZ st.free st.gl h
  intro next Q hn;have hr:(execOp a.eval o).run P w=.ok (.enter g (k.args.map a.eval++vs)) w:=by
   simp only[execOp,ho,resolve,hf];simp[jL,ef,invoke,Ih key.1]
  unfold xP;rw[hr];have he:(k.args.toList.map a.eval++vs.toList).toArray=k.args.map a.eval++vs:=by
   apply Array.toList_inj.1;simp
  have:=key.2;unfold JU at this;rw[he] at this;refine nH this fun e w' ⟨p,v,H',E',e1,e2,e3,e4⟩=>?_;subst e1;exact hn p v H' E' w' e2 e3 e4
 ·exact h.elim
theorem alC{call:Nat->List SV->Core->Tree (SV×Core)}{c:Core}{a:Act}{o:Oper}{φ:SV×Core->Prop}(hC:BG P C)(hF:BP P C)(hK:H8 P C K call)(st:St C K H E w c a)
  (h:(Qo C call c o).All φ):aeQ P K H E w c a o φ:=by
 by_cases hq:Dn o.op=aC
 ·exact ((WC hC st.den st.hp st.gl hq h).toW st.hp st.BZ).op
 unfold Qo at h;split at h;case h_4 e ho=>exact (anb hC st.hp st.BZ st.free ho h).op
 case h_5 e x ho=>exact (as5 st.den st.hp st.BZ st.free ho h).op
 case h_7 t n parts ho=>exact (ac0 hC st.den st.hp st.BZ st.free ho h).op
 case h_9 t x v ho=>exact (anc hC st.den st.hp st.BZ ho h).op
 case h_20 t ho=>exact (aix st.hp st.BZ st.free ho h).op
 case h_21 t l k ho=>
  refine (aeN hC st.den st.hp st.BZ st.free ho (fun hs=>?_) h).op;split at hs
  ·rename_i i j
   obtain rfl:i=j:=by simpa using hs
   rfl
  ·cases hs
 case h_22 t x lo hi ho=>exact (ank hC st.den st.hp st.BZ ho h).op
 case h_24 t m k v ho=>exact (ady hC st.den st.hp st.BZ (.inr ho) h).op
 case h_25 t m k v ho=>exact (ady hC st.den st.hp st.BZ (.inl ho) h).op
 case h_26 t m k ho=>exact (af9 hC st.den st.hp st.BZ st.free ho h).op
 case h_27 t m s v ho=>exact (ac1 st.den st.hp st.BZ ho h).op
 case h_28 k ho=>
  unfold TQ at h;split at h
  ·rename_i b hb
   obtain ⟨callee,xs,ts⟩:=k;simp only at hb;subst hb;simp only at h;split at h
   ·rename_i x t h1 h2
    rw[ho] at hq;simp[Dn] at hq
   ·rename_i m k t r h1 h2
    have e1:xs=#[m,k]:=by cases xs;simp at h1;subst h1;rfl
    subst e1;have e2:ts[0]?=ak t:=by rw[<-dX,h2];rfl
    exact (alA hC st.den st.hp st.BZ ho e2 h).op
   ·rename_i s x t u h1 h2
    have e1:xs=#[s,x]:=by cases xs;simp at h1;subst h1;rfl
    have e2:ts=#[t,u]:=by cases ts;simp at h2;subst h2;rfl
    subst e1 e2;cases hu:(t==u)<;>simp only[hu,cond_true,cond_false] at h
    ·exact (aiA hC st.den st.hp st.BZ st.free ho h).op
    obtain rfl:t=u:=by simpa using hu
    split at h
    ·rename_i r hr
     exact (aiB hC st.den st.hp st.BZ st.free ho hr h).op
    ·exact (alz hC st.den st.hp st.BZ st.free ho h).op
   ·rw[ho] at hq;simp[Dn] at hq
   ·rw[ho] at hq;simp[Dn] at hq
   ·exact h.elim
  ·rename_i f hb
   exact aiI hC hF hK st ho hb h
  ·exact h.elim
 case h_29 t u x ho=>exact (aq6 hC st.den st.hp st.BZ st.free ho h).op
 case h_30=>exact h.elim
 all_goals
  rename_i ho;rw[ho] at hq;simp[Dn] at hq
theorem anp{call:Nat->List SV->Core->Tree (SV×Core)}{c:Core}{a:Act}{o:Oper}{φ:SV×Core->Prop}(hC:BG P C)(hF:BP P C)(hK:H8 P C K call)(st:St C K H E w c a)
  (h:(exec C call c o).All φ):aeQ P K H E w c a o φ:=by
 obtain ⟨ψ,h,hψ⟩:=U5 h;intro next Q hn;refine alC hC hF hK st h next Q fun p v H' E' w' h1 h2 h3=>?_
 obtain ⟨x,q1,q2⟩:=hψ p h1;exact hn (x,p.2) v H' E' w' q1 (q2 _ _ _ h2) h3
theorem JV{c:Core}{a:Act}(hd:AA H E c.tm a.tmps.toList)(dst:Option Nat){sv:SV}{v:Value}(hv:Den H E sv v):AA H E (Q9 c.tm dst sv) (a.put dst v).tmps.toList:=by
 cases dst with
 |none=>exact hd |some d=>
  simp only[Q9,uH,Array.toList_setIfInBounds];exact hd.set d hv
theorem put_defers{a:Act}{dst:Option Nat}{v:Value}:(a.put dst v).defers=a.defers:=by cases dst<;>rfl
theorem St.step{c c':Core}{a:Act}(st:St C K H E w c a)(dst:Option Nat){sv:SV}{v:Value}(hv:Den H' E' sv v)(hp:Post K H E w c H' E' w' c'):St C K H' E' w' (c'.put dst sv) (a.put dst v):=by
 refine ⟨?_,hp.hp,hp.BZ,?_,st.gl.le hp.IX,by rw[put_defers];exact st.defers⟩
 ·have:=JV (c:=c') (a:=a) (by rw[hp.tm];exact st.den.le hp.IX hp.ML) dst hv
  exact this
 ·exact hp.mv.free st.free
theorem St.put{c:Core}{a:Act}(st:St C K H E w c a)(dst:Option Nat){sv:SV}{v:Value}(hv:Den H E sv v):St C K H E w (c.put dst sv) (a.put dst v):=
 ⟨JV st.den dst hv,st.hp,st.BZ,st.free,st.gl,by rw[put_defers];exact st.defers⟩
theorem St.know{c:Core}{a:Act}(st:St C K H E w c a){d:Nat}{b:Bool}(hd:c.tm.getD d .any=.test b):St C K H E w (c.put (ak d) (.bool b)) a:=by
 refine ⟨?_,st.hp,st.BZ,st.free,st.gl,st.defers⟩;have h1:c.tm[d]?=ak (.test b):=by
  rw[aX] at hd;cases h:c.tm[d]? with
  |none=>simp[h] at hd |some x=>simp[h] at hd;rw[hd]
 obtain ⟨v,e1,e2⟩:=st.den.get h1;have e2:v=.bool b:=e2;subst e2;have h2:=st.den.set d (s:=.bool b) (v:=.bool b) rfl;have h3:a.tmps.toList.set d (.bool b)=a.tmps.toList:=by
  apply lM;intro j;by_cases hj:d=j
  ·subst hj
   have:d<a.tmps.toList.length:=(aV.1 e1).1;rw[rD this,e1]
  ·rw[rX hj]
 rw[h3] at h2;exact h2
theorem TV{tm:List SV}{a:Act}(hd:AA H E tm a.tmps.toList){d:Nat}{sv:SV}(h:tm.getD d .any=sv)(hne:sv≠.any):∃v,a.tmps[d]?=ak v/\Den H E sv v:=by
 have h1:tm[d]?=ak sv:=by
  rw[aX] at h;cases h':tm[d]? with
  |none=>simp[h'] at h;exact (hne h.symm).elim |some x=>simp[h'] at h;rw[h]
 obtain ⟨v,e1,e2⟩:=hd.get h1;exact ⟨v,by rw[<-dX];exact e1,e2⟩
theorem Hw{ops:Array Oper}{tm:List SV}{a:Act}(hd:AA H E tm a.tmps.toList)(o:Oper):
  match Og ops.toList tm o with
  | .yes=>jB o (yielded ops a.tmps)=aC | .no=>jB o (yielded ops a.tmps)=ay | .ask d c b=>tm.getD d .any=.test c/\jB o (yielded ops a.tmps)=(c==b) | .lost=>True:=by
 unfold Og jB;cases hg:o.guard with
 |none=>rfl |some jb=>
  obtain ⟨j,b⟩:=jb;simp only;have hop:opAt ops.toList j=ops[j]?:=by simp[opAt]
  rw[hop];cases hds:(ops[j]?).bind (·.dst) with
  |none=>trivial |some d=>
   simp only;have hy:∀c:Bool,a.tmps[d]?=ak (.bool c)->yielded ops a.tmps j=ak c:=fun c hc=>by
    simp[yielded,hds,hc]
   cases hx:tm.getD d .any with
   |bool c=>
    obtain ⟨v,e1,e2⟩:=TV hd hx (by simp);have e2:v=.bool c:=e2;subst e2;have:=hy c e1;cases c<;>cases b<;>simp[this]
   |test c=>
    obtain ⟨v,e1,e2⟩:=TV hd hx (by simp);have e2:v=.bool c:=e2;subst e2;have:=hy c e1;refine ⟨hx,?_⟩;rw[this];cases c<;>cases b<;>rfl
   |AQ l=>
    obtain ⟨v,e1,e2⟩:=TV hd hx (by simp);obtain ⟨vs,rfl,_⟩:=e2;have:yielded ops a.tmps j=aK:=by simp[yielded,hds,e1]
    rw[this];rfl
   |_=>trivial
theorem aeR{ops:List Oper}{i:Nat}:Den H E (skV ops i) undef:=by
 unfold skV;cases ops.any (fun o=>match o.guard with|some (j,_)=>fC j i|none=>ay)
 ·trivial
 ·exact ⟨#[],rfl,trivial⟩
def WJ(P:Program)(C:Ctx)(K:Kx)(H:Mem)(E:Env)(w:World)(c:Core)(a:Act)(ops:Array Oper)(i:Nat)(φ:Core->Prop):Prop:=
 ∀(next:Act->World->Prop) (Q:Exit->Act->World->Prop),
  (∀(c':Core) (a':Act) (H':Mem) (E':Env) (w':World),φ c'->St C K H' E' w' c' a'->Mv K H E w c H' E' w' c'->(∃v,a'=a.put ((ops[i]?).bind (·.dst)) v)->next a' w')->wpOp P ops Q i next a w
theorem Ja{c c':Core}{a:Act}(st:St C K H E w c a)(h1:c'.hp=c.hp)(h2:c'.nx=c.nx)(h3:c'.lim=c.lim)(h4:c'.tc=c.tc):Mv K H E w c H E w c':=
 (pz st.hp st.BZ).mv.to rfl rfl rfl rfl h1 h2 h3 h4
theorem agb{call:Nat->List SV->Core->Tree (SV×Core)}{c:Core}{a:Act}{ops:Array Oper}{i:Nat}{o:Oper}{φ:Core->Prop}(hC:BG P C)(hF:BP P C)(hK:H8 P C K call)(st:St C K H E w c a)
  (hi:ops[i]?=ak o) (hw:jB o (yielded ops a.tmps)=aC) (h:(afE C call c o).All φ):WJ P C K H E w c a ops i φ:=by
 intro next Q hn;unfold wpOp;simp only[hi,hw,if_true];refine .inl (anp hC hF hK st (Tree.DZ h) next Q fun p v H' E' w' h1 h2 h3=>?_);exact hn _ _ H' E' w' h1 (st.step o.dst h2 h3) (h3.mv.to rfl rfl rfl rfl rfl rfl rfl rfl) ⟨v,by rw[hi];rfl⟩
theorem aaU{c:Core}{a:Act}{ops:Array Oper}{i:Nat}{o:Oper}{φ:Core->Prop}(st:St C K H E w c a)
  (hi:ops[i]?=ak o) (hw:jB o (yielded ops a.tmps)=ay) (h:φ (c.put o.dst (skV ops.toList i))):WJ P C K H E w c a ops i φ:=by
 intro next Q hn;unfold wpOp;simp only[hi,hw];exact hn _ _ H E w h (st.put o.dst aeR) (Ja st rfl rfl rfl rfl) ⟨undef,by rw[hi];rfl⟩
theorem U9{call:Nat->List SV->Core->Tree (SV×Core)}{c:Core}{a:Act}{ops:Array Oper}{i:Nat}{φ:Core->Prop}(hC:BG P C)(hF:BP P C)(hK:H8 P C K call)(st:St C K H E w c a)
  (h:(aad C call ops.toList c i).All φ):WJ P C K H E w c a ops i φ:=by
 unfold aad at h;have hop:opAt ops.toList i=ops[i]?:=by simp[opAt]
 rw[hop] at h;split at h
 ·rename_i hi
  intro next Q hn;unfold wpOp;simp only[hi];exact hn _ _ H E w h st (Ja st rfl rfl rfl rfl) ⟨undef,by rw[hi];rfl⟩
 ·rename_i o hi
  have hs:=Hw (ops:=ops) st.den o;split at h
  ·rename_i hw
   rw[hw] at hs;exact agb hC hF hK st hi hs h
  ·rename_i hw
   rw[hw] at hs;exact aaU st hi hs h
  ·rename_i d t b hw
   rw[hw] at hs;obtain ⟨h1,h2⟩:=hs;have key:∀v:Bool,t=v->(let c':=c.put (ak d) (.bool v);bif v==b then afE C call c' o else .leaf (c'.put o.dst (skV ops.toList i))).All φ->WJ P C K H E w c a ops i φ:=fun v hv hh=>by
    subst hv;have st':=st.know h1;have mvc:Mv K H E w c H E w (c.put (ak d) (.bool t)):=Ja st rfl rfl rfl rfl;intro next Q hn;cases hb:(t==b)<;>simp only[hb,cond_true,cond_false] at hh
    ·refine aaU (P:=P) st' hi (by rw[h2,hb]) hh next Q fun c' a' H' E' w' e1 e2 e3 e4=>hn c' a' H' E' w' e1 e2 (mvc.trans e3) e4
    ·refine agb hC hF hK st' hi (by rw[h2,hb]) hh next Q fun c' a' H' E' w' e1 e2 e3 e4=>hn c' a' H' E' w' e1 e2 (mvc.trans e3) e4
   cases t with
   |true=>exact key aC rfl (by have:=h.1 rfl;cases b<;>simpa using this) |false=>exact key ay rfl (by have:=h.2 rfl;cases b<;>simpa using this)
  ·exact h.elim
end
section
variable{P:Program}{C:Ctx}{K:Kx}{H H' OQ:Mem}{E E' OT:Env}{w w' w'':World}
theorem aaV{α:Type}{φ:α->Prop}:∀{bs:List Bool} {t:Tree α},(needs t bs).All φ->(∀b∈bs,b=aC)/\t.All φ
 |[],_,h=>⟨fun _ h=>(by cases h),h⟩ |b::r,t,h=>by
  obtain ⟨h1,h2⟩:=h;obtain ⟨h3,h4⟩:=aaV h2;refine ⟨fun x hx=>?_,h4⟩;cases hx with
  |head=>exact h1 |tail _ hx=>exact h3 x hx
theorem aeS{r:Option (List Bool×SV)}{x:List Bool×SV}(h:aeD r=ak x):r=ak x:=by
 unfold aeD at h;split at h
 ·cases h
 ·exact h
theorem Si:∀{t:Tree (SV×Core)} {bs bs':List Bool} {v:SV},Eb t bs=ak (bs',v)->∀b∈bs,b∈bs'
 | .leaf _,_,_,_,h=>by simp[Eb] at h;obtain ⟨rfl,_⟩:=h;exact fun _ h=>h | .need b t,bs,bs',v,h=>fun x hx=>Si (t:=t) h x (dA _ hx) | .node _ _ _,_,_,_,h=>by simp[Eb] at h | .both _ _,_,_,_,h=>by simp[Eb] at h | .must _ _,_,_,_,h=>by simp[Eb] at h | .fail,_,_,_,h=>by simp[Eb] at h
theorem NC:∀{t:Tree (SV×Core)} {bs bs':List Bool} {v:SV},Eb t bs=ak (bs',v)->(∀b∈bs',b=aC)->t.All fun p=>p.1=v
 | .leaf _,_,_,_,h,_=>by simp[Eb] at h;exact h.2 | .need b t,bs,bs',v,h,hb=>⟨hb b (Si (t:=t) h b (bZ ..)),NC (t:=t) h hb⟩ | .node _ _ _,_,_,_,h,_=>by simp[Eb] at h | .both _ _,_,_,_,h,_=>by simp[Eb] at h | .must _ _,_,_,_,h,_=>by simp[Eb] at h | .fail,_,_,_,h,_=>by simp[Eb] at h
theorem aaW{α:Type}{φ:α->Prop}{f:Nat->Tree α}:∀{rs:List Nat},(allOf f rs).All φ->∀i∈rs,(f i).All φ
 |[],h,_,_=>h.elim |[i],h,j,hj=>by simp at hj;subst hj;exact h |i::k::r,h,j,hj=>by
  obtain ⟨h1,h2⟩:=h;cases hj with
  |head=>exact h1 |tail _ hj=>exact aaW h2 j hj
theorem Qv{BH:Array Oper}{lock:List (Nat×SB)}{listed:Array Bool}{Ik:List SV}{c:Core}{q:Quiet}:∀{rs:List Nat},V7 C BH lock listed Ik c rs=q->q≠.no->∃i∈rs,TR C BH lock listed Ik c i=q
 |[],h,hn=>by simp[V7] at h;exact (hn h.symm).elim |i::r,h,hn=>by
  unfold V7 at h;split at h
  ·obtain ⟨j,h1,h2⟩:=Qv h hn
   exact ⟨j,dA _ h1,h2⟩
  ·exact ⟨i,bZ ..,h⟩
theorem aaX{p q:Nat->Bool}{i:Nat}:∀{l:List Nat},(∀x,q x=aC->p x=aC)->i∈l->p i=aC->q i=ay->l.countP q<l.countP p
 |[],_,h,_,_=>by cases h |x::l,hpq,h,h1,h2=>by
  have hle:l.countP q<=l.countP p:=List.countP_mono_left fun x _ h=>hpq x h
  rw[uX,uX];cases h with
  |head=>simp[h1,h2];omega |tail _ h=>
   have:=aaX hpq h h1 h2;by_cases hq:q x=aC
   ·simp[hq,hpq x hq];omega
   ·simp[hq];omega
def cnt(ops:Array Oper)(listed:Array Bool):Nat:=(aZ ops.size).countP fun j=>!listed.getD j aC
theorem anq{ops:Array Oper}{listed:Array Bool}{i:Nat}(hi:i<ops.size)(hu:listed.getD i aC=ay):cnt ops (listed.setIfInBounds i aC)<cnt ops listed:=by
 have hs:i<listed.size:=by
  rcases pG i listed.size with h|h
  ·exact h
  ·simp[Array.getElem?_eq_none h] at hu
 refine aaX (i:=i) (fun x hx=>?_) (dh.2 hi) (by rw[hu];rfl) (by simp[hs]);by_cases hxi:i=x
 ·subst hxi;rw[hu];rfl
 ·rw[getD_set_ne aC hxi] at hx;exact hx
theorem X4{unl:List Nat}:∀{hp:List (Nat×SB)} {id:Nat} {sb:SB},Ak (MJ hp unl) id=ak sb->unl.contains id=ay
 |[],_,_,h=>by simp[MJ,Ak] at h |(j,x)::l,id,sb,h=>by
  unfold MJ at h;cases hu:unl.contains j<;>simp only[hu,cond_true,cond_false] at h
  ·simp only[Ak] at h
   cases hj:(j==id)<;>simp only[hj,cond_true,cond_false] at h
   ·exact X4 h
   ·obtain rfl:j=id:=by simpa using hj
    exact hu
  ·exact X4 h
theorem Va{unl:List Nat}:∀{hp:List (Nat×SB)} {id:Nat} {sb:SB},Ak (MJ hp unl) id=ak sb->Ak hp id=ak sb
 |[],_,_,h=>h |(j,x)::l,id,sb,h=>by
  have hn:=X4 h;unfold MJ at h;cases hu:unl.contains j<;>simp only[hu,cond_true,cond_false] at h
  ·simp only[Ak] at h ⊢
   cases hj:(j==id)<;>simp only[hj,cond_true,cond_false] at h ⊢
   ·exact Va h
   ·exact h
  ·have h:=Va h
   simp only[Ak];cases hj:(j==id)<;>simp only[cond_true,cond_false]
   ·exact h
   ·obtain rfl:j=id:=by simpa using hj
    rw[hn] at hu;cases hu
structure Rg(C:Ctx)(K:Kx)(BH:Array Oper)(base JH:Nat)(lock:List (Nat×SB))(H0:Mem)(E0:Env)(w0:World)(c0:Core)(H:Mem)(E:Env)(w:World)(c:Core)(a:Act)(listed:Array Bool)(Ik:List SV):Prop where
 st:St C K H E w c a
 nx:c.nx=0
 lim:c.lim=0
 free:∀j,j<BH.size->listed.getD j aC=ay->∀id,base+JH*j<=id->id<base+JH*(j+1)->E id=aK
 akj:AA H0 E0 Ik a.tmps.toList
 ch:Ch K H0 E0 w0 c0.hp c0.tc H E w c.hp c.tc (fun i=>base<=i/\i<base+JH*BH.size)
 lk:∀id sb b,Ak lock id=ak sb->Bd E0 id sb=ak b->H b≠aK\/∃sb',Ak c.hp id=ak sb'/\Bd E id sb'=ak b
 agr:UY H0 E0 lock w0 w
 on:H0.on w
def Still(H0:Mem)(E0:Env)(lock:List (Nat×SB))(w0:World)(w':World):Prop:=UY H0 E0 lock w0 w'/\H0.on w'
variable{BH:Array Oper}{base JH:Nat}{lock:List (Nat×SB)}{H0:Mem}{E0:Env}{w0:World}{c0:Core}{c:Core}{a:Act}{listed:Array Bool}{Ik:List SV}
theorem aeT(hC:BG P C)(hH0:AO K H0 E0 w0 lock)(hg0:Dj C.gls H0)(r:Rg C K BH base JH lock H0 E0 w0 c0 H E w c a listed Ik){i j:Nat}{bs:List Bool}{v v0:SV}
  (h:TR C BH lock listed Ik c i=.take j bs v v0) (hb:∀b∈bs,b=aC) :
  j=i/\∃o u,BH[i]?=ak o/\lg .any BH listed i=aC/\YieldsIf P BH (Still H0 E0 lock w0) o u a/\Den H E v u/\Den H0 E0 v0 u:=by
 unfold TR at h;have hop:opAt BH.toList i=BH[i]?:=by simp[opAt]
 rw[hop] at h;simp only[adp] at h;split at h
 ·cases h
 ·rename_i o hi
  have hs:=Hw (ops:=BH) r.st.den o;split at h
  ·cases h
  ·rename_i hw
   rw[hw] at hs;cases hf:lg .any BH listed i<;>simp only[hf,cond_true,cond_false] at h
   ·cases h
   cases h;exact ⟨rfl,o,undef,hi,rfl,.inr ⟨hs,rfl⟩,aeR,aeR⟩
  ·rename_i hw
   rw[hw] at hs;cases hq:(Dn o.op&&lg .any BH listed i)<;>simp only[hq,cond_true,cond_false] at h
   ·cases h
   simp only[aI] at hq;split at h
   ·rename_i bs' v' hl
    cases h;have hall:=NC (aeS hl) hb;obtain ⟨p,u,h1,h2,h3,h4⟩:=afS (c:={c with tm:=Ik,hp:=lock}) (w:=w0) hC r.akj hH0 hg0 hq.1 hall
    subst h1;exact ⟨rfl,o,u,hi,hq.2,.inl ⟨hs,fun w' hw'=>h4 w' hw'.1 hw'.2⟩,h3.le r.ch.IX r.ch.ML,h3⟩
   ·cases hp:KT c.tm o.op<;>simp only[hp,cond_true,cond_false] at h
    ·cases h
    split at h
    ·rename_i bs' v' hl
     cases h;have hall:=NC hl hb;obtain ⟨p,u,h1,h2,h3,h4⟩:=aiw hC r.st.den r.st.hp r.st.gl hp hall;subst h1;exact ⟨rfl,o,u,hi,hq.2,.inl ⟨hs,fun w' _=>h4 w'⟩,h3,trivial⟩
    ·cases h
  ·cases h
theorem agc(hC:BG P C)(r:Rg C K BH base JH lock H0 E0 w0 c0 H E w c a listed Ik){i d:Nat}{t:Bool}(h:TR C BH lock listed Ik c i=.ask d t):c.tm.getD d .any=.test t:=by
 unfold TR at h;have hop:opAt BH.toList i=BH[i]?:=by simp[opAt]
 rw[hop] at h;simp only[adp] at h;split at h
 ·cases h
 ·rename_i o hi
  have hs:=Hw (ops:=BH) r.st.den o;split at h
  ·rename_i d' t' b' hw
   rw[hw] at hs;cases h;exact hs.1
  ·cases hf:lg .any BH listed i<;>simp only[hf,cond_true,cond_false] at h
   ·cases h
   ·cases h
  ·cases hq:(Dn o.op&&lg .any BH listed i)<;>simp only[hq,cond_true,cond_false] at h
   ·cases h
   split at h
   ·cases h
   ·cases hp:KT c.tm o.op<;>simp only[hp,cond_true,cond_false] at h
    ·cases h
    split at h
    ·cases h
    ·cases h
  ·cases h
theorem Rg.take(r:Rg C K BH base JH lock H0 E0 w0 c0 H E w c a listed Ik){i:Nat}{d:Option Nat}{u:Value}{v v0:SV}(h1:Den H E v u)(h0:Den H0 E0 v0 u):
  Rg C K BH base JH lock H0 E0 w0 c0 H E w (c.put d v) (a.put d u) (listed.setIfInBounds i aC) (Q9 Ik d v0):=by
 refine ⟨r.st.put d h1,r.nx,r.lim,fun j hj hu=>r.free j hj ?_,?_,r.ch,r.lk,r.agr,r.on⟩
 ·by_cases hij:i=j
  ·subst hij
   cases hx:listed.getD i aC with
   |false=>rfl |true=>
    rcases pG i listed.size with h|h
    ·simp[h] at hu
    ·simp at hu
  ·rw[getD_set_ne aC hij] at hu;exact hu
 ·have:=JV (c:={c with tm:=Ik}) (a:=a) r.akj d h0
  exact this
theorem Rg.know(r:Rg C K BH base JH lock H0 E0 w0 c0 H E w c a listed Ik){d:Nat}{b:Bool}(hd:c.tm.getD d .any=.test b):
  Rg C K BH base JH lock H0 E0 w0 c0 H E w (c.put (ak d) (.bool b)) a listed (Ik.set d (.bool b)):=by
 refine ⟨r.st.know hd,r.nx,r.lim,r.free,?_,r.ch,r.lk,r.agr,r.on⟩;obtain ⟨v,e1,e2⟩:=TV r.st.den hd (by simp);have e2:v=.bool b:=e2;subst e2;have h2:=r.akj.set d (s:=.bool b) (v:=.bool b) rfl;have h3:a.tmps.toList.set d (.bool b)=a.tmps.toList:=by
  rw[<-dX] at e1;apply lM;intro j;by_cases hj:d=j
  ·subst hj
   have:d<a.tmps.toList.length:=(aV.1 e1).1;rw[rD this,e1]
  ·rw[rX hj]
 rw[h3] at h2;exact h2
theorem agd{i j:Nat}(hij:(listed.setIfInBounds i aC).getD j aC=ay):j≠i/\listed.getD j aC=ay:=by
 by_cases h:i=j
 ·subst h
  rcases pG i listed.size with h|h
  ·simp[h] at hij
  ·simp at hij
 ·rw[getD_set_ne aC h] at hij
  exact ⟨fun e=>h e.symm,hij⟩
theorem Rg.step(hl0:∀id sb,Ak lock id=ak sb->Ak c0.hp id=ak sb)(r:Rg C K BH base JH lock H0 E0 w0 c0 H E w c a listed Ik){i:Nat}(hi:i<BH.size){c':Core}{a':Act}{u:Value}
  (st':St C K H' E' w' c' a') (mv:Mv K H E w {c with tc:=[],nx:=base+JH*i,lim:=base+JH*(i+1)} H' E' w' c') (ha:a'=a.put ((BH[i]?).bind (·.dst)) u)
  (hdj:disjoint c'.tc lock=aC) :
  Rg C K BH base JH lock H0 E0 w0 c0 H' E' w' {c' with tc:=c'.tc++c.tc,nx:=c.nx,lim:=c.lim} a' (listed.setIfInBounds i aC) (Q9 Ik ((BH[i]?).bind (·.dst)) .any):=by
 have hch:=mv.ch;have hnx1:base+JH*i<=c'.nx:=mv.nx;have hlim:c'.nx<=base+JH*(i+1):=by
  have h1:c'.nx<=base+JH*(i+1)\/c'.nx=base+JH*i:=mv.lim;rcases h1 with h1|h1
  ·exact h1
  ·rw[h1,Nat.mul_add];omega
 have avM:∀id∈c'.tc,Ak lock id=aK:=fun id hid=>by
  have:=List.all_eq_true.1 hdj id hid;cases h:Ak lock id with
  |none=>rfl |some x=>rw[h] at this;cases this
 have hge:∀i',i'<BH.size->base+JH*(i'+1)<=base+JH*BH.size:=fun i' h=>tK (kW _ h) _;have hkeep:∀b,H b≠aK->w'.heap[b]?=w.heap[b]?:=fun b hb=>by
  cases h:H b with
  |none=>exact (hb h).elim |some o=>rw[st'.BZ.on b o (mv.IX b o h),r.st.BZ.on b o h]
 have hother:∀id sb b,Ak lock id=ak sb->Bd E0 id sb=ak b->w'.heap[b]?=w.heap[b]?/\(H' b≠aK\/∃sb',Ak c'.hp id=ak sb'/\Bd E' id sb'=ak b):=fun id sb b h1 h2=>by
  rcases r.lk id sb b h1 h2 with h|⟨sb',h3,h4⟩
  ·refine ⟨hkeep b h,.inl ?_⟩
   cases hb:H b with
   |none=>exact (h hb).elim |some o=>rw[mv.IX b o hb];simp
  ·have hnot:id ∉ c'.tc:=fun hid=>by rw[avM id hid] at h1;cases h1
   refine ⟨mv.fr b ((r.st.hp.ent _ _ h3).lt h4).1 fun id' UC e=>?_,mv.keep id sb' b h3 hnot h4⟩;rcases mv.ZR id' UC with h5|h5|⟨WE,h5,h6⟩
   ·cases h5
   ·simp[bk,h5] at e
   ·have:=r.st.hp.Gq _ _ _ _ _ h3 h5 h4 (h6.trans e)
    subst this;exact hnot UC
 refine ⟨⟨st'.den,st'.hp,st'.BZ,?_,st'.gl,st'.defers⟩,r.nx,r.lim,fun j hj hu id h1 h2=>?_,?_,r.ch.trans ((hch.add c.tc).mono fun k hk=>?_),fun id sb b h1 h2=>(hother id sb b h1 h2).2,fun b hb=>?_,fun b o hb=>?_⟩
 ·intro k h1 h2
  have h1:c.nx<=k:=h1;have h2:k<c.lim:=h2;have:=r.nx;have:=r.lim;omega
 ·obtain ⟨hji,hu⟩:=agd hu
  have h0:=r.free j hj hu id h1 h2;cases he:E' id with
  |none=>rfl |some v=>
   have:=hch.new id h0 (by rw[he];simp);simp only at this;have q1:=this.1;have q2:=this.2;rcases Nat.lt_or_gt_of_ne hji with q|q
   ·have:JH*(j+1)<=JH*i:=kW _ q
    omega
   ·have:JH*(i+1)<=JH*j:=kW _ q
    omega
 ·subst ha
  exact JV (c:={c with tm:=Ik}) (a:=a) r.akj _ trivial
 ·simp only at hk
  have:=hge i hi;have h0:base<=base+JH*i:=jf _ _;exact ⟨by omega,by omega⟩
 ·rcases hb with hb|⟨id,sb,h1,h2⟩
  ·have hH:H b≠aK:=by
    cases h:H0 b with
    |none=>exact (hb h).elim |some o=>rw[r.ch.IX b o h];simp
   rw[hkeep b hH];exact r.agr b (.inl hb)
  ·rw[(hother id sb b h1 h2).1]
   exact r.agr b (.inr ⟨id,sb,h1,h2⟩)
 ·exact st'.BZ.on b o (mv.IX b o (r.ch.IX b o hb))
theorem Ld{call:Nat->List SV->Core->Tree (SV×Core)}(hC:BG P C)(hF:BP P C)(hK:H8 P C K call)(hH0:AO K H0 E0 w0 lock)(hg0:Dj C.gls H0)
  (hl0:∀id sb,Ak lock id=ak sb->Ak c0.hp id=ak sb) (hns:uI BH=aC) {R:Act->World->Prop} {φ:Core->Prop}
  (hfin:∀H E w c a listed Ik,Rg C K BH base JH lock H0 E0 w0 c0 H E w c a listed Ik->φ c->R a w) :
  ∀(n:Nat) (listed:Array Bool) (Ik:List SV) (c:Core) (H:Mem) (E:Env) (w:World) (a:Act) (m:Nat),Rg C K BH base JH lock H0 E0 w0 c0 H E w c a listed Ik->cnt BH listed<=m->
   (explore C call base JH BH lock n listed Ik c).All φ->wpAnyH P .any BH (fun e a w=>e=.normal/\R a w) (Still H0 E0 lock w0) m listed a w
 |0,_,_,_,_,_,_,_,_,_,_,h=>h.elim |n+1,listed,Ik,c,H,E,w,a,m,r,hm,h=>by
  unfold explore at h;simp only[aij] at h;split at h
  ·rename_i hr
   exact wpAnyH_done hr ⟨rfl,hfin H E w c a listed Ik r h⟩ m
  ·rename_i hne
   have hrange:∀i,i∈kS .any BH listed->i<BH.size/\listed.getD i aC=ay:=fun i hi=>by
    have h0:=(mem_ready.1 hi).1;refine ⟨?_,h0⟩;unfold kS at hi;exact dh.1 (List.mem_filter.1 hi).1
   have hdec:∀i,i∈kS .any BH listed->∃m',m=m'+1/\cnt BH (listed.setIfInBounds i aC)<=m':=fun i hi=>by
    have:=anq (hrange i hi).1 (hrange i hi).2;exact ⟨m - 1,by omega,by omega⟩
   split at h
   ·rename_i j bs v v0 hq
    obtain ⟨i,hi,hq1⟩:=Qv hq (by simp);obtain ⟨hb,h⟩:=aaV h;obtain ⟨rfl,o,u,ho,hf,hy,hd,hd0⟩:=aeT hC hH0 hg0 r hq1 hb;obtain ⟨m',rfl,hm'⟩:=hdec j hi;have hop:(opAt BH.toList j).bind (·.dst)=o.dst:=by simp[opAt,ho]
    rw[hop] at h;refine wpAnyH_take ho hns hf (by simpa using hi) (fun c a w hh=>by cases hh.1) hy ⟨r.agr,r.on⟩ ?_;exact Ld hC hF hK hH0 hg0 hl0 hns hfin n _ _ _ H E w _ m' (r.take hd hd0) hm' h
   ·rename_i d t hq
    obtain ⟨i,hi,hq1⟩:=Qv hq (by simp);have ht:=agc hC r hq1;cases t with
    |true=>exact Ld hC hF hK hH0 hg0 hl0 hns hfin n _ _ _ H E w a m (r.know ht) hm (h.1 rfl) |false=>exact Ld hC hF hK hH0 hg0 hl0 hns hfin n _ _ _ H E w a m (r.know ht) hm (h.2 rfl)
   ·rename_i hq
    have hall:=aaW h;obtain ⟨i0,hi0⟩:∃i0,i0∈kS .any BH listed:=by
     cases hr:kS .any BH listed with
     |nil=>exact (hne hr).elim |cons x xs=>exact ⟨x,bZ ..⟩
    obtain ⟨m',rfl,_⟩:=hdec i0 hi0;refine wpAnyH_all rfl (fun hr=>hne hr) fun i hi=>?_
    obtain ⟨m'',azc,hc⟩:=hdec i hi;have hmm:m''=m':=by omega
    subst hmm;have hi':=hrange i hi;have st1:St C K H E w {c with tc:=[],nx:=base+JH*i,lim:=base+JH*(i+1)} a:=
     ⟨r.st.den,r.st.hp,r.st.BZ,fun k h1 h2=>r.free i hi'.1 hi'.2 k h1 h2,r.st.gl,r.st.defers⟩
    refine U9 hC hF hK st1 (Tree.DZ (hall i hi)) _ _ fun c' a' H' E' w' e1 e2 e3 e4=>?_
    obtain ⟨u,e4⟩:=e4;cases hdj:disjoint c'.tc lock<;>simp only[hdj,cond_true,cond_false] at e1
    ·exact e1.elim
    have hop:opAt BH.toList i=BH[i]?:=by simp[opAt]
    rw[hop] at e1;have r':=r.step hl0 hi'.1 e2 e3 e4 hdj;exact ⟨⟨r'.agr,r'.on⟩,Ld hC hF hK hH0 hg0 hl0 hns hfin n _ _ _ H' E' w' a' m'' r' hc e1⟩
theorem St.sameHeap{c:Core}{a:Act}(st:St C K H E w c a)(h1:w'.heap=w.heap)(h2:w'.os=w.os)(h3:w'.tape=w.tape)(h4:w'.output=w.output):St C K H E w' c a:=
 ⟨st.den,⟨fun id sb hl=>(st.hp.ent id sb hl).kept (fun _ _ e=>e) (fun _ _ e=>e) (fun b _=>by rw[h1]) fun b hb=>((st.hp.ent id sb hl).lt hb).2.1,st.hp.Gq⟩,
  ⟨h2.trans st.BZ.os,h3.trans st.BZ.tape,h4.trans st.BZ.output,by rw[h1];exact st.BZ.size,fun b hb hn=>by rw[h1];exact st.BZ.kept b hb hn,fun b o hb=>by rw[h1];exact st.BZ.on b o hb,st.BZ.le,st.BZ.fresh⟩,
  st.free,st.gl,st.defers⟩
theorem aeU{c c':Core}(h:Mv K H E w c H' E' w' c')(h1:w.heap=w''.heap):Mv K H E w'' c H' E' w' c':=by
 obtain ⟨a1,a2,a3,a4,a5,a6,a7,a8,a9,a10,a11,a12,a13,a14,a15,a16⟩:=h;exact ⟨a1,a2,a3,a4,a5,a6,a7,a8,a9,a10,by rw[<-h1];exact a11,by rw[<-h1];exact a12,by rw[<-h1];exact a13,a14,a15,a16⟩
theorem BK.Ei:∀{l l':List BK},dI (l++l')->dI l/\dI l'
 |[],_,h=>⟨trivial,h⟩ |_::_,_,h=>⟨⟨h.1,(BK.Ei h.2).1⟩,(BK.Ei h.2).2⟩
theorem BN{a b:Option (List BK)}{l:List BK}(h:E5 a b=ak l):∃x y,a=ak x/\b=ak y/\l=x++y:=by
 unfold E5 at h;split at h
 ·cases h;exact ⟨_,_,rfl,rfl,rfl⟩
 ·cases h
theorem Bg{c:Bool}{a:Option (List BK)}{l:List BK}(h:Dh c a=ak l):c=aC/\a=ak l:=by
 cases c
 ·cases h
 ·exact ⟨rfl,h⟩
theorem anr{s s':Sh}{q:List BK}(h:amX s s'=ak q)(ha:dI q):s=s':=by
 unfold amX at h;split at h
 ·obtain ⟨h1,h2⟩:=Bg h
  simp only[aI,beq_iff_eq] at h1;obtain ⟨rfl,rfl⟩:=h1;rfl
 ·cases h
  exact ha.1
mutual
theorem PK:∀{x y:SV} {q:List BK},YT x y=ak q->dI q->x=y
 |x,y,q,h,ha=>by
  unfold YT at h;split at h;all_goals first
   |(cases h;done)
   |(cases h;rfl)
   |(obtain ⟨h1,h2⟩:=Bg h;simp only[aI,beq_iff_eq] at h1;obtain ⟨rfl,rfl⟩:=h1;rfl)
   |(obtain ⟨h1,h2⟩:=Bg h;simp only[beq_iff_eq] at h1;subst h1;cases h2;rfl)
   |skip
  case h_3=>obtain ⟨h1,h2⟩:=Bg h;simp only[beq_iff_eq] at h1;subst h1;cases h2;rw[ha.1]
  case h_5=>cases h;rw[ha.1]
  case h_7=>cases h;rw[ha.1]
  case h_10=>obtain ⟨h1,h2⟩:=Bg h;simp only[aI,beq_iff_eq] at h1;obtain ⟨⟨rfl,rfl⟩,rfl⟩:=h1;cases h2;rw[ha.1]
  case h_11=>obtain ⟨h1,h2⟩:=Bg h;simp only[aI,beq_iff_eq] at h1;obtain ⟨rfl,rfl⟩:=h1;cases h2;rw[ha.1,ha.2.1,ha.2.2.1]
  case h_17=>obtain ⟨h1,h2⟩:=Bg h;simp only[beq_iff_eq] at h1;subst h1;rw[JB h2 ha]
  case h_18=>rw[JB h ha]
  case h_19=>rw[JB h ha]
  case h_20=>obtain ⟨h1,h2⟩:=Bg h;simp only[beq_iff_eq] at h1;subst h1;rw[PK h2 ha]
  case h_24=>rw[anr h ha]
theorem JB:∀{l m:List SV} {q:List BK},LH l m=ak q->dI q->l=m
 |[],[],_,_,_=>rfl |x::l,y::m,q,h,ha=>by
  simp only[LH] at h;obtain ⟨a,b,h1,h2,rfl⟩:=BN h;rw[PK h1 (BK.Ei ha).1,JB h2 (BK.Ei ha).2]
 |[],_::_,_,h,_=>by simp[LH] at h |_::_,[],_,h,_=>by simp[LH] at h
end
theorem adz:∀{l m:List (SV×SV)} {q:List BK},XO l m=ak q->dI q->l=m
 |[],[],_,_,_=>rfl |(a,b)::l,(c,d)::m,q,h,ha=>by
  simp only[XO] at h;obtain ⟨q1,q2,h1,h2,rfl⟩:=BN h;obtain ⟨q3,q4,h3,h4,rfl⟩:=BN h2;obtain ⟨a1,a2⟩:=BK.Ei ha;obtain ⟨a3,a4⟩:=BK.Ei a2;rw[PK h1 a1,PK h3 a3,adz h4 a4]
 |[],_::_,_,h,_=>by simp[XO] at h |_::_,[],_,h,_=>by simp[XO] at h
theorem aaY:∀{l m:List (Int×Bool×SV)} {q:List BK},aaD l m=ak q->dI q->l=m
 |[],[],_,_,_=>rfl |(a,p,b)::l,(c,r,d)::m,q,h,ha=>by
  simp only[aaD] at h;obtain ⟨h0,h⟩:=Bg h;obtain ⟨q1,q2,h1,h2,rfl⟩:=BN h;obtain ⟨q3,q4,h3,h4,rfl⟩:=BN h2;obtain ⟨a1,a2⟩:=BK.Ei ha;obtain ⟨a3,a4⟩:=BK.Ei a2;cases h1;have h0:p=r:=by simpa using h0
  rw[h0,a1.1,PK h3 a3,aaY h4 a4]
 |[],_::_,_,h,_=>by simp[aaD] at h |_::_,[],_,h,_=>by simp[aaD] at h
theorem agf:∀{l m:List (DY×Bool×SV)} {q:List BK},adq l m=ak q->dI q->l=m
 |[],[],_,_,_=>rfl |((a,s),p,b)::l,((c,t),r,d)::m,q,h,ha=>by
  simp only[adq] at h;obtain ⟨h0,h⟩:=Bg h;obtain ⟨q1,q2,h1,h2,rfl⟩:=BN h;obtain ⟨q3,q4,h3,h4,rfl⟩:=BN h2;obtain ⟨a1,a2⟩:=BK.Ei ha;obtain ⟨a3,a4⟩:=BK.Ei a2;cases h1;have h0:p=r:=by simpa using h0
  have e1:a=c:=a1.1;have e2:s=t:=a1.2.1;rw[h0,e1,e2,PK h3 a3,agf h4 a4]
 |[],_::_,_,h,_=>by simp[adq] at h |_::_,[],_,h,_=>by simp[adq] at h
theorem alE{x y:Option (Nat×Int)}{q:List BK}(h:aik x y=ak q)(ha:dI q):x=y:=by
 unfold aik at h;split at h
 ·rfl
 ·obtain ⟨h1,h2⟩:=Bg h
  cases h2;have h1:=by simpa using h1
  rw[h1,ha.1]
 ·cases h
theorem ant{x y:SB}{q:List BK}(h:amY x y=ak q)(ha:dI q):x=y:=by
 unfold amY at h;split at h
 ·obtain ⟨h1,h2⟩:=Bg h
  have h1:=by simpa using h1
  rw[h1,JB h2 ha]
 ·obtain ⟨h1,h2⟩:=Bg h
  simp only[aI,beq_iff_eq] at h1;rw[h1.1.1,h1.1.2,h1.2,JB h2 ha]
 ·obtain ⟨h1,h2⟩:=Bg h
  simp only[aI,beq_iff_eq] at h1;cases h2;rw[h1.1,h1.2,ha.1,ha.2.1]
 ·obtain ⟨h1,h2⟩:=Bg h
  have h1:=by simpa using h1
  cases h2;rw[h1,ha.1,ha.2.1]
 ·rw[adz h ha]
 ·cases h
  have:=ha.1;simp only[BK.ok,Sh.pt.injEq] at this;rw[this]
 ·obtain ⟨h1,h2⟩:=Bg h
  simp only[aI,beq_iff_eq] at h1;obtain ⟨q1,q2,h3,h4,rfl⟩:=BN h2;cases h3;obtain ⟨a1,a2⟩:=BK.Ei ha;rw[h1.1,h1.2,a1.1,a1.2.1,JB h4 a2]
 ·obtain ⟨h1,h2⟩:=Bg h
  have h1:=by simpa using h1
  cases h2;rw[h1,ha.1]
 ·obtain ⟨h1,h2⟩:=Bg h
  have h1:=by simpa using h1
  obtain ⟨q1,q2,h3,h4,rfl⟩:=BN h2;obtain ⟨q3,q4,h5,h6,rfl⟩:=BN h4;obtain ⟨q5,q6,h7,h8,rfl⟩:=BN h6;cases h3;obtain ⟨a1,a2⟩:=BK.Ei ha;obtain ⟨a3,a4⟩:=BK.Ei a2;obtain ⟨a5,a6⟩:=BK.Ei a4;rw[h1,a1.1,aaY h5 a3,aaY h7 a5,alE h8 a6]
 ·obtain ⟨h1,h2⟩:=Bg h
  have h1:=by simpa using h1
  obtain ⟨q1,q2,h3,h4,rfl⟩:=BN h2;cases h3;obtain ⟨a1,a2⟩:=BK.Ei ha;rw[h1,show _=_ from a1.1,agf h4 a2]
 ·cases h
theorem agh:∀{l m:List (Nat×SB)} {q:List BK},adr l m=ak q->dI q->l=m
 |[],[],_,_,_=>rfl |(i,a)::l,(j,b)::m,q,h,ha=>by
  simp only[adr] at h;obtain ⟨h0,h⟩:=Bg h;obtain ⟨q1,q2,h1,h2,rfl⟩:=BN h;have h0:=by simpa using h0
  rw[h0,ant h1 (BK.Ei ha).1,agh h2 (BK.Ei ha).2]
 |[],_::_,_,h,_=>by simp[adr] at h |_::_,[],_,h,_=>by simp[adr] at h
theorem aiJ{a b:Core}{q:List BK}(h:aeE a b=ak q)(ha:dI q):a=b:=by
 unfold aeE at h;obtain ⟨h0,h⟩:=Bg h;obtain ⟨q1,q2,h1,h2,rfl⟩:=BN h;simp only[aI,beq_iff_eq] at h0;obtain ⟨⟨h3,h4⟩,h5⟩:=h0;obtain ⟨t,hp,nx,lim,tc⟩:=a;obtain ⟨t',hp',nx',lim',tc'⟩:=b;simp only at h1 h2 h3 h4 h5;rw[JB h1 (BK.Ei ha).1,agh h2 (BK.Ei ha).2,h3,h4,h5]
def Ob.ok:Ob->Prop
 | .b x=>x=aC | .e l=>dI l
theorem Qw{α:Type}{φ:α->Prop}:∀{t:Tree α} {o:List Ob} {a:α},strip t=ak (o,a)->(∀x∈o,x.ok)->φ a->t.All φ
 | .leaf _,o,a,h,_,hφ=>by simp[strip] at h;rw[h.2];exact hφ | .need b t,o,a,h,ho,hφ=>by
  simp only[strip,bW,jW] at h;obtain ⟨⟨o',a'⟩,h1,rfl,rfl⟩:=h;exact ⟨ho _ (bZ ..),Qw h1 (fun x hx=>ho x (dA _ hx)) hφ⟩
 | .must l t,o,a,h,ho,hφ=>by
  simp only[strip,bW,jW] at h;obtain ⟨⟨o',a'⟩,h1,rfl,rfl⟩:=h;exact ⟨ho _ (bZ ..),Qw h1 (fun x hx=>ho x (dA _ hx)) hφ⟩
 | .node _ _ _,_,_,h,_,_=>by simp[strip] at h | .both _ _,_,_,h,_,_=>by simp[strip] at h | .fail,_,_,h,_,_=>by simp[strip] at h
theorem X5{α:Type}{φ:α->Prop}{t:Tree α}:∀{o:List Ob},(wrap t o).All φ->(∀x∈o,x.ok)/\t.All φ
 |[],h=>⟨fun _ h=>(by cases h),h⟩ | .b x::r,h=>by
  obtain ⟨h1,h2⟩:=h;obtain ⟨h3,h4⟩:=X5 h2;refine ⟨fun y hy=>?_,h4⟩;cases hy with
  |head=>exact h1 |tail _ hy=>exact h3 y hy
 | .e l::r,h=>by
  obtain ⟨h1,h2⟩:=h;obtain ⟨h3,h4⟩:=X5 h2;refine ⟨fun y hy=>?_,h4⟩;cases hy with
  |head=>exact h1 |tail _ hy=>exact h3 y hy
theorem aiK{α:Type}{φ:α->Prop}{t:Tree α}{l:List BK}(h:(XP l t).All φ):dI l/\t.All φ:=by
 unfold XP at h;split at h
 ·exact ⟨trivial,h⟩
 ·exact h
theorem agi{t f:Tree Core}{φ:Core->Prop}(h:(aae t f).All φ):t.All φ/\f.All φ:=by
 unfold aae at h;split at h
 ·rename_i o a q b h1 h2
  split at h
  ·rename_i l he
   obtain ⟨h3,h4⟩:=X5 h;obtain ⟨h5,h6⟩:=aiK h4;have:=aiJ he h5;subst this;exact ⟨Qw h1 (fun x hx=>h3 x (bI.2 (.inl hx))) h6,Qw h2 (fun x hx=>h3 x (bI.2 (.inr hx))) h6⟩
  ·exact h
 ·exact h
theorem Jk{φ:Core->Prop}:∀{t:Tree Core},(merge t).All φ->t.All φ
 | .leaf _,h=>h | .fail,h=>h | .need _ t,h=>⟨h.1,Jk h.2⟩ | .must _ t,h=>⟨h.1,Jk h.2⟩ | .node _ t f,h=>⟨fun e=>Jk (h.1 e),fun e=>Jk (h.2 e)⟩ | .both t f,h=>by
  have:=agi (show (aae (merge t) (merge f)).All φ from h);exact ⟨Jk this.1,Jk this.2⟩
theorem Ze:∀{m:Nat} {l:List SV} {vs:List Value},AA H E l vs->AA H E (aaf m l) vs
 |_,[],_,h=>h |m,x::l,v::vs,⟨h1,h2⟩=>by
  simp only[aaf];refine ⟨?_,Ze h2⟩;cases fC (m % 2) 1
  ·trivial
  ·exact h1
 |_,_::_,[],h=>h.elim
theorem aaZ{g:Nat}{l:List SV}{vs:List Value}(h:AA H E l vs):AA H E (Ns C g l) vs:=by
 unfold Ns;split
 ·exact Ze h
 ·exact h
theorem adA{i j:Nat}:∀{l:List Nat},i∈afF j l↔i=j\/i∈l
 |[]=>by simp[afF] |k::l=>by
  unfold afF;cases h1:(j==k)<;>simp only[cond_true,cond_false]
  ·cases h2:fV j k<;>simp only[cond_true,cond_false]
   ·simp only[List.mem_cons,adA (l:=l)]
    constructor
    ·rintro (h|h|h)<;>simp[h]
    ·rintro (h|h|h)<;>simp[h]
   ·simp
  ·obtain rfl:j=k:=by simpa using h1
   simp
theorem aa0{i:Nat}:∀{l:List Nat},i∈RP l↔i∈l
 |[]=>by simp[RP] |j::l=>by simp[RP,adA,aa0 (l:=l)]
theorem Ch.avN{hp hp':List (Nat×SB)}{tc tc' X0:List Nat}{N:Nat->Prop}(h:Ch K H E w hp tc H' E' w' hp' tc' N)(he:∀i,i∈X0↔i∈tc'):Ch K H E w hp tc H' E' w' hp' X0 N:=
 {h with
  tc:=fun id hid=>(he id).2 (h.tc id hid)
  fr:=fun b hb hne=>h.fr b hb fun id hid=>hne id ((he id).2 hid)
  Om:=fun i b h1 h2=>(h.Om i b h1 h2).imp (fun h=>h) fun ⟨id,h3,h4⟩=>⟨id,(he id).2 h3,h4⟩
  ZR:=fun id hid=>h.ZR id ((he id).1 hid)
  keep:=fun id sb b h1 h2 h3=>h.keep id sb b h1 (fun h4=>h2 ((he id).2 h4)) h3}
theorem aa1{call:Nat->List SV->Core->Tree (SV×Core)}(hC:BG P C)(hF:BP P C)(hK:H8 P C K call){c:Core}{a:Act}{φ:Core->Prop}(st:St C K H E w c a){g:Nat}(h:(drawn C call g BH c).All φ):
  wpAny P .any BH (fun e a' w'=>e=.normal/\∃c' H' E',φ c'/\St C K H' E' w' c' a'/\Mv K H E w c H' E' w' c') BH.size (dY BH.size ay) a {w with drawn:=w.drawn+1}:=by
 unfold drawn at h;simp only at h;generalize hlk:MJ c.hp (XQ C BH.toList c [])=lock at h;cases hb:(iq (c.nx+JO c BH.size*BH.size) c.lim&&uI BH)<;>simp only[hb,cond_true,cond_false] at h
 ·exact h.elim
 simp only[aI] at hb;have hle:=gq hb.1;let w1:World:={w with drawn:=w.drawn+1}
 have st1:St C K H E w1 c a:=st.sameHeap rfl rfl rfl rfl;have hlook:∀id sb,Ak lock id=ak sb->Ak c.hp id=ak sb:=fun id sb hl=>by rw[<-hlk] at hl;exact Va hl
 have hH0:AO K H E w1 lock:=⟨fun id sb hl=>st1.hp.ent id sb (hlook id sb hl),fun i j s1 s2 b h1 h2=>st1.hp.Gq i j s1 s2 b (hlook _ _ h1) (hlook _ _ h2)⟩;have hrefl:Ch K H E w1 c.hp c.tc H E w1 c.hp c.tc (fun i=>c.nx<=i/\i<c.nx+JO c BH.size*BH.size):=by
  have:=(pz (c:=c) st1.hp st1.BZ).mv.ch;exact this.mono fun i hi=>by have h2:i<c.nx:=hi.2;exact ⟨hi.1,by omega⟩
 refine wpAny_of_held (S:=Still H E lock w1) _ _ _ _ ?_;refine (Ld (c0:=c) (R:=fun a' w'=>∃c' H' E',φ c'/\St C K H' E' w' c' a'/\Mv K H E w c H' E' w' c') (φ:=fun c'=>φ {tm:=Ns C g c'.tm,hp:=c'.hp,nx:=c.nx+JO c BH.size*BH.size,lim:=c.lim,tc:=RP c'.tc}) hC hF hK hH0 st1.gl hlook hb.2 ?_
  (2*BH.size+1) (dY BH.size ay) c.tm {c with nx:=0,lim:=0} H E w1 a BH.size ?_ ?_ (Tree.DZ (Jk h)))
 ·intro H' E' w' c' a' listed Ik r hφ
  have hnew:Free E' {tm:=Ns C g c'.tm,hp:=c'.hp,nx:=c.nx+JO c BH.size*BH.size,lim:=c.lim,tc:=RP c'.tc}:=fun i h1 h2=>by
   have h1:c.nx+JO c BH.size*BH.size<=i:=h1;have h2:i<c.lim:=h2;cases he:E' i with
   |none=>rfl |some v=>
    have:=r.ch.new i (st.free i (by omega) h2) (by rw[he];simp);omega
  refine ⟨_,H',E',hφ,⟨aaZ r.st.den,r.st.hp,r.st.BZ,hnew,r.st.gl,r.st.defers⟩,?_⟩;exact aeU (Ch.mv (c:=c) (c':={tm:=Ns C g c'.tm,hp:=c'.hp,nx:=c.nx+JO c BH.size*BH.size,lim:=c.lim,tc:=RP c'.tc}) (r.ch.avN fun i=>aa0) (jf _ _) (.inl hle) rfl) rfl
 ·refine ⟨⟨st1.den,st1.hp,st1.BZ,fun i h1 h2=>by simp at h2,st1.gl,st1.defers⟩,rfl,rfl,fun j hj _ id h1 h2=>?_,st1.den,hrefl,fun id sb b h1 h2=>.inr ⟨sb,hlook id sb h1,h2⟩,fun _ _=>rfl,st1.BZ.on⟩
  have:c.nx+JO c BH.size*(j+1)<=c.nx+JO c BH.size*BH.size:=tK (kW _ hj) _;exact st.free id (by omega) (by omega)
 ·unfold cnt
  exact iM (List.countP_le_length) (by simp)
theorem alF{call:Nat->List SV->Core->Tree (SV×Core)}(hC:BG P C)(hF:BP P C)(hK:H8 P C K call){c:Core}{a:Act}{φ:Core->Prop}{id:Nat}(st:St C K H E w c a){g:Nat}(h:(drawn C call g BH c).All φ):
  (Code.region id BH aC).wp P (fun e a' w'=>e=.normal/\∃c' H' E',φ c'/\St C K H' E' w' c' a'/\Mv K H E w c H' E' w' c') a w:=
 wp_region_any hC.mixed (aa1 hC hF hK st h)
end
section
variable{P:Program}{C:Ctx}{K:Kx}{H H' OQ:Mem}{E E' OT:Env}{w w' w'':World}
theorem aq9{ops:Array Oper}{i:Nat}{rest:List Nat}{next:Act->World->Prop}{a:Act}(h:wpOp P ops (fun _ _ _=>False) i next a w)(b:Frame)(k:List Item)(cs:List Frame):
  ∃a' w',next a' w'/\Steps P (lone (b.at a (.inRegion ops (i::rest)::k)) cs w) (lone (b.at a' (.inRegion ops rest::k)) cs w'):=by
 unfold wpOp at h;cases ho:ops[i]? with
 |none=>
  simp only[ho] at h;have hs:=step_op_skip (P:=P) (b:=b) (a:=a) (k:=k) (cs:=cs) (w:=w) (ops:=ops) (i:=i) (rest:=rest) (by simp[ho]);simp only[ho,Option.bind_none,uH] at hs;exact ⟨a,w,h,.one hs⟩
 |some o=>
  simp only[ho] at h;by_cases hw:jB o (yielded ops a.tmps)=aC
  ·simp only[hw,if_true] at h
   rcases h with h|⟨_,_,_,hq⟩
   case inr=>exact hq.elim
   simp only[xP] at h;have hg:=stepG_op (P:=P) (b:=b) (k:=k) (cs:=cs) (w:=w) (rest:=rest) ho hw;have hfin:∀v,(b.at a (.inRegion ops (i::rest)::k)).finish v=b.at (a.put o.dst v) (.inRegion ops rest::k):=by
    intro v;rw[mG,ho];rfl
   generalize hr:(execOp a.eval o).run P w=r at h;cases r with
   |ok n w'=>
    cases n<;>simp only[xq] at h
    case value v=>
     refine ⟨_,_,h,.one (step_lone_go ?_)⟩;rw[hg,<-hfin];simp[gX,hr]
    case skip=>
     refine ⟨_,_,h,.one (step_lone_go ?_)⟩;rw[hg,<-hfin];simp[gX,hr]
    case defer d=>
     refine ⟨_,_,h,.one (step_lone_go ?_)⟩;have:({b.at a (.inRegion ops (i::rest)::k) with defers:=d::a.defers}:Frame).finish undef =
       b.at ({a with defers:=d::a.defers}.put o.dst undef) (.inRegion ops rest::k):=by
      have:=mG b {a with defers:=d::a.defers} ops i rest k undef
      rw[ho] at this;exact this
     rw[hg];simp only[gX,Sem.runT_eq,hr,GStep.bare_after];exact congrArg (fun fr=>GStep.go {frame:=fr,callers:=cs,status:=.running,dying:=aK} w') this
    case enter f args=>
     obtain ⟨e,w'',fr,hR,hsteps,_,hleave⟩:=h (b.at a (.inRegion ops (i::rest)::k)::cs);have henter:step P (lone (b.at a (.inRegion ops (i::rest)::k)) cs w) =
       .next (lone (gQ P f args .normal) (b.at a (.inRegion ops (i::rest)::k)::cs) w'):=
      step_lone_go (by rw[hg];simp[gX,hr,Frame.at])
     cases e with
     |returned v=>
      refine ⟨_,_,hR,.head henter (hsteps.trans (.one ?_))⟩;rw[<-hfin];exact step_leave_returned hleave
     |panicked chain=>exact hR.elim |outgrown=>obtain ⟨_,_,hq⟩:=hR;exact hq.elim
    case row row args=>
     obtain ⟨v,w'',hR,hsteps⟩:=h (b.at a (.inRegion ops (i::rest)::k)) cs;have henter:step P (lone (b.at a (.inRegion ops (i::rest)::k)) cs w) =
       .next (lone (Frame.ofRow P row args .normal) (b.at a (.inRegion ops (i::rest)::k)::cs) w'):=
      step_lone_go (by rw[hg];simp[gX,hr,Frame.at])
     refine ⟨_,_,hR,.head henter ?_⟩;rw[<-hfin];exact hsteps
    all_goals exact h.elim
   |halt x w'=>
    cases x<;>simp only[xq] at h
    all_goals exact h.elim
  ·simp only[hw,if_false,Bool.false_eq_true] at h
   have hs:=step_op_skip (P:=P) (b:=b) (a:=a) (k:=k) (cs:=cs) (w:=w) (ops:=ops) (i:=i) (rest:=rest)
    (by simp[ho];simpa using hw)
   simp only[ho,eU] at hs;exact ⟨_,_,h,.one hs⟩
inductive CO(body:Code):List It->List Item->Prop
 |nil:CO body [] []
 |code (p:List Nat) {td:List It} {k:List Item}:CO body td k->CO body (.code p::td) (.code (Ba body p)::k)
 |loop (p:List Nat) (x:Code) {td:List It} {k:List Item}:Ba body p=.loop x->CO body td k->CO body (.code p::td) (.inLoop x::k)
 |inBlock (id:Nat) {td:List It} {k:List Item}:CO body td k->CO body (.inBlock id::td) (.inBlock id::k)
 |XR {td:List It} {k:List Item}:CO body td k->CO body (.XR::td) (.beginRound::k)
 |reg (p:List Nat) (l:List Nat) (id:Nat) (ops:Array Oper) {td:List It} {k:List Item}:Ba body p=.region id ops ay->CO body td k->CO body (.reg p l::td) (.inRegion ops l::k)
theorem agj{body:Code}{id:Nat}:∀{td Gj:List It} {k:List Item},CO body td k->Gg id td=ak Gj->∃k',exitTo id k=ak k'/\CO body Gj k':=by
 intro td Gj k h;induction h with
 |nil=>intro h;simp[Gg] at h |code p _ ih=>intro h;simp only[Gg] at h;obtain ⟨k',h1,h2⟩:=ih h;exact ⟨k',by simpa[exitTo] using h1,h2⟩ |XR _ ih=>intro h;simp only[Gg] at h;obtain ⟨k',h1,h2⟩:=ih h;exact ⟨k',by simpa[exitTo] using h1,h2⟩ |loop p x _ _ ih=>intro h;simp only[Gg] at h;obtain ⟨k',h1,h2⟩:=ih h;exact ⟨k',by simpa[exitTo] using h1,h2⟩ |reg p l id ops _ _ ih=>intro h;simp only[Gg] at h;obtain ⟨k',h1,h2⟩:=ih h;exact ⟨k',by simpa[exitTo] using h1,h2⟩ |inBlock j h0 ih=>
  intro h;simp only[Gg] at h;cases hj:(j==id)<;>simp only[hj,cond_true,cond_false] at h
  ·obtain ⟨k',h1,h2⟩:=ih h
   refine ⟨k',?_,h2⟩;have:j≠id:=by simpa using hj
   simp[exitTo,this,h1]
  ·cases h
   obtain rfl:j=id:=by simpa using hj
   exact ⟨_,by simp[exitTo],h0⟩
def resV(a:Act)(r:ResultVar):Sem Value:=
 match r with
 | .tmp t=>pure (a.tmps.getD t undef) | .cell x t=>do loadVar t (<-asAddr (a.tmps.getD x undef))
theorem ac3(fn:Func)(a:Act):results fn a.tmps=(do let vs <-fn.results.mapM (resV a);pure (if h:vs.size=1 then vs[0] else .tuple vs)):=rfl
theorem WL(hC:BG P C){c:Core}{a:Act}(st:St C K H E w c a):∀{rs:List ResultVar} {l:List SV},aaE C c rs=ak l->∃vs:List Value,
  (rs.mapM (resV a)).run P w=.ok vs w/\AA H E l vs
 |[],l,h=>by simp[aaE] at h;subst h;exact ⟨[],by simp,trivial⟩ | .tmp t::rs,l,h=>by
  simp only[aaE] at h;split at h
  ·rename_i sv r h1 h2
   cases h;obtain ⟨vs,e1,e2⟩:=WL hC st h2;obtain ⟨u,h3,h4⟩:=st.den.get h1;refine ⟨u::vs,?_,h4,e2⟩;rw[dX] at h3;have:a.tmps.getD t undef=u:=by simp[Array.getD_eq_getD_getElem?,h3]
   have hv:(resV a (.tmp t)).run P w=.ok u w:=by simp[resV,this]
   simp only[wR,gK,hv,pI,gy,e1]
  ·cases h
 | .cell x t::rs,l,h=>by
  simp only[aaE] at h;split at h
  ·rename_i i r h1 h2
   simp only[bW] at h;obtain ⟨sv,h3,rfl⟩:=h;obtain ⟨vs,e1,e2⟩:=WL hC st h2;have ht:=hC.ty _ _ h1;have dx:=BA (H:=H) (E:=E) st.den (.tmp x);obtain ⟨ad,cs,q1,q2,q3,q4⟩:=YV (w:=w) dx st.hp st.gl (fun hz=>by
    obtain ⟨_,_,_,_,_,_,_,_,_,h1⟩:=ht.info;exact (h1 hz).1) h3
   refine ⟨Nv i.ty.isAgg cs::vs,?_,q3,e2⟩;have q1:a.tmps.getD x undef=.pointer (ak ad):=q1;have hl:=adt ht q2 (q4 w (UY.refl _ _ _ _) st.BZ.on);have hv:(resV a (.cell x t)).run P w=.ok (Nv i.ty.isAgg cs) w:=by simp[resV,asAddr,q1,hl,Nv]
   simp only[wR,gK,hv,pI,gy,e1]
  ·cases h
theorem aa2(hC:BG P C){c:Core}{a:Act}{fn:Func}{φ:Out->Prop}(st:St C K H E w c a)(h:(result C fn c).All φ):∃sv v,φ (.done sv c)/\Den H E sv v/\(results fn a.tmps).run P w=.ok v w:=by
 have key:∀vs:List Value,(fn.results.toList.mapM (resV a)).run P w=.ok vs w->
   (results fn a.tmps).run P w=.ok (if h:vs.toArray.size=1 then vs.toArray[0] else .tuple vs.toArray) w:=by
  intro vs hv;rw[ac3,Array.mapM_eq_mapM_toList];simp only[gK,map_eq_pure_bind,hv,pI,gy]
 unfold result at h;split at h
 ·rename_i sv hs
  obtain ⟨vs,e1,e2⟩:=WL hC st hs;match vs,e2 with
  |[v],⟨e2,_⟩=>
   exact ⟨sv,v,h,e2,by simpa using key [v] e1⟩
 ·rename_i l hne hs
  obtain ⟨vs,e1,e2⟩:=WL hC st hs;refine ⟨_,.tuple vs.toArray,h,⟨vs.toArray,rfl,e2⟩,?_⟩;rw[key vs e1,dif_neg];intro h1;have:=e2.length;simp at h1;match l,hne,(this ▸ h1:l.length=1) with
  |[x],hne,_=>exact hne x rfl
 ·exact h.elim
end
section
variable{P:Program}{C:Ctx}{K:Kx}{H H' OQ:Mem}{E E' OT:Env}{w w' w'':World}
def aeV(P:Program)(C:Ctx)(K:Kx)(fn:Func)(g:Nat)(H:Mem)(E:Env)(w:World)(c:Core)(m:Machine)(b:Frame)(cs:List Frame):Out->Prop
 | .done sv c'=>∃(a':Act) (w':World) (H':Mem) (E':Env) (v:Value) (todo:List Item),Steps P m (lone {b.at a' todo with mode:=.returning} cs w')/\St C K H' E' w' c' a'/\Mv K H E w c H' E' w' c'/\
   Den H' E' sv v/\(results fn a'.tmps).run P w'=.ok v w'
 | .stop g' Gj c'=>g'=g/\∃(a':Act) (w':World) (H':Mem) (E':Env) (items':List Item),Steps P m (lone (b.at a' items') cs w')/\St C K H' E' w' c' a'/\Mv K H E w c H' E' w' c'/\CO (Az fn) Gj items'
theorem aeV.of{fn:Func}{g:Nat}{c c1:Core}{m m1:Machine}{b:Frame}{cs:List Frame}{out:Out}(hs:Steps P m m1)(hm:Mv K H E w c H' E' w' c1)(h:aeV P C K fn g H' E' w' c1 m1 b cs out):
  aeV P C K fn g H E w c m b cs out:=by
 cases out with
 |done sv c'=>
  obtain ⟨a2,w2,H2,E2,v,todo,h1,h2,h3,h4,h5⟩:=h;exact ⟨a2,w2,H2,E2,v,todo,hs.trans h1,h2,hm.trans h3,h4,h5⟩
 |stop g' Gj c'=>
  obtain ⟨hg,a2,w2,H2,E2,items,h1,h2,h3,h4⟩:=h;exact ⟨hg,a2,w2,H2,E2,items,hs.trans h1,h2,hm.trans h3,h4⟩
def aiL(P:Program)(C:Ctx)(K:Kx)(fn:Func)(H:Mem)(E:Env)(w:World)(c:Core)(m:Machine)(b:Frame)(cs:List Frame):Sig->Prop
 | .done sv c'=>∃(a':Act) (w':World) (H':Mem) (E':Env) (v:Value) (todo:List Item),Steps P m (lone {b.at a' todo with mode:=.returning} cs w')/\St C K H' E' w' c' a'/\Mv K H E w c H' E' w' c'/\
   Den H' E' sv v/\(results fn a'.tmps).run P w'=.ok v w'
 | .go Gj c'=>∃(a':Act) (w':World) (H':Mem) (E':Env) (items':List Item),Steps P m (lone (b.at a' items') cs w')/\St C K H' E' w' c' a'/\Mv K H E w c H' E' w' c'/\CO (Az fn) Gj items' | .halt Gj c'=>∃(a':Act) (w':World) (H':Mem) (E':Env) (items':List Item),Steps P m (lone (b.at a' items') cs w')/\St C K H' E' w' c' a'/\Mv K H E w c H' E' w' c'/\CO (Az fn) Gj items'
theorem St.Ns{c:Core}{a:Act}(st:St C K H E w c a)(g:Nat):St C K H E w {c with tm:=Go.Sx.Ns C g c.tm} a:=
 ⟨aaZ st.den,st.hp,st.BZ,st.free,st.gl,st.defers⟩
theorem X6(hC:BG P C)(hF:BP P C){call:Nat->List SV->Core->Tree (SV×Core)}(hK:H8 P C K call){top:Bool}{g:Nat}{fn:Func}{td:List It}{c:Core}{a:Act}{items:List Item}{φ:Sig->Prop}
  (h:(RQ C call top g fn td c).All φ) (st:St C K H E w c a) (hi:CO (Az fn) td items) (b:Frame) (cs:List Frame) :
  ∃sig,φ sig/\aiL P C K fn H E w c (lone (b.at a items) cs w) b cs sig:=by
 have LJ:Mv K H E w c H E w c:=Ja st rfl rfl rfl rfl;have go:∀{Gj:List It} {c':Core} {H':Mem} {E':Env} {w':World} {a':Act} {items':List Item},φ (.go Gj c')->St C K H' E' w' c' a'->Mv K H E w c H' E' w' c'->CO (Az fn) Gj items'->
   Steps P (lone (b.at a items) cs w) (lone (b.at a' items') cs w')->∃sig,φ sig/\aiL P C K fn H E w c (lone (b.at a items) cs w) b cs sig:=fun h1 h2 h3 h4 h5=>⟨_,h1,_,_,_,_,_,h5,h2,h3,h4⟩
 have fin:∀(todo:List Item),((result C fn c).bind aeF).All φ->step P (lone (b.at a items) cs w)=.next (lone {b.at a todo with mode:=.returning} cs w)->∃sig,φ sig/\aiL P C K fn H E w c (lone (b.at a items) cs w) b cs sig:=fun todo hr hs=>by
  obtain ⟨sv,v,h1,h2,h3⟩:=aa2 hC st (Tree.DZ hr);exact ⟨_,h1,a,w,H,E,v,todo,.one hs,st,LJ,h2,h3⟩
 unfold RQ at h;split at h
 ·cases hi
  exact fin _ h step_end
 ·cases hi with
  |inBlock id hk=>exact go h st LJ hk (.one step_inBlock)
 ·exact h.elim
 ·cases hi with
  |reg p l id ops hc hk=>exact go h (st.Ns g) (Ja st rfl rfl rfl rfl) hk (.one step_region_end)
 ·rename_i p i r k
  cases hi with
  |reg p l id ops hc hk=>
   rw[hc] at h;simp only at h;obtain ⟨a',w',h1,h2⟩:=aq9 (U9 hC hF hK st (Tree.DZ h) (fun a' w'=>∃c' H' E',φ (.go (.reg p r::k) c')/\St C K H' E' w' c' a'/\Mv K H E w c H' E' w' c') (fun _ _ _=>False)
    fun c' a' H' E' w' e1 e2 e3 _=>⟨c',H',E',e1,e2,e3⟩) b _ cs
   obtain ⟨c',H',E',e1,e2,e3⟩:=h1;exact go e1 e2 e3 (.reg p r id ops hc hk) h2
 ·rename_i p k
  have hloop:∀{x:Code},Ba (Az fn) p=x->(∀y,x≠.loop y)->∃k',items=.code x::k'/\CO (Az fn) k k':=fun {x} hx hne=>by
   cases hi with
   |code p hk=>exact ⟨_,by rw[hx],hk⟩ |loop p y hl hk=>exact (hne y (hx.symm.trans hl)).elim
  split at h
  ·rename_i hx
   obtain ⟨k',rfl,hk⟩:=hloop hx (by simp);exact go h st LJ hk (.one step_skip)
  ·rename_i hx
   obtain ⟨k',rfl,hk⟩:=hloop hx (by simp);exact fin _ h step_ret
  ·rename_i x y hx
   obtain ⟨k',rfl,hk⟩:=hloop hx (by simp);have h0:Ba (Az fn) (0::p)=x:=by simp[Ba,hx,child]
   have h1:Ba (Az fn) (1::p)=y:=by simp[Ba,hx,child]
   have:=CO.code (0::p) (CO.code (1::p) hk);rw[h0,h1] at this;exact go h st LJ this (.one step_seq)
  ·rename_i id x hx
   obtain ⟨k',rfl,hk⟩:=hloop hx (by simp);have h0:Ba (Az fn) (0::p)=x:=by simp[Ba,hx,child]
   have:=CO.code (0::p) (CO.inBlock id hk);rw[h0] at this;exact go h st LJ this (.one step_block)
  ·rename_i x hx
   have h0:Ba (Az fn) (0::p)=x:=by simp[Ba,hx,child]
   cases hst:C.MQ g p<;>simp only[hst,cond_true,cond_false] at h
   ·cases hi with
    |code p hk=>
     have:=CO.code (0::p) (CO.loop p x hx hk);rw[h0] at this;rw[hx] at go ⊢;exact go h st LJ this (.one step_loop)
    |loop p y hl hk=>
     rw[hx] at hl;cases hl;have:=CO.code (0::p) (CO.loop p x hx hk);rw[h0] at this;exact go h st LJ this (.one step_inLoop)
   ·exact ⟨_,h,a,w,H,E,items,.refl _ _,st,LJ,hi⟩
  ·rename_i id hx
   obtain ⟨k',rfl,hk⟩:=hloop hx (by simp);split at h
   ·rename_i k2 he
    obtain ⟨k3,h1,h2⟩:=agj hk he;exact go h st LJ h2 (.one (step_exit h1))
   ·exact h.elim
  ·rename_i x y z hx
   obtain ⟨k',rfl,hk⟩:=hloop hx (by simp);have h0:=CO.code (0::p) hk;have h1:=CO.code (1::p) hk;have e0:Ba (Az fn) (0::p)=y:=by simp[Ba,hx,child]
   have e1:Ba (Az fn) (1::p)=z:=by simp[Ba,hx,child]
   rw[e0] at h0;rw[e1] at h1;have dx:=BA (H:=H) (E:=E) st.den x;split at h
   ·rename_i hv
    rw[hv] at dx;exact go h st LJ h0 (.one (step_cond (t:=aC) dx))
   ·rename_i hv
    rw[hv] at dx;exact go h st LJ h1 (.one (step_cond (t:=ay) dx))
   ·rename_i t hv
    rw[hv] at dx;have st':∀v,t=v->St C K H E w (c.put (V8 x) (.bool v)) a:=fun v hv2=>by
     subst hv2;cases x with
     |tmp d=>exact st.know hv |const u=>exact ⟨st.den,st.hp,st.BZ,st.free,st.gl,st.defers⟩ |global u=>exact ⟨st.den,st.hp,st.BZ,st.free,st.gl,st.defers⟩ |func u=>exact ⟨st.den,st.hp,st.BZ,st.free,st.gl,st.defers⟩
    have mv':∀v:Bool,Mv K H E w c H E w (c.put (V8 x) (.bool v)):=fun v=>Ja st rfl rfl rfl rfl
    cases t with
    |true=>exact go (h.1 rfl) (st' aC rfl) (mv' aC) h0 (.one (step_cond (t:=aC) dx)) |false=>exact go (h.2 rfl) (st' ay rfl) (mv' ay) h1 (.one (step_cond (t:=ay) dx))
   ·exact h.elim
  ·rename_i id ops dr hx
   obtain ⟨k',rfl,hk⟩:=hloop hx (by simp);cases dr with
   |false=>
    simp only[cond_false] at h;exact go h st LJ (.reg p (aZ ops.size) id ops hx hk) (.one step_region)
   |true=>
    simp only[cond_true] at h;have key:∀(f:Core->Tree Sig),((drawn C call g ops c).bind f).All φ->∃c' a' H' E' w',(f c').All φ/\St C K H' E' w' c' a'/\Mv K H E w c H' E' w' c'/\Steps P (lone (b.at a (.code (.region id ops aC)::k')) cs w) (lone (b.at a' k') cs w'):=fun f hf=>by
     obtain ⟨e,a',w',⟨he,c',H',E',h1,h2,h3⟩,harr⟩:=alF (id:=id) hC hF hK st (Tree.DZ hf) b k' cs;subst he;exact ⟨c',a',H',E',w',h1,h2,h3,harr⟩
    cases hl:(top && !(drawn C call g ops c).lone)<;>simp only[hl,cond_true,cond_false] at h
    ·obtain ⟨c',a',H',E',w',h1,h2,h3,h4⟩:=key _ h
     exact go h1 h2 h3 hk h4
    ·obtain ⟨c',a',H',E',w',h1,h2,h3,h4⟩:=key _ h
     exact ⟨_,h1,a',w',H',E',k',h4,h2,h3,hk⟩
  ·exact h.elim
def aa3(P:Program)(C:Ctx)(K:Kx)(run:Bool->Nat->List It->Core->Tree Out):Prop:=
 ∀(top:Bool) (g:Nat) (td:List It) (c:Core) (H:Mem) (E:Env) (w:World) (a:Act) (fn:Func) (items:List Item) (φ:Out->Prop),C.fns.get g=ak fn->(run top g td c).All φ->St C K H E w c a->
  CO (Az fn) td items->∀(b:Frame) (cs:List Frame),∃out,φ out/\aeV P C K fn g H E w c (lone (b.at a items) cs w) b cs out
theorem KY{p:Nat->Bool}:∀{l:List (Nat×SB)} {i:Nat},Ak (dropKey p l) i=bif p i then aK else Ak l i
 |[],i=>by cases h:p i<;>simp[dropKey,Ak] |(j,b)::r,i=>by
  have ih:=KY (p:=p) (l:=r) (i:=i);simp only[dropKey];cases hj:p j<;>simp only[cond_true,cond_false,Ak]
  ·cases hji:(j==i)<;>simp only[cond_true,cond_false]
   ·exact ih
   ·obtain rfl:j=i:=by simpa using hji
    rw[hj];rfl
  ·cases hji:(j==i)<;>simp only[cond_true,cond_false]
   ·exact ih
   ·obtain rfl:j=i:=by simpa using hji
    rw[ih,hj];rfl
theorem Mv.gc{c c':Core}(h:Mv K H E w c H' E' w' c')(hf:Free E c){p:Nat->Bool}(hp:∀i,p i=aC->c.nx<=i/\i<c.lim):Mv K H E w c H' E' w' {c' with hp:=dropKey p c'.hp}:=by
 have hl:∀{i sb},Ak (dropKey p c'.hp) i=ak sb->Ak c'.hp i=ak sb:=fun {i sb} h=>by
  rw[KY] at h;cases hi:p i<;>simp only[hi,cond_true,cond_false] at h
  ·exact h
  ·cases h
 have hch:=h.ch;refine Ch.mv (c:=c) (c':={c' with hp:=dropKey p c'.hp}) ⟨hch.IX,hch.ML,hch.new,⟨fun id sb hq=>hch.hp.ent _ _ (hl hq),fun id id' sb sb' b q1 q2=>hch.hp.Gq _ _ _ _ _ (hl q1) (hl q2)⟩,hch.BZ,hch.tc,hch.size,hch.fr,hch.Om,hch.ZR,fun id sb b q1 q2 q3=>?_,fun id sb q1=>hch.old id sb (hl q1)⟩ h.nx h.lim h.afT
 rcases hch.keep id sb b q1 q2 q3 with q|⟨sb',q4,q5⟩
 ·exact .inl q
 ·refine .inr ⟨sb',?_,q5⟩
  show Ak (dropKey p c'.hp) id=ak sb';rw[KY];cases hi:p id<;>simp only[cond_true,cond_false]
  ·exact q4
  ·have:=hf id (hp id hi).1 (hp id hi).2
   have q6:=GL q3;simp[bk,this] at q6
theorem TW(hC:BG P C)(hF:BP P C){run:Bool->Nat->List It->Core->Tree Out}(hr:aa3 P C K run):H8 P C K (MR C (run ay)):=by
 intro H E w c g args Fz φ hd hh hw hf hg h;unfold MR at h;split at h
 ·exact h.elim
 ·rename_i fn hfn
  cases hb:(iq args.length fn.ntmps&&fn.body.isSome)<;>simp only[hb,cond_true,cond_false] at h
  ·exact h.elim
  simp only[aI] at hb;obtain ⟨body,hbody⟩:=fP.1 hb.2;have hP:=hC.fn g fn hfn;refine ⟨hF.en g (.inr (by rw[hfn];rfl)),fun cs=>?_⟩;let b:Frame:={(default:Frame) with fn:=g,kind:=.normal}
  let a:Act:={tmps:=Fz.toArray++dY (fn.ntmps - Fz.toArray.size) undef,defers:=[]}
  have henter:gQ P g Fz.toArray .normal=b.at a [.code body]:=by
   simp[gQ,Frame.at,hP,hbody,b,a]
  have hlen:=hd.length;have st:St C K H E w {tm:=args++dU (fn.ntmps - args.length) .any,hp:=c.hp,nx:=c.nx,lim:=c.lim,tc:=c.tc} a:=by
   refine ⟨?_,hh,hw,hf,hg,rfl⟩;have:a.tmps.toList=Fz++dU (fn.ntmps - args.length) undef:=by simp[a,hlen]
   rw[this];exact hd.append (rY _ _ (by simp))
  have hit:CO (Az fn) [.code []] [.code body]:=by
   have:=CO.code (body:=Az fn) [] CO.nil;have he:Ba (Az fn) []=body:=by simp[Ba,Az,hbody]
   rwa[he] at this
  obtain ⟨out,h1,h2⟩:=hr ay g [.code []] _ H E w a fn [.code body] _ hfn (Tree.DZ h) st hit b cs;cases out with
  |stop _ _ _=>exact h1.elim |done sv c'=>
   obtain ⟨a',w',H',E',v,todo,q1,q2,q3,q4,q5⟩:=h2;refine ⟨.returned v,w',_,⟨_,v,H',E',rfl,h1,q4,?_⟩,by rw[henter];exact q1,rfl,rfl,q2.defers,rfl,fn,hP,q5⟩;have q3':=q3.to (d:=c) (d':={c' with tm:=c.tm}) rfl rfl rfl rfl rfl rfl rfl rfl
   have q6:=q3'.gc hf (p:=fun i=>iq c.nx i&&fV i c.lim && !(reach c'.hp 4000 (refs sv++MI c'.hp c'.tc) []).contains i) (fun i hi=>by simp only[aI] at hi;exact ⟨gq hi.1.1,Fj hi.1.2⟩);exact q6
theorem alG:aa3 P C K (run C 0):=fun _ _ _ _ H E w a _ items _ _ h st hi _ _=>
 ⟨_,h,rfl,a,w,H,E,items,.refl _ _,st,Ja st rfl rfl rfl rfl,hi⟩
theorem alH(hC:BG P C)(hF:BP P C){n:Nat}(ih:aa3 P C K (run C n)):aa3 P C K (run C (n+1)):=by
 intro top g td c H E w a fn items φ hfn h st hi b cs;have hK:=TW hC hF ih;unfold run at h;rw[hfn] at h;simp only at h;obtain ⟨sig,h1,h2⟩:=X6 hC hF hK (Tree.DZ h) st hi b cs;cases sig with
 |go Gj c'=>
  obtain ⟨a',w',H',E',items',q1,q2,q3,q4⟩:=h2;obtain ⟨out,q5,q6⟩:=ih top g _ _ _ _ _ _ fn _ φ hfn h1 q2 q4 b cs;exact ⟨out,q5,q6.of q1 q3⟩
 |done sv c'=>exact ⟨_,h1,h2⟩ |halt Gj c'=>exact ⟨_,h1,rfl,h2⟩
theorem TY(hC:BG P C)(hF:BP P C):∀n,aa3 P C K (run C n)
 |0=>alG |n+1=>alH hC hF (TY hC hF n)
end
mutual
def adB:SV->List Nat
 | .agg l=>Vb l | .AQ l=>Vb l | .fn _ l=>JL l | .C9 _ x=>ah9 x | .ptr id _=>[id] |_=>[]
def Vb:List SV->List Nat
 |[]=>[] |x::r=>adB x++Vb r
end
def WM(hp:List (Nat×SB))(id:Nat):Option (Nat×Nat×Nat×(Nat->List Sh)):=
 match Ak hp id with
 |some (.own e st n g)=>ak (e,st,n,g) |some (.row cells e st n)=>bif FP cells then (Iw hp cells).map fun l=>(e,st,n,Bh (chunks st n l)) else aK |_=>aK
mutual
def Il(hp:List (Nat×SB)):SV->List Nat
 | .agg l=>WO hp l | .AQ l=>WO hp l | .gs id=>match Ak hp id with
  |some (.fz _ _ _)=>[] |_=>[id]
 |_=>[]
def WO(hp:List (Nat×SB)):List SV->List Nat
 |[]=>[] |x::r=>Il hp x++WO hp r
end
mutual
def Jl(hp:List (Nat×SB)):SV->Option Sh
 | .agg l=>(Ua hp l).map .agg | .AQ l=>(Ua hp l).map .AQ | .gs id=>match Ak hp id with
  |some (.fz st n g)=>ak (.sl st n g) |_=>(WM hp id).map fun r=>.os r.1 r.2.1 r.2.2.1 r.2.2.2
 |x=>D6 hp x
def Ua(hp:List (Nat×SB)):List SV->Option (List Sh)
 |[]=>ak [] |x::r=>match Jl hp x,Ua hp r with
  |some s,ak l=>ak (s::l) |_,_=>aK
end
def KD:List Nat->Bool
 |[]=>aC |x::l=>!l.contains x&&KD l
def anu(hp:List (Nat×SB)):List Nat->List Nat
 |[]=>[] |id::r=>(match Ak hp id with
  |some (.row cells _ _ _)=>JL cells |_=>[])++anu hp r
def finish(c:Core)(v:SV):Option Sh:=
 match freeze c.hp (adB v++anu c.hp (Il c.hp v)) with
 |some hp=>bif KD (Il hp v) then Jl hp v else aK |none=>aK
section
variable{P:Program}{C:Ctx}{K:Kx}{H H' OQ:Mem}{E E' OT E1:Env}{w w' w'':World}
theorem aa4:∀{l:List Nat} {i j x:Nat},KD l=aC->l[i]?=ak x->l[j]?=ak x->i=j
 |[],_,_,_,_,h,_=>by simp at h |y::l,0,0,_,_,_,_=>rfl |y::l,0,j+1,x,h,h1,h2=>by
  simp only[KD,aI,fH] at h;simp at h1 h2;subst h1;have:=bT h2;simp[this] at h
 |y::l,i+1,0,x,h,h1,h2=>by
  simp only[KD,aI,fH] at h;simp at h1 h2;subst h2;have:=bT h1;simp[this] at h
 |y::l,i+1,j+1,x,h,h1,h2=>by
  simp only[KD,aI] at h;have e:=aa4 (l:=l) (i:=i) (j:=j) (x:=x) h.2 (by simpa using h1) (by simpa using h2);rw[e]
theorem aa5{hp:List (Nat×SB)}{id:Nat}{r:Nat×Nat×Nat×(Nat->List Sh)}(hh:AO K H E w hp)(h:WM hp id=ak r):
  GI K H E w id (.own r.1 r.2.1 r.2.2.1 r.2.2.2)/\∃sb,Ak hp id=ak sb/\∀b,bk E id=ak b->Bd E id sb=ak b:=by
 unfold WM at h;split at h
 ·rename_i e st n g hl
  cases h;exact ⟨hh.ent _ _ hl,_,hl,fun b hb=>hb⟩
 ·rename_i cells e st n hl
  cases ho:FP cells<;>simp only[ho,cond_true,cond_false] at h
  ·cases h
  simp only[bW] at h;obtain ⟨l,h1,rfl⟩:=h;obtain ⟨v,xs,e1,e2,e3,e4⟩:=hh.ent _ _ hl;exact ⟨⟨v,xs,e1,e2,JQ e2.1 (Ep hh h1 e3) (Fv ho e3),e4⟩,_,hl,fun b hb=>hb⟩
 ·cases h
def asu(K:Kx)(H:Mem)(E:Env)(w:World)(hp:List (Nat×SB))(id:Nat)(x:SB):Prop:=
 GI K H E w id x/\(∃e st n g,x=.own e st n g)/\∃sb,Ak hp id=ak sb/\∀b,bk E id=ak b->Bd E id sb=ak b
mutual
theorem X7:∀{s:Sh} {u:Value} (b0:Nat),Rep H s u->Den H E1 (Dc s b0).1 u/\(Dc s b0).2.2=b0/\(Dc s b0).2.1=[]
 | .i k n,_,b0,h=>by cases h;exact ⟨rfl,rfl,rfl⟩ | .b y,_,b0,h=>by cases h;exact ⟨rfl,rfl,rfl⟩ | .v y,_,b0,h=>by cases h with|v _ h1=>exact ⟨afH h1,rfl,rfl⟩
 | .str l,_,b0,h=>⟨h,rfl,rfl⟩ | .sl _ _ _,_,b0,h=>⟨h,rfl,rfl⟩ | .C9 _ _,_,b0,h=>⟨h,rfl,rfl⟩ | .fn _ _,_,b0,h=>⟨UW h,rfl,rfl⟩ | .er _ _,_,b0,h=>⟨h,rfl,rfl⟩ | .pt _,_,b0,h=>⟨UW h,rfl,rfl⟩ | .os _ _ _ _,_,b0,h=>by cases h | .agg l,u,b0,h=>by
  cases h with
  |agg _ vs h1 h2=>
   have:=Vd (l:=l) (vs:=vs.toList) b0 (zC (by simpa using h1) fun j s v e1 e2=>h2 j s v e1 (by simpa using e2));exact ⟨⟨vs,rfl,this.1⟩,this.2.1,this.2.2⟩
 | .AQ l,u,b0,h=>by
  cases h with
  |AQ _ vs h1 h2=>
   have:=Vd (l:=l) (vs:=vs.toList) b0 (zC (by simpa using h1) fun j s v e1 e2=>h2 j s v e1 (by simpa using e2));exact ⟨⟨vs,rfl,this.1⟩,this.2.1,this.2.2⟩
theorem Vd:∀{l:List Sh} {vs:List Value} (b0:Nat),DX H l vs->AA H E1 (EC l b0).1 vs/\(EC l b0).2.2=b0/\(EC l b0).2.1=[]
 |[],[],b0,_=>⟨trivial,rfl,rfl⟩ |s::l,v::vs,b0,⟨h1,h2⟩=>by
  have a:=X7 b0 h1;have b:=Vd b0 h2;simp only[EC,a.2.1,a.2.2,List.nil_append];exact ⟨⟨a.1,b.1⟩,b.2⟩
 |[],_::_,_,h=>h.elim |_::_,[],_,h=>h.elim
end
def Knows(E E1:Env)(b0:Nat)(ids:List Nat):Prop:=∀k id,ids[k]?=ak id->E1 (b0+k)=E id
theorem Knows.left{b0:Nat}{l l':List Nat}(h:Knows E E1 b0 (l++l')):Knows E E1 b0 l:=fun k id hk=>h k id (by
 rw[dN (aV.1 hk).1];exact hk)
theorem Knows.right{b0:Nat}{l l':List Nat}(h:Knows E E1 b0 (l++l')):Knows E E1 (b0+l.length) l':=fun k id hk=>by
 rw[Nat.add_assoc];exact h (l.length+k) id (by rw[fF (jf _ _)];simpa using hk)
structure LM(K:Kx)(H:Mem)(E E1:Env)(w:World)(hp:List (Nat×SB))(ids:List Nat)(b0 n:Nat)(l:List (Nat×SB)):Prop where
 len:n=b0+ids.length
 mem:∀i x,(i,x)∈l->∃k id,i=b0+k/\ids[k]?=ak id/\asu K H E w hp id x
 cov:∀id∈ids,∃sb,Ak hp id=ak sb/\∀b,bk E id=ak b->Bd E id sb=ak b
theorem LM.nil{hp:List (Nat×SB)}{b0:Nat}:LM K H E E1 w hp [] b0 b0 []:=⟨rfl,fun _ _ h=>(by cases h),fun _ h=>(by cases h)⟩
theorem LM.app{hp:List (Nat×SB)}{b0 n m:Nat}{i1 i2:List Nat}{l1 l2:List (Nat×SB)}(h1:LM K H E E1 w hp i1 b0 n l1)(h2:LM K H E E1 w hp i2 n m l2):LM K H E E1 w hp (i1++i2) b0 m (l1++l2):=by
 refine ⟨by rw[h2.len,h1.len,bC];omega,fun i x hx=>?_,fun id hid=>(bI.1 hid).elim (h1.cov id) (h2.cov id)⟩;rcases bI.1 hx with hx|hx
 ·obtain ⟨k,id,e1,e2,e3⟩:=h1.mem i x hx
  exact ⟨k,id,e1,by rw[dN (aV.1 e2).1];exact e2,e3⟩
 ·obtain ⟨k,id,e1,e2,e3⟩:=h2.mem i x hx
  exact ⟨i1.length+k,id,by rw[e1,h1.len];omega,by rw[fF (jf _ _)];simpa using e2,e3⟩
mutual
theorem adC{hp:List (Nat×SB)}(hh:AO K H E w hp):∀{x:SV} {s:Sh} {u:Value} (b0:Nat),Jl hp x=ak s->Den H E x u->Knows E E1 b0 (Il hp x)->
  Den H E1 (Dc s b0).1 u/\LM K H E E1 w hp (Il hp x) b0 (Dc s b0).2.2 (Dc s b0).2.1
 | .agg l,s,u,b0,h,hd,hk=>by
  simp only[Jl,bW] at h;obtain ⟨l',h1,rfl⟩:=h;obtain ⟨vs,rfl,hl⟩:=hd;have:=Ve hh b0 h1 hl (by simpa[Il] using hk);exact ⟨⟨vs,rfl,this.1⟩,by simpa[Il,Dc] using this.2⟩
 | .AQ l,s,u,b0,h,hd,hk=>by
  simp only[Jl,bW] at h;obtain ⟨l',h1,rfl⟩:=h;obtain ⟨vs,rfl,hl⟩:=hd;have:=Ve hh b0 h1 hl (by simpa[Il] using hk);exact ⟨⟨vs,rfl,this.1⟩,by simpa[Il,Dc] using this.2⟩
 | .gs id,s,u,b0,h,hd,hk=>by
  simp only[Jl] at h;split at h
  ·rename_i st n g hl
   cases h;obtain ⟨v,he,hr⟩:=hh.ent _ _ hl;rw[hd.1] at he;cases he;have hi:Il hp (.gs id)=[]:=by simp[Il,hl]
   rw[hi];have:=X7 (E1:=E1) b0 hr;exact ⟨this.1,by rw[this.2.1,this.2.2];exact LM.nil⟩
  ·rename_i hne
   simp only[bW] at h;obtain ⟨r,h1,rfl⟩:=h;have hi:Il hp (.gs id)=[id]:=by
    simp only[Il]
   rw[hi] at hk ⊢;have hE1:E1 b0=E id:=by simpa using hk 0 id rfl
   obtain ⟨a1,a2⟩:=aa5 hh h1;refine ⟨⟨by rw[hE1];exact hd.1,hd.2⟩,⟨by simp[Dc],fun i x hx=>?_,fun i hi=>?_⟩⟩;rotate_left
   ·simp at hi;subst hi;exact a2
   simp[Dc] at hx;obtain ⟨rfl,rfl⟩:=hx;exact ⟨0,id,rfl,rfl,a1,⟨_,_,_,_,rfl⟩,a2⟩
 | .any,s,u,b0,h,hd,hk=>by simp[Jl,D6] at h | .val _,s,u,b0,h,hd,hk=>Es hh b0 h (by rfl) (by rfl) hd | .int _ _,s,u,b0,h,hd,hk=>Es hh b0 h (by rfl) (by rfl) hd | .sym _ _,s,u,b0,h,hd,hk=>Es hh b0 h (by rfl) (by rfl) hd | .bool _,s,u,b0,h,hd,hk=>Es hh b0 h (by rfl) (by rfl) hd | .test _,s,u,b0,h,hd,hk=>Es hh b0 h (by rfl) (by rfl) hd | .str _,s,u,b0,h,hd,hk=>Es hh b0 h (by rfl) (by rfl) hd | .ptr _ _,s,u,b0,h,hd,hk=>Es hh b0 h (by rfl) (by rfl) hd | .gp _ _ _ _,s,u,b0,h,hd,hk=>by simp[Jl,D6] at h | .EZ,s,u,b0,h,hd,hk=>Es hh b0 h (by rfl) (by rfl) hd | .A8,s,u,b0,h,hd,hk=>Es hh b0 h (by rfl) (by rfl) hd | .Gy,s,u,b0,h,hd,hk=>Es hh b0 h (by rfl) (by rfl) hd | .DT,s,u,b0,h,hd,hk=>Es hh b0 h (by rfl) (by rfl) hd | .FY,s,u,b0,h,hd,hk=>by simp[Jl,D6] at h | .fn _ _,s,u,b0,h,hd,hk=>Es hh b0 h (by rfl) (by rfl) hd | .C9 _ _,s,u,b0,h,hd,hk=>Es hh b0 h (by rfl) (by rfl) hd | .mp _,s,u,b0,h,hd,hk=>by simp[Jl,D6] at h | .sh _,s,u,b0,h,hd,hk=>Es hh b0 h (by rfl) (by rfl) hd | .GX _ _ _ _ _,s,u,b0,h,hd,hk=>Es hh b0 h (by rfl) (by rfl) hd | .ev _,s,u,b0,h,hd,hk=>by simp[Jl,D6] at h | .vw _ _,s,u,b0,h,hd,hk=>by simp[Jl,D6] at h | .glob _,s,u,b0,h,hd,hk=>by simp[Jl,D6] at h
theorem Ve{hp:List (Nat×SB)}(hh:AO K H E w hp):∀{l:List SV} {l':List Sh} {vs:List Value} (b0:Nat),Ua hp l=ak l'->AA H E l vs->Knows E E1 b0 (WO hp l)->
  AA H E1 (EC l' b0).1 vs/\LM K H E E1 w hp (WO hp l) b0 (EC l' b0).2.2 (EC l' b0).2.1
 |[],l',[],b0,h,_,_=>by simp[Ua] at h;subst h;exact ⟨trivial,LM.nil⟩ |x::l,l',v::vs,b0,h,⟨h1,h2⟩,hk=>by
  simp only[Ua] at h;split at h
  ·rename_i s r e1 e2
   cases h;have a:=adC hh b0 e1 h1 hk.left;have hk2:=hk.right;rw[<-a.2.len] at hk2;have b:=Ve hh _ e2 h2 hk2;simp only[EC];exact ⟨⟨a.1,b.1⟩,a.2.app b.2⟩
  ·cases h
 |[],_,_::_,_,_,h,_=>h.elim |_::_,_,[],_,_,h,_=>h.elim
theorem Es{hp:List (Nat×SB)}(hh:AO K H E w hp){x:SV}{s:Sh}{u:Value}(b0:Nat)(h:Jl hp x=ak s)(hx:Jl hp x=D6 hp x)(hi:Il hp x=[])(hd:Den H E x u):
  Den H E1 (Dc s b0).1 u/\LM K H E E1 w hp (Il hp x) b0 (Dc s b0).2.2 (Dc s b0).2.1:=by
 rw[hx] at h;have:=X7 (E1:=E1) b0 (MW hh h hd);rw[hi];exact ⟨this.1,by rw[this.2.1,this.2.2];exact LM.nil⟩
end
theorem adD:∀{l hp:List (Nat×SB)} {i:Nat} {x:SB},Ak (Dx hp l) i=ak x->(i,x)∈l\/Ak hp i=ak x
 |[],_,_,_,h=>.inr h |(j,b)::l,hp,i,x,h=>by
  rcases adD (l:=l) h with h|h
  ·exact .inl (dA _ h)
  ·rw[ET] at h
   cases hj:(j==i)<;>simp only[hj,cond_true,cond_false] at h
   ·exact .inr h
   ·cases h
    obtain rfl:j=i:=by simpa using hj
    exact .inl (bZ ..)
def K0(H:Mem)(w:World):Kx:=⟨w,fun _=>False,H⟩
theorem Qx{c:Core}{a:Act}{H0:Mem}{w0:World}{sv:SV}{s:Sh}{u:Value}(st:St C (K0 H0 w0) H E w c a)(hf:finish c sv=ak s)(hd:Den H E sv u):∃H',Ew H0 w0 s u H' w:=by
 unfold finish at hf;split at hf
 ·rename_i hp hfz
  obtain ⟨H1,hH,hh,hw,_⟩:=Nw hfz st.hp st.BZ;cases hn:KD (Il hp sv)<;>simp only[hn,cond_true,cond_false] at hf
  ·cases hf
  refine ⟨H1,hw.le,hw.on,hw.os,hw.tape,hw.output,hw.size,fun b hb=>hw.kept b hb id,fun b hb=>?_,fun b0=>?_⟩
  ·rcases hw.fresh b hb with h|h|h
   ·exact .inl h
   ·exact .inr h
   ·exact h.elim
  ·let ids:=Il hp sv
   let E1:Env:=fun i=>if b0<=i then (ids[i - b0]?).bind E else aK
   have hk:Knows E E1 b0 ids:=fun k id hk=>by
    simp only[E1,jf,if_true,Nat.add_sub_cancel_left,hk,eU]
   obtain ⟨a1,a2⟩:=adC (E1:=E1) hh b0 hf (hd.le hH fun _ _ e=>e) hk;have hid:∀i v,E1 i=ak v->∃k id,i=b0+k/\ids[k]?=ak id/\E id=ak v:=fun i v hv=>by
    simp only[E1] at hv;split at hv
    ·cases hx:ids[i - b0]? with
     |none=>simp[hx] at hv |some id=>exact ⟨i - b0,id,by omega,hx,by simpa[hx] using hv⟩
    ·cases hv
   have hat:∀i x,Ak (Dx [] (Dc s b0).2.1) i=ak x->∃k id,i=b0+k/\ids[k]?=ak id/\asu (K0 H0 w0) H1 E w hp id x:=fun i x hl=>by
    rcases adD hl with h|h
    ·exact a2.mem i x h
    ·simp[Ak] at h
   have hbk:∀{k id:Nat},ids[k]?=ak id->bk E1 (b0+k)=bk E id:=fun {k id} h=>by simp[bk,hk k id h]
   refine ⟨E1,fun i hi=>?_,fun i b hb=>?_,a1,⟨fun i x hl=>?_,fun i j x y b h1 h2 o1 o2=>?_⟩⟩
   ·cases hv:E1 i with
    |none=>exact (hi hv).elim |some v=>
     obtain ⟨k,id,rfl,h2,_⟩:=hid i v hv;have:k<(Il hp sv).length:=(aV.1 h2).1;rw[a2.len];exact ⟨jf _ _,by omega⟩
   ·cases hv:E1 i with
    |none=>simp[bk,hv] at hb |some v=>
     obtain ⟨k,id,rfl,h2,h3⟩:=hid i v hv;rw[hbk h2] at hb;have hown:∃sb,Ak hp id=ak sb/\Bd E id sb=ak b:=by
      obtain ⟨sb,q1,q2⟩:=a2.cov id (bT h2);exact ⟨sb,q1,q2 b hb⟩
     obtain ⟨sb,h4,h5⟩:=hown;have:=((hh.ent _ _ h4).lt h5).2.2;rcases this with h|h
     ·exact h
     ·exact h.elim
   ·obtain ⟨k,id,rfl,h2,h3,⟨e,st',n,g,rfl⟩,_⟩:=hat i x hl
    obtain ⟨v,xs,e1,e2,e3,e4⟩:=h3;exact ⟨v,xs,by rw[hk k id h2];exact e1,e2,e3,e4⟩
   ·obtain ⟨k,id,rfl,p1,_,⟨_,_,_,_,rfl⟩,sb1,p3,p4⟩:=hat i x h1
    obtain ⟨k',id',rfl,q1,_,⟨_,_,_,_,rfl⟩,WE,q3,q4⟩:=hat j y h2;have o1':bk E id=ak b:=by rw[<-hbk p1];exact o1
    have o2':bk E id'=ak b:=by rw[<-hbk q1];exact o2
    have:=hh.Gq _ _ _ _ _ p3 q3 (p4 b o1') (q4 b o2');subst this;rw[aa4 hn p1 q1]
 ·cases hf
end
inductive Fin where
 |ret (s:Sh)
 |stop (td:List It) (c:Core)
def fin:Out->Tree Fin
 | .done sv c=>match finish c sv with
  |some s=>.leaf (.ret s) |none=>.fail
 | .stop _ td c=>.leaf (.stop td c)
def CG(C:Ctx)(n g:Nat)(td:List It)(c:Core):Tree Fin:=(run C n aC g td c).bind fin
def Ap(m:Nat)(Bv:List Sh)(L:Nat):Core:={tm:=Q8 Bv++dU (m - Bv.length) .any,hp:=[],nx:=0,lim:=L,tc:=[]}
section
variable{P:Program}{C:Ctx}{K:Kx}{H H' OQ H0:Mem}{E E' OT E1:Env}{w w' w'' w0:World}
def Goes(P:Program)(C:Ctx)(K:Kx)(fn:Func)(td:List It)(c:Core)(φ:Sh->Prop):Prop:=
 ∀(H:Mem) (E:Env) (w:World) (a:Act) (items:List Item) (b:Frame) (cs:List Frame),St C K H E w c a->CO (Az fn) td items->
  ∃(a':Act) (w':World) (v:Value) (s:Sh) (H':Mem) (todo:List Item),Steps P (lone (b.at a items) cs w) (lone {b.at a' todo with mode:=.returning} cs w')/\a'.defers=[]/\φ s/\Ew K.H0 K.w0 s v H' w'/\(results fn a'.tmps).run P w'=.ok v w'
def BU(P:Program)(C:Ctx)(K:Kx)(fn:Func)(φ:Sh->Prop):Fin->Prop
 | .ret s=>φ s | .stop td c=>Goes P C K fn td c φ
theorem alI(hC:BG P C)(hF:BP P C){n g:Nat}{fn:Func}{td:List It}{c:Core}{φ:Sh->Prop}(hfn:C.fns.get g=ak fn)(h:(CG C n g td c).All (BU P C (K0 H0 w0) fn φ)):
  Goes P C (K0 H0 w0) fn td c φ:=by
 intro H E w a items b cs st hi;obtain ⟨out,h1,h2⟩:=TY hC hF n aC g td c H E w a fn items _ hfn (Tree.DZ h) st hi b cs;cases out with
 |done sv c'=>
  obtain ⟨a',w',H',E',v,todo,q1,q2,q3,q4,q5⟩:=h2;simp only[fin] at h1;split at h1
  ·rename_i s hs
   obtain ⟨H2,r⟩:=Qx q2 hs q4;exact ⟨a',w',v,s,H2,todo,q1,q2.defers,h1,r,q5⟩
  ·exact h1.elim
 |stop g' Gj c'=>
  obtain ⟨rfl,a',w',H',E',items',q1,q2,q3,q4⟩:=h2;obtain ⟨a2,w2,v,s,H2,todo,r1,r2⟩:=h1 H' E' w' a' items' b cs q2 q4;exact ⟨a2,w2,v,s,H2,todo,q1.trans r1,r2⟩
theorem anv(hC:BG P C){g:Nat}{fn:Func}{F:List Sh->Tree Sh}(hfn:C.fns.get g=ak fn)(hb:fn.body.isSome=aC)
  (h:∀(H:Mem) (w:World) (Bv:List Sh) (args:List Value) (φ:Sh->Prop),DX H Bv args->(F Bv).All φ->∃Ey:List Sh,DX H Ey args/\∃L,Goes P C (K0 H w) fn [.code []] (Ap fn.ntmps Ey L) φ):AV P C.gls g F:=by
 intro H w Bv args φ hon hg hr hφ;obtain ⟨Ey,hr,L,hgo⟩:=h H w Bv args φ hr hφ;obtain ⟨body,hbody⟩:=fP.1 hb;have hP:=hC.fn g fn hfn;intro cs;let b:Frame:={(default:Frame) with fn:=g,kind:=.normal}
 let a:Act:={tmps:=args.toArray++dY (fn.ntmps - args.toArray.size) undef,defers:=[]}
 have henter:gQ P g args.toArray .normal=b.at a [.code body]:=by
  simp[gQ,Frame.at,hP,hbody,b,a]
 have hlen:=hr.length;have st:St C (K0 H w) H E0 w (Ap fn.ntmps Ey L) a:=by
  refine ⟨?_,⟨fun _ _ h=>by simp[Ap,Ak] at h,fun _ _ _ _ _ h=>by simp[Ap,Ak] at h⟩,⟨rfl,rfl,rfl,dn _,fun _ _ _=>rfl,hon,fun _ _ h=>h,fun _ h=>.inl h⟩,fun _ _ _=>rfl,hg,rfl⟩;have:a.tmps.toList=args++dU (fn.ntmps - Ey.length) undef:=by simp[a,hlen]
  rw[this];exact (Jv hr).append (rY _ _ (by simp))
 have hit:CO (Az fn) [.code []] [.code body]:=by
  have:=CO.code (body:=Az fn) [] CO.nil;have he:Ba (Az fn) []=body:=by simp[Ba,Az,hbody]
  rwa[he] at this
 obtain ⟨a',w',v,s,H',todo,q1,q2,q3,q4,q5⟩:=hgo H E0 w a [.code body] b cs st hit;exact ⟨.returned v,w',_,⟨v,s,H',rfl,q3,q4⟩,by rw[henter];exact q1,rfl,rfl,q2,rfl,fn,hP,q5⟩
theorem Ii(hC:BG P C)(hF:BP P C){g n L:Nat}{fn:Func}{F:List Sh->Tree Sh}(hfn:C.fns.get g=ak fn)(hb:fn.body.isSome=aC)
  (h:∀(H:Mem) (w:World) (Bv:List Sh) (args:List Value) (φ:Sh->Prop),DX H Bv args->(F Bv).All φ->∃Ey:List Sh,DX H Ey args/\(CG C n g [.code []] (Ap fn.ntmps Ey L)).All (BU P C (K0 H w) fn φ)):AV P C.gls g F:=
 anv hC hfn hb fun H w Bv args φ h1 h2=>let ⟨Ey,h3,h4⟩:=h H w Bv args φ h1 h2;⟨Ey,h3,L,alI hC hF hfn h4⟩
theorem AV.mono{gls:List (Nat×Sh)}{f:Nat}{F F':List Sh->Tree Sh}(h:AV P gls f F')(hp:∀(H:Mem) (Bv:List Sh) (args:List Value) (φ:Sh->Prop),DX H Bv args->(F Bv).All φ->(F' Bv).All φ):AV P gls f F:=
 fun H w Bv args φ h1 h2 h3 h4=>h H w Bv args φ h1 h2 h3 (hp H Bv args φ h3 h4)
end
inductive Rn where
 |id (i:Nat)
 |nil
mutual
def EW(hp:List (Nat×SB))(ρ:List (Nat×Rn)):SV->SV->Prop
 |_,.any=>True |x,.sym k m=>match x with
  | .int k' n=>k'=k/\n=m | .sym k' n=>k'=k/\n=m |_=>False
 |x,.test b=>match x with
  | .bool b'=>b'=b | .test b'=>b'=b |_=>False
 |x,.gs id'=>match x with
  | .gs id=>Ak ρ id'=ak (.id id) | .A8=>Ak ρ id'=ak .nil |_=>False
 |x,.ptr id' off'=>match x with
  | .ptr id off=>Ak ρ id'=ak (.id id)/\off=off' |_=>False
 |x,.mp id'=>match x with
  | .mp id=>Ak ρ id'=ak (.id id) |_=>False
 |x,.fn f' l'=>match x with
  | .fn f l=>f=f'/\leL hp ρ l l' |_=>False
 |x,.agg l'=>match x with
  | .agg l=>leL hp ρ l l' |_=>False
 |x,.AQ l'=>match x with
  | .AQ l=>leL hp ρ l l' |_=>False
 |x,.C9 t' y=>match x with
  | .C9 t z=>t=t'/\EW hp ρ z y |_=>False
 |x,.sh s=>D6 hp x=ak s\/(match x,s with| .A8,.sl _ n _=>n=0|_,_=>False)
 |x,.GX st' n' g' i' off'=>match x with
  | .GX st n g i off=>st=st'/\n=n'/\g=g'/\i=i'/\off=off' |x=>D6 hp x=ak (.pt (g' i'))/\off'=0/\(g' i').length=st'/\i'<n'
 |x,.int k' n'=>match x with
  | .int k n=>k=k'/\n=n' | .sym k n=>k=k'/\n=n' |_=>False
 |x,.bool b'=>match x with
  | .bool b=>b=b' | .test b=>b=b' |_=>False
 | .EZ,.EZ=>True | .A8,.A8=>True | .Gy,.Gy=>True | .DT,.DT=>True | .FY,.FY=>True | .glob g,.glob g'=>g=g' | .str l,.str l'=>l=l' | .val v,.val v'=>v=v' |_,_=>False
def leL(hp:List (Nat×SB))(ρ:List (Nat×Rn)):List SV->List SV->Prop
 |[],[]=>True |x::l,y::l'=>EW hp ρ x y/\leL hp ρ l l' |_,_=>False
end
def leM(hp:List (Nat×SB))(ρ:List (Nat×Rn)):List (SV×SV)->List (SV×SV)->Prop
 |[],[]=>True |(a,b)::l,(a',b')::l'=>EW hp ρ a a'/\EW hp ρ b b'/\leM hp ρ l l' |_,_=>False
def valOf:SV->Option Value
 | .int k n=>ak (.int k n) | .sym k n=>ak (.int k n) | .bool b=>ak (.bool b) | .test b=>ak (.bool b) |_=>aK
end Go.Sx
namespace Go.Pl
open Go Go.Sx
def Me(n:DY)(o:Option Value)(N:DY->Option Value):DY->Option Value:=fun j=>if j=n then o else N j
end Go.Pl
namespace Go.Sx
open Go.Pl (Me)
def aa7(M:DY->Option Value):List (DY×Bool×SV)->Option (DY->Option Value)
 |[]=>ak M |(n,p,sv)::r=>match aa7 M r with
  |some N=>match p with
   |true=>(valOf sv).map fun v=>Me n (ak v) N |false=>ak (Me n aK N)
  |none=>aK
theorem alJ{H:Mem}{E:Env}{sv:SV}{v x:Value}(h:valOf sv=ak v)(hd:Den H E sv x):x=v:=by
 unfold valOf at h;split at h;all_goals first|cases h
 all_goals exact hd
theorem agk{H:Mem}{E:Env}{M:DY->Option Value}:∀{us:List (DY×Bool×SV)} {uv:List (DY×Option Value)} {N:DY->Option Value},aa7 M us=ak N->V9 H E us uv->RS M uv=N
 |[],[],N,h,_=>by cases h;rfl |[],_::_,_,_,h=>h.elim |_::_,[],_,_,h=>h.elim |(n,p,sv)::r,(m,o)::uv,N,h,⟨e,hd,hr⟩=>by
  subst e;simp only[aa7] at h;split at h
  ·rename_i N' hN
   have ih:=agk hN hr;cases p with
   |true=>
    cases o with
    |none=>exact hd.elim |some x=>
     simp only at h;cases hv:valOf sv with
     |none=>rw[hv] at h;cases h |some v=>
      rw[hv] at h;cases h;rw[alJ hv hd.1];show (fun j=>if j=m then ak v else RS M uv j)=_;rw[ih];rfl
   |false=>
    cases o with
    |some x=>exact hd.elim |none=>
     cases h;show (fun j=>if j=m then aK else RS M uv j)=_;rw[ih];rfl
  ·cases h
theorem adE{vt:VT}{M:DY->Option Value}(hM:ake vt M):∀{us:List (DY×Bool×SV)} {N:DY->Option Value},am0 vt us->aa7 M us=ak N->ake vt N
 |[],N,_,h=>by cases h;exact hM |(n,p,sv)::r,N,hL,h=>by
  simp only[aa7] at h;split at h
  ·rename_i N' hN
   have ih:=adE hM (fun u hu=>hL u (dA _ hu)) hN;cases p with
   |true=>
    simp only at h;cases hv:valOf sv with
    |none=>rw[hv] at h;cases h |some v=>
     rw[hv] at h;cases h;have ht:sv.adn vt=aC:=hL (n,aC,sv) bZ rfl;intro k x hx;have hx:(if k=n then ak v else N' k)=ak x:=hx;split at hx
     ·cases hx
      cases sv<;>cases vt<;>simp[SV.adn] at ht<;>(unfold valOf at hv;cases hv)
      all_goals first|exact ⟨_,rfl⟩ |skip
      all_goals (rename_i kk _;cases kk<;>simp at ht;exact ⟨_,rfl⟩)
     ·exact ih k x hx
   |false=>
    cases h;intro k x hx;have hx:(if k=n then aK else N' k)=ak x:=hx;split at hx
    ·cases hx
    ·exact ih k x hx
  ·cases h
def leB(hp:List (Nat×SB))(ρ:List (Nat×Rn))(id':Nat):SB->Prop
 | .box cells' e'=>match Ak ρ id' with
  |some (.id id)=>match Ak hp id with
   |some (.box cells e)=>e=e'/\leL hp ρ cells cells' |_=>False
  |_=>False
 | .row cells' e' st' n'=>match Ak ρ id' with
  |some (.id id)=>match Ak hp id with
   |some (.row cells e st n)=>e=e'/\st=st'/\n=n'/\leL hp ρ cells cells' |_=>False
  |_=>False
 | .own e' st' n' g'=>match Ak ρ id' with
  |some (.id id)=>match WM hp id with
   |some (e,st,n,g)=>e=e'/\st=st'/\n=n'/\∀i,i<n->g i=g' i |_=>False
  |some .nil=>n'=0 |none=>False
 | .map es'=>match Ak ρ id' with
  |some (.id id)=>match Ak hp id with
   |some (.map es)=>leM hp ρ es es' |_=>False
  |_=>False
 | .fz _ _ _=>False | .Rw _=>False | .Hf _ _ _ _ _=>False | .fm _ _ _ _ _=>False | .pm vt' M' us'=>match Ak ρ id' with
  |some (.id id)=>match Ak hp id with
   |some (.pm vt M us)=>us'=[]/\vt=vt'/\aa7 M us=ak M' |_=>False
  |_=>False
 | .buf e' l'=>match Ak ρ id' with
  |some (.id id)=>match Ak hp id with
   |some (.buf e l)=>e=e'/\l=l' |_=>False
  |_=>False
def leH(hp:List (Nat×SB))(ρ:List (Nat×Rn)):List (Nat×SB)->Prop
 |[]=>True |(id',sb)::l=>leB hp ρ id' sb/\leH hp ρ l
def KE:List (Nat×Rn)->List Nat
 |[]=>[] |(_,.id i)::l=>i::KE l |_::l=>KE l
def akk(nx:Nat):List (Nat×Rn)->Bool
 |[]=>aC |(j,_)::l=>fV j nx&&akk nx l
def anx(nx:Nat)(ρ:List (Nat×Rn)):Bool:=KD (KE ρ)&&akk nx ρ
def leC(ρ:List (Nat×Rn))(c c':Core):Prop:=leL c.hp ρ c.tm c'.tm/\leH c.hp ρ c'.hp/\anx c'.nx ρ=aC
end Go.Sx
