/- Own work. -/
import Derived.Test.YthehnhaoiijkhaaGreatDoorM03
open Int (ofNat)
open Array renaming getElem?_eq_some_iff->bG,getElem?_toList->dV,replicate->dX
open Bool renaming true->aC,and_eq_true->aH,not_eq_true'->dW,false->ak
open Go.Act renaming put->uh
open Go.Calls renaming mono->mY
open Go.Deferred renaming ofValue->jF
open Go.Frame renaming finish_at->lV,enter->gI
open Go.Oper renaming wp->xA,upon->wQ
open Go.Region renaming wanted->jr,free->kS,noSelect->uj,ready->kF
open Go.Result renaming andThen_ok->fU
open Go.Sem renaming run_bind->gG,run_pure->oQ
open Go.Sx.Af renaming any->rF
open Go.Sx.Env renaming set_self->fA
open Go.Sx.Bh renaming all->dF
open Go.Sx.Post renaming refl->oN
open Go.Sx.Dq renaming NZ->zh
open Go.stepG renaming apply->gU
open List renaming mem_append->bK,length_append->bf,getElem?_eq_some_iff->aU,append_assoc->dS,getElem?_append_left->dI,getElem?_append_right->fC,getD_eq_getElem?_getD->aY,ext_getElem?->lC,getElem?_set_self->qJ,getElem?_set_ne->rE,mem_cons_of_mem->dw,mem_cons_self->cu,countP_cons->uK,range->aX,mem_range->dN,mapM_cons->wF,replicate->dR,mem_of_getElem?->bT
open Nat renaming le_trans->iH,le_refl->dh,ble->gV,le_of_ble_eq_true->fM,mul_le_mul_right->dP,add_mul->gq,one_mul->iF,le_add_right->iW,blt->fV,beq->fB,lt_or_ge->oP,add_le_add_left->sK,mul_le_mul_left->kJ
open Option renaming none->aK,some->ay,map_eq_some_iff->bV,bind_some->eU,isSome_iff_exists->gy
open Prod.mk renaming injEq->jO
namespace Go.Sx
theorem Tree.DF{α β:Type}{φ:β->Prop}{k:α->Tree β}:∀{t:Tree α},(t.bind k).All φ->t.All fun a=>(k a).All φ
 | .leaf _,h=>h | .node _ _ _,h=>⟨fun e=>Tree.DF (h.1 e),fun e=>Tree.DF (h.2 e)⟩ | .need _ _,h=>⟨h.1,Tree.DF h.2⟩ | .must _ _,h=>⟨h.1,Tree.DF h.2⟩ | .both _ _,h=>⟨Tree.DF h.1,Tree.DF h.2⟩ | .fail,h=>h.elim
theorem Tree.All.mono{α:Type}{φ ψ:α->Prop}(h:∀a,φ a->ψ a):∀{t:Tree α},t.All φ->t.All ψ
 | .leaf _,hh=>h _ hh | .node _ _ _,hh=>⟨fun e=>(hh.1 e).mono h,fun e=>(hh.2 e).mono h⟩ | .need _ _,hh=>⟨hh.1,hh.2.mono h⟩ | .must _ _,hh=>⟨hh.1,hh.2.mono h⟩ | .both _ _,hh=>⟨hh.1.mono h,hh.2.mono h⟩ | .fail,hh=>hh.elim
section
variable{P:Program}{C:Ctx}{K:Kx}{H H' Oa:Mem}{E E' Oc:Env}{w w' w'':World}
def Mv(K:Kx)(H:Mem)(E:Env)(w:World)(c:Core)(H':Mem)(E':Env)(w':World)(c':Core):Prop:=Post K H E w c H' E' w' {c' with tm:=c.tm}
theorem Post.mv{c c':Core}(h:Post K H E w c H' E' w' c'):Mv K H E w c H' E' w' c':=by
 have:=h.tm;unfold Mv;rw[<-this];exact h
theorem Mv.to{c c' d d':Core}(h:Mv K H E w c H' E' w' c')(h1:d.hp=c.hp)(h2:d.nx=c.nx)(h3:d.lim=c.lim)(h4:d.tc=c.tc)(h1':d'.hp=c'.hp)(h2':d'.nx=c'.nx)(h3':d'.lim=c'.lim)(h4':d'.tc=c'.tc):Mv K H E w d H' E' w' d':=by
 obtain ⟨t,hp,nx,lim,tc⟩:=c;obtain ⟨t',hp',nx',lim',tc'⟩:=c';obtain ⟨t1,hp1,nx1,ayp,tc1⟩:=d;obtain ⟨t2,hp2,nx2,ayq,Xx⟩:=d';simp only at h1 h2 h3 h4 h1' h2' h3' h4';subst h1 h2 h3 h4 h1' h2' h3' h4';exact ⟨h.Iw,h.LH,h.new,h.nx,h.lim,h.afA,rfl,h.hp,h.BI,h.tc,h.size,h.fr,h.NG,h.Zl,h.keep,h.old⟩
structure Ch(K:Kx)(H:Mem)(E:Env)(w:World)(q:List (Nat×SB))(u:List Nat)(H':Mem)(E':Env)(w':World)(q':List (Nat×SB))(u':List Nat)(New:Nat->Prop):Prop where
 Iw:H.le H'
 LH:E.le E'
 new:∀i,E i=aK->E' i≠aK->New i
 hp:Ai K H' E' w' q'
 BI:DX K H' w'
 tc:∀id∈u,id∈u'
 size:w.heap.size<=w'.heap.size
 fr:∀b,b<w.heap.size->(∀id∈u',bk E id≠ay b)->w'.heap[b]?=w.heap[b]?
 NG:∀i b,E i=aK->bk E' i=ay b->w.heap.size<=b\/∃id∈u',bk E id=ay b
 Zl:∀id∈u',id∈u\/E id=aK\/∃sb,zX q id=ay sb/\AL E id sb=bk E id
 keep:∀id sb b,zX q id=ay sb->id ∉ u'->AL E id sb=ay b->H' b≠aK\/∃sb',zX q' id=ay sb'/\AL E' id sb'=ay b
 old:∀id sb,zX q' id=ay sb->E id≠aK->∃sb0,zX q id=ay sb0/\∀b,AL E' id sb=ay b->AL E id sb0=ay b
theorem Mv.ch{c c':Core}(h:Mv K H E w c H' E' w' c'):Ch K H E w c.hp c.tc H' E' w' c'.hp c'.tc (fun i=>c.nx<=i/\i<c'.nx):=
 ⟨h.Iw,h.LH,h.new,h.hp,h.BI,h.tc,h.size,h.fr,h.NG,h.Zl,h.keep,h.old⟩
theorem Ch.mv{c c':Core}(h:Ch K H E w c.hp c.tc H' E' w' c'.hp c'.tc (fun i=>c.nx<=i/\i<c'.nx))(h1:c.nx<=c'.nx)(h2:c'.nx<=c.lim\/c'.nx=c.nx)(h3:c'.lim=c.lim):Mv K H E w c H' E' w' c':=
 ⟨h.Iw,h.LH,h.new,h1,h2,h3,rfl,h.hp,h.BI,h.tc,h.size,h.fr,h.NG,h.Zl,h.keep,h.old⟩
theorem Ch.mono{hp hp':List (Nat×SB)}{tc tc':List Nat}{N N':Nat->Prop}(h:Ch K H E w hp tc H' E' w' hp' tc' N)(hN:∀i,N i->N' i):Ch K H E w hp tc H' E' w' hp' tc' N':=
 {h with new:=fun i h1 h2=>hN i (h.new i h1 h2)}
theorem Ch.add{hp hp':List (Nat×SB)}{tc':List Nat}{N:Nat->Prop}(h:Ch K H E w hp [] H' E' w' hp' tc' N)(t:List Nat):Ch K H E w hp t H' E' w' hp' (tc'++t) N:=
 {h with
  tc:=fun id hid=>bK.2 (.inr hid)
  fr:=fun b hb hne=>h.fr b hb fun id hid=>hne id (bK.2 (.inl hid))
  NG:=fun i b h1 h2=>(h.NG i b h1 h2).imp (fun h=>h) fun ⟨id,h3,h4⟩=>⟨id,bK.2 (.inl h3),h4⟩
  Zl:=fun id hid=>by
   rcases bK.1 hid with h1|h1
   ·rcases h.Zl id h1 with h2|h2
    ·cases h2
    ·exact .inr h2
   ·exact .inl h1
  keep:=fun id sb b h1 h2 h3=>h.keep id sb b h1 (fun h4=>h2 (bK.2 (.inl h4))) h3}
theorem Ch.trans{hp hp1 hp2:List (Nat×SB)}{tc tc1 Xx:List Nat}{N:Nat->Prop}(h1:Ch K H E w hp tc H' E' w' hp1 tc1 N)(h2:Ch K H' E' w' hp1 tc1 Oa Oc w'' hp2 Xx N):Ch K H E w hp tc Oa Oc w'' hp2 Xx N:=by
 have tc1:=h1.tc;have Xx:=h2.tc;have noneE:∀{i:Nat},E' i=aK->E i=aK:=fun {i} h=>by
  cases he:E i with
  |none=>rfl |some v=>rw[h1.LH _ _ he] at h;cases h
 have bkE:∀{i b:Nat},E i≠aK->bk E' i=ay b->bk E i=ay b:=fun {i b} hne h=>by
  cases he:E i with
  |none=>exact (hne he).elim |some v=>simp only[bk,h1.LH _ _ he] at h;simpa[bk,he] using h
 refine ⟨fun b o h=>h2.Iw b o (h1.Iw b o h),fun i v h=>h2.LH i v (h1.LH i v h),fun i e1 e2=>?_,h2.hp,h2.BI,fun id h=>Xx id (tc1 id h),iH h1.size h2.size,
  fun b hb hne=>?_,fun i b e1 e2=>?_,fun id hid=>?_,fun id sb b hl hn ho=>?_,fun id sb hl hne=>?_⟩
 ·cases he:E' i with
  |none=>exact h2.new i he e2 |some v=>exact h1.new i e1 (by rw[he];simp)
 ·rw[h2.fr b (by have:=h1.size;omega) fun id hid e=>?_]
  ·exact h1.fr b hb fun id hid=>hne id (Xx id hid)
  ·cases he:E id with
   |none=>
    rcases h1.NG id b he e with h|⟨id',h3,h4⟩
    ·omega
    ·exact hne id' (Xx id' h3) h4
   |some v=>exact hne id hid (bkE (by rw[he];simp) e)
 ·cases he:E' i with
  |none=>
   rcases h2.NG i b he e2 with h|⟨id',h3,h4⟩
   ·exact .inl (by have:=h1.size;omega)
   ·cases he2:E id' with
    |none=>
     rcases h1.NG id' b he2 h4 with h|⟨id2,h5,h6⟩
     ·exact .inl h
     ·exact .inr ⟨id2,Xx _ h5,h6⟩
    |some v=>exact .inr ⟨id',h3,bkE (by rw[he2];simp) h4⟩
  |some v=>
   have e3:bk E' i=ay b:=by simp only[bk,h2.LH _ _ he] at e2;simpa[bk,he] using e2
   rcases h1.NG i b e1 e3 with h|⟨id2,h5,h6⟩
   ·exact .inl h
   ·exact .inr ⟨id2,Xx _ h5,h6⟩
 ·rcases h2.Zl id hid with h|h|⟨sb,h3,h4⟩
  ·exact h1.Zl id h
  ·exact .inr (.inl (noneE h))
  ·cases he:E id with
   |none=>exact .inr (.inl rfl) |some v=>
    obtain ⟨sb0,h5,h6⟩:=h1.old id sb h3 (by rw[he];simp);refine .inr (.inr ⟨sb0,h5,?_⟩);have e':bk E' id=bk E id:=by simp[bk,he,h1.LH _ _ he]
    rw[e'] at h4;cases hb:bk E id with
    |some b=>exact h6 b (by rw[h4,hb]) |none=>
     cases ho:AL E id sb0 with
     |none=>rfl |some b=>rw[<-hb];rw[Gh ho]
 ·rcases h1.keep id sb b hl (fun h=>hn (Xx id h)) ho with h|⟨sb',h3,h4⟩
  ·cases hb:H' b with
   |none=>exact (h hb).elim |some o=>exact .inl (by rw[h2.Iw b o hb];simp)
  ·exact h2.keep id sb' b h3 hn h4
 ·have hne':E' id≠aK:=fun h=>hne (noneE h)
  obtain ⟨sb1,h3,h4⟩:=h2.old id sb hl hne';obtain ⟨sb0,h5,h6⟩:=h1.old id sb1 h3 hne;exact ⟨sb0,h5,fun b hb=>h6 b (h4 b hb)⟩
theorem Mv.trans{c c1 c2:Core}(h1:Mv K H E w c H' E' w' c1)(h2:Mv K H' E' w' c1 Oa Oc w'' c2):Mv K H E w c Oa Oc w'' c2:=by
 have hnx1:c.nx<=c1.nx:=h1.nx;have hnx2:c1.nx<=c2.nx:=h2.nx;have aw2:c1.lim=c.lim:=h1.afA;have aw3:c2.lim=c1.lim:=h2.afA;have hl1:c1.nx<=c.lim\/c1.nx=c.nx:=h1.lim;have hl2:c2.nx<=c1.lim\/c2.nx=c1.nx:=h2.lim;exact ((h1.ch.mono fun i hi=>⟨hi.1,by omega⟩).trans (h2.ch.mono fun i hi=>⟨by omega,hi.2⟩)).mv (by omega) (by omega) (by omega)
theorem Mv.free{c c':Core}(h:Mv K H E w c H' E' w' c')(hf:Free E c):Free E' c':=by
 intro i h1 h2;have hn:c.nx<=c'.nx:=h.nx;have hl:c'.lim=c.lim:=h.afA;cases he:E' i with
 |none=>rfl |some v=>
  have:=h.new i (hf i (by omega) (by omega)) (by rw[he];simp);have h3:i<c'.nx:=this.2;omega
structure St(C:Ctx)(K:Kx)(H:Mem)(E:Env)(w:World)(c:Core)(a:Act):Prop where
 den:Af H E c.tm a.tmps.toList
 hp:Ai K H E w c.hp
 BI:DX K H w
 free:Free E c
 gl:CS C.gls H
 defers:a.defers=[]
structure Eh(H:Mem)(w:World)(s:Sh)(v:Value)(H':Mem)(w':World):Prop where
 Iw:H.le H'
 on:H'.on w'
 os:w'.os=w.os
 tape:w'.tape=w.tape
 output:w'.output=w.output
 size:w.heap.size<=w'.heap.size
 old:∀b,b<w.heap.size->w'.heap[b]?=w.heap[b]?
 fresh:∀b,H' b≠aK->H b≠aK\/w.heap.size<=b
 res:∀b0:Nat,∃E1:Env,(∀i,E1 i≠aK->b0<=i/\i<(CB s b0).2.2)/\(∀i b,bk E1 i=ay b->w.heap.size<=b)/\Den H' E1 (CB s b0).1 v/\Ai ⟨w,fun _=>False,H⟩ H' E1 w' (C9 [] (CB s b0).2.1)
def Aq(P:Program)(gls:List (Nat×Sh))(f:Nat)(F:List Sh->Tree Sh):Prop:=
 ∀(H:Mem) (w:World) (AX:List Sh) (args:List Value) (φ:Sh->Prop),H.on w->CS gls H->Dq H AX args->(F AX).All φ->
  Calls P f args.toArray w fun e w'=>∃v s H',e=.returned v/\φ s/\Eh H w s v H' w'
def aao(P:Program)(C:Ctx):Prop:=∀g F,C.spec g=ay F->Aq P C.gls g F
theorem FI:∀(l hp:List (Nat×SB)) (i:Nat),zX (C9 hp l) i=match zX (C9 [] l) i with|some x=>ay x|none=>zX hp i
 |[],hp,i=>by simp[C9,zX] |(j,b)::l,hp,i=>by
  rw[C9,C9,FI l (hins hp j b),FI l (hins [] j b),EC,EC];cases zX (C9 [] l) i with
  |some x=>rfl |none=>cases h:(j==i)<;>simp[zX]
mutual
theorem afP:∀(s:Sh) (b:Nat),b<=(CB s b).2.2
 | .os _ _ _ _,b=>by simp[CB] | .agg l,b=>by simpa[CB] using Xy l b | .Aj l,b=>by simpa[CB] using Xy l b | .i _ _,b=>dh _ | .b _,b=>dh _ | .v _,b=>dh _ | .str _,b=>dh _ | .sl _ _ _,b=>dh _ | .CG _ _,b=>dh _ | .fn _ _,b=>dh _ | .er _ _,b=>dh _ | .pt _,b=>dh _
theorem Xy:∀(l:List Sh) (b:Nat),b<=(Ej l b).2.2
 |[],b=>dh _ |x::r,b=>by simpa[Ej] using iH (afP x b) (Xy r _)
end
theorem Gg.world{K1:Kx}{id:Nat}{sb:SB}(h:Gg K1 H E w id sb)(hE:E.le E')(hm:∀b,Mine K1 H b->Mine K H b):Gg K H E' w id sb:=by
 cases sb with
 |box cells elem=>obtain ⟨b,cs,he,h1,h2,h3⟩:=h;exact ⟨b,cs,hE _ _ he,h1,h2.le (fun _ _ e=>e) hE,hm _ h3⟩ |row cells elem st n=>obtain ⟨v,xs,he,h1,h2,h3⟩:=h;exact ⟨v,xs,hE _ _ he,h1,h2.le (fun _ _ e=>e) hE,fun b hb=>hm _ (h3 b hb)⟩ |own elem st n g=>obtain ⟨v,xs,he,h1,h2,h3⟩:=h;exact ⟨v,xs,hE _ _ he,h1,h2,fun b hb=>hm _ (h3 b hb)⟩ |fz st n g=>obtain ⟨v,he,h1⟩:=h;exact ⟨v,hE _ _ he,h1⟩ |map es=>obtain ⟨b,ms,clk,he,h1,h2,h3⟩:=h;exact ⟨b,ms,clk,hE _ _ he,h1,h2.le (fun _ _ e=>e) hE,hm _ h3⟩ |QI l=>obtain ⟨v,he,h1⟩:=h;exact ⟨v,hE _ _ he,h1⟩ |Gx elem st n g more=>obtain ⟨v,xs,ys,he,h1,h2,h3,h4,h5,h6⟩:=h;exact ⟨v,xs,ys,hE _ _ he,h1,h2,h3.le (fun _ _ e=>e) hE,h4,h5,fun b hb=>hm _ (h6 b hb)⟩ |fm k M fs us tag=>obtain ⟨b,ms,clk,fv,uv,he,h1,h2,h3,h4,h5,h6,h7⟩:=h;exact ⟨b,ms,clk,fv,uv,hE _ _ he,h1,h2.le (fun _ _ e=>e) hE,h3.le (fun _ _ e=>e) hE,h4,h5,h6.le hE,hm _ h7⟩ |pm vt M us=>obtain ⟨b,ms,clk,uv,he,h1,h2,h3,h4,h5,h7⟩:=h;exact ⟨b,ms,clk,uv,hE _ _ he,h1,h2.le (fun _ _ e=>e) hE,h3,h4,h5,hm _ h7⟩ |buf e l=>obtain ⟨v,he,h1,h3⟩:=h;exact ⟨v,hE _ _ he,h1,fun b hb=>hm _ (h3 b hb)⟩
def Jt(P:Program)(K:Kx)(H:Mem)(E:Env)(w:World)(c:Core)(g:Nat)(ET:List Value)(φ:SV×Core->Prop):Prop:=
 Calls P g ET.toArray w fun e w'=>∃p v H' E',e=.returned v/\φ p/\Den H' E' p.1 v/\Post K H E w c H' E' w' p.2
theorem aii(hS:aao P C){c:Core}{g:Nat}{F:List Sh->Tree Sh}{args:List SV}{ET:List Value}{φ:SV×Core->Prop}(hF:C.spec g=ay F)(hh:Ai K H E w c.hp)(hw:DX K H w)(hf:Free E c)
  (hg:CS C.gls H) (hd:Af H E args ET) (h:(spread c F args).All φ):Jt P K H E w c g ET φ:=by
 unfold spread at h;split at h
 ·exact h.elim
 ·rename_i hp hfz
  obtain ⟨H1,hH,hh1,hw1,hz⟩:=MO hfz hh hw;split at h
  ·exact h.elim
  ·rename_i AX hsh
   have hrep:=Eb hh1 hsh (hd.le hH fun _ _ e=>e);refine mY (hS g F hF H1 w AX ET _ hw1.on (hg.le hH) hrep (Tree.DF h)) fun e w' ⟨v,s,H',he,hφ,r⟩=>?_;obtain ⟨E1,r1,r2,r3,r4⟩:=r.res c.nx;cases hb:gV (CB s c.nx).2.2 c.lim<;>simp only[hb,cond_true,cond_false] at hφ
   ·exact hφ.elim
   have hb:=fM hb;have hge:=afP s c.nx;have aqC:∀i u,E i=ay u->E1 i=aK:=fun i u hu=>by
    cases h1:E1 i with
    |none=>rfl |some u'=>
     have:=r1 i (by rw[h1];simp);have:=hf i this.1 (by omega);rw[this] at hu;cases hu
   let E2:Env:=fun i=>match E1 i with|some u=>ay u|none=>E i
   have hE:E.le E2:=fun i u hu=>by simp[E2,aqC i u hu,hu]
   have hE1:E1.le E2:=fun i u hu=>by simp[E2,hu]
   have conv:∀i,E i=aK->E2 i=E1 i:=fun i hi=>by simp only[E2,hi];cases E1 i<;>rfl
   have hold:∀{id:Nat} {sb:SB},Gg K H1 E w id sb->Gg K H' E2 w' id sb:=fun {id sb} hent=>
    hent.kept r.Iw hE (fun b hb=>r.old b (hent.lt hb).1) fun b hb=>by
     cases hx:H' b with
     |none=>rfl |some o=>
      rcases r.fresh b (by rw[hx];simp) with h|h
      ·exact (h (hent.lt hb).2.1).elim
      ·have:=(hent.lt hb).1;omega
   have hnew:∀{id:Nat} {sb:SB},zX (C9 [] (CB s c.nx).2.1) id=ay sb->Gg K H' E2 w' id sb/\(∀b,AL E2 id sb=ay b->w.heap.size<=b/\AL E1 id sb=ay b)/\E id=aK:=fun {id sb} hl=>by
    have hent:=r4.ent _ _ hl;refine ⟨hent.world hE1 fun b hm=>⟨hm.1,?_⟩,fun b ho=>?_,?_⟩
    ·rcases hm.2 with h|h
     ·exact .inl (iH hw.size h)
     ·exact h.elim
    ·rw[Gi hent hE1] at ho
     exact ⟨r2 id b (Gh ho),ho⟩
    ·obtain ⟨u,hu⟩:=hent.some_
     have:=r1 id (by rw[hu];simp);exact hf id this.1 (by omega)
   refine ⟨_,v,H',E2,he,hφ,r3.le (fun _ _ e=>e) hE1,fun b o h=>r.Iw b o (hH b o h),hE,fun i h1 h2=>?_,hge,.inl hb,rfl,rfl,⟨fun id sb hl=>?_,fun id id' sb sb' b h1 h2 o1 o2=>?_⟩,
    ⟨r.os.trans hw.os,r.tape.trans hw.tape,r.output.trans hw.output,iH hw.size r.size,fun b hb hn=>?_,r.on,fun b o h=>r.Iw b o (hw1.le b o h),fun b hb=>?_⟩,fun _ h=>h,r.size,fun b hb _=>r.old b hb,fun i b h1 h2=>?_,
    fun _ h=>.inl h,fun id sb b hl _ ho=>?_,fun id sb hl hne=>?_⟩
   ·rw[conv i h1] at h2
    exact r1 i h2
   ·have hl:zX (C9 hp (CB s c.nx).2.1) id=ay sb:=hl
    rw[FI] at hl;split at hl
    ·rename_i x hx
     cases hl;exact (hnew hx).1
    ·exact hold (hh1.ent _ _ hl)
   ·have h1:zX (C9 hp (CB s c.nx).2.1) id=ay sb:=h1
    have h2:zX (C9 hp (CB s c.nx).2.1) id'=ay sb':=h2;rw[FI] at h1 h2;split at h1
    ·rename_i x hx
     cases h1;split at h2
     ·rename_i y hy
      cases h2;exact r4.FQ _ _ _ _ _ hx hy ((hnew hx).2.1 b o1).2 ((hnew hy).2.1 b o2).2
     ·have a1:=((hnew hx).2.1 b o1).1
      rw[Gi (hh1.ent _ _ h2) hE] at o2;have:=((hh1.ent _ _ h2).lt o2).1;omega
    ·rw[Gi (hh1.ent _ _ h1) hE] at o1
     have a0:=((hh1.ent _ _ h1).lt o1).1;split at h2
     ·rename_i y hy
      cases h2;have a1:=((hnew hy).2.1 b o2).1;omega
     ·rw[Gi (hh1.ent _ _ h2) hE] at o2
      exact hh1.FQ _ _ _ _ _ h1 h2 o1 o2
   ·rw[r.old b (by have:=hw.size;omega)]
    exact hw.kept b hb hn
   ·rcases r.fresh b hb with h|h
    ·exact hw1.fresh b h
    ·exact .inr (.inl (iH hw.size h))
   ·simp only[bk,conv i h1] at h2
    exact .inl (r2 i b h2)
   ·rcases hz.keep id sb b hl ho with h|h
    ·left
     cases hb:H1 b with
     |none=>exact (h hb).elim |some o=>rw[r.Iw b o hb];simp
    ·refine .inr ⟨sb,?_,ZF ho hE⟩
     show zX (C9 hp (CB s c.nx).2.1) id=ay sb;rw[FI];split
     ·rename_i x hx
      obtain ⟨u,hu⟩:=(hh.ent _ _ hl).some_;have:=(hnew hx).2.2;rw[hu] at this;cases this
     ·exact h
   ·have hl:zX (C9 hp (CB s c.nx).2.1) id=ay sb:=hl
    rw[FI] at hl;split at hl
    ·rename_i x hx
     exact (hne (hnew hx).2.2).elim
    ·obtain ⟨sb0,h3,h4⟩:=hz.old id sb hl
     exact ⟨sb0,h3,fun b hb=>h4 b (by rw[Gi (hh1.ent _ _ hl) hE] at hb;exact hb)⟩
mutual
theorem aap{H1 H2:Mem}{E1 E2:Env}:∀(s:Sh) (b:Nat) (v:Value),G6 s=aC->Den H1 E1 (CB s b).1 v->Den H2 E2 (CB s b).1 v
 | .i k n,_,_,_,h=>h | .b x,_,_,_,h=>h | .str l,_,_,_,h=>by cases h;exact .str l | .v x,_,_,_,h=>by
  cases x<;>exact h
 | .agg l,b,_,hp,⟨vs,h1,h2⟩=>⟨vs,h1,Q8 l b _ (by simpa[G6] using hp) h2⟩ | .Aj l,b,_,hp,⟨vs,h1,h2⟩=>⟨vs,h1,Q8 l b _ (by simpa[G6] using hp) h2⟩ | .sl _ _ _,_,_,hp,_=>by simp[G6] at hp | .os _ _ _ _,_,_,hp,_=>by simp[G6] at hp | .CG _ _,_,_,hp,_=>by simp[G6] at hp | .fn _ _,_,_,hp,_=>by simp[G6] at hp | .er _ _,_,_,hp,_=>by simp[G6] at hp | .pt _,_,_,hp,_=>by simp[G6] at hp
theorem Q8{H1 H2:Mem}{E1 E2:Env}:∀(l:List Sh) (b:Nat) (vs:List Value),Oz l=aC->Af H1 E1 (Ej l b).1 vs->Af H2 E2 (Ej l b).1 vs
 |[],_,[],_,_=>trivial |[],_,_::_,_,h=>h.elim |_::_,_,[],_,h=>h.elim |x::r,b,v::vs,hp,⟨h1,h2⟩=>by
  simp only[Oz,aH] at hp;exact ⟨aap x b v hp.1 h1,Q8 r _ vs hp.2 h2⟩
end
theorem amV(hS:aao P C){c:Core}{g:Nat}{F:List Sh->Tree Sh}{args:List SV}{ET:List Value}{φ:SV×Core->Prop}(hF:C.spec g=ay F)(hh:Ai K H E w c.hp)(hw:DX K H w)
  (hg:CS C.gls H) (hd:Af H E args ET) (h:(Vo c F args).All φ):Jt P K H E w c g ET φ:=by
 unfold Vo at h;split at h
 ·exact h.elim
 ·rename_i hp hfz
  obtain ⟨H1,hH,hh1,hw1,hz⟩:=MO hfz hh hw;split at h
  ·exact h.elim
  ·rename_i AX hsh
   have hrep:=Eb hh1 hsh (hd.le hH fun _ _ e=>e);refine mY (hS g F hF H1 w AX ET _ hw1.on (hg.le hH) hrep (Tree.DF h)) fun e w' ⟨v,s,H',he,hφ,r⟩=>?_;obtain ⟨E1,r1,r2,r3,r4⟩:=r.res c.nx;cases hb:G6 s<;>simp only[hb,cond_true,cond_false] at hφ
   ·exact hφ.elim
   have keep:∀id sb,zX c.hp id=ay sb->Gg K H E w' id sb:=fun id sb hl=>by
    have hent:=hh.ent id sb hl;exact hent.kept (fun _ _ e=>e) (fun _ _ e=>e) (fun b ho=>r.old b (hent.lt ho).1) fun b ho=>(hent.lt ho).2.1
   refine ⟨_,v,H,E,he,hφ,aap s c.nx v hb r3,fun _ _ e=>e,fun _ _ e=>e,fun i h1 h2=>(h2 h1).elim,dh _,.inr rfl,rfl,rfl,⟨keep,fun id id' sb sb' b h1 h2 o1 o2=>hh.FQ id id' sb sb' b h1 h2 o1 o2⟩,
    ⟨r.os.trans hw.os,r.tape.trans hw.tape,r.output.trans hw.output,iH hw.size r.size,fun b hb hn=>?_,fun b o e=>?_,hw.le,hw.fresh⟩,fun _ h=>h,r.size,fun b hb _=>r.old b hb,fun i b h1 h2=>?_,
    fun _ h=>.inl h,fun id sb b hl _ ho=>.inr ⟨sb,hl,ho⟩,fun id sb hl _=>⟨sb,hl,fun b h=>h⟩⟩
   ·rw[r.old b (Nat.lt_of_lt_of_le hb hw.size)]
    exact hw.kept b hb hn
   ·rw[r.old b (bG.1 (hw.on b o e)).1]
    exact hw.on b o e
   ·simp[bk,h1] at h2
end
def Enters(P:Program)(g:Nat):Prop:=∃fn,P.funcs[g]?=ay fn/\fn.body.isSome=aC/\fn.name≠ "runtime.NumGoroutine"
def aij(P:Program)(g e st bytes:Nat):Prop:=
 ∀(w:World) (v x:Value) (n i:Nat) (xs news:List Value),w.ownsRow 0 e st v n xs->w.ownsRow 0 e st x 1 news->(∀b,Ah v=ay b->Ah x≠ay b)->(∀u∈xs,u.oneCell'=aC)->(∀u∈news,u.oneCell'=aC)->
  i<=n->n+1<=maxLen->(n+1)*bytes<=140737488355328->Calls P g #[v,.int .i64 i,x] w fun en w'=>∃v',en=.returned v'/\w'.ownsRow 0 e st v' (n+1) (xs.take (i*st)++news++xs.drop (i*st))/\w.grownBy w' (Ah v)/\
   ∀b,Ah v'=ay b->Ah v=ay b\/w.heap.size<=b
def aem(P:Program)(g e st bytes:Nat):Prop:=
 ∀(w:World) (k:Nat),k<=maxLen->k*bytes<=140737488355328->Calls P g #[.slice aK 0 0,.int .i64 k] w fun en w'=>∃v',en=.returned v'/\w'.ownsRow 0 e st v' 0 []/\w.grownBy w' aK/\∀b,Ah v'=ay b->w.heap.size<=b
structure Bz(P:Program)(C:Ctx):Prop where
 sp:aao P C
 en:∀g,(C.spec g).isSome=aC\/(C.fns.get g).isSome=aC->Enters P g
 is:∀g e te,C.ins g=ay e->C.ty e=ay te->Enters P g/\aij P g e te.size te.bytes
 gr:∀g e te,C.grow g=ay e->C.ty e=ay te->Enters P g/\aem P g e te.size te.bytes
section
variable{P:Program}{C:Ctx}{K:Kx}{H H' Oa:Mem}{E E' Oc:Env}{w w' w'':World}
theorem Ht{g:Nat}(h:Enters P g)(args:Array Value)(w:World):(callFunc g args).run P w=.ok (.enter g args) w:=by
 obtain ⟨fn,h1,h2,h3⟩:=h;have hb:fn.body≠aK:=by cases hb:fn.body<;>simp[hb] at h2 ⊢
 unfold callFunc;rw[gG,run_program];simp[h1,h3,hb]
def aen(P:Program)(K:Kx)(H:Mem)(E:Env)(w:World)(c:Core)(a:Act)(o:Oper)(φ:SV×Core->Prop):Prop:=
 ∀(next:Act->World->Prop) (Q:Exit->Act->World->Prop),
  (∀(p:SV×Core) (v:Value) (H':Mem) (E':Env) (w':World),φ p->Den H' E' p.1 v->Post K H E w c H' E' w' p.2->next (a.put o.dst v) w')->o.wp P a w next Q
theorem G7.op{c:Core}{a:Act}{o:Oper}{φ:SV×Core->Prop}(h:G7 P K H E w c a o φ):aen P K H E w c a o φ:=by
 obtain ⟨p,v,r,H',E',w',h1,h2,h3,h4,h5⟩:=h;intro next Q hn;unfold xA;rw[h5];rcases h4 with rfl|⟨rfl,rfl⟩
 ·exact hn p v H' E' w' h1 h2 h3
 ·exact hn p _ H' E' w' h1 h2 h3
def G8(P:Program)(C:Ctx)(K:Kx)(call:Nat->List SV->Core->Tree (SV×Core)):Prop:=
 ∀(H:Mem) (E:Env) (w:World) (c:Core) (g:Nat) (args:List SV) (ET:List Value) (φ:SV×Core->Prop),Af H E args ET->Ai K H E w c.hp->DX K H w->Free E c->CS C.gls H->
  (call g args c).All φ->Enters P g/\Jt P K H E w c g ET φ
theorem MQ{a:Act}{tm:List SV}(hd:Af H E tm a.tmps.toList):∀xs:List Operand,Af H E (xs.map (Bd tm)) (xs.map a.eval)
 |[]=>trivial |x::xs=>⟨AV hd x,MQ hd xs⟩
theorem ak8{st n i:Nat}{g:Nat->List Sh}{xs:List Value}{l:List Sh}{news:List Value}(h1:BN H st n g xs)(hl:Dq H l news)(hlen:news.length=st)(hone:∀u∈news,u.oneCell'=aC)(hi:i<=n):BN H st (n+1) (zV.ins g i l) (xs.take (i*st)++news++xs.drop (i*st)):=by
 obtain ⟨a1,a2,a3,a4⟩:=h1;have hle:i*st<=n*st:=dP _ hi;have htl:(xs.take (i*st)).length=i*st:=by rw[List.length_take];omega
 refine ⟨?_,fun j hj=>?_,fun u hu=>?_,fun j k s v hj e1 e2=>?_⟩
 ·rw[bf,bf,htl,hlen,List.length_drop,a1,gq];omega
 ·show (if j<i then g j else if j=i then l else g (j - 1)).length=st
  split
  ·exact a2 j (by omega)
  ·split
   ·rw[<-hl.length,hlen]
   ·exact a2 _ (by omega)
 ·rcases bK.1 hu with hu|hu
  ·rcases bK.1 hu with hu|hu
   ·exact a3 u (List.mem_of_mem_take hu)
   ·exact hone u hu
  ·exact a3 u (List.mem_of_mem_drop hu)
 ·replace e1:(if j<i then g j else if j=i then l else g (j - 1))[k]?=ay s:=e1
  have hk:∀{r:List Sh},r[k]?=ay s->r.length=st->k<st:=fun hr hl'=>by rw[<-hl'];exact (aU.1 hr).1
  split at e1
  ·rename_i hji
   have hks:=hk e1 (a2 j (by omega));have hlt:j*st+k<i*st:=by
    calc j*st+k<j*st+st:=by omega
     _=(j+1)*st:=by rw[gq,iF]
     _<=i*st:=dP _ hji
   rw[dS,dI (by omega),List.getElem?_take,if_pos hlt] at e2;exact a4 j k s v (by omega) e1 e2
  ·split at e1
   ·rename_i _ hji
    subst hji;have hks:=hk e1 (by rw[<-hl.length,hlen]);rw[dS,fC (by omega),htl,show j*st+k - j*st=k by omega,dI (by omega)] at e2;exact hl.at_ e1 e2
   ·rename_i hn1 hn2
    have hks:=hk e1 (a2 _ (by omega));have hge:i*st+st<=j*st+k:=by
     calc i*st+st=(i+1)*st:=by rw[gq,iF]
      _<=j*st:=dP _ (by omega)
      _<=j*st+k:=iW _ _
    have hjm:j*st=(j - 1)*st+st:=by
     obtain ⟨m,rfl⟩:∃m,j=m+1:=⟨j - 1,by omega⟩;rw[Nat.add_sub_cancel,gq,iF]
    rw[fC (by rw[bf,htl,hlen];exact hge),bf,htl,hlen,List.getElem?_drop] at e2;rw[show i*st+(j*st+k - (i*st+st))=(j - 1)*st+k by omega] at e2;exact a4 (j - 1) k s v (by omega) e1 e2
theorem aqD{c:Core}{g e:Nat}{args:List SV}{ET:List Value}{φ:SV×Core->Prop}(hC:A8 P C)(hF:Bz P C)(hg:C.ins g=ay e)(hh:Ai K H E w c.hp)(hw:DX K H w)(hf:Free E c)
  (hd:Af H E args ET) (h:(Vp C c e args).All φ):Enters P g/\Jt P K H E w c g ET φ:=by
 unfold Vp at h;split at h;rotate_left
 ·exact h.elim
 rename_i s i id';match ET,hd with
 |[v,iv,x],⟨hv,hiv,hx,_⟩=>
 split at h;rotate_left
 ·exact h.elim
 rename_i te hte;split at h;rotate_left
 ·exact h.elim
 rename_i n gr cells e2 st2 m hl1 hl2;cases hb:(MJ c.hp e s&&e==e2&&st2==te.size&&m==1 && !Nv s (.gs id')&&fV 0 te.size&&E8 cells)<;>simp only[hb,cond_true,cond_false] at h
 ·exact h.elim
 simp only[aH,beq_iff_eq,dW] at hb;obtain ⟨⟨⟨⟨⟨⟨hown,rfl⟩,rfl⟩,rfl⟩,hne⟩,h0⟩,hone⟩:=hb;have h0:=EO h0;split at h;rotate_left
 ·exact h.elim
 rename_i l z k hl hz hk;rw[hC.A] at hk h;obtain ⟨g1,g2,h⟩:=h;obtain ⟨z0,z1⟩:=JW g1;obtain ⟨r2,r1⟩:=Fa g2;have hz':GN i=ay z:=by
  unfold Xl at hz;split at hz
  ·cases hz;rfl
  ·cases hz;rfl
  ·cases hz
 have eiv:iv=.int .i64 z:=by
  unfold Xl at hz;split at hz
  ·cases hz;exact hiv
  ·cases hz;exact hiv
  ·cases hz
 have hkz:=GH hz' hk;subst hkz;have ea:zV.addN n 1=n+1:=rfl;rw[ea] at r1 r2 h;obtain ⟨o1,o2,_,o4,_⟩:=Xu (st:=te.size) hh hown hv;obtain ⟨xs,p2,p3⟩:=o4 _ _ hl1;obtain ⟨x1,news,q1,q2,q3,q4⟩:=hh.ent _ _ hl2;rw[hx.1] at q1;cases q1;have hdis:∀b,Ah v=ay b->Ah x≠ay b:=fun b h1 h2=>by
  rcases o1 with ⟨_,h3⟩ |⟨id,sb0,h3,h4,h5,h6⟩
  ·rw[h1] at h3;cases h3
  ·have:=hh.FQ id id' _ _ b h4 hl2 (h6.trans h1) (by simp[AL,hx.1,h2])
   subst this;have hs:Nv s (.gs id)=aC:=by
    unfold Nv;rw[h3];show (id==id)=aC;simp
   rw[hs] at hne;cases hne
 obtain ⟨hent,hins⟩:=hF.is g e te hg hte;have hrl:=Eb hh hl q3;have hnl:news.length=te.size:=by rw[q2.1,iF]
 have hno:=ES hone q3;refine ⟨hent,?_⟩;unfold Jt;have hiz:((z.toNat:Nat):Int)=z:=by omega
 subst eiv;have hcall:=hins w v x n z.toNat xs news p2 q2 hdis p3.2.2.1 hno (by omega) r1 r2;rw[hiz] at hcall;refine mY hcall fun en w' ⟨v',he,hown',hgr,hv'⟩=>?_;have ER:∀b,Ah v'=ay b->Mine K H b:=fun b hb=>by
  rcases hv' b hb with h|h
  ·exact o2 b h
  ·refine ⟨?_,.inl (by have:=hw.size;omega)⟩
   cases hH:H b with
   |none=>rfl |some o=>have:=(bG.1 (hw.on b o hH)).1;omega
 obtain ⟨c',hφ,hp⟩:=Js (s:=s) (v:=v) (v':=v') hh hw hf h o1 o2 hgr hv' (fun _=>⟨v',_,fA _ _ _,hown',ak8 p3 hrl hnl hno (by omega),ER⟩);obtain ⟨A,n',cc,e3⟩:=Jf hown';exact ⟨_,v',H,_,he,hφ,⟨fA _ _ _,A,n',cc,e3⟩,hp⟩
 |[],h|[_],h|[_,_],h|_::_::_::_::_,h=>exact (by simp[Af] at h)
theorem amW{c:Core}{g e:Nat}{args:List SV}{ET:List Value}{φ:SV×Core->Prop}(hC:A8 P C)(hF:Bz P C)(hg:C.grow g=ay e)(hh:Ai K H E w c.hp)(hw:DX K H w)(hf:Free E c)
  (hd:Af H E args ET) (h:(SK C c e args).All φ):Enters P g/\Jt P K H E w c g ET φ:=by
 unfold SK at h;split at h;rotate_left
 ·exact h.elim
 rename_i i;match ET,hd with
 |[v,iv],⟨hv,hiv,_⟩=>
 split at h;rotate_left
 ·exact h.elim
 rename_i te z k hte hz hk;rw[hC.A] at hk h;obtain ⟨g1,g2,h⟩:=h;obtain ⟨r2,r1⟩:=Fa g2;have z0:(0:Int)<=z:=of_decide_eq_true g1;have hz':GN i=ay z:=by
  unfold Xl at hz;split at hz
  ·cases hz;rfl
  ·cases hz;rfl
  ·cases hz
 have eiv:iv=.int .i64 z:=by
  unfold Xl at hz;split at hz
  ·cases hz;exact hiv
  ·cases hz;exact hiv
  ·cases hz
 have hkz:=GH hz' hk;subst hkz;obtain ⟨hent,hgo⟩:=hF.gr g e te hg hte;refine ⟨hent,?_⟩;unfold Jt;have hv:v=.slice aK 0 0:=hv;subst hv eiv;have hcall:=hgo w z.toNat r1 r2;rw[show ((z.toNat:Nat):Int)=z by omega] at hcall;refine mY hcall fun en w' ⟨v',he,hown',hgr,hv'⟩=>?_;have ER:∀b,Ah v'=ay b->Mine K H b:=fun b hb=>by
  have h:=hv' b hb;refine ⟨?_,.inl (by have:=hw.size;omega)⟩;cases hH:H b with
  |none=>rfl |some o=>have:=(bG.1 (hw.on b o hH)).1;omega
 obtain ⟨c',hφ,hp⟩:=Js (s:=.Aw) (v:=.slice aK 0 0) (v':=v') hh hw hf h (.inl ⟨rfl,rfl⟩) (fun b hb=>by simp[Ah] at hb) hgr (fun b hb=>.inr (hv' b hb)) (fun _=>⟨v',_,fA _ _ _,hown',JV _ _,ER⟩);obtain ⟨A,n',cc,e3⟩:=Jf hown';exact ⟨_,v',H,_,he,hφ,⟨fA _ _ _,A,n',cc,e3⟩,hp⟩
 |[],h|[_],h|_::_::_::_,h=>exact (by simp[Af] at h)
theorem aik{call:Nat->List SV->Core->Tree (SV×Core)}{c:Core}{a:Act}{o:Oper}{k:Call}{f:Operand}{φ:SV×Core->Prop}(hC:A8 P C)(hF:Bz P C)(hK:G8 P C K call)(st:St C K H E w c a)(ho:o.op=.call k)
  (hf:k.callee=.value f) (h:(match Bd c.tm f with
   | .fn g cs=>match C.ins g with
    |some e=>Vp C c e (k.args.toList.map (Bd c.tm)++cs) |none=>match C.grow g with
    |some e=>SK C c e (k.args.toList.map (Bd c.tm)++cs) |none=>match C.spec g with
    |some F=>bif C.lend g then Vo c F (k.args.toList.map (Bd c.tm)++cs) else spread c F (k.args.toList.map (Bd c.tm)++cs) |none=>call g (k.args.toList.map (Bd c.tm)++cs) c
   |_=>.fail).All φ):aen P K H E w c a o φ:=by
 have df:=AV (H:=H) (E:=E) st.den f;split at h
 ·rename_i g cs hg
  rw[hg] at df;obtain ⟨vs,ef,hvs⟩:=df;have hargs:=(MQ st.den k.args.toList).append hvs;have key:Enters P g/\Jt P K H E w c g (k.args.toList.map a.eval++vs.toList) φ:=by
   split at h
   ·rename_i e he
    exact aqD hC hF he st.hp st.BI st.free hargs h
   split at h
   ·rename_i e he
    exact amW hC hF he st.hp st.BI st.free hargs h
   split at h
   ·rename_i F hF2
    refine ⟨hF.en g (.inl (by rw[hF2];rfl)),?_⟩;cases hl:C.lend g<;>simp only[hl,cond_true,cond_false] at h
    ·exact aii hF.sp hF2 st.hp st.BI st.free st.gl hargs h
    ·exact amV hF.sp hF2 st.hp st.BI st.gl hargs h
   ·exact hK H E w c g _ _ φ hargs st.hp st.BI st.free st.gl h
  intro next Q hn;have hr:(execOp a.eval o).run P w=.ok (.enter g (k.args.map a.eval++vs)) w:=by
   simp only[execOp,ho,resolve,hf];simp[jF,ef,invoke,Ht key.1]
  unfold xA;rw[hr];have he:(k.args.toList.map a.eval++vs.toList).toArray=k.args.map a.eval++vs:=by
   apply Array.toList_inj.1;simp
  have:=key.2;unfold Jt at this;rw[he] at this;refine mY this fun e w' ⟨p,v,H',E',e1,e2,e3,e4⟩=>?_;subst e1;exact hn p v H' E' w' e2 e3 e4
 ·exact h.elim
theorem ak9{call:Nat->List SV->Core->Tree (SV×Core)}{c:Core}{a:Act}{o:Oper}{φ:SV×Core->Prop}(hC:A8 P C)(hF:Bz P C)(hK:G8 P C K call)(st:St C K H E w c a)
  (h:(PG C call c o).All φ):aen P K H E w c a o φ:=by
 by_cases hq:CW o.op=aC
 ·exact ((VK hC st.den st.hp st.gl hq h).toW st.hp st.BI).op
 unfold PG at h;split at h;case h_4 e ho=>exact (amL hC st.hp st.BI st.free ho h).op
 case h_5 e x ho=>exact (aso st.den st.hp st.BI st.free ho h).op
 case h_7 t n parts ho=>exact (acA hC st.den st.hp st.BI st.free ho h).op
 case h_9 t x v ho=>exact (amM hC st.den st.hp st.BI ho h).op
 case h_20 t ho=>exact (ah6 st.hp st.BI st.free ho h).op
 case h_21 t l k ho=>
  refine (aek hC st.den st.hp st.BI st.free ho (fun hs=>?_) h).op;split at hs
  ·rename_i i j
   obtain rfl:i=j:=by simpa using hs
   rfl
  ·cases hs
 case h_22 t x lo hi ho=>exact (amT hC st.den st.hp st.BI ho h).op
 case h_24 t m k v ho=>exact (ac4 hC st.den st.hp st.BI (.inr ho) h).op
 case h_25 t m k v ho=>exact (ac4 hC st.den st.hp st.BI (.inl ho) h).op
 case h_26 t m k ho=>exact (afO hC st.den st.hp st.BI st.free ho h).op
 case h_27 t m s v ho=>exact (acB st.den st.hp st.BI ho h).op
 case h_28 k ho=>
  unfold SL at h;split at h
  ·rename_i b hb
   obtain ⟨callee,xs,ts⟩:=k;simp only at hb;subst hb;simp only at h;split at h
   ·rename_i x t h1 h2
    rw[ho] at hq;simp[CW] at hq
   ·rename_i m k t r h1 h2
    have e1:xs=#[m,k]:=by cases xs;simp at h1;subst h1;rfl
    subst e1;have e2:ts[0]?=ay t:=by rw[<-dV,h2];rfl
    exact (ak7 hC st.den st.hp st.BI ho e2 h).op
   ·rename_i s x t u h1 h2
    have e1:xs=#[s,x]:=by cases xs;simp at h1;subst h1;rfl
    have e2:ts=#[t,u]:=by cases ts;simp at h2;subst h2;rfl
    subst e1 e2;cases hu:(t==u)<;>simp only[hu,cond_true,cond_false] at h
    ·exact (ah9 hC st.den st.hp st.BI st.free ho h).op
    obtain rfl:t=u:=by simpa using hu
    split at h
    ·rename_i r hr
     exact (aia hC st.den st.hp st.BI st.free ho hr h).op
    ·exact (ak6 hC st.den st.hp st.BI st.free ho h).op
   ·rw[ho] at hq;simp[CW] at hq
   ·rw[ho] at hq;simp[CW] at hq
   ·exact h.elim
  ·rename_i f hb
   exact aik hC hF hK st ho hb h
  ·exact h.elim
 case h_29 t u x ho=>exact (aqB hC st.den st.hp st.BI st.free ho h).op
 case h_30=>exact h.elim
 all_goals
  rename_i ho;rw[ho] at hq;simp[CW] at hq
theorem amX{call:Nat->List SV->Core->Tree (SV×Core)}{c:Core}{a:Act}{o:Oper}{φ:SV×Core->Prop}(hC:A8 P C)(hF:Bz P C)(hK:G8 P C K call)(st:St C K H E w c a)
  (h:(exec C call c o).All φ):aen P K H E w c a o φ:=by
 obtain ⟨ψ,h,hψ⟩:=Us h;intro next Q hn;refine ak9 hC hF hK st h next Q fun p v H' E' w' h1 h2 h3=>?_
 obtain ⟨x,q1,q2⟩:=hψ p h1;exact hn (x,p.2) v H' E' w' q1 (q2 _ _ _ h2) h3
theorem Ju{c:Core}{a:Act}(hd:Af H E c.tm a.tmps.toList)(dst:Option Nat){sv:SV}{v:Value}(hv:Den H E sv v):Af H E (QA c.tm dst sv) (a.put dst v).tmps.toList:=by
 cases dst with
 |none=>exact hd |some d=>
  simp only[QA,uh,Array.toList_setIfInBounds];exact hd.set d hv
theorem put_defers{a:Act}{dst:Option Nat}{v:Value}:(a.put dst v).defers=a.defers:=by cases dst<;>rfl
theorem St.step{c c':Core}{a:Act}(st:St C K H E w c a)(dst:Option Nat){sv:SV}{v:Value}(hv:Den H' E' sv v)(hp:Post K H E w c H' E' w' c'):St C K H' E' w' (c'.put dst sv) (a.put dst v):=by
 refine ⟨?_,hp.hp,hp.BI,?_,st.gl.le hp.Iw,by rw[put_defers];exact st.defers⟩
 ·have:=Ju (c:=c') (a:=a) (by rw[hp.tm];exact st.den.le hp.Iw hp.LH) dst hv
  exact this
 ·exact hp.mv.free st.free
theorem St.put{c:Core}{a:Act}(st:St C K H E w c a)(dst:Option Nat){sv:SV}{v:Value}(hv:Den H E sv v):St C K H E w (c.put dst sv) (a.put dst v):=
 ⟨Ju st.den dst hv,st.hp,st.BI,st.free,st.gl,by rw[put_defers];exact st.defers⟩
theorem St.know{c:Core}{a:Act}(st:St C K H E w c a){d:Nat}{b:Bool}(hd:c.tm.getD d .any=.test b):St C K H E w (c.put (ay d) (.bool b)) a:=by
 refine ⟨?_,st.hp,st.BI,st.free,st.gl,st.defers⟩;have h1:c.tm[d]?=ay (.test b):=by
  rw[aY] at hd;cases h:c.tm[d]? with
  |none=>simp[h] at hd |some x=>simp[h] at hd;rw[hd]
 obtain ⟨v,e1,e2⟩:=st.den.get h1;have e2:v=.bool b:=e2;subst e2;have h2:=st.den.set d (s:=.bool b) (v:=.bool b) rfl;have h3:a.tmps.toList.set d (.bool b)=a.tmps.toList:=by
  apply lC;intro j;by_cases hj:d=j
  ·subst hj
   have:d<a.tmps.toList.length:=(aU.1 e1).1;rw[qJ this,e1]
  ·rw[rE hj]
 rw[h3] at h2;exact h2
theorem SY{tm:List SV}{a:Act}(hd:Af H E tm a.tmps.toList){d:Nat}{sv:SV}(h:tm.getD d .any=sv)(hne:sv≠.any):∃v,a.tmps[d]?=ay v/\Den H E sv v:=by
 have h1:tm[d]?=ay sv:=by
  rw[aY] at h;cases h':tm[d]? with
  |none=>simp[h'] at h;exact (hne h.symm).elim |some x=>simp[h'] at h;rw[h]
 obtain ⟨v,e1,e2⟩:=hd.get h1;exact ⟨v,by rw[<-dV];exact e1,e2⟩
theorem GR{ops:Array Oper}{tm:List SV}{a:Act}(hd:Af H E tm a.tmps.toList)(o:Oper):
  match Ny ops.toList tm o with
  | .yes=>jr o (yielded ops a.tmps)=aC | .no=>jr o (yielded ops a.tmps)=ak | .ask d c b=>tm.getD d .any=.test c/\jr o (yielded ops a.tmps)=(c==b) | .lost=>True:=by
 unfold Ny jr;cases hg:o.guard with
 |none=>rfl |some jb=>
  obtain ⟨j,b⟩:=jb;simp only;have hop:opAt ops.toList j=ops[j]?:=by simp[opAt]
  rw[hop];cases hds:(ops[j]?).bind (·.dst) with
  |none=>trivial |some d=>
   simp only;have hy:∀c:Bool,a.tmps[d]?=ay (.bool c)->yielded ops a.tmps j=ay c:=fun c hc=>by
    simp[yielded,hds,hc]
   cases hx:tm.getD d .any with
   |bool c=>
    obtain ⟨v,e1,e2⟩:=SY hd hx (by simp);have e2:v=.bool c:=e2;subst e2;have:=hy c e1;cases c<;>cases b<;>simp[this]
   |test c=>
    obtain ⟨v,e1,e2⟩:=SY hd hx (by simp);have e2:v=.bool c:=e2;subst e2;have:=hy c e1;refine ⟨hx,?_⟩;rw[this];cases c<;>cases b<;>rfl
   |Aj l=>
    obtain ⟨v,e1,e2⟩:=SY hd hx (by simp);obtain ⟨vs,rfl,_⟩:=e2;have:yielded ops a.tmps j=aK:=by simp[yielded,hds,e1]
    rw[this];rfl
   |_=>trivial
theorem aeo{ops:List Oper}{i:Nat}:Den H E (skV ops i) undef:=by
 unfold skV;cases ops.any (fun o=>match o.guard with|some (j,_)=>fB j i|none=>ak)
 ·trivial
 ·exact ⟨#[],rfl,trivial⟩
def VQ(P:Program)(C:Ctx)(K:Kx)(H:Mem)(E:Env)(w:World)(c:Core)(a:Act)(ops:Array Oper)(i:Nat)(φ:Core->Prop):Prop:=
 ∀(next:Act->World->Prop) (Q:Exit->Act->World->Prop),
  (∀(c':Core) (a':Act) (H':Mem) (E':Env) (w':World),φ c'->St C K H' E' w' c' a'->Mv K H E w c H' E' w' c'->(∃v,a'=a.put ((ops[i]?).bind (·.dst)) v)->next a' w')->wpOp P ops Q i next a w
theorem IG{c c':Core}{a:Act}(st:St C K H E w c a)(h1:c'.hp=c.hp)(h2:c'.nx=c.nx)(h3:c'.lim=c.lim)(h4:c'.tc=c.tc):Mv K H E w c H E w c':=
 (oN st.hp st.BI).mv.to rfl rfl rfl rfl h1 h2 h3 h4
theorem afQ{call:Nat->List SV->Core->Tree (SV×Core)}{c:Core}{a:Act}{ops:Array Oper}{i:Nat}{o:Oper}{φ:Core->Prop}(hC:A8 P C)(hF:Bz P C)(hK:G8 P C K call)(st:St C K H E w c a)
  (hi:ops[i]?=ay o) (hw:jr o (yielded ops a.tmps)=aC) (h:(afl C call c o).All φ):VQ P C K H E w c a ops i φ:=by
 intro next Q hn;unfold wpOp;simp only[hi,hw,if_true];refine .inl (amX hC hF hK st (Tree.DF h) next Q fun p v H' E' w' h1 h2 h3=>?_);exact hn _ _ H' E' w' h1 (st.step o.dst h2 h3) (h3.mv.to rfl rfl rfl rfl rfl rfl rfl rfl) ⟨v,by rw[hi];rfl⟩
theorem aaq{c:Core}{a:Act}{ops:Array Oper}{i:Nat}{o:Oper}{φ:Core->Prop}(st:St C K H E w c a)
  (hi:ops[i]?=ay o) (hw:jr o (yielded ops a.tmps)=ak) (h:φ (c.put o.dst (skV ops.toList i))):VQ P C K H E w c a ops i φ:=by
 intro next Q hn;unfold wpOp;simp only[hi,hw];exact hn _ _ H E w h (st.put o.dst aeo) (IG st rfl rfl rfl rfl) ⟨undef,by rw[hi];rfl⟩
theorem Ux{call:Nat->List SV->Core->Tree (SV×Core)}{c:Core}{a:Act}{ops:Array Oper}{i:Nat}{φ:Core->Prop}(hC:A8 P C)(hF:Bz P C)(hK:G8 P C K call)(st:St C K H E w c a)
  (h:(Zz C call ops.toList c i).All φ):VQ P C K H E w c a ops i φ:=by
 unfold Zz at h;have hop:opAt ops.toList i=ops[i]?:=by simp[opAt]
 rw[hop] at h;split at h
 ·rename_i hi
  intro next Q hn;unfold wpOp;simp only[hi];exact hn _ _ H E w h st (IG st rfl rfl rfl rfl) ⟨undef,by rw[hi];rfl⟩
 ·rename_i o hi
  have hs:=GR (ops:=ops) st.den o;split at h
  ·rename_i hw
   rw[hw] at hs;exact afQ hC hF hK st hi hs h
  ·rename_i hw
   rw[hw] at hs;exact aaq st hi hs h
  ·rename_i d t b hw
   rw[hw] at hs;obtain ⟨h1,h2⟩:=hs;have key:∀v:Bool,t=v->(let c':=c.put (ay d) (.bool v);bif v==b then afl C call c' o else .leaf (c'.put o.dst (skV ops.toList i))).All φ->VQ P C K H E w c a ops i φ:=fun v hv hh=>by
    subst hv;have st':=st.know h1;have mvc:Mv K H E w c H E w (c.put (ay d) (.bool t)):=IG st rfl rfl rfl rfl;intro next Q hn;cases hb:(t==b)<;>simp only[hb,cond_true,cond_false] at hh
    ·refine aaq (P:=P) st' hi (by rw[h2,hb]) hh next Q fun c' a' H' E' w' e1 e2 e3 e4=>hn c' a' H' E' w' e1 e2 (mvc.trans e3) e4
    ·refine afQ hC hF hK st' hi (by rw[h2,hb]) hh next Q fun c' a' H' E' w' e1 e2 e3 e4=>hn c' a' H' E' w' e1 e2 (mvc.trans e3) e4
   cases t with
   |true=>exact key aC rfl (by have:=h.1 rfl;cases b<;>simpa using this) |false=>exact key ak rfl (by have:=h.2 rfl;cases b<;>simpa using this)
  ·exact h.elim
end
section
variable{P:Program}{C:Ctx}{K:Kx}{H H' Oa:Mem}{E E' Oc:Env}{w w' w'':World}
theorem aar{α:Type}{φ:α->Prop}:∀{bs:List Bool} {t:Tree α},(needs t bs).All φ->(∀b∈bs,b=aC)/\t.All φ
 |[],_,h=>⟨fun _ h=>(by cases h),h⟩ |b::r,t,h=>by
  obtain ⟨h1,h2⟩:=h;obtain ⟨h3,h4⟩:=aar h2;refine ⟨fun x hx=>?_,h4⟩;cases hx with
  |head=>exact h1 |tail _ hx=>exact h3 x hx
theorem aep{r:Option (List Bool×SV)}{x:List Bool×SV}(h:aea r=ay x):r=ay x:=by
 unfold aea at h;split at h
 ·cases h
 ·exact h
theorem Q9:∀{t:Tree (SV×Core)} {bs bs':List Bool} {v:SV},DU t bs=ay (bs',v)->∀b∈bs,b∈bs'
 | .leaf _,_,_,_,h=>by simp[DU] at h;obtain ⟨rfl,_⟩:=h;exact fun _ h=>h | .need b t,bs,bs',v,h=>fun x hx=>Q9 (t:=t) h x (dw _ hx) | .node _ _ _,_,_,_,h=>by simp[DU] at h | .both _ _,_,_,_,h=>by simp[DU] at h | .must _ _,_,_,_,h=>by simp[DU] at h | .fail,_,_,_,h=>by simp[DU] at h
theorem MR:∀{t:Tree (SV×Core)} {bs bs':List Bool} {v:SV},DU t bs=ay (bs',v)->(∀b∈bs',b=aC)->t.All fun p=>p.1=v
 | .leaf _,_,_,_,h,_=>by simp[DU] at h;exact h.2 | .need b t,bs,bs',v,h,hb=>⟨hb b (Q9 (t:=t) h b (cu ..)),MR (t:=t) h hb⟩ | .node _ _ _,_,_,_,h,_=>by simp[DU] at h | .both _ _,_,_,_,h,_=>by simp[DU] at h | .must _ _,_,_,_,h,_=>by simp[DU] at h | .fail,_,_,_,h,_=>by simp[DU] at h
theorem aas{α:Type}{φ:α->Prop}{f:Nat->Tree α}:∀{rs:List Nat},(allOf f rs).All φ->∀i∈rs,(f i).All φ
 |[],h,_,_=>h.elim |[i],h,j,hj=>by simp at hj;subst hj;exact h |i::k::r,h,j,hj=>by
  obtain ⟨h1,h2⟩:=h;cases hj with
  |head=>exact h1 |tail _ hj=>exact aas h2 j hj
theorem PS{Ba:Array Oper}{lock:List (Nat×SB)}{listed:Array Bool}{Hy:List SV}{c:Core}{q:Quiet}:∀{rs:List Nat},Vr C Ba lock listed Hy c rs=q->q≠.no->∃i∈rs,SN C Ba lock listed Hy c i=q
 |[],h,hn=>by simp[Vr] at h;exact (hn h.symm).elim |i::r,h,hn=>by
  unfold Vr at h;split at h
  ·obtain ⟨j,h1,h2⟩:=PS h hn
   exact ⟨j,dw _ h1,h2⟩
  ·exact ⟨i,cu ..,h⟩
theorem aat{p q:Nat->Bool}{i:Nat}:∀{l:List Nat},(∀x,q x=aC->p x=aC)->i∈l->p i=aC->q i=ak->l.countP q<l.countP p
 |[],_,h,_,_=>by cases h |x::l,hpq,h,h1,h2=>by
  have hle:l.countP q<=l.countP p:=List.countP_mono_left fun x _ h=>hpq x h
  rw[uK,uK];cases h with
  |head=>simp[h1,h2];omega |tail _ h=>
   have:=aat hpq h h1 h2;by_cases hq:q x=aC
   ·simp[hq,hpq x hq];omega
   ·simp[hq];omega
def cnt(ops:Array Oper)(listed:Array Bool):Nat:=(aX ops.size).countP fun j=>!listed.getD j aC
theorem amY{ops:Array Oper}{listed:Array Bool}{i:Nat}(hi:i<ops.size)(hu:listed.getD i aC=ak):cnt ops (listed.setIfInBounds i aC)<cnt ops listed:=by
 have hs:i<listed.size:=by
  rcases oP i listed.size with h|h
  ·exact h
  ·simp[Array.getElem?_eq_none h] at hu
 refine aat (i:=i) (fun x hx=>?_) (dN.2 hi) (by rw[hu];rfl) (by simp[hs]);by_cases hxi:i=x
 ·subst hxi;rw[hu];rfl
 ·rw[getD_set_ne aC hxi] at hx;exact hx
theorem Xz{unl:List Nat}:∀{hp:List (Nat×SB)} {id:Nat} {sb:SB},zX (Lu hp unl) id=ay sb->unl.contains id=ak
 |[],_,_,h=>by simp[Lu,zX] at h |(j,x)::l,id,sb,h=>by
  unfold Lu at h;cases hu:unl.contains j<;>simp only[hu,cond_true,cond_false] at h
  ·simp only[zX] at h
   cases hj:(j==id)<;>simp only[hj,cond_true,cond_false] at h
   ·exact Xz h
   ·obtain rfl:j=id:=by simpa using hj
    exact hu
  ·exact Xz h
theorem Uy{unl:List Nat}:∀{hp:List (Nat×SB)} {id:Nat} {sb:SB},zX (Lu hp unl) id=ay sb->zX hp id=ay sb
 |[],_,_,h=>h |(j,x)::l,id,sb,h=>by
  have hn:=Xz h;unfold Lu at h;cases hu:unl.contains j<;>simp only[hu,cond_true,cond_false] at h
  ·simp only[zX] at h ⊢
   cases hj:(j==id)<;>simp only[hj,cond_true,cond_false] at h ⊢
   ·exact Uy h
   ·exact h
  ·have h:=Uy h
   simp only[zX];cases hj:(j==id)<;>simp only[cond_true,cond_false]
   ·exact h
   ·obtain rfl:j=id:=by simpa using hj
    rw[hn] at hu;cases hu
structure Rg(C:Ctx)(K:Kx)(Ba:Array Oper)(base Jj:Nat)(lock:List (Nat×SB))(H0:Mem)(E0:Env)(w0:World)(c0:Core)(H:Mem)(E:Env)(w:World)(c:Core)(a:Act)(listed:Array Bool)(Hy:List SV):Prop where
 st:St C K H E w c a
 nx:c.nx=0
 lim:c.lim=0
 free:∀j,j<Ba.size->listed.getD j aC=ak->∀id,base+Jj*j<=id->id<base+Jj*(j+1)->E id=aK
 ajU:Af H0 E0 Hy a.tmps.toList
 ch:Ch K H0 E0 w0 c0.hp c0.tc H E w c.hp c.tc (fun i=>base<=i/\i<base+Jj*Ba.size)
 lk:∀id sb b,zX lock id=ay sb->AL E0 id sb=ay b->H b≠aK\/∃sb',zX c.hp id=ay sb'/\AL E id sb'=ay b
 agr:Uj H0 E0 lock w0 w
 on:H0.on w
def Still(H0:Mem)(E0:Env)(lock:List (Nat×SB))(w0:World)(w':World):Prop:=Uj H0 E0 lock w0 w'/\H0.on w'
variable{Ba:Array Oper}{base Jj:Nat}{lock:List (Nat×SB)}{H0:Mem}{E0:Env}{w0:World}{c0:Core}{c:Core}{a:Act}{listed:Array Bool}{Hy:List SV}
theorem aer(hC:A8 P C)(hH0:Ai K H0 E0 w0 lock)(hg0:CS C.gls H0)(r:Rg C K Ba base Jj lock H0 E0 w0 c0 H E w c a listed Hy){i j:Nat}{bs:List Bool}{v v0:SV}
  (h:SN C Ba lock listed Hy c i=.take j bs v v0) (hb:∀b∈bs,b=aC) :
  j=i/\∃o u,Ba[i]?=ay o/\kS .any Ba listed i=aC/\YieldsIf P Ba (Still H0 E0 lock w0) o u a/\Den H E v u/\Den H0 E0 v0 u:=by
 unfold SN at h;have hop:opAt Ba.toList i=Ba[i]?:=by simp[opAt]
 rw[hop] at h;simp only[acV] at h;split at h
 ·cases h
 ·rename_i o hi
  have hs:=GR (ops:=Ba) r.st.den o;split at h
  ·cases h
  ·rename_i hw
   rw[hw] at hs;cases hf:kS .any Ba listed i<;>simp only[hf,cond_true,cond_false] at h
   ·cases h
   cases h;exact ⟨rfl,o,undef,hi,rfl,.inr ⟨hs,rfl⟩,aeo,aeo⟩
  ·rename_i hw
   rw[hw] at hs;cases hq:(CW o.op&&kS .any Ba listed i)<;>simp only[hq,cond_true,cond_false] at h
   ·cases h
   simp only[aH] at hq;split at h
   ·rename_i bs' v' hl
    cases h;have hall:=MR (aep hl) hb;obtain ⟨p,u,h1,h2,h3,h4⟩:=afz (c:={c with tm:=Hy,hp:=lock}) (w:=w0) hC r.ajU hH0 hg0 hq.1 hall
    subst h1;exact ⟨rfl,o,u,hi,hq.2,.inl ⟨hs,fun w' hw'=>h4 w' hw'.1 hw'.2⟩,h3.le r.ch.Iw r.ch.LH,h3⟩
   ·cases hp:Ku c.tm o.op<;>simp only[hp,cond_true,cond_false] at h
    ·cases h
    split at h
    ·rename_i bs' v' hl
     cases h;have hall:=MR hl hb;obtain ⟨p,u,h1,h2,h3,h4⟩:=ah5 hC r.st.den r.st.hp r.st.gl hp hall;subst h1;exact ⟨rfl,o,u,hi,hq.2,.inl ⟨hs,fun w' _=>h4 w'⟩,h3,trivial⟩
    ·cases h
  ·cases h
theorem afR(hC:A8 P C)(r:Rg C K Ba base Jj lock H0 E0 w0 c0 H E w c a listed Hy){i d:Nat}{t:Bool}(h:SN C Ba lock listed Hy c i=.ask d t):c.tm.getD d .any=.test t:=by
 unfold SN at h;have hop:opAt Ba.toList i=Ba[i]?:=by simp[opAt]
 rw[hop] at h;simp only[acV] at h;split at h
 ·cases h
 ·rename_i o hi
  have hs:=GR (ops:=Ba) r.st.den o;split at h
  ·rename_i d' t' b' hw
   rw[hw] at hs;cases h;exact hs.1
  ·cases hf:kS .any Ba listed i<;>simp only[hf,cond_true,cond_false] at h
   ·cases h
   ·cases h
  ·cases hq:(CW o.op&&kS .any Ba listed i)<;>simp only[hq,cond_true,cond_false] at h
   ·cases h
   split at h
   ·cases h
   ·cases hp:Ku c.tm o.op<;>simp only[hp,cond_true,cond_false] at h
    ·cases h
    split at h
    ·cases h
    ·cases h
  ·cases h
theorem Rg.take(r:Rg C K Ba base Jj lock H0 E0 w0 c0 H E w c a listed Hy){i:Nat}{d:Option Nat}{u:Value}{v v0:SV}(h1:Den H E v u)(h0:Den H0 E0 v0 u):
  Rg C K Ba base Jj lock H0 E0 w0 c0 H E w (c.put d v) (a.put d u) (listed.setIfInBounds i aC) (QA Hy d v0):=by
 refine ⟨r.st.put d h1,r.nx,r.lim,fun j hj hu=>r.free j hj ?_,?_,r.ch,r.lk,r.agr,r.on⟩
 ·by_cases hij:i=j
  ·subst hij
   cases hx:listed.getD i aC with
   |false=>rfl |true=>
    rcases oP i listed.size with h|h
    ·simp[h] at hu
    ·simp at hu
  ·rw[getD_set_ne aC hij] at hu;exact hu
 ·have:=Ju (c:={c with tm:=Hy}) (a:=a) r.ajU d h0
  exact this
theorem Rg.know(r:Rg C K Ba base Jj lock H0 E0 w0 c0 H E w c a listed Hy){d:Nat}{b:Bool}(hd:c.tm.getD d .any=.test b):
  Rg C K Ba base Jj lock H0 E0 w0 c0 H E w (c.put (ay d) (.bool b)) a listed (Hy.set d (.bool b)):=by
 refine ⟨r.st.know hd,r.nx,r.lim,r.free,?_,r.ch,r.lk,r.agr,r.on⟩;obtain ⟨v,e1,e2⟩:=SY r.st.den hd (by simp);have e2:v=.bool b:=e2;subst e2;have h2:=r.ajU.set d (s:=.bool b) (v:=.bool b) rfl;have h3:a.tmps.toList.set d (.bool b)=a.tmps.toList:=by
  rw[<-dV] at e1;apply lC;intro j;by_cases hj:d=j
  ·subst hj
   have:d<a.tmps.toList.length:=(aU.1 e1).1;rw[qJ this,e1]
  ·rw[rE hj]
 rw[h3] at h2;exact h2
theorem afS{i j:Nat}(hij:(listed.setIfInBounds i aC).getD j aC=ak):j≠i/\listed.getD j aC=ak:=by
 by_cases h:i=j
 ·subst h
  rcases oP i listed.size with h|h
  ·simp[h] at hij
  ·simp at hij
 ·rw[getD_set_ne aC h] at hij
  exact ⟨fun e=>h e.symm,hij⟩
theorem Rg.step(hl0:∀id sb,zX lock id=ay sb->zX c0.hp id=ay sb)(r:Rg C K Ba base Jj lock H0 E0 w0 c0 H E w c a listed Hy){i:Nat}(hi:i<Ba.size){c':Core}{a':Act}{u:Value}
  (st':St C K H' E' w' c' a') (mv:Mv K H E w {c with tc:=[],nx:=base+Jj*i,lim:=base+Jj*(i+1)} H' E' w' c') (ha:a'=a.put ((Ba[i]?).bind (·.dst)) u)
  (hdj:disjoint c'.tc lock=aC) :
  Rg C K Ba base Jj lock H0 E0 w0 c0 H' E' w' {c' with tc:=c'.tc++c.tc,nx:=c.nx,lim:=c.lim} a' (listed.setIfInBounds i aC) (QA Hy ((Ba[i]?).bind (·.dst)) .any):=by
 have hch:=mv.ch;have hnx1:base+Jj*i<=c'.nx:=mv.nx;have hlim:c'.nx<=base+Jj*(i+1):=by
  have h1:c'.nx<=base+Jj*(i+1)\/c'.nx=base+Jj*i:=mv.lim;rcases h1 with h1|h1
  ·exact h1
  ·rw[h1,Nat.mul_add];omega
 have au6:∀id∈c'.tc,zX lock id=aK:=fun id hid=>by
  have:=List.all_eq_true.1 hdj id hid;cases h:zX lock id with
  |none=>rfl |some x=>rw[h] at this;cases this
 have hge:∀i',i'<Ba.size->base+Jj*(i'+1)<=base+Jj*Ba.size:=fun i' h=>sK (kJ _ h) _;have hkeep:∀b,H b≠aK->w'.heap[b]?=w.heap[b]?:=fun b hb=>by
  cases h:H b with
  |none=>exact (hb h).elim |some o=>rw[st'.BI.on b o (mv.Iw b o h),r.st.BI.on b o h]
 have hother:∀id sb b,zX lock id=ay sb->AL E0 id sb=ay b->w'.heap[b]?=w.heap[b]?/\(H' b≠aK\/∃sb',zX c'.hp id=ay sb'/\AL E' id sb'=ay b):=fun id sb b h1 h2=>by
  rcases r.lk id sb b h1 h2 with h|⟨sb',h3,h4⟩
  ·refine ⟨hkeep b h,.inl ?_⟩
   cases hb:H b with
   |none=>exact (h hb).elim |some o=>rw[mv.Iw b o hb];simp
  ·have hnot:id ∉ c'.tc:=fun hid=>by rw[au6 id hid] at h1;cases h1
   refine ⟨mv.fr b ((r.st.hp.ent _ _ h3).lt h4).1 fun id' TS e=>?_,mv.keep id sb' b h3 hnot h4⟩;rcases mv.Zl id' TS with h5|h5|⟨VL,h5,h6⟩
   ·cases h5
   ·simp[bk,h5] at e
   ·have:=r.st.hp.FQ _ _ _ _ _ h3 h5 h4 (h6.trans e)
    subst this;exact hnot TS
 refine ⟨⟨st'.den,st'.hp,st'.BI,?_,st'.gl,st'.defers⟩,r.nx,r.lim,fun j hj hu id h1 h2=>?_,?_,r.ch.trans ((hch.add c.tc).mono fun k hk=>?_),fun id sb b h1 h2=>(hother id sb b h1 h2).2,fun b hb=>?_,fun b o hb=>?_⟩
 ·intro k h1 h2
  have h1:c.nx<=k:=h1;have h2:k<c.lim:=h2;have:=r.nx;have:=r.lim;omega
 ·obtain ⟨hji,hu⟩:=afS hu
  have h0:=r.free j hj hu id h1 h2;cases he:E' id with
  |none=>rfl |some v=>
   have:=hch.new id h0 (by rw[he];simp);simp only at this;have q1:=this.1;have q2:=this.2;rcases Nat.lt_or_gt_of_ne hji with q|q
   ·have:Jj*(j+1)<=Jj*i:=kJ _ q
    omega
   ·have:Jj*(i+1)<=Jj*j:=kJ _ q
    omega
 ·subst ha
  exact Ju (c:={c with tm:=Hy}) (a:=a) r.ajU _ trivial
 ·simp only at hk
  have:=hge i hi;have h0:base<=base+Jj*i:=iW _ _;exact ⟨by omega,by omega⟩
 ·rcases hb with hb|⟨id,sb,h1,h2⟩
  ·have hH:H b≠aK:=by
    cases h:H0 b with
    |none=>exact (hb h).elim |some o=>rw[r.ch.Iw b o h];simp
   rw[hkeep b hH];exact r.agr b (.inl hb)
  ·rw[(hother id sb b h1 h2).1]
   exact r.agr b (.inr ⟨id,sb,h1,h2⟩)
 ·exact st'.BI.on b o (mv.Iw b o (r.ch.Iw b o hb))
theorem KF{call:Nat->List SV->Core->Tree (SV×Core)}(hC:A8 P C)(hF:Bz P C)(hK:G8 P C K call)(hH0:Ai K H0 E0 w0 lock)(hg0:CS C.gls H0)
  (hl0:∀id sb,zX lock id=ay sb->zX c0.hp id=ay sb) (hns:uj Ba=aC) {R:Act->World->Prop} {φ:Core->Prop}
  (hfin:∀H E w c a listed Hy,Rg C K Ba base Jj lock H0 E0 w0 c0 H E w c a listed Hy->φ c->R a w) :
  ∀(n:Nat) (listed:Array Bool) (Hy:List SV) (c:Core) (H:Mem) (E:Env) (w:World) (a:Act) (m:Nat),Rg C K Ba base Jj lock H0 E0 w0 c0 H E w c a listed Hy->cnt Ba listed<=m->
   (explore C call base Jj Ba lock n listed Hy c).All φ->wpAnyH P .any Ba (fun e a w=>e=.normal/\R a w) (Still H0 E0 lock w0) m listed a w
 |0,_,_,_,_,_,_,_,_,_,_,h=>h.elim |n+1,listed,Hy,c,H,E,w,a,m,r,hm,h=>by
  unfold explore at h;simp only[ahT] at h;split at h
  ·rename_i hr
   exact wpAnyH_done hr ⟨rfl,hfin H E w c a listed Hy r h⟩ m
  ·rename_i hne
   have hrange:∀i,i∈kF .any Ba listed->i<Ba.size/\listed.getD i aC=ak:=fun i hi=>by
    have h0:=(mem_ready.1 hi).1;refine ⟨?_,h0⟩;unfold kF at hi;exact dN.1 (List.mem_filter.1 hi).1
   have hdec:∀i,i∈kF .any Ba listed->∃m',m=m'+1/\cnt Ba (listed.setIfInBounds i aC)<=m':=fun i hi=>by
    have:=amY (hrange i hi).1 (hrange i hi).2;exact ⟨m - 1,by omega,by omega⟩
   split at h
   ·rename_i j bs v v0 hq
    obtain ⟨i,hi,hq1⟩:=PS hq (by simp);obtain ⟨hb,h⟩:=aar h;obtain ⟨rfl,o,u,ho,hf,hy,hd,hd0⟩:=aer hC hH0 hg0 r hq1 hb;obtain ⟨m',rfl,hm'⟩:=hdec j hi;have hop:(opAt Ba.toList j).bind (·.dst)=o.dst:=by simp[opAt,ho]
    rw[hop] at h;refine wpAnyH_take ho hns hf (by simpa using hi) (fun c a w hh=>by cases hh.1) hy ⟨r.agr,r.on⟩ ?_;exact KF hC hF hK hH0 hg0 hl0 hns hfin n _ _ _ H E w _ m' (r.take hd hd0) hm' h
   ·rename_i d t hq
    obtain ⟨i,hi,hq1⟩:=PS hq (by simp);have ht:=afR hC r hq1;cases t with
    |true=>exact KF hC hF hK hH0 hg0 hl0 hns hfin n _ _ _ H E w a m (r.know ht) hm (h.1 rfl) |false=>exact KF hC hF hK hH0 hg0 hl0 hns hfin n _ _ _ H E w a m (r.know ht) hm (h.2 rfl)
   ·rename_i hq
    have hall:=aas h;obtain ⟨i0,hi0⟩:∃i0,i0∈kF .any Ba listed:=by
     cases hr:kF .any Ba listed with
     |nil=>exact (hne hr).elim |cons x xs=>exact ⟨x,cu ..⟩
    obtain ⟨m',rfl,_⟩:=hdec i0 hi0;refine wpAnyH_all rfl (fun hr=>hne hr) fun i hi=>?_
    obtain ⟨m'',ayr,hc⟩:=hdec i hi;have hmm:m''=m':=by omega
    subst hmm;have hi':=hrange i hi;have st1:St C K H E w {c with tc:=[],nx:=base+Jj*i,lim:=base+Jj*(i+1)} a:=
     ⟨r.st.den,r.st.hp,r.st.BI,fun k h1 h2=>r.free i hi'.1 hi'.2 k h1 h2,r.st.gl,r.st.defers⟩
    refine Ux hC hF hK st1 (Tree.DF (hall i hi)) _ _ fun c' a' H' E' w' e1 e2 e3 e4=>?_
    obtain ⟨u,e4⟩:=e4;cases hdj:disjoint c'.tc lock<;>simp only[hdj,cond_true,cond_false] at e1
    ·exact e1.elim
    have hop:opAt Ba.toList i=Ba[i]?:=by simp[opAt]
    rw[hop] at e1;have r':=r.step hl0 hi'.1 e2 e3 e4 hdj;exact ⟨⟨r'.agr,r'.on⟩,KF hC hF hK hH0 hg0 hl0 hns hfin n _ _ _ H' E' w' a' m'' r' hc e1⟩
theorem St.sameHeap{c:Core}{a:Act}(st:St C K H E w c a)(h1:w'.heap=w.heap)(h2:w'.os=w.os)(h3:w'.tape=w.tape)(h4:w'.output=w.output):St C K H E w' c a:=
 ⟨st.den,⟨fun id sb hl=>(st.hp.ent id sb hl).kept (fun _ _ e=>e) (fun _ _ e=>e) (fun b _=>by rw[h1]) fun b hb=>((st.hp.ent id sb hl).lt hb).2.1,st.hp.FQ⟩,
  ⟨h2.trans st.BI.os,h3.trans st.BI.tape,h4.trans st.BI.output,by rw[h1];exact st.BI.size,fun b hb hn=>by rw[h1];exact st.BI.kept b hb hn,fun b o hb=>by rw[h1];exact st.BI.on b o hb,st.BI.le,st.BI.fresh⟩,
  st.free,st.gl,st.defers⟩
theorem aes{c c':Core}(h:Mv K H E w c H' E' w' c')(h1:w.heap=w''.heap):Mv K H E w'' c H' E' w' c':=by
 obtain ⟨a1,a2,a3,a4,a5,a6,a7,a8,a9,a10,a11,a12,a13,a14,a15,a16⟩:=h;exact ⟨a1,a2,a3,a4,a5,a6,a7,a8,a9,a10,by rw[<-h1];exact a11,by rw[<-h1];exact a12,by rw[<-h1];exact a13,a14,a15,a16⟩
theorem Bh.DY:∀{l l':List Bh},dF (l++l')->dF l/\dF l'
 |[],_,h=>⟨trivial,h⟩ |_::_,_,h=>⟨⟨h.1,(Bh.DY h.2).1⟩,(Bh.DY h.2).2⟩
theorem Bq{a b:Option (List Bh)}{l:List Bh}(h:EK a b=ay l):∃x y,a=ay x/\b=ay y/\l=x++y:=by
 unfold EK at h;split at h
 ·cases h;exact ⟨_,_,rfl,rfl,rfl⟩
 ·cases h
theorem AO{c:Bool}{a:Option (List Bh)}{l:List Bh}(h:CO c a=ay l):c=aC/\a=ay l:=by
 cases c
 ·cases h
 ·exact ⟨rfl,h⟩
theorem amZ{s s':Sh}{q:List Bh}(h:amw s s'=ay q)(ha:dF q):s=s':=by
 unfold amw at h;split at h
 ·obtain ⟨h1,h2⟩:=AO h
  simp only[aH,beq_iff_eq] at h1;obtain ⟨rfl,rfl⟩:=h1;rfl
 ·cases h
  exact ha.1
mutual
theorem OL:∀{x y:SV} {q:List Bh},Yq x y=ay q->dF q->x=y
 |x,y,q,h,ha=>by
  unfold Yq at h;split at h;all_goals first
   |(cases h;done)
   |(cases h;rfl)
   |(obtain ⟨h1,h2⟩:=AO h;simp only[aH,beq_iff_eq] at h1;obtain ⟨rfl,rfl⟩:=h1;rfl)
   |(obtain ⟨h1,h2⟩:=AO h;simp only[beq_iff_eq] at h1;subst h1;cases h2;rfl)
   |skip
  case h_3=>obtain ⟨h1,h2⟩:=AO h;simp only[beq_iff_eq] at h1;subst h1;cases h2;rw[ha.1]
  case h_5=>cases h;rw[ha.1]
  case h_7=>cases h;rw[ha.1]
  case h_10=>obtain ⟨h1,h2⟩:=AO h;simp only[aH,beq_iff_eq] at h1;obtain ⟨⟨rfl,rfl⟩,rfl⟩:=h1;cases h2;rw[ha.1]
  case h_11=>obtain ⟨h1,h2⟩:=AO h;simp only[aH,beq_iff_eq] at h1;obtain ⟨rfl,rfl⟩:=h1;cases h2;rw[ha.1,ha.2.1,ha.2.2.1]
  case h_17=>obtain ⟨h1,h2⟩:=AO h;simp only[beq_iff_eq] at h1;subst h1;rw[Jg h2 ha]
  case h_18=>rw[Jg h ha]
  case h_19=>rw[Jg h ha]
  case h_20=>obtain ⟨h1,h2⟩:=AO h;simp only[beq_iff_eq] at h1;subst h1;rw[OL h2 ha]
  case h_24=>rw[amZ h ha]
theorem Jg:∀{l m:List SV} {q:List Bh},KT l m=ay q->dF q->l=m
 |[],[],_,_,_=>rfl |x::l,y::m,q,h,ha=>by
  simp only[KT] at h;obtain ⟨a,b,h1,h2,rfl⟩:=Bq h;rw[OL h1 (Bh.DY ha).1,Jg h2 (Bh.DY ha).2]
 |[],_::_,_,h,_=>by simp[KT] at h |_::_,[],_,h,_=>by simp[KT] at h
end
theorem ac5:∀{l m:List (SV×SV)} {q:List Bh},Xm l m=ay q->dF q->l=m
 |[],[],_,_,_=>rfl |(a,b)::l,(c,d)::m,q,h,ha=>by
  simp only[Xm] at h;obtain ⟨q1,q2,h1,h2,rfl⟩:=Bq h;obtain ⟨q3,q4,h3,h4,rfl⟩:=Bq h2;obtain ⟨a1,a2⟩:=Bh.DY ha;obtain ⟨a3,a4⟩:=Bh.DY a2;rw[OL h1 a1,OL h3 a3,ac5 h4 a4]
 |[],_::_,_,h,_=>by simp[Xm] at h |_::_,[],_,h,_=>by simp[Xm] at h
theorem aau:∀{l m:List (Int×Bool×SV)} {q:List Bh},Z7 l m=ay q->dF q->l=m
 |[],[],_,_,_=>rfl |(a,p,b)::l,(c,r,d)::m,q,h,ha=>by
  simp only[Z7] at h;obtain ⟨h0,h⟩:=AO h;obtain ⟨q1,q2,h1,h2,rfl⟩:=Bq h;obtain ⟨q3,q4,h3,h4,rfl⟩:=Bq h2;obtain ⟨a1,a2⟩:=Bh.DY ha;obtain ⟨a3,a4⟩:=Bh.DY a2;cases h1;have h0:p=r:=by simpa using h0
  rw[h0,a1.1,OL h3 a3,aau h4 a4]
 |[],_::_,_,h,_=>by simp[Z7] at h |_::_,[],_,h,_=>by simp[Z7] at h
theorem afT:∀{l m:List (DC×Bool×SV)} {q:List Bh},acW l m=ay q->dF q->l=m
 |[],[],_,_,_=>rfl |((a,s),p,b)::l,((c,t),r,d)::m,q,h,ha=>by
  simp only[acW] at h;obtain ⟨h0,h⟩:=AO h;obtain ⟨q1,q2,h1,h2,rfl⟩:=Bq h;obtain ⟨q3,q4,h3,h4,rfl⟩:=Bq h2;obtain ⟨a1,a2⟩:=Bh.DY ha;obtain ⟨a3,a4⟩:=Bh.DY a2;cases h1;have h0:p=r:=by simpa using h0
  have e1:a=c:=a1.1;have e2:s=t:=a1.2.1;rw[h0,e1,e2,OL h3 a3,afT h4 a4]
 |[],_::_,_,h,_=>by simp[acW] at h |_::_,[],_,h,_=>by simp[acW] at h
theorem alb{x y:Option (Nat×Int)}{q:List Bh}(h:ahU x y=ay q)(ha:dF q):x=y:=by
 unfold ahU at h;split at h
 ·rfl
 ·obtain ⟨h1,h2⟩:=AO h
  cases h2;have h1:=by simpa using h1
  rw[h1,ha.1]
 ·cases h
theorem am0{x y:SB}{q:List Bh}(h:amx x y=ay q)(ha:dF q):x=y:=by
 unfold amx at h;split at h
 ·obtain ⟨h1,h2⟩:=AO h
  have h1:=by simpa using h1
  rw[h1,Jg h2 ha]
 ·obtain ⟨h1,h2⟩:=AO h
  simp only[aH,beq_iff_eq] at h1;rw[h1.1.1,h1.1.2,h1.2,Jg h2 ha]
 ·obtain ⟨h1,h2⟩:=AO h
  simp only[aH,beq_iff_eq] at h1;cases h2;rw[h1.1,h1.2,ha.1,ha.2.1]
 ·obtain ⟨h1,h2⟩:=AO h
  have h1:=by simpa using h1
  cases h2;rw[h1,ha.1,ha.2.1]
 ·rw[ac5 h ha]
 ·cases h
  have:=ha.1;simp only[Bh.ok,Sh.pt.injEq] at this;rw[this]
 ·obtain ⟨h1,h2⟩:=AO h
  simp only[aH,beq_iff_eq] at h1;obtain ⟨q1,q2,h3,h4,rfl⟩:=Bq h2;cases h3;obtain ⟨a1,a2⟩:=Bh.DY ha;rw[h1.1,h1.2,a1.1,a1.2.1,Jg h4 a2]
 ·obtain ⟨h1,h2⟩:=AO h
  have h1:=by simpa using h1
  cases h2;rw[h1,ha.1]
 ·obtain ⟨h1,h2⟩:=AO h
  have h1:=by simpa using h1
  obtain ⟨q1,q2,h3,h4,rfl⟩:=Bq h2;obtain ⟨q3,q4,h5,h6,rfl⟩:=Bq h4;obtain ⟨q5,q6,h7,h8,rfl⟩:=Bq h6;cases h3;obtain ⟨a1,a2⟩:=Bh.DY ha;obtain ⟨a3,a4⟩:=Bh.DY a2;obtain ⟨a5,a6⟩:=Bh.DY a4;rw[h1,a1.1,aau h5 a3,aau h7 a5,alb h8 a6]
 ·obtain ⟨h1,h2⟩:=AO h
  have h1:=by simpa using h1
  obtain ⟨q1,q2,h3,h4,rfl⟩:=Bq h2;cases h3;obtain ⟨a1,a2⟩:=Bh.DY ha;rw[h1,show _=_ from a1.1,afT h4 a2]
 ·cases h
theorem afU:∀{l m:List (Nat×SB)} {q:List Bh},acX l m=ay q->dF q->l=m
 |[],[],_,_,_=>rfl |(i,a)::l,(j,b)::m,q,h,ha=>by
  simp only[acX] at h;obtain ⟨h0,h⟩:=AO h;obtain ⟨q1,q2,h1,h2,rfl⟩:=Bq h;have h0:=by simpa using h0
  rw[h0,am0 h1 (Bh.DY ha).1,afU h2 (Bh.DY ha).2]
 |[],_::_,_,h,_=>by simp[acX] at h |_::_,[],_,h,_=>by simp[acX] at h
theorem ail{a b:Core}{q:List Bh}(h:aeb a b=ay q)(ha:dF q):a=b:=by
 unfold aeb at h;obtain ⟨h0,h⟩:=AO h;obtain ⟨q1,q2,h1,h2,rfl⟩:=Bq h;simp only[aH,beq_iff_eq] at h0;obtain ⟨⟨h3,h4⟩,h5⟩:=h0;obtain ⟨t,hp,nx,lim,tc⟩:=a;obtain ⟨t',hp',nx',lim',tc'⟩:=b;simp only at h1 h2 h3 h4 h5;rw[Jg h1 (Bh.DY ha).1,afU h2 (Bh.DY ha).2,h3,h4,h5]
def Ob.ok:Ob->Prop
 | .b x=>x=aC | .e l=>dF l
theorem PU{α:Type}{φ:α->Prop}:∀{t:Tree α} {o:List Ob} {a:α},strip t=ay (o,a)->(∀x∈o,x.ok)->φ a->t.All φ
 | .leaf _,o,a,h,_,hφ=>by simp[strip] at h;rw[h.2];exact hφ | .need b t,o,a,h,ho,hφ=>by
  simp only[strip,bV,jO] at h;obtain ⟨⟨o',a'⟩,h1,rfl,rfl⟩:=h;exact ⟨ho _ (cu ..),PU h1 (fun x hx=>ho x (dw _ hx)) hφ⟩
 | .must l t,o,a,h,ho,hφ=>by
  simp only[strip,bV,jO] at h;obtain ⟨⟨o',a'⟩,h1,rfl,rfl⟩:=h;exact ⟨ho _ (cu ..),PU h1 (fun x hx=>ho x (dw _ hx)) hφ⟩
 | .node _ _ _,_,_,h,_,_=>by simp[strip] at h | .both _ _,_,_,h,_,_=>by simp[strip] at h | .fail,_,_,h,_,_=>by simp[strip] at h
theorem XA{α:Type}{φ:α->Prop}{t:Tree α}:∀{o:List Ob},(wrap t o).All φ->(∀x∈o,x.ok)/\t.All φ
 |[],h=>⟨fun _ h=>(by cases h),h⟩ | .b x::r,h=>by
  obtain ⟨h1,h2⟩:=h;obtain ⟨h3,h4⟩:=XA h2;refine ⟨fun y hy=>?_,h4⟩;cases hy with
  |head=>exact h1 |tail _ hy=>exact h3 y hy
 | .e l::r,h=>by
  obtain ⟨h1,h2⟩:=h;obtain ⟨h3,h4⟩:=XA h2;refine ⟨fun y hy=>?_,h4⟩;cases hy with
  |head=>exact h1 |tail _ hy=>exact h3 y hy
theorem ain{α:Type}{φ:α->Prop}{t:Tree α}{l:List Bh}(h:(Xn l t).All φ):dF l/\t.All φ:=by
 unfold Xn at h;split at h
 ·exact ⟨trivial,h⟩
 ·exact h
theorem afV{t f:Tree Core}{φ:Core->Prop}(h:(ZA t f).All φ):t.All φ/\f.All φ:=by
 unfold ZA at h;split at h
 ·rename_i o a q b h1 h2
  split at h
  ·rename_i l he
   obtain ⟨h3,h4⟩:=XA h;obtain ⟨h5,h6⟩:=ain h4;have:=ail he h5;subst this;exact ⟨PU h1 (fun x hx=>h3 x (bK.2 (.inl hx))) h6,PU h2 (fun x hx=>h3 x (bK.2 (.inr hx))) h6⟩
  ·exact h
 ·exact h
theorem IX{φ:Core->Prop}:∀{t:Tree Core},(merge t).All φ->t.All φ
 | .leaf _,h=>h | .fail,h=>h | .need _ t,h=>⟨h.1,IX h.2⟩ | .must _ t,h=>⟨h.1,IX h.2⟩ | .node _ t f,h=>⟨fun e=>IX (h.1 e),fun e=>IX (h.2 e)⟩ | .both t f,h=>by
  have:=afV (show (ZA (merge t) (merge f)).All φ from h);exact ⟨IX this.1,IX this.2⟩
theorem YL:∀{m:Nat} {l:List SV} {vs:List Value},Af H E l vs->Af H E (ZB m l) vs
 |_,[],_,h=>h |m,x::l,v::vs,⟨h1,h2⟩=>by
  simp only[ZB];refine ⟨?_,YL h2⟩;cases fB (m % 2) 1
  ·trivial
  ·exact h1
 |_,_::_,[],h=>h.elim
theorem aav{g:Nat}{l:List SV}{vs:List Value}(h:Af H E l vs):Af H E (MK C g l) vs:=by
 unfold MK;split
 ·exact YL h
 ·exact h
theorem ac6{i j:Nat}:∀{l:List Nat},i∈afm j l↔i=j\/i∈l
 |[]=>by simp[afm] |k::l=>by
  unfold afm;cases h1:(j==k)<;>simp only[cond_true,cond_false]
  ·cases h2:fV j k<;>simp only[cond_true,cond_false]
   ·simp only[List.mem_cons,ac6 (l:=l)]
    constructor
    ·rintro (h|h|h)<;>simp[h]
    ·rintro (h|h|h)<;>simp[h]
   ·simp
  ·obtain rfl:j=k:=by simpa using h1
   simp
theorem aaw{i:Nat}:∀{l:List Nat},i∈QV l↔i∈l
 |[]=>by simp[QV] |j::l=>by simp[QV,ac6,aaw (l:=l)]
theorem Ch.au7{hp hp':List (Nat×SB)}{tc tc' Xx:List Nat}{N:Nat->Prop}(h:Ch K H E w hp tc H' E' w' hp' tc' N)(he:∀i,i∈Xx↔i∈tc'):Ch K H E w hp tc H' E' w' hp' Xx N:=
 {h with
  tc:=fun id hid=>(he id).2 (h.tc id hid)
  fr:=fun b hb hne=>h.fr b hb fun id hid=>hne id ((he id).2 hid)
  NG:=fun i b h1 h2=>(h.NG i b h1 h2).imp (fun h=>h) fun ⟨id,h3,h4⟩=>⟨id,(he id).2 h3,h4⟩
  Zl:=fun id hid=>h.Zl id ((he id).1 hid)
  keep:=fun id sb b h1 h2 h3=>h.keep id sb b h1 (fun h4=>h2 ((he id).2 h4)) h3}
theorem aax{call:Nat->List SV->Core->Tree (SV×Core)}(hC:A8 P C)(hF:Bz P C)(hK:G8 P C K call){c:Core}{a:Act}{φ:Core->Prop}(st:St C K H E w c a){g:Nat}(h:(drawn C call g Ba c).All φ):
  wpAny P .any Ba (fun e a' w'=>e=.normal/\∃c' H' E',φ c'/\St C K H' E' w' c' a'/\Mv K H E w c H' E' w' c') Ba.size (dX Ba.size ak) a {w with drawn:=w.drawn+1}:=by
 unfold drawn at h;simp only at h;generalize hlk:Lu c.hp (Xo C Ba.toList c [])=lock at h;cases hb:(gV (c.nx+Jq c Ba.size*Ba.size) c.lim&&uj Ba)<;>simp only[hb,cond_true,cond_false] at h
 ·exact h.elim
 simp only[aH] at hb;have hle:=fM hb.1;let w1:World:={w with drawn:=w.drawn+1}
 have st1:St C K H E w1 c a:=st.sameHeap rfl rfl rfl rfl;have hlook:∀id sb,zX lock id=ay sb->zX c.hp id=ay sb:=fun id sb hl=>by rw[<-hlk] at hl;exact Uy hl
 have hH0:Ai K H E w1 lock:=⟨fun id sb hl=>st1.hp.ent id sb (hlook id sb hl),fun i j s1 s2 b h1 h2=>st1.hp.FQ i j s1 s2 b (hlook _ _ h1) (hlook _ _ h2)⟩;have hrefl:Ch K H E w1 c.hp c.tc H E w1 c.hp c.tc (fun i=>c.nx<=i/\i<c.nx+Jq c Ba.size*Ba.size):=by
  have:=(oN (c:=c) st1.hp st1.BI).mv.ch;exact this.mono fun i hi=>by have h2:i<c.nx:=hi.2;exact ⟨hi.1,by omega⟩
 refine wpAny_of_held (S:=Still H E lock w1) _ _ _ _ ?_;refine (KF (c0:=c) (R:=fun a' w'=>∃c' H' E',φ c'/\St C K H' E' w' c' a'/\Mv K H E w c H' E' w' c') (φ:=fun c'=>φ {tm:=MK C g c'.tm,hp:=c'.hp,nx:=c.nx+Jq c Ba.size*Ba.size,lim:=c.lim,tc:=QV c'.tc}) hC hF hK hH0 st1.gl hlook hb.2 ?_
  (2*Ba.size+1) (dX Ba.size ak) c.tm {c with nx:=0,lim:=0} H E w1 a Ba.size ?_ ?_ (Tree.DF (IX h)))
 ·intro H' E' w' c' a' listed Hy r hφ
  have hnew:Free E' {tm:=MK C g c'.tm,hp:=c'.hp,nx:=c.nx+Jq c Ba.size*Ba.size,lim:=c.lim,tc:=QV c'.tc}:=fun i h1 h2=>by
   have h1:c.nx+Jq c Ba.size*Ba.size<=i:=h1;have h2:i<c.lim:=h2;cases he:E' i with
   |none=>rfl |some v=>
    have:=r.ch.new i (st.free i (by omega) h2) (by rw[he];simp);omega
  refine ⟨_,H',E',hφ,⟨aav r.st.den,r.st.hp,r.st.BI,hnew,r.st.gl,r.st.defers⟩,?_⟩;exact aes (Ch.mv (c:=c) (c':={tm:=MK C g c'.tm,hp:=c'.hp,nx:=c.nx+Jq c Ba.size*Ba.size,lim:=c.lim,tc:=QV c'.tc}) (r.ch.au7 fun i=>aaw) (iW _ _) (.inl hle) rfl) rfl
 ·refine ⟨⟨st1.den,st1.hp,st1.BI,fun i h1 h2=>by simp at h2,st1.gl,st1.defers⟩,rfl,rfl,fun j hj _ id h1 h2=>?_,st1.den,hrefl,fun id sb b h1 h2=>.inr ⟨sb,hlook id sb h1,h2⟩,fun _ _=>rfl,st1.BI.on⟩
  have:c.nx+Jq c Ba.size*(j+1)<=c.nx+Jq c Ba.size*Ba.size:=sK (kJ _ hj) _;exact st.free id (by omega) (by omega)
 ·unfold cnt
  exact iH (List.countP_le_length) (by simp)
theorem alc{call:Nat->List SV->Core->Tree (SV×Core)}(hC:A8 P C)(hF:Bz P C)(hK:G8 P C K call){c:Core}{a:Act}{φ:Core->Prop}{id:Nat}(st:St C K H E w c a){g:Nat}(h:(drawn C call g Ba c).All φ):
  (Code.region id Ba aC).wp P (fun e a' w'=>e=.normal/\∃c' H' E',φ c'/\St C K H' E' w' c' a'/\Mv K H E w c H' E' w' c') a w:=
 wp_region_any hC.mixed (aax hC hF hK st h)
end
section
variable{P:Program}{C:Ctx}{K:Kx}{H H' Oa:Mem}{E E' Oc:Env}{w w' w'':World}
theorem aqE{ops:Array Oper}{i:Nat}{rest:List Nat}{next:Act->World->Prop}{a:Act}(h:wpOp P ops (fun _ _ _=>False) i next a w)(b:Frame)(k:List Item)(cs:List Frame):
  ∃a' w',next a' w'/\Steps P (lone (b.at a (.inRegion ops (i::rest)::k)) cs w) (lone (b.at a' (.inRegion ops rest::k)) cs w'):=by
 unfold wpOp at h;cases ho:ops[i]? with
 |none=>
  simp only[ho] at h;have hs:=step_op_skip (P:=P) (b:=b) (a:=a) (k:=k) (cs:=cs) (w:=w) (ops:=ops) (i:=i) (rest:=rest) (by simp[ho]);simp only[ho,Option.bind_none,uh] at hs;exact ⟨a,w,h,.one hs⟩
 |some o=>
  simp only[ho] at h;by_cases hw:jr o (yielded ops a.tmps)=aC
  ·simp only[hw,if_true] at h
   rcases h with h|⟨_,_,_,hq⟩
   case inr=>exact hq.elim
   simp only[xA] at h;have hg:=stepG_op (P:=P) (b:=b) (k:=k) (cs:=cs) (w:=w) (rest:=rest) ho hw;have hfin:∀v,(b.at a (.inRegion ops (i::rest)::k)).finish v=b.at (a.put o.dst v) (.inRegion ops rest::k):=by
    intro v;rw[lV,ho];rfl
   generalize hr:(execOp a.eval o).run P w=r at h;cases r with
   |ok n w'=>
    cases n<;>simp only[wQ] at h
    case value v=>
     refine ⟨_,_,h,.one (step_lone_go ?_)⟩;rw[hg,<-hfin];simp[gU,hr]
    case skip=>
     refine ⟨_,_,h,.one (step_lone_go ?_)⟩;rw[hg,<-hfin];simp[gU,hr]
    case defer d=>
     refine ⟨_,_,h,.one (step_lone_go ?_)⟩;have:({b.at a (.inRegion ops (i::rest)::k) with defers:=d::a.defers}:Frame).finish undef =
       b.at ({a with defers:=d::a.defers}.put o.dst undef) (.inRegion ops rest::k):=by
      have:=lV b {a with defers:=d::a.defers} ops i rest k undef
      rw[ho] at this;exact this
     rw[hg];simp only[gU,Sem.runT_eq,hr,GStep.bare_after];exact congrArg (fun fr=>GStep.go {frame:=fr,callers:=cs,status:=.running,dying:=aK} w') this
    case enter f args=>
     obtain ⟨e,w'',fr,hR,hsteps,_,hleave⟩:=h (b.at a (.inRegion ops (i::rest)::k)::cs);have henter:step P (lone (b.at a (.inRegion ops (i::rest)::k)) cs w) =
       .next (lone (gI P f args .normal) (b.at a (.inRegion ops (i::rest)::k)::cs) w'):=
      step_lone_go (by rw[hg];simp[gU,hr,Frame.at])
     cases e with
     |returned v=>
      refine ⟨_,_,hR,.head henter (hsteps.trans (.one ?_))⟩;rw[<-hfin];exact step_leave_returned hleave
     |panicked chain=>exact hR.elim |outgrown=>obtain ⟨_,_,hq⟩:=hR;exact hq.elim
    case row row args=>
     obtain ⟨v,w'',hR,hsteps⟩:=h (b.at a (.inRegion ops (i::rest)::k)) cs;have henter:step P (lone (b.at a (.inRegion ops (i::rest)::k)) cs w) =
       .next (lone (Frame.ofRow P row args .normal) (b.at a (.inRegion ops (i::rest)::k)::cs) w'):=
      step_lone_go (by rw[hg];simp[gU,hr,Frame.at])
     refine ⟨_,_,hR,.head henter ?_⟩;rw[<-hfin];exact hsteps
    all_goals exact h.elim
   |halt x w'=>
    cases x<;>simp only[wQ] at h
    all_goals exact h.elim
  ·simp only[hw,if_false,Bool.false_eq_true] at h
   have hs:=step_op_skip (P:=P) (b:=b) (a:=a) (k:=k) (cs:=cs) (w:=w) (ops:=ops) (i:=i) (rest:=rest)
    (by simp[ho];simpa using hw)
   simp only[ho,eU] at hs;exact ⟨_,_,h,.one hs⟩
inductive BU(body:Code):List It->List Item->Prop
 |nil:BU body [] []
 |code (p:List Nat) {td:List It} {k:List Item}:BU body td k->BU body (.code p::td) (.code (AA body p)::k)
 |loop (p:List Nat) (x:Code) {td:List It} {k:List Item}:AA body p=.loop x->BU body td k->BU body (.code p::td) (.inLoop x::k)
 |inBlock (id:Nat) {td:List It} {k:List Item}:BU body td k->BU body (.inBlock id::td) (.inBlock id::k)
 |Xp {td:List It} {k:List Item}:BU body td k->BU body (.Xp::td) (.beginRound::k)
 |reg (p:List Nat) (l:List Nat) (id:Nat) (ops:Array Oper) {td:List It} {k:List Item}:AA body p=.region id ops ak->BU body td k->BU body (.reg p l::td) (.inRegion ops l::k)
theorem afW{body:Code}{id:Nat}:∀{td FU:List It} {k:List Item},BU body td k->FD id td=ay FU->∃k',exitTo id k=ay k'/\BU body FU k':=by
 intro td FU k h;induction h with
 |nil=>intro h;simp[FD] at h |code p _ ih=>intro h;simp only[FD] at h;obtain ⟨k',h1,h2⟩:=ih h;exact ⟨k',by simpa[exitTo] using h1,h2⟩ |Xp _ ih=>intro h;simp only[FD] at h;obtain ⟨k',h1,h2⟩:=ih h;exact ⟨k',by simpa[exitTo] using h1,h2⟩ |loop p x _ _ ih=>intro h;simp only[FD] at h;obtain ⟨k',h1,h2⟩:=ih h;exact ⟨k',by simpa[exitTo] using h1,h2⟩ |reg p l id ops _ _ ih=>intro h;simp only[FD] at h;obtain ⟨k',h1,h2⟩:=ih h;exact ⟨k',by simpa[exitTo] using h1,h2⟩ |inBlock j h0 ih=>
  intro h;simp only[FD] at h;cases hj:(j==id)<;>simp only[hj,cond_true,cond_false] at h
  ·obtain ⟨k',h1,h2⟩:=ih h
   refine ⟨k',?_,h2⟩;have:j≠id:=by simpa using hj
   simp[exitTo,this,h1]
  ·cases h
   obtain rfl:j=id:=by simpa using hj
   exact ⟨_,by simp[exitTo],h0⟩
def resV(a:Act)(r:ResultVar):Sem Value:=
 match r with
 | .tmp t=>pure (a.tmps.getD t undef) | .cell x t=>do loadVar t (<-asAddr (a.tmps.getD x undef))
theorem acD(fn:Func)(a:Act):results fn a.tmps=(do let vs <-fn.results.mapM (resV a);pure (if h:vs.size=1 then vs[0] else .tuple vs)):=rfl
theorem VR(hC:A8 P C){c:Core}{a:Act}(st:St C K H E w c a):∀{rs:List ResultVar} {l:List SV},Z8 C c rs=ay l->∃vs:List Value,
  (rs.mapM (resV a)).run P w=.ok vs w/\Af H E l vs
 |[],l,h=>by simp[Z8] at h;subst h;exact ⟨[],by simp,trivial⟩ | .tmp t::rs,l,h=>by
  simp only[Z8] at h;split at h
  ·rename_i sv r h1 h2
   cases h;obtain ⟨vs,e1,e2⟩:=VR hC st h2;obtain ⟨u,h3,h4⟩:=st.den.get h1;refine ⟨u::vs,?_,h4,e2⟩;rw[dV] at h3;have:a.tmps.getD t undef=u:=by simp[Array.getD_eq_getD_getElem?,h3]
   have hv:(resV a (.tmp t)).run P w=.ok u w:=by simp[resV,this]
   simp only[wF,gG,hv,oQ,fU,e1]
  ·cases h
 | .cell x t::rs,l,h=>by
  simp only[Z8] at h;split at h
  ·rename_i i r h1 h2
   simp only[bV] at h;obtain ⟨sv,h3,rfl⟩:=h;obtain ⟨vs,e1,e2⟩:=VR hC st h2;have ht:=hC.ty _ _ h1;have dx:=AV (H:=H) (E:=E) st.den (.tmp x);obtain ⟨ad,cs,q1,q2,q3,q4⟩:=Yt (w:=w) dx st.hp st.gl (fun hz=>by
    obtain ⟨_,_,_,_,_,_,_,_,_,h1⟩:=ht.info;exact (h1 hz).1) h3
   refine ⟨MN i.ty.isAgg cs::vs,?_,q3,e2⟩;have q1:a.tmps.getD x undef=.pointer (ay ad):=q1;have hl:=acZ ht q2 (q4 w (Uj.refl _ _ _ _) st.BI.on);have hv:(resV a (.cell x t)).run P w=.ok (MN i.ty.isAgg cs) w:=by simp[resV,asAddr,q1,hl,MN]
   simp only[wF,gG,hv,oQ,fU,e1]
  ·cases h
theorem aay(hC:A8 P C){c:Core}{a:Act}{fn:Func}{φ:Out->Prop}(st:St C K H E w c a)(h:(result C fn c).All φ):∃sv v,φ (.done sv c)/\Den H E sv v/\(results fn a.tmps).run P w=.ok v w:=by
 have key:∀vs:List Value,(fn.results.toList.mapM (resV a)).run P w=.ok vs w->
   (results fn a.tmps).run P w=.ok (if h:vs.toArray.size=1 then vs.toArray[0] else .tuple vs.toArray) w:=by
  intro vs hv;rw[acD,Array.mapM_eq_mapM_toList];simp only[gG,map_eq_pure_bind,hv,oQ,fU]
 unfold result at h;split at h
 ·rename_i sv hs
  obtain ⟨vs,e1,e2⟩:=VR hC st hs;match vs,e2 with
  |[v],⟨e2,_⟩=>
   exact ⟨sv,v,h,e2,by simpa using key [v] e1⟩
 ·rename_i l hne hs
  obtain ⟨vs,e1,e2⟩:=VR hC st hs;refine ⟨_,.tuple vs.toArray,h,⟨vs.toArray,rfl,e2⟩,?_⟩;rw[key vs e1,dif_neg];intro h1;have:=e2.length;simp at h1;match l,hne,(this ▸ h1:l.length=1) with
  |[x],hne,_=>exact hne x rfl
 ·exact h.elim
end
section
variable{P:Program}{C:Ctx}{K:Kx}{H H' Oa:Mem}{E E' Oc:Env}{w w' w'':World}
def aeu(P:Program)(C:Ctx)(K:Kx)(fn:Func)(g:Nat)(H:Mem)(E:Env)(w:World)(c:Core)(m:Machine)(b:Frame)(cs:List Frame):Out->Prop
 | .done sv c'=>∃(a':Act) (w':World) (H':Mem) (E':Env) (v:Value) (todo:List Item),Steps P m (lone {b.at a' todo with mode:=.returning} cs w')/\St C K H' E' w' c' a'/\Mv K H E w c H' E' w' c'/\
   Den H' E' sv v/\(results fn a'.tmps).run P w'=.ok v w'
 | .stop g' FU c'=>g'=g/\∃(a':Act) (w':World) (H':Mem) (E':Env) (items':List Item),Steps P m (lone (b.at a' items') cs w')/\St C K H' E' w' c' a'/\Mv K H E w c H' E' w' c'/\BU (Ae fn) FU items'
theorem aeu.of{fn:Func}{g:Nat}{c c1:Core}{m m1:Machine}{b:Frame}{cs:List Frame}{out:Out}(hs:Steps P m m1)(hm:Mv K H E w c H' E' w' c1)(h:aeu P C K fn g H' E' w' c1 m1 b cs out):
  aeu P C K fn g H E w c m b cs out:=by
 cases out with
 |done sv c'=>
  obtain ⟨a2,w2,H2,E2,v,todo,h1,h2,h3,h4,h5⟩:=h;exact ⟨a2,w2,H2,E2,v,todo,hs.trans h1,h2,hm.trans h3,h4,h5⟩
 |stop g' FU c'=>
  obtain ⟨hg,a2,w2,H2,E2,items,h1,h2,h3,h4⟩:=h;exact ⟨hg,a2,w2,H2,E2,items,hs.trans h1,h2,hm.trans h3,h4⟩
def aio(P:Program)(C:Ctx)(K:Kx)(fn:Func)(H:Mem)(E:Env)(w:World)(c:Core)(m:Machine)(b:Frame)(cs:List Frame):Sig->Prop
 | .done sv c'=>∃(a':Act) (w':World) (H':Mem) (E':Env) (v:Value) (todo:List Item),Steps P m (lone {b.at a' todo with mode:=.returning} cs w')/\St C K H' E' w' c' a'/\Mv K H E w c H' E' w' c'/\
   Den H' E' sv v/\(results fn a'.tmps).run P w'=.ok v w'
 | .go FU c'=>∃(a':Act) (w':World) (H':Mem) (E':Env) (items':List Item),Steps P m (lone (b.at a' items') cs w')/\St C K H' E' w' c' a'/\Mv K H E w c H' E' w' c'/\BU (Ae fn) FU items' | .halt FU c'=>∃(a':Act) (w':World) (H':Mem) (E':Env) (items':List Item),Steps P m (lone (b.at a' items') cs w')/\St C K H' E' w' c' a'/\Mv K H E w c H' E' w' c'/\BU (Ae fn) FU items'
theorem St.MK{c:Core}{a:Act}(st:St C K H E w c a)(g:Nat):St C K H E w {c with tm:=Go.Sx.MK C g c.tm} a:=
 ⟨aav st.den,st.hp,st.BI,st.free,st.gl,st.defers⟩
theorem XB(hC:A8 P C)(hF:Bz P C){call:Nat->List SV->Core->Tree (SV×Core)}(hK:G8 P C K call){top:Bool}{g:Nat}{fn:Func}{td:List It}{c:Core}{a:Act}{items:List Item}{φ:Sig->Prop}
  (h:(QW C call top g fn td c).All φ) (st:St C K H E w c a) (hi:BU (Ae fn) td items) (b:Frame) (cs:List Frame) :
  ∃sig,φ sig/\aio P C K fn H E w c (lone (b.at a items) cs w) b cs sig:=by
 have KU:Mv K H E w c H E w c:=IG st rfl rfl rfl rfl;have go:∀{FU:List It} {c':Core} {H':Mem} {E':Env} {w':World} {a':Act} {items':List Item},φ (.go FU c')->St C K H' E' w' c' a'->Mv K H E w c H' E' w' c'->BU (Ae fn) FU items'->
   Steps P (lone (b.at a items) cs w) (lone (b.at a' items') cs w')->∃sig,φ sig/\aio P C K fn H E w c (lone (b.at a items) cs w) b cs sig:=fun h1 h2 h3 h4 h5=>⟨_,h1,_,_,_,_,_,h5,h2,h3,h4⟩
 have fin:∀(todo:List Item),((result C fn c).bind aec).All φ->step P (lone (b.at a items) cs w)=.next (lone {b.at a todo with mode:=.returning} cs w)->∃sig,φ sig/\aio P C K fn H E w c (lone (b.at a items) cs w) b cs sig:=fun todo hr hs=>by
  obtain ⟨sv,v,h1,h2,h3⟩:=aay hC st (Tree.DF hr);exact ⟨_,h1,a,w,H,E,v,todo,.one hs,st,KU,h2,h3⟩
 unfold QW at h;split at h
 ·cases hi
  exact fin _ h step_end
 ·cases hi with
  |inBlock id hk=>exact go h st KU hk (.one step_inBlock)
 ·exact h.elim
 ·cases hi with
  |reg p l id ops hc hk=>exact go h (st.MK g) (IG st rfl rfl rfl rfl) hk (.one step_region_end)
 ·rename_i p i r k
  cases hi with
  |reg p l id ops hc hk=>
   rw[hc] at h;simp only at h;obtain ⟨a',w',h1,h2⟩:=aqE (Ux hC hF hK st (Tree.DF h) (fun a' w'=>∃c' H' E',φ (.go (.reg p r::k) c')/\St C K H' E' w' c' a'/\Mv K H E w c H' E' w' c') (fun _ _ _=>False)
    fun c' a' H' E' w' e1 e2 e3 _=>⟨c',H',E',e1,e2,e3⟩) b _ cs
   obtain ⟨c',H',E',e1,e2,e3⟩:=h1;exact go e1 e2 e3 (.reg p r id ops hc hk) h2
 ·rename_i p k
  have hloop:∀{x:Code},AA (Ae fn) p=x->(∀y,x≠.loop y)->∃k',items=.code x::k'/\BU (Ae fn) k k':=fun {x} hx hne=>by
   cases hi with
   |code p hk=>exact ⟨_,by rw[hx],hk⟩ |loop p y hl hk=>exact (hne y (hx.symm.trans hl)).elim
  split at h
  ·rename_i hx
   obtain ⟨k',rfl,hk⟩:=hloop hx (by simp);exact go h st KU hk (.one step_skip)
  ·rename_i hx
   obtain ⟨k',rfl,hk⟩:=hloop hx (by simp);exact fin _ h step_ret
  ·rename_i x y hx
   obtain ⟨k',rfl,hk⟩:=hloop hx (by simp);have h0:AA (Ae fn) (0::p)=x:=by simp[AA,hx,child]
   have h1:AA (Ae fn) (1::p)=y:=by simp[AA,hx,child]
   have:=BU.code (0::p) (BU.code (1::p) hk);rw[h0,h1] at this;exact go h st KU this (.one step_seq)
  ·rename_i id x hx
   obtain ⟨k',rfl,hk⟩:=hloop hx (by simp);have h0:AA (Ae fn) (0::p)=x:=by simp[AA,hx,child]
   have:=BU.code (0::p) (BU.inBlock id hk);rw[h0] at this;exact go h st KU this (.one step_block)
  ·rename_i x hx
   have h0:AA (Ae fn) (0::p)=x:=by simp[AA,hx,child]
   cases hst:C.LU g p<;>simp only[hst,cond_true,cond_false] at h
   ·cases hi with
    |code p hk=>
     have:=BU.code (0::p) (BU.loop p x hx hk);rw[h0] at this;rw[hx] at go ⊢;exact go h st KU this (.one step_loop)
    |loop p y hl hk=>
     rw[hx] at hl;cases hl;have:=BU.code (0::p) (BU.loop p x hx hk);rw[h0] at this;exact go h st KU this (.one step_inLoop)
   ·exact ⟨_,h,a,w,H,E,items,.refl _ _,st,KU,hi⟩
  ·rename_i id hx
   obtain ⟨k',rfl,hk⟩:=hloop hx (by simp);split at h
   ·rename_i k2 he
    obtain ⟨k3,h1,h2⟩:=afW hk he;exact go h st KU h2 (.one (step_exit h1))
   ·exact h.elim
  ·rename_i x y z hx
   obtain ⟨k',rfl,hk⟩:=hloop hx (by simp);have h0:=BU.code (0::p) hk;have h1:=BU.code (1::p) hk;have e0:AA (Ae fn) (0::p)=y:=by simp[AA,hx,child]
   have e1:AA (Ae fn) (1::p)=z:=by simp[AA,hx,child]
   rw[e0] at h0;rw[e1] at h1;have dx:=AV (H:=H) (E:=E) st.den x;split at h
   ·rename_i hv
    rw[hv] at dx;exact go h st KU h0 (.one (step_cond (t:=aC) dx))
   ·rename_i hv
    rw[hv] at dx;exact go h st KU h1 (.one (step_cond (t:=ak) dx))
   ·rename_i t hv
    rw[hv] at dx;have st':∀v,t=v->St C K H E w (c.put (Vs x) (.bool v)) a:=fun v hv2=>by
     subst hv2;cases x with
     |tmp d=>exact st.know hv |const u=>exact ⟨st.den,st.hp,st.BI,st.free,st.gl,st.defers⟩ |global u=>exact ⟨st.den,st.hp,st.BI,st.free,st.gl,st.defers⟩ |func u=>exact ⟨st.den,st.hp,st.BI,st.free,st.gl,st.defers⟩
    have mv':∀v:Bool,Mv K H E w c H E w (c.put (Vs x) (.bool v)):=fun v=>IG st rfl rfl rfl rfl
    cases t with
    |true=>exact go (h.1 rfl) (st' aC rfl) (mv' aC) h0 (.one (step_cond (t:=aC) dx)) |false=>exact go (h.2 rfl) (st' ak rfl) (mv' ak) h1 (.one (step_cond (t:=ak) dx))
   ·exact h.elim
  ·rename_i id ops dr hx
   obtain ⟨k',rfl,hk⟩:=hloop hx (by simp);cases dr with
   |false=>
    simp only[cond_false] at h;exact go h st KU (.reg p (aX ops.size) id ops hx hk) (.one step_region)
   |true=>
    simp only[cond_true] at h;have key:∀(f:Core->Tree Sig),((drawn C call g ops c).bind f).All φ->∃c' a' H' E' w',(f c').All φ/\St C K H' E' w' c' a'/\Mv K H E w c H' E' w' c'/\Steps P (lone (b.at a (.code (.region id ops aC)::k')) cs w) (lone (b.at a' k') cs w'):=fun f hf=>by
     obtain ⟨e,a',w',⟨he,c',H',E',h1,h2,h3⟩,harr⟩:=alc (id:=id) hC hF hK st (Tree.DF hf) b k' cs;subst he;exact ⟨c',a',H',E',w',h1,h2,h3,harr⟩
    cases hl:(top && !(drawn C call g ops c).lone)<;>simp only[hl,cond_true,cond_false] at h
    ·obtain ⟨c',a',H',E',w',h1,h2,h3,h4⟩:=key _ h
     exact go h1 h2 h3 hk h4
    ·obtain ⟨c',a',H',E',w',h1,h2,h3,h4⟩:=key _ h
     exact ⟨_,h1,a',w',H',E',k',h4,h2,h3,hk⟩
  ·exact h.elim
def aaz(P:Program)(C:Ctx)(K:Kx)(run:Bool->Nat->List It->Core->Tree Out):Prop:=
 ∀(top:Bool) (g:Nat) (td:List It) (c:Core) (H:Mem) (E:Env) (w:World) (a:Act) (fn:Func) (items:List Item) (φ:Out->Prop),C.fns.get g=ay fn->(run top g td c).All φ->St C K H E w c a->
  BU (Ae fn) td items->∀(b:Frame) (cs:List Frame),∃out,φ out/\aeu P C K fn g H E w c (lone (b.at a items) cs w) b cs out
theorem Kz{p:Nat->Bool}:∀{l:List (Nat×SB)} {i:Nat},zX (dropKey p l) i=bif p i then aK else zX l i
 |[],i=>by cases h:p i<;>simp[dropKey,zX] |(j,b)::r,i=>by
  have ih:=Kz (p:=p) (l:=r) (i:=i);simp only[dropKey];cases hj:p j<;>simp only[cond_true,cond_false,zX]
  ·cases hji:(j==i)<;>simp only[cond_true,cond_false]
   ·exact ih
   ·obtain rfl:j=i:=by simpa using hji
    rw[hj];rfl
  ·cases hji:(j==i)<;>simp only[cond_true,cond_false]
   ·exact ih
   ·obtain rfl:j=i:=by simpa using hji
    rw[ih,hj];rfl
theorem Mv.gc{c c':Core}(h:Mv K H E w c H' E' w' c')(hf:Free E c){p:Nat->Bool}(hp:∀i,p i=aC->c.nx<=i/\i<c.lim):Mv K H E w c H' E' w' {c' with hp:=dropKey p c'.hp}:=by
 have hl:∀{i sb},zX (dropKey p c'.hp) i=ay sb->zX c'.hp i=ay sb:=fun {i sb} h=>by
  rw[Kz] at h;cases hi:p i<;>simp only[hi,cond_true,cond_false] at h
  ·exact h
  ·cases h
 have hch:=h.ch;refine Ch.mv (c:=c) (c':={c' with hp:=dropKey p c'.hp}) ⟨hch.Iw,hch.LH,hch.new,⟨fun id sb hq=>hch.hp.ent _ _ (hl hq),fun id id' sb sb' b q1 q2=>hch.hp.FQ _ _ _ _ _ (hl q1) (hl q2)⟩,hch.BI,hch.tc,hch.size,hch.fr,hch.NG,hch.Zl,fun id sb b q1 q2 q3=>?_,fun id sb q1=>hch.old id sb (hl q1)⟩ h.nx h.lim h.afA
 rcases hch.keep id sb b q1 q2 q3 with q|⟨sb',q4,q5⟩
 ·exact .inl q
 ·refine .inr ⟨sb',?_,q5⟩
  show zX (dropKey p c'.hp) id=ay sb';rw[Kz];cases hi:p id<;>simp only[cond_true,cond_false]
  ·exact q4
  ·have:=hf id (hp id hi).1 (hp id hi).2
   have q6:=Gh q3;simp[bk,this] at q6
theorem S9(hC:A8 P C)(hF:Bz P C){run:Bool->Nat->List It->Core->Tree Out}(hr:aaz P C K run):G8 P C K (LV C (run ak)):=by
 intro H E w c g args ET φ hd hh hw hf hg h;unfold LV at h;split at h
 ·exact h.elim
 ·rename_i fn hfn
  cases hb:(gV args.length fn.ntmps&&fn.body.isSome)<;>simp only[hb,cond_true,cond_false] at h
  ·exact h.elim
  simp only[aH] at hb;obtain ⟨body,hbody⟩:=gy.1 hb.2;have hP:=hC.fn g fn hfn;refine ⟨hF.en g (.inr (by rw[hfn];rfl)),fun cs=>?_⟩;let b:Frame:={(default:Frame) with fn:=g,kind:=.normal}
  let a:Act:={tmps:=ET.toArray++dX (fn.ntmps - ET.toArray.size) undef,defers:=[]}
  have henter:gI P g ET.toArray .normal=b.at a [.code body]:=by
   simp[gI,Frame.at,hP,hbody,b,a]
  have hlen:=hd.length;have st:St C K H E w {tm:=args++dR (fn.ntmps - args.length) .any,hp:=c.hp,nx:=c.nx,lim:=c.lim,tc:=c.tc} a:=by
   refine ⟨?_,hh,hw,hf,hg,rfl⟩;have:a.tmps.toList=ET++dR (fn.ntmps - args.length) undef:=by simp[a,hlen]
   rw[this];exact hd.append (rF _ _ (by simp))
  have hit:BU (Ae fn) [.code []] [.code body]:=by
   have:=BU.code (body:=Ae fn) [] BU.nil;have he:AA (Ae fn) []=body:=by simp[AA,Ae,hbody]
   rwa[he] at this
  obtain ⟨out,h1,h2⟩:=hr ak g [.code []] _ H E w a fn [.code body] _ hfn (Tree.DF h) st hit b cs;cases out with
  |stop _ _ _=>exact h1.elim |done sv c'=>
   obtain ⟨a',w',H',E',v,todo,q1,q2,q3,q4,q5⟩:=h2;refine ⟨.returned v,w',_,⟨_,v,H',E',rfl,h1,q4,?_⟩,by rw[henter];exact q1,rfl,rfl,q2.defers,rfl,fn,hP,q5⟩;have q3':=q3.to (d:=c) (d':={c' with tm:=c.tm}) rfl rfl rfl rfl rfl rfl rfl rfl
   have q6:=q3'.gc hf (p:=fun i=>gV c.nx i&&fV i c.lim && !(reach c'.hp 4000 (refs sv++Ls c'.hp c'.tc) []).contains i) (fun i hi=>by simp only[aH] at hi;exact ⟨fM hi.1.1,EO hi.1.2⟩);exact q6
theorem ald:aaz P C K (run C 0):=fun top g td c H E w a fn items φ _ h st hi b cs=>
 ⟨_,h,rfl,a,w,H,E,items,.refl _ _,st,IG st rfl rfl rfl rfl,hi⟩
theorem ale(hC:A8 P C)(hF:Bz P C){n:Nat}(ih:aaz P C K (run C n)):aaz P C K (run C (n+1)):=by
 intro top g td c H E w a fn items φ hfn h st hi b cs;have hK:=S9 hC hF ih;unfold run at h;rw[hfn] at h;simp only at h;obtain ⟨sig,h1,h2⟩:=XB hC hF hK (Tree.DF h) st hi b cs;cases sig with
 |go FU c'=>
  obtain ⟨a',w',H',E',items',q1,q2,q3,q4⟩:=h2;obtain ⟨out,q5,q6⟩:=ih top g _ _ _ _ _ _ fn _ φ hfn h1 q2 q4 b cs;exact ⟨out,q5,q6.of q1 q3⟩
 |done sv c'=>exact ⟨_,h1,h2⟩ |halt FU c'=>exact ⟨_,h1,rfl,h2⟩
theorem Tc(hC:A8 P C)(hF:Bz P C):∀n,aaz P C K (run C n)
 |0=>ald |n+1=>ale hC hF (Tc hC hF n)
end
mutual
def ac7:SV->List Nat
 | .agg l=>Uz l | .Aj l=>Uz l | .fn _ l=>Jo l | .CG _ x=>ahM x | .ptr id _=>[id] |_=>[]
def Uz:List SV->List Nat
 |[]=>[] |x::r=>ac7 x++Uz r
end
def VU(hp:List (Nat×SB))(id:Nat):Option (Nat×Nat×Nat×(Nat->List Sh)):=
 match zX hp id with
 |some (.own e st n g)=>ay (e,st,n,g) |some (.row cells e st n)=>bif E8 cells then (H8 hp cells).map fun l=>(e,st,n,AQ (chunks st n l)) else aK |_=>aK
mutual
def Hz(hp:List (Nat×SB)):SV->List Nat
 | .agg l=>VW hp l | .Aj l=>VW hp l | .gs id=>match zX hp id with
  |some (.fz _ _ _)=>[] |_=>[id]
 |_=>[]
def VW(hp:List (Nat×SB)):List SV->List Nat
 |[]=>[] |x::r=>Hz hp x++VW hp r
end
mutual
def IY(hp:List (Nat×SB)):SV->Option Sh
 | .agg l=>(Td hp l).map .agg | .Aj l=>(Td hp l).map .Aj | .gs id=>match zX hp id with
  |some (.fz st n g)=>ay (.sl st n g) |_=>(VU hp id).map fun r=>.os r.1 r.2.1 r.2.2.1 r.2.2.2
 |x=>DL hp x
def Td(hp:List (Nat×SB)):List SV->Option (List Sh)
 |[]=>ay [] |x::r=>match IY hp x,Td hp r with
  |some s,ay l=>ay (s::l) |_,_=>aK
end
def JX:List Nat->Bool
 |[]=>aC |x::l=>!l.contains x&&JX l
def am1(hp:List (Nat×SB)):List Nat->List Nat
 |[]=>[] |id::r=>(match zX hp id with
  |some (.row cells _ _ _)=>Jo cells |_=>[])++am1 hp r
def finish(c:Core)(v:SV):Option Sh:=
 match freeze c.hp (ac7 v++am1 c.hp (Hz c.hp v)) with
 |some hp=>bif JX (Hz hp v) then IY hp v else aK |none=>aK
section
variable{P:Program}{C:Ctx}{K:Kx}{H H' Oa:Mem}{E E' Oc E1:Env}{w w' w'':World}
theorem aaA:∀{l:List Nat} {i j x:Nat},JX l=aC->l[i]?=ay x->l[j]?=ay x->i=j
 |[],_,_,_,_,h,_=>by simp at h |y::l,0,0,_,_,_,_=>rfl |y::l,0,j+1,x,h,h1,h2=>by
  simp only[JX,aH,dW] at h;simp at h1 h2;subst h1;have:=bT h2;simp[this] at h
 |y::l,i+1,0,x,h,h1,h2=>by
  simp only[JX,aH,dW] at h;simp at h1 h2;subst h2;have:=bT h1;simp[this] at h
 |y::l,i+1,j+1,x,h,h1,h2=>by
  simp only[JX,aH] at h;have e:=aaA (l:=l) (i:=i) (j:=j) (x:=x) h.2 (by simpa using h1) (by simpa using h2);rw[e]
theorem aaB{hp:List (Nat×SB)}{id:Nat}{r:Nat×Nat×Nat×(Nat->List Sh)}(hh:Ai K H E w hp)(h:VU hp id=ay r):
  Gg K H E w id (.own r.1 r.2.1 r.2.2.1 r.2.2.2)/\∃sb,zX hp id=ay sb/\∀b,bk E id=ay b->AL E id sb=ay b:=by
 unfold VU at h;split at h
 ·rename_i e st n g hl
  cases h;exact ⟨hh.ent _ _ hl,_,hl,fun b hb=>hb⟩
 ·rename_i cells e st n hl
  cases ho:E8 cells<;>simp only[ho,cond_true,cond_false] at h
  ·cases h
  simp only[bV] at h;obtain ⟨l,h1,rfl⟩:=h;obtain ⟨v,xs,e1,e2,e3,e4⟩:=hh.ent _ _ hl;exact ⟨⟨v,xs,e1,e2,Jr e2.1 (Eb hh h1 e3) (ES ho e3),e4⟩,_,hl,fun b hb=>hb⟩
 ·cases h
def arO(K:Kx)(H:Mem)(E:Env)(w:World)(hp:List (Nat×SB))(id:Nat)(x:SB):Prop:=
 Gg K H E w id x/\(∃e st n g,x=.own e st n g)/\∃sb,zX hp id=ay sb/\∀b,bk E id=ay b->AL E id sb=ay b
mutual
theorem XC:∀{s:Sh} {u:Value} (b0:Nat),Rep H s u->Den H E1 (CB s b0).1 u/\(CB s b0).2.2=b0/\(CB s b0).2.1=[]
 | .i k n,_,b0,h=>by cases h;exact ⟨rfl,rfl,rfl⟩ | .b y,_,b0,h=>by cases h;exact ⟨rfl,rfl,rfl⟩ | .v y,_,b0,h=>by cases h with|v _ h1=>exact ⟨afo h1,rfl,rfl⟩
 | .str l,_,b0,h=>⟨h,rfl,rfl⟩ | .sl _ _ _,_,b0,h=>⟨h,rfl,rfl⟩ | .CG _ _,_,b0,h=>⟨h,rfl,rfl⟩ | .fn _ _,_,b0,h=>⟨Ui h,rfl,rfl⟩ | .er _ _,_,b0,h=>⟨h,rfl,rfl⟩ | .pt _,_,b0,h=>⟨Ui h,rfl,rfl⟩ | .os _ _ _ _,_,b0,h=>by cases h | .agg l,u,b0,h=>by
  cases h with
  |agg _ vs h1 h2=>
   have:=UA (l:=l) (vs:=vs.toList) b0 (zh (by simpa using h1) fun j s v e1 e2=>h2 j s v e1 (by simpa using e2));exact ⟨⟨vs,rfl,this.1⟩,this.2.1,this.2.2⟩
 | .Aj l,u,b0,h=>by
  cases h with
  |Aj _ vs h1 h2=>
   have:=UA (l:=l) (vs:=vs.toList) b0 (zh (by simpa using h1) fun j s v e1 e2=>h2 j s v e1 (by simpa using e2));exact ⟨⟨vs,rfl,this.1⟩,this.2.1,this.2.2⟩
theorem UA:∀{l:List Sh} {vs:List Value} (b0:Nat),Dq H l vs->Af H E1 (Ej l b0).1 vs/\(Ej l b0).2.2=b0/\(Ej l b0).2.1=[]
 |[],[],b0,_=>⟨trivial,rfl,rfl⟩ |s::l,v::vs,b0,⟨h1,h2⟩=>by
  have a:=XC b0 h1;have b:=UA b0 h2;simp only[Ej,a.2.1,a.2.2,List.nil_append];exact ⟨⟨a.1,b.1⟩,b.2⟩
 |[],_::_,_,h=>h.elim |_::_,[],_,h=>h.elim
end
def Knows(E E1:Env)(b0:Nat)(ids:List Nat):Prop:=∀k id,ids[k]?=ay id->E1 (b0+k)=E id
theorem Knows.left{b0:Nat}{l l':List Nat}(h:Knows E E1 b0 (l++l')):Knows E E1 b0 l:=fun k id hk=>h k id (by
 rw[dI (aU.1 hk).1];exact hk)
theorem Knows.right{b0:Nat}{l l':List Nat}(h:Knows E E1 b0 (l++l')):Knows E E1 (b0+l.length) l':=fun k id hk=>by
 rw[Nat.add_assoc];exact h (l.length+k) id (by rw[fC (iW _ _)];simpa using hk)
structure KW(K:Kx)(H:Mem)(E E1:Env)(w:World)(hp:List (Nat×SB))(ids:List Nat)(b0 n:Nat)(l:List (Nat×SB)):Prop where
 len:n=b0+ids.length
 mem:∀i x,(i,x)∈l->∃k id,i=b0+k/\ids[k]?=ay id/\arO K H E w hp id x
 cov:∀id∈ids,∃sb,zX hp id=ay sb/\∀b,bk E id=ay b->AL E id sb=ay b
theorem KW.nil{hp:List (Nat×SB)}{b0:Nat}:KW K H E E1 w hp [] b0 b0 []:=⟨rfl,fun _ _ h=>(by cases h),fun _ h=>(by cases h)⟩
theorem KW.app{hp:List (Nat×SB)}{b0 n m:Nat}{i1 i2:List Nat}{l1 l2:List (Nat×SB)}(h1:KW K H E E1 w hp i1 b0 n l1)(h2:KW K H E E1 w hp i2 n m l2):KW K H E E1 w hp (i1++i2) b0 m (l1++l2):=by
 refine ⟨by rw[h2.len,h1.len,bf];omega,fun i x hx=>?_,fun id hid=>(bK.1 hid).elim (h1.cov id) (h2.cov id)⟩;rcases bK.1 hx with hx|hx
 ·obtain ⟨k,id,e1,e2,e3⟩:=h1.mem i x hx
  exact ⟨k,id,e1,by rw[dI (aU.1 e2).1];exact e2,e3⟩
 ·obtain ⟨k,id,e1,e2,e3⟩:=h2.mem i x hx
  exact ⟨i1.length+k,id,by rw[e1,h1.len];omega,by rw[fC (iW _ _)];simpa using e2,e3⟩
mutual
theorem ac8{hp:List (Nat×SB)}(hh:Ai K H E w hp):∀{x:SV} {s:Sh} {u:Value} (b0:Nat),IY hp x=ay s->Den H E x u->Knows E E1 b0 (Hz hp x)->
  Den H E1 (CB s b0).1 u/\KW K H E E1 w hp (Hz hp x) b0 (CB s b0).2.2 (CB s b0).2.1
 | .agg l,s,u,b0,h,hd,hk=>by
  simp only[IY,bV] at h;obtain ⟨l',h1,rfl⟩:=h;obtain ⟨vs,rfl,hl⟩:=hd;have:=UC hh b0 h1 hl (by simpa[Hz] using hk);exact ⟨⟨vs,rfl,this.1⟩,by simpa[Hz,CB] using this.2⟩
 | .Aj l,s,u,b0,h,hd,hk=>by
  simp only[IY,bV] at h;obtain ⟨l',h1,rfl⟩:=h;obtain ⟨vs,rfl,hl⟩:=hd;have:=UC hh b0 h1 hl (by simpa[Hz] using hk);exact ⟨⟨vs,rfl,this.1⟩,by simpa[Hz,CB] using this.2⟩
 | .gs id,s,u,b0,h,hd,hk=>by
  simp only[IY] at h;split at h
  ·rename_i st n g hl
   cases h;obtain ⟨v,he,hr⟩:=hh.ent _ _ hl;rw[hd.1] at he;cases he;have hi:Hz hp (.gs id)=[]:=by simp[Hz,hl]
   rw[hi];have:=XC (E1:=E1) b0 hr;exact ⟨this.1,by rw[this.2.1,this.2.2];exact KW.nil⟩
  ·rename_i hne
   simp only[bV] at h;obtain ⟨r,h1,rfl⟩:=h;have hi:Hz hp (.gs id)=[id]:=by
    simp only[Hz]
   rw[hi] at hk ⊢;have hE1:E1 b0=E id:=by simpa using hk 0 id rfl
   obtain ⟨a1,a2⟩:=aaB hh h1;refine ⟨⟨by rw[hE1];exact hd.1,hd.2⟩,⟨by simp[CB],fun i x hx=>?_,fun i hi=>?_⟩⟩;rotate_left
   ·simp at hi;subst hi;exact a2
   simp[CB] at hx;obtain ⟨rfl,rfl⟩:=hx;exact ⟨0,id,rfl,rfl,a1,⟨_,_,_,_,rfl⟩,a2⟩
 | .any,s,u,b0,h,hd,hk=>by simp[IY,DL] at h | .val _,s,u,b0,h,hd,hk=>Ec hh b0 h (by rfl) (by rfl) hd | .int _ _,s,u,b0,h,hd,hk=>Ec hh b0 h (by rfl) (by rfl) hd | .sym _ _,s,u,b0,h,hd,hk=>Ec hh b0 h (by rfl) (by rfl) hd | .bool _,s,u,b0,h,hd,hk=>Ec hh b0 h (by rfl) (by rfl) hd | .test _,s,u,b0,h,hd,hk=>Ec hh b0 h (by rfl) (by rfl) hd | .str _,s,u,b0,h,hd,hk=>Ec hh b0 h (by rfl) (by rfl) hd | .ptr _ _,s,u,b0,h,hd,hk=>Ec hh b0 h (by rfl) (by rfl) hd | .gp _ _ _ _,s,u,b0,h,hd,hk=>by simp[IY,DL] at h | .EJ,s,u,b0,h,hd,hk=>Ec hh b0 h (by rfl) (by rfl) hd | .Aw,s,u,b0,h,hd,hk=>Ec hh b0 h (by rfl) (by rfl) hd | .F7,s,u,b0,h,hd,hk=>Ec hh b0 h (by rfl) (by rfl) hd | .DK,s,u,b0,h,hd,hk=>Ec hh b0 h (by rfl) (by rfl) hd | .Fp,s,u,b0,h,hd,hk=>by simp[IY,DL] at h | .fn _ _,s,u,b0,h,hd,hk=>Ec hh b0 h (by rfl) (by rfl) hd | .CG _ _,s,u,b0,h,hd,hk=>Ec hh b0 h (by rfl) (by rfl) hd | .mp _,s,u,b0,h,hd,hk=>by simp[IY,DL] at h | .sh _,s,u,b0,h,hd,hk=>Ec hh b0 h (by rfl) (by rfl) hd | .Gl _ _ _ _ _,s,u,b0,h,hd,hk=>Ec hh b0 h (by rfl) (by rfl) hd | .ev _,s,u,b0,h,hd,hk=>by simp[IY,DL] at h | .vw _ _,s,u,b0,h,hd,hk=>by simp[IY,DL] at h | .glob _,s,u,b0,h,hd,hk=>by simp[IY,DL] at h
theorem UC{hp:List (Nat×SB)}(hh:Ai K H E w hp):∀{l:List SV} {l':List Sh} {vs:List Value} (b0:Nat),Td hp l=ay l'->Af H E l vs->Knows E E1 b0 (VW hp l)->
  Af H E1 (Ej l' b0).1 vs/\KW K H E E1 w hp (VW hp l) b0 (Ej l' b0).2.2 (Ej l' b0).2.1
 |[],l',[],b0,h,_,_=>by simp[Td] at h;subst h;exact ⟨trivial,KW.nil⟩ |x::l,l',v::vs,b0,h,⟨h1,h2⟩,hk=>by
  simp only[Td] at h;split at h
  ·rename_i s r e1 e2
   cases h;have a:=ac8 hh b0 e1 h1 hk.left;have hk2:=hk.right;rw[<-a.2.len] at hk2;have b:=UC hh _ e2 h2 hk2;simp only[Ej];exact ⟨⟨a.1,b.1⟩,a.2.app b.2⟩
  ·cases h
 |[],_,_::_,_,_,h,_=>h.elim |_::_,_,[],_,_,h,_=>h.elim
theorem Ec{hp:List (Nat×SB)}(hh:Ai K H E w hp){x:SV}{s:Sh}{u:Value}(b0:Nat)(h:IY hp x=ay s)(hx:IY hp x=DL hp x)(hi:Hz hp x=[])(hd:Den H E x u):
  Den H E1 (CB s b0).1 u/\KW K H E E1 w hp (Hz hp x) b0 (CB s b0).2.2 (CB s b0).2.1:=by
 rw[hx] at h;have:=XC (E1:=E1) b0 (LZ hh h hd);rw[hi];exact ⟨this.1,by rw[this.2.1,this.2.2];exact KW.nil⟩
end
theorem ac9:∀{l hp:List (Nat×SB)} {i:Nat} {x:SB},zX (C9 hp l) i=ay x->(i,x)∈l\/zX hp i=ay x
 |[],_,_,_,h=>.inr h |(j,b)::l,hp,i,x,h=>by
  rcases ac9 (l:=l) h with h|h
  ·exact .inl (dw _ h)
  ·rw[EC] at h
   cases hj:(j==i)<;>simp only[hj,cond_true,cond_false] at h
   ·exact .inr h
   ·cases h
    obtain rfl:j=i:=by simpa using hj
    exact .inl (cu ..)
def K0(H:Mem)(w:World):Kx:=⟨w,fun _=>False,H⟩
theorem PW{c:Core}{a:Act}{H0:Mem}{w0:World}{sv:SV}{s:Sh}{u:Value}(st:St C (K0 H0 w0) H E w c a)(hf:finish c sv=ay s)(hd:Den H E sv u):∃H',Eh H0 w0 s u H' w:=by
 unfold finish at hf;split at hf
 ·rename_i hp hfz
  obtain ⟨H1,hH,hh,hw,_⟩:=MO hfz st.hp st.BI;cases hn:JX (Hz hp sv)<;>simp only[hn,cond_true,cond_false] at hf
  ·cases hf
  refine ⟨H1,hw.le,hw.on,hw.os,hw.tape,hw.output,hw.size,fun b hb=>hw.kept b hb id,fun b hb=>?_,fun b0=>?_⟩
  ·rcases hw.fresh b hb with h|h|h
   ·exact .inl h
   ·exact .inr h
   ·exact h.elim
  ·let ids:=Hz hp sv
   let E1:Env:=fun i=>if b0<=i then (ids[i - b0]?).bind E else aK
   have hk:Knows E E1 b0 ids:=fun k id hk=>by
    simp only[E1,iW,if_true,Nat.add_sub_cancel_left,hk,eU]
   obtain ⟨a1,a2⟩:=ac8 (E1:=E1) hh b0 hf (hd.le hH fun _ _ e=>e) hk;have hid:∀i v,E1 i=ay v->∃k id,i=b0+k/\ids[k]?=ay id/\E id=ay v:=fun i v hv=>by
    simp only[E1] at hv;split at hv
    ·cases hx:ids[i - b0]? with
     |none=>simp[hx] at hv |some id=>exact ⟨i - b0,id,by omega,hx,by simpa[hx] using hv⟩
    ·cases hv
   have hat:∀i x,zX (C9 [] (CB s b0).2.1) i=ay x->∃k id,i=b0+k/\ids[k]?=ay id/\arO (K0 H0 w0) H1 E w hp id x:=fun i x hl=>by
    rcases ac9 hl with h|h
    ·exact a2.mem i x h
    ·simp[zX] at h
   have hbk:∀{k id:Nat},ids[k]?=ay id->bk E1 (b0+k)=bk E id:=fun {k id} h=>by simp[bk,hk k id h]
   refine ⟨E1,fun i hi=>?_,fun i b hb=>?_,a1,⟨fun i x hl=>?_,fun i j x y b h1 h2 o1 o2=>?_⟩⟩
   ·cases hv:E1 i with
    |none=>exact (hi hv).elim |some v=>
     obtain ⟨k,id,rfl,h2,_⟩:=hid i v hv;have:k<(Hz hp sv).length:=(aU.1 h2).1;rw[a2.len];exact ⟨iW _ _,by omega⟩
   ·cases hv:E1 i with
    |none=>simp[bk,hv] at hb |some v=>
     obtain ⟨k,id,rfl,h2,h3⟩:=hid i v hv;rw[hbk h2] at hb;have hown:∃sb,zX hp id=ay sb/\AL E id sb=ay b:=by
      obtain ⟨sb,q1,q2⟩:=a2.cov id (bT h2);exact ⟨sb,q1,q2 b hb⟩
     obtain ⟨sb,h4,h5⟩:=hown;have:=((hh.ent _ _ h4).lt h5).2.2;rcases this with h|h
     ·exact h
     ·exact h.elim
   ·obtain ⟨k,id,rfl,h2,h3,⟨e,st',n,g,rfl⟩,_⟩:=hat i x hl
    obtain ⟨v,xs,e1,e2,e3,e4⟩:=h3;exact ⟨v,xs,by rw[hk k id h2];exact e1,e2,e3,e4⟩
   ·obtain ⟨k,id,rfl,p1,_,⟨_,_,_,_,rfl⟩,sb1,p3,p4⟩:=hat i x h1
    obtain ⟨k',id',rfl,q1,_,⟨_,_,_,_,rfl⟩,VL,q3,q4⟩:=hat j y h2;have o1':bk E id=ay b:=by rw[<-hbk p1];exact o1
    have o2':bk E id'=ay b:=by rw[<-hbk q1];exact o2
    have:=hh.FQ _ _ _ _ _ p3 q3 (p4 b o1') (q4 b o2');subst this;rw[aaA hn p1 q1]
 ·cases hf
end
inductive Fin where
 |ret (s:Sh)
 |stop (td:List It) (c:Core)
def fin:Out->Tree Fin
 | .done sv c=>match finish c sv with
  |some s=>.leaf (.ret s) |none=>.fail
 | .stop _ td c=>.leaf (.stop td c)
def BQ(C:Ctx)(n g:Nat)(td:List It)(c:Core):Tree Fin:=(run C n aC g td c).bind fin
def zZ(m:Nat)(AX:List Sh)(L:Nat):Core:={tm:=Qz AX++dR (m - AX.length) .any,hp:=[],nx:=0,lim:=L,tc:=[]}
section
variable{P:Program}{C:Ctx}{K:Kx}{H H' Oa H0:Mem}{E E' Oc E1:Env}{w w' w'' w0:World}
def Goes(P:Program)(C:Ctx)(K:Kx)(fn:Func)(td:List It)(c:Core)(φ:Sh->Prop):Prop:=
 ∀(H:Mem) (E:Env) (w:World) (a:Act) (items:List Item) (b:Frame) (cs:List Frame),St C K H E w c a->BU (Ae fn) td items->
  ∃(a':Act) (w':World) (v:Value) (s:Sh) (H':Mem) (todo:List Item),Steps P (lone (b.at a items) cs w) (lone {b.at a' todo with mode:=.returning} cs w')/\a'.defers=[]/\φ s/\Eh K.H0 K.w0 s v H' w'/\(results fn a'.tmps).run P w'=.ok v w'
def BG(P:Program)(C:Ctx)(K:Kx)(fn:Func)(φ:Sh->Prop):Fin->Prop
 | .ret s=>φ s | .stop td c=>Goes P C K fn td c φ
theorem alf(hC:A8 P C)(hF:Bz P C){n g:Nat}{fn:Func}{td:List It}{c:Core}{φ:Sh->Prop}(hfn:C.fns.get g=ay fn)(h:(BQ C n g td c).All (BG P C (K0 H0 w0) fn φ)):
  Goes P C (K0 H0 w0) fn td c φ:=by
 intro H E w a items b cs st hi;obtain ⟨out,h1,h2⟩:=Tc hC hF n aC g td c H E w a fn items _ hfn (Tree.DF h) st hi b cs;cases out with
 |done sv c'=>
  obtain ⟨a',w',H',E',v,todo,q1,q2,q3,q4,q5⟩:=h2;simp only[fin] at h1;split at h1
  ·rename_i s hs
   obtain ⟨H2,r⟩:=PW q2 hs q4;exact ⟨a',w',v,s,H2,todo,q1,q2.defers,h1,r,q5⟩
  ·exact h1.elim
 |stop g' FU c'=>
  obtain ⟨rfl,a',w',H',E',items',q1,q2,q3,q4⟩:=h2;obtain ⟨a2,w2,v,s,H2,todo,r1,r2⟩:=h1 H' E' w' a' items' b cs q2 q4;exact ⟨a2,w2,v,s,H2,todo,q1.trans r1,r2⟩
theorem am2(hC:A8 P C){g:Nat}{fn:Func}{F:List Sh->Tree Sh}(hfn:C.fns.get g=ay fn)(hb:fn.body.isSome=aC)
  (h:∀(H:Mem) (w:World) (AX:List Sh) (args:List Value) (φ:Sh->Prop),Dq H AX args->(F AX).All φ->∃DR:List Sh,Dq H DR args/\∃L,Goes P C (K0 H w) fn [.code []] (zZ fn.ntmps DR L) φ):Aq P C.gls g F:=by
 intro H w AX args φ hon hg hr hφ;obtain ⟨DR,hr,L,hgo⟩:=h H w AX args φ hr hφ;obtain ⟨body,hbody⟩:=gy.1 hb;have hP:=hC.fn g fn hfn;intro cs;let b:Frame:={(default:Frame) with fn:=g,kind:=.normal}
 let a:Act:={tmps:=args.toArray++dX (fn.ntmps - args.toArray.size) undef,defers:=[]}
 have henter:gI P g args.toArray .normal=b.at a [.code body]:=by
  simp[gI,Frame.at,hP,hbody,b,a]
 have hlen:=hr.length;have st:St C (K0 H w) H E0 w (zZ fn.ntmps DR L) a:=by
  refine ⟨?_,⟨fun _ _ h=>by simp[zZ,zX] at h,fun _ _ _ _ _ h=>by simp[zZ,zX] at h⟩,⟨rfl,rfl,rfl,dh _,fun _ _ _=>rfl,hon,fun _ _ h=>h,fun _ h=>.inl h⟩,fun _ _ _=>rfl,hg,rfl⟩;have:a.tmps.toList=args++dR (fn.ntmps - DR.length) undef:=by simp[a,hlen]
  rw[this];exact (Jb hr).append (rF _ _ (by simp))
 have hit:BU (Ae fn) [.code []] [.code body]:=by
  have:=BU.code (body:=Ae fn) [] BU.nil;have he:AA (Ae fn) []=body:=by simp[AA,Ae,hbody]
  rwa[he] at this
 obtain ⟨a',w',v,s,H',todo,q1,q2,q3,q4,q5⟩:=hgo H E0 w a [.code body] b cs st hit;exact ⟨.returned v,w',_,⟨v,s,H',rfl,q3,q4⟩,by rw[henter];exact q1,rfl,rfl,q2,rfl,fn,hP,q5⟩
theorem Hu(hC:A8 P C)(hF:Bz P C){g n L:Nat}{fn:Func}{F:List Sh->Tree Sh}(hfn:C.fns.get g=ay fn)(hb:fn.body.isSome=aC)
  (h:∀(H:Mem) (w:World) (AX:List Sh) (args:List Value) (φ:Sh->Prop),Dq H AX args->(F AX).All φ->∃DR:List Sh,Dq H DR args/\(BQ C n g [.code []] (zZ fn.ntmps DR L)).All (BG P C (K0 H w) fn φ)):Aq P C.gls g F:=
 am2 hC hfn hb fun H w AX args φ h1 h2=>let ⟨DR,h3,h4⟩:=h H w AX args φ h1 h2;⟨DR,h3,L,alf hC hF hfn h4⟩
theorem Aq.mono{gls:List (Nat×Sh)}{f:Nat}{F F':List Sh->Tree Sh}(h:Aq P gls f F')(hp:∀(H:Mem) (AX:List Sh) (args:List Value) (φ:Sh->Prop),Dq H AX args->(F AX).All φ->(F' AX).All φ):Aq P gls f F:=
 fun H w AX args φ h1 h2 h3 h4=>h H w AX args φ h1 h2 h3 (hp H AX args φ h3 h4)
end
inductive Rn where
 |id (i:Nat)
 |nil
mutual
def EG(hp:List (Nat×SB))(ρ:List (Nat×Rn)):SV->SV->Prop
 |_,.any=>True |x,.sym k m=>match x with
  | .int k' n=>k'=k/\n=m | .sym k' n=>k'=k/\n=m |_=>False
 |x,.test b=>match x with
  | .bool b'=>b'=b | .test b'=>b'=b |_=>False
 |x,.gs id'=>match x with
  | .gs id=>zX ρ id'=ay (.id id) | .Aw=>zX ρ id'=ay .nil |_=>False
 |x,.ptr id' off'=>match x with
  | .ptr id off=>zX ρ id'=ay (.id id)/\off=off' |_=>False
 |x,.mp id'=>match x with
  | .mp id=>zX ρ id'=ay (.id id) |_=>False
 |x,.fn f' l'=>match x with
  | .fn f l=>f=f'/\leL hp ρ l l' |_=>False
 |x,.agg l'=>match x with
  | .agg l=>leL hp ρ l l' |_=>False
 |x,.Aj l'=>match x with
  | .Aj l=>leL hp ρ l l' |_=>False
 |x,.CG t' y=>match x with
  | .CG t z=>t=t'/\EG hp ρ z y |_=>False
 |x,.sh s=>DL hp x=ay s\/(match x,s with| .Aw,.sl _ n _=>n=0|_,_=>False)
 |x,.Gl st' n' g' i' off'=>match x with
  | .Gl st n g i off=>st=st'/\n=n'/\g=g'/\i=i'/\off=off' |x=>DL hp x=ay (.pt (g' i'))/\off'=0/\(g' i').length=st'/\i'<n'
 |x,.int k' n'=>match x with
  | .int k n=>k=k'/\n=n' | .sym k n=>k=k'/\n=n' |_=>False
 |x,.bool b'=>match x with
  | .bool b=>b=b' | .test b=>b=b' |_=>False
 | .EJ,.EJ=>True | .Aw,.Aw=>True | .F7,.F7=>True | .DK,.DK=>True | .Fp,.Fp=>True | .glob g,.glob g'=>g=g' | .str l,.str l'=>l=l' | .val v,.val v'=>v=v' |_,_=>False
def leL(hp:List (Nat×SB))(ρ:List (Nat×Rn)):List SV->List SV->Prop
 |[],[]=>True |x::l,y::l'=>EG hp ρ x y/\leL hp ρ l l' |_,_=>False
end
def leM(hp:List (Nat×SB))(ρ:List (Nat×Rn)):List (SV×SV)->List (SV×SV)->Prop
 |[],[]=>True |(a,b)::l,(a',b')::l'=>EG hp ρ a a'/\EG hp ρ b b'/\leM hp ρ l l' |_,_=>False
def valOf:SV->Option Value
 | .int k n=>ay (.int k n) | .sym k n=>ay (.int k n) | .bool b=>ay (.bool b) | .test b=>ay (.bool b) |_=>aK
end Go.Sx
namespace Go.Pl
open Go Go.Sx
def Lj(n:DC)(o:Option Value)(N:DC->Option Value):DC->Option Value:=fun j=>if j=n then o else N j
end Go.Pl
namespace Go.Sx
open Go.Pl (Lj)
def aaD(M:DC->Option Value):List (DC×Bool×SV)->Option (DC->Option Value)
 |[]=>ay M |(n,p,sv)::r=>match aaD M r with
  |some N=>match p with
   |true=>(valOf sv).map fun v=>Lj n (ay v) N |false=>ay (Lj n aK N)
  |none=>aK
theorem alg{H:Mem}{E:Env}{sv:SV}{v x:Value}(h:valOf sv=ay v)(hd:Den H E sv x):x=v:=by
 unfold valOf at h;split at h;all_goals first|cases h
 all_goals exact hd
theorem afX{H:Mem}{E:Env}{M:DC->Option Value}:∀{us:List (DC×Bool×SV)} {uv:List (DC×Option Value)} {N:DC->Option Value},aaD M us=ay N->Vt H E us uv->QX M uv=N
 |[],[],N,h,_=>by cases h;rfl |[],_::_,_,_,h=>h.elim |_::_,[],_,_,h=>h.elim |(n,p,sv)::r,(m,o)::uv,N,h,⟨e,hd,hr⟩=>by
  subst e;simp only[aaD] at h;split at h
  ·rename_i N' hN
   have ih:=afX hN hr;cases p with
   |true=>
    cases o with
    |none=>exact hd.elim |some x=>
     simp only at h;cases hv:valOf sv with
     |none=>rw[hv] at h;cases h |some v=>
      rw[hv] at h;cases h;rw[alg hv hd.1];show (fun j=>if j=m then ay v else QX M uv j)=_;rw[ih];rfl
   |false=>
    cases o with
    |some x=>exact hd.elim |none=>
     cases h;show (fun j=>if j=m then aK else QX M uv j)=_;rw[ih];rfl
  ·cases h
theorem ada{vt:VT}{M:DC->Option Value}(hM:ajP vt M):∀{us:List (DC×Bool×SV)} {N:DC->Option Value},amA vt us->aaD M us=ay N->ajP vt N
 |[],N,_,h=>by cases h;exact hM |(n,p,sv)::r,N,hL,h=>by
  simp only[aaD] at h;split at h
  ·rename_i N' hN
   have ih:=ada hM (fun u hu=>hL u (dw _ hu)) hN;cases p with
   |true=>
    simp only at h;cases hv:valOf sv with
    |none=>rw[hv] at h;cases h |some v=>
     rw[hv] at h;cases h;have ht:sv.acT vt=aC:=hL (n,aC,sv) cu rfl;intro k x hx;have hx:(if k=n then ay v else N' k)=ay x:=hx;split at hx
     ·cases hx
      cases sv<;>cases vt<;>simp[SV.acT] at ht<;>(unfold valOf at hv;cases hv)
      all_goals first|exact ⟨_,rfl⟩ |skip
      all_goals (rename_i kk _;cases kk<;>simp[SV.acT] at ht;exact ⟨_,rfl⟩)
     ·exact ih k x hx
   |false=>
    cases h;intro k x hx;have hx:(if k=n then aK else N' k)=ay x:=hx;split at hx
    ·cases hx
    ·exact ih k x hx
  ·cases h
def leB(hp:List (Nat×SB))(ρ:List (Nat×Rn))(id':Nat):SB->Prop
 | .box cells' e'=>match zX ρ id' with
  |some (.id id)=>match zX hp id with
   |some (.box cells e)=>e=e'/\leL hp ρ cells cells' |_=>False
  |_=>False
 | .row cells' e' st' n'=>match zX ρ id' with
  |some (.id id)=>match zX hp id with
   |some (.row cells e st n)=>e=e'/\st=st'/\n=n'/\leL hp ρ cells cells' |_=>False
  |_=>False
 | .own e' st' n' g'=>match zX ρ id' with
  |some (.id id)=>match VU hp id with
   |some (e,st,n,g)=>e=e'/\st=st'/\n=n'/\∀i,i<n->g i=g' i |_=>False
  |some .nil=>n'=0 |none=>False
 | .map es'=>match zX ρ id' with
  |some (.id id)=>match zX hp id with
   |some (.map es)=>leM hp ρ es es' |_=>False
  |_=>False
 | .fz _ _ _=>False | .QI _=>False | .Gx _ _ _ _ _=>False | .fm _ _ _ _ _=>False | .pm vt' M' us'=>match zX ρ id' with
  |some (.id id)=>match zX hp id with
   |some (.pm vt M us)=>us'=[]/\vt=vt'/\aaD M us=ay M' |_=>False
  |_=>False
 | .buf e' l'=>match zX ρ id' with
  |some (.id id)=>match zX hp id with
   |some (.buf e l)=>e=e'/\l=l' |_=>False
  |_=>False
def leH(hp:List (Nat×SB))(ρ:List (Nat×Rn)):List (Nat×SB)->Prop
 |[]=>True |(id',sb)::l=>leB hp ρ id' sb/\leH hp ρ l
def JY:List (Nat×Rn)->List Nat
 |[]=>[] |(_,.id i)::l=>i::JY l |_::l=>JY l
def ajV(nx:Nat):List (Nat×Rn)->Bool
 |[]=>aC |(j,_)::l=>fV j nx&&ajV nx l
def am4(nx:Nat)(ρ:List (Nat×Rn)):Bool:=JX (JY ρ)&&ajV nx ρ
def leC(ρ:List (Nat×Rn))(c c':Core):Prop:=leL c.hp ρ c.tm c'.tm/\leH c.hp ρ c'.hp/\am4 c'.nx ρ=aC
end Go.Sx
