/- Own work. -/
import Derived.Test.YthehnhaoiijkhaaGreatDoorS03
open Int (ofNat)
open Array renaming getElem?_eq_some_iff->bH,getElem?_toList->dX,replicate->dY
open Bool renaming true->aF,and_eq_true->aJ,not_eq_true'->iw,false->aA
open Go.Act renaming put->uK
open Go.Calls renaming mono->nI
open Go.Deferred renaming ofValue->jJ
open Go.Frame renaming finish_at->mF,enter->gQ
open Go.Oper renaming wp->xY,upon->xE
open Go.Region renaming wanted->jA,free->kY,noSelect->uM,ready->kP
open Go.Result renaming andThen_ok->fV
open Go.Sem renaming run_bind->gK,run_pure->pO
open Go.Sx.AV renaming any->rY
open Go.Sx.Env renaming set_self->fB
open Go.Sx.BQ renaming all->dI
open Go.Sx.Post renaming refl->pI
open Go.Sx.D9 renaming OG->zJ
open Go.stepG renaming apply->gX
open List renaming mem_append->bK,length_append->bf,getElem?_eq_some_iff->aQ,append_assoc->dV,getElem?_append_left->dM,getElem?_append_right->fD,getD_eq_getElem?_getD->aX,ext_getElem?->lM,getElem?_set_self->rC,getElem?_set_ne->rX,mem_cons_of_mem->dB,mem_cons_self->cO,countP_cons->vk,range->aY,mem_range->dD,mapM_cons->wX,replicate->dU,mem_of_getElem?->bP
open Nat renaming le_trans->iK,le_refl->dw,ble->gY,le_of_ble_eq_true->fP,mul_le_mul_right->dR,add_mul->gB,one_mul->iI,le_add_right->jd,blt->fZ,beq->fC,lt_or_ge->pK,add_le_add_left->tN,mul_le_mul_left->kT
open Option renaming none->aN,some->ay,map_eq_some_iff->bW,bind_some->eP,isSome_iff_exists->gI
open Prod.mk renaming injEq->jU
namespace Go.Sx
theorem Tree.Eb{α β:Type}{φ:β->Prop}{k:α->Tree β}:∀{t:Tree α},(t.bind k).All φ->t.All fun a=>(k a).All φ
 | .leaf _,h=>h | .node _ _ _,h=>⟨fun e=>Tree.Eb (h.1 e),fun e=>Tree.Eb (h.2 e)⟩ | .need _ _,h=>⟨h.1,Tree.Eb h.2⟩ | .must _ _,h=>⟨h.1,Tree.Eb h.2⟩ | .both _ _,h=>⟨Tree.Eb h.1,Tree.Eb h.2⟩ | .fail,h=>h.elim
theorem Tree.All.mono{α:Type}{φ ψ:α->Prop}(h:∀a,φ a->ψ a):∀{t:Tree α},t.All φ->t.All ψ
 | .leaf _,hh=>h _ hh | .node _ _ _,hh=>⟨fun e=>(hh.1 e).mono h,fun e=>(hh.2 e).mono h⟩ | .need _ _,hh=>⟨hh.1,hh.2.mono h⟩ | .must _ _,hh=>⟨hh.1,hh.2.mono h⟩ | .both _ _,hh=>⟨hh.1.mono h,hh.2.mono h⟩ | .fail,hh=>hh.elim
section
variable{P:Program}{C:Ctx}{K:Kx}{H H' OL:Mem}{E E' OM:Env}{w w' w'':World}
def Mv(K:Kx)(H:Mem)(E:Env)(w:World)(c:Core)(H':Mem)(E':Env)(w':World)(c':Core):Prop:=Post K H E w c H' E' w' {c' with tm:=c.tm}
theorem Post.mv{c c':Core}(h:Post K H E w c H' E' w' c'):Mv K H E w c H' E' w' c':=by
 have:=h.tm;unfold Mv;rw[<-this];exact h
theorem Mv.to{c c' d d':Core}(h:Mv K H E w c H' E' w' c')(h1:d.hp=c.hp)(h2:d.nx=c.nx)(h3:d.lim=c.lim)(h4:d.tc=c.tc)(h1':d'.hp=c'.hp)(h2':d'.nx=c'.nx)(h3':d'.lim=c'.lim)(h4':d'.tc=c'.tc):Mv K H E w d H' E' w' d':=by
 obtain ⟨t,hp,nx,lim,tc⟩:=c;obtain ⟨t',hp',nx',lim',tc'⟩:=c';obtain ⟨t1,hp1,nx1,aza,tc1⟩:=d;obtain ⟨t2,hp2,nx2,azb,X3⟩:=d';simp only at h1 h2 h3 h4 h1' h2' h3' h4';subst h1 h2 h3 h4 h1' h2' h3' h4';exact ⟨h.I7,h.MK,h.new,h.nx,h.lim,h.agk,rfl,h.hp,h.Cm,h.tc,h.size,h.fr,h.Oh,h.ZW,h.keep,h.old⟩
structure Ch(K:Kx)(H:Mem)(E:Env)(w:World)(q:List (Nat×SB))(u:List Nat)(H':Mem)(E':Env)(w':World)(q':List (Nat×SB))(u':List Nat)(New:Nat->Prop):Prop where
 I7:H.le H'
 MK:E.le E'
 new:∀i,E i=aN->E' i≠aN->New i
 hp:AZ K H' E' w' q'
 Cm:Es K H' w'
 tc:∀id∈u,id∈u'
 size:w.heap.size<=w'.heap.size
 fr:∀b,b<w.heap.size->(∀id∈u',bk E id≠ay b)->w'.heap[b]?=w.heap[b]?
 Oh:∀i b,E i=aN->bk E' i=ay b->w.heap.size<=b\/∃id∈u',bk E id=ay b
 ZW:∀id∈u',id∈u\/E id=aN\/∃sb,AA q id=ay sb/\Bv E id sb=bk E id
 keep:∀id sb b,AA q id=ay sb->id ∉ u'->Bv E id sb=ay b->H' b≠aN\/∃sb',AA q' id=ay sb'/\Bv E' id sb'=ay b
 old:∀id sb,AA q' id=ay sb->E id≠aN->∃sb0,AA q id=ay sb0/\∀b,Bv E' id sb=ay b->Bv E id sb0=ay b
theorem Mv.ch{c c':Core}(h:Mv K H E w c H' E' w' c'):Ch K H E w c.hp c.tc H' E' w' c'.hp c'.tc (fun i=>c.nx<=i/\i<c'.nx):=
 ⟨h.I7,h.MK,h.new,h.hp,h.Cm,h.tc,h.size,h.fr,h.Oh,h.ZW,h.keep,h.old⟩
theorem Ch.mv{c c':Core}(h:Ch K H E w c.hp c.tc H' E' w' c'.hp c'.tc (fun i=>c.nx<=i/\i<c'.nx))(h1:c.nx<=c'.nx)(h2:c'.nx<=c.lim\/c'.nx=c.nx)(h3:c'.lim=c.lim):Mv K H E w c H' E' w' c':=
 ⟨h.I7,h.MK,h.new,h1,h2,h3,rfl,h.hp,h.Cm,h.tc,h.size,h.fr,h.Oh,h.ZW,h.keep,h.old⟩
theorem Ch.mono{hp hp':List (Nat×SB)}{tc tc':List Nat}{N N':Nat->Prop}(h:Ch K H E w hp tc H' E' w' hp' tc' N)(hN:∀i,N i->N' i):Ch K H E w hp tc H' E' w' hp' tc' N':=
 {h with new:=fun i h1 h2=>hN i (h.new i h1 h2)}
theorem Ch.add{hp hp':List (Nat×SB)}{tc':List Nat}{N:Nat->Prop}(h:Ch K H E w hp [] H' E' w' hp' tc' N)(t:List Nat):Ch K H E w hp t H' E' w' hp' (tc'++t) N:=
 {h with
  tc:=fun id hid=>bK.2 (.inr hid)
  fr:=fun b hb hne=>h.fr b hb fun id hid=>hne id (bK.2 (.inl hid))
  Oh:=fun i b h1 h2=>(h.Oh i b h1 h2).imp (fun h=>h) fun ⟨id,h3,h4⟩=>⟨id,bK.2 (.inl h3),h4⟩
  ZW:=fun id hid=>by
   rcases bK.1 hid with h1|h1
   ·rcases h.ZW id h1 with h2|h2
    ·cases h2
    ·exact .inr h2
   ·exact .inl h1
  keep:=fun id sb b h1 h2 h3=>h.keep id sb b h1 (fun h4=>h2 (bK.2 (.inl h4))) h3}
theorem Ch.trans{hp hp1 hp2:List (Nat×SB)}{tc tc1 X3:List Nat}{N:Nat->Prop}(h1:Ch K H E w hp tc H' E' w' hp1 tc1 N)(h2:Ch K H' E' w' hp1 tc1 OL OM w'' hp2 X3 N):Ch K H E w hp tc OL OM w'' hp2 X3 N:=by
 have tc1:=h1.tc;have X3:=h2.tc;have noneE:∀{i:Nat},E' i=aN->E i=aN:=fun {i} h=>by
  cases he:E i with
  |none=>rfl |some v=>rw[h1.MK _ _ he] at h;cases h
 have bkE:∀{i b:Nat},E i≠aN->bk E' i=ay b->bk E i=ay b:=fun {i b} hne h=>by
  cases he:E i with
  |none=>exact (hne he).elim |some v=>simp only[bk,h1.MK _ _ he] at h;simpa[bk,he] using h
 refine ⟨fun b o h=>h2.I7 b o (h1.I7 b o h),fun i v h=>h2.MK i v (h1.MK i v h),fun i e1 e2=>?_,h2.hp,h2.Cm,fun id h=>X3 id (tc1 id h),iK h1.size h2.size,
  fun b hb hne=>?_,fun i b e1 e2=>?_,fun id hid=>?_,fun id sb b hl hn ho=>?_,fun id sb hl hne=>?_⟩
 ·cases he:E' i with
  |none=>exact h2.new i he e2 |some v=>exact h1.new i e1 (by rw[he];simp)
 ·rw[h2.fr b (by have:=h1.size;omega) fun id hid e=>?_]
  ·exact h1.fr b hb fun id hid=>hne id (X3 id hid)
  ·cases he:E id with
   |none=>
    rcases h1.Oh id b he e with h|⟨id',h3,h4⟩
    ·omega
    ·exact hne id' (X3 id' h3) h4
   |some v=>exact hne id hid (bkE (by rw[he];simp) e)
 ·cases he:E' i with
  |none=>
   rcases h2.Oh i b he e2 with h|⟨id',h3,h4⟩
   ·exact .inl (by have:=h1.size;omega)
   ·cases he2:E id' with
    |none=>
     rcases h1.Oh id' b he2 h4 with h|⟨id2,h5,h6⟩
     ·exact .inl h
     ·exact .inr ⟨id2,X3 _ h5,h6⟩
    |some v=>exact .inr ⟨id',h3,bkE (by rw[he2];simp) h4⟩
  |some v=>
   have e3:bk E' i=ay b:=by simp only[bk,h2.MK _ _ he] at e2;simpa[bk,he] using e2
   rcases h1.Oh i b e1 e3 with h|⟨id2,h5,h6⟩
   ·exact .inl h
   ·exact .inr ⟨id2,X3 _ h5,h6⟩
 ·rcases h2.ZW id hid with h|h|⟨sb,h3,h4⟩
  ·exact h1.ZW id h
  ·exact .inr (.inl (noneE h))
  ·cases he:E id with
   |none=>exact .inr (.inl rfl) |some v=>
    obtain ⟨sb0,h5,h6⟩:=h1.old id sb h3 (by rw[he];simp);refine .inr (.inr ⟨sb0,h5,?_⟩);have e':bk E' id=bk E id:=by simp[bk,he,h1.MK _ _ he]
    rw[e'] at h4;cases hb:bk E id with
    |some b=>exact h6 b (by rw[h4,hb]) |none=>
     cases ho:Bv E id sb0 with
     |none=>rfl |some b=>rw[<-hb];rw[GX ho]
 ·rcases h1.keep id sb b hl (fun h=>hn (X3 id h)) ho with h|⟨sb',h3,h4⟩
  ·cases hb:H' b with
   |none=>exact (h hb).elim |some o=>exact .inl (by rw[h2.I7 b o hb];simp)
  ·exact h2.keep id sb' b h3 hn h4
 ·have hne':E' id≠aN:=fun h=>hne (noneE h)
  obtain ⟨sb1,h3,h4⟩:=h2.old id sb hl hne';obtain ⟨sb0,h5,h6⟩:=h1.old id sb1 h3 hne;exact ⟨sb0,h5,fun b hb=>h6 b (h4 b hb)⟩
theorem Mv.trans{c c1 c2:Core}(h1:Mv K H E w c H' E' w' c1)(h2:Mv K H' E' w' c1 OL OM w'' c2):Mv K H E w c OL OM w'' c2:=by
 have hnx1:c.nx<=c1.nx:=h1.nx;have hnx2:c1.nx<=c2.nx:=h2.nx;have axO:c1.lim=c.lim:=h1.agk;have axP:c2.lim=c1.lim:=h2.agk;have hl1:c1.nx<=c.lim\/c1.nx=c.nx:=h1.lim;have hl2:c2.nx<=c1.lim\/c2.nx=c1.nx:=h2.lim;exact ((h1.ch.mono fun i hi=>⟨hi.1,by omega⟩).trans (h2.ch.mono fun i hi=>⟨by omega,hi.2⟩)).mv (by omega) (by omega) (by omega)
theorem Mv.free{c c':Core}(h:Mv K H E w c H' E' w' c')(hf:Free E c):Free E' c':=by
 intro i h1 h2;have hn:c.nx<=c'.nx:=h.nx;have hl:c'.lim=c.lim:=h.agk;cases he:E' i with
 |none=>rfl |some v=>
  have:=h.new i (hf i (by omega) (by omega)) (by rw[he];simp);have h3:i<c'.nx:=this.2;omega
structure St(C:Ctx)(K:Kx)(H:Mem)(E:Env)(w:World)(c:Core)(a:Act):Prop where
 den:AV H E c.tm a.tmps.toList
 hp:AZ K H E w c.hp
 Cm:Es K H w
 free:Free E c
 gl:Dt C.gls H
 defers:a.defers=[]
structure EJ(H:Mem)(w:World)(s:Sh)(v:Value)(H':Mem)(w':World):Prop where
 I7:H.le H'
 on:H'.on w'
 os:w'.os=w.os
 tape:w'.tape=w.tape
 output:w'.output=w.output
 size:w.heap.size<=w'.heap.size
 old:∀b,b<w.heap.size->w'.heap[b]?=w.heap[b]?
 fresh:∀b,H' b≠aN->H b≠aN\/w.heap.size<=b
 res:∀b0:Nat,∃E1:Env,(∀i,E1 i≠aN->b0<=i/\i<(Dk s b0).2.2)/\(∀i b,bk E1 i=ay b->w.heap.size<=b)/\Den H' E1 (Dk s b0).1 v/\AZ ⟨w,fun _=>False,H⟩ H' E1 w' (DL [] (Dk s b0).2.1)
def Bh(P:Program)(gls:List (Nat×Sh))(f:Nat)(F:List Sh->Tree Sh):Prop:=
 ∀(H:Mem) (w:World) (BI:List Sh) (args:List Value) (φ:Sh->Prop),H.on w->Dt gls H->D9 H BI args->(F BI).All φ->
  Calls P f args.toArray w fun e w'=>∃v s H',e=.returned v/\φ s/\EJ H w s v H' w'
def aaW(P:Program)(C:Ctx):Prop:=∀g F,C.spec g=ay F->Bh P C.gls g F
theorem Gn:∀(l hp:List (Nat×SB)) (i:Nat),AA (DL hp l) i=match AA (DL [] l) i with|some x=>ay x|none=>AA hp i
 |[],hp,i=>by simp[DL,AA] |(j,b)::l,hp,i=>by
  rw[DL,DL,Gn l (hins hp j b),Gn l (hins [] j b),E5,E5];cases AA (DL [] l) i with
  |some x=>rfl |none=>cases h:(j==i)<;>simp[AA]
mutual
theorem agB:∀(s:Sh) (b:Nat),b<=(Dk s b).2.2
 | .os _ _ _ _,b=>by simp[Dk] | .agg l,b=>by simpa[Dk] using X4 l b | .Ba l,b=>by simpa[Dk] using X4 l b | .i _ _,b=>dw _ | .b _,b=>dw _ | .v _,b=>dw _ | .str _,b=>dw _ | .sl _ _ _,b=>dw _ | .Dv _ _,b=>dw _ | .fn _ _,b=>dw _ | .er _ _,b=>dw _ | .pt _,b=>dw _
theorem X4:∀(l:List Sh) (b:Nat),b<=(EL l b).2.2
 |[],b=>dw _ |x::r,b=>by simpa[EL] using iK (agB x b) (X4 r _)
end
theorem GV.world{K1:Kx}{id:Nat}{sb:SB}(h:GV K1 H E w id sb)(hE:E.le E')(hm:∀b,Mine K1 H b->Mine K H b):GV K H E' w id sb:=by
 cases sb with
 |box cells elem=>obtain ⟨b,cs,he,h1,h2,h3⟩:=h;exact ⟨b,cs,hE _ _ he,h1,h2.le (fun _ _ e=>e) hE,hm _ h3⟩ |row cells elem st n=>obtain ⟨v,xs,he,h1,h2,h3⟩:=h;exact ⟨v,xs,hE _ _ he,h1,h2.le (fun _ _ e=>e) hE,fun b hb=>hm _ (h3 b hb)⟩ |own elem st n g=>obtain ⟨v,xs,he,h1,h2,h3⟩:=h;exact ⟨v,xs,hE _ _ he,h1,h2,fun b hb=>hm _ (h3 b hb)⟩ |fz st n g=>obtain ⟨v,he,h1⟩:=h;exact ⟨v,hE _ _ he,h1⟩ |map es=>obtain ⟨b,ms,clk,he,h1,h2,h3⟩:=h;exact ⟨b,ms,clk,hE _ _ he,h1,h2.le (fun _ _ e=>e) hE,hm _ h3⟩ |Rt l=>obtain ⟨v,he,h1⟩:=h;exact ⟨v,hE _ _ he,h1⟩ |Hl elem st n g more=>obtain ⟨v,xs,ys,he,h1,h2,h3,h4,h5,h6⟩:=h;exact ⟨v,xs,ys,hE _ _ he,h1,h2,h3.le (fun _ _ e=>e) hE,h4,h5,fun b hb=>hm _ (h6 b hb)⟩ |fm k M fs us tag=>obtain ⟨b,ms,clk,fv,uv,he,h1,h2,h3,h4,h5,h6,h7⟩:=h;exact ⟨b,ms,clk,fv,uv,hE _ _ he,h1,h2.le (fun _ _ e=>e) hE,h3.le (fun _ _ e=>e) hE,h4,h5,h6.le hE,hm _ h7⟩ |pm vt M us=>obtain ⟨b,ms,clk,uv,he,h1,h2,h3,h4,h5,h7⟩:=h;exact ⟨b,ms,clk,uv,hE _ _ he,h1,h2.le (fun _ _ e=>e) hE,h3,h4,h5,hm _ h7⟩ |buf e l=>obtain ⟨v,he,h1,h3⟩:=h;exact ⟨v,hE _ _ he,h1,fun b hb=>hm _ (h3 b hb)⟩
def JW(P:Program)(K:Kx)(H:Mem)(E:Env)(w:World)(c:Core)(g:Nat)(FD:List Value)(φ:SV×Core->Prop):Prop:=
 Calls P g FD.toArray w fun e w'=>∃p v H' E',e=.returned v/\φ p/\Den H' E' p.1 v/\Post K H E w c H' E' w' p.2
theorem ai4(hS:aaW P C){c:Core}{g:Nat}{F:List Sh->Tree Sh}{args:List SV}{FD:List Value}{φ:SV×Core->Prop}(hF:C.spec g=ay F)(hh:AZ K H E w c.hp)(hw:Es K H w)(hf:Free E c)
  (hg:Dt C.gls H) (hd:AV H E args FD) (h:(spread c F args).All φ):JW P K H E w c g FD φ:=by
 unfold spread at h;split at h
 ·exact h.elim
 ·rename_i hp hfz
  obtain ⟨H1,hH,hh1,hw1,hz⟩:=Ny hfz hh hw;split at h
  ·exact h.elim
  ·rename_i BI hsh
   have hrep:=EC hh1 hsh (hd.le hH fun _ _ e=>e);refine nI (hS g F hF H1 w BI FD _ hw1.on (hg.le hH) hrep (Tree.Eb h)) fun e w' ⟨v,s,H',he,hφ,r⟩=>?_;obtain ⟨E1,r1,r2,r3,r4⟩:=r.res c.nx;cases hb:gY (Dk s c.nx).2.2 c.lim<;>simp only[hb,cond_true,cond_false] at hφ
   ·exact hφ.elim
   have hb:=fP hb;have hge:=agB s c.nx;have aru:∀i u,E i=ay u->E1 i=aN:=fun i u hu=>by
    cases h1:E1 i with
    |none=>rfl |some u'=>
     have:=r1 i (by rw[h1];simp);have:=hf i this.1 (by omega);rw[this] at hu;cases hu
   let E2:Env:=fun i=>match E1 i with|some u=>ay u|none=>E i
   have hE:E.le E2:=fun i u hu=>by simp[E2,aru i u hu,hu]
   have hE1:E1.le E2:=fun i u hu=>by simp[E2,hu]
   have conv:∀i,E i=aN->E2 i=E1 i:=fun i hi=>by simp only[E2,hi];cases E1 i<;>rfl
   have hold:∀{id:Nat} {sb:SB},GV K H1 E w id sb->GV K H' E2 w' id sb:=fun {id sb} hent=>
    hent.kept r.I7 hE (fun b hb=>r.old b (hent.lt hb).1) fun b hb=>by
     cases hx:H' b with
     |none=>rfl |some o=>
      rcases r.fresh b (by rw[hx];simp) with h|h
      ·exact (h (hent.lt hb).2.1).elim
      ·have:=(hent.lt hb).1;omega
   have hnew:∀{id:Nat} {sb:SB},AA (DL [] (Dk s c.nx).2.1) id=ay sb->GV K H' E2 w' id sb/\(∀b,Bv E2 id sb=ay b->w.heap.size<=b/\Bv E1 id sb=ay b)/\E id=aN:=fun {id sb} hl=>by
    have hent:=r4.ent _ _ hl;refine ⟨hent.world hE1 fun b hm=>⟨hm.1,?_⟩,fun b ho=>?_,?_⟩
    ·rcases hm.2 with h|h
     ·exact .inl (iK hw.size h)
     ·exact h.elim
    ·rw[GY hent hE1] at ho
     exact ⟨r2 id b (GX ho),ho⟩
    ·obtain ⟨u,hu⟩:=hent.some_
     have:=r1 id (by rw[hu];simp);exact hf id this.1 (by omega)
   refine ⟨_,v,H',E2,he,hφ,r3.le (fun _ _ e=>e) hE1,fun b o h=>r.I7 b o (hH b o h),hE,fun i h1 h2=>?_,hge,.inl hb,rfl,rfl,⟨fun id sb hl=>?_,fun id id' sb sb' b h1 h2 o1 o2=>?_⟩,
    ⟨r.os.trans hw.os,r.tape.trans hw.tape,r.output.trans hw.output,iK hw.size r.size,fun b hb hn=>?_,r.on,fun b o h=>r.I7 b o (hw1.le b o h),fun b hb=>?_⟩,fun _ h=>h,r.size,fun b hb _=>r.old b hb,fun i b h1 h2=>?_,
    fun _ h=>.inl h,fun id sb b hl _ ho=>?_,fun id sb hl hne=>?_⟩
   ·rw[conv i h1] at h2
    exact r1 i h2
   ·have hl:AA (DL hp (Dk s c.nx).2.1) id=ay sb:=hl
    rw[Gn] at hl;split at hl
    ·rename_i x hx
     cases hl;exact (hnew hx).1
    ·exact hold (hh1.ent _ _ hl)
   ·have h1:AA (DL hp (Dk s c.nx).2.1) id=ay sb:=h1
    have h2:AA (DL hp (Dk s c.nx).2.1) id'=ay sb':=h2;rw[Gn] at h1 h2;split at h1
    ·rename_i x hx
     cases h1;split at h2
     ·rename_i y hy
      cases h2;exact r4.Gu _ _ _ _ _ hx hy ((hnew hx).2.1 b o1).2 ((hnew hy).2.1 b o2).2
     ·have a1:=((hnew hx).2.1 b o1).1
      rw[GY (hh1.ent _ _ h2) hE] at o2;have:=((hh1.ent _ _ h2).lt o2).1;omega
    ·rw[GY (hh1.ent _ _ h1) hE] at o1
     have a0:=((hh1.ent _ _ h1).lt o1).1;split at h2
     ·rename_i y hy
      cases h2;have a1:=((hnew hy).2.1 b o2).1;omega
     ·rw[GY (hh1.ent _ _ h2) hE] at o2
      exact hh1.Gu _ _ _ _ _ h1 h2 o1 o2
   ·rw[r.old b (by have:=hw.size;omega)]
    exact hw.kept b hb hn
   ·rcases r.fresh b hb with h|h
    ·exact hw1.fresh b h
    ·exact .inr (.inl (iK hw.size h))
   ·simp only[bk,conv i h1] at h2
    exact .inl (r2 i b h2)
   ·rcases hz.keep id sb b hl ho with h|h
    ·left
     cases hb:H1 b with
     |none=>exact (h hb).elim |some o=>rw[r.I7 b o hb];simp
    ·refine .inr ⟨sb,?_,aam ho hE⟩
     show AA (DL hp (Dk s c.nx).2.1) id=ay sb;rw[Gn];split
     ·rename_i x hx
      obtain ⟨u,hu⟩:=(hh.ent _ _ hl).some_;have:=(hnew hx).2.2;rw[hu] at this;cases this
     ·exact h
   ·have hl:AA (DL hp (Dk s c.nx).2.1) id=ay sb:=hl
    rw[Gn] at hl;split at hl
    ·rename_i x hx
     exact (hne (hnew hx).2.2).elim
    ·obtain ⟨sb0,h3,h4⟩:=hz.old id sb hl
     exact ⟨sb0,h3,fun b hb=>h4 b (by rw[GY (hh1.ent _ _ hl) hE] at hb;exact hb)⟩
mutual
theorem aaX{H1 H2:Mem}{E1 E2:Env}:∀(s:Sh) (b:Nat) (v:Value),H9 s=aF->Den H1 E1 (Dk s b).1 v->Den H2 E2 (Dk s b).1 v
 | .i k n,_,_,_,h=>h | .b x,_,_,_,h=>h | .str l,_,_,_,h=>by cases h;exact .str l | .v x,_,_,_,h=>by
  cases x<;>exact h
 | .agg l,b,_,hp,⟨vs,h1,h2⟩=>⟨vs,h1,RU l b _ (by simpa[H9] using hp) h2⟩ | .Ba l,b,_,hp,⟨vs,h1,h2⟩=>⟨vs,h1,RU l b _ (by simpa[H9] using hp) h2⟩ | .sl _ _ _,_,_,hp,_=>by simp[H9] at hp | .os _ _ _ _,_,_,hp,_=>by simp[H9] at hp | .Dv _ _,_,_,hp,_=>by simp[H9] at hp | .fn _ _,_,_,hp,_=>by simp[H9] at hp | .er _ _,_,_,hp,_=>by simp[H9] at hp | .pt _,_,_,hp,_=>by simp[H9] at hp
theorem RU{H1 H2:Mem}{E1 E2:Env}:∀(l:List Sh) (b:Nat) (vs:List Value),O8 l=aF->AV H1 E1 (EL l b).1 vs->AV H2 E2 (EL l b).1 vs
 |[],_,[],_,_=>trivial |[],_,_::_,_,h=>h.elim |_::_,_,[],_,h=>h.elim |x::r,b,v::vs,hp,⟨h1,h2⟩=>by
  simp only[O8,aJ] at hp;exact ⟨aaX x b v hp.1 h1,RU r _ vs hp.2 h2⟩
end
theorem anG(hS:aaW P C){c:Core}{g:Nat}{F:List Sh->Tree Sh}{args:List SV}{FD:List Value}{φ:SV×Core->Prop}(hF:C.spec g=ay F)(hh:AZ K H E w c.hp)(hw:Es K H w)
  (hg:Dt C.gls H) (hd:AV H E args FD) (h:(VZ c F args).All φ):JW P K H E w c g FD φ:=by
 unfold VZ at h;split at h
 ·exact h.elim
 ·rename_i hp hfz
  obtain ⟨H1,hH,hh1,hw1,hz⟩:=Ny hfz hh hw;split at h
  ·exact h.elim
  ·rename_i BI hsh
   have hrep:=EC hh1 hsh (hd.le hH fun _ _ e=>e);refine nI (hS g F hF H1 w BI FD _ hw1.on (hg.le hH) hrep (Tree.Eb h)) fun e w' ⟨v,s,H',he,hφ,r⟩=>?_;obtain ⟨E1,r1,r2,r3,r4⟩:=r.res c.nx;cases hb:H9 s<;>simp only[hb,cond_true,cond_false] at hφ
   ·exact hφ.elim
   have keep:∀id sb,AA c.hp id=ay sb->GV K H E w' id sb:=fun id sb hl=>by
    have hent:=hh.ent id sb hl;exact hent.kept (fun _ _ e=>e) (fun _ _ e=>e) (fun b ho=>r.old b (hent.lt ho).1) fun b ho=>(hent.lt ho).2.1
   refine ⟨_,v,H,E,he,hφ,aaX s c.nx v hb r3,fun _ _ e=>e,fun _ _ e=>e,fun i h1 h2=>(h2 h1).elim,dw _,.inr rfl,rfl,rfl,⟨keep,fun id id' sb sb' b h1 h2 o1 o2=>hh.Gu id id' sb sb' b h1 h2 o1 o2⟩,
    ⟨r.os.trans hw.os,r.tape.trans hw.tape,r.output.trans hw.output,iK hw.size r.size,fun b hb hn=>?_,fun b o e=>?_,hw.le,hw.fresh⟩,fun _ h=>h,r.size,fun b hb _=>r.old b hb,fun i b h1 h2=>?_,
    fun _ h=>.inl h,fun id sb b hl _ ho=>.inr ⟨sb,hl,ho⟩,fun id sb hl _=>⟨sb,hl,fun b h=>h⟩⟩
   ·rw[r.old b (Nat.lt_of_lt_of_le hb hw.size)]
    exact hw.kept b hb hn
   ·rw[r.old b (bH.1 (hw.on b o e)).1]
    exact hw.on b o e
   ·simp[bk,h1] at h2
end
def Enters(P:Program)(g:Nat):Prop:=∃fn,P.funcs[g]?=ay fn/\fn.body.isSome=aF/\fn.name≠ "runtime.NumGoroutine"
def ai5(P:Program)(g e st bytes:Nat):Prop:=
 ∀(w:World) (v x:Value) (n i:Nat) (xs news:List Value),w.ownsRow 0 e st v n xs->w.ownsRow 0 e st x 1 news->(∀b,AY v=ay b->AY x≠ay b)->(∀u∈xs,u.oneCell'=aF)->(∀u∈news,u.oneCell'=aF)->
  i<=n->n+1<=maxLen->(n+1)*bytes<=140737488355328->Calls P g #[v,.int .i64 i,x] w fun en w'=>∃v',en=.returned v'/\w'.ownsRow 0 e st v' (n+1) (xs.take (i*st)++news++xs.drop (i*st))/\w.grownBy w' (AY v)/\
   ∀b,AY v'=ay b->AY v=ay b\/w.heap.size<=b
def ae1(P:Program)(g e st bytes:Nat):Prop:=
 ∀(w:World) (k:Nat),k<=maxLen->k*bytes<=140737488355328->Calls P g #[.slice aN 0 0,.int .i64 k] w fun en w'=>∃v',en=.returned v'/\w'.ownsRow 0 e st v' 0 []/\w.grownBy w' aN/\∀b,AY v'=ay b->w.heap.size<=b
structure Cb(P:Program)(C:Ctx):Prop where
 sp:aaW P C
 en:∀g,(C.spec g).isSome=aF\/(C.fns.get g).isSome=aF->Enters P g
 is:∀g e te,C.ins g=ay e->C.ty e=ay te->Enters P g/\ai5 P g e te.size te.bytes
 gr:∀g e te,C.grow g=ay e->C.ty e=ay te->Enters P g/\ae1 P g e te.size te.bytes
section
variable{P:Program}{C:Ctx}{K:Kx}{H H' OL:Mem}{E E' OM:Env}{w w' w'':World}
theorem Il{g:Nat}(h:Enters P g)(args:Array Value)(w:World):(callFunc g args).run P w=.ok (.enter g args) w:=by
 obtain ⟨fn,h1,h2,h3⟩:=h;have hb:fn.body≠aN:=by cases hb:fn.body<;>simp[hb] at h2 ⊢
 unfold callFunc;rw[gK,run_program];simp[h1,h3,hb]
def ae2(P:Program)(K:Kx)(H:Mem)(E:Env)(w:World)(c:Core)(a:Act)(o:Oper)(φ:SV×Core->Prop):Prop:=
 ∀(next:Act->World->Prop) (Q:Exit->Act->World->Prop),
  (∀(p:SV×Core) (v:Value) (H':Mem) (E':Env) (w':World),φ p->Den H' E' p.1 v->Post K H E w c H' E' w' p.2->next (a.put o.dst v) w')->o.wp P a w next Q
theorem Ia.op{c:Core}{a:Act}{o:Oper}{φ:SV×Core->Prop}(h:Ia P K H E w c a o φ):ae2 P K H E w c a o φ:=by
 obtain ⟨p,v,r,H',E',w',h1,h2,h3,h4,h5⟩:=h;intro next Q hn;unfold xY;rw[h5];rcases h4 with rfl|⟨rfl,rfl⟩
 ·exact hn p v H' E' w' h1 h2 h3
 ·exact hn p _ H' E' w' h1 h2 h3
def Ib(P:Program)(C:Ctx)(K:Kx)(call:Nat->List SV->Core->Tree (SV×Core)):Prop:=
 ∀(H:Mem) (E:Env) (w:World) (c:Core) (g:Nat) (args:List SV) (FD:List Value) (φ:SV×Core->Prop),AV H E args FD->AZ K H E w c.hp->Es K H w->Free E c->Dt C.gls H->
  (call g args c).All φ->Enters P g/\JW P K H E w c g FD φ
theorem NC{a:Act}{tm:List SV}(hd:AV H E tm a.tmps.toList):∀xs:List Operand,AV H E (xs.map (BP tm)) (xs.map a.eval)
 |[]=>trivial |x::xs=>⟨BJ hd x,NC hd xs⟩
theorem alT{st n i:Nat}{g:Nat->List Sh}{xs:List Value}{l:List Sh}{news:List Value}(h1:CQ H st n g xs)(hl:D9 H l news)(hlen:news.length=st)(hone:∀u∈news,u.oneCell'=aF)(hi:i<=n):CQ H st (n+1) (Aw.ins g i l) (xs.take (i*st)++news++xs.drop (i*st)):=by
 obtain ⟨a1,a2,a3,a4⟩:=h1;have hle:i*st<=n*st:=dR _ hi;have htl:(xs.take (i*st)).length=i*st:=by rw[List.length_take];omega
 refine ⟨?_,fun j hj=>?_,fun u hu=>?_,fun j k s v hj e1 e2=>?_⟩
 ·rw[bf,bf,htl,hlen,List.length_drop,a1,gB];omega
 ·show (if j<i then g j else if j=i then l else g (j - 1)).length=st
  split
  ·exact a2 j (by omega)
  ·split
   ·rw[<-hl.length,hlen]
   ·exact a2 _ (by omega)
 ·rcases bK.1 hu with hu|hu
  ·rcases bK.1 hu with hu|hu
   ·exact a3 u (List.mem_of_mem_take hu)
   ·exact hone u hu
  ·exact a3 u (List.mem_of_mem_drop hu)
 ·replace e1:(if j<i then g j else if j=i then l else g (j - 1))[k]?=ay s:=e1
  have hk:∀{r:List Sh},r[k]?=ay s->r.length=st->k<st:=fun hr hl'=>by rw[<-hl'];exact (aQ.1 hr).1
  split at e1
  ·rename_i hji
   have hks:=hk e1 (a2 j (by omega));have hlt:j*st+k<i*st:=by
    calc j*st+k<j*st+st:=by omega
     _=(j+1)*st:=by rw[gB,iI]
     _<=i*st:=dR _ hji
   rw[dV,dM (by omega),List.getElem?_take,if_pos hlt] at e2;exact a4 j k s v (by omega) e1 e2
  ·split at e1
   ·rename_i _ hji
    subst hji;have hks:=hk e1 (by rw[<-hl.length,hlen]);rw[dV,fD (by omega),htl,show j*st+k - j*st=k by omega,dM (by omega)] at e2;exact hl.at_ e1 e2
   ·rename_i hn1 hn2
    have hks:=hk e1 (a2 _ (by omega));have hge:i*st+st<=j*st+k:=by
     calc i*st+st=(i+1)*st:=by rw[gB,iI]
      _<=j*st:=dR _ (by omega)
      _<=j*st+k:=jd _ _
    have hjm:j*st=(j - 1)*st+st:=by
     obtain ⟨m,rfl⟩:∃m,j=m+1:=⟨j - 1,by omega⟩;rw[Nat.add_sub_cancel,gB,iI]
    rw[fD (by rw[bf,htl,hlen];exact hge),bf,htl,hlen,List.getElem?_drop] at e2;rw[show i*st+(j*st+k - (i*st+st))=(j - 1)*st+k by omega] at e2;exact a4 (j - 1) k s v (by omega) e1 e2
theorem arv{c:Core}{g e:Nat}{args:List SV}{FD:List Value}{φ:SV×Core->Prop}(hC:BL P C)(hF:Cb P C)(hg:C.ins g=ay e)(hh:AZ K H E w c.hp)(hw:Es K H w)(hf:Free E c)
  (hd:AV H E args FD) (h:(V3 C c e args).All φ):Enters P g/\JW P K H E w c g FD φ:=by
 unfold V3 at h;split at h;rotate_left
 ·exact h.elim
 rename_i s i id';match FD,hd with
 |[v,iv,x],⟨hv,hiv,hx,_⟩=>
 split at h;rotate_left
 ·exact h.elim
 rename_i te hte;split at h;rotate_left
 ·exact h.elim
 rename_i n gr cells e2 st2 m hl1 hl2;cases hb:(Ns c.hp e s&&e==e2&&st2==te.size&&m==1 && !N8 s (.gs id')&&fZ 0 te.size&&FU cells)<;>simp only[hb,cond_true,cond_false] at h
 ·exact h.elim
 simp only[aJ,beq_iff_eq,iw] at hb;obtain ⟨⟨⟨⟨⟨⟨hown,rfl⟩,rfl⟩,rfl⟩,hne⟩,h0⟩,hone⟩:=hb;have h0:=Fv h0;split at h;rotate_left
 ·exact h.elim
 rename_i l z k hl hz hk;rw[hC.A] at hk h;obtain ⟨g1,g2,h⟩:=h;obtain ⟨z0,z1⟩:=KE g1;obtain ⟨r2,r1⟩:=FV g2;have hz':Hw i=ay z:=by
  unfold XO at hz;split at hz
  ·cases hz;rfl
  ·cases hz;rfl
  ·cases hz
 have eiv:iv=.int .i64 z:=by
  unfold XO at hz;split at hz
  ·cases hz;exact hiv
  ·cases hz;exact hiv
  ·cases hz
 have hkz:=Hr hz' hk;subst hkz;have ea:Aw.addN n 1=n+1:=rfl;rw[ea] at r1 r2 h;obtain ⟨o1,o2,_,o4,_⟩:=XY (st:=te.size) hh hown hv;obtain ⟨xs,p2,p3⟩:=o4 _ _ hl1;obtain ⟨x1,news,q1,q2,q3,q4⟩:=hh.ent _ _ hl2;rw[hx.1] at q1;cases q1;have hdis:∀b,AY v=ay b->AY x≠ay b:=fun b h1 h2=>by
  rcases o1 with ⟨_,h3⟩ |⟨id,sb0,h3,h4,h5,h6⟩
  ·rw[h1] at h3;cases h3
  ·have:=hh.Gu id id' _ _ b h4 hl2 (h6.trans h1) (by simp[Bv,hx.1,h2])
   subst this;have hs:N8 s (.gs id)=aF:=by
    unfold N8;rw[h3];show (id==id)=aF;simp
   rw[hs] at hne;cases hne
 obtain ⟨hent,hins⟩:=hF.is g e te hg hte;have hrl:=EC hh hl q3;have hnl:news.length=te.size:=by rw[q2.1,iI]
 have hno:=FC hone q3;refine ⟨hent,?_⟩;unfold JW;have hiz:((z.toNat:Nat):Int)=z:=by omega
 subst eiv;have hcall:=hins w v x n z.toNat xs news p2 q2 hdis p3.2.2.1 hno (by omega) r1 r2;rw[hiz] at hcall;refine nI hcall fun en w' ⟨v',he,hown',hgr,hv'⟩=>?_;have FB:∀b,AY v'=ay b->Mine K H b:=fun b hb=>by
  rcases hv' b hb with h|h
  ·exact o2 b h
  ·refine ⟨?_,.inl (by have:=hw.size;omega)⟩
   cases hH:H b with
   |none=>rfl |some o=>have:=(bH.1 (hw.on b o hH)).1;omega
 obtain ⟨c',hφ,hp⟩:=JV (s:=s) (v:=v) (v':=v') hh hw hf h o1 o2 hgr hv' (fun _=>⟨v',_,fB _ _ _,hown',alT p3 hrl hnl hno (by omega),FB⟩);obtain ⟨A,n',cc,e3⟩:=JE hown';exact ⟨_,v',H,_,he,hφ,⟨fB _ _ _,A,n',cc,e3⟩,hp⟩
 |[],h|[_],h|[_,_],h|_::_::_::_::_,h=>exact (by simp[AV] at h)
theorem anH{c:Core}{g e:Nat}{args:List SV}{FD:List Value}{φ:SV×Core->Prop}(hC:BL P C)(hF:Cb P C)(hg:C.grow g=ay e)(hh:AZ K H E w c.hp)(hw:Es K H w)(hf:Free E c)
  (hd:AV H E args FD) (h:(TG C c e args).All φ):Enters P g/\JW P K H E w c g FD φ:=by
 unfold TG at h;split at h;rotate_left
 ·exact h.elim
 rename_i i;match FD,hd with
 |[v,iv],⟨hv,hiv,_⟩=>
 split at h;rotate_left
 ·exact h.elim
 rename_i te z k hte hz hk;rw[hC.A] at hk h;obtain ⟨g1,g2,h⟩:=h;obtain ⟨r2,r1⟩:=FV g2;have z0:(0:Int)<=z:=of_decide_eq_true g1;have hz':Hw i=ay z:=by
  unfold XO at hz;split at hz
  ·cases hz;rfl
  ·cases hz;rfl
  ·cases hz
 have eiv:iv=.int .i64 z:=by
  unfold XO at hz;split at hz
  ·cases hz;exact hiv
  ·cases hz;exact hiv
  ·cases hz
 have hkz:=Hr hz' hk;subst hkz;obtain ⟨hent,hgo⟩:=hF.gr g e te hg hte;refine ⟨hent,?_⟩;unfold JW;have hv:v=.slice aN 0 0:=hv;subst hv eiv;have hcall:=hgo w z.toNat r1 r2;rw[show ((z.toNat:Nat):Int)=z by omega] at hcall;refine nI hcall fun en w' ⟨v',he,hown',hgr,hv'⟩=>?_;have FB:∀b,AY v'=ay b->Mine K H b:=fun b hb=>by
  have h:=hv' b hb;refine ⟨?_,.inl (by have:=hw.size;omega)⟩;cases hH:H b with
  |none=>rfl |some o=>have:=(bH.1 (hw.on b o hH)).1;omega
 obtain ⟨c',hφ,hp⟩:=JV (s:=.Bj) (v:=.slice aN 0 0) (v':=v') hh hw hf h (.inl ⟨rfl,rfl⟩) (fun b hb=>by simp[AY] at hb) hgr (fun b hb=>.inr (hv' b hb)) (fun _=>⟨v',_,fB _ _ _,hown',KD _ _,FB⟩);obtain ⟨A,n',cc,e3⟩:=JE hown';exact ⟨_,v',H,_,he,hφ,⟨fB _ _ _,A,n',cc,e3⟩,hp⟩
 |[],h|[_],h|_::_::_::_,h=>exact (by simp[AV] at h)
theorem ai6{call:Nat->List SV->Core->Tree (SV×Core)}{c:Core}{a:Act}{o:Oper}{k:Call}{f:Operand}{φ:SV×Core->Prop}(hC:BL P C)(hF:Cb P C)(hK:Ib P C K call)(st:St C K H E w c a)(ho:o.op=.call k)
  (hf:k.callee=.value f) (h:(match BP c.tm f with
   | .fn g cs=>match C.ins g with
    |some e=>V3 C c e (k.args.toList.map (BP c.tm)++cs) |none=>match C.grow g with
    |some e=>TG C c e (k.args.toList.map (BP c.tm)++cs) |none=>match C.spec g with
    |some F=>bif C.lend g then VZ c F (k.args.toList.map (BP c.tm)++cs) else spread c F (k.args.toList.map (BP c.tm)++cs) |none=>call g (k.args.toList.map (BP c.tm)++cs) c
   |_=>.fail).All φ):ae2 P K H E w c a o φ:=by
 have df:=BJ (H:=H) (E:=E) st.den f;split at h
 ·rename_i g cs hg
  rw[hg] at df;obtain ⟨vs,ef,hvs⟩:=df;have hargs:=(NC st.den k.args.toList).append hvs;have key:Enters P g/\JW P K H E w c g (k.args.toList.map a.eval++vs.toList) φ:=by
   split at h
   ·rename_i e he
    exact arv hC hF he st.hp st.Cm st.free hargs h
   split at h
   ·rename_i e he
    exact anH hC hF he st.hp st.Cm st.free hargs h
   split at h
   ·rename_i F hF2
    refine ⟨hF.en g (.inl (by rw[hF2];rfl)),?_⟩;cases hl:C.lend g<;>simp only[hl,cond_true,cond_false] at h
    ·exact ai4 hF.sp hF2 st.hp st.Cm st.free st.gl hargs h
    ·exact anG hF.sp hF2 st.hp st.Cm st.gl hargs h
   ·exact hK H E w c g _ _ φ hargs st.hp st.Cm st.free st.gl h
  intro next Q hn;have hr:(execOp a.eval o).run P w=.ok (.enter g (k.args.map a.eval++vs)) w:=by
   simp only[execOp,ho,resolve,hf];simp[jJ,ef,invoke,Il key.1]
  unfold xY;rw[hr];have he:(k.args.toList.map a.eval++vs.toList).toArray=k.args.map a.eval++vs:=by
   apply Array.toList_inj.1;simp
  have:=key.2;unfold JW at this;rw[he] at this;refine nI this fun e w' ⟨p,v,H',E',e1,e2,e3,e4⟩=>?_;subst e1;exact hn p v H' E' w' e2 e3 e4
 ·exact h.elim
theorem alU{call:Nat->List SV->Core->Tree (SV×Core)}{c:Core}{a:Act}{o:Oper}{φ:SV×Core->Prop}(hC:BL P C)(hF:Cb P C)(hK:Ib P C K call)(st:St C K H E w c a)
  (h:(Qk C call c o).All φ):ae2 P K H E w c a o φ:=by
 by_cases hq:Dx o.op=aF
 ·exact ((WA hC st.den st.hp st.gl hq h).toW st.hp st.Cm).op
 unfold Qk at h;split at h;case h_4 e ho=>exact (anv hC st.hp st.Cm st.free ho h).op
 case h_5 e x ho=>exact (atj st.den st.hp st.Cm st.free ho h).op
 case h_7 t n parts ho=>exact (ade hC st.den st.hp st.Cm st.free ho h).op
 case h_9 t x v ho=>exact (anw hC st.den st.hp st.Cm ho h).op
 case h_20 t ho=>exact (aiV st.hp st.Cm st.free ho h).op
 case h_21 t l k ho=>
  refine (aeZ hC st.den st.hp st.Cm st.free ho (fun hs=>?_) h).op;split at hs
  ·rename_i i j
   obtain rfl:i=j:=by simpa using hs
   rfl
  ·cases hs
 case h_22 t x lo hi ho=>exact (anE hC st.den st.hp st.Cm ho h).op
 case h_24 t m k v ho=>exact (adL hC st.den st.hp st.Cm (.inr ho) h).op
 case h_25 t m k v ho=>exact (adL hC st.den st.hp st.Cm (.inl ho) h).op
 case h_26 t m k ho=>exact (agA hC st.den st.hp st.Cm st.free ho h).op
 case h_27 t m s v ho=>exact (adf st.den st.hp st.Cm ho h).op
 case h_28 k ho=>
  unfold TI at h;split at h
  ·rename_i b hb
   obtain ⟨callee,xs,ts⟩:=k;simp only at hb;subst hb;simp only at h;split at h
   ·rename_i x t h1 h2
    rw[ho] at hq;simp[Dx] at hq
   ·rename_i m k t r h1 h2
    have e1:xs=#[m,k]:=by cases xs;simp at h1;subst h1;rfl
    subst e1;have e2:ts[0]?=ay t:=by rw[<-dX,h2];rfl
    exact (alS hC st.den st.hp st.Cm ho e2 h).op
   ·rename_i s x t u h1 h2
    have e1:xs=#[s,x]:=by cases xs;simp at h1;subst h1;rfl
    have e2:ts=#[t,u]:=by cases ts;simp at h2;subst h2;rfl
    subst e1 e2;cases hu:(t==u)<;>simp only[hu,cond_true,cond_false] at h
    ·exact (aiY hC st.den st.hp st.Cm st.free ho h).op
    obtain rfl:t=u:=by simpa using hu
    split at h
    ·rename_i r hr
     exact (aiZ hC st.den st.hp st.Cm st.free ho hr h).op
    ·exact (alR hC st.den st.hp st.Cm st.free ho h).op
   ·rw[ho] at hq;simp[Dx] at hq
   ·rw[ho] at hq;simp[Dx] at hq
   ·exact h.elim
  ·rename_i f hb
   exact ai6 hC hF hK st ho hb h
  ·exact h.elim
 case h_29 t u x ho=>exact (ars hC st.den st.hp st.Cm st.free ho h).op
 case h_30=>exact h.elim
 all_goals
  rename_i ho;rw[ho] at hq;simp[Dx] at hq
theorem anI{call:Nat->List SV->Core->Tree (SV×Core)}{c:Core}{a:Act}{o:Oper}{φ:SV×Core->Prop}(hC:BL P C)(hF:Cb P C)(hK:Ib P C K call)(st:St C K H E w c a)
  (h:(exec C call c o).All φ):ae2 P K H E w c a o φ:=by
 obtain ⟨ψ,h,hψ⟩:=U2 h;intro next Q hn;refine alU hC hF hK st h next Q fun p v H' E' w' h1 h2 h3=>?_
 obtain ⟨x,q1,q2⟩:=hψ p h1;exact hn (x,p.2) v H' E' w' q1 (q2 _ _ _ h2) h3
theorem JX{c:Core}{a:Act}(hd:AV H E c.tm a.tmps.toList)(dst:Option Nat){sv:SV}{v:Value}(hv:Den H E sv v):AV H E (Q9 c.tm dst sv) (a.put dst v).tmps.toList:=by
 cases dst with
 |none=>exact hd |some d=>
  simp only[Q9,uK,Array.toList_setIfInBounds];exact hd.set d hv
theorem put_defers{a:Act}{dst:Option Nat}{v:Value}:(a.put dst v).defers=a.defers:=by cases dst<;>rfl
theorem St.step{c c':Core}{a:Act}(st:St C K H E w c a)(dst:Option Nat){sv:SV}{v:Value}(hv:Den H' E' sv v)(hp:Post K H E w c H' E' w' c'):St C K H' E' w' (c'.put dst sv) (a.put dst v):=by
 refine ⟨?_,hp.hp,hp.Cm,?_,st.gl.le hp.I7,by rw[put_defers];exact st.defers⟩
 ·have:=JX (c:=c') (a:=a) (by rw[hp.tm];exact st.den.le hp.I7 hp.MK) dst hv
  exact this
 ·exact hp.mv.free st.free
theorem St.put{c:Core}{a:Act}(st:St C K H E w c a)(dst:Option Nat){sv:SV}{v:Value}(hv:Den H E sv v):St C K H E w (c.put dst sv) (a.put dst v):=
 ⟨JX st.den dst hv,st.hp,st.Cm,st.free,st.gl,by rw[put_defers];exact st.defers⟩
theorem St.know{c:Core}{a:Act}(st:St C K H E w c a){d:Nat}{b:Bool}(hd:c.tm.getD d .any=.test b):St C K H E w (c.put (ay d) (.bool b)) a:=by
 refine ⟨?_,st.hp,st.Cm,st.free,st.gl,st.defers⟩;have h1:c.tm[d]?=ay (.test b):=by
  rw[aX] at hd;cases h:c.tm[d]? with
  |none=>simp[h] at hd |some x=>simp[h] at hd;rw[hd]
 obtain ⟨v,e1,e2⟩:=st.den.get h1;have e2:v=.bool b:=e2;subst e2;have h2:=st.den.set d (s:=.bool b) (v:=.bool b) rfl;have h3:a.tmps.toList.set d (.bool b)=a.tmps.toList:=by
  apply lM;intro j;by_cases hj:d=j
  ·subst hj
   have:d<a.tmps.toList.length:=(aQ.1 e1).1;rw[rC this,e1]
  ·rw[rX hj]
 rw[h3] at h2;exact h2
theorem TN{tm:List SV}{a:Act}(hd:AV H E tm a.tmps.toList){d:Nat}{sv:SV}(h:tm.getD d .any=sv)(hne:sv≠.any):∃v,a.tmps[d]?=ay v/\Den H E sv v:=by
 have h1:tm[d]?=ay sv:=by
  rw[aX] at h;cases h':tm[d]? with
  |none=>simp[h'] at h;exact (hne h.symm).elim |some x=>simp[h'] at h;rw[h]
 obtain ⟨v,e1,e2⟩:=hd.get h1;exact ⟨v,by rw[<-dX];exact e1,e2⟩
theorem Hy{ops:Array Oper}{tm:List SV}{a:Act}(hd:AV H E tm a.tmps.toList)(o:Oper):
  match Oa ops.toList tm o with
  | .yes=>jA o (yielded ops a.tmps)=aF | .no=>jA o (yielded ops a.tmps)=aA | .ask d c b=>tm.getD d .any=.test c/\jA o (yielded ops a.tmps)=(c==b) | .lost=>True:=by
 unfold Oa jA;cases hg:o.guard with
 |none=>rfl |some jb=>
  obtain ⟨j,b⟩:=jb;simp only;have hop:opAt ops.toList j=ops[j]?:=by simp[opAt]
  rw[hop];cases hds:(ops[j]?).bind (·.dst) with
  |none=>trivial |some d=>
   simp only;have hy:∀c:Bool,a.tmps[d]?=ay (.bool c)->yielded ops a.tmps j=ay c:=fun c hc=>by
    simp[yielded,hds,hc]
   cases hx:tm.getD d .any with
   |bool c=>
    obtain ⟨v,e1,e2⟩:=TN hd hx (by simp);have e2:v=.bool c:=e2;subst e2;have:=hy c e1;cases c<;>cases b<;>simp[this]
   |test c=>
    obtain ⟨v,e1,e2⟩:=TN hd hx (by simp);have e2:v=.bool c:=e2;subst e2;have:=hy c e1;refine ⟨hx,?_⟩;rw[this];cases c<;>cases b<;>rfl
   |Ba l=>
    obtain ⟨v,e1,e2⟩:=TN hd hx (by simp);obtain ⟨vs,rfl,_⟩:=e2;have:yielded ops a.tmps j=aN:=by simp[yielded,hds,e1]
    rw[this];rfl
   |_=>trivial
theorem ae3{ops:List Oper}{i:Nat}:Den H E (skV ops i) undef:=by
 unfold skV;cases ops.any (fun o=>match o.guard with|some (j,_)=>fC j i|none=>aA)
 ·trivial
 ·exact ⟨#[],rfl,trivial⟩
def WH(P:Program)(C:Ctx)(K:Kx)(H:Mem)(E:Env)(w:World)(c:Core)(a:Act)(ops:Array Oper)(i:Nat)(φ:Core->Prop):Prop:=
 ∀(next:Act->World->Prop) (Q:Exit->Act->World->Prop),
  (∀(c':Core) (a':Act) (H':Mem) (E':Env) (w':World),φ c'->St C K H' E' w' c' a'->Mv K H E w c H' E' w' c'->(∃v,a'=a.put ((ops[i]?).bind (·.dst)) v)->next a' w')->wpOp P ops Q i next a w
theorem Jd{c c':Core}{a:Act}(st:St C K H E w c a)(h1:c'.hp=c.hp)(h2:c'.nx=c.nx)(h3:c'.lim=c.lim)(h4:c'.tc=c.tc):Mv K H E w c H E w c':=
 (pI st.hp st.Cm).mv.to rfl rfl rfl rfl h1 h2 h3 h4
theorem agC{call:Nat->List SV->Core->Tree (SV×Core)}{c:Core}{a:Act}{ops:Array Oper}{i:Nat}{o:Oper}{φ:Core->Prop}(hC:BL P C)(hF:Cb P C)(hK:Ib P C K call)(st:St C K H E w c a)
  (hi:ops[i]?=ay o) (hw:jA o (yielded ops a.tmps)=aF) (h:(af2 C call c o).All φ):WH P C K H E w c a ops i φ:=by
 intro next Q hn;unfold wpOp;simp only[hi,hw,if_true];refine .inl (anI hC hF hK st (Tree.Eb h) next Q fun p v H' E' w' h1 h2 h3=>?_);exact hn _ _ H' E' w' h1 (st.step o.dst h2 h3) (h3.mv.to rfl rfl rfl rfl rfl rfl rfl rfl) ⟨v,by rw[hi];rfl⟩
theorem aaY{c:Core}{a:Act}{ops:Array Oper}{i:Nat}{o:Oper}{φ:Core->Prop}(st:St C K H E w c a)
  (hi:ops[i]?=ay o) (hw:jA o (yielded ops a.tmps)=aA) (h:φ (c.put o.dst (skV ops.toList i))):WH P C K H E w c a ops i φ:=by
 intro next Q hn;unfold wpOp;simp only[hi,hw];exact hn _ _ H E w h (st.put o.dst ae3) (Jd st rfl rfl rfl rfl) ⟨undef,by rw[hi];rfl⟩
theorem U6{call:Nat->List SV->Core->Tree (SV×Core)}{c:Core}{a:Act}{ops:Array Oper}{i:Nat}{φ:Core->Prop}(hC:BL P C)(hF:Cb P C)(hK:Ib P C K call)(st:St C K H E w c a)
  (h:(aah C call ops.toList c i).All φ):WH P C K H E w c a ops i φ:=by
 unfold aah at h;have hop:opAt ops.toList i=ops[i]?:=by simp[opAt]
 rw[hop] at h;split at h
 ·rename_i hi
  intro next Q hn;unfold wpOp;simp only[hi];exact hn _ _ H E w h st (Jd st rfl rfl rfl rfl) ⟨undef,by rw[hi];rfl⟩
 ·rename_i o hi
  have hs:=Hy (ops:=ops) st.den o;split at h
  ·rename_i hw
   rw[hw] at hs;exact agC hC hF hK st hi hs h
  ·rename_i hw
   rw[hw] at hs;exact aaY st hi hs h
  ·rename_i d t b hw
   rw[hw] at hs;obtain ⟨h1,h2⟩:=hs;have key:∀v:Bool,t=v->(let c':=c.put (ay d) (.bool v);bif v==b then af2 C call c' o else .leaf (c'.put o.dst (skV ops.toList i))).All φ->WH P C K H E w c a ops i φ:=fun v hv hh=>by
    subst hv;have st':=st.know h1;have mvc:Mv K H E w c H E w (c.put (ay d) (.bool t)):=Jd st rfl rfl rfl rfl;intro next Q hn;cases hb:(t==b)<;>simp only[hb,cond_true,cond_false] at hh
    ·refine aaY (P:=P) st' hi (by rw[h2,hb]) hh next Q fun c' a' H' E' w' e1 e2 e3 e4=>hn c' a' H' E' w' e1 e2 (mvc.trans e3) e4
    ·refine agC hC hF hK st' hi (by rw[h2,hb]) hh next Q fun c' a' H' E' w' e1 e2 e3 e4=>hn c' a' H' E' w' e1 e2 (mvc.trans e3) e4
   cases t with
   |true=>exact key aF rfl (by have:=h.1 rfl;cases b<;>simpa using this) |false=>exact key aA rfl (by have:=h.2 rfl;cases b<;>simpa using this)
  ·exact h.elim
end
section
variable{P:Program}{C:Ctx}{K:Kx}{H H' OL:Mem}{E E' OM:Env}{w w' w'':World}
theorem aaZ{α:Type}{φ:α->Prop}:∀{bs:List Bool} {t:Tree α},(needs t bs).All φ->(∀b∈bs,b=aF)/\t.All φ
 |[],_,h=>⟨fun _ h=>(by cases h),h⟩ |b::r,t,h=>by
  obtain ⟨h1,h2⟩:=h;obtain ⟨h3,h4⟩:=aaZ h2;refine ⟨fun x hx=>?_,h4⟩;cases hx with
  |head=>exact h1 |tail _ hx=>exact h3 x hx
theorem ae4{r:Option (List Bool×SV)}{x:List Bool×SV}(h:aeP r=ay x):r=ay x:=by
 unfold aeP at h;split at h
 ·cases h
 ·exact h
theorem RV:∀{t:Tree (SV×Core)} {bs bs':List Bool} {v:SV},Em t bs=ay (bs',v)->∀b∈bs,b∈bs'
 | .leaf _,_,_,_,h=>by simp[Em] at h;obtain ⟨rfl,_⟩:=h;exact fun _ h=>h | .need b t,bs,bs',v,h=>fun x hx=>RV (t:=t) h x (dB _ hx) | .node _ _ _,_,_,_,h=>by simp[Em] at h | .both _ _,_,_,_,h=>by simp[Em] at h | .must _ _,_,_,_,h=>by simp[Em] at h | .fail,_,_,_,h=>by simp[Em] at h
theorem ND:∀{t:Tree (SV×Core)} {bs bs':List Bool} {v:SV},Em t bs=ay (bs',v)->(∀b∈bs',b=aF)->t.All fun p=>p.1=v
 | .leaf _,_,_,_,h,_=>by simp[Em] at h;exact h.2 | .need b t,bs,bs',v,h,hb=>⟨hb b (RV (t:=t) h b (cO ..)),ND (t:=t) h hb⟩ | .node _ _ _,_,_,_,h,_=>by simp[Em] at h | .both _ _,_,_,_,h,_=>by simp[Em] at h | .must _ _,_,_,_,h,_=>by simp[Em] at h | .fail,_,_,_,h,_=>by simp[Em] at h
theorem aa0{α:Type}{φ:α->Prop}{f:Nat->Tree α}:∀{rs:List Nat},(allOf f rs).All φ->∀i∈rs,(f i).All φ
 |[],h,_,_=>h.elim |[i],h,j,hj=>by simp at hj;subst hj;exact h |i::k::r,h,j,hj=>by
  obtain ⟨h1,h2⟩:=h;cases hj with
  |head=>exact h1 |tail _ hj=>exact aa0 h2 j hj
theorem Qq{BM:Array Oper}{lock:List (Nat×SB)}{listed:Array Bool}{Iq:List SV}{c:Core}{q:Quiet}:∀{rs:List Nat},V5 C BM lock listed Iq c rs=q->q≠.no->∃i∈rs,TJ C BM lock listed Iq c i=q
 |[],h,hn=>by simp[V5] at h;exact (hn h.symm).elim |i::r,h,hn=>by
  unfold V5 at h;split at h
  ·obtain ⟨j,h1,h2⟩:=Qq h hn
   exact ⟨j,dB _ h1,h2⟩
  ·exact ⟨i,cO ..,h⟩
theorem aa1{p q:Nat->Bool}{i:Nat}:∀{l:List Nat},(∀x,q x=aF->p x=aF)->i∈l->p i=aF->q i=aA->l.countP q<l.countP p
 |[],_,h,_,_=>by cases h |x::l,hpq,h,h1,h2=>by
  have hle:l.countP q<=l.countP p:=List.countP_mono_left fun x _ h=>hpq x h
  rw[vk,vk];cases h with
  |head=>simp[h1,h2];omega |tail _ h=>
   have:=aa1 hpq h h1 h2;by_cases hq:q x=aF
   ·simp[hq,hpq x hq];omega
   ·simp[hq];omega
def cnt(ops:Array Oper)(listed:Array Bool):Nat:=(aY ops.size).countP fun j=>!listed.getD j aF
theorem anJ{ops:Array Oper}{listed:Array Bool}{i:Nat}(hi:i<ops.size)(hu:listed.getD i aF=aA):cnt ops (listed.setIfInBounds i aF)<cnt ops listed:=by
 have hs:i<listed.size:=by
  rcases pK i listed.size with h|h
  ·exact h
  ·simp[Array.getElem?_eq_none h] at hu
 refine aa1 (i:=i) (fun x hx=>?_) (dD.2 hi) (by rw[hu];rfl) (by simp[hs]);by_cases hxi:i=x
 ·subst hxi;rw[hu];rfl
 ·rw[getD_set_ne aF hxi] at hx;exact hx
theorem X5{unl:List Nat}:∀{hp:List (Nat×SB)} {id:Nat} {sb:SB},AA (MI hp unl) id=ay sb->unl.contains id=aA
 |[],_,_,h=>by simp[MI,AA] at h |(j,x)::l,id,sb,h=>by
  unfold MI at h;cases hu:unl.contains j<;>simp only[hu,cond_true,cond_false] at h
  ·simp only[AA] at h
   cases hj:(j==id)<;>simp only[hj,cond_true,cond_false] at h
   ·exact X5 h
   ·obtain rfl:j=id:=by simpa using hj
    exact hu
  ·exact X5 h
theorem U7{unl:List Nat}:∀{hp:List (Nat×SB)} {id:Nat} {sb:SB},AA (MI hp unl) id=ay sb->AA hp id=ay sb
 |[],_,_,h=>h |(j,x)::l,id,sb,h=>by
  have hn:=X5 h;unfold MI at h;cases hu:unl.contains j<;>simp only[hu,cond_true,cond_false] at h
  ·simp only[AA] at h ⊢
   cases hj:(j==id)<;>simp only[hj,cond_true,cond_false] at h ⊢
   ·exact U7 h
   ·exact h
  ·have h:=U7 h
   simp only[AA];cases hj:(j==id)<;>simp only[cond_true,cond_false]
   ·exact h
   ·obtain rfl:j=id:=by simpa using hj
    rw[hn] at hu;cases hu
structure Rg(C:Ctx)(K:Kx)(BM:Array Oper)(base JI:Nat)(lock:List (Nat×SB))(H0:Mem)(E0:Env)(w0:World)(c0:Core)(H:Mem)(E:Env)(w:World)(c:Core)(a:Act)(listed:Array Bool)(Iq:List SV):Prop where
 st:St C K H E w c a
 nx:c.nx=0
 lim:c.lim=0
 free:∀j,j<BM.size->listed.getD j aF=aA->∀id,base+JI*j<=id->id<base+JI*(j+1)->E id=aN
 akF:AV H0 E0 Iq a.tmps.toList
 ch:Ch K H0 E0 w0 c0.hp c0.tc H E w c.hp c.tc (fun i=>base<=i/\i<base+JI*BM.size)
 lk:∀id sb b,AA lock id=ay sb->Bv E0 id sb=ay b->H b≠aN\/∃sb',AA c.hp id=ay sb'/\Bv E id sb'=ay b
 agr:UR H0 E0 lock w0 w
 on:H0.on w
def Still(H0:Mem)(E0:Env)(lock:List (Nat×SB))(w0:World)(w':World):Prop:=UR H0 E0 lock w0 w'/\H0.on w'
variable{BM:Array Oper}{base JI:Nat}{lock:List (Nat×SB)}{H0:Mem}{E0:Env}{w0:World}{c0:Core}{c:Core}{a:Act}{listed:Array Bool}{Iq:List SV}
theorem ae5(hC:BL P C)(hH0:AZ K H0 E0 w0 lock)(hg0:Dt C.gls H0)(r:Rg C K BM base JI lock H0 E0 w0 c0 H E w c a listed Iq){i j:Nat}{bs:List Bool}{v v0:SV}
  (h:TJ C BM lock listed Iq c i=.take j bs v v0) (hb:∀b∈bs,b=aF) :
  j=i/\∃o u,BM[i]?=ay o/\kY .any BM listed i=aF/\YieldsIf P BM (Still H0 E0 lock w0) o u a/\Den H E v u/\Den H0 E0 v0 u:=by
 unfold TJ at h;have hop:opAt BM.toList i=BM[i]?:=by simp[opAt]
 rw[hop] at h;simp only[adC] at h;split at h
 ·cases h
 ·rename_i o hi
  have hs:=Hy (ops:=BM) r.st.den o;split at h
  ·cases h
  ·rename_i hw
   rw[hw] at hs;cases hf:kY .any BM listed i<;>simp only[hf,cond_true,cond_false] at h
   ·cases h
   cases h;exact ⟨rfl,o,undef,hi,rfl,.inr ⟨hs,rfl⟩,ae3,ae3⟩
  ·rename_i hw
   rw[hw] at hs;cases hq:(Dx o.op&&kY .any BM listed i)<;>simp only[hq,cond_true,cond_false] at h
   ·cases h
   simp only[aJ] at hq;split at h
   ·rename_i bs' v' hl
    cases h;have hall:=ND (ae4 hl) hb;obtain ⟨p,u,h1,h2,h3,h4⟩:=agj (c:={c with tm:=Iq,hp:=lock}) (w:=w0) hC r.akF hH0 hg0 hq.1 hall
    subst h1;exact ⟨rfl,o,u,hi,hq.2,.inl ⟨hs,fun w' hw'=>h4 w' hw'.1 hw'.2⟩,h3.le r.ch.I7 r.ch.MK,h3⟩
   ·cases hp:KT c.tm o.op<;>simp only[hp,cond_true,cond_false] at h
    ·cases h
    split at h
    ·rename_i bs' v' hl
     cases h;have hall:=ND hl hb;obtain ⟨p,u,h1,h2,h3,h4⟩:=aiU hC r.st.den r.st.hp r.st.gl hp hall;subst h1;exact ⟨rfl,o,u,hi,hq.2,.inl ⟨hs,fun w' _=>h4 w'⟩,h3,trivial⟩
    ·cases h
  ·cases h
theorem agD(hC:BL P C)(r:Rg C K BM base JI lock H0 E0 w0 c0 H E w c a listed Iq){i d:Nat}{t:Bool}(h:TJ C BM lock listed Iq c i=.ask d t):c.tm.getD d .any=.test t:=by
 unfold TJ at h;have hop:opAt BM.toList i=BM[i]?:=by simp[opAt]
 rw[hop] at h;simp only[adC] at h;split at h
 ·cases h
 ·rename_i o hi
  have hs:=Hy (ops:=BM) r.st.den o;split at h
  ·rename_i d' t' b' hw
   rw[hw] at hs;cases h;exact hs.1
  ·cases hf:kY .any BM listed i<;>simp only[hf,cond_true,cond_false] at h
   ·cases h
   ·cases h
  ·cases hq:(Dx o.op&&kY .any BM listed i)<;>simp only[hq,cond_true,cond_false] at h
   ·cases h
   split at h
   ·cases h
   ·cases hp:KT c.tm o.op<;>simp only[hp,cond_true,cond_false] at h
    ·cases h
    split at h
    ·cases h
    ·cases h
  ·cases h
theorem Rg.take(r:Rg C K BM base JI lock H0 E0 w0 c0 H E w c a listed Iq){i:Nat}{d:Option Nat}{u:Value}{v v0:SV}(h1:Den H E v u)(h0:Den H0 E0 v0 u):
  Rg C K BM base JI lock H0 E0 w0 c0 H E w (c.put d v) (a.put d u) (listed.setIfInBounds i aF) (Q9 Iq d v0):=by
 refine ⟨r.st.put d h1,r.nx,r.lim,fun j hj hu=>r.free j hj ?_,?_,r.ch,r.lk,r.agr,r.on⟩
 ·by_cases hij:i=j
  ·subst hij
   cases hx:listed.getD i aF with
   |false=>rfl |true=>
    rcases pK i listed.size with h|h
    ·simp[h] at hu
    ·simp at hu
  ·rw[getD_set_ne aF hij] at hu;exact hu
 ·have:=JX (c:={c with tm:=Iq}) (a:=a) r.akF d h0
  exact this
theorem Rg.know(r:Rg C K BM base JI lock H0 E0 w0 c0 H E w c a listed Iq){d:Nat}{b:Bool}(hd:c.tm.getD d .any=.test b):
  Rg C K BM base JI lock H0 E0 w0 c0 H E w (c.put (ay d) (.bool b)) a listed (Iq.set d (.bool b)):=by
 refine ⟨r.st.know hd,r.nx,r.lim,r.free,?_,r.ch,r.lk,r.agr,r.on⟩;obtain ⟨v,e1,e2⟩:=TN r.st.den hd (by simp);have e2:v=.bool b:=e2;subst e2;have h2:=r.akF.set d (s:=.bool b) (v:=.bool b) rfl;have h3:a.tmps.toList.set d (.bool b)=a.tmps.toList:=by
  rw[<-dX] at e1;apply lM;intro j;by_cases hj:d=j
  ·subst hj
   have:d<a.tmps.toList.length:=(aQ.1 e1).1;rw[rC this,e1]
  ·rw[rX hj]
 rw[h3] at h2;exact h2
theorem agE{i j:Nat}(hij:(listed.setIfInBounds i aF).getD j aF=aA):j≠i/\listed.getD j aF=aA:=by
 by_cases h:i=j
 ·subst h
  rcases pK i listed.size with h|h
  ·simp[h] at hij
  ·simp at hij
 ·rw[getD_set_ne aF h] at hij
  exact ⟨fun e=>h e.symm,hij⟩
theorem Rg.step(hl0:∀id sb,AA lock id=ay sb->AA c0.hp id=ay sb)(r:Rg C K BM base JI lock H0 E0 w0 c0 H E w c a listed Iq){i:Nat}(hi:i<BM.size){c':Core}{a':Act}{u:Value}
  (st':St C K H' E' w' c' a') (mv:Mv K H E w {c with tc:=[],nx:=base+JI*i,lim:=base+JI*(i+1)} H' E' w' c') (ha:a'=a.put ((BM[i]?).bind (·.dst)) u)
  (hdj:disjoint c'.tc lock=aF) :
  Rg C K BM base JI lock H0 E0 w0 c0 H' E' w' {c' with tc:=c'.tc++c.tc,nx:=c.nx,lim:=c.lim} a' (listed.setIfInBounds i aF) (Q9 Iq ((BM[i]?).bind (·.dst)) .any):=by
 have hch:=mv.ch;have hnx1:base+JI*i<=c'.nx:=mv.nx;have hlim:c'.nx<=base+JI*(i+1):=by
  have h1:c'.nx<=base+JI*(i+1)\/c'.nx=base+JI*i:=mv.lim;rcases h1 with h1|h1
  ·exact h1
  ·rw[h1,Nat.mul_add];omega
 have avT:∀id∈c'.tc,AA lock id=aN:=fun id hid=>by
  have:=List.all_eq_true.1 hdj id hid;cases h:AA lock id with
  |none=>rfl |some x=>rw[h] at this;cases this
 have hge:∀i',i'<BM.size->base+JI*(i'+1)<=base+JI*BM.size:=fun i' h=>tN (kT _ h) _;have hkeep:∀b,H b≠aN->w'.heap[b]?=w.heap[b]?:=fun b hb=>by
  cases h:H b with
  |none=>exact (hb h).elim |some o=>rw[st'.Cm.on b o (mv.I7 b o h),r.st.Cm.on b o h]
 have hother:∀id sb b,AA lock id=ay sb->Bv E0 id sb=ay b->w'.heap[b]?=w.heap[b]?/\(H' b≠aN\/∃sb',AA c'.hp id=ay sb'/\Bv E' id sb'=ay b):=fun id sb b h1 h2=>by
  rcases r.lk id sb b h1 h2 with h|⟨sb',h3,h4⟩
  ·refine ⟨hkeep b h,.inl ?_⟩
   cases hb:H b with
   |none=>exact (h hb).elim |some o=>rw[mv.I7 b o hb];simp
  ·have hnot:id ∉ c'.tc:=fun hid=>by rw[avT id hid] at h1;cases h1
   refine ⟨mv.fr b ((r.st.hp.ent _ _ h3).lt h4).1 fun id' Uz e=>?_,mv.keep id sb' b h3 hnot h4⟩;rcases mv.ZW id' Uz with h5|h5|⟨WB,h5,h6⟩
   ·cases h5
   ·simp[bk,h5] at e
   ·have:=r.st.hp.Gu _ _ _ _ _ h3 h5 h4 (h6.trans e)
    subst this;exact hnot Uz
 refine ⟨⟨st'.den,st'.hp,st'.Cm,?_,st'.gl,st'.defers⟩,r.nx,r.lim,fun j hj hu id h1 h2=>?_,?_,r.ch.trans ((hch.add c.tc).mono fun k hk=>?_),fun id sb b h1 h2=>(hother id sb b h1 h2).2,fun b hb=>?_,fun b o hb=>?_⟩
 ·intro k h1 h2
  have h1:c.nx<=k:=h1;have h2:k<c.lim:=h2;have:=r.nx;have:=r.lim;omega
 ·obtain ⟨hji,hu⟩:=agE hu
  have h0:=r.free j hj hu id h1 h2;cases he:E' id with
  |none=>rfl |some v=>
   have:=hch.new id h0 (by rw[he];simp);simp only at this;have q1:=this.1;have q2:=this.2;rcases Nat.lt_or_gt_of_ne hji with q|q
   ·have:JI*(j+1)<=JI*i:=kT _ q
    omega
   ·have:JI*(i+1)<=JI*j:=kT _ q
    omega
 ·subst ha
  exact JX (c:={c with tm:=Iq}) (a:=a) r.akF _ trivial
 ·simp only at hk
  have:=hge i hi;have h0:base<=base+JI*i:=jd _ _;exact ⟨by omega,by omega⟩
 ·rcases hb with hb|⟨id,sb,h1,h2⟩
  ·have hH:H b≠aN:=by
    cases h:H0 b with
    |none=>exact (hb h).elim |some o=>rw[r.ch.I7 b o h];simp
   rw[hkeep b hH];exact r.agr b (.inl hb)
  ·rw[(hother id sb b h1 h2).1]
   exact r.agr b (.inr ⟨id,sb,h1,h2⟩)
 ·exact st'.Cm.on b o (mv.I7 b o (r.ch.I7 b o hb))
theorem Le{call:Nat->List SV->Core->Tree (SV×Core)}(hC:BL P C)(hF:Cb P C)(hK:Ib P C K call)(hH0:AZ K H0 E0 w0 lock)(hg0:Dt C.gls H0)
  (hl0:∀id sb,AA lock id=ay sb->AA c0.hp id=ay sb) (hns:uM BM=aF) {R:Act->World->Prop} {φ:Core->Prop}
  (hfin:∀H E w c a listed Iq,Rg C K BM base JI lock H0 E0 w0 c0 H E w c a listed Iq->φ c->R a w) :
  ∀(n:Nat) (listed:Array Bool) (Iq:List SV) (c:Core) (H:Mem) (E:Env) (w:World) (a:Act) (m:Nat),Rg C K BM base JI lock H0 E0 w0 c0 H E w c a listed Iq->cnt BM listed<=m->
   (explore C call base JI BM lock n listed Iq c).All φ->wpAnyH P .any BM (fun e a w=>e=.normal/\R a w) (Still H0 E0 lock w0) m listed a w
 |0,_,_,_,_,_,_,_,_,_,_,h=>h.elim |n+1,listed,Iq,c,H,E,w,a,m,r,hm,h=>by
  unfold explore at h;simp only[aiI] at h;split at h
  ·rename_i hr
   exact wpAnyH_done hr ⟨rfl,hfin H E w c a listed Iq r h⟩ m
  ·rename_i hne
   have hrange:∀i,i∈kP .any BM listed->i<BM.size/\listed.getD i aF=aA:=fun i hi=>by
    have h0:=(mem_ready.1 hi).1;refine ⟨?_,h0⟩;unfold kP at hi;exact dD.1 (List.mem_filter.1 hi).1
   have hdec:∀i,i∈kP .any BM listed->∃m',m=m'+1/\cnt BM (listed.setIfInBounds i aF)<=m':=fun i hi=>by
    have:=anJ (hrange i hi).1 (hrange i hi).2;exact ⟨m - 1,by omega,by omega⟩
   split at h
   ·rename_i j bs v v0 hq
    obtain ⟨i,hi,hq1⟩:=Qq hq (by simp);obtain ⟨hb,h⟩:=aaZ h;obtain ⟨rfl,o,u,ho,hf,hy,hd,hd0⟩:=ae5 hC hH0 hg0 r hq1 hb;obtain ⟨m',rfl,hm'⟩:=hdec j hi;have hop:(opAt BM.toList j).bind (·.dst)=o.dst:=by simp[opAt,ho]
    rw[hop] at h;refine wpAnyH_take ho hns hf (by simpa using hi) (fun c a w hh=>by cases hh.1) hy ⟨r.agr,r.on⟩ ?_;exact Le hC hF hK hH0 hg0 hl0 hns hfin n _ _ _ H E w _ m' (r.take hd hd0) hm' h
   ·rename_i d t hq
    obtain ⟨i,hi,hq1⟩:=Qq hq (by simp);have ht:=agD hC r hq1;cases t with
    |true=>exact Le hC hF hK hH0 hg0 hl0 hns hfin n _ _ _ H E w a m (r.know ht) hm (h.1 rfl) |false=>exact Le hC hF hK hH0 hg0 hl0 hns hfin n _ _ _ H E w a m (r.know ht) hm (h.2 rfl)
   ·rename_i hq
    have hall:=aa0 h;obtain ⟨i0,hi0⟩:∃i0,i0∈kP .any BM listed:=by
     cases hr:kP .any BM listed with
     |nil=>exact (hne hr).elim |cons x xs=>exact ⟨x,cO ..⟩
    obtain ⟨m',rfl,_⟩:=hdec i0 hi0;refine wpAnyH_all rfl (fun hr=>hne hr) fun i hi=>?_
    obtain ⟨m'',azc,hc⟩:=hdec i hi;have hmm:m''=m':=by omega
    subst hmm;have hi':=hrange i hi;have st1:St C K H E w {c with tc:=[],nx:=base+JI*i,lim:=base+JI*(i+1)} a:=
     ⟨r.st.den,r.st.hp,r.st.Cm,fun k h1 h2=>r.free i hi'.1 hi'.2 k h1 h2,r.st.gl,r.st.defers⟩
    refine U6 hC hF hK st1 (Tree.Eb (hall i hi)) _ _ fun c' a' H' E' w' e1 e2 e3 e4=>?_
    obtain ⟨u,e4⟩:=e4;cases hdj:disjoint c'.tc lock<;>simp only[hdj,cond_true,cond_false] at e1
    ·exact e1.elim
    have hop:opAt BM.toList i=BM[i]?:=by simp[opAt]
    rw[hop] at e1;have r':=r.step hl0 hi'.1 e2 e3 e4 hdj;exact ⟨⟨r'.agr,r'.on⟩,Le hC hF hK hH0 hg0 hl0 hns hfin n _ _ _ H' E' w' a' m'' r' hc e1⟩
theorem St.sameHeap{c:Core}{a:Act}(st:St C K H E w c a)(h1:w'.heap=w.heap)(h2:w'.os=w.os)(h3:w'.tape=w.tape)(h4:w'.output=w.output):St C K H E w' c a:=
 ⟨st.den,⟨fun id sb hl=>(st.hp.ent id sb hl).kept (fun _ _ e=>e) (fun _ _ e=>e) (fun b _=>by rw[h1]) fun b hb=>((st.hp.ent id sb hl).lt hb).2.1,st.hp.Gu⟩,
  ⟨h2.trans st.Cm.os,h3.trans st.Cm.tape,h4.trans st.Cm.output,by rw[h1];exact st.Cm.size,fun b hb hn=>by rw[h1];exact st.Cm.kept b hb hn,fun b o hb=>by rw[h1];exact st.Cm.on b o hb,st.Cm.le,st.Cm.fresh⟩,
  st.free,st.gl,st.defers⟩
theorem ae6{c c':Core}(h:Mv K H E w c H' E' w' c')(h1:w.heap=w''.heap):Mv K H E w'' c H' E' w' c':=by
 obtain ⟨a1,a2,a3,a4,a5,a6,a7,a8,a9,a10,a11,a12,a13,a14,a15,a16⟩:=h;exact ⟨a1,a2,a3,a4,a5,a6,a7,a8,a9,a10,by rw[<-h1];exact a11,by rw[<-h1];exact a12,by rw[<-h1];exact a13,a14,a15,a16⟩
theorem BQ.Et:∀{l l':List BQ},dI (l++l')->dI l/\dI l'
 |[],_,h=>⟨trivial,h⟩ |_::_,_,h=>⟨⟨h.1,(BQ.Et h.2).1⟩,(BQ.Et h.2).2⟩
theorem BX{a b:Option (List BQ)}{l:List BQ}(h:Fh a b=ay l):∃x y,a=ay x/\b=ay y/\l=x++y:=by
 unfold Fh at h;split at h
 ·cases h;exact ⟨_,_,rfl,rfl,rfl⟩
 ·cases h
theorem Bz{c:Bool}{a:Option (List BQ)}{l:List BQ}(h:Dp c a=ay l):c=aF/\a=ay l:=by
 cases c
 ·cases h
 ·exact ⟨rfl,h⟩
theorem anK{s s':Sh}{q:List BQ}(h:anf s s'=ay q)(ha:dI q):s=s':=by
 unfold anf at h;split at h
 ·obtain ⟨h1,h2⟩:=Bz h
  simp only[aJ,beq_iff_eq] at h1;obtain ⟨rfl,rfl⟩:=h1;rfl
 ·cases h
  exact ha.1
mutual
theorem Pv:∀{x y:SV} {q:List BQ},YV x y=ay q->dI q->x=y
 |x,y,q,h,ha=>by
  unfold YV at h;split at h;all_goals first
   |(cases h;done)
   |(cases h;rfl)
   |(obtain ⟨h1,h2⟩:=Bz h;simp only[aJ,beq_iff_eq] at h1;obtain ⟨rfl,rfl⟩:=h1;rfl)
   |(obtain ⟨h1,h2⟩:=Bz h;simp only[beq_iff_eq] at h1;subst h1;cases h2;rfl)
   |skip
  case h_3=>obtain ⟨h1,h2⟩:=Bz h;simp only[beq_iff_eq] at h1;subst h1;cases h2;rw[ha.1]
  case h_5=>cases h;rw[ha.1]
  case h_7=>cases h;rw[ha.1]
  case h_10=>obtain ⟨h1,h2⟩:=Bz h;simp only[aJ,beq_iff_eq] at h1;obtain ⟨⟨rfl,rfl⟩,rfl⟩:=h1;cases h2;rw[ha.1]
  case h_11=>obtain ⟨h1,h2⟩:=Bz h;simp only[aJ,beq_iff_eq] at h1;obtain ⟨rfl,rfl⟩:=h1;cases h2;rw[ha.1,ha.2.1,ha.2.2.1]
  case h_17=>obtain ⟨h1,h2⟩:=Bz h;simp only[beq_iff_eq] at h1;subst h1;rw[JF h2 ha]
  case h_18=>rw[JF h ha]
  case h_19=>rw[JF h ha]
  case h_20=>obtain ⟨h1,h2⟩:=Bz h;simp only[beq_iff_eq] at h1;subst h1;rw[Pv h2 ha]
  case h_24=>rw[anK h ha]
theorem JF:∀{l m:List SV} {q:List BQ},LJ l m=ay q->dI q->l=m
 |[],[],_,_,_=>rfl |x::l,y::m,q,h,ha=>by
  simp only[LJ] at h;obtain ⟨a,b,h1,h2,rfl⟩:=BX h;rw[Pv h1 (BQ.Et ha).1,JF h2 (BQ.Et ha).2]
 |[],_::_,_,h,_=>by simp[LJ] at h |_::_,[],_,h,_=>by simp[LJ] at h
end
theorem adM:∀{l m:List (SV×SV)} {q:List BQ},XP l m=ay q->dI q->l=m
 |[],[],_,_,_=>rfl |(a,b)::l,(c,d)::m,q,h,ha=>by
  simp only[XP] at h;obtain ⟨q1,q2,h1,h2,rfl⟩:=BX h;obtain ⟨q3,q4,h3,h4,rfl⟩:=BX h2;obtain ⟨a1,a2⟩:=BQ.Et ha;obtain ⟨a3,a4⟩:=BQ.Et a2;rw[Pv h1 a1,Pv h3 a3,adM h4 a4]
 |[],_::_,_,h,_=>by simp[XP] at h |_::_,[],_,h,_=>by simp[XP] at h
theorem aa2:∀{l m:List (Int×Bool×SV)} {q:List BQ},aaH l m=ay q->dI q->l=m
 |[],[],_,_,_=>rfl |(a,p,b)::l,(c,r,d)::m,q,h,ha=>by
  simp only[aaH] at h;obtain ⟨h0,h⟩:=Bz h;obtain ⟨q1,q2,h1,h2,rfl⟩:=BX h;obtain ⟨q3,q4,h3,h4,rfl⟩:=BX h2;obtain ⟨a1,a2⟩:=BQ.Et ha;obtain ⟨a3,a4⟩:=BQ.Et a2;cases h1;have h0:p=r:=by simpa using h0
  rw[h0,a1.1,Pv h3 a3,aa2 h4 a4]
 |[],_::_,_,h,_=>by simp[aaH] at h |_::_,[],_,h,_=>by simp[aaH] at h
theorem agF:∀{l m:List (Ea×Bool×SV)} {q:List BQ},adD l m=ay q->dI q->l=m
 |[],[],_,_,_=>rfl |((a,s),p,b)::l,((c,t),r,d)::m,q,h,ha=>by
  simp only[adD] at h;obtain ⟨h0,h⟩:=Bz h;obtain ⟨q1,q2,h1,h2,rfl⟩:=BX h;obtain ⟨q3,q4,h3,h4,rfl⟩:=BX h2;obtain ⟨a1,a2⟩:=BQ.Et ha;obtain ⟨a3,a4⟩:=BQ.Et a2;cases h1;have h0:p=r:=by simpa using h0
  have e1:a=c:=a1.1;have e2:s=t:=a1.2.1;rw[h0,e1,e2,Pv h3 a3,agF h4 a4]
 |[],_::_,_,h,_=>by simp[adD] at h |_::_,[],_,h,_=>by simp[adD] at h
theorem alW{x y:Option (Nat×Int)}{q:List BQ}(h:aiJ x y=ay q)(ha:dI q):x=y:=by
 unfold aiJ at h;split at h
 ·rfl
 ·obtain ⟨h1,h2⟩:=Bz h
  cases h2;have h1:=by simpa using h1
  rw[h1,ha.1]
 ·cases h
theorem anL{x y:SB}{q:List BQ}(h:ang x y=ay q)(ha:dI q):x=y:=by
 unfold ang at h;split at h
 ·obtain ⟨h1,h2⟩:=Bz h
  have h1:=by simpa using h1
  rw[h1,JF h2 ha]
 ·obtain ⟨h1,h2⟩:=Bz h
  simp only[aJ,beq_iff_eq] at h1;rw[h1.1.1,h1.1.2,h1.2,JF h2 ha]
 ·obtain ⟨h1,h2⟩:=Bz h
  simp only[aJ,beq_iff_eq] at h1;cases h2;rw[h1.1,h1.2,ha.1,ha.2.1]
 ·obtain ⟨h1,h2⟩:=Bz h
  have h1:=by simpa using h1
  cases h2;rw[h1,ha.1,ha.2.1]
 ·rw[adM h ha]
 ·cases h
  have:=ha.1;simp only[BQ.ok,Sh.pt.injEq] at this;rw[this]
 ·obtain ⟨h1,h2⟩:=Bz h
  simp only[aJ,beq_iff_eq] at h1;obtain ⟨q1,q2,h3,h4,rfl⟩:=BX h2;cases h3;obtain ⟨a1,a2⟩:=BQ.Et ha;rw[h1.1,h1.2,a1.1,a1.2.1,JF h4 a2]
 ·obtain ⟨h1,h2⟩:=Bz h
  have h1:=by simpa using h1
  cases h2;rw[h1,ha.1]
 ·obtain ⟨h1,h2⟩:=Bz h
  have h1:=by simpa using h1
  obtain ⟨q1,q2,h3,h4,rfl⟩:=BX h2;obtain ⟨q3,q4,h5,h6,rfl⟩:=BX h4;obtain ⟨q5,q6,h7,h8,rfl⟩:=BX h6;cases h3;obtain ⟨a1,a2⟩:=BQ.Et ha;obtain ⟨a3,a4⟩:=BQ.Et a2;obtain ⟨a5,a6⟩:=BQ.Et a4;rw[h1,a1.1,aa2 h5 a3,aa2 h7 a5,alW h8 a6]
 ·obtain ⟨h1,h2⟩:=Bz h
  have h1:=by simpa using h1
  obtain ⟨q1,q2,h3,h4,rfl⟩:=BX h2;cases h3;obtain ⟨a1,a2⟩:=BQ.Et ha;rw[h1,show _=_ from a1.1,agF h4 a2]
 ·cases h
theorem agG:∀{l m:List (Nat×SB)} {q:List BQ},adE l m=ay q->dI q->l=m
 |[],[],_,_,_=>rfl |(i,a)::l,(j,b)::m,q,h,ha=>by
  simp only[adE] at h;obtain ⟨h0,h⟩:=Bz h;obtain ⟨q1,q2,h1,h2,rfl⟩:=BX h;have h0:=by simpa using h0
  rw[h0,anL h1 (BQ.Et ha).1,agG h2 (BQ.Et ha).2]
 |[],_::_,_,h,_=>by simp[adE] at h |_::_,[],_,h,_=>by simp[adE] at h
theorem ai7{a b:Core}{q:List BQ}(h:aeQ a b=ay q)(ha:dI q):a=b:=by
 unfold aeQ at h;obtain ⟨h0,h⟩:=Bz h;obtain ⟨q1,q2,h1,h2,rfl⟩:=BX h;simp only[aJ,beq_iff_eq] at h0;obtain ⟨⟨h3,h4⟩,h5⟩:=h0;obtain ⟨t,hp,nx,lim,tc⟩:=a;obtain ⟨t',hp',nx',lim',tc'⟩:=b;simp only at h1 h2 h3 h4 h5;rw[JF h1 (BQ.Et ha).1,agG h2 (BQ.Et ha).2,h3,h4,h5]
def Ob.ok:Ob->Prop
 | .b x=>x=aF | .e l=>dI l
theorem Qr{α:Type}{φ:α->Prop}:∀{t:Tree α} {o:List Ob} {a:α},strip t=ay (o,a)->(∀x∈o,x.ok)->φ a->t.All φ
 | .leaf _,o,a,h,_,hφ=>by simp[strip] at h;rw[h.2];exact hφ | .need b t,o,a,h,ho,hφ=>by
  simp only[strip,bW,jU] at h;obtain ⟨⟨o',a'⟩,h1,rfl,rfl⟩:=h;exact ⟨ho _ (cO ..),Qr h1 (fun x hx=>ho x (dB _ hx)) hφ⟩
 | .must l t,o,a,h,ho,hφ=>by
  simp only[strip,bW,jU] at h;obtain ⟨⟨o',a'⟩,h1,rfl,rfl⟩:=h;exact ⟨ho _ (cO ..),Qr h1 (fun x hx=>ho x (dB _ hx)) hφ⟩
 | .node _ _ _,_,_,h,_,_=>by simp[strip] at h | .both _ _,_,_,h,_,_=>by simp[strip] at h | .fail,_,_,h,_,_=>by simp[strip] at h
theorem X6{α:Type}{φ:α->Prop}{t:Tree α}:∀{o:List Ob},(wrap t o).All φ->(∀x∈o,x.ok)/\t.All φ
 |[],h=>⟨fun _ h=>(by cases h),h⟩ | .b x::r,h=>by
  obtain ⟨h1,h2⟩:=h;obtain ⟨h3,h4⟩:=X6 h2;refine ⟨fun y hy=>?_,h4⟩;cases hy with
  |head=>exact h1 |tail _ hy=>exact h3 y hy
 | .e l::r,h=>by
  obtain ⟨h1,h2⟩:=h;obtain ⟨h3,h4⟩:=X6 h2;refine ⟨fun y hy=>?_,h4⟩;cases hy with
  |head=>exact h1 |tail _ hy=>exact h3 y hy
theorem ai8{α:Type}{φ:α->Prop}{t:Tree α}{l:List BQ}(h:(XQ l t).All φ):dI l/\t.All φ:=by
 unfold XQ at h;split at h
 ·exact ⟨trivial,h⟩
 ·exact h
theorem agH{t f:Tree Core}{φ:Core->Prop}(h:(aai t f).All φ):t.All φ/\f.All φ:=by
 unfold aai at h;split at h
 ·rename_i o a q b h1 h2
  split at h
  ·rename_i l he
   obtain ⟨h3,h4⟩:=X6 h;obtain ⟨h5,h6⟩:=ai8 h4;have:=ai7 he h5;subst this;exact ⟨Qr h1 (fun x hx=>h3 x (bK.2 (.inl hx))) h6,Qr h2 (fun x hx=>h3 x (bK.2 (.inr hx))) h6⟩
  ·exact h
 ·exact h
theorem Jm{φ:Core->Prop}:∀{t:Tree Core},(merge t).All φ->t.All φ
 | .leaf _,h=>h | .fail,h=>h | .need _ t,h=>⟨h.1,Jm h.2⟩ | .must _ t,h=>⟨h.1,Jm h.2⟩ | .node _ t f,h=>⟨fun e=>Jm (h.1 e),fun e=>Jm (h.2 e)⟩ | .both t f,h=>by
  have:=agH (show (aai (merge t) (merge f)).All φ from h);exact ⟨Jm this.1,Jm this.2⟩
theorem Zg:∀{m:Nat} {l:List SV} {vs:List Value},AV H E l vs->AV H E (aaj m l) vs
 |_,[],_,h=>h |m,x::l,v::vs,⟨h1,h2⟩=>by
  simp only[aaj];refine ⟨?_,Zg h2⟩;cases fC (m % 2) 1
  ·trivial
  ·exact h1
 |_,_::_,[],h=>h.elim
theorem aa3{g:Nat}{l:List SV}{vs:List Value}(h:AV H E l vs):AV H E (Nu C g l) vs:=by
 unfold Nu;split
 ·exact Zg h
 ·exact h
theorem adN{i j:Nat}:∀{l:List Nat},i∈af4 j l↔i=j\/i∈l
 |[]=>by simp[af4] |k::l=>by
  unfold af4;cases h1:(j==k)<;>simp only[cond_true,cond_false]
  ·cases h2:fZ j k<;>simp only[cond_true,cond_false]
   ·simp only[List.mem_cons,adN (l:=l)]
    constructor
    ·rintro (h|h|h)<;>simp[h]
    ·rintro (h|h|h)<;>simp[h]
   ·simp
  ·obtain rfl:j=k:=by simpa using h1
   simp
theorem aa4{i:Nat}:∀{l:List Nat},i∈RH l↔i∈l
 |[]=>by simp[RH] |j::l=>by simp[RH,adN,aa4 (l:=l)]
theorem Ch.avU{hp hp':List (Nat×SB)}{tc tc' X3:List Nat}{N:Nat->Prop}(h:Ch K H E w hp tc H' E' w' hp' tc' N)(he:∀i,i∈X3↔i∈tc'):Ch K H E w hp tc H' E' w' hp' X3 N:=
 {h with
  tc:=fun id hid=>(he id).2 (h.tc id hid)
  fr:=fun b hb hne=>h.fr b hb fun id hid=>hne id ((he id).2 hid)
  Oh:=fun i b h1 h2=>(h.Oh i b h1 h2).imp (fun h=>h) fun ⟨id,h3,h4⟩=>⟨id,(he id).2 h3,h4⟩
  ZW:=fun id hid=>h.ZW id ((he id).1 hid)
  keep:=fun id sb b h1 h2 h3=>h.keep id sb b h1 (fun h4=>h2 ((he id).2 h4)) h3}
theorem aa5{call:Nat->List SV->Core->Tree (SV×Core)}(hC:BL P C)(hF:Cb P C)(hK:Ib P C K call){c:Core}{a:Act}{φ:Core->Prop}(st:St C K H E w c a){g:Nat}(h:(drawn C call g BM c).All φ):
  wpAny P .any BM (fun e a' w'=>e=.normal/\∃c' H' E',φ c'/\St C K H' E' w' c' a'/\Mv K H E w c H' E' w' c') BM.size (dY BM.size aA) a {w with drawn:=w.drawn+1}:=by
 unfold drawn at h;simp only at h;generalize hlk:MI c.hp (XR C BM.toList c [])=lock at h;cases hb:(gY (c.nx+JR c BM.size*BM.size) c.lim&&uM BM)<;>simp only[hb,cond_true,cond_false] at h
 ·exact h.elim
 simp only[aJ] at hb;have hle:=fP hb.1;let w1:World:={w with drawn:=w.drawn+1}
 have st1:St C K H E w1 c a:=st.sameHeap rfl rfl rfl rfl;have hlook:∀id sb,AA lock id=ay sb->AA c.hp id=ay sb:=fun id sb hl=>by rw[<-hlk] at hl;exact U7 hl
 have hH0:AZ K H E w1 lock:=⟨fun id sb hl=>st1.hp.ent id sb (hlook id sb hl),fun i j s1 s2 b h1 h2=>st1.hp.Gu i j s1 s2 b (hlook _ _ h1) (hlook _ _ h2)⟩;have hrefl:Ch K H E w1 c.hp c.tc H E w1 c.hp c.tc (fun i=>c.nx<=i/\i<c.nx+JR c BM.size*BM.size):=by
  have:=(pI (c:=c) st1.hp st1.Cm).mv.ch;exact this.mono fun i hi=>by have h2:i<c.nx:=hi.2;exact ⟨hi.1,by omega⟩
 refine wpAny_of_held (S:=Still H E lock w1) _ _ _ _ ?_;refine (Le (c0:=c) (R:=fun a' w'=>∃c' H' E',φ c'/\St C K H' E' w' c' a'/\Mv K H E w c H' E' w' c') (φ:=fun c'=>φ {tm:=Nu C g c'.tm,hp:=c'.hp,nx:=c.nx+JR c BM.size*BM.size,lim:=c.lim,tc:=RH c'.tc}) hC hF hK hH0 st1.gl hlook hb.2 ?_
  (2*BM.size+1) (dY BM.size aA) c.tm {c with nx:=0,lim:=0} H E w1 a BM.size ?_ ?_ (Tree.Eb (Jm h)))
 ·intro H' E' w' c' a' listed Iq r hφ
  have hnew:Free E' {tm:=Nu C g c'.tm,hp:=c'.hp,nx:=c.nx+JR c BM.size*BM.size,lim:=c.lim,tc:=RH c'.tc}:=fun i h1 h2=>by
   have h1:c.nx+JR c BM.size*BM.size<=i:=h1;have h2:i<c.lim:=h2;cases he:E' i with
   |none=>rfl |some v=>
    have:=r.ch.new i (st.free i (by omega) h2) (by rw[he];simp);omega
  refine ⟨_,H',E',hφ,⟨aa3 r.st.den,r.st.hp,r.st.Cm,hnew,r.st.gl,r.st.defers⟩,?_⟩;exact ae6 (Ch.mv (c:=c) (c':={tm:=Nu C g c'.tm,hp:=c'.hp,nx:=c.nx+JR c BM.size*BM.size,lim:=c.lim,tc:=RH c'.tc}) (r.ch.avU fun i=>aa4) (jd _ _) (.inl hle) rfl) rfl
 ·refine ⟨⟨st1.den,st1.hp,st1.Cm,fun i h1 h2=>by simp at h2,st1.gl,st1.defers⟩,rfl,rfl,fun j hj _ id h1 h2=>?_,st1.den,hrefl,fun id sb b h1 h2=>.inr ⟨sb,hlook id sb h1,h2⟩,fun _ _=>rfl,st1.Cm.on⟩
  have:c.nx+JR c BM.size*(j+1)<=c.nx+JR c BM.size*BM.size:=tN (kT _ hj) _;exact st.free id (by omega) (by omega)
 ·unfold cnt
  exact iK (List.countP_le_length) (by simp)
theorem alX{call:Nat->List SV->Core->Tree (SV×Core)}(hC:BL P C)(hF:Cb P C)(hK:Ib P C K call){c:Core}{a:Act}{φ:Core->Prop}{id:Nat}(st:St C K H E w c a){g:Nat}(h:(drawn C call g BM c).All φ):
  (Code.region id BM aF).wp P (fun e a' w'=>e=.normal/\∃c' H' E',φ c'/\St C K H' E' w' c' a'/\Mv K H E w c H' E' w' c') a w:=
 wp_region_any hC.mixed (aa5 hC hF hK st h)
end
section
variable{P:Program}{C:Ctx}{K:Kx}{H H' OL:Mem}{E E' OM:Env}{w w' w'':World}
theorem arw{ops:Array Oper}{i:Nat}{rest:List Nat}{next:Act->World->Prop}{a:Act}(h:wpOp P ops (fun _ _ _=>False) i next a w)(b:Frame)(k:List Item)(cs:List Frame):
  ∃a' w',next a' w'/\Steps P (lone (b.at a (.inRegion ops (i::rest)::k)) cs w) (lone (b.at a' (.inRegion ops rest::k)) cs w'):=by
 unfold wpOp at h;cases ho:ops[i]? with
 |none=>
  simp only[ho] at h;have hs:=step_op_skip (P:=P) (b:=b) (a:=a) (k:=k) (cs:=cs) (w:=w) (ops:=ops) (i:=i) (rest:=rest) (by simp[ho]);simp only[ho,Option.bind_none,uK] at hs;exact ⟨a,w,h,.one hs⟩
 |some o=>
  simp only[ho] at h;by_cases hw:jA o (yielded ops a.tmps)=aF
  ·simp only[hw,if_true] at h
   rcases h with h|⟨_,_,_,hq⟩
   case inr=>exact hq.elim
   simp only[xY] at h;have hg:=stepG_op (P:=P) (b:=b) (k:=k) (cs:=cs) (w:=w) (rest:=rest) ho hw;have hfin:∀v,(b.at a (.inRegion ops (i::rest)::k)).finish v=b.at (a.put o.dst v) (.inRegion ops rest::k):=by
    intro v;rw[mF,ho];rfl
   generalize hr:(execOp a.eval o).run P w=r at h;cases r with
   |ok n w'=>
    cases n<;>simp only[xE] at h
    case value v=>
     refine ⟨_,_,h,.one (step_lone_go ?_)⟩;rw[hg,<-hfin];simp[gX,hr]
    case skip=>
     refine ⟨_,_,h,.one (step_lone_go ?_)⟩;rw[hg,<-hfin];simp[gX,hr]
    case defer d=>
     refine ⟨_,_,h,.one (step_lone_go ?_)⟩;have:({b.at a (.inRegion ops (i::rest)::k) with defers:=d::a.defers}:Frame).finish undef =
       b.at ({a with defers:=d::a.defers}.put o.dst undef) (.inRegion ops rest::k):=by
      have:=mF b {a with defers:=d::a.defers} ops i rest k undef
      rw[ho] at this;exact this
     rw[hg];simp only[gX,Sem.runT_eq,hr,GStep.bare_after];exact congrArg (fun fr=>GStep.go {frame:=fr,callers:=cs,status:=.running,dying:=aN} w') this
    case enter f args=>
     obtain ⟨e,w'',fr,hR,hsteps,_,hleave⟩:=h (b.at a (.inRegion ops (i::rest)::k)::cs);have henter:step P (lone (b.at a (.inRegion ops (i::rest)::k)) cs w) =
       .next (lone (gQ P f args .normal) (b.at a (.inRegion ops (i::rest)::k)::cs) w'):=
      step_lone_go (by rw[hg];simp[gX,hr,Frame.at])
     cases e with
     |returned v=>
      refine ⟨_,_,hR,.head henter (hsteps.trans (.one ?_))⟩;rw[<-hfin];exact step_leave_returned hleave
     |panicked chain=>exact hR.elim |outgrown=>obtain ⟨_,_,hq⟩:=hR;exact hq.elim
    case row row args=>
     obtain ⟨v,w'',hR,hsteps⟩:=h (b.at a (.inRegion ops (i::rest)::k)) cs;have henter:step P (lone (b.at a (.inRegion ops (i::rest)::k)) cs w) =
       .next (lone (Frame.ofRow P row args .normal) (b.at a (.inRegion ops (i::rest)::k)::cs) w'):=
      step_lone_go (by rw[hg];simp[gX,hr,Frame.at])
     refine ⟨_,_,hR,.head henter ?_⟩;rw[<-hfin];exact hsteps
    all_goals exact h.elim
   |halt x w'=>
    cases x<;>simp only[xE] at h
    all_goals exact h.elim
  ·simp only[hw,if_false,Bool.false_eq_true] at h
   have hs:=step_op_skip (P:=P) (b:=b) (a:=a) (k:=k) (cs:=cs) (w:=w) (ops:=ops) (i:=i) (rest:=rest)
    (by simp[ho];simpa using hw)
   simp only[ho,eP] at hs;exact ⟨_,_,h,.one hs⟩
inductive CX(body:Code):List It->List Item->Prop
 |nil:CX body [] []
 |code (p:List Nat) {td:List It} {k:List Item}:CX body td k->CX body (.code p::td) (.code (Bo body p)::k)
 |loop (p:List Nat) (x:Code) {td:List It} {k:List Item}:Bo body p=.loop x->CX body td k->CX body (.code p::td) (.inLoop x::k)
 |inBlock (id:Nat) {td:List It} {k:List Item}:CX body td k->CX body (.inBlock id::td) (.inBlock id::k)
 |XT {td:List It} {k:List Item}:CX body td k->CX body (.XT::td) (.beginRound::k)
 |reg (p:List Nat) (l:List Nat) (id:Nat) (ops:Array Oper) {td:List It} {k:List Item}:Bo body p=.region id ops aA->CX body td k->CX body (.reg p l::td) (.inRegion ops l::k)
theorem agI{body:Code}{id:Nat}:∀{td Gw:List It} {k:List Item},CX body td k->Gj id td=ay Gw->∃k',exitTo id k=ay k'/\CX body Gw k':=by
 intro td Gw k h;induction h with
 |nil=>intro h;simp[Gj] at h |code p _ ih=>intro h;simp only[Gj] at h;obtain ⟨k',h1,h2⟩:=ih h;exact ⟨k',by simpa[exitTo] using h1,h2⟩ |XT _ ih=>intro h;simp only[Gj] at h;obtain ⟨k',h1,h2⟩:=ih h;exact ⟨k',by simpa[exitTo] using h1,h2⟩ |loop p x _ _ ih=>intro h;simp only[Gj] at h;obtain ⟨k',h1,h2⟩:=ih h;exact ⟨k',by simpa[exitTo] using h1,h2⟩ |reg p l id ops _ _ ih=>intro h;simp only[Gj] at h;obtain ⟨k',h1,h2⟩:=ih h;exact ⟨k',by simpa[exitTo] using h1,h2⟩ |inBlock j h0 ih=>
  intro h;simp only[Gj] at h;cases hj:(j==id)<;>simp only[hj,cond_true,cond_false] at h
  ·obtain ⟨k',h1,h2⟩:=ih h
   refine ⟨k',?_,h2⟩;have:j≠id:=by simpa using hj
   simp[exitTo,this,h1]
  ·cases h
   obtain rfl:j=id:=by simpa using hj
   exact ⟨_,by simp[exitTo],h0⟩
def resV(a:Act)(r:ResultVar):Sem Value:=
 match r with
 | .tmp t=>pure (a.tmps.getD t undef) | .cell x t=>do loadVar t (<-asAddr (a.tmps.getD x undef))
theorem adh(fn:Func)(a:Act):results fn a.tmps=(do let vs <-fn.results.mapM (resV a);pure (if h:vs.size=1 then vs[0] else .tuple vs)):=rfl
theorem WI(hC:BL P C){c:Core}{a:Act}(st:St C K H E w c a):∀{rs:List ResultVar} {l:List SV},aaI C c rs=ay l->∃vs:List Value,
  (rs.mapM (resV a)).run P w=.ok vs w/\AV H E l vs
 |[],l,h=>by simp[aaI] at h;subst h;exact ⟨[],by simp,trivial⟩ | .tmp t::rs,l,h=>by
  simp only[aaI] at h;split at h
  ·rename_i sv r h1 h2
   cases h;obtain ⟨vs,e1,e2⟩:=WI hC st h2;obtain ⟨u,h3,h4⟩:=st.den.get h1;refine ⟨u::vs,?_,h4,e2⟩;rw[dX] at h3;have:a.tmps.getD t undef=u:=by simp[Array.getD_eq_getD_getElem?,h3]
   have hv:(resV a (.tmp t)).run P w=.ok u w:=by simp[resV,this]
   simp only[wX,gK,hv,pO,fV,e1]
  ·cases h
 | .cell x t::rs,l,h=>by
  simp only[aaI] at h;split at h
  ·rename_i i r h1 h2
   simp only[bW] at h;obtain ⟨sv,h3,rfl⟩:=h;obtain ⟨vs,e1,e2⟩:=WI hC st h2;have ht:=hC.ty _ _ h1;have dx:=BJ (H:=H) (E:=E) st.den (.tmp x);obtain ⟨ad,cs,q1,q2,q3,q4⟩:=YX (w:=w) dx st.hp st.gl (fun hz=>by
    obtain ⟨_,_,_,_,_,_,_,_,_,h1⟩:=ht.info;exact (h1 hz).1) h3
   refine ⟨Nw i.ty.isAgg cs::vs,?_,q3,e2⟩;have q1:a.tmps.getD x undef=.pointer (ay ad):=q1;have hl:=adG ht q2 (q4 w (UR.refl _ _ _ _) st.Cm.on);have hv:(resV a (.cell x t)).run P w=.ok (Nw i.ty.isAgg cs) w:=by simp[resV,asAddr,q1,hl,Nw]
   simp only[wX,gK,hv,pO,fV,e1]
  ·cases h
theorem aa6(hC:BL P C){c:Core}{a:Act}{fn:Func}{φ:Out->Prop}(st:St C K H E w c a)(h:(result C fn c).All φ):∃sv v,φ (.done sv c)/\Den H E sv v/\(results fn a.tmps).run P w=.ok v w:=by
 have key:∀vs:List Value,(fn.results.toList.mapM (resV a)).run P w=.ok vs w->
   (results fn a.tmps).run P w=.ok (if h:vs.toArray.size=1 then vs.toArray[0] else .tuple vs.toArray) w:=by
  intro vs hv;rw[adh,Array.mapM_eq_mapM_toList];simp only[gK,map_eq_pure_bind,hv,pO,fV]
 unfold result at h;split at h
 ·rename_i sv hs
  obtain ⟨vs,e1,e2⟩:=WI hC st hs;match vs,e2 with
  |[v],⟨e2,_⟩=>
   exact ⟨sv,v,h,e2,by simpa using key [v] e1⟩
 ·rename_i l hne hs
  obtain ⟨vs,e1,e2⟩:=WI hC st hs;refine ⟨_,.tuple vs.toArray,h,⟨vs.toArray,rfl,e2⟩,?_⟩;rw[key vs e1,dif_neg];intro h1;have:=e2.length;simp at h1;match l,hne,(this ▸ h1:l.length=1) with
  |[x],hne,_=>exact hne x rfl
 ·exact h.elim
end
section
variable{P:Program}{C:Ctx}{K:Kx}{H H' OL:Mem}{E E' OM:Env}{w w' w'':World}
def ae7(P:Program)(C:Ctx)(K:Kx)(fn:Func)(g:Nat)(H:Mem)(E:Env)(w:World)(c:Core)(m:Machine)(b:Frame)(cs:List Frame):Out->Prop
 | .done sv c'=>∃(a':Act) (w':World) (H':Mem) (E':Env) (v:Value) (todo:List Item),Steps P m (lone {b.at a' todo with mode:=.returning} cs w')/\St C K H' E' w' c' a'/\Mv K H E w c H' E' w' c'/\
   Den H' E' sv v/\(results fn a'.tmps).run P w'=.ok v w'
 | .stop g' Gw c'=>g'=g/\∃(a':Act) (w':World) (H':Mem) (E':Env) (items':List Item),Steps P m (lone (b.at a' items') cs w')/\St C K H' E' w' c' a'/\Mv K H E w c H' E' w' c'/\CX (AU fn) Gw items'
theorem ae7.of{fn:Func}{g:Nat}{c c1:Core}{m m1:Machine}{b:Frame}{cs:List Frame}{out:Out}(hs:Steps P m m1)(hm:Mv K H E w c H' E' w' c1)(h:ae7 P C K fn g H' E' w' c1 m1 b cs out):
  ae7 P C K fn g H E w c m b cs out:=by
 cases out with
 |done sv c'=>
  obtain ⟨a2,w2,H2,E2,v,todo,h1,h2,h3,h4,h5⟩:=h;exact ⟨a2,w2,H2,E2,v,todo,hs.trans h1,h2,hm.trans h3,h4,h5⟩
 |stop g' Gw c'=>
  obtain ⟨hg,a2,w2,H2,E2,items,h1,h2,h3,h4⟩:=h;exact ⟨hg,a2,w2,H2,E2,items,hs.trans h1,h2,hm.trans h3,h4⟩
def ai9(P:Program)(C:Ctx)(K:Kx)(fn:Func)(H:Mem)(E:Env)(w:World)(c:Core)(m:Machine)(b:Frame)(cs:List Frame):Sig->Prop
 | .done sv c'=>∃(a':Act) (w':World) (H':Mem) (E':Env) (v:Value) (todo:List Item),Steps P m (lone {b.at a' todo with mode:=.returning} cs w')/\St C K H' E' w' c' a'/\Mv K H E w c H' E' w' c'/\
   Den H' E' sv v/\(results fn a'.tmps).run P w'=.ok v w'
 | .go Gw c'=>∃(a':Act) (w':World) (H':Mem) (E':Env) (items':List Item),Steps P m (lone (b.at a' items') cs w')/\St C K H' E' w' c' a'/\Mv K H E w c H' E' w' c'/\CX (AU fn) Gw items' | .halt Gw c'=>∃(a':Act) (w':World) (H':Mem) (E':Env) (items':List Item),Steps P m (lone (b.at a' items') cs w')/\St C K H' E' w' c' a'/\Mv K H E w c H' E' w' c'/\CX (AU fn) Gw items'
theorem St.Nu{c:Core}{a:Act}(st:St C K H E w c a)(g:Nat):St C K H E w {c with tm:=Go.Sx.Nu C g c.tm} a:=
 ⟨aa3 st.den,st.hp,st.Cm,st.free,st.gl,st.defers⟩
theorem X7(hC:BL P C)(hF:Cb P C){call:Nat->List SV->Core->Tree (SV×Core)}(hK:Ib P C K call){top:Bool}{g:Nat}{fn:Func}{td:List It}{c:Core}{a:Act}{items:List Item}{φ:Sig->Prop}
  (h:(RI C call top g fn td c).All φ) (st:St C K H E w c a) (hi:CX (AU fn) td items) (b:Frame) (cs:List Frame) :
  ∃sig,φ sig/\ai9 P C K fn H E w c (lone (b.at a items) cs w) b cs sig:=by
 have LM:Mv K H E w c H E w c:=Jd st rfl rfl rfl rfl;have go:∀{Gw:List It} {c':Core} {H':Mem} {E':Env} {w':World} {a':Act} {items':List Item},φ (.go Gw c')->St C K H' E' w' c' a'->Mv K H E w c H' E' w' c'->CX (AU fn) Gw items'->
   Steps P (lone (b.at a items) cs w) (lone (b.at a' items') cs w')->∃sig,φ sig/\ai9 P C K fn H E w c (lone (b.at a items) cs w) b cs sig:=fun h1 h2 h3 h4 h5=>⟨_,h1,_,_,_,_,_,h5,h2,h3,h4⟩
 have fin:∀(todo:List Item),((result C fn c).bind aeR).All φ->step P (lone (b.at a items) cs w)=.next (lone {b.at a todo with mode:=.returning} cs w)->∃sig,φ sig/\ai9 P C K fn H E w c (lone (b.at a items) cs w) b cs sig:=fun todo hr hs=>by
  obtain ⟨sv,v,h1,h2,h3⟩:=aa6 hC st (Tree.Eb hr);exact ⟨_,h1,a,w,H,E,v,todo,.one hs,st,LM,h2,h3⟩
 unfold RI at h;split at h
 ·cases hi
  exact fin _ h step_end
 ·cases hi with
  |inBlock id hk=>exact go h st LM hk (.one step_inBlock)
 ·exact h.elim
 ·cases hi with
  |reg p l id ops hc hk=>exact go h (st.Nu g) (Jd st rfl rfl rfl rfl) hk (.one step_region_end)
 ·rename_i p i r k
  cases hi with
  |reg p l id ops hc hk=>
   rw[hc] at h;simp only at h;obtain ⟨a',w',h1,h2⟩:=arw (U6 hC hF hK st (Tree.Eb h) (fun a' w'=>∃c' H' E',φ (.go (.reg p r::k) c')/\St C K H' E' w' c' a'/\Mv K H E w c H' E' w' c') (fun _ _ _=>False)
    fun c' a' H' E' w' e1 e2 e3 _=>⟨c',H',E',e1,e2,e3⟩) b _ cs
   obtain ⟨c',H',E',e1,e2,e3⟩:=h1;exact go e1 e2 e3 (.reg p r id ops hc hk) h2
 ·rename_i p k
  have hloop:∀{x:Code},Bo (AU fn) p=x->(∀y,x≠.loop y)->∃k',items=.code x::k'/\CX (AU fn) k k':=fun {x} hx hne=>by
   cases hi with
   |code p hk=>exact ⟨_,by rw[hx],hk⟩ |loop p y hl hk=>exact (hne y (hx.symm.trans hl)).elim
  split at h
  ·rename_i hx
   obtain ⟨k',rfl,hk⟩:=hloop hx (by simp);exact go h st LM hk (.one step_skip)
  ·rename_i hx
   obtain ⟨k',rfl,hk⟩:=hloop hx (by simp);exact fin _ h step_ret
  ·rename_i x y hx
   obtain ⟨k',rfl,hk⟩:=hloop hx (by simp);have h0:Bo (AU fn) (0::p)=x:=by simp[Bo,hx,child]
   have h1:Bo (AU fn) (1::p)=y:=by simp[Bo,hx,child]
   have:=CX.code (0::p) (CX.code (1::p) hk);rw[h0,h1] at this;exact go h st LM this (.one step_seq)
  ·rename_i id x hx
   obtain ⟨k',rfl,hk⟩:=hloop hx (by simp);have h0:Bo (AU fn) (0::p)=x:=by simp[Bo,hx,child]
   have:=CX.code (0::p) (CX.inBlock id hk);rw[h0] at this;exact go h st LM this (.one step_block)
  ·rename_i x hx
   have h0:Bo (AU fn) (0::p)=x:=by simp[Bo,hx,child]
   cases hst:C.MP g p<;>simp only[hst,cond_true,cond_false] at h
   ·cases hi with
    |code p hk=>
     have:=CX.code (0::p) (CX.loop p x hx hk);rw[h0] at this;rw[hx] at go ⊢;exact go h st LM this (.one step_loop)
    |loop p y hl hk=>
     rw[hx] at hl;cases hl;have:=CX.code (0::p) (CX.loop p x hx hk);rw[h0] at this;exact go h st LM this (.one step_inLoop)
   ·exact ⟨_,h,a,w,H,E,items,.refl _ _,st,LM,hi⟩
  ·rename_i id hx
   obtain ⟨k',rfl,hk⟩:=hloop hx (by simp);split at h
   ·rename_i k2 he
    obtain ⟨k3,h1,h2⟩:=agI hk he;exact go h st LM h2 (.one (step_exit h1))
   ·exact h.elim
  ·rename_i x y z hx
   obtain ⟨k',rfl,hk⟩:=hloop hx (by simp);have h0:=CX.code (0::p) hk;have h1:=CX.code (1::p) hk;have e0:Bo (AU fn) (0::p)=y:=by simp[Bo,hx,child]
   have e1:Bo (AU fn) (1::p)=z:=by simp[Bo,hx,child]
   rw[e0] at h0;rw[e1] at h1;have dx:=BJ (H:=H) (E:=E) st.den x;split at h
   ·rename_i hv
    rw[hv] at dx;exact go h st LM h0 (.one (step_cond (t:=aF) dx))
   ·rename_i hv
    rw[hv] at dx;exact go h st LM h1 (.one (step_cond (t:=aA) dx))
   ·rename_i t hv
    rw[hv] at dx;have st':∀v,t=v->St C K H E w (c.put (V6 x) (.bool v)) a:=fun v hv2=>by
     subst hv2;cases x with
     |tmp d=>exact st.know hv |const u=>exact ⟨st.den,st.hp,st.Cm,st.free,st.gl,st.defers⟩ |global u=>exact ⟨st.den,st.hp,st.Cm,st.free,st.gl,st.defers⟩ |func u=>exact ⟨st.den,st.hp,st.Cm,st.free,st.gl,st.defers⟩
    have mv':∀v:Bool,Mv K H E w c H E w (c.put (V6 x) (.bool v)):=fun v=>Jd st rfl rfl rfl rfl
    cases t with
    |true=>exact go (h.1 rfl) (st' aF rfl) (mv' aF) h0 (.one (step_cond (t:=aF) dx)) |false=>exact go (h.2 rfl) (st' aA rfl) (mv' aA) h1 (.one (step_cond (t:=aA) dx))
   ·exact h.elim
  ·rename_i id ops dr hx
   obtain ⟨k',rfl,hk⟩:=hloop hx (by simp);cases dr with
   |false=>
    simp only[cond_false] at h;exact go h st LM (.reg p (aY ops.size) id ops hx hk) (.one step_region)
   |true=>
    simp only[cond_true] at h;have key:∀(f:Core->Tree Sig),((drawn C call g ops c).bind f).All φ->∃c' a' H' E' w',(f c').All φ/\St C K H' E' w' c' a'/\Mv K H E w c H' E' w' c'/\Steps P (lone (b.at a (.code (.region id ops aF)::k')) cs w) (lone (b.at a' k') cs w'):=fun f hf=>by
     obtain ⟨e,a',w',⟨he,c',H',E',h1,h2,h3⟩,harr⟩:=alX (id:=id) hC hF hK st (Tree.Eb hf) b k' cs;subst he;exact ⟨c',a',H',E',w',h1,h2,h3,harr⟩
    cases hl:(top && !(drawn C call g ops c).lone)<;>simp only[hl,cond_true,cond_false] at h
    ·obtain ⟨c',a',H',E',w',h1,h2,h3,h4⟩:=key _ h
     exact go h1 h2 h3 hk h4
    ·obtain ⟨c',a',H',E',w',h1,h2,h3,h4⟩:=key _ h
     exact ⟨_,h1,a',w',H',E',k',h4,h2,h3,hk⟩
  ·exact h.elim
def aa7(P:Program)(C:Ctx)(K:Kx)(run:Bool->Nat->List It->Core->Tree Out):Prop:=
 ∀(top:Bool) (g:Nat) (td:List It) (c:Core) (H:Mem) (E:Env) (w:World) (a:Act) (fn:Func) (items:List Item) (φ:Out->Prop),C.fns.get g=ay fn->(run top g td c).All φ->St C K H E w c a->
  CX (AU fn) td items->∀(b:Frame) (cs:List Frame),∃out,φ out/\ae7 P C K fn g H E w c (lone (b.at a items) cs w) b cs out
theorem KY{p:Nat->Bool}:∀{l:List (Nat×SB)} {i:Nat},AA (dropKey p l) i=bif p i then aN else AA l i
 |[],i=>by cases h:p i<;>simp[dropKey,AA] |(j,b)::r,i=>by
  have ih:=KY (p:=p) (l:=r) (i:=i);simp only[dropKey];cases hj:p j<;>simp only[cond_true,cond_false,AA]
  ·cases hji:(j==i)<;>simp only[cond_true,cond_false]
   ·exact ih
   ·obtain rfl:j=i:=by simpa using hji
    rw[hj];rfl
  ·cases hji:(j==i)<;>simp only[cond_true,cond_false]
   ·exact ih
   ·obtain rfl:j=i:=by simpa using hji
    rw[ih,hj];rfl
theorem Mv.gc{c c':Core}(h:Mv K H E w c H' E' w' c')(hf:Free E c){p:Nat->Bool}(hp:∀i,p i=aF->c.nx<=i/\i<c.lim):Mv K H E w c H' E' w' {c' with hp:=dropKey p c'.hp}:=by
 have hl:∀{i sb},AA (dropKey p c'.hp) i=ay sb->AA c'.hp i=ay sb:=fun {i sb} h=>by
  rw[KY] at h;cases hi:p i<;>simp only[hi,cond_true,cond_false] at h
  ·exact h
  ·cases h
 have hch:=h.ch;refine Ch.mv (c:=c) (c':={c' with hp:=dropKey p c'.hp}) ⟨hch.I7,hch.MK,hch.new,⟨fun id sb hq=>hch.hp.ent _ _ (hl hq),fun id id' sb sb' b q1 q2=>hch.hp.Gu _ _ _ _ _ (hl q1) (hl q2)⟩,hch.Cm,hch.tc,hch.size,hch.fr,hch.Oh,hch.ZW,fun id sb b q1 q2 q3=>?_,fun id sb q1=>hch.old id sb (hl q1)⟩ h.nx h.lim h.agk
 rcases hch.keep id sb b q1 q2 q3 with q|⟨sb',q4,q5⟩
 ·exact .inl q
 ·refine .inr ⟨sb',?_,q5⟩
  show AA (dropKey p c'.hp) id=ay sb';rw[KY];cases hi:p id<;>simp only[cond_true,cond_false]
  ·exact q4
  ·have:=hf id (hp id hi).1 (hp id hi).2
   have q6:=GX q3;simp[bk,this] at q6
theorem TP(hC:BL P C)(hF:Cb P C){run:Bool->Nat->List It->Core->Tree Out}(hr:aa7 P C K run):Ib P C K (MQ C (run aA)):=by
 intro H E w c g args FD φ hd hh hw hf hg h;unfold MQ at h;split at h
 ·exact h.elim
 ·rename_i fn hfn
  cases hb:(gY args.length fn.ntmps&&fn.body.isSome)<;>simp only[hb,cond_true,cond_false] at h
  ·exact h.elim
  simp only[aJ] at hb;obtain ⟨body,hbody⟩:=gI.1 hb.2;have hP:=hC.fn g fn hfn;refine ⟨hF.en g (.inr (by rw[hfn];rfl)),fun cs=>?_⟩;let b:Frame:={(default:Frame) with fn:=g,kind:=.normal}
  let a:Act:={tmps:=FD.toArray++dY (fn.ntmps - FD.toArray.size) undef,defers:=[]}
  have henter:gQ P g FD.toArray .normal=b.at a [.code body]:=by
   simp[gQ,Frame.at,hP,hbody,b,a]
  have hlen:=hd.length;have st:St C K H E w {tm:=args++dU (fn.ntmps - args.length) .any,hp:=c.hp,nx:=c.nx,lim:=c.lim,tc:=c.tc} a:=by
   refine ⟨?_,hh,hw,hf,hg,rfl⟩;have:a.tmps.toList=FD++dU (fn.ntmps - args.length) undef:=by simp[a,hlen]
   rw[this];exact hd.append (rY _ _ (by simp))
  have hit:CX (AU fn) [.code []] [.code body]:=by
   have:=CX.code (body:=AU fn) [] CX.nil;have he:Bo (AU fn) []=body:=by simp[Bo,AU,hbody]
   rwa[he] at this
  obtain ⟨out,h1,h2⟩:=hr aA g [.code []] _ H E w a fn [.code body] _ hfn (Tree.Eb h) st hit b cs;cases out with
  |stop _ _ _=>exact h1.elim |done sv c'=>
   obtain ⟨a',w',H',E',v,todo,q1,q2,q3,q4,q5⟩:=h2;refine ⟨.returned v,w',_,⟨_,v,H',E',rfl,h1,q4,?_⟩,by rw[henter];exact q1,rfl,rfl,q2.defers,rfl,fn,hP,q5⟩;have q3':=q3.to (d:=c) (d':={c' with tm:=c.tm}) rfl rfl rfl rfl rfl rfl rfl rfl
   have q6:=q3'.gc hf (p:=fun i=>gY c.nx i&&fZ i c.lim && !(reach c'.hp 4000 (refs sv++MH c'.hp c'.tc) []).contains i) (fun i hi=>by simp only[aJ] at hi;exact ⟨fP hi.1.1,Fv hi.1.2⟩);exact q6
theorem alY:aa7 P C K (run C 0):=fun _ _ _ _ H E w a _ items _ _ h st hi _ _=>
 ⟨_,h,rfl,a,w,H,E,items,.refl _ _,st,Jd st rfl rfl rfl rfl,hi⟩
theorem alZ(hC:BL P C)(hF:Cb P C){n:Nat}(ih:aa7 P C K (run C n)):aa7 P C K (run C (n+1)):=by
 intro top g td c H E w a fn items φ hfn h st hi b cs;have hK:=TP hC hF ih;unfold run at h;rw[hfn] at h;simp only at h;obtain ⟨sig,h1,h2⟩:=X7 hC hF hK (Tree.Eb h) st hi b cs;cases sig with
 |go Gw c'=>
  obtain ⟨a',w',H',E',items',q1,q2,q3,q4⟩:=h2;obtain ⟨out,q5,q6⟩:=ih top g _ _ _ _ _ _ fn _ φ hfn h1 q2 q4 b cs;exact ⟨out,q5,q6.of q1 q3⟩
 |done sv c'=>exact ⟨_,h1,h2⟩ |halt Gw c'=>exact ⟨_,h1,rfl,h2⟩
theorem TQ(hC:BL P C)(hF:Cb P C):∀n,aa7 P C K (run C n)
 |0=>alY |n+1=>alZ hC hF (TQ hC hF n)
end
mutual
def adO:SV->List Nat
 | .agg l=>U8 l | .Ba l=>U8 l | .fn _ l=>JO l | .Dv _ x=>aiB x | .ptr id _=>[id] |_=>[]
def U8:List SV->List Nat
 |[]=>[] |x::r=>adO x++U8 r
end
def WJ(hp:List (Nat×SB))(id:Nat):Option (Nat×Nat×Nat×(Nat->List Sh)):=
 match AA hp id with
 |some (.own e st n g)=>ay (e,st,n,g) |some (.row cells e st n)=>bif FU cells then (IB hp cells).map fun l=>(e,st,n,BD (chunks st n l)) else aN |_=>aN
mutual
def Ir(hp:List (Nat×SB)):SV->List Nat
 | .agg l=>WL hp l | .Ba l=>WL hp l | .gs id=>match AA hp id with
  |some (.fz _ _ _)=>[] |_=>[id]
 |_=>[]
def WL(hp:List (Nat×SB)):List SV->List Nat
 |[]=>[] |x::r=>Ir hp x++WL hp r
end
mutual
def Jo(hp:List (Nat×SB)):SV->Option Sh
 | .agg l=>(TR hp l).map .agg | .Ba l=>(TR hp l).map .Ba | .gs id=>match AA hp id with
  |some (.fz st n g)=>ay (.sl st n g) |_=>(WJ hp id).map fun r=>.os r.1 r.2.1 r.2.2.1 r.2.2.2
 |x=>Ee hp x
def TR(hp:List (Nat×SB)):List SV->Option (List Sh)
 |[]=>ay [] |x::r=>match Jo hp x,TR hp r with
  |some s,ay l=>ay (s::l) |_,_=>aN
end
def KF:List Nat->Bool
 |[]=>aF |x::l=>!l.contains x&&KF l
def anM(hp:List (Nat×SB)):List Nat->List Nat
 |[]=>[] |id::r=>(match AA hp id with
  |some (.row cells _ _ _)=>JO cells |_=>[])++anM hp r
def finish(c:Core)(v:SV):Option Sh:=
 match freeze c.hp (adO v++anM c.hp (Ir c.hp v)) with
 |some hp=>bif KF (Ir hp v) then Jo hp v else aN |none=>aN
section
variable{P:Program}{C:Ctx}{K:Kx}{H H' OL:Mem}{E E' OM E1:Env}{w w' w'':World}
theorem aa8:∀{l:List Nat} {i j x:Nat},KF l=aF->l[i]?=ay x->l[j]?=ay x->i=j
 |[],_,_,_,_,h,_=>by simp at h |y::l,0,0,_,_,_,_=>rfl |y::l,0,j+1,x,h,h1,h2=>by
  simp only[KF,aJ,iw] at h;simp at h1 h2;subst h1;have:=bP h2;simp[this] at h
 |y::l,i+1,0,x,h,h1,h2=>by
  simp only[KF,aJ,iw] at h;simp at h1 h2;subst h2;have:=bP h1;simp[this] at h
 |y::l,i+1,j+1,x,h,h1,h2=>by
  simp only[KF,aJ] at h;have e:=aa8 (l:=l) (i:=i) (j:=j) (x:=x) h.2 (by simpa using h1) (by simpa using h2);rw[e]
theorem aa9{hp:List (Nat×SB)}{id:Nat}{r:Nat×Nat×Nat×(Nat->List Sh)}(hh:AZ K H E w hp)(h:WJ hp id=ay r):
  GV K H E w id (.own r.1 r.2.1 r.2.2.1 r.2.2.2)/\∃sb,AA hp id=ay sb/\∀b,bk E id=ay b->Bv E id sb=ay b:=by
 unfold WJ at h;split at h
 ·rename_i e st n g hl
  cases h;exact ⟨hh.ent _ _ hl,_,hl,fun b hb=>hb⟩
 ·rename_i cells e st n hl
  cases ho:FU cells<;>simp only[ho,cond_true,cond_false] at h
  ·cases h
  simp only[bW] at h;obtain ⟨l,h1,rfl⟩:=h;obtain ⟨v,xs,e1,e2,e3,e4⟩:=hh.ent _ _ hl;exact ⟨⟨v,xs,e1,e2,JU e2.1 (EC hh h1 e3) (FC ho e3),e4⟩,_,hl,fun b hb=>hb⟩
 ·cases h
def asK(K:Kx)(H:Mem)(E:Env)(w:World)(hp:List (Nat×SB))(id:Nat)(x:SB):Prop:=
 GV K H E w id x/\(∃e st n g,x=.own e st n g)/\∃sb,AA hp id=ay sb/\∀b,bk E id=ay b->Bv E id sb=ay b
mutual
theorem X8:∀{s:Sh} {u:Value} (b0:Nat),Rep H s u->Den H E1 (Dk s b0).1 u/\(Dk s b0).2.2=b0/\(Dk s b0).2.1=[]
 | .i k n,_,b0,h=>by cases h;exact ⟨rfl,rfl,rfl⟩ | .b y,_,b0,h=>by cases h;exact ⟨rfl,rfl,rfl⟩ | .v y,_,b0,h=>by cases h with|v _ h1=>exact ⟨af6 h1,rfl,rfl⟩
 | .str l,_,b0,h=>⟨h,rfl,rfl⟩ | .sl _ _ _,_,b0,h=>⟨h,rfl,rfl⟩ | .Dv _ _,_,b0,h=>⟨h,rfl,rfl⟩ | .fn _ _,_,b0,h=>⟨UQ h,rfl,rfl⟩ | .er _ _,_,b0,h=>⟨h,rfl,rfl⟩ | .pt _,_,b0,h=>⟨UQ h,rfl,rfl⟩ | .os _ _ _ _,_,b0,h=>by cases h | .agg l,u,b0,h=>by
  cases h with
  |agg _ vs h1 h2=>
   have:=U9 (l:=l) (vs:=vs.toList) b0 (zJ (by simpa using h1) fun j s v e1 e2=>h2 j s v e1 (by simpa using e2));exact ⟨⟨vs,rfl,this.1⟩,this.2.1,this.2.2⟩
 | .Ba l,u,b0,h=>by
  cases h with
  |Ba _ vs h1 h2=>
   have:=U9 (l:=l) (vs:=vs.toList) b0 (zJ (by simpa using h1) fun j s v e1 e2=>h2 j s v e1 (by simpa using e2));exact ⟨⟨vs,rfl,this.1⟩,this.2.1,this.2.2⟩
theorem U9:∀{l:List Sh} {vs:List Value} (b0:Nat),D9 H l vs->AV H E1 (EL l b0).1 vs/\(EL l b0).2.2=b0/\(EL l b0).2.1=[]
 |[],[],b0,_=>⟨trivial,rfl,rfl⟩ |s::l,v::vs,b0,⟨h1,h2⟩=>by
  have a:=X8 b0 h1;have b:=U9 b0 h2;simp only[EL,a.2.1,a.2.2,List.nil_append];exact ⟨⟨a.1,b.1⟩,b.2⟩
 |[],_::_,_,h=>h.elim |_::_,[],_,h=>h.elim
end
def Knows(E E1:Env)(b0:Nat)(ids:List Nat):Prop:=∀k id,ids[k]?=ay id->E1 (b0+k)=E id
theorem Knows.left{b0:Nat}{l l':List Nat}(h:Knows E E1 b0 (l++l')):Knows E E1 b0 l:=fun k id hk=>h k id (by
 rw[dM (aQ.1 hk).1];exact hk)
theorem Knows.right{b0:Nat}{l l':List Nat}(h:Knows E E1 b0 (l++l')):Knows E E1 (b0+l.length) l':=fun k id hk=>by
 rw[Nat.add_assoc];exact h (l.length+k) id (by rw[fD (jd _ _)];simpa using hk)
structure LQ(K:Kx)(H:Mem)(E E1:Env)(w:World)(hp:List (Nat×SB))(ids:List Nat)(b0 n:Nat)(l:List (Nat×SB)):Prop where
 len:n=b0+ids.length
 mem:∀i x,(i,x)∈l->∃k id,i=b0+k/\ids[k]?=ay id/\asK K H E w hp id x
 cov:∀id∈ids,∃sb,AA hp id=ay sb/\∀b,bk E id=ay b->Bv E id sb=ay b
theorem LQ.nil{hp:List (Nat×SB)}{b0:Nat}:LQ K H E E1 w hp [] b0 b0 []:=⟨rfl,fun _ _ h=>(by cases h),fun _ h=>(by cases h)⟩
theorem LQ.app{hp:List (Nat×SB)}{b0 n m:Nat}{i1 i2:List Nat}{l1 l2:List (Nat×SB)}(h1:LQ K H E E1 w hp i1 b0 n l1)(h2:LQ K H E E1 w hp i2 n m l2):LQ K H E E1 w hp (i1++i2) b0 m (l1++l2):=by
 refine ⟨by rw[h2.len,h1.len,bf];omega,fun i x hx=>?_,fun id hid=>(bK.1 hid).elim (h1.cov id) (h2.cov id)⟩;rcases bK.1 hx with hx|hx
 ·obtain ⟨k,id,e1,e2,e3⟩:=h1.mem i x hx
  exact ⟨k,id,e1,by rw[dM (aQ.1 e2).1];exact e2,e3⟩
 ·obtain ⟨k,id,e1,e2,e3⟩:=h2.mem i x hx
  exact ⟨i1.length+k,id,by rw[e1,h1.len];omega,by rw[fD (jd _ _)];simpa using e2,e3⟩
mutual
theorem adP{hp:List (Nat×SB)}(hh:AZ K H E w hp):∀{x:SV} {s:Sh} {u:Value} (b0:Nat),Jo hp x=ay s->Den H E x u->Knows E E1 b0 (Ir hp x)->
  Den H E1 (Dk s b0).1 u/\LQ K H E E1 w hp (Ir hp x) b0 (Dk s b0).2.2 (Dk s b0).2.1
 | .agg l,s,u,b0,h,hd,hk=>by
  simp only[Jo,bW] at h;obtain ⟨l',h1,rfl⟩:=h;obtain ⟨vs,rfl,hl⟩:=hd;have:=Va hh b0 h1 hl (by simpa[Ir] using hk);exact ⟨⟨vs,rfl,this.1⟩,by simpa[Ir,Dk] using this.2⟩
 | .Ba l,s,u,b0,h,hd,hk=>by
  simp only[Jo,bW] at h;obtain ⟨l',h1,rfl⟩:=h;obtain ⟨vs,rfl,hl⟩:=hd;have:=Va hh b0 h1 hl (by simpa[Ir] using hk);exact ⟨⟨vs,rfl,this.1⟩,by simpa[Ir,Dk] using this.2⟩
 | .gs id,s,u,b0,h,hd,hk=>by
  simp only[Jo] at h;split at h
  ·rename_i st n g hl
   cases h;obtain ⟨v,he,hr⟩:=hh.ent _ _ hl;rw[hd.1] at he;cases he;have hi:Ir hp (.gs id)=[]:=by simp[Ir,hl]
   rw[hi];have:=X8 (E1:=E1) b0 hr;exact ⟨this.1,by rw[this.2.1,this.2.2];exact LQ.nil⟩
  ·rename_i hne
   simp only[bW] at h;obtain ⟨r,h1,rfl⟩:=h;have hi:Ir hp (.gs id)=[id]:=by
    simp only[Ir]
   rw[hi] at hk ⊢;have hE1:E1 b0=E id:=by simpa using hk 0 id rfl
   obtain ⟨a1,a2⟩:=aa9 hh h1;refine ⟨⟨by rw[hE1];exact hd.1,hd.2⟩,⟨by simp[Dk],fun i x hx=>?_,fun i hi=>?_⟩⟩;rotate_left
   ·simp at hi;subst hi;exact a2
   simp[Dk] at hx;obtain ⟨rfl,rfl⟩:=hx;exact ⟨0,id,rfl,rfl,a1,⟨_,_,_,_,rfl⟩,a2⟩
 | .any,s,u,b0,h,hd,hk=>by simp[Jo,Ee] at h | .val _,s,u,b0,h,hd,hk=>ED hh b0 h (by rfl) (by rfl) hd | .int _ _,s,u,b0,h,hd,hk=>ED hh b0 h (by rfl) (by rfl) hd | .sym _ _,s,u,b0,h,hd,hk=>ED hh b0 h (by rfl) (by rfl) hd | .bool _,s,u,b0,h,hd,hk=>ED hh b0 h (by rfl) (by rfl) hd | .test _,s,u,b0,h,hd,hk=>ED hh b0 h (by rfl) (by rfl) hd | .str _,s,u,b0,h,hd,hk=>ED hh b0 h (by rfl) (by rfl) hd | .ptr _ _,s,u,b0,h,hd,hk=>ED hh b0 h (by rfl) (by rfl) hd | .gp _ _ _ _,s,u,b0,h,hd,hk=>by simp[Jo,Ee] at h | .Fg,s,u,b0,h,hd,hk=>ED hh b0 h (by rfl) (by rfl) hd | .Bj,s,u,b0,h,hd,hk=>ED hh b0 h (by rfl) (by rfl) hd | .GN,s,u,b0,h,hd,hk=>ED hh b0 h (by rfl) (by rfl) hd | .Ed,s,u,b0,h,hd,hk=>ED hh b0 h (by rfl) (by rfl) hd | .F6,s,u,b0,h,hd,hk=>by simp[Jo,Ee] at h | .fn _ _,s,u,b0,h,hd,hk=>ED hh b0 h (by rfl) (by rfl) hd | .Dv _ _,s,u,b0,h,hd,hk=>ED hh b0 h (by rfl) (by rfl) hd | .mp _,s,u,b0,h,hd,hk=>by simp[Jo,Ee] at h | .sh _,s,u,b0,h,hd,hk=>ED hh b0 h (by rfl) (by rfl) hd | .G5 _ _ _ _ _,s,u,b0,h,hd,hk=>ED hh b0 h (by rfl) (by rfl) hd | .ev _,s,u,b0,h,hd,hk=>by simp[Jo,Ee] at h | .vw _ _,s,u,b0,h,hd,hk=>by simp[Jo,Ee] at h | .glob _,s,u,b0,h,hd,hk=>by simp[Jo,Ee] at h
theorem Va{hp:List (Nat×SB)}(hh:AZ K H E w hp):∀{l:List SV} {l':List Sh} {vs:List Value} (b0:Nat),TR hp l=ay l'->AV H E l vs->Knows E E1 b0 (WL hp l)->
  AV H E1 (EL l' b0).1 vs/\LQ K H E E1 w hp (WL hp l) b0 (EL l' b0).2.2 (EL l' b0).2.1
 |[],l',[],b0,h,_,_=>by simp[TR] at h;subst h;exact ⟨trivial,LQ.nil⟩ |x::l,l',v::vs,b0,h,⟨h1,h2⟩,hk=>by
  simp only[TR] at h;split at h
  ·rename_i s r e1 e2
   cases h;have a:=adP hh b0 e1 h1 hk.left;have hk2:=hk.right;rw[<-a.2.len] at hk2;have b:=Va hh _ e2 h2 hk2;simp only[EL];exact ⟨⟨a.1,b.1⟩,a.2.app b.2⟩
  ·cases h
 |[],_,_::_,_,_,h,_=>h.elim |_::_,_,[],_,_,h,_=>h.elim
theorem ED{hp:List (Nat×SB)}(hh:AZ K H E w hp){x:SV}{s:Sh}{u:Value}(b0:Nat)(h:Jo hp x=ay s)(hx:Jo hp x=Ee hp x)(hi:Ir hp x=[])(hd:Den H E x u):
  Den H E1 (Dk s b0).1 u/\LQ K H E E1 w hp (Ir hp x) b0 (Dk s b0).2.2 (Dk s b0).2.1:=by
 rw[hx] at h;have:=X8 (E1:=E1) b0 (MV hh h hd);rw[hi];exact ⟨this.1,by rw[this.2.1,this.2.2];exact LQ.nil⟩
end
theorem adQ:∀{l hp:List (Nat×SB)} {i:Nat} {x:SB},AA (DL hp l) i=ay x->(i,x)∈l\/AA hp i=ay x
 |[],_,_,_,h=>.inr h |(j,b)::l,hp,i,x,h=>by
  rcases adQ (l:=l) h with h|h
  ·exact .inl (dB _ h)
  ·rw[E5] at h
   cases hj:(j==i)<;>simp only[hj,cond_true,cond_false] at h
   ·exact .inr h
   ·cases h
    obtain rfl:j=i:=by simpa using hj
    exact .inl (cO ..)
def K0(H:Mem)(w:World):Kx:=⟨w,fun _=>False,H⟩
theorem Qs{c:Core}{a:Act}{H0:Mem}{w0:World}{sv:SV}{s:Sh}{u:Value}(st:St C (K0 H0 w0) H E w c a)(hf:finish c sv=ay s)(hd:Den H E sv u):∃H',EJ H0 w0 s u H' w:=by
 unfold finish at hf;split at hf
 ·rename_i hp hfz
  obtain ⟨H1,hH,hh,hw,_⟩:=Ny hfz st.hp st.Cm;cases hn:KF (Ir hp sv)<;>simp only[hn,cond_true,cond_false] at hf
  ·cases hf
  refine ⟨H1,hw.le,hw.on,hw.os,hw.tape,hw.output,hw.size,fun b hb=>hw.kept b hb id,fun b hb=>?_,fun b0=>?_⟩
  ·rcases hw.fresh b hb with h|h|h
   ·exact .inl h
   ·exact .inr h
   ·exact h.elim
  ·let ids:=Ir hp sv
   let E1:Env:=fun i=>if b0<=i then (ids[i - b0]?).bind E else aN
   have hk:Knows E E1 b0 ids:=fun k id hk=>by
    simp only[E1,jd,if_true,Nat.add_sub_cancel_left,hk,eP]
   obtain ⟨a1,a2⟩:=adP (E1:=E1) hh b0 hf (hd.le hH fun _ _ e=>e) hk;have hid:∀i v,E1 i=ay v->∃k id,i=b0+k/\ids[k]?=ay id/\E id=ay v:=fun i v hv=>by
    simp only[E1] at hv;split at hv
    ·cases hx:ids[i - b0]? with
     |none=>simp[hx] at hv |some id=>exact ⟨i - b0,id,by omega,hx,by simpa[hx] using hv⟩
    ·cases hv
   have hat:∀i x,AA (DL [] (Dk s b0).2.1) i=ay x->∃k id,i=b0+k/\ids[k]?=ay id/\asK (K0 H0 w0) H1 E w hp id x:=fun i x hl=>by
    rcases adQ hl with h|h
    ·exact a2.mem i x h
    ·simp[AA] at h
   have hbk:∀{k id:Nat},ids[k]?=ay id->bk E1 (b0+k)=bk E id:=fun {k id} h=>by simp[bk,hk k id h]
   refine ⟨E1,fun i hi=>?_,fun i b hb=>?_,a1,⟨fun i x hl=>?_,fun i j x y b h1 h2 o1 o2=>?_⟩⟩
   ·cases hv:E1 i with
    |none=>exact (hi hv).elim |some v=>
     obtain ⟨k,id,rfl,h2,_⟩:=hid i v hv;have:k<(Ir hp sv).length:=(aQ.1 h2).1;rw[a2.len];exact ⟨jd _ _,by omega⟩
   ·cases hv:E1 i with
    |none=>simp[bk,hv] at hb |some v=>
     obtain ⟨k,id,rfl,h2,h3⟩:=hid i v hv;rw[hbk h2] at hb;have hown:∃sb,AA hp id=ay sb/\Bv E id sb=ay b:=by
      obtain ⟨sb,q1,q2⟩:=a2.cov id (bP h2);exact ⟨sb,q1,q2 b hb⟩
     obtain ⟨sb,h4,h5⟩:=hown;have:=((hh.ent _ _ h4).lt h5).2.2;rcases this with h|h
     ·exact h
     ·exact h.elim
   ·obtain ⟨k,id,rfl,h2,h3,⟨e,st',n,g,rfl⟩,_⟩:=hat i x hl
    obtain ⟨v,xs,e1,e2,e3,e4⟩:=h3;exact ⟨v,xs,by rw[hk k id h2];exact e1,e2,e3,e4⟩
   ·obtain ⟨k,id,rfl,p1,_,⟨_,_,_,_,rfl⟩,sb1,p3,p4⟩:=hat i x h1
    obtain ⟨k',id',rfl,q1,_,⟨_,_,_,_,rfl⟩,WB,q3,q4⟩:=hat j y h2;have o1':bk E id=ay b:=by rw[<-hbk p1];exact o1
    have o2':bk E id'=ay b:=by rw[<-hbk q1];exact o2
    have:=hh.Gu _ _ _ _ _ p3 q3 (p4 b o1') (q4 b o2');subst this;rw[aa8 hn p1 q1]
 ·cases hf
end
inductive Fin where
 |ret (s:Sh)
 |stop (td:List It) (c:Core)
def fin:Out->Tree Fin
 | .done sv c=>match finish c sv with
  |some s=>.leaf (.ret s) |none=>.fail
 | .stop _ td c=>.leaf (.stop td c)
def CV(C:Ctx)(n g:Nat)(td:List It)(c:Core):Tree Fin:=(run C n aF g td c).bind fin
def AL(m:Nat)(BI:List Sh)(L:Nat):Core:={tm:=Q8 BI++dU (m - BI.length) .any,hp:=[],nx:=0,lim:=L,tc:=[]}
section
variable{P:Program}{C:Ctx}{K:Kx}{H H' OL H0:Mem}{E E' OM E1:Env}{w w' w'' w0:World}
def Goes(P:Program)(C:Ctx)(K:Kx)(fn:Func)(td:List It)(c:Core)(φ:Sh->Prop):Prop:=
 ∀(H:Mem) (E:Env) (w:World) (a:Act) (items:List Item) (b:Frame) (cs:List Frame),St C K H E w c a->CX (AU fn) td items->
  ∃(a':Act) (w':World) (v:Value) (s:Sh) (H':Mem) (todo:List Item),Steps P (lone (b.at a items) cs w) (lone {b.at a' todo with mode:=.returning} cs w')/\a'.defers=[]/\φ s/\EJ K.H0 K.w0 s v H' w'/\(results fn a'.tmps).run P w'=.ok v w'
def Ci(P:Program)(C:Ctx)(K:Kx)(fn:Func)(φ:Sh->Prop):Fin->Prop
 | .ret s=>φ s | .stop td c=>Goes P C K fn td c φ
theorem al0(hC:BL P C)(hF:Cb P C){n g:Nat}{fn:Func}{td:List It}{c:Core}{φ:Sh->Prop}(hfn:C.fns.get g=ay fn)(h:(CV C n g td c).All (Ci P C (K0 H0 w0) fn φ)):
  Goes P C (K0 H0 w0) fn td c φ:=by
 intro H E w a items b cs st hi;obtain ⟨out,h1,h2⟩:=TQ hC hF n aF g td c H E w a fn items _ hfn (Tree.Eb h) st hi b cs;cases out with
 |done sv c'=>
  obtain ⟨a',w',H',E',v,todo,q1,q2,q3,q4,q5⟩:=h2;simp only[fin] at h1;split at h1
  ·rename_i s hs
   obtain ⟨H2,r⟩:=Qs q2 hs q4;exact ⟨a',w',v,s,H2,todo,q1,q2.defers,h1,r,q5⟩
  ·exact h1.elim
 |stop g' Gw c'=>
  obtain ⟨rfl,a',w',H',E',items',q1,q2,q3,q4⟩:=h2;obtain ⟨a2,w2,v,s,H2,todo,r1,r2⟩:=h1 H' E' w' a' items' b cs q2 q4;exact ⟨a2,w2,v,s,H2,todo,q1.trans r1,r2⟩
theorem anN(hC:BL P C){g:Nat}{fn:Func}{F:List Sh->Tree Sh}(hfn:C.fns.get g=ay fn)(hb:fn.body.isSome=aF)
  (h:∀(H:Mem) (w:World) (BI:List Sh) (args:List Value) (φ:Sh->Prop),D9 H BI args->(F BI).All φ->∃Ew:List Sh,D9 H Ew args/\∃L,Goes P C (K0 H w) fn [.code []] (AL fn.ntmps Ew L) φ):Bh P C.gls g F:=by
 intro H w BI args φ hon hg hr hφ;obtain ⟨Ew,hr,L,hgo⟩:=h H w BI args φ hr hφ;obtain ⟨body,hbody⟩:=gI.1 hb;have hP:=hC.fn g fn hfn;intro cs;let b:Frame:={(default:Frame) with fn:=g,kind:=.normal}
 let a:Act:={tmps:=args.toArray++dY (fn.ntmps - args.toArray.size) undef,defers:=[]}
 have henter:gQ P g args.toArray .normal=b.at a [.code body]:=by
  simp[gQ,Frame.at,hP,hbody,b,a]
 have hlen:=hr.length;have st:St C (K0 H w) H E0 w (AL fn.ntmps Ew L) a:=by
  refine ⟨?_,⟨fun _ _ h=>by simp[AL,AA] at h,fun _ _ _ _ _ h=>by simp[AL,AA] at h⟩,⟨rfl,rfl,rfl,dw _,fun _ _ _=>rfl,hon,fun _ _ h=>h,fun _ h=>.inl h⟩,fun _ _ _=>rfl,hg,rfl⟩;have:a.tmps.toList=args++dU (fn.ntmps - Ew.length) undef:=by simp[a,hlen]
  rw[this];exact (JA hr).append (rY _ _ (by simp))
 have hit:CX (AU fn) [.code []] [.code body]:=by
  have:=CX.code (body:=AU fn) [] CX.nil;have he:Bo (AU fn) []=body:=by simp[Bo,AU,hbody]
  rwa[he] at this
 obtain ⟨a',w',v,s,H',todo,q1,q2,q3,q4,q5⟩:=hgo H E0 w a [.code body] b cs st hit;exact ⟨.returned v,w',_,⟨v,s,H',rfl,q3,q4⟩,by rw[henter];exact q1,rfl,rfl,q2,rfl,fn,hP,q5⟩
theorem Io(hC:BL P C)(hF:Cb P C){g n L:Nat}{fn:Func}{F:List Sh->Tree Sh}(hfn:C.fns.get g=ay fn)(hb:fn.body.isSome=aF)
  (h:∀(H:Mem) (w:World) (BI:List Sh) (args:List Value) (φ:Sh->Prop),D9 H BI args->(F BI).All φ->∃Ew:List Sh,D9 H Ew args/\(CV C n g [.code []] (AL fn.ntmps Ew L)).All (Ci P C (K0 H w) fn φ)):Bh P C.gls g F:=
 anN hC hfn hb fun H w BI args φ h1 h2=>let ⟨Ew,h3,h4⟩:=h H w BI args φ h1 h2;⟨Ew,h3,L,al0 hC hF hfn h4⟩
theorem Bh.mono{gls:List (Nat×Sh)}{f:Nat}{F F':List Sh->Tree Sh}(h:Bh P gls f F')(hp:∀(H:Mem) (BI:List Sh) (args:List Value) (φ:Sh->Prop),D9 H BI args->(F BI).All φ->(F' BI).All φ):Bh P gls f F:=
 fun H w BI args φ h1 h2 h3 h4=>h H w BI args φ h1 h2 h3 (hp H BI args φ h3 h4)
end
inductive Rn where
 |id (i:Nat)
 |nil
mutual
def Fa(hp:List (Nat×SB))(ρ:List (Nat×Rn)):SV->SV->Prop
 |_,.any=>True |x,.sym k m=>match x with
  | .int k' n=>k'=k/\n=m | .sym k' n=>k'=k/\n=m |_=>False
 |x,.test b=>match x with
  | .bool b'=>b'=b | .test b'=>b'=b |_=>False
 |x,.gs id'=>match x with
  | .gs id=>AA ρ id'=ay (.id id) | .Bj=>AA ρ id'=ay .nil |_=>False
 |x,.ptr id' off'=>match x with
  | .ptr id off=>AA ρ id'=ay (.id id)/\off=off' |_=>False
 |x,.mp id'=>match x with
  | .mp id=>AA ρ id'=ay (.id id) |_=>False
 |x,.fn f' l'=>match x with
  | .fn f l=>f=f'/\leL hp ρ l l' |_=>False
 |x,.agg l'=>match x with
  | .agg l=>leL hp ρ l l' |_=>False
 |x,.Ba l'=>match x with
  | .Ba l=>leL hp ρ l l' |_=>False
 |x,.Dv t' y=>match x with
  | .Dv t z=>t=t'/\Fa hp ρ z y |_=>False
 |x,.sh s=>Ee hp x=ay s\/(match x,s with| .Bj,.sl _ n _=>n=0|_,_=>False)
 |x,.G5 st' n' g' i' off'=>match x with
  | .G5 st n g i off=>st=st'/\n=n'/\g=g'/\i=i'/\off=off' |x=>Ee hp x=ay (.pt (g' i'))/\off'=0/\(g' i').length=st'/\i'<n'
 |x,.int k' n'=>match x with
  | .int k n=>k=k'/\n=n' | .sym k n=>k=k'/\n=n' |_=>False
 |x,.bool b'=>match x with
  | .bool b=>b=b' | .test b=>b=b' |_=>False
 | .Fg,.Fg=>True | .Bj,.Bj=>True | .GN,.GN=>True | .Ed,.Ed=>True | .F6,.F6=>True | .glob g,.glob g'=>g=g' | .str l,.str l'=>l=l' | .val v,.val v'=>v=v' |_,_=>False
def leL(hp:List (Nat×SB))(ρ:List (Nat×Rn)):List SV->List SV->Prop
 |[],[]=>True |x::l,y::l'=>Fa hp ρ x y/\leL hp ρ l l' |_,_=>False
end
def leM(hp:List (Nat×SB))(ρ:List (Nat×Rn)):List (SV×SV)->List (SV×SV)->Prop
 |[],[]=>True |(a,b)::l,(a',b')::l'=>Fa hp ρ a a'/\Fa hp ρ b b'/\leM hp ρ l l' |_,_=>False
def valOf:SV->Option Value
 | .int k n=>ay (.int k n) | .sym k n=>ay (.int k n) | .bool b=>ay (.bool b) | .test b=>ay (.bool b) |_=>aN
end Go.Sx
namespace Go.Pl
open Go Go.Sx
def Md(n:Ea)(o:Option Value)(N:Ea->Option Value):Ea->Option Value:=fun j=>if j=n then o else N j
end Go.Pl
namespace Go.Sx
open Go.Pl (Md)
def abd(M:Ea->Option Value):List (Ea×Bool×SV)->Option (Ea->Option Value)
 |[]=>ay M |(n,p,sv)::r=>match abd M r with
  |some N=>match p with
   |true=>(valOf sv).map fun v=>Md n (ay v) N |false=>ay (Md n aN N)
  |none=>aN
theorem al1{H:Mem}{E:Env}{sv:SV}{v x:Value}(h:valOf sv=ay v)(hd:Den H E sv x):x=v:=by
 unfold valOf at h;split at h;all_goals first|cases h
 all_goals exact hd
theorem agJ{H:Mem}{E:Env}{M:Ea->Option Value}:∀{us:List (Ea×Bool×SV)} {uv:List (Ea×Option Value)} {N:Ea->Option Value},abd M us=ay N->V7 H E us uv->RJ M uv=N
 |[],[],N,h,_=>by cases h;rfl |[],_::_,_,_,h=>h.elim |_::_,[],_,_,h=>h.elim |(n,p,sv)::r,(m,o)::uv,N,h,⟨e,hd,hr⟩=>by
  subst e;simp only[abd] at h;split at h
  ·rename_i N' hN
   have ih:=agJ hN hr;cases p with
   |true=>
    cases o with
    |none=>exact hd.elim |some x=>
     simp only at h;cases hv:valOf sv with
     |none=>rw[hv] at h;cases h |some v=>
      rw[hv] at h;cases h;rw[al1 hv hd.1];show (fun j=>if j=m then ay v else RJ M uv j)=_;rw[ih];rfl
   |false=>
    cases o with
    |some x=>exact hd.elim |none=>
     cases h;show (fun j=>if j=m then aN else RJ M uv j)=_;rw[ih];rfl
  ·cases h
theorem adR{vt:VT}{M:Ea->Option Value}(hM:akA vt M):∀{us:List (Ea×Bool×SV)} {N:Ea->Option Value},ani vt us->abd M us=ay N->akA vt N
 |[],N,_,h=>by cases h;exact hM |(n,p,sv)::r,N,hL,h=>by
  simp only[abd] at h;split at h
  ·rename_i N' hN
   have ih:=adR hM (fun u hu=>hL u (dB _ hu)) hN;cases p with
   |true=>
    simp only at h;cases hv:valOf sv with
    |none=>rw[hv] at h;cases h |some v=>
     rw[hv] at h;cases h;have ht:sv.adA vt=aF:=hL (n,aF,sv) cO rfl;intro k x hx;have hx:(if k=n then ay v else N' k)=ay x:=hx;split at hx
     ·cases hx
      cases sv<;>cases vt<;>simp[SV.adA] at ht<;>(unfold valOf at hv;cases hv)
      all_goals first|exact ⟨_,rfl⟩ |skip
      all_goals (rename_i kk _;cases kk<;>simp at ht;exact ⟨_,rfl⟩)
     ·exact ih k x hx
   |false=>
    cases h;intro k x hx;have hx:(if k=n then aN else N' k)=ay x:=hx;split at hx
    ·cases hx
    ·exact ih k x hx
  ·cases h
def leB(hp:List (Nat×SB))(ρ:List (Nat×Rn))(id':Nat):SB->Prop
 | .box cells' e'=>match AA ρ id' with
  |some (.id id)=>match AA hp id with
   |some (.box cells e)=>e=e'/\leL hp ρ cells cells' |_=>False
  |_=>False
 | .row cells' e' st' n'=>match AA ρ id' with
  |some (.id id)=>match AA hp id with
   |some (.row cells e st n)=>e=e'/\st=st'/\n=n'/\leL hp ρ cells cells' |_=>False
  |_=>False
 | .own e' st' n' g'=>match AA ρ id' with
  |some (.id id)=>match WJ hp id with
   |some (e,st,n,g)=>e=e'/\st=st'/\n=n'/\∀i,i<n->g i=g' i |_=>False
  |some .nil=>n'=0 |none=>False
 | .map es'=>match AA ρ id' with
  |some (.id id)=>match AA hp id with
   |some (.map es)=>leM hp ρ es es' |_=>False
  |_=>False
 | .fz _ _ _=>False | .Rt _=>False | .Hl _ _ _ _ _=>False | .fm _ _ _ _ _=>False | .pm vt' M' us'=>match AA ρ id' with
  |some (.id id)=>match AA hp id with
   |some (.pm vt M us)=>us'=[]/\vt=vt'/\abd M us=ay M' |_=>False
  |_=>False
 | .buf e' l'=>match AA ρ id' with
  |some (.id id)=>match AA hp id with
   |some (.buf e l)=>e=e'/\l=l' |_=>False
  |_=>False
def leH(hp:List (Nat×SB))(ρ:List (Nat×Rn)):List (Nat×SB)->Prop
 |[]=>True |(id',sb)::l=>leB hp ρ id' sb/\leH hp ρ l
def KG:List (Nat×Rn)->List Nat
 |[]=>[] |(_,.id i)::l=>i::KG l |_::l=>KG l
def akG(nx:Nat):List (Nat×Rn)->Bool
 |[]=>aF |(j,_)::l=>fZ j nx&&akG nx l
def anP(nx:Nat)(ρ:List (Nat×Rn)):Bool:=KF (KG ρ)&&akG nx ρ
def leC(ρ:List (Nat×Rn))(c c':Core):Prop:=leL c.hp ρ c.tm c'.tm/\leH c.hp ρ c'.hp/\anP c'.nx ρ=aF
end Go.Sx
