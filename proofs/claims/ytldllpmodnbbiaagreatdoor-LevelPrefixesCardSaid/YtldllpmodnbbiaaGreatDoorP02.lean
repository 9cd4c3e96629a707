/- Own work. -/
import Derived.Test.YtldllpmodnbbiaaGreatDoorP01
import Derived.LaidEql
import Derived.Lib.Strings
open Int (ofNat)
open Array renaming getElem?_eq_some_iff->bC,length_toList->dJ
open Bool renaming true->ay,and_eq_true->aB,false->aA
open ByteArray renaming size->rF,mk->tC
open Go.Addr renaming add_lit->dL
open Go.Builtin renaming len_->oK,max_->vV,min_->vW,append_->dQ,lenOf->nP,firstCells->iV
open Go.Instr renaming indexAt->oI,sureAddr->jO,fill->zf,findNow->cu,sameNow->dW,checkKey->iq,lookup->iC,findKey->fQ,findAsking->mF,makeMap->oL
open Go.Op renaming equal->fK,equalIn->eH
open Go.RowKit.Below renaming heap_alloc->kC
open Go.Sem renaming run_bind->gq,run->jT
open Go.Sx.SV renaming okc->xP,one->uH
open Go.Value renaming oneCell'->jr,cells->lF
open List renaming getD_cons_succ->rD,drop_drop->wL,toArray->lW,mem_cons_self->dn,mem_cons_of_mem->bV,mem_of_getElem?->bK,getElem?_eq_some_iff->bf,length_take->kH,length_drop->uI,getElem?_take->fG,getElem?_drop->fO,length_append->cO,getElem?_append_right->iZ
open List.cons renaming injEq->dF
open Nat renaming add_mul->oU,one_mul->oJ,add_comm->yZ,mul_le_mul_right->bW,le_refl->bM,ble->gy,le_of_ble_eq_true->fP,zero_add->fU,blt->fC,zero_le->fH,min_eq_left->pz
open Option renaming some->aj,none->aF,map_eq_some_iff->bH,bind_some->dS
open Option.some renaming injEq->jS
open Prod.mk renaming injEq->jo
namespace Go.Sx
section
variable{P:Program}{C:Ctx}{K:Kx}{H:Mem}{E:Env}{w:World}
theorem Il{x:SV}{n:Int}{u:Value}(h:Iw x=aj n)(hd:Den H E x u):∃k,u=.int k n:=by
 cases x<;>simp[Iw] at h
 all_goals (subst h;exact ⟨_,hd⟩)
theorem V8{i:Int}{n:Nat}(h:Ak.inB i n=ay):0<=i/\i<n:=by grind [Ak]
theorem OQ{elem st n:Nat}{v:Value}{xs:List Value}(h:w.ownsRow 0 elem st v n xs):lenV v=n:=by
 rcases h.2 with ⟨rfl,rfl⟩ |⟨_,_,_,rfl,_⟩<;>rfl
theorem ac4{elem st n:Nat}{v:Value}{xs:List Value}(h:w.ownsRow 0 elem st v n xs)(hn:0<n):∃b cap,v=.slice (aj ⟨b,0,aF⟩) n cap/\Ba v=aj b:=by
 rcases h.2 with ⟨rfl,rfl⟩ |⟨b,cap,_,rfl,_⟩
 ·omega
 ·exact ⟨b,cap,rfl,rfl⟩
theorem S9{t e:Nat}{te:LJ}(hu:P.underlying t=aj (.slice e))(hte:Qo P e te){a:Addr}{n cap:Nat}{k:IntKind}{i:Int}(h0:0<=i)(h1:i<n)(w:World):
  (oI t (.slice (aj a) n cap) (.int k i)).run P w=.ok (.pointer (aj (a.add (i.toNat*te.size)))) w:=by
 simp[oI,asIntOf,run_underlying hu,h0,h1,KE hte]
theorem Xr{x:SV}{n:Int}(h:Iw x=aj n):aoY Ak n x=n.toNat:=by
 cases x<;>simp[Iw] at h
 ·subst h;rfl
 ·rfl
theorem abf{c:Core}{a:Act}{o:Oper}{t e:Nat}{te:LJ}{x y:Operand}{φ:SV×Core->Prop}{m:Nat}{g:ϝ}{n:Int}{k:IntKind}(hu:P.underlying t=aj (.slice e))(hte:Qo P e te)
  (ho:o.op=.indexAddr t x y) (dx:Rep H (.sl te.size m g) (a.eval x)) (ey:a.eval y=.int k n) (h0:0<=n) (h1:n<m) (h:φ (.Iu te.size m g n.toNat 0,c)):QP P H E c a o φ:=by
 generalize hu':a.eval x=u at dx;cases dx with
 |sl0 _ _ A cap hc=>omega |sl _ _ _ b off cap cc a1 a2 a3 a4 a5 a6=>
  refine ⟨_,.pointer (aj ⟨b,off+n.toNat*te.size,aF⟩),h,rfl,⟨b,off+n.toNat*te.size,cc n.toNat,rfl,by omega,a3 _ (by omega),fun j hj=>⟨?_,a5 _ _ (by omega) hj⟩,fun j s hs=>a6 _ _ _ (by omega) hs⟩,fun w'=>?_⟩
  ·simp_all
  ·have:=S9 (P:=P) hu hte (a:=⟨b,off,aF⟩) (n:=m) (cap:=cap) (k:=k) h0 h1 w'
   simp_all [execOp,dL]
theorem abg{φ:SV×Core->Prop}{n:Int}{f:Nat->Tree (SV×Core)}{m:Nat}:∀{k:Nat},k<=m->(m:Int) - k<=n->n<m->(amP Ak n f m k).All φ->∃i:Nat,n=i/\i<m/\(f i).All φ
 |0,_,h1,h2,_=>by omega |k+1,hk,h1,h2,h=>by
  obtain ⟨ha,hb⟩:=h;by_cases e:n=ofNat (m - (k+1))
  ·grind [Ak]
  ·refine abg (k:=k) (by omega) ?_ h2 (hb (by grind [Ak]))
   grind
theorem abh(st:Nat):∀(n:Nat) (l:List Sh) (i:Nat),i<n->Bh (chunks st n l) i=(l.drop (i*st)).take st
 |n+1,l,0,_=>by simp[Bh,chunks] |n+1,l,i+1,h=>by
  have ih:=abh st n (l.drop st) i (by omega);simp only[Bh,chunks,rD] at ih ⊢;simp_all [wL,oU,oJ,yZ]
theorem Ym{c:Core}{a:Act}{o:Oper}{t e m:Nat}{te:LJ}{x y:Operand}{φ:SV×Core->Prop}{g:Nat}{l:List Sh}{n:Int}{k:IntKind}(hu:P.underlying t=aj (.array m e))(hte:Qo P e te)
  (ho:o.op=.indexAddr t x y) (dx:Den H E (.glob g) (a.eval x)) (ey:Den H E (.int k n) (a.eval y)) (hgl:GI H g (.Az l)) (hl:l.length=m*te.size) (h0:0<=n) (h1:n<m)
  (h:φ (.Iu te.size m (Bh (chunks te.size m l)) n.toNat 0,c)):QP P H E c a o φ:=by
 obtain ⟨_,cc,g1,g2⟩:=hgl;have dx:a.eval x=.pointer (aj ⟨g,0,aF⟩):=dx;have ey:a.eval y=.int k n:=ey;have hlt:n.toNat*te.size+te.size<=m*te.size:=by
  calc n.toNat*te.size+te.size=(n.toNat+1)*te.size:=by grind
   _<=m*te.size:=bW _ (by omega)
 have hch:Bh (chunks te.size m l) n.toNat=(l.drop (n.toNat*te.size)).take te.size:=abh _ _ _ _ (by omega);refine ⟨_,.pointer (aj ⟨g,n.toNat*te.size,aF⟩),h,rfl,⟨g,n.toNat*te.size,fun j=>cc (n.toNat*te.size+j),rfl,by omega,?_,fun j hj=>g1 _ (by omega),fun j s hs=>g2 _ _ ?_⟩,fun w'=>?_⟩
 ·grind
 ·grind
 ·simp[execOp,ho,dx,ey,oI,asIntOf,run_underlying hu,h0,h1,KE hte,jO,dL]
theorem Yn{c:Core}{a:Act}{o:Oper}{t:Nat}{x y:Operand}{φ:SV×Core->Prop}(hC:BP P C)(ho:o.op=.indexAddr t x y)(hd:AP H E c.tm a.tmps.toList)
  (hh:Bc K H E w c.hp) (hg:DI C.gls H) (h:(O7 C c t (BU c.tm x) (BU c.tm y)).All φ):QP P H E c a o φ:=by
 have dx:=BM (H:=H) (E:=E) hd x;have dy:=BM (H:=H) (E:=E) hd y;have hA:=hC.A;unfold O7 at h;split at h
 ·rename_i ti hti
  have ht:=(hC.ty _ _ hti).desc;split at h
  ·rename_i e hty
   rw[hty] at ht;split at h
   ·rename_i te hte
    have hte:=hC.ty _ _ hte;split at h
    ·rename_i id n hx hy
     rw[hx] at dx;obtain ⟨k,ey⟩:=Il hy dy;split at h
     ·
      rename_i cells el st m hl;split at h
      ·rename_i k2 n2 hy2
       cases hb:(decide (0<=n2)&&decide (n2<(m:Int))&&st==te.size)<;>simp only[hb,ϰ,ϗ] at h
       ·exact h.elim
       simp only[aB,ϟ,ϡ] at hb;obtain ⟨⟨h0,h1⟩,rfl⟩:=hb;rw[hy2] at dy;simp only[Den] at dy;obtain ⟨v,xs,he,hr,_,_⟩:=hh.ent _ _ hl;have dx2:E id=aj (a.eval x):=dx.1;rw[he] at dx2;cases dx2;obtain ⟨b,cap,hv,hbv⟩:=ac4 hr (by omega);refine ⟨_,.pointer (aj ⟨b,n2.toNat*te.size,aF⟩),h,rfl,⟨b,by simp_all,rfl⟩,fun w'=>?_⟩;have:=S9 (P:=P) ht hte (a:=⟨b,0,aF⟩) (n:=m) (cap:=cap) (k:=k2) h0 h1 w';simp_all [execOp,dL]
      ·exact h.elim
     ·rename_i el st m g hl
      cases hb:(st==te.size)<;>simp only[hb,ϰ,ϗ] at h
      ·exact h.elim
      obtain rfl:st=te.size:=by grind
      obtain ⟨hin,hφ⟩:=h;rw[hA] at hin hφ;obtain ⟨h0,h1⟩:=V8 hin;obtain ⟨v,xs,he,hr,_,_⟩:=hh.ent _ _ hl;have dx2:E id=aj (a.eval x):=dx.1;rw[he] at dx2;cases dx2;obtain ⟨b,cap,hv,hbv⟩:=ac4 hr (by omega);have hidx:=Xr hy;rw[hidx] at hφ;refine ⟨_,.pointer (aj ⟨b,n.toNat*te.size,aF⟩),hφ,rfl,⟨b,_,he,hbv,by rw[OQ hr];omega,rfl⟩,fun w'=>?_⟩;have:=S9 (P:=P) ht hte (a:=⟨b,0,aF⟩) (n:=m) (cap:=cap) (k:=k) h0 h1 w';simp_all [execOp,dL]
     ·rename_i st m g hl
      cases hb:(st==te.size)<;>simp only[hb,ϰ,ϗ] at h
      ·exact h.elim
      obtain rfl:st=te.size:=by grind
      obtain ⟨hin,hφ⟩:=h;rw[hA] at hin hφ;obtain ⟨h0,h1⟩:=V8 hin;rw[Xr hy] at hφ;obtain ⟨v,he,hr⟩:=hh.ent _ _ hl;have dx2:E id=aj (a.eval x):=dx.1;rw[he] at dx2;cases dx2;exact abf ht hte ho hr ey h0 h1 hφ
     ·exact h.elim
    ·rename_i st m g n hx hy
     cases hb:(st==te.size)<;>simp only[hb,ϰ,ϗ] at h
     ·exact h.elim
     obtain rfl:st=te.size:=by grind
     obtain ⟨hin,hφ⟩:=h;rw[hA] at hin hφ;obtain ⟨h0,h1⟩:=V8 hin;rw[hx] at dx;obtain ⟨k,ey⟩:=Il hy dy;have hidx:=Xr hy;rw[hidx] at hφ;exact abf ht hte ho dx ey h0 h1 hφ
    ·exact h.elim
   ·exact h.elim
  ·rename_i m e hty
   rw[hty] at ht;split at h
   ·rename_i te hte
    have hte:=hC.ty _ _ hte;split at h
    ·rename_i g k n hx hy
     rw[hx] at dx;rw[hy] at dy;split at h
     ·rename_i l hl
      cases hb:(decide (0<=n)&&decide (n<(m:Int))&&l.length==m*te.size)<;>simp only[hb,ϰ,ϗ] at h
      ·exact h.elim
      simp only[aB,ϟ,ϡ] at hb;exact Ym ht hte ho dx dy (hg.at_ _ _ hl) hb.2 hb.1.1 hb.1.2 h
     ·exact h.elim
    ·rename_i g k n hx hy
     rw[hx] at dx;rw[hy] at dy;split at h
     ·rename_i l hl
      cases hb:(l.length==m*te.size)<;>simp only[hb,ϰ,ϗ] at h
      ·exact h.elim
      obtain ⟨hin,h⟩:=h;rw[hA] at hin h;obtain ⟨h0,h1⟩:=V8 hin;obtain ⟨i,hi,hi2,hq⟩:=abg (bM _) (by omega) h1 h;subst hi;exact Ym ht hte ho dx dy (hg.at_ _ _ hl) (by grind) h0 h1 (by assumption)
     ·exact h.elim
    ·exact h.elim
   ·exact h.elim
  ·exact h.elim
 ·exact h.elim
def Yo(op:BinOp)(k:IntKind)(a b:Int):Option Value:=
 match op with
 | .add=>aj (.int k (k.wrap (a+b))) | .sub=>aj (.int k (k.wrap (a - b))) | .mul=>aj (.int k (k.wrap (a*b))) | .eql=>aj (.bool (a==b)) | .neq=>aj (.bool (!(a==b))) | .lss=>aj (.bool (decide (a<b))) | .leq=>aj (.bool (decide (a<=b))) | .gtr=>aj (.bool (decide (b<a))) | .geq=>aj (.bool (decide (b<=a))) |_=>aF
theorem Yp{op:BinOp}{k:IntKind}{a b:Int}{v:Value}(h:Yo op k a b=aj v)(t:Nat)(x y:Operand)(w:World):
  (do eqGuard op t x y (.int k a) (.int k b);binOp op t (.int k a) (.int k b):Sem Value).run P w=.ok v w:=by
 cases op<;>simp[Yo] at h<;>subst h<;>simp[eqGuard_at_int,binOp,Op.intArith,Op.intCmp,bne]
theorem Tc{A:Prim}(hA:A=Ak){op:BinOp}{k:IntKind}{a b:Int}{sv:SV}(h:orO ((X7 A op k a b).map (.sym k)) ((ajB A op a b).map .test)=aj sv):
  ∃v,Yo op k a b=aj v/\Den H E sv v:=by
 subst hA;cases op<;>simp[X7,ajB,orO] at h<;>subst h<;>exact ⟨_,rfl,rfl⟩
theorem afR{op:BinOp}{k:IntKind}{a b:Int}{sv:SV}(h:orO ((ahP op k a b).map (.int k)) ((cmpL op a b).map .bool)=aj sv):
  ∃v,Yo op k a b=aj v/\Den H E sv v:=by
 cases op<;>simp[ahP,cmpL,orO] at h<;>subst h<;>exact ⟨_,rfl,rfl⟩
theorem ajL{t:Nat}(hu:P.underlying t=aj .bool)(a b:Bool)(w:World):(fK t (.bool a) (.bool b)).run P w=.ok (a==b) w:=by
 have:∀d:Nat,(eH (d+1) t (.bool a) (.bool b)).run P w=.ok (a==b) w:=fun d=>by simp[eH,run_underlying hu]
 exact this 9999
theorem V9{t:Nat}(hu:P.underlying t=aj .bool)(a b:Bool)(x y:Operand)(w:World):
  (do eqGuard .eql t x y (.bool a) (.bool b);binOp .eql t (.bool a) (.bool b):Sem Value).run P w=.ok (.bool (a==b)) w/\
  (do eqGuard .neq t x y (.bool a) (.bool b);binOp .neq t (.bool a) (.bool b):Sem Value).run P w=.ok (.bool (!(a==b))) w:=by
 simp_all [eqGuard_at_bool,binOp,ajL]
theorem afS(l:List UInt8):(⟨l.toArray⟩:ByteArray).toList=l:=Lib.toList_data _
theorem Yq(l l':List UInt8)(t:Nat)(x y:Operand)(w:World):
  (do eqGuard .eql t x y (.string ⟨l.toArray⟩) (.string ⟨l'.toArray⟩);binOp .eql t (.string ⟨l.toArray⟩) (.string ⟨l'.toArray⟩):Sem Value).run P w=.ok (.bool (l==l')) w/\
  (do eqGuard .neq t x y (.string ⟨l.toArray⟩) (.string ⟨l'.toArray⟩);binOp .neq t (.string ⟨l.toArray⟩) (.string ⟨l'.toArray⟩):Sem Value).run P w=.ok (.bool (!(l==l'))) w:=by
 simp_all [eqGuard_at_string,binOp,Op.stringOp]
theorem Rx{l:List UInt8}{v:Value}(h:Rep H (.str l) v):v=.string ⟨l.toArray⟩:=by
 cases h;rfl
theorem ac5{A:Prim}(hA:A=Ak){op:BinOp}{l l':List UInt8}{sv:SV}(h:eqS A op l l'=aj sv)(t:Nat)(x y:Operand):
  ∃r,Den H E sv r/\∀w,(do eqGuard op t x y (.string ⟨l.toArray⟩) (.string ⟨l'.toArray⟩);binOp op t (.string ⟨l.toArray⟩) (.string ⟨l'.toArray⟩):Sem Value).run P w=.ok r w:=by
 subst hA;cases op<;>simp[eqS] at h<;>subst h
 ·exact ⟨_,rfl,fun w=>(Yq l l' t x y w).1⟩
 ·exact ⟨_,rfl,fun w=>(Yq l l' t x y w).2⟩
theorem asL{A:Prim}(hA:A=Ak){op:BinOp}{a b:Bool}{sv:SV}{t:Nat}(hu:P.underlying t=aj .bool)(h:eqB A op a b=aj sv)(x y:Operand):
  ∃r,Den H E sv r/\∀w,(do eqGuard op t x y (.bool a) (.bool b);binOp op t (.bool a) (.bool b):Sem Value).run P w=.ok r w:=by
 subst hA;cases op<;>simp[eqB] at h<;>subst h
 ·exact ⟨_,rfl,fun w=>(V9 hu a b x y w).1⟩
 ·exact ⟨_,rfl,fun w=>(V9 hu a b x y w).2⟩
theorem Xt:∀{l:List SV} {ns:List Cq} {vs:List Value},QJ l=aj ns->AP H E l vs->vs=ns.map Cq.v
 |[],_,[],h,_=>by simp_all [QJ] |s::l,ns,v::vs,h,⟨hd,hr⟩=>by
  unfold QJ at h;split at h
  ·simp_all
  all_goals first
   |(rename_i n r e
     cases e;cases hr2:QJ l with
     |none=>grind |some m=>simp[hr2] at h;subst h;rw[Xt hr2 hr];simp only[Den] at hd;subst hd;rfl)
   |cases h
 |[],_,_::_,_,h=>h.elim |_::_,_,[],_,h=>h.elim
theorem UZ:∀{xs ys:List Cq} {z:List SV},DX xs z=ay->DX ys z=ay->SK Ak xs ys=decide (xs=ys)
 |[],[],_,_,_=>by simp[SK] | .i x::xs,.i y::ys,z,h1,h2=>by
  cases z with
  |nil=>simp[DX] at h1 |cons a z=>
   have h1':DX xs z=ay:=by
    unfold DX at h1;grind
   have h2':DX ys z=ay:=by
    unfold DX at h2;grind
   have ih:=UZ h1' h2';simp only[SK,ih];show (bif x==y then decide (xs=ys) else aA)=_;grind
 | .b x::xs,.b y::ys,z,h1,h2=>by
  cases z with
  |nil=>simp[DX] at h1 |cons a z=>
   have h1':DX xs z=ay:=by
    unfold DX at h1;grind
   have h2':DX ys z=ay:=by
    unfold DX at h2;grind
   have ih:=UZ h1' h2';simp only[SK,ih];show (bif x==y then decide (xs=ys) else aA)=_;grind
 | .i x::xs,.b y::ys,z,h1,h2=>by
  cases z with
  |nil=>simp[DX] at h1 |cons a z=>cases a<;>simp[DX] at h1 h2
 | .b x::xs,.i y::ys,z,h1,h2=>by
  cases z with
  |nil=>simp[DX] at h1 |cons a z=>cases a<;>simp[DX] at h1 h2
 |[],y::ys,z,h1,h2=>by
  grind [DX]
 |x::xs,[],z,h1,h2=>by
  grind [DX]
theorem ao2{t:Nat}{ps rs:Array TypeId}{b:Bool}(hu:P.underlying t=aj (.func ps rs b))(f:Fn)(x y:Array Value)(w:World):
  (fK t (.func f x y) .nilFunc).run P w=.ok aA w/\(fK t .nilFunc .nilFunc).run P w=.ok ay w:=by
 have:∀d:Nat,(eH (d+1) t (.func f x y) .nilFunc).run P w=.ok aA w/\(eH (d+1) t .nilFunc .nilFunc).run P w=.ok ay w:=
  fun d=>by constructor<;>simp[eH,run_underlying hu]
 exact this 9999
theorem acy{t e:Nat}(hu:P.underlying t=aj (.pointer e))(a:Addr)(w:World):
  (fK t (.pointer (aj a)) (.pointer aF)).run P w=.ok aA w/\(fK t (.pointer aF) (.pointer aF)).run P w=.ok ay w:=by
 have:∀d:Nat,(eH (d+1) t (.pointer (aj a)) (.pointer aF)).run P w=.ok aA w/\(eH (d+1) t (.pointer aF) (.pointer aF)).run P w=.ok ay w:=
  fun d=>by constructor<;>simp[eH,run_underlying hu]
 exact this 9999
theorem Yr{t:Nat}{ms:Array (String×TypeId)}(hu:P.underlying t=aj (.interface ms))(d:Nat)(u:Value)(w:World):
  (fK t (.iface d u) .nilIface).run P w=.ok aA w/\(fK t .nilIface (.iface d u)).run P w=.ok aA w/\(fK t .nilIface .nilIface).run P w=.ok ay w:=by
 have:∀n:Nat,(eH (n+1) t (.iface d u) .nilIface).run P w=.ok aA w/\(eH (n+1) t .nilIface (.iface d u)).run P w=.ok aA w/\(eH (n+1) t .nilIface .nilIface).run P w=.ok ay w:=
  fun n=>by refine ⟨?_,?_,?_⟩<;>simp[eH,run_underlying hu]
 exact this 9999
theorem EK{op:BinOp}{r:Bool}{sv:SV}{t:Nat}{u v:Value}{ox oy:Operand}(h:Ew op r=aj sv)(hg:eqGuard op t ox oy u v=pure ())
  (he:binOp .eql t u v=(do pure (.bool (<-fK t u v)))) (hn:binOp .neq t u v=(do pure (.bool (!(<-fK t u v))))) (hw:∀w,(fK t u v).run P w=.ok r w) :
  ∃r,Den H E sv r/\∀w,(do eqGuard op t ox oy u v;binOp op t u v:Sem Value).run P w=.ok r w:=by
 cases op<;>simp[Ew] at h<;>subst h
 ·exact ⟨_,rfl,fun w=>by simp_all⟩
 ·exact ⟨_,rfl,fun w=>by simp_all⟩
theorem ajM{T:Nat}{x:Sh}{u:Value}(h:Rep H (.DK T x) u):∃v,u=.iface T v:=by
 cases h;simp
theorem ao3{g T:Nat}{u:Value}(h:Rep H (.er g T) u):∃T v,u=.iface T v:=by
 cases h;simp
theorem ajN{g T:Nat}{u:Value}(h:Rep H (.er g T) u):∃v,u=.iface T v:=by
 cases h;simp
theorem ah1{g T:Nat}{u v:Value}(h:Rep H (.er g T) u)(h':Rep H (.er g T) v):∃b,u=.iface T (.pointer (aj b))/\v=u:=by
 cases h with
 |er _ _ b cs e h1 h2=>
  cases h' with
  |er _ _ b' cs' e' h1' h2'=>
   simp_all
theorem azQ{t T e:Nat}{ms:Array (String×TypeId)}{inf ie:TypeInfo}(hu:P.underlying t=aj (.interface ms))(h1:P.info? T=aj inf)(h2:inf.comparable=ay)(h3:P.underlying T=aj (.pointer e))(h4:P.info? e=aj ie)(_h5:ie.size≠0)(b:Addr)(w:World):
  (fK t (.iface T (.pointer (aj b))) (.iface T (.pointer (aj b)))).run P w=.ok ay w:=by
 have:∀n:Nat,(eH (n+2) t (.iface T (.pointer (aj b))) (.iface T (.pointer (aj b)))).run P w=.ok ay w:=
  fun n=>by simp[eH,run_underlying hu,run_underlying h3,typeInfo,sizeOf,h1,h2,h4,sameAddr]
 exact this 9998
theorem ajO{gls:List (Nat×Sh)}{g T:Nat}(h:ags gls g T=ay):Aq gls g=aj (.er g T):=by
 grind [ags]
theorem afT{H:Mem}{g g' T:Nat}{u v:Value}(ha:hcell H g 0≠hcell H g' 0)(dx:Rep H (.er g T) u)(dy:Rep H (.er g' T) v):∃b b',u=.iface T (.pointer (aj b))/\v=.iface T (.pointer (aj b'))/\b≠b'/\
  (∃cs e,H b.block=aj (.cells cs e (0,0)))/\∃cs e,H b'.block=aj (.cells cs e (0,0)):=by
 cases dx with
 |er _ _ b cs e h1 h2=>
  cases dy with
  |er _ _ b' cs' e' h1' h2'=>simp_all
theorem aqE{t T e:Nat}{ms:Array (String×TypeId)}{inf ie:TypeInfo}(hu:P.underlying t=aj (.interface ms))(h1:P.info? T=aj inf)(h2:inf.comparable=ay)(h3:P.underlying T=aj (.pointer e))(h4:P.info? e=aj ie)(h5:ie.size≠0){b b':Addr}(hb:b≠b')(w:World)
  {cs cs':Array Value} {ec ec':TypeId} (g1:w.heap[b.block]?=aj (.cells cs ec (0,0))) (g2:w.heap[b'.block]?=aj (.cells cs' ec' (0,0))) :
  (fK t (.iface T (.pointer (aj b))) (.iface T (.pointer (aj b')))).run P w=.ok aA w:=by
 have hs:=run_sameAddr_other (P:=P) w hb g1 g2;have:∀n:Nat,(eH (n+2) t (.iface T (.pointer (aj b))) (.iface T (.pointer (aj b')))).run P w=.ok aA w:=
  fun n=>by simp[eH,run_underlying hu,run_underlying h3,typeInfo,sizeOf,h1,h2,h4,h5,hs]
 exact this 9998
theorem ajP{Pw:World->Prop}{op:BinOp}{r:Bool}{sv:SV}{t:Nat}{u v:Value}{ox oy:Operand}(h:Ew op r=aj sv)(hg:eqGuard op t ox oy u v=pure ())
  (he:binOp .eql t u v=(do pure (.bool (<-fK t u v)))) (hn:binOp .neq t u v=(do pure (.bool (!(<-fK t u v))))) (hw:∀w,Pw w->(fK t u v).run P w=.ok r w) :
  ∃r,Den H E sv r/\∀w,Pw w->(do eqGuard op t ox oy u v;binOp op t u v:Sem Value).run P w=.ok r w:=by
 cases op<;>simp[Ew] at h<;>subst h
 ·exact ⟨_,rfl,fun w hp=>by simp_all⟩
 ·exact ⟨_,rfl,fun w hp=>by simp_all⟩
theorem ac6{t T T':Nat}{ms:Array (String×TypeId)}(hu:P.underlying t=aj (.interface ms))(hT:T≠T')(u v:Value)(w:World):
  (fK t (.iface T u) (.iface T' v)).run P w=.ok aA w:=by
 have:∀n:Nat,(eH (n+2) t (.iface T u) (.iface T' v)).run P w=.ok aA w:=
  fun n=>by simp[eH,run_underlying hu,hT]
 exact this 9998
theorem amY{op:BinOp}{t:Nat}{ox oy:Operand}(h:(isConst ox||isConst oy)=ay):eqGuard op t ox oy .nilIface .nilIface=pure ():=by
 (cases ox<;>cases oy<;>simp[isConst] at h)<;>simp_all [eqGuard_nil_constL,eqGuard_nil_constR]
theorem amZ{t:Nat}{op:BinOp}{x y:SV}{sv:SV}{u v:Value}{ox oy:Operand}(hC:BP P C)(hg:DI C.gls H){i:LJ}(hi:C.tys.get t=aj i)
  (dx:Den H E x u) (dy:Den H E y v) (h:aoV C.Xg C.gls op i.ty (isConst ox||isConst oy) x y=aj sv) :
  ∃r,Den H E sv r/\∀w,((LV x&&LV y)=ay->H.on w)->(do eqGuard op t ox oy u v;binOp op t u v:Sem Value).run P w=.ok r w:=by
 have hd:=(hC.ty _ _ hi).desc;unfold aoV at h;cases hb:(ay0 C.Xg x&&FV i.ty x&&FV i.ty y&&((isConst ox||isConst oy) || !(X8 x&&X8 y)))<;>simp only[hb,ϰ,ϗ] at h
 ·cases h
 rw[aB,aB,aB] at hb;obtain ⟨⟨⟨fe,fx⟩,fy⟩,hlit⟩:=hb;have fin:(∃r,Den H E sv r/\∀w,(do eqGuard op t ox oy u v;binOp op t u v:Sem Value).run P w=.ok r w)->∃r,Den H E sv r/\∀w,((LV x&&LV y)=ay->H.on w)->(do eqGuard op t ox oy u v;binOp op t u v:Sem Value).run P w=.ok r w:=
  fun ⟨r,h1,h2⟩=>⟨r,h1,fun w _=>h2 w⟩
 unfold asu at h;split at h
 ·apply fin
  cases hty:i.ty<;>rw[hty] at fx hd<;>simp[FV] at fx
  obtain ⟨_,_,_,hd⟩:=hd;obtain ⟨vs,rfl,_⟩:=dx;obtain rfl:v=_:=dy;exact EK h (eqGuard_at_func ..) rfl rfl fun w=>(ao2 hd _ _ _ w).1
 ·apply fin
  cases hty:i.ty<;>rw[hty] at fx hd<;>simp[FV] at fx
  obtain ⟨_,_,_,hd⟩:=hd;obtain rfl:u=_:=dx;obtain rfl:v=_:=dy;exact EK h (eqGuard_at_nilFunc ..) rfl rfl fun w=>(ao2 hd (.func 0) #[] #[] w).2
 ·apply fin
  cases hty:i.ty<;>rw[hty] at fx hd<;>simp[FV] at fx
  obtain ⟨b,_,rfl⟩:=dx;obtain rfl:v=_:=dy;exact EK h (eqGuard_at_pointer ..) rfl rfl fun w=>(acy hd _ w).1
 ·apply fin
  cases hty:i.ty<;>rw[hty] at fx hd<;>simp[FV] at fx
  obtain ⟨b,o,cc,rfl,_⟩:=dx;obtain rfl:v=_:=dy;exact EK h (eqGuard_at_pointer ..) rfl rfl fun w=>(acy hd _ w).1
 ·apply fin
  cases hty:i.ty<;>rw[hty] at fx hd<;>simp[FV] at fx
  obtain ⟨rfl,_⟩:=dx;obtain rfl:v=_:=dy;exact EK h (eqGuard_at_pointer ..) rfl rfl fun w=>(acy hd _ w).1
 ·apply fin
  cases hty:i.ty<;>rw[hty] at fx hd<;>simp[FV] at fx
  obtain rfl:u=_:=dx;obtain rfl:v=_:=dy;exact EK h (eqGuard_at_pointer ..) rfl rfl fun w=>(acy hd ⟨0,0,aF⟩ w).2
 ·apply fin
  cases hty:i.ty<;>rw[hty] at fx hd<;>simp[FV] at fx
  obtain ⟨_,hd⟩:=hd;obtain ⟨_,rfl,_⟩:=dx;obtain rfl:v=_:=dy;exact EK h (eqGuard_at_iface ..) rfl rfl fun w=>(Yr hd _ _ w).1
 ·apply fin
  cases hty:i.ty<;>rw[hty] at fx hd<;>simp[FV] at fx
  obtain ⟨_,hd⟩:=hd;obtain ⟨_,rfl⟩:=ajM dx;obtain rfl:v=_:=dy;exact EK h (eqGuard_at_iface ..) rfl rfl fun w=>(Yr hd _ _ w).1
 ·apply fin
  cases hty:i.ty<;>rw[hty] at fx hd<;>simp[FV] at fx
  obtain ⟨_,hd⟩:=hd;obtain ⟨_,_,rfl⟩:=ao3 dx;obtain rfl:v=_:=dy;exact EK h (eqGuard_at_iface ..) rfl rfl fun w=>(Yr hd _ _ w).1
 ·apply fin
  cases hty:i.ty<;>rw[hty] at fx hd<;>simp[FV] at fx
  obtain ⟨_,hd⟩:=hd;obtain rfl:u=_:=dx;obtain rfl:v=_:=dy;exact EK h (amY (by simp_all [X8])) rfl rfl fun w=>(Yr hd 0 .nilFunc w).2.2
 ·rename_i g T g' T'
  cases hgg:(g==g'&&T==T')<;>simp only[hgg,ϰ,ϗ] at h
  ·cases hga:(ags C.gls g T&&ags C.gls g' T'&&T==T' && !(g==g'))<;>simp only[hga,ϰ,ϗ] at h
   ·cases h
   simp only[aB,ϡ,Bool.not_eq_true',beq_eq_false_iff_ne] at hga;obtain ⟨⟨⟨l1,l2⟩,rfl⟩,hne⟩:=hga;cases hty:i.ty<;>rw[hty] at fx hd<;>simp[FV] at fx
   obtain ⟨_,hd⟩:=hd;obtain ⟨b,b',rfl,rfl,hbb,⟨cs,ec,g1⟩,cs',ec',g2⟩:=afT (hg.apart g g' T T (ajO l1) (ajO l2) hne) dx dy;obtain ⟨inf,e,ie,q1,q2,q3,q4,q5⟩:=hC.Xg T fe;exact ajP (Pw:=fun w=>(LV (.sh (.er g T))&&LV (.sh (.er g' T)))=ay->H.on w) h (eqGuard_at_iface ..) rfl rfl fun w hon=>aqE hd q1 q2 q3 q4 q5 hbb w (hon rfl _ _ g1) (hon rfl _ _ g2)
  apply fin;simp only[aB,ϡ] at hgg;obtain ⟨rfl,rfl⟩:=hgg;cases hty:i.ty<;>rw[hty] at fx hd<;>simp[FV] at fx
  obtain ⟨_,hd⟩:=hd;obtain ⟨b,rfl,rfl⟩:=ah1 dx dy;obtain ⟨inf,e,ie,q1,q2,q3,q4,q5⟩:=hC.Xg T fe;exact EK h (eqGuard_at_iface ..) rfl rfl fun w=>azQ hd q1 q2 q3 q4 q5 b w
 ·apply fin
  cases hty:i.ty<;>rw[hty] at fx hd<;>simp[FV] at fx
  obtain ⟨_,hd⟩:=hd;obtain rfl:u=_:=dx;obtain ⟨_,_,rfl⟩:=ao3 dy;exact EK h (eqGuard_nil_iface ..) rfl rfl fun w=>(Yr hd _ _ w).2.1
 ·rename_i t1 x1 g T
  apply fin;cases hty:i.ty<;>rw[hty] at fx hd<;>simp[FV] at fx
  obtain ⟨_,hd⟩:=hd;cases hT:(t1==T)<;>simp only[hT,ϰ,ϗ] at h
  ·have hT:t1≠T:=by grind
   obtain ⟨_,rfl,_⟩:=dx;obtain ⟨_,rfl⟩:=ajN dy;exact EK h (eqGuard_at_iface ..) rfl rfl fun w=>ac6 hd hT _ _ w
  ·cases h
 ·rename_i t1 x1 g T
  apply fin;cases hty:i.ty<;>rw[hty] at fx hd<;>simp[FV] at fx
  obtain ⟨_,hd⟩:=hd;cases hT:(t1==T)<;>simp only[hT,ϰ,ϗ] at h
  ·have hT:t1≠T:=by grind
   obtain ⟨_,rfl⟩:=ajM dx;obtain ⟨_,rfl⟩:=ajN dy;exact EK h (eqGuard_at_iface ..) rfl rfl fun w=>ac6 hd hT _ _ w
  ·cases h
 ·cases h
theorem asM{c:Core}{a:Act}{o:Oper}{op:BinOp}{t t2:Nat}{x y:Operand}{φ:SV×Core->Prop}(hC:BP P C)(hg:DI C.gls H)(ho:o.op=.binOp op t x y t2)(hd:AP H E c.tm a.tmps.toList)
  (h:(Ns c (asw C op t (isConst x||isConst y) (BU c.tm x) (BU c.tm y))).All φ):∃(p:SV×Core) (v:Value),φ p/\p.2=c/\Den H E p.1 v/\∀w',((LV (BU c.tm x)&&LV (BU c.tm y))=ay->H.on w')->(execOp a.eval o).run P w'=.ok (.value v) w':=by
 obtain ⟨sv,hs,hφ⟩:=IL h;have dx:=BM (H:=H) (E:=E) hd x;have dy:=BM (H:=H) (E:=E) hd y;have hA:=hC.A;suffices hk:∃r,Den H E sv r/\∀w,((LV (BU c.tm x)&&LV (BU c.tm y))=ay->H.on w)->(do eqGuard op t x y (a.eval x) (a.eval y);binOp op t (a.eval x) (a.eval y):Sem Value).run P w=.ok r w by
  obtain ⟨r,h1,h2⟩:=hk;refine ⟨_,r,hφ,rfl,h1,fun w' hon=>?_⟩;have:=h2 w' hon;simp only[execOp,ho];simp only[gq] at this ⊢;rw[this];rfl
 generalize hu:a.eval x=u at dx ⊢;generalize hv:a.eval y=v at dy ⊢;unfold asw at hs;split at hs;case h_1 k n l m hx hy=>
  rw[hx] at dx;rw[hy] at dy;cases hb:(k==l)<;>simp only[hb,ϰ,ϗ] at hs
  ·cases hs
  obtain rfl:k=l:=by grind
  obtain ⟨r,hr,hden⟩:=afR (H:=H) (E:=E) hs;grind [Den,Yp]
 case h_2 k n l m hx hy=>
  rw[hx] at dx;rw[hy] at dy;cases hb:(k==l)<;>simp only[hb,ϰ,ϗ] at hs
  ·cases hs
  obtain rfl:k=l:=by grind
  obtain ⟨r,hr,hden⟩:=Tc (H:=H) (E:=E) hA hs;grind [Den,Yp]
 case h_3 k n l m hx hy=>
  rw[hx] at dx;rw[hy] at dy;cases hb:(k==l)<;>simp only[hb,ϰ,ϗ] at hs
  ·cases hs
  obtain rfl:k=l:=by grind
  obtain ⟨r,hr,hden⟩:=Tc (H:=H) (E:=E) hA hs;grind [Den,Yp]
 case h_4 k n l m hx hy=>
  rw[hx] at dx;rw[hy] at dy;cases hb:(k==l)<;>simp only[hb,ϰ,ϗ] at hs
  ·cases hs
  obtain rfl:k=l:=by grind
  obtain ⟨r,hr,hden⟩:=Tc (H:=H) (E:=E) hA hs;grind [Den,Yp]
 case h_5 k l hx hy=>
  rw[hx] at dx;rw[hy] at dy;simp only[Den] at dx dy;subst dx;subst dy;cases op<;>simp at hs<;>subst hs
  ·exact ⟨_,rfl,fun w _=>(Yq k l t x y w).1⟩
  ·exact ⟨_,by rfl,fun w _=>(Yq k l t x y w).2⟩
 case h_6 k l hx hy=>
  rw[hx] at dx;rw[hy] at dy;obtain rfl:=Rx dy;simp only[Den] at dx;subst dx;obtain ⟨r,h1,h2⟩:=ac5 (P:=P) (H:=H) (E:=E) hA hs t x y;grind
 case h_7 k l hx hy=>
  rw[hx] at dx;rw[hy] at dy;obtain rfl:=Rx dx;simp only[Den] at dy;subst dy;obtain ⟨r,h1,h2⟩:=ac5 (P:=P) (H:=H) (E:=E) hA hs t x y;grind
 case h_8 k l hx hy=>
  rw[hx] at dx;rw[hy] at dy;obtain rfl:=Rx dx;obtain rfl:=Rx dy;obtain ⟨r,h1,h2⟩:=ac5 (P:=P) (H:=H) (E:=E) hA hs t x y;grind
 case h_9 k l hx hy=>
  rw[hx] at dx;rw[hy] at dy;obtain ⟨vs,rfl,dl⟩:=dx;obtain ⟨vs',rfl,dl'⟩:=dy;split at hs
  ·rename_i m n i hm hn hi
   cases hb:(C.eqs.contains t&&DX m i.zero&&DX n i.zero)<;>simp only[hb,ϰ,ϗ] at hs
   ·cases hs
   simp only[aB] at hb;obtain ⟨⟨h1,h2⟩,h3⟩:=hb;have e1:=Xt hm dl;have e2:=Xt hn dl';have e1':vs=(m.map Cq.v).toArray:=by rw[<-e1]
   have e2':vs'=(n.map Cq.v).toArray:=by rw[<-e2]
   subst e1' e2';have hE:=fun w=>hC.eqs t i h1 hi m n w h2 h3 x y
   have hq:=UZ h2 h3;rw[hA] at hs;cases op<;>simp at hs<;>subst hs
   ·exact ⟨_,rfl,fun w _=>by simp_all⟩
   ·exact ⟨_,rfl,fun w _=>by simp_all [Ak,decide]⟩
  ·cases hs
 case h_10=>
  split at hs
  ·cases hs
  ·rename_i i hi
   split at hs
   ·rename_i hty
    have ht:=(hC.ty _ _ hi).desc;rw[hty] at ht;have fin:(∃r,Den H E sv r/\∀w,(do eqGuard op t x y u v;binOp op t u v:Sem Value).run P w=.ok r w)->∃r,Den H E sv r/\∀w,((LV (BU c.tm x)&&LV (BU c.tm y))=ay->H.on w)->(do eqGuard op t x y u v;binOp op t u v:Sem Value).run P w=.ok r w:=
     fun ⟨r,h1,h2⟩=>⟨r,h1,fun w _=>h2 w⟩
    apply fin;unfold asv at hs;split at hs
    ·rename_i p q hp hq
     rw[hp] at dx;rw[hq] at dy;simp only[Den] at dx dy;subst dx dy;cases op<;>simp at hs<;>subst hs
     ·exact ⟨_,rfl,fun w=>(V9 ht p q x y w).1⟩
     ·exact ⟨_,by rfl,fun w=>(V9 ht p q x y w).2⟩
    all_goals first
     |(rename_i p q hp hq
       rw[hp] at dx;rw[hq] at dy;simp only[Den] at dx dy;subst dx dy;exact asL hA ht hs x y)
     |cases hs
   ·exact amZ hC hg hi dx dy hs
theorem QO{x:SV}{u:Value}(hk:x.okc=ay)(h:Den H E x u):AP H E x.cells u.cells.toList:=by
 cases x;case any=>simp[xP] at hk
 case ev=>simp[xP] at hk
 case agg l=>obtain ⟨vs,rfl,hl⟩:=h;exact hl
 case sh s=>
  have h':=h;have h:Rep H s u:=h;have key:u.cells=#[u]:=by
   cases h;case agg l vs a1 a2=>simp[xP] at hk
   case v h1=>cases u<;>simp[jr,lF] at h1 ⊢
   all_goals rfl
  rw[key];exact ⟨h',ϖ⟩
 all_goals
  have h':=h;have key:u.cells=#[u]:=by
   first
    |(simp only[Den] at h;subst h;rfl)
    |(obtain ⟨rfl,h1⟩:=h;cases u<;>simp[jr,lF] at h1 ⊢;done)
    |(obtain ⟨_,_,rfl⟩:=h;rfl)
    |(obtain ⟨_,_,_,_,rfl⟩:=h;rfl)
    |(obtain ⟨_,_,_,_,_,rfl⟩:=h;rfl)
    |(obtain ⟨_,rfl,_⟩:=h;rfl)
    |(obtain ⟨_,_,_,rfl,_⟩:=h;rfl)
  rw[key];exact ⟨h',ϖ⟩
theorem ac8:∀{xs:List SV} {vs:List Value},AP H E xs vs->∀{z:List SV} {cells:Array Value} (off k:Nat),AP H E z cells.toList->
  AP H E (setAt z (off+k) xs) ((vs.zipIdx k).foldl (fun (cs:Array Value) (p:Value×Nat)=>cs.setIfInBounds (off+p.2) p.1) cells).toList
 |[],[],_,_,_,_,_,hz=>hz |x::xs,v::vs,⟨hx,hxs⟩,z,cells,off,k,hz=>by
  simp only[setAt,List.zipIdx_cons,List.foldl_cons];have:=ac8 hxs (z:=z.set (off+k) x) (cells:=cells.setIfInBounds (off+k) v) off (k+1) (by rw[Array.toList_setIfInBounds];exact hz.set _ hx);omega
 |[],_::_,h,_,_,_,_,_=>h.elim |_::_,[],h,_,_,_,_,_=>h.elim
theorem QS:∀(xs z:List SV) (off:Nat),(setAt z off xs).length=z.length
 |[],_,_=>rfl |x::xs,z,off=>by rw[setAt,QS xs];simp
theorem Z4{place place':Nat->Option (Nat×Nat)}(hp:∀(i off size:Nat),place' i=aj (off,size)->place i=aj (off,size)){tm:List SV}{a:Act}(hd:AP H E tm a.tmps.toList):
  ∀(parts:List (Nat×Operand)) {z l:List SV} {cells:Array Value},AP H E z cells.toList->SI place' (BU tm) z parts=aj l->
   ∃cells',zf place cells (parts.map fun p=>(p.1,a.eval p.2))=aj cells'/\AP H E l cells'.toList
 |[],z,l,cells,hz,h=>by simp[SI] at h;subst h;exact ⟨cells,rfl,hz⟩ |(i,x)::r,z,l,cells,hz,h=>by
  unfold SI at h;split at h
  ·rename_i off size hpl
   cases hb:((BU tm x).okc&&(BU tm x).cells.length==size&&gy (off+size) z.length)<;>simp only[hb,ϰ,ϗ] at h
   ·cases h
   simp only[aB,ϡ] at hb;obtain ⟨⟨h1,h2⟩,h3⟩:=hb;have h3:=fP h3;have hv:=QO h1 (BM hd x);have hlv:=hv.length;have hlz:=hz.length;have:=ac8 hv (z:=z) (cells:=cells) off 0 hz;obtain ⟨cells',e1,e2⟩:=Z4 hp hd r this h;refine ⟨cells',?_,e2⟩;simp only[List.map_cons,zf,hp _ _ _ hpl];rw[if_neg]
   ·grind [Array.toList_zipIdx]
   simp_all
  ·cases h
theorem abj:∀(fs:List Field) (ps:List (Nat×Nat×Bool)),fs.length=ps.length->(∀(j:Nat) (f:Field),fs[j]?=aj f->∃inf:TypeInfo,P.info? f.type=aj inf/\∃b,ps[j]?=aj (f.offset,inf.size,b))->
  fs.mapM (fun f=>(P.info? f.type).map fun i=>(f.offset,i.size))=aj (ps.map fun p=>(p.1,p.2.1))
 |[],[],_,_=>rfl |f::fs,p::ps,hl,h=>by
  obtain ⟨inf,h1,b,h2⟩:=h 0 f rfl;have ih:=abj fs ps (by grind) fun j f' hf=>h (j+1) f' (by grind);simp_all
 |[],_::_,h,_=>by simp at h |_::_,[],h,_=>by simp at h
theorem ajQ{c:Core}{a:Act}{o:Oper}{t:Nat}{parts:Array (Nat×Operand)}{φ:SV×Core->Prop}(hC:BP P C)(ho:o.op=.build t parts)(hd:AP H E c.tm a.tmps.toList)
  (h:(Xi C c t parts.toList).All φ):QP P H E c a o φ:=by
 unfold Xi at h;split at h
 ·rename_i i hi
  have ht:=hC.ty _ _ hi;split at h
  ·rename_i fs hty
   have ay1:=ht.desc;rw[hty] at ay1;obtain ⟨fields,hu,hf⟩:=ay1;split at h
   ·rename_i l hl
    obtain ⟨inf,z,h1,h2,_,h4,h5,h6,_⟩:=ht.info;have h5':AP H E i.zero z.cells.toList:=h5.le (fun _ _ e=>by cases e) (fun _ _ e=>by cases e);obtain ⟨cells',e1,e2⟩:=Z4 (place:=fun x=>(fs.map fun p=>(p.1,p.2.1))[x]?) (fun j off size e=>by
     simp_all) hd parts.toList h5' hl
    refine ⟨_,.agg cells',h,rfl,⟨cells',rfl,e2⟩,fun w'=>?_⟩;have hp:=abj (P:=P) fields.toList fs (by simpa using hf.1) (fun j f hj=>by
     obtain ⟨inf',a1,a2,_⟩:=hf.2 j f (by grind);simp_all)
    simp_all [Program.built,Array.toList_map,run_build,execOp]
   ·exact h.elim
  ·exact h.elim
 ·exact h.elim
end
section
variable{P:Program}{C:Ctx}{K:Kx}{H:Mem}{E:Env}{w:World}
theorem Ry{c:Core}{a:Act}{o:Oper}{t:Nat}{x:Operand}{φ:SV×Core->Prop}(hC:BP P C)(ho:o.op=.makeInterface t x)(hd:AP H E c.tm a.tmps.toList)
  (h:(match C.ty t with
   |some i=>match i.ty with
    | .iface=>.fail | .other=>.fail |_=>ret c (.DK t (BU c.tm x))
   |none=>.fail:Tree (SV×Core)).All φ):QP P H E c a o φ:=by
 have dx:=BM (H:=H) (E:=E) hd x;split at h
 ·rename_i i hi
  have ht:=(hC.ty _ _ hi).desc;have key:∀d,P.underlying t=aj d->(∀ms,d≠.interface ms)->φ (.DK t (BU c.tm x),c)->QP P H E c a o φ:=fun d hu hne hφ=>
   ⟨_,.iface t (a.eval x),hφ,rfl,⟨_,rfl,dx⟩,fun w'=>by
    simp_all [execOp,Instr.makeInterface,gq,run_underlying,Result.andThen_ok]⟩
  split at h
  ·exact h.elim
  ·exact h.elim
  ·rename_i ty hne1 hne2
   cases hty:i.ty<;>rw[hty] at ht hne1 hne2
   case iface=>simp_all
   case other=>simp_all
   case fn=>obtain ⟨_,_,_,ht⟩:=ht;exact key _ ht (by simp) h
   case struct=>obtain ⟨_,ht,_⟩:=ht;exact key _ ht (by simp) h
   all_goals exact key _ ht (by simp) h
 ·exact h.elim
theorem Xu{c:Core}{a:Act}{o:Oper}{b:Builtin}{xs:Array Operand}{ts:Array TypeId}{sv:SV}{φ:SV×Core->Prop}(ho:o.op=.call {callee:=.builtin b,args:=xs,argTypes:=ts})
  (h:φ (sv,c)) {v:Value} (hv:Den H E sv v) (hr:∀w',∀cs,(builtin b ts o.type cs (xs.map a.eval)).run P w'=.ok (.value v) w'):QP P H E c a o φ:=
 ⟨_,v,h,rfl,hv,fun w'=>by
  simp_all [execOp,resolve,invoke]⟩
theorem am0{hp:List (Nat×SB)}{A:Prim}(hA:A=Ak){x sv:SV}{u:Value}(hh:Bc K H E w hp)(h:aoX A hp x=aj sv)(dx:Den H E x u):
  (∃A n c,u=.slice A n c/\Den H E sv (.int .i64 n))\/(∃l,u=.string ⟨lW l⟩/\Den H E sv (.int .i64 l.length)):=by
 subst hA;unfold aoX at h;split at h
 ·rename_i id
  obtain ⟨he,A,n,cc,rfl⟩:=dx;split at h
  ·rename_i cells el st m hl
   cases h;obtain ⟨v,xs,he',hr,_,_⟩:=hh.ent _ _ hl;rw[he] at he';cases he';have:=OQ hr;simp only[lenV] at this;subst this;exact .inl ⟨_,_,_,rfl,rfl⟩
  ·rename_i el st m g hl
   cases h;obtain ⟨v,xs,he',hr,_,_⟩:=hh.ent _ _ hl;rw[he] at he';cases he';have:=OQ hr;simp only[lenV] at this;subst this;exact .inl ⟨_,_,_,rfl,rfl⟩
  ·rename_i el st m g more hl
   cases h;obtain ⟨v,xs,ys,he',hr,_⟩:=hh.ent _ _ hl;rw[he] at he';cases he';have:=OQ hr;simp only[lenV] at this;subst this;exact .inl ⟨_,_,_,rfl,rfl⟩
  ·rename_i st m g hl
   cases h;obtain ⟨v,he',hr⟩:=hh.ent _ _ hl;rw[he] at he';cases he';cases hr
   ·exact .inl ⟨_,_,_,rfl,rfl⟩
   ·exact .inl ⟨_,_,_,rfl,rfl⟩
  ·rename_i el l hl
   cases h;obtain ⟨v,he',hr,_⟩:=hh.ent _ _ hl;rw[he] at he';cases he';rcases hr with ⟨h1,rfl⟩ |⟨g,cap,cur,fz,h1,_⟩
   ·cases h1;exact .inl ⟨_,_,_,rfl,rfl⟩
   ·cases h1;exact .inl ⟨_,_,_,rfl,rfl⟩
  ·cases h
 ·cases h
  obtain ⟨A,m,c,_,_,rfl⟩:=dx;exact .inl ⟨_,_,_,rfl,rfl⟩
 ·cases h
  cases dx
  ·exact .inl ⟨_,_,_,rfl,rfl⟩
  ·exact .inl ⟨_,_,_,rfl,rfl⟩
 ·grind [Den]
 ·grind [Den]
 ·cases h
  cases dx;exact .inr ⟨_,rfl,rfl⟩
 ·cases h
theorem abk{C:Ctx}{t:Nat}{i:LJ}{xs:Array Operand}{u:Value}(ht:Qo P t i)(h:(i.ty=.str/\∃l,u=.string ⟨lW l⟩)\/((∃e,i.ty=.slice e)/\∃A n c,u=.slice A n c))(w:World)(ty:Nat):
  ∃n:Int,(oK #[t] ty #[u]).run P w=.ok (.int .i64 n) w/\((∃A m c,u=.slice A m c/\n=m)\/(∃l,u=.string ⟨lW l⟩/\n=l.length)):=by
 have hd:=ht.desc;rcases h with ⟨hty,l,rfl⟩ |⟨⟨e,hty⟩,A,n,c,rfl⟩
 ·rw[hty] at hd
  exact ⟨l.length,by simp[oK,run_underlying (show P.underlying t=aj .string from hd)];rfl,.inr ⟨l,rfl,rfl⟩⟩
 ·rw[hty] at hd
  exact ⟨n,by simp[oK,run_underlying (show P.underlying t=aj (.slice e) from hd),goInt],.inl ⟨_,_,_,rfl,rfl⟩⟩
theorem asN{k:IntKind}{a b:Int}(ts:Array TypeId)(ty:Nat)(w:World):
  (vV ts ty #[.int k a,.int k b]).run P w=.ok (.int k (if b>a then b else a)) w/\(vW ts ty #[.int k a,.int k b]).run P w=.ok (.int k (if b<a then b else a)) w:=by
 simp_all [vV,Builtin.max2,vW,Builtin.min2]
theorem Nj{x:SV}{u:Value}{k:IntKind}{n:Int}{l:Bool}(hk:JR x=aj (k,n,l))(hd:Den H E x u):u=.int k n:=by
 cases x<;>simp[JR] at hk
 all_goals (obtain ⟨rfl,rfl,rfl⟩:=hk;exact hd)
theorem am1{A:Prim}(hA:A=Ak){mx:Bool}{x y sv:SV}{u v:Value}(h:maxS A mx x y=aj sv)(dx:Den H E x u)(dy:Den H E y v):
  ∃(k:IntKind) (a b:Int),u=.int k a/\v=.int k b/\Den H E sv (.int k (bif mx then (if b>a then b else a) else (if b<a then b else a))):=by
 subst hA;unfold maxS at h;have kd:∀{x:SV} {u:Value} {k:IntKind} {n:Int} {l:Bool},JR x=aj (k,n,l)->Den H E x u->u=.int k n:=by
  intro x u k n l hk hd;cases x<;>simp[JR] at hk
  all_goals (obtain ⟨rfl,rfl,rfl⟩:=hk;exact hd)
 split at h
 ·rename_i k a la l b lb e1 e2
  cases hb:(k==l)<;>simp only[hb,ϰ,ϗ] at h
  ·cases h
  obtain rfl:k=l:=by grind
  refine ⟨k,a,b,kd e1 dx,kd e2 dy,?_⟩;cases hl:(la&&lb)<;>simp only[hl,ϰ,ϗ,jS] at h<;>subst h
  ·rfl
  ·cases mx
   ·simp_all [Den]
   simp_all [Den]
 ·cases h
theorem afU{ty:Ty}{x:SV}{u:Value}(h:Rq ty x=ay)(dx:Den H E x u):(ty=.str/\∃l,u=.string ⟨lW l⟩)\/((∃e,ty=.slice e)/\∃A n c,u=.slice A n c):=by
 unfold Rq at h;split at h
 ·exact .inl ⟨rfl,_,dx⟩
 ·exact .inl ⟨rfl,_,Rx dx⟩
 ·obtain ⟨_,h⟩:=dx;simp_all
 ·refine .inr ⟨⟨_,rfl⟩,?_⟩
  cases dx<;>exact ⟨_,_,_,rfl⟩
 ·obtain rfl:u=_:=dx;simp
 ·obtain ⟨A,m,c,_,_,rfl⟩:=dx;simp
 ·cases h
theorem q_len{c:Core}{a:Act}{o:Oper}{x:Operand}{t:Nat}{i:LJ}{φ:SV×Core->Prop}(hC:BP P C)(hd:AP H E c.tm a.tmps.toList)(hh:Bc K H E w c.hp)
  (ho:o.op=.call {callee:=.builtin .len,args:=#[x],argTypes:=#[t]}) (hi:C.tys.get t=aj i) (hf:Rq i.ty (BU c.tm x)=ay)
  (h:(Ns c (aoX C.A c.hp (BU c.tm x))).All φ):QP P H E c a o φ:=by
 have dx:=BM (H:=H) (E:=E) hd x;obtain ⟨sv,hs,hφ⟩:=IL h;have hl:=am0 hC.A hh hs dx;have ht:=hC.ty _ _ hi;have hcase:=afU hf dx;rcases hl with ⟨A,n,cc,e,hden⟩ |⟨l,e,hden⟩
 ·refine Xu ho hφ hden fun w' cs=>?_
  obtain ⟨m,h1,h2⟩:=abk (C:=C) (xs:=#[x]) ht hcase w' o.type;rcases h2 with ⟨A',m',c',e',rfl⟩ |⟨l',e',_⟩
  ·rw[e] at e';cases e'
   rw[e] at h1;simp[builtin,e,h1]
  ·rw[e] at e';cases e'
 ·refine Xu ho hφ hden fun w' cs=>?_
  obtain ⟨m,h1,h2⟩:=abk (C:=C) (xs:=#[x]) ht hcase w' o.type;rcases h2 with ⟨A',m',c',e',_⟩ |⟨l',e',rfl⟩
  ·rw[e] at e';cases e'
  ·rw[e] at e';cases e'
   rw[e] at h1;simp[builtin,e,h1]
theorem ah2{c:Core}{a:Act}{o:Oper}{x y:Operand}{ts:Array TypeId}{mx:Bool}{φ:SV×Core->Prop}(hC:BP P C)(hd:AP H E c.tm a.tmps.toList)
  (ho:o.op=.call {callee:=.builtin (bif mx then .max else .min),args:=#[x,y],argTypes:=ts}) (h:(Ns c (maxS C.A mx (BU c.tm x) (BU c.tm y))).All φ):QP P H E c a o φ:=by
 obtain ⟨sv,hs,hφ⟩:=IL h;obtain ⟨k,m,n,ex,ey,hden⟩:=am1 hC.A hs (BM hd x) (BM hd y);refine Xu ho hφ hden fun w' cs=>?_
 have:=asN (P:=P) (k:=k) (a:=m) (b:=n) ts o.type w';(cases mx)<;>simp_all [builtin]
theorem Xv{kk:IntKind}{n:Int}:∀{es:List (SV×SV)} {ms:List MapEntry} {r:Option SV} (j:Nat),UN kk n es=aj r->Qn H E es ms->
  (r=aF/\cu (.int kk) (.int kk n) ms j=aj aF)\/(∃sv i v,r=aj sv/\cu (.int kk) (.int kk n) ms j=aj (aj (i,v))/\Den H E sv v)
 |[],[],r,j,h,_=>by simp[UN] at h;exact .inl ⟨h.symm,rfl⟩ |(k,v)::es,m::ms,r,j,h,⟨h1,h2,h3⟩=>by
  unfold UN at h;split at h
  ·simp_all
  ·rename_i l p u es' e
   simp only[dF,jo] at e;obtain ⟨⟨rfl,rfl⟩,rfl⟩:=e;have h1:m.key=.int l p:=h1;cases hb:(l==kk)<;>simp only[hb,ϰ,ϗ] at h
   ·cases h
   obtain rfl:l=kk:=by grind
   cases hp:(p==n)<;>simp only[hp,ϰ,ϗ] at h
   ·have hne:(n==p)=aA:=by grind
    (rcases Xv (j+1) h h3 with ⟨e1,e2⟩ |⟨sv,i,v',e1,e2,e3⟩)<;>grind [cu,dW]
   ·cases h
    have:p=n:=by grind
    subst this;exact .inr ⟨v,j,m.val,rfl,by simp[cu,h1,dW],h2⟩
  ·cases h
 |[],_::_,_,_,_,h=>h.elim |_::_,[],_,_,_,h=>h.elim
theorem agA{kk:IntKind}{n:Int}{A:Prim}(hA:A=Ak){f:SV->Bool->Tree (SV×Core)}{z:SV}{φ:SV×Core->Prop}:∀{es:List (SV×SV)} {ms:List MapEntry} (j:Nat),(Ya A kk n z f es).All φ->Qn H E es ms->
  (cu (.int kk) (.int kk n) ms j=aj aF/\(f z aA).All φ)\/(∃sv i v,(f sv ay).All φ/\cu (.int kk) (.int kk n) ms j=aj (aj (i,v))/\Den H E sv v)
 |[],[],j,h,_=>.inl ⟨rfl,h⟩ |(k,v)::es,m::ms,j,h,⟨h1,h2,h3⟩=>by
  unfold Ya at h;split at h
  ·simp_all
  ·rename_i l p u es' e
   simp only[dF,jo] at e;obtain ⟨⟨rfl,rfl⟩,rfl⟩:=e;have h1:m.key=.int l p:=h1;cases hb:(l==kk)<;>simp only[hb,ϰ,ϗ] at h
   ·exact h.elim
   obtain rfl:l=kk:=by grind
   subst hA;cases hp:(n==p)
   ·rcases agA rfl (j+1) (h.2 hp) h3 with ⟨e1,e2⟩ |⟨sv,i,v',e1,e2,e3⟩
    ·grind [cu,dW]
    grind [cu,dW]
   ·exact .inr ⟨v,j,m.val,h.1 hp,by simp[cu,h1,dW,hp],h2⟩
  ·exact h.elim
 |[],_::_,_,_,h=>h.elim |_::_,[],_,_,h=>h.elim
def PV(H:Mem)(E:Env)(p:Bool)(sv:SV)(o:Option Value):Prop:=
 match p,o with|true,aj v=>Den H E sv v/\v.oneCell'=ay|false,aF=>True|_,_=>False
def OC:List (Int×Option Value)->Int->Option (Option Value)
 |[],_=>aF |(n,o)::r,k=>if k=n then aj o else OC r k
theorem abl{M:Int->Option Value}{fv:List (Int×Option Value)}(hM:∀n o,(n,o)∈fv->M n=o){k:Int}{o:Option Value}:∀{uv:List (Int×Option Value)},OC (uv++fv) k=aj o->WL M uv k=o
 |[],h=>by
  have key:∀l:List (Int×Option Value),(∀n o,(n,o)∈l->M n=o)->OC l k=aj o->M k=o:=by
   intro l;induction l with
   |nil=>intro _ h;cases h |cons p r ih=>
    grind [OC,dn,bV]
  exact key fv hM h
 |(n,q)::uv,h=>by
  simp only[List.cons_append,OC] at h;simp only[WL];split at h
  ·simp_all
  ·rename_i e;rw[if_neg e];exact abl hM h
theorem Hl.app:∀{l l':List (Int×Bool×SV)} {v v':List (Int×Option Value)},Hl H E l v->Hl H E l' v'->Hl H E (l++l') (v++v')
 |[],_,[],_,_,h=>h |(_,_,_)::_,_,(_,_)::_,_,⟨a,b,c⟩,h=>⟨a,b,c.app h⟩ |[],_,_::_,_,h,_=>h.elim |_::_,_,[],_,h,_=>h.elim
theorem Yt{φ:SV×Core->Prop}{k:Int}{f:Bool->SV->Tree (SV×Core)}:∀{l:List (Int×Bool×SV)} {lv:List (Int×Option Value)},Hl H E l lv->(findF Ak k f l).All φ->
  ∃p sv o,(f p sv).All φ/\PV H E p sv o/\OC lv k=aj o
 |[],_,_,h=>h.elim |[(j,p,sv)],[(n,o)],⟨a,b,_⟩,h=>by
  subst a;obtain ⟨h1,h2⟩:=h;have h1:k=n:=by grind [Ak]
  exact ⟨p,sv,o,h2,b,by simp[OC,h1]⟩
 |(j,p,sv)::q::r,(n,o)::lv,⟨a,b,c⟩,h=>by
  subst a;obtain ⟨h1,h2⟩:=h;by_cases e:k=n
  ·exact ⟨p,sv,o,h1 (by simp[Ak,e]),b,by simp[OC,e]⟩
  ·obtain ⟨p',sv',o',a1,a2,a3⟩:=Yt c (h2 (by simp[Ak,e]))
   grind [OC]
 |[(_,_,_)],_::_::_,h,_=>h.2.2.elim |_::_,[],h,_=>h.elim
theorem abm{φ:SV×Core->Prop}{k:Int}{f:Bool->SV->Tree (SV×Core)}{M:Int->Option Value}{fs us:List (Int×Bool×SV)}{fv uv:List (Int×Option Value)}(hM:∀n o,(n,o)∈fv->M n=o)
  (d2:Hl H E us uv) (d1:Hl H E fs fv) (h:(findF Ak k f (us++fs)).All φ):∃p sv o,(f p sv).All φ/\PV H E p sv o/\WL M uv k=o:=by
 obtain ⟨p,sv,o,a1,a2,a3⟩:=Yt (d2.app d1) h;grind [abl]
theorem JW{kk:IntKind}{n:Int}{v:Value}:∀{ms:List MapEntry},(∀m∈ms,∃n,m.key=.int kk n)->∀j:Nat,Ku kk n ms=aj v->
  ∃i,cu (.int kk) (.int kk n) ms j=aj (aj (j+i,v))/\∃m,ms[i]?=aj m/\m.key=.int kk n/\m.val=v
 |[],_,_,h=>by cases h |m::ms,hk,j,h=>by
  obtain ⟨p,hp⟩:=hk m (dn ..);by_cases e:n=p
  ·subst e
   simp[Ku,hp,dW] at h;exact ⟨0,by simp[cu,hp,dW,h],m,rfl,hp,h⟩
  ·have e':(n==p)=aA:=by simpa using e
   simp[Ku,hp,dW,e'] at h;obtain ⟨i,a1,m',a2,a3⟩:=JW (fun m hm=>hk m (bV _ hm)) (j+1) h;refine ⟨i+1,?_,m',by grind,a3⟩;simp only[cu,hp,dW,if_true,e'];grind
theorem Nk{kk:IntKind}{n:Int}:∀{ms:List MapEntry},(∀m∈ms,∃n,m.key=.int kk n)->∀j:Nat,Ku kk n ms=aF->cu (.int kk) (.int kk n) ms j=aj aF
 |[],_,_,_=>rfl |m::ms,hk,j,h=>by
  obtain ⟨p,hp⟩:=hk m (dn ..);by_cases e:n=p
  ·simp_all [Ku,dW]
  ·have e':(n==p)=aA:=by simpa using e
   simp[Ku,hp,dW,e'] at h;simp only[cu,hp,dW,if_true,e'];exact Nk (fun m hm=>hk m (bV _ hm)) (j+1) h
theorem Nl{kt:Nat}{kk:IntKind}(hu:P.underlying kt=aj (.int kk))(em:Bool)(k:IntKind)(n:Int)(w:World):(iq em 10000 kt (.int k n)).run P w=.ok () w:=by
 have:∀d:Nat,(iq em (d+1) kt (.int k n)).run P w=.ok () w:=fun d=>by simp[iq,run_underlying hu]
 grind
theorem MF{t kt e:Nat}{kk:IntKind}{n:Int}{ok:Bool}{te:LJ}{m:Value}{es:List MapEntry}{w:World}{z:Value}(hu:P.underlying t=aj (.map kt e))(hk:P.underlying kt=aj (.int kk))
  (hz:(zeroValue e).run P w=.ok z w) (hm:(m=.map aF/\es=[])\/(∃b clk,m=.map (aj b)/\w.heap[b]?=aj (.map es.toArray clk))) :
  (cu (.int kk) (.int kk n) es 0=aj aF->(iC t m (.int kk n) ok).run P w=.ok (if ok then .tuple #[z,.bool aA] else z) w)/\
  (∀i v,cu (.int kk) (.int kk n) es 0=aj (aj (i,v))->(iC t m (.int kk n) ok).run P w=.ok (if ok then .tuple #[v,.bool ay] else v) w):=by
 have hck:=fun em=>Nl (P:=P) hk em kk n w;rcases hm with ⟨rfl,rfl⟩ |⟨b,clk,rfl,hb⟩
 ·simp_all [iC,run_underlying,fQ,cu]
 ·have hg:(getObj b).run P w=.ok (.map es.toArray clk) w:=by simp[getObj,jT,hb]
  constructor
  ·intro hf
   cases ok<;>simp[iC,run_underlying hu,hg,hck,fQ,run_underlying hk,hf,hz]
  ·intro i v hf
   cases ok<;>simp[iC,run_underlying hu,hg,hck,fQ,run_underlying hk,hf]
theorem Yu{c:Core}{ok:Bool}{sv:SV}{b:Bool}{v:Value}(hd:Den H E sv v):
  Den H E (bif ok then .Az [sv,.bool b] else sv) (if ok then .tuple #[v,.bool b] else v):=by
 cases ok
 ·exact hd
 ·exact ⟨#[v,.bool b],rfl,hd,rfl,ϖ⟩
theorem Td{n m:Ep}(h:DZ n=DZ m):n=m:=by
 grind [DZ]
theorem am2{s:SV}{n:Int}{v:Value}(h:intOf s=aj n)(hd:Den H E s v):v=.int .i64 n:=by
 unfold intOf at h;split at h
 ·cases h;exact hd
 ·cases h;exact hd
 ·cases h
  have hd:Rep H (.i .i64 n) v:=hd;cases hd;rfl
 ·cases h
theorem ajR{s:SV}{l:List UInt8}{v:Value}(h:strOf s=aj l)(hd:Den H E s v):v=.string ⟨l.toArray⟩:=by
 unfold strOf at h;split at h
 ·cases h;exact hd
 ·cases h
  have hd:Rep H (.str l) v:=hd;cases hd;rfl
 ·cases h
theorem Yv{s:SV}{n:Ep}{v:Value}(h:acr s=aj n)(hd:Den H E s v):v=DZ n:=by
 unfold acr at h;split at h
 ·split at h
  ·rename_i a b n l h1 h2
   cases h;obtain ⟨⟨cs⟩,rfl,hd⟩:=hd;match cs,hd with
   |[x,y],⟨d1,d2,_⟩=>
    rw[am2 h1 d1,ajR h2 d2];rfl
  ·cases h
 ·rename_i n l
  cases h;have hd:Rep H (.agg [.i .i64 n,.str l]) v:=hd;cases hd with
  |agg _ vs hl hr=>
   obtain ⟨vs⟩:=vs;match vs,hl,hr with
   |[x,y],_,hr=>
    have h1:=hr 0 _ x rfl rfl;have h2:=hr 1 _ y rfl rfl;cases h1;cases h2;rfl
 ·cases h
theorem asO(k n:Ep):Ak.kp k.1 k.2 n.1 n.2=decide (k=n):=by
 grind [Ak]
theorem am3{vt:VT}{v:Value}(h:asG vt v):Den H E (asA Ak vt (aj v)) v/\v.oneCell'=ay:=by
 cases vt with
 |int=>obtain ⟨n,rfl⟩:=h;exact ⟨rfl,rfl⟩ |bool=>obtain ⟨b,rfl⟩:=h;exact ⟨rfl,rfl⟩
theorem abn{φ:SV×Core->Prop}{k:Ep}{f:Bool->SV->Tree (SV×Core)}{vt:VT}{M:Ep->Option Value}(hT:ao0 vt M):∀{us:List (Ep×Bool×SV)} {uv:List (Ep×Option Value)},
  Yh H E us uv->(amR Ak vt M k f us).All φ->∃p sv o,(f p sv).All φ/\PV H E p sv o/\UW M uv k=o
 |[],[],_,⟨h1,h2⟩=>by
  cases hm:M k with
  |none=>exact ⟨aA,.any,aF,h2 (by rw[hm];rfl),ϖ,hm⟩ |some v=>exact ⟨ay,_,aj v,h1 (by rw[hm];rfl),by rw[hm];exact am3 (hT k v hm),hm⟩
 |(j,p,sv)::us,(n,o)::uv,⟨a,b,c⟩,h=>by
  subst a;obtain ⟨h1,h2⟩:=h;by_cases e:k=n
  ·exact ⟨p,sv,o,h1 (by rw[asO];simp[e]),b,by simp[UW,e]⟩
  ·obtain ⟨p',sv',o',a1,a2,a3⟩:=abn hT c (h2 (by rw[asO];simp[e]))
   grind [UW]
 |[],_::_,h,_=>h.elim |_::_,[],h,_=>h.elim
theorem Rz{kt:Nat}(hp:UY P kt){n:Ep}{w:World}:∀{ms:List MapEntry},(∀m∈ms,∃n,m.key=DZ n)->∀j:Nat,
  ∃r,(mF kt (DZ n) ms j).run P w=.ok r w/\((r=aF/\∀m∈ms,m.key≠DZ n)\/∃(i:Nat) (m:MapEntry),r=aj (j+i,m.val)/\ms[i]?=aj m/\m.key=DZ n)
 |[],_,j=>⟨aF,rfl,.inl ⟨rfl,fun _ h=>by cases h⟩⟩ |m::ms,hk,j=>by
  obtain ⟨p,hpk⟩:=hk m (dn ..);have he:=hp.eq n p w;by_cases e:n=p
  ·subst e
   refine ⟨aj (j,m.val),?_,.inr ⟨0,m,rfl,rfl,hpk⟩⟩;simp[mF,hpk,he]
  ·obtain ⟨r,h1,h2⟩:=Rz hp (n:=n) (w:=w) (fun m hm=>hk m (bV _ hm)) (j+1)
   refine ⟨r,?_,?_⟩
   ·simp_all [mF]
   ·rcases h2 with ⟨a,b⟩ |⟨i,m',a,b,c⟩
    ·grind [Td]
    ·exact .inr ⟨i+1,m',by grind,by simpa using b,c⟩
theorem QT{kt:Nat}(hp:UY P kt){n:Ep}{w:World}{ms:List MapEntry}(hk:∀m∈ms,∃n,m.key=DZ n):
  ∃r,(fQ kt (DZ n) ms).run P w=.ok r w/\((r=aF/\∀m∈ms,m.key≠DZ n)\/∃(i:Nat) (m:MapEntry),r=aj (i,m.val)/\ms[i]?=aj m/\m.key=DZ n):=by
 obtain ⟨fs,hu⟩:=hp.und;cases ms with
 |nil=>exact ⟨aF,by simp[fQ,run_underlying hu,cu],.inl ⟨rfl,fun _ h=>by cases h⟩⟩ |cons m ms=>
  obtain ⟨r,h1,h2⟩:=Rz hp (n:=n) (w:=w) hk 0;simp_all [fQ,run_underlying,cu,dW,fU]
theorem asP{e:Nat}{te:LJ}{z:SV}(hte:Qo P e te)(hz:pack te.ty.isAgg te.zero=aj z):∃zv:Value,Den H E z zv/\∀w:World,(zeroValue e).run P w=.ok zv w:=by
 obtain ⟨inf,zv,h1,h2,_,h4,h5,h6,h7,h8⟩:=hte.info;have h5':AP H E te.zero zv.cells.toList:=h5.le (fun _ _ e=>by cases e) (fun _ _ e=>by cases e);refine ⟨zv,?_,fun w=>by simp[zeroValue,typeInfo,h1,h4]⟩;rcases Pj hz with ⟨ha,rfl⟩ |⟨ha,hl⟩
 ·obtain ⟨cs,rfl⟩:=h7 ha
  exact ⟨cs,rfl,h5'⟩
 ·rw[hl] at h5'
  have h8:=(h8 ha).2;cases zv with
  |agg cs=>simp[jr] at h8 |_=>
   simp_all [lF,AP]
theorem aqF{c:Core}{a:Act}{o:Oper}{t:Nat}{x y:Operand}{ok:Bool}{φ:SV×Core->Prop}(hC:BP P C)(hd:AP H E c.tm a.tmps.toList)(hh:Bc K H E w c.hp)
  (ho:o.op=.lookup t x y ok) (h:(UO C c t (BU c.tm x) (BU c.tm y) ok).All φ):Yj P H E w c a o φ:=by
 have dx:=BM (H:=H) (E:=E) hd x;have dy:=BM (H:=H) (E:=E) hd y;unfold UO at h;split at h
 ·rename_i ti hti
  have ht:=(hC.ty _ _ hti).desc;split at h
  ·rename_i kt e hty
   rw[hty] at ht;split at h
   ·rename_i kti te hkt hte
    have hkt:=(hC.ty _ _ hkt).desc;have hte:=hC.ty _ _ hte;split at h
    ·rename_i fs z hkk hz
     cases hpk:(C.pks.contains kt)<;>simp only[hpk,ϰ,ϗ] at h
     ·exact h.elim
     have hp:=hC.pks _ hpk;obtain ⟨zv,hzd,Xw⟩:=asP (H:=H) (E:=E) hte hz;split at h
     ·rename_i id hx
      rw[hx] at dx;obtain ⟨b,he,ex⟩:=dx;split at h
      ·rename_i vt M us hl
       obtain ⟨b',ms,clk,uv,he',hw,d2,hT,hL,hok,_⟩:=hh.ent _ _ hl;rw[he] at he';cases he';have hkeep:∀w',Xp H E c.hp w w'->w'.heap[b]?=aj (.map ms clk):=fun w' ha=>by
        grind [KF,Bv,Ba]
       split at h
       ·rename_i n hn
        have dy:a.eval y=DZ n:=Yv hn dy;rw[hC.A] at h;obtain ⟨p,sv,ov,hφ,hpo,hat⟩:=abn hT d2 h;have fin:∀(sv:SV) (b:Bool) (v:Value),Den H E sv v->(JU c ok sv b).All φ->(∀w',Xp H E c.hp w w'->H.on w'->(iC t (a.eval x) (a.eval y) ok).run P w'=.ok (if ok then .tuple #[v,.bool b] else v) w')->Yj P H E w c a o φ:=by
         intro sv b v hdv hφ hr;refine ⟨_,_,hφ,rfl,Yu (c:=c) hdv,fun w' h1 h2=>?_⟩;simp_all [execOp]
        have hg:∀w',Xp H E c.hp w w'->(getObj b).run P w'=.ok (.map ms clk) w':=fun w' h1=>by simp_all [getObj,jT]
        cases p with
        |true=>
         cases ov with
         |none=>exact hpo.elim |some v=>
          refine fin _ ay v hpo.1 hφ fun w' h1 h2=>?_
          obtain ⟨r,e1,e2⟩:=QT hp (n:=n) (w:=w') hok.key;rw[ex,dy];rcases e2 with ⟨_,e2⟩ |⟨i,m,rfl,e3,e4⟩
          ·obtain ⟨m,hm,q⟩:=hok.ex _ _ hat
           simp_all
          ·have hv:=hok.in_ m (bK e3) n e4
           rw[hat] at hv;injection hv with hv
           subst hv;cases ok<;>simp[iC,run_underlying ht,hg w' h1,hp.chk,e1]
        |false=>
         cases ov with
         |some v=>exact hpo.elim |none=>
          refine fin _ aA zv hzd hφ fun w' h1 h2=>?_
          obtain ⟨r,e1,e2⟩:=QT hp (n:=n) (w:=w') hok.key;rw[ex,dy];rcases e2 with ⟨rfl,_⟩ |⟨i,m,_,e3,e4⟩
          ·cases ok<;>simp[iC,run_underlying ht,hg w' h1,hp.chk,e1,Xw]
          ·have hv:=hok.in_ m (bK e3) n e4
           simp_all
       ·exact h.elim
      ·exact h.elim
     ·exact h.elim
    ·rename_i kk z hkk hz
     rw[hkk] at hkt;have hzero:∃zv:Value,Den H E z zv/\∀w:World,(zeroValue e).run P w=.ok zv w:=by
      obtain ⟨inf,zv,h1,h2,_,h4,h5,h6,h7,h8⟩:=hte.info;have h5':AP H E te.zero zv.cells.toList:=h5.le (fun _ _ e=>by cases e) (fun _ _ e=>by cases e);refine ⟨zv,?_,fun w=>by simp[zeroValue,typeInfo,h1,h4]⟩;rcases Pj hz with ⟨ha,rfl⟩ |⟨ha,hl⟩
      ·obtain ⟨cs,rfl⟩:=h7 ha
       exact ⟨cs,rfl,h5'⟩
      ·rw[hl] at h5'
       have h8:=(h8 ha).2;cases zv with
       |agg cs=>simp[jr] at h8 |_=>
        simp_all [lF,AP]
     obtain ⟨zv,hzd,Xw⟩:=hzero;have fin:∀(sv:SV) (b:Bool) (v:Value),Den H E sv v->(JU c ok sv b).All φ->(∀w',Xp H E c.hp w w'->H.on w'->(iC t (a.eval x) (a.eval y) ok).run P w'=.ok (if ok then .tuple #[v,.bool b] else v) w')->Yj P H E w c a o φ:=by
      intro sv b v hdv hφ hr;refine ⟨_,_,hφ,rfl,Yu (c:=c) hdv,fun w' h1 h2=>?_⟩;simp_all [execOp]
     split at h
     ·rename_i hx
      rw[hx] at dx;have dx:a.eval x=.map aF:=dx;split at h
      ·rename_i j n l hk
       have dy:a.eval y=.int j n:=Nj hk dy;cases hb:(j==kk)<;>simp only[hb,ϰ,ϗ] at h
       ·exact h.elim
       obtain rfl:j=kk:=by grind
       refine fin _ _ _ hzd h fun w' h1 h2=>?_
       rw[dx,dy];exact (MF ht hkt (Xw w') (te:=te) (.inl ⟨rfl,rfl⟩)).1 rfl
      ·exact h.elim
     ·rename_i id hx
      rw[hx] at dx;obtain ⟨b,he,ex⟩:=dx;split at h
      ·rename_i es hl
       obtain ⟨b',ms,clk,he',hw,hdm,_⟩:=hh.ent _ _ hl;rw[he] at he';cases he';have hkeep:∀w',Xp H E c.hp w w'->w'.heap[b]?=aj (.map ms clk):=fun w' ha=>by
        grind [KF,Bv,Ba]
       split at h
       ·rename_i k n hy
        rw[hy] at dy;have dy:a.eval y=.int k n:=dy;cases hb:(k==kk)<;>simp only[hb,ϰ,ϗ] at h
        ·exact h.elim
        obtain rfl:k=kk:=by grind
        split at h
        ·rename_i sv hf
         rcases Xv 0 hf hdm with ⟨e1,_⟩ |⟨sv',i,v,e1,e2,e3⟩
         ·cases e1
         ·cases e1
          refine fin _ _ _ e3 h fun w' h1 h2=>?_
          rw[ex,dy];exact (MF ht hkt (Xw w') (te:=te) (.inr ⟨b,clk,rfl,by simp_all⟩)).2 i v e2
        ·rename_i hf
         rcases Xv 0 hf hdm with ⟨_,e2⟩ |⟨sv',i,v,e1,_⟩
         ·refine fin _ _ _ hzd h fun w' h1 h2=>?_
          rw[ex,dy];exact (MF ht hkt (Xw w') (te:=te) (.inr ⟨b,clk,rfl,by simp_all⟩)).1 e2
         ·cases e1
        ·exact h.elim
       ·rename_i k n hy
        rw[hy] at dy;have dy:a.eval y=.int k n:=dy;cases hb:(k==kk)<;>simp only[hb,ϰ,ϗ] at h
        ·exact h.elim
        obtain rfl:k=kk:=by grind
        rcases agA hC.A 0 h hdm with ⟨e2,hφ⟩ |⟨sv',i,v,hφ,e2,e3⟩
        ·refine fin _ _ _ hzd hφ fun w' h1 h2=>?_
         rw[ex,dy];exact (MF ht hkt (Xw w') (te:=te) (.inr ⟨b,clk,rfl,by simp_all⟩)).1 e2
        ·refine fin _ _ _ e3 hφ fun w' h1 h2=>?_
         rw[ex,dy];exact (MF ht hkt (Xw w') (te:=te) (.inr ⟨b,clk,rfl,by simp_all⟩)).2 i v e2
       ·exact h.elim
      ·rename_i fk M fs us tag hl
       obtain ⟨b',ms,clk,fv,uv,he',hw,d1,d2,hM,hok,_,_⟩:=hh.ent _ _ hl;rw[he] at he';cases he';have hkeep:∀w',Xp H E c.hp w w'->w'.heap[b]?=aj (.map ms clk):=fun w' ha=>by
        grind [KF,Bv,Ba]
       split at h
       ·rename_i j n l hk
        have dy:a.eval y=.int j n:=Nj hk dy;cases hb:(j==kk&&fk==kk)<;>simp only[hb,ϰ,ϗ] at h
        ·exact h.elim
        simp only[aB,ϡ] at hb;obtain ⟨rfl,rfl⟩:=hb;rw[hC.A] at h;obtain ⟨p,sv,o,hφ,hpo,hat⟩:=abm hM d2 d1 h;rw[<-hok.at_] at hat;cases p with
        |true=>
         cases o with
         |none=>exact hpo.elim |some v=>
          obtain ⟨i,hi⟩:=JW hok.key 0 hat;refine fin _ _ _ hpo.1 hφ fun w' h1 h2=>?_
          rw[ex,dy];exact (MF ht hkt (Xw w') (te:=te) (.inr ⟨b,clk,rfl,by simp_all⟩)).2 _ _ hi.1
        |false=>
         cases o with
         |some v=>exact hpo.elim |none=>
          have hi:=Nk hok.key 0 hat;refine fin _ _ _ hzd hφ fun w' h1 h2=>?_
          rw[ex,dy];exact (MF ht hkt (Xw w') (te:=te) (.inr ⟨b,clk,rfl,by simp_all⟩)).1 hi
       ·exact h.elim
      ·exact h.elim
     ·exact h.elim
    ·exact h.elim
   ·exact h.elim
  ·exact h.elim
 ·exact h.elim
theorem aqG{t e:Nat}(hu:P.underlying t=aj (.slice e))(A:Option Addr)(n k:Nat)(w:World):(fK t (.slice A n k) (.slice aF 0 0)).run P w=.ok A.isNone w:=by
 have:∀n':Nat,(eH (n'+1) t (.slice A n k) (.slice aF 0 0)).run P w=.ok A.isNone w:=fun n'=>by
  cases A<;>simp[eH,run_underlying hu]
 exact this 9999
theorem am4{hp:List (Nat×SB)}{x:SV}{n:Nat}{u:Value}(hh:Bc K H E w hp)(h:asx hp x=aj n)(dx:Den H E x u):∃A k,u=.slice A n k/\(0<n->A.isNone=aA):=by
 unfold asx at h;split at h
 ·rename_i id
  obtain ⟨he,A,m,cc,rfl⟩:=dx;have key:∀{elem st n:Nat} {xs:List Value},w.ownsRow 0 elem st (.slice A m cc) n xs->m=n/\(0<n->A.isNone=aA):=fun {elem st n xs} hr=>by
   (rcases hr.2 with ⟨h1,rfl⟩ |⟨g,cap,cur,h1,_⟩)<;>simp_all
  split at h
  ·rename_i cells el st m' hl
   cases h;obtain ⟨v,xs,he',hr,_,_⟩:=hh.ent _ _ hl;grind
  ·rename_i el st m' g hl
   cases h;obtain ⟨v,xs,he',hr,_,_⟩:=hh.ent _ _ hl;grind
  ·rename_i st m' g hl
   cases h;obtain ⟨v,he',hr⟩:=hh.ent _ _ hl;rw[he] at he';cases he';(cases hr)<;>simp_all
  ·cases h
 ·cases h
  (cases dx)<;>simp_all
 ·cases h
theorem Nu{x:SV}{l:List UInt8}{v:Value}(h:textOf x=aj l)(d:Den H E x v):v=.string ⟨l.toArray⟩:=by
 unfold textOf at h;split at h
 ·cases h;exact d
 ·cases h;exact Rx d
 ·cases h
theorem ah3{P:Program}(l l':List UInt8)(h:l.length+l'.length<=9223372036854775807)(t:Nat)(x y:Operand)(w:World):
  (do eqGuard .add t x y (.string ⟨l.toArray⟩) (.string ⟨l'.toArray⟩);binOp .add t (.string ⟨l.toArray⟩) (.string ⟨l'.toArray⟩):Sem Value).run P w=.ok (.string ⟨(l++l').toArray⟩) w:=by
 have e:(⟨l.toArray⟩:ByteArray)++⟨l'.toArray⟩=⟨(l++l').toArray⟩:=by
  rfl
 have h1:(eqGuard .add t x y (.string ⟨l.toArray⟩) (.string ⟨l'.toArray⟩):Sem Unit).run P w=.ok () w:=by rfl
 simp_all [gq,binOp,Go.run_string_add_sum,rF]
theorem abp{x:SV}{k:IntKind}{n:Int}{b:Bool}{u:Value}(h:numOf x=aj (k,n,b))(hd:Den H E x u):u=.int k n:=by
 unfold numOf at h;split at h
 ·cases h;exact hd
 ·cases h;exact hd
 ·cases h
theorem aqH{op:BinOp}{k l:IntKind}{a b:Int}(h:(op=.shl/\0<=b)\/(op=.shr/\0<=b)\/(op=.quo/\k=l/\b≠0)\/(op=.rem/\k=l/\b≠0)\/((op=.and\/op=.or\/op=.xor\/op=.andNot)/\k=l))(t:Nat)(x y:Operand)(w:World):
  (do eqGuard op t x y (.int k a) (.int l b);binOp op t (.int k a) (.int l b):Sem Value).run P w=.ok (.int k (X9 op k a b)) w:=by
 rcases h with ⟨rfl,h⟩ |⟨rfl,h⟩ |⟨rfl,rfl,h⟩ |⟨rfl,rfl,h⟩ |⟨h,rfl⟩
 ·have:¬b<0:=by omega
  simp[eqGuard,binOp,Op.shift,this,X9]
 ·have:¬b<0:=by omega
  simp[eqGuard,binOp,Op.shift,this,X9]
 ·simp[eqGuard,binOp,Op.intDiv,h,X9]
 ·simp[eqGuard,binOp,Op.intDiv,h,X9]
 ·rcases h with rfl|rfl|rfl|rfl<;>simp[eqGuard,binOp,Op.intBits,X9]
theorem aqI{A:Prim}(hA:A=Ak){op:BinOp}{k:IntKind}{a b:Int}{la lb:Bool}{c:Core}{φ:SV×Core->Prop}(h:(O5 A op k a b la lb c).All φ):∃sv,φ (sv,c)/\Den H E sv (.int k (X9 op k a b)):=by
 subst hA;unfold O5 at h;refine ⟨_,h,?_⟩;cases la<;>cases lb<;>rfl
theorem asQ{c:Core}{a:Act}{op:BinOp}{t:Nat}{x y:Operand}{φ:SV×Core->Prop}{r:Tree (SV×Core)}(hC:BP P C)(hd:AP H E c.tm a.tmps.toList)(hr:asy C c op (BU c.tm x) (BU c.tm y)=aj r)(h:r.All φ):
  ∃(p:SV×Core) (v:Value),φ p/\p.2=c/\Den H E p.1 v/\∀w',(do eqGuard op t x y (a.eval x) (a.eval y);binOp op t (a.eval x) (a.eval y):Sem Value).run P w'=.ok v w':=by
 have dx:=BM (H:=H) (E:=E) hd x;have dy:=BM (H:=H) (E:=E) hd y;have fin:∀{k l:IntKind} {n m:Int} {la lb:Bool},numOf (BU c.tm x)=aj (k,n,la)->numOf (BU c.tm y)=aj (l,m,lb)->(O5 C.A op k n m la lb c).All φ->
   ((op=.shl/\0<=m)\/(op=.shr/\0<=m)\/(op=.quo/\k=l/\m≠0)\/(op=.rem/\k=l/\m≠0)\/((op=.and\/op=.or\/op=.xor\/op=.andNot)/\k=l))->
   ∃(p:SV×Core) (v:Value),φ p/\p.2=c/\Den H E p.1 v/\∀w',(do eqGuard op t x y (a.eval x) (a.eval y);binOp op t (a.eval x) (a.eval y):Sem Value).run P w'=.ok v w':=by
  intro k l n m la lb h1 h2 h3 h4;obtain ⟨sv,h5,h6⟩:=aqI hC.A h3;refine ⟨_,_,h5,rfl,h6,fun w'=>?_⟩;rw[abp h1 dx,abp h2 dy];grind [aqH]
 unfold asy at hr;split at hr
 ·rename_i k n la l m lb h1 h2
  cases hr;cases lb<;>simp only[ϰ,ϗ] at h
  ·rw[hC.A] at h
   have h0:(0:Int)<=m:=ϑ h.1;exact fin h1 h2 (by rw[hC.A];exact h.2) (.inl ⟨rfl,h0⟩)
  ·cases h0:decide (0<=m)<;>simp only[h0,ϰ,ϗ] at h
   ·exact h.elim
   simp_all
 ·rename_i k n la l m lb h1 h2
  cases hr;cases lb<;>simp only[ϰ,ϗ] at h
  ·rw[hC.A] at h
   have h0:(0:Int)<=m:=ϑ h.1;exact fin h1 h2 (by rw[hC.A];exact h.2) (.inr (.inl ⟨rfl,h0⟩))
  ·cases h0:decide (0<=m)<;>simp only[h0,ϰ,ϗ] at h
   ·exact h.elim
   simp_all
 ·rename_i k n la l m lb h1 h2
  cases hk:(k==l)<;>simp only[hk,ϰ,ϗ] at hr
  ·cases hr
  cases hr;have hk:k=l:=by grind
  cases lb<;>simp only[ϰ,ϗ] at h
  ·rw[hC.A] at h
   have h0:(!(m==0))=ay:=h.1;exact fin h1 h2 (by rw[hC.A];exact h.2) (.inr (.inr (.inl ⟨rfl,hk,by grind⟩)))
  ·cases h0:(m==0)<;>simp only[h0,ϰ,ϗ] at h
   ·simp_all
   ·exact h.elim
 ·rename_i k n la l m lb h1 h2
  cases hk:(k==l)<;>simp only[hk,ϰ,ϗ] at hr
  ·cases hr
  cases hr;have hk:k=l:=by grind
  cases lb<;>simp only[ϰ,ϗ] at h
  ·rw[hC.A] at h
   have h0:(!(m==0))=ay:=h.1;exact fin h1 h2 (by rw[hC.A];exact h.2) (.inr (.inr (.inr (.inl ⟨rfl,hk,by grind⟩))))
  ·cases h0:(m==0)<;>simp only[h0,ϰ,ϗ] at h
   ·simp_all
   ·exact h.elim
 all_goals first
  |(cases hr;done)
  |(rename_i k n la l m lb h1 h2
    cases hk:(k==l)<;>simp only[hk,ϰ,ϗ] at hr
    ·cases hr
    cases hr;have hk:k=l:=by grind
    exact fin h1 h2 h (.inr (.inr (.inr (.inr ⟨by simp,hk⟩)))))
theorem ac9{c:Core}{a:Act}{o:Oper}{op:BinOp}{t t2:Nat}{x y:Operand}{φ:SV×Core->Prop}(hC:BP P C)(hg:DI C.gls H)(ho:o.op=.binOp op t x y t2)(hd:AP H E c.tm a.tmps.toList)(hh:Bc K H E w c.hp)
  (h:(acV C c op t x y (isConst x||isConst y)).All φ):∃(p:SV×Core) (v:Value),φ p/\p.2=c/\Den H E p.1 v/\∀w',((LV (BU c.tm x)&&LV (BU c.tm y))=ay->H.on w')->(execOp a.eval o).run P w'=.ok (.value v) w':=by
 unfold acV at h;split at h
 ·rename_i r hr
  obtain ⟨p,v,h1,h2,h3,h4⟩:=asQ (t:=t) hC hd hr h;refine ⟨p,v,h1,h2,h3,fun w' _=>?_⟩;have:=h4 w';simp only[execOp,ho];simp only[gq] at this ⊢;rw[this];rfl
 split at h
 ·rename_i r hr
  unfold aoW at hr;split at hr
  ·split at hr
   ·rename_i l l' h1 h2
    cases hr;obtain ⟨h3,hφ⟩:=h;rw[hC.A] at h3 hφ;have ex:=Nu h1 (BM (H:=H) (E:=E) hd x);have ey:=Nu h2 (BM (H:=H) (E:=E) hd y);have h3:l.length+l'.length<=9223372036854775807:=ϑ h3;refine ⟨_,.string ⟨(l++l').toArray⟩,hφ,rfl,?_,fun w' _=>?_⟩
    ·show Den H E (match BU c.tm x,BU c.tm y with
      | .str a,.str b=>.str (a++b) |_,_=>.sh (.str (Ak.app l l'))) _
     split
     ·rename_i q1 q2
      rw[q1] at h1;rw[q2] at h2;cases h1;cases h2;rfl
     ·exact .str _
    have:=ah3 (P:=P) l l' h3 t x y w';simp only[execOp,ho,ex,ey];simp only[gq] at this ⊢;rw[this];rfl
   ·cases hr
  ·cases hr
 split at h
 ·rename_i r hr
  unfold agt at hr;split at hr
  ·rename_i i hi
   split at hr
   ·rename_i e hty
    have ht:=(hC.ty _ _ hi).desc;rw[hty] at ht;have ht:P.underlying t=aj (.slice e):=ht;cases hn:ZP y<;>simp only[hn,ϰ,ϗ] at hr
    ·cases hr
    have ey:a.eval y=.slice aF 0 0:=by
     unfold ZP at hn;split at hn
     ·rfl
     ·cases hn
    split at hr
    ·rename_i va vb hva hvb
     have dx:=BM (H:=H) (E:=E) hd x;have fin:∀(r:Bool) (sv:SV) (A:Option Addr) (n k:Nat),a.eval x=.slice A n k->A.isNone=r->Ew op r=aj sv->φ (sv,c)->∃(p:SV×Core) (v:Value),φ p/\p.2=c/\Den H E p.1 v/\∀w',((LV (BU c.tm x)&&LV (BU c.tm y))=ay->H.on w')->(execOp a.eval o).run P w'=.ok (.value v) w':=by
      intro r sv A n k ex hA hop hφ;have hgd:eqGuard op t x y (.slice A n k) (.slice aF 0 0)=pure ():=by
       simp_all [eqGuard]
      have he1:binOp .eql t (.slice A n k) (.slice aF 0 0)=(do pure (.bool (<-fK t (.slice A n k) (.slice aF 0 0)))):=rfl;have he2:binOp .neq t (.slice A n k) (.slice aF 0 0)=(do pure (.bool (!(<-fK t (.slice A n k) (.slice aF 0 0))))):=rfl;obtain ⟨rv,h1,h2⟩:=EK (H:=H) (E:=E) hop hgd he1 he2 fun w=>by rw[<-hA];exact aqG ht A n k w
      refine ⟨_,rv,hφ,rfl,h1,fun w' _=>?_⟩;simp_all [execOp]
     split at hr
     ·rename_i hx
      cases hr;rw[hx] at dx;exact fin ay _ aF 0 0 dx rfl hva h
     ·split at hr
      ·rename_i n hn2
       cases hr;obtain ⟨A,k,ex,hA⟩:=am4 hh hn2 dx;cases hb:C.A.leN n 0 with
       |true=>
        obtain ⟨h1,h2⟩:=h.1 hb;cases hx:A.isNone with
        |true=>exact fin ay _ A n k ex hx hva h1 |false=>exact fin aA _ A n k ex hx hvb h2
       |false=>
        rw[hC.A] at hb;exact fin aA _ A n k ex (hA (by grind [Ak,Nat.pos_iff_ne_zero])) hvb (h.2 (by rw[hC.A];exact hb))
      ·cases hr
    ·cases hr
   ·cases hr
  ·cases hr
 ·refine asM hC hg ho hd ?_
  assumption
theorem ajS{C:Ctx}{c:Core}{a:Act}{o:Oper}{t:TypeId}{x i:Operand}{φ:SV×Core->Prop}(hC:BP P C)(ho:o.op=.index t x i)(hd:AP H E c.tm a.tmps.toList)
  (h:(Xm C c t (BU c.tm x) (BU c.tm i)).All φ):QP P H E c a o φ:=by
 have dx:=BM (H:=H) (E:=E) hd x;have di:=BM (H:=H) (E:=E) hd i;unfold Xm at h;split at h
 ·rename_i ti l k n e1 e2 e3
  rw[e3] at di;have dx:=Nu e2 dx;have di:a.eval i=_:=di;have ht:=(hC.ty _ _ e1).desc;split at h
  ·rename_i et
   rw[et] at ht;cases hn:decide (0<=n)<;>simp only[hn,ϰ,ϗ] at h
   ·exact h.elim
   obtain ⟨v,hv,hφ⟩:=IL h;obtain ⟨b,hb,rfl⟩:=bH.1 hv;refine ⟨_,.int .u8 (b.toNat:Int),hφ,rfl,rfl,fun w'=>?_⟩;have hs:(tC l.toArray)[n.toNat]?=aj b:=by
    obtain ⟨h1,h2⟩:=bf.1 hb;rw[getElem?_pos (tC l.toArray) n.toNat (by simpa[rF] using h1)];exact congrArg aj h2
   have hn:0<=n:=ϑ hn;have ht:P.underlying t=aj .string:=ht;simp[execOp,ho,dx,di,Instr.index,asIntOf,run_underlying ht,hn,hs]
  ·exact h.elim
 ·exact h.elim
theorem Yw{call:Nat->List SV->Core->Tree (SV×Core)}{c:Core}{a:Act}{o:Oper}{φ:SV×Core->Prop}(hC:BP P C)(hd:AP H E c.tm a.tmps.toList)(hh:Bc K H E w c.hp)(hg:DI C.gls H)
  (hq:DY o.op=ay) (h:(SY C call c o).All φ):Yj P H E w c a o φ:=by
 unfold SY at h;split at h;case h_1 x ho=>exact (acw (.inl ho) hd h).q
 case h_2 x ho=>exact (acw (.inr ho) hd h).q
 case h_3 x y z ho=>exact (ao1 hC.A ho hd h).q
 case h_6 t parts ho=>exact (ajQ hC ho hd h).q
 case h_8 t x ho=>grind [aw8]
 case h_10 x ho=>exact (asK ho hd h).q
 case h_11 op t x y t2 ho=>exact let ⟨p,v,h1,h2,h3,h4⟩:=ac9 hC hg ho hd hh h;⟨p,v,h1,h2,h3,fun w' _ hon=>h4 w' fun _=>hon⟩
 case h_12 t x ho=>exact (asI hC.A ho hd h).q
 case h_13 t x ho=>exact (asJ hC.A ho hd h).q
 case h_14 t x f ho=>exact (Yl hC ho hd h).q
 case h_15 t x f ho=>exact (ajJ hC ho hd h).q
 case h_16 t x i ho=>exact (Yn hC ho hd hh hg h).q
 case h_17 x i ho=>exact (ac2 ho hd h).q
 case h_18 f fs cs ho=>exact (abe ho hd h).q
 case h_19 t x ho=>exact (Ry hC ho hd h).q
 case h_23 t m k ok ho=>grind [aqF]
 case h_28 k ho=>
  rw[ho] at hq;unfold V5 at h;split at h
  ·rename_i b hb
   obtain ⟨callee,xs,ts⟩:=k;simp only at hb;subst hb;simp only at h;split at h
   ·rename_i x t h1 h2
    split at h
    ·rename_i i hi
     cases hf:Rq i.ty (BU c.tm x)<;>simp only[hf,ϰ,ϗ] at h
     ·exact h.elim
     have e1:xs=#[x]:=by grind
     have e2:ts=#[t]:=by grind
     subst e1 e2;exact (q_len hC hd hh ho hi hf h).q
    ·exact h.elim
   ·simp[DY] at hq
   ·simp[DY] at hq
   ·rename_i x y h1
    have e1:xs=#[x,y]:=by grind
    subst e1;exact (ah2 (mx:=ay) hC hd ho h).q
   ·rename_i x y h1
    have e1:xs=#[x,y]:=by grind
    subst e1;exact (ah2 (mx:=aA) hC hd ho h).q
   ·exact h.elim
  ·rename_i f hb
   obtain ⟨callee,xs,ts⟩:=k;simp_all [DY]
  ·exact h.elim
 case h_30 t x i ho=>exact (ajS hC ho hd h).q
 case h_31=>exact h.elim
 all_goals simp_all [DY]
theorem ajT{call:Nat->List SV->Core->Tree (SV×Core)}{c:Core}{a:Act}{o:Oper}{φ:SV×Core->Prop}(hC:BP P C)(hd:AP H E c.tm a.tmps.toList)(hh:Bc K H E w c.hp)(hg:DI C.gls H)
  (hq:OA c.tm o.op=ay) (h:(SY C call c o).All φ):QP P H E c a o φ:=by
 unfold SY at h;split at h;case h_1 x ho=>simp_all [acw]
 case h_2 x ho=>simp_all [acw]
 case h_3 x y z ho=>exact ao1 hC.A ho hd h
 case h_6 t parts ho=>grind [ajQ]
 case h_10 x ho=>exact asK ho hd h
 case h_11 op t x y t2 ho=>
  rw[ho] at hq;exact let ⟨p,v,h1,h2,h3,h4⟩:=ac9 hC hg ho hd hh h;⟨p,v,h1,h2,h3,fun w'=>h4 w' fun e=>by grind [OA]⟩
 case h_12 t x ho=>exact asI hC.A ho hd h
 case h_13 t x ho=>exact asJ hC.A ho hd h
 case h_14 t x f ho=>grind [Yl]
 case h_15 t x f ho=>grind [ajJ]
 case h_16 t x i ho=>grind [Yn]
 case h_17 x i ho=>exact ac2 ho hd h
 case h_18 f fs cs ho=>exact abe ho hd h
 case h_19 t x ho=>grind [Ry]
 case h_28 k ho=>
  rw[ho] at hq;unfold V5 at h;split at h
  ·rename_i b hb
   obtain ⟨callee,xs,ts⟩:=k;simp only at hb;subst hb;simp only at h;split at h
   ·rename_i x t h1 h2
    split at h
    ·rename_i i hi
     cases hf:Rq i.ty (BU c.tm x)<;>simp only[hf,ϰ,ϗ] at h
     ·exact h.elim
     have e1:xs=#[x]:=by grind
     have e2:ts=#[t]:=by grind
     subst e1 e2;exact q_len hC hd hh ho hi hf h
    ·exact h.elim
   ·simp[OA,DY] at hq
   ·simp[OA,DY] at hq
   ·rename_i x y h1
    have e1:xs=#[x,y]:=by grind
    grind [ah2]
   ·rename_i x y h1
    have e1:xs=#[x,y]:=by grind
    grind [ah2]
   ·exact h.elim
  ·rename_i f hb
   obtain ⟨callee,xs,ts⟩:=k;simp_all [OA,DY]
  ·exact h.elim
 case h_30 t x i ho=>exact ajS hC ho hd h
 case h_31=>exact h.elim
 all_goals simp_all [OA,DY]
mutual
theorem agB:∀{x:SV} {v:Value},Den H E x v->Den H E x.hard v
 | .agg l,_,h=>by obtain ⟨vs,e,h⟩:=h;exact ⟨vs,e,Xx h⟩ | .Az l,_,h=>by obtain ⟨vs,e,h⟩:=h;exact ⟨vs,e,Xx h⟩ | .any,_,h| .val _,_,h| .int _ _,_,h| .sym _ _,_,h| .bool _,_,h| .test _,_,h| .str _,_,h| .ptr _ _,_,h| .gs _,_,h| .gp _ _ _ _,_,h| .Fj,_,h| .Bg,_,h| .Ht,_,h| .Eo,_,h| .Gy,_,h| .fn _ _,_,h| .DK _ _,_,h| .mp _,_,h| .sh _,_,h| .Iu _ _ _ _ _,_,h| .glob _,_,h| .ev _,_,h| .vw _ _,_,h=>h
theorem Xx:∀{l:List SV} {vs:List Value},AP H E l vs->AP H E (ahR l) vs
 |[],[],_=>trivial |_::_,_::_,h=>⟨agB h.1,Xx h.2⟩ |[],_::_,h=>h.elim |_::_,[],h=>h.elim
end
theorem Tree.Kv{α β:Type}{φ:β->Prop}{k:α->Tree β}:∀{t:Tree α},(t.bind k).All φ->t.All fun a=>(k a).All φ
 | .leaf _,h=>h | .node _ _ _,h=>⟨fun e=>Tree.Kv (h.1 e),fun e=>Tree.Kv (h.2 e)⟩ | .need _ _,h=>⟨h.1,Tree.Kv h.2⟩ | .must _ _,h=>⟨h.1,Tree.Kv h.2⟩ | .both _ _,h=>⟨Tree.Kv h.1,Tree.Kv h.2⟩ | .fail,h=>h.elim
theorem Xy{call:Nat->List SV->Core->Tree (SV×Core)}{c:Core}{o:Oper}{φ:SV×Core->Prop}(h:(exec C call c o).All φ):∃ψ:SV×Core->Prop,(SY C call c o).All ψ/\∀p,ψ p->∃x,φ (x,p.2)/\∀(H:Mem) (E:Env) (v:Value),Den H E p.1 v->Den H E x v:=by
 unfold exec at h;cases hl:C.lits<;>simp only[hl,ϰ,ϗ] at h
 ·grind
 ·exact ⟨_,Tree.Kv h,fun p hp=>⟨p.1.hard,hp,fun _ _ _ e=>agB e⟩⟩
theorem ajU{call:Nat->List SV->Core->Tree (SV×Core)}{c:Core}{a:Act}{o:Oper}{φ:SV×Core->Prop}(hC:BP P C)(hd:AP H E c.tm a.tmps.toList)(hh:Bc K H E w c.hp)(hg:DI C.gls H)
  (hq:DY o.op=ay) (h:(exec C call c o).All φ):Yj P H E w c a o φ:=by
 obtain ⟨ψ,h,hψ⟩:=Xy h;obtain ⟨p,v,h1,h2,h3,h4⟩:=Yw hC hd hh hg hq h;obtain ⟨x,q1,q2⟩:=hψ p h1;exact ⟨(x,p.2),v,q1,h2,q2 _ _ _ h3,h4⟩
theorem am5{call:Nat->List SV->Core->Tree (SV×Core)}{c:Core}{a:Act}{o:Oper}{φ:SV×Core->Prop}(hC:BP P C)(hd:AP H E c.tm a.tmps.toList)(hh:Bc K H E w c.hp)(hg:DI C.gls H)
  (hq:OA c.tm o.op=ay) (h:(exec C call c o).All φ):QP P H E c a o φ:=by
 obtain ⟨ψ,h,hψ⟩:=Xy h;obtain ⟨p,v,h1,h2,h3,h4⟩:=ajT hC hd hh hg hq h;obtain ⟨x,q1,q2⟩:=hψ p h1;exact ⟨(x,p.2),v,q1,h2,q2 _ _ _ h3,h4⟩
end
open Go.RowKit (Below)
def bk(E:Env)(id:Nat):Option Nat:=(E id).bind Ba
def Free(E:Env)(c:Core):Prop:=∀i,c.nx<=i->i<c.lim->E i=aF
structure Post(K:Kx)(H:Mem)(E:Env)(w:World)(c:Core)(H':Mem)(E':Env)(w':World)(c':Core):Prop where
 Ji:H.le H'
 Qc:E.le E'
 new:∀i,E i=aF->E' i≠aF->c.nx<=i/\i<c'.nx
 nx:c.nx<=c'.nx
 lim:c'.nx<=c.lim\/c'.nx=c.nx
 agC:c'.lim=c.lim
 tm:c'.tm=c.tm
 hp:Bc K H' E' w' c'.hp
 CP:EF K H' w'
 tc:∀id∈c.tc,id∈c'.tc
 size:w.heap.size<=w'.heap.size
 fr:∀b,b<w.heap.size->(∀id∈c'.tc,bk E id≠aj b)->w'.heap[b]?=w.heap[b]?
 Pn:∀i b,E i=aF->bk E' i=aj b->w.heap.size<=b\/∃id∈c'.tc,bk E id=aj b
 Z5:∀id∈c'.tc,id∈c.tc\/E id=aF\/∃sb,Aq c.hp id=aj sb/\Bv E id sb=bk E id
 keep:∀id sb b,Aq c.hp id=aj sb->id ∉ c'.tc->Bv E id sb=aj b->H' b≠aF\/∃sb',Aq c'.hp id=aj sb'/\Bv E' id sb'=aj b
 old:∀id sb,Aq c'.hp id=aj sb->E id≠aF->∃sb0,Aq c.hp id=aj sb0/\∀b,Bv E' id sb=aj b->Bv E id sb0=aj b
section
variable{P:Program}{C:Ctx}{K:Kx}{H H':Mem}{E E':Env}{w w':World}
theorem GX{elem st n:Nat}{v:Value}{xs:List Value}(h:w.ownsRow 0 elem st v n xs)(hk:∀b,Ba v=aj b->w'.heap[b]?=w.heap[b]?):w'.ownsRow 0 elem st v n xs:=by
 refine ⟨h.1,?_⟩;rcases h.2 with h2|⟨g,cap,cur,rfl,h3,h4,h5⟩
 ·exact .inl h2
 ·exact .inr ⟨g,cap,cur,rfl,h3,by rw[hk g rfl];exact h4,h5⟩
theorem Qn.le(hH:H.le H')(hE:E.le E'):∀{es:List (SV×SV)} {ms:List MapEntry},Qn H E es ms->Qn H' E' es ms
 |[],[],_=>trivial |(_,_)::_,_::_,⟨a,b,c⟩=>⟨a.le hH hE,b.le hH hE,Qn.le hH hE c⟩ |[],_::_,h=>h.elim |_::_,[],h=>h.elim
theorem Hl.le(hH:H.le H')(hE:E.le E'):∀{l:List (Int×Bool×SV)} {v:List (Int×Option Value)},Hl H E l v->Hl H' E' l v
 |[],[],_=>trivial |(_,ay,_)::_,(_,aj _)::_,⟨a,b,c⟩=>⟨a,⟨b.1.le hH hE,b.2⟩,Hl.le hH hE c⟩ |(_,aA,_)::_,(_,aF)::_,⟨a,_,c⟩=>⟨a,ϖ,Hl.le hH hE c⟩ |(_,ay,_)::_,(_,aF)::_,h=>h.2.1.elim |(_,aA,_)::_,(_,aj _)::_,h=>h.2.1.elim |[],_::_,h=>h.elim |_::_,[],h=>h.elim
theorem Yh.le(hH:H.le H')(hE:E.le E'):∀{l:List (Ep×Bool×SV)} {v:List (Ep×Option Value)},Yh H E l v->Yh H' E' l v
 |[],[],_=>trivial |(_,ay,_)::_,(_,aj _)::_,⟨a,b,c⟩=>⟨a,⟨b.1.le hH hE,b.2⟩,Yh.le hH hE c⟩ |(_,aA,_)::_,(_,aF)::_,⟨a,_,c⟩=>⟨a,ϖ,Yh.le hH hE c⟩ |(_,ay,_)::_,(_,aF)::_,h=>h.2.1.elim |(_,aA,_)::_,(_,aj _)::_,h=>h.2.1.elim |[],_::_,h=>h.elim |_::_,[],h=>h.elim
theorem ahZ.le(hE:E.le E'){k:IntKind}{ms:List MapEntry}{t:Option (Nat×Int)}(h:ahZ E k ms t):ahZ E' k ms t:=by
 cases t with
 |none=>trivial |some p=>obtain ⟨m,a,b,c⟩:=h;exact ⟨m,a,b,hE _ _ c⟩
theorem afV{e:Nat}{v:Value}{l:List UInt8}(h:Hu w e v l)(hk:∀b,Ba v=aj b->w'.heap[b]?=w.heap[b]?):Hu w' e v l:=by
 rcases h with h|⟨g,cap,cur,fz,rfl,h1,h2⟩
 ·exact .inl h
 ·exact .inr ⟨g,cap,cur,fz,rfl,by rw[hk g rfl];exact h1,h2⟩
theorem ajV{e b:Nat}{v:Value}{l:List UInt8}(h:Hu w e v l)(hb:Ba v=aj b):b<w.heap.size:=by
 rcases h with ⟨rfl,_⟩ |⟨g,cap,cur,fz,rfl,h1,h2⟩
 ·simp[Ba] at hb
 grind [Ba,bC]
theorem Ho.kept{id:Nat}{sb:SB}(h:Ho K H E w id sb)(hH:H.le H')(hE:E.le E')(hb:∀b,Bv E id sb=aj b->w'.heap[b]?=w.heap[b]?)(hm:∀b,Bv E id sb=aj b->H' b=aF):Ho K H' E' w' id sb:=by
 cases sb with
 |box cells elem=>
  obtain ⟨b,cs,he,h1,h2,h3⟩:=h;have ho:Bv E id (.box cells elem)=aj b:=by simp[Bv,he,Ba]
  exact ⟨b,cs,hE _ _ he,by simp_all,h2.le hH hE,hm b ho,h3.2⟩
 |row cells elem st n=>
  obtain ⟨v,xs,he,h1,h2,h3⟩:=h;have ho:∀b,Ba v=aj b->Bv E id (.row cells elem st n)=aj b:=fun b hv=>by simp[Bv,he,hv]
  exact ⟨v,xs,hE _ _ he,GX h1 fun b hv=>hb b (ho b hv),h2.le hH hE,fun b hv=>⟨hm b (ho b hv),(h3 b hv).2⟩⟩
 |own elem st n g=>
  obtain ⟨v,xs,he,h1,h2,h3⟩:=h;have ho:∀b,Ba v=aj b->Bv E id (.own elem st n g)=aj b:=fun b hv=>by simp[Bv,he,hv]
  exact ⟨v,xs,hE _ _ he,GX h1 fun b hv=>hb b (ho b hv),h2.le hH,fun b hv=>⟨hm b (ho b hv),(h3 b hv).2⟩⟩
 |fz st n g=>
  obtain ⟨v,he,h1⟩:=h;exact ⟨v,hE _ _ he,h1.le hH⟩
 |map es=>
  obtain ⟨b,ms,clk,he,h1,h2,h3⟩:=h;have ho:Bv E id (.map es)=aj b:=by simp[Bv,he,Ba]
  exact ⟨b,ms,clk,hE _ _ he,by simp_all,h2.le hH hE,hm b ho,h3.2⟩
 |UC l=>
  obtain ⟨v,he,h1⟩:=h;exact ⟨v,hE _ _ he,h1.le hH⟩
 |Ik elem st n g more=>
  obtain ⟨v,xs,ys,he,h1,h2,h3,h4,h5,h6⟩:=h;have ho:∀b,Ba v=aj b->Bv E id (.Ik elem st n g more)=aj b:=fun b hv=>by simp[Bv,he,hv]
  exact ⟨v,xs,ys,hE _ _ he,GX h1 fun b hv=>hb b (ho b hv),h2.le hH,h3.le hH hE,h4,h5,fun b hv=>⟨hm b (ho b hv),(h6 b hv).2⟩⟩
 |fm k M fs us tag=>
  obtain ⟨b,ms,clk,fv,uv,he,h1,h2,h3,h4,h5,h6,h7⟩:=h;have ho:Bv E id (.fm k M fs us tag)=aj b:=by simp[Bv,he,Ba]
  exact ⟨b,ms,clk,fv,uv,hE _ _ he,by simp_all,h2.le hH hE,h3.le hH hE,h4,h5,h6.le hE,hm b ho,h7.2⟩
 |pm vt M us=>
  obtain ⟨b,ms,clk,uv,he,h1,h2,h3,h4,h5,h7⟩:=h;have ho:Bv E id (.pm vt M us)=aj b:=by simp[Bv,he,Ba]
  exact ⟨b,ms,clk,uv,hE _ _ he,by simp_all,h2.le hH hE,h3,h4,h5,hm b ho,h7.2⟩
 |buf e l=>
  obtain ⟨v,he,h1,h3⟩:=h;have ho:∀b,Ba v=aj b->Bv E id (.buf e l)=aj b:=fun b hv=>by simp[Bv,he,hv]
  exact ⟨v,hE _ _ he,afV h1 fun b hv=>hb b (ho b hv),fun b hv=>⟨hm b (ho b hv),(h3 b hv).2⟩⟩
theorem Ho.lt{id:Nat}{sb:SB}(h:Ho K H E w id sb){b:Nat}(hb:Bv E id sb=aj b):b<w.heap.size/\Mine K H b:=by
 have lt:∀{b:Nat} {o:Obj},w.heap[b]?=aj o->b<w.heap.size:=fun h=>(bC.1 h).1;have lto:∀{elem st n:Nat} {v:Value} {xs:List Value},w.ownsRow 0 elem st v n xs->Ba v=aj b->b<w.heap.size:=by
  intro elem st n v xs h hv;rcases h.2 with ⟨rfl,_⟩ |⟨g,_,_,rfl,_,h4,_⟩
  ·simp[Ba] at hv
  ·simp[Ba] at hv;subst hv;exact lt h4
 cases sb with
 |box cells elem=>
  obtain ⟨b',cs,he,h1,h2,h3⟩:=h;simp_all [Bv,Ba]
 |row cells elem st n=>
  obtain ⟨v,xs,he,h1,h2,h3⟩:=h;grind [Bv]
 |own elem st n g=>
  obtain ⟨v,xs,he,h1,h2,h3⟩:=h;grind [Bv]
 |fz st n g=>simp[Bv] at hb |map es=>
  obtain ⟨b',ms,clk,he,h1,h2,h3⟩:=h;simp_all [Bv,Ba]
 |UC l=>simp[Bv] at hb |Ik elem st n g more=>
  obtain ⟨v,xs,ys,he,h1,h2,h3,h4,h5,h6⟩:=h;grind [Bv]
 |fm k M fs us tag=>
  obtain ⟨b',ms,clk,fv,uv,he,h1,h2,h3,h4,h5,h6,h7⟩:=h;simp_all [Bv,Ba]
 |pm vt M us=>
  obtain ⟨b',ms,clk,uv,he,h1,h2,h3,h4,h5,h7⟩:=h;simp_all [Bv,Ba]
 |buf e l=>
  obtain ⟨v,he,h1,h3⟩:=h;simp[Bv,he] at hb;exact ⟨ajV h1 hb,h3 b hb⟩
theorem GK{id b:Nat}{sb:SB}(h:Bv E id sb=aj b):bk E id=aj b:=by
 cases sb<;>simp[Bv] at h<;>simpa[bk] using h
theorem acz{id b:Nat}{sb:SB}(h:Bv E id sb=aj b)(hE:E.le E'):Bv E' id sb=aj b:=by
 have key:(E id).bind Ba=aj b->(E' id).bind Ba=aj b:=fun h=>by
  cases he:E id with
  |none=>grind |some v=>rw[hE _ _ he];simp_all
 (cases sb<;>simp only[Bv] at h ⊢)<;>simp_all
theorem Ho.some_{id:Nat}{sb:SB}(h:Ho K H E w id sb):∃v,E id=aj v:=by
 cases sb with
 |box _ _=>obtain ⟨b,_,he,_⟩:=h;simp_all |row _ _ _ _=>obtain ⟨v,_,he,_⟩:=h;simp_all |own _ _ _ _=>obtain ⟨v,_,he,_⟩:=h;simp_all |fz _ _ _=>obtain ⟨v,he,_⟩:=h;simp_all |map _=>obtain ⟨b,_,_,he,_⟩:=h;simp_all |UC _=>obtain ⟨v,he,_⟩:=h;simp_all |Ik _ _ _ _ _=>obtain ⟨v,_,_,he,_⟩:=h;simp_all |fm _ _ _ _ _=>obtain ⟨b,_,_,_,_,he,_⟩:=h;simp_all |pm _ _ _=>obtain ⟨b,_,_,_,he,_⟩:=h;simp_all |buf _ _=>obtain ⟨v,he,_⟩:=h;simp_all
theorem Hr{id:Nat}{sb:SB}(h:Ho K H E w id sb)(hE:E.le E'):Bv E' id sb=Bv E id sb:=by
 obtain ⟨v,he⟩:=h.some_;have he':=hE _ _ he;simp_all [Bv]
theorem EC{α:Type}:∀(l:List (Nat×α)) (i j:Nat) (y:α),Aq (hset l i y) j=bif i==j then (Aq l i).map (fun _=>y) else Aq l j
 |[],i,j,y=>by simp_all [hset,Aq] |(k,x)::l,i,j,y=>by
  have ih:=EC l i j y;unfold hset;grind [Aq]
theorem Fb{α:Type}:∀(l:List (Nat×α)) (i j:Nat) (y:α),Aq (hins l i y) j=bif i==j then aj y else Aq l j
 |[],i,j,y=>by rfl |(k,x)::l,i,j,y=>by
  have ih:=Fb l i j y;unfold hins;cases hk:fC k i<;>simp only[ϰ,ϗ]
  ·rfl
  ·simp only[Aq,ih]
   cases hkj:(k==j)<;>cases hij:(i==j)<;>simp
   simp_all
theorem Xz{α:Type}:∀(l:List (Nat×α)) (i j:Nat),Aq (hdel l i) j=bif i==j then aF else Aq l j
 |[],i,j=>by simp_all [hdel,Aq] |(k,x)::l,i,j=>by
  have ih:=Xz l i j;unfold hdel;grind [Aq]
def Env.set(E:Env)(i:Nat)(v:Value):Env:=fun j=>if j=i then aj v else E j
theorem Env.ah4{i:Nat}{v:Value}(h:E i=aF):E.le (E.set i v):=fun j u hj=>by
 grind [Env.set]
theorem Env.set_self(E:Env)(i:Nat)(v:Value):E.set i v i=aj v:=by simp[Env.set]
theorem Jj(w:World)(o:Obj):(w.alloc o).heap[w.heap.size]?=aj o:=heap_alloc_new w o
theorem size_alloc(w:World)(o:Obj):(w.alloc o).heap.size=w.heap.size+1:=by simp
theorem EF.alloc(h:EF K H w)(o:Obj):EF K H (w.alloc o):=
 ⟨h.os,h.tape,h.output,by rw[size_alloc];have:=h.size;omega,fun b hb hn=>by rw[kC w o b (by have:=h.size;omega)];exact h.kept b hb hn,
  fun b o' hb=>by
   have:=h.on b o' hb;grind [kC,bC],h.le,h.fresh⟩
theorem asR(h:EF K H w):H w.heap.size=aF:=by
 cases hb:H w.heap.size with
 |none=>rfl |some o=>have:=(bC.1 (h.on _ _ hb)).1;omega
theorem KG(h:EF K H w):Mine K H w.heap.size:=⟨asR h,.inl h.size⟩
theorem Io{c:Core}{sb:SB}{sv:SV}{φ:SV×Core->Prop}{o:Obj}{v:Value}(hh:Bc K H E w c.hp)(hw:EF K H w)(hf:Free E c)
  (h:(alloc c sb sv).All φ) (hv:Ba v=aj w.heap.size) (he:Ho K H (E.set c.nx v) (w.alloc o) c.nx sb) :
  ∃c',φ (sv,c')/\Post K H E w c H (E.set c.nx v) (w.alloc o) c':=by
 unfold alloc at h;cases hb:fC c.nx c.lim<;>simp only[hb,ϰ,ϗ] at h
 ·exact h.elim
 have hlt:=MC hb;have hnone:=hf c.nx (bM _) hlt;have hle:E.le (E.set c.nx v):=Env.ah4 hnone;refine ⟨_,h,fun _ _ e=>e,hle,?_,by simp,.inl (by simp;omega),rfl,rfl,?_,hw.alloc o,fun _ h=>h,by simp,fun b hb _=>kC w o b hb,?_,?_,?_,?_⟩
 ·simp_all [Env.set]
 ·refine ⟨fun id sb' hl=>?_,fun id id' sb1 Yx b h1 h2 o1 o2=>?_⟩
  ·rw[Fb] at hl
   cases hid:(c.nx==id)<;>simp only[hid,ϰ,ϗ] at hl
   ·have hent:=hh.ent id sb' hl
    exact hent.kept (fun _ _ e=>e) hle (fun b hb=>kC w o b (hent.lt hb).1) (fun b hb=>(hent.lt hb).2.1)
   simp_all
  ·rw[Fb] at h1 h2
   cases hid:(c.nx==id)<;>cases ajW:(c.nx==id')<;>simp only[hid,ajW,ϰ,ϗ] at h1 h2
   ·rw[Hr (hh.ent _ _ h1) hle] at o1
    rw[Hr (hh.ent _ _ h2) hle] at o2;exact hh.GH _ _ _ _ _ h1 h2 o1 o2
   ·obtain rfl:c.nx=id':=by simp_all
    rw[Hr (hh.ent _ _ h1) hle] at o1;have e2:=GK o2;simp[bk,Env.set,hv] at e2;have:=((hh.ent _ _ h1).lt o1).1;omega
   ·obtain rfl:c.nx=id:=by grind
    rw[Hr (hh.ent _ _ h2) hle] at o2;have e1:=GK o1;simp[bk,Env.set,hv] at e1;have:=((hh.ent _ _ h2).lt o2).1;omega
   simp_all
 ·grind [bk,Env.set]
 ·simp_all
 ·intro id sb' b hl _ ho
  refine .inr ⟨sb',?_,acz ho hle⟩;simp only[Fb];cases hid:(c.nx==id)<;>simp only[ϰ,ϗ]
  ·exact hl
  ·obtain rfl:c.nx=id:=by grind
   obtain ⟨u,hu⟩:=(hh.ent _ _ hl).some_;simp_all
 ·intro id sb' hl hne
  simp only[Fb] at hl;cases hid:(c.nx==id)<;>simp only[hid,ϰ,ϗ] at hl
  ·exact ⟨sb',hl,fun b ho=>by rw[Hr (hh.ent _ _ hl) hle] at ho;exact ho⟩
  simp_all
def II(P:Program)(K:Kx)(H:Mem)(E:Env)(w:World)(c:Core)(a:Act)(o:Oper)(φ:SV×Core->Prop):Prop:=
 ∃(p:SV×Core) (v:Value) (r:Next) (H':Mem) (E':Env) (w':World),φ p/\Den H' E' p.1 v/\Post K H E w c H' E' w' p.2/\(r=.value v\/(r=.skip/\v=undef))/\(execOp a.eval o).run P w=.ok r w'
theorem Post.refl{c:Core}(hh:Bc K H E w c.hp)(hw:EF K H w):Post K H E w c H E w c:=
 ⟨fun _ _ e=>e,fun _ _ e=>e,fun _ h1 h2=>(h2 h1).elim,bM _,.inr rfl,rfl,rfl,hh,hw,fun _ h=>h,bM _,fun _ _ _=>rfl,fun i b h1 h2=>by grind [bk],fun _ h=>.inl h,fun id sb b h1 _ h3=>.inr ⟨sb,h1,h3⟩,fun id sb h _=>⟨sb,h,fun _ h=>h⟩⟩
theorem Yj.toW{c:Core}{a:Act}{o:Oper}{φ:SV×Core->Prop}(h:Yj P H E w c a o φ)(hh:Bc K H E w c.hp)(hw:EF K H w):II P K H E w c a o φ:=by
 obtain ⟨p,v,h1,h2,h3,h4⟩:=h;exact ⟨p,v,_,H,E,w,h1,h3,by simp_all [Post.refl],.inl rfl,h4 w (Xp.refl _ _ _ _) hw.on⟩
theorem asT{c:Core}{a:Act}{o:Oper}{e:Nat}{φ:SV×Core->Prop}(hC:BP P C)(hh:Bc K H E w c.hp)(hw:EF K H w)(hf:Free E c)
  (ho:o.op=.alloc e) (h:(Xh C c e).All φ):II P K H E w c a o φ:=by
 unfold Xh at h;split at h
 ·rename_i i hi
  obtain ⟨z,h1,h2,h3⟩:=aqC (hC.ty _ _ hi) w;have h2':AP H (E.set c.nx (.pointer (aj ⟨w.heap.size,0,aF⟩))) i.zero z.cells.toList:=h2.le (fun _ _ e=>by cases e) (fun _ _ e=>by cases e);obtain ⟨c',hφ,hp⟩:=Io (o:=.cells z.cells e) (v:=.pointer (aj ⟨w.heap.size,0,aF⟩)) hh hw hf h rfl
   ⟨w.heap.size,z.cells,Env.set_self _ _ _,Jj _ _,h2',KG hw⟩
  refine ⟨_,_,_,H,_,_,hφ,⟨w.heap.size,by simp[Env.set_self,Ba],rfl⟩,hp,.inl rfl,?_⟩;simp[execOp,ho,Instr.alloc,h1,newVar,newRow]
 ·exact h.elim
theorem azR{c:Core}{a:Act}{o:Oper}{e:Nat}{x:Operand}{φ:SV×Core->Prop}(hd:AP H E c.tm a.tmps.toList)(hh:Bc K H E w c.hp)(hw:EF K H w)(hf:Free E c)
  (ho:o.op=.box e x) (h:(bif (BU c.tm x).okc then alloc c (.box (BU c.tm x).cells e) (.ptr c.nx 0) else .fail).All φ):II P K H E w c a o φ:=by
 cases hk:(BU c.tm x).okc<;>simp only[hk,ϰ,ϗ] at h
 ·exact h.elim
 have hx:=QO hk (BM (H:=H) (E:=E) hd x);have hx':c.nx<c.lim->AP H (E.set c.nx (.pointer (aj ⟨w.heap.size,0,aF⟩))) (BU c.tm x).cells (a.eval x).cells.toList:=fun hl=>hx.le (fun _ _ e=>e) (Env.ah4 (hf _ (bM _) hl));have hl:c.nx<c.lim:=by
  unfold alloc at h;cases hb:fC c.nx c.lim<;>simp only[hb,ϰ,ϗ] at h
  ·exact h.elim
  simp_all
 obtain ⟨c',hφ,hp⟩:=Io (o:=.cells (a.eval x).cells e) (v:=.pointer (aj ⟨w.heap.size,0,aF⟩)) hh hw hf h rfl
  ⟨w.heap.size,_,Env.set_self _ _ _,Jj _ _,hx' hl,KG hw⟩
 refine ⟨_,_,_,H,_,_,hφ,⟨w.heap.size,by simp[Env.set_self,Ba],rfl⟩,hp,.inl rfl,?_⟩;simp[execOp,ho,Instr.box,newVar,newRow]
theorem Yy{H:Mem}{E:Env}:∀l:List Int,Hl H E (ajD l) (l.map fun n=>(n,aF))
 |[]=>trivial |_::l=>⟨rfl,ϖ,Yy l⟩
theorem am6{c:Core}{a:Act}{o:Oper}{t:Nat}{φ:SV×Core->Prop}(hh:Bc K H E w c.hp)(hw:EF K H w)(hf:Free E c)
  (ho:o.op=.makeMap t aF) (h:(SX C c t).All φ):II P K H E w c a o φ:=by
 unfold SX at h;split at h
 ·rename_i k l _
  obtain ⟨c',hφ,hp⟩:=Io (o:=.map #[] 0) (v:=.map (aj w.heap.size)) hh hw hf h rfl
   ⟨w.heap.size,#[],0,l.map fun n=>(n,aF),[],Env.set_self _ _ _,Jj _ _,Yy l,ϖ,fun n o hm=>by
    grind,⟨fun m hm=>by simp at hm,fun n=>rfl,fun i j m m' hm=>by simp at hm,fun i j m m' hm=>by simp at hm,fun m hm=>by simp at hm⟩,ϖ,KG hw⟩
  refine ⟨_,_,_,H,_,_,hφ,⟨w.heap.size,Env.set_self _ _ _,rfl⟩,hp,.inl rfl,?_⟩;simp[execOp,ho,oL]
 ·split at h
  ·rename_i vt _
   obtain ⟨c',hφ,hp⟩:=Io (o:=.map #[] 0) (v:=.map (aj w.heap.size)) hh hw hf h rfl
    ⟨w.heap.size,#[],0,[],Env.set_self _ _ _,Jj _ _,ϖ,(fun _ _ h=>by cases h),(fun _ h=>by cases h),⟨fun m hm=>by simp at hm,fun m hm=>by simp at hm,(fun n v hn=>by cases hn),fun i j m m' hm=>by simp at hm⟩,KG hw⟩
   refine ⟨_,_,_,H,_,_,hφ,⟨w.heap.size,Env.set_self _ _ _,rfl⟩,hp,.inl rfl,?_⟩;simp[execOp,ho,oL]
  ·obtain ⟨c',hφ,hp⟩:=Io (o:=.map #[] 0) (v:=.map (aj w.heap.size)) hh hw hf h rfl
    ⟨w.heap.size,#[],0,Env.set_self _ _ _,Jj _ _,ϖ,KG hw⟩
   refine ⟨_,_,_,H,_,_,hφ,⟨w.heap.size,Env.set_self _ _ _,rfl⟩,hp,.inl rfl,?_⟩;simp[execOp,ho,oL]
end
section
variable{P:Program}{C:Ctx}{K:Kx}{H H':Mem}{E E':Env}{w w':World}
theorem AP.QN:∀{l:List SV} {vs:List Value},vs.length=l.length->(∀(j:Nat) (s:SV) (v:Value),l[j]?=aj s->vs[j]?=aj v->Den H E s v)->AP H E l vs
 |[],[],_,_=>trivial |_::_,_::_,hl,h=>⟨h 0 _ _ rfl rfl,AP.QN (by grind) fun j s v h1 h2=>h (j+1) s v (by grind) (by grind)⟩ |[],_::_,h,_=>by simp at h |_::_,[],h,_=>by simp at h
theorem ada:∀(xs z:List SV) (off j:Nat),off+xs.length<=z.length->(setAt z off xs)[j]?=if off<=j/\j<off+xs.length then xs[j - off]? else z[j]?
 |[],z,off,j,_=>by simp[setAt];omega |x::xs,z,off,j,h=>by
  rw[setAt,ada xs _ (off+1) j (by grind)];grind
theorem abq(cs vs:List Value)(off j:Nat)(h:off+vs.length<=cs.length):(cs.take off++vs++cs.drop (off+vs.length))[j]?=if off<=j/\j<off+vs.length then vs[j - off]? else cs[j]?:=by
 have h1:(cs.take off).length=off:=by grind
 grind
theorem adb(cs vs:List Value)(off:Nat)(h:off+vs.length<=cs.length):(cs.take off++vs++cs.drop (off+vs.length)).length=cs.length:=by
 grind
theorem abr{cells l:List SV}{cs vs:List Value}{off:Nat}(h1:AP H E cells cs)(h2:AP H E l vs)(h:off+l.length<=cells.length):
  AP H E (setAt cells off l) (cs.take off++vs++cs.drop (off+vs.length)):=by
 have e1:=h1.length;have e2:=h2.length;refine AP.QN (by grind [adb,QS]) fun j s v hs hv=>?_
 rw[ada _ _ _ _ h] at hs;rw[abq _ _ _ _ (by omega)] at hv;rw[e2] at hv;split at hs
 ·rw[if_pos (by assumption)] at hv
  exact h2.at_ hs hv
 ·rw[if_neg (by assumption)] at hv
  exact h1.at_ hs hv
theorem Yz(cur vs:List Value)(off m:Nat)(h:off+vs.length<=m)(hm:m<=cur.length):
  (cur.take off++vs++cur.drop (off+vs.length)).take m=(cur.take m).take off++vs++(cur.take m).drop (off+vs.length):=by
 apply List.ext_getElem?;grind
theorem MG{c:Core}{id b:Nat}{sb sb':SB}(hh:Bc K H E w c.hp)(hw:EF K H w)(hl:Aq c.hp id=aj sb)(hb:Bv E id sb=aj b)
  (hother:∀k,k≠b->w'.heap[k]?=w.heap[k]?) (hsz:w'.heap.size=w.heap.size) (hos:w'.os=w.os) (htape:w'.tape=w.tape) (hout:w'.output=w.output)
  (he:Ho K H E w' id sb') (hb':Bv E id sb'=aj b):Post K H E w c H E w' {c with hp:=hset c.hp id sb',tc:=id::c.tc}:=by
 have Gu:=((hh.ent _ _ hl).lt hb);refine ⟨fun _ _ e=>e,fun _ _ e=>e,fun _ h1 h2=>(h2 h1).elim,bM _,.inr rfl,rfl,rfl,?_,?_,fun _ h=>bV _ h,by omega,?_,fun i b h1 h2=>by grind [bk],?_,?_,?_⟩
 ·refine ⟨fun id2 Yx hl2=>?_,fun id1 id2 sb1 Yx b0 h1 h2 o1 o2=>?_⟩
  ·rw[EC] at hl2
   cases hid:(id==id2)<;>simp only[hid,ϰ,ϗ] at hl2
   ·have hent:=hh.ent _ _ hl2
    refine hent.kept (fun _ _ e=>e) (fun _ _ e=>e) (fun b0 hb0=>hother b0 fun e=>?_) fun b0 hb0=>(hent.lt hb0).2.1;subst e;have:=hh.GH _ _ _ _ _ hl hl2 hb hb0;simp_all
   simp_all
  ·have conv:∀{i:Nat} {s:SB},Aq (hset c.hp id sb') i=aj s->Bv E i s=aj b0->∃s',Aq c.hp i=aj s'/\Bv E i s'=aj b0:=by
    grind [EC]
   obtain ⟨s1,a1,a2⟩:=conv h1 o1;obtain ⟨s2,a3,a4⟩:=conv h2 o2;exact hh.GH _ _ _ _ _ a1 a3 a2 a4
 ·refine ⟨hos.trans hw.os,htape.trans hw.tape,hout.trans hw.output,by have:=hw.size;omega,fun k hk hn=>?_,fun k o hk=>?_,hw.le,hw.fresh⟩
  ·rw[hother k fun e=>?_]
   ·exact hw.kept k hk hn
   ·subst e
    (rcases Gu.2.2 with h|h)<;>grind
  ·rw[hother k fun e=>?_]
   ·exact hw.on k o hk
   ·subst e
    rw[Gu.2.1] at hk;cases hk
 ·grind [dn,GK]
 ·grind [GK]
 ·grind [EC]
 grind [EC]
theorem one_cell{x:SV}{u:Value}(h1:x.one=ay)(hd:Den H E x u):u.oneCell'=ay:=by
 cases x;case any=>simp[uH] at h1
 case agg l=>simp[uH] at h1
 case Az l=>simp[uH] at h1
 case ev=>simp[uH] at h1
 case val v=>obtain ⟨rfl,h⟩:=hd;exact h
 case sh s=>
  have hd:Rep H s u:=hd;cases hd;case agg l vs a1 a2=>assumption
  case Az l vs a1 a2=>assumption
  case v h=>exact h
  all_goals rfl
 all_goals first
  |(simp only[Den] at hd;subst hd;rfl)
  |(obtain ⟨_,_,rfl⟩:=hd;rfl)
  |(obtain ⟨_,_,_,_,rfl⟩:=hd;rfl)
  |(obtain ⟨_,_,_,_,_,rfl⟩:=hd;rfl)
  |(obtain ⟨_,rfl,_⟩:=hd;rfl)
  |(obtain ⟨_,_,_,rfl,_⟩:=hd;rfl)
theorem FP:∀{l:List SV} {vs:List Value},Gf l=ay->AP H E l vs->∀v∈vs,v.oneCell'=ay
 |[],[],_,_,_,h=>by cases h |x::l,v::vs,h,⟨h1,h2⟩,u,hu=>by
  simp only[Gf,aB] at h;cases hu with
  |head=>exact one_cell h.1 h1 |tail _ hu=>exact FP h.2 h2 u hu
 |[],_::_,_,h,_,_=>h.elim |_::_,[],_,h,_,_=>h.elim
end
section
variable{P:Program}{C:Ctx}{K:Kx}{H H':Mem}{E E':Env}{w w':World}
theorem U0(t ty e:TypeId)(i:TypeInfo)(z:Value)(size bytes:Nat)(ht:P.underlying t=aj (.slice e))(hi:P.info? e=aj i)(hz:i.zero=aj z)
  (hsize:i.size=size) (hby:i.bytes=bytes) (hzs:z.cells.size=size) (hsz:0<size) (v:Value) (n:Nat) (xs:List Value) (hown:w.ownsRow 0 e size v n xs)
  (a:Addr) (m c:Nat) (news:List Value) (hl:news.length=m*size) (hnews:∀j u,news[j]?=aj u->w.cell? (a.add j)=aj u) (h1:∀u∈news,u.oneCell'=ay)
  (h63:n+m<=maxLen) (hbytes:(n+m)*bytes<=140737488355328) :
  ∃v' w',(dQ #[t,t] ty #[v,.slice (aj a) m c]).run P w=.ok v' w'/\w'.ownsRow 0 e size v' (n+m) (xs++news)/\w.grownBy w' (Ba v)/\
   ∀b,Ba v'=aj b->Ba v=aj b\/w.heap.size<=b:=by
 have hsmall:n+m<=9223372036854775807:=by assumption
 rcases hown.2 with ⟨rfl,rfl⟩ |⟨g,cap,cur,rfl,_,hg,hnc,hcm,hcs,htake⟩
 ·obtain ⟨v',w',hr,ho,hgr,_⟩:=run_append_own (P:=P) w w.heap.size t ty e i z size bytes ht hi hz hsize hby hzs hsz (.slice aF 0 0) 0 xs ⟨hown.1,.inl ⟨rfl,rfl⟩⟩ a m c news hl hnews h1 h63 hbytes (bM _)
  refine ⟨v',w',hr,⟨ho.1,?_⟩,hgr,fun b hb=>.inr ?_⟩
  ·(rcases ho.2 with h|⟨g,cap,cur,h2,_,h4⟩)<;>grind
  ·rcases ho.2 with ⟨rfl,_⟩ |⟨g,cap,cur,rfl,hge,h4⟩
   ·simp[Ba] at hb
   ·simp[Ba] at hb;omega
 ·obtain ⟨v',w',hr,ho,hgr,_⟩:=run_append_own (P:=P) w 0 t ty e i z size bytes ht hi hz hsize hby hzs hsz _ n xs hown a m c news hl hnews h1 h63 hbytes (fH _)
  refine ⟨v',w',hr,ho,hgr,fun b hb=>?_⟩;subst hsize hby
  by_cases hroom:n+m<=cap
  ·have hfit:n*i.size+news.length<=cur.size:=by rw[hl,hcs,<-oU];exact bW _ hroom
   have hr2:=run_append_room (P:=P) w t ty e i ht hi g n cap cur hg a m c news hl hnews h1 hroom hfit;grind [Ba]
  ·have holds:∀j u,xs[j]?=aj u->w.cell? ((⟨g,0,aF⟩:Addr).add j)=aj u:=hown.cells (g:=g) rfl
   have hr2:=run_append_grow (P:=P) w t ty e i z ht hi hz ⟨g,0,aF⟩ n cap xs hown.1 holds a m c news hl hnews (by omega) (by omega) (growslice_fits (by omega) hbytes);grind [Ba]
theorem ajX(t ty e:TypeId)(i:TypeInfo)(z:Value)(size bytes:Nat)(ht:P.underlying t=aj (.slice e))(hi:P.info? e=aj i)(hz:i.zero=aj z)
  (hsize:i.size=size) (hby:i.bytes=bytes) (hzs:z.cells.size=size) (hsz:0<size) (v:Value) (n:Nat) (xs:List Value) (hown:w.ownsRow 0 e size v n xs)
  (x:Value) (m:Nat) (news:List Value) (hx:(m=0/\∃A c,x=.slice A 0 c)\/(∃a c,x=.slice (aj a) m c/\∀j u,news[j]?=aj u->w.cell? (a.add j)=aj u)) (hl:news.length=m*size) (h1:∀u∈news,u.oneCell'=ay)
  (h63:n+m<=maxLen) (hbytes:(n+m)*bytes<=140737488355328) :
  ∃v' w',(dQ #[t,t] ty #[v,x]).run P w=.ok v' w'/\w'.ownsRow 0 e size v' (n+m) (xs++news)/\w.grownBy w' (Ba v)/\
   ∀b,Ba v'=aj b->Ba v=aj b\/w.heap.size<=b:=by
 rcases hx with ⟨rfl,A,c,rfl⟩ |⟨a,c,rfl,hc⟩
 ·have hn:news=[]:=List.eq_nil_of_length_eq_zero (by omega)
  subst hn;cases A with
  |some a=>exact U0 t ty e i z size bytes ht hi hz hsize hby hzs hsz v n xs hown a 0 c [] (by simp) (by simp) (by simp) h63 hbytes |none=>
   have hr:(dQ #[t,t] ty #[v,.slice aF 0 c]).run P w=.ok v w:=by
    rcases hown.2 with ⟨rfl,rfl⟩ |⟨g,cap,cur,rfl,_,_,hnc,_⟩
    ·simp[dQ,run_underlying ht,sizeOf,typeInfo,hi,nP,iV]
    ·simp[dQ,run_underlying ht,sizeOf,typeInfo,hi,nP,iV,hnc,storeCells]
   exact ⟨v,w,hr,by simp_all,⟨rfl,rfl,rfl,bM _,fun _ _ _=>rfl⟩,fun b hb=>.inl hb⟩
 simp_all [U0]
mutual
theorem OT{hp:List (Nat×SB)}(hh:Bc K H E w hp):∀{x:SV} {s:Sh} {u:Value},Eu hp x=aj s->Den H E x u->Rep H s u
 | .int k n,s,u,h,hd=>by simp[Eu] at h;subst h;simp only[Den] at hd;subst hd;exact .i k n | .sym k n,s,u,h,hd=>by simp[Eu] at h;subst h;simp only[Den] at hd;subst hd;exact .i k n | .bool b,s,u,h,hd=>by simp[Eu] at h;subst h;simp only[Den] at hd;subst hd;exact .b b | .test b,s,u,h,hd=>by simp[Eu] at h;subst h;simp only[Den] at hd;subst hd;exact .b b | .str l,s,u,h,hd=>by simp[Eu] at h;subst h;simp only[Den] at hd;subst hd;exact .str l | .val v,s,u,h,hd=>by simp[Eu] at h;subst h;obtain ⟨rfl,h1⟩:=hd;exact .v _ h1 | .Fj,s,u,h,hd=>by simp[Eu] at h;subst h;simp only[Den] at hd;subst hd;exact .v _ rfl | .Ht,s,u,h,hd=>by simp[Eu] at h;subst h;simp only[Den] at hd;subst hd;exact .v _ rfl | .Eo,s,u,h,hd=>by simp[Eu] at h;subst h;simp only[Den] at hd;subst hd;exact .v _ rfl | .Bg,s,u,h,hd=>by simp[Eu] at h;subst h;simp only[Den] at hd;subst hd;exact .sl0 _ _ _ _ (fH _) | .sh s',s,u,h,hd=>by simp[Eu] at h;subst h;exact hd | .agg l,s,u,h,hd=>by
  simp only[Eu,bH] at h;obtain ⟨l',h1,rfl⟩:=h;obtain ⟨vs,rfl,hl⟩:=hd;have hr:=EL hh h1 hl;exact .agg _ _ (by rw[<-dJ];exact hr.length) fun j s v e1 e2=>hr.at_ e1 (by grind)
 | .Az l,s,u,h,hd=>by
  simp only[Eu,bH] at h;obtain ⟨l',h1,rfl⟩:=h;obtain ⟨vs,rfl,hl⟩:=hd;have hr:=EL hh h1 hl;exact .Az _ _ (by rw[<-dJ];exact hr.length) fun j s v e1 e2=>hr.at_ e1 (by grind)
 | .fn f l,s,u,h,hd=>by
  simp only[Eu,bH] at h;obtain ⟨l',h1,rfl⟩:=h;obtain ⟨vs,rfl,hl⟩:=hd;have hr:=EL hh h1 hl;exact .fn _ _ _ (by rw[<-dJ];exact hr.length) fun j s v e1 e2=>hr.at_ e1 (by grind)
 | .DK t x,s,u,h,hd=>by
  simp only[Eu,bH] at h;obtain ⟨s',h1,rfl⟩:=h;obtain ⟨v,rfl,hl⟩:=hd;exact .DK _ _ _ (OT hh h1 hl)
 | .gs id,s,u,h,hd=>by
  simp only[Eu] at h;split at h
  ·rename_i st m g hl
   cases h;obtain ⟨v,he,hr⟩:=hh.ent _ _ hl;rw[hd.1] at he;simp_all
  ·cases h
 | .any,s,u,h,hd=>by simp[Eu] at h | .ptr id off,s,u,h,hd=>by
  simp only[Eu] at h;split at h
  ·rename_i l hl
   cases hb:(off==0)<;>simp only[hb,ϰ,ϗ] at h
   ·cases h
   ·cases h
    obtain rfl:off=0:=by grind
    obtain ⟨v,he,hr⟩:=hh.ent _ _ hl;obtain ⟨b,h1,rfl⟩:=hd;cases hr with
    |pt _ b2 off2 c a1 a2 a3=>
     rw[he] at h1;simp only[dS] at h1;have h02:b2=b/\off2=0:=by
      unfold Ba at h1;grind
     obtain ⟨rfl,rfl⟩:=h02;exact .pt _ _ _ c a1 a2 a3
  ·cases h
 | .gp _ _ _ _,s,u,h,hd=>by simp[Eu] at h | .Gy,s,u,h,hd=>by simp[Eu] at h | .mp _,s,u,h,hd=>by simp[Eu] at h | .Iu st n g i off,s,u,h,hd=>by
  simp only[Eu] at h;cases hb:(off==0&&(g i).length==st)<;>simp only[hb,ϰ,ϗ] at h
  ·cases h
  ·cases h
   simp only[aB,ϡ] at hb;obtain ⟨rfl,h1⟩:=hb;obtain ⟨b,o,c,rfl,_,h3,h4,h5⟩:=hd;exact .pt _ _ _ c (fun j hj=>(h4 j (by omega)).1) (fun j hj=>(h4 j (by omega)).2) h5
 | .glob _,s,u,h,hd=>by simp[Eu] at h | .ev _,s,u,h,hd=>by simp[Eu] at h | .vw _ _,s,u,h,hd=>by simp[Eu] at h
theorem EL{hp:List (Nat×SB)}(hh:Bc K H E w hp):∀{l:List SV} {l':List Sh} {vs:List Value},Jh hp l=aj l'->AP H E l vs->EN H l' vs
 |[],l',[],h,_=>by simp[Jh] at h;subst h;trivial |x::l,l',v::vs,h,⟨h1,h2⟩=>by
  simp only[Jh] at h;split at h
  ·rename_i s r e1 e2
   cases h;exact ⟨OT hh e1 h1,EL hh e2 h2⟩
  ·cases h
 |[],_,_::_,_,h=>h.elim |_::_,_,[],_,h=>h.elim
end
theorem Tf(st:Nat):∀(n:Nat) (l:List Sh) (i:Nat),i<n->Bh (chunks st n l) i=(l.drop (i*st)).take st
 |n+1,l,0,_=>by simp[Bh,chunks] |n+1,l,i+1,h=>by
  have ih:=Tf st n (l.drop st) i (by omega);simp only[Bh,chunks,rD] at ih ⊢;simp_all [wL,oU,oJ,yZ]
theorem KW{st n:Nat}{l:List Sh}{xs:List Value}(hl:xs.length=n*st)(hr:EN H l xs)(h1:∀u∈xs,u.oneCell'=ay):CQ H st n (Bh (chunks st n l)) xs:=by
 have hll:=hr.length;have hle:∀i,i<n->i*st+st<=n*st:=fun i hi=>by
  calc i*st+st=(i+1)*st:=by grind
   _<=n*st:=bW _ hi
 refine ⟨hl,fun i hi=>?_,h1,fun i j s v hi e1 e2=>?_⟩
 ·grind [Tf,kH,uI]
 ·rw[Tf _ _ _ _ hi,fG] at e1
  split at e1
  ·rw[fO] at e1
   exact hr.at_ e1 e2
  ·cases e1
theorem OE{st n elem:Nat}{g:ϝ}{v:Value}{xs:List Value}(ho:w.ownsRow 0 elem st v n xs)(hr:CQ H st n g xs)(hon:∀b,Ba v=aj b->H b=w.heap[b]?):Rep H (.sl st n g) v:=by
 obtain ⟨h1,h2⟩:=ho;rcases h2 with ⟨rfl,rfl⟩ |⟨b,cap,cur,rfl,_,hb,hn,hc,hs,ht⟩
 ·exact .sl0 _ _ _ _ (fH _)
 ·have hx:∀i j,i<n->j<st->xs[i*st+j]?=aj (xs.getD (i*st+j) undef):=fun i j hi hj=>by
   have:i*st+j<xs.length:=by
    rw[h1];calc i*st+j<i*st+st:=by omega
     _=(i+1)*st:=by grind
     _<=n*st:=bW _ hi
   simp_all
  refine .sl st n g b 0 cap (fun i j=>xs.getD (i*st+j) undef) hn hc hr.2.1 (fun i j hi hj=>?_) (fun i j hi hj=>hr.2.2.1 _ (bK (hx i j hi hj))) fun i j s hi e=>?_
  ·have e:=hx i j hi hj
   rw[<-ht,fG] at e;split at e
   ·have hH:H b=aj (.cells cur elem (0,0)):=by rw[hon b rfl,hb]
    simp_all [Array.getElem?_toList,hcell,fU]
   ·cases e
  ·have hj:j<st:=by rw[<-hr.2.1 i hi];grind
   exact hr.2.2.2 i j s _ hi e (hx i j hi hj)
def Mem.add(H:Mem)(w:World)(b:Option Nat):Mem:=fun k=>if b=aj k then w.heap[k]? else H k
structure WM(H':Mem)(E:Env)(hp hp':List (Nat×SB)):Prop where
 keep:∀id sb b,Aq hp id=aj sb->Bv E id sb=aj b->H' b≠aF\/Aq hp' id=aj sb
 old:∀id sb,Aq hp' id=aj sb->∃sb0,Aq hp id=aj sb0/\∀b,Bv E id sb=aj b->Bv E id sb0=aj b
theorem WM.refl(H':Mem)(E:Env)(hp:List (Nat×SB)):WM H' E hp hp:=⟨fun _ _ _ h _=>.inr h,fun _ sb h=>⟨sb,h,fun _ h=>h⟩⟩
theorem WM.trans{H1 H2:Mem}{hp hp1 hp2:List (Nat×SB)}(h1:WM H1 E hp hp1)(h2:WM H2 E hp1 hp2)(hle:H1.le H2):WM H2 E hp hp2:=
 ⟨fun id sb b a1 a2=>by
  rcases h1.keep id sb b a1 a2 with h|h
  ·cases hb:H1 b with
   |none=>simp_all |some o=>exact .inl (by rw[hle b o hb];simp)
  ·exact h2.keep id sb b h a2,fun id sb h=>by
  obtain ⟨s1,a1,a2⟩:=h2.old id sb h;obtain ⟨s0,b1,b2⟩:=h1.old id s1 a1;simp_all⟩
theorem asU{hp:List (Nat×SB)}{id:Nat}{sb nb:SB}{v:Value}(hh:Bc K H E w hp)(hw:EF K H w)(hl:Aq hp id=aj sb)
  (hm:∀b,Ba v=aj b->Mine K H b) (ajY:Bv E id sb=Ba v) (hnb:Bv E id nb=aF) (hent:H.le (H.add w (Ba v))->Ho K (H.add w (Ba v)) E w id nb) :
  H.le (H.add w (Ba v))/\Bc K (H.add w (Ba v)) E w (hset hp id nb)/\EF K (H.add w (Ba v)) w/\WM (H.add w (Ba v)) E hp (hset hp id nb):=by
 have hle:H.le (H.add w (Ba v)):=fun b o hb=>by
  unfold Mem.add;split
  ·rename_i e
   have:=(hm b e).1;simp_all
  ·exact hb
 have hfin:WM (H.add w (Ba v)) E hp (hset hp id nb):=by
  refine ⟨fun i s b h1 h2=>?_,fun i s h1=>?_⟩
  ·rw[EC]
   cases hid:(id==i)<;>simp only[ϰ,ϗ]
   ·exact .inr h1
   ·obtain rfl:id=i:=by grind
    rw[hl] at h1;cases h1;rw[ajY] at h2;refine .inl ?_;unfold Mem.add;rw[if_pos h2];have h3:(w.heap[b]?).isSome=ay:=by
     have:=(hh.ent _ _ hl).lt (ajY.trans h2);simp[this.1]
    simp_all
  grind [EC]
 refine ⟨hle,⟨fun id2 Yx h2=>?_,fun id1 id2 s1 s2 b h1 h2 o1 o2=>?_⟩,⟨hw.os,hw.tape,hw.output,hw.size,hw.kept,fun b o hb=>?_,fun b o hb=>hle b o (hw.le b o hb),fun b hb=>?_⟩,hfin⟩
 ·rw[EC] at h2
  cases hid:(id==id2)<;>simp only[hid,ϰ,ϗ] at h2
  ·have hent:=hh.ent _ _ h2
   refine hent.kept hle (fun _ _ e=>e) (fun _ _=>rfl) fun b hb=>?_
   unfold Mem.add;rw[if_neg]
   ·exact (hent.lt hb).2.1
   ·intro e
    have:=hh.GH _ _ _ _ _ hl h2 (ajY.trans e) hb;simp_all
  simp_all
 ·have conv:∀{i:Nat} {s:SB},Aq (hset hp id nb) i=aj s->Bv E i s=aj b->Aq hp i=aj s:=by
   grind [EC]
  exact hh.GH _ _ _ _ _ (conv h1 o1) (conv h2 o2) o1 o2
 ·unfold Mem.add at hb
  split at hb
  ·exact hb
  ·exact hw.on b o hb
 ·unfold Mem.add at hb
  split at hb
  ·rename_i e
   exact .inr (hm b e).2
  ·exact hw.fresh b hb
theorem ajZ(b:Nat):Ba (.pointer (aj ⟨b,0,aF⟩))=aj b:=rfl
theorem Jk:∀{m:Nat} {ids:List Nat} {hp hp':List (Nat×SB)} {H:Mem},Gz m hp ids=aj hp'->Bc K H E w hp->EF K H w->
  ∃H',H.le H'/\Bc K H' E w hp'/\EF K H' w/\WM H' E hp hp'
 |m,[],hp,hp',H,h,hh,hw=>by
  have h:aj hp=aj hp':=by cases m<;>exact h
  cases h;exact ⟨H,fun _ _ e=>e,hh,hw,WM.refl _ _ _⟩
 |0,_::_,hp,hp',H,h,hh,hw=>by cases h |m+1,id::ids,hp,hp',H,h,hh,hw=>by
  simp only[Gz] at h;have step:∀{sb nb:SB} {v:Value},Aq hp id=aj sb->(∀b,Ba v=aj b->Mine K H b)->Bv E id sb=Ba v->Bv E id nb=aF->(H.le (H.add w (Ba v))->Ho K (H.add w (Ba v)) E w id nb)->Gz m (hset hp id nb) ids=aj hp'->
    ∃H',H.le H'/\Bc K H' E w hp'/\EF K H' w/\WM H' E hp hp':=fun {sb nb v} hl hm ajY hnb hent h=>by
   obtain ⟨h1,h2,h3,h4⟩:=asU hh hw hl hm ajY hnb hent;obtain ⟨H',a1,a2,a3,a4⟩:=Jk h h2 h3;exact ⟨H',fun b o hb=>a1 b o (h1 b o hb),a2,a3,h4.trans a4 a1⟩
  split at h
  ·exact Jk h hh hw
  ·exact Jk h hh hw
  ·rename_i e st n g hl
   obtain ⟨v,xs,he,ho,hr,hm⟩:=hh.ent _ _ hl;exact step (nb:=.fz st n g) hl hm (by simp[Bv,he]) (by simp[Bv]) (fun hle=>⟨v,he,OE ho (hr.le hle) fun b hb=>by simp[Mem.add,hb]⟩) h
  ·rename_i cells e st n hl
   obtain ⟨v,xs,he,ho,hd,hm⟩:=hh.ent _ _ hl;split at h
   ·rename_i l hsl
    cases hone:Gf cells<;>simp only[hone,ϰ,ϗ] at h
    ·cases h
    have hr:=KW ho.1 (EL hh hsl hd) (FP hone hd);exact step (nb:=.fz st n (Bh (chunks st n l))) hl hm (by simp[Bv,he]) (by simp[Bv]) (fun hle=>⟨v,he,OE ho (hr.le hle) fun b hb=>by simp[Mem.add,hb]⟩) h
   ·exact Jk h hh hw
  ·rename_i cells e hl
   split at h
   ·rename_i l hsl
    cases hone:Gf cells<;>simp only[hone,ϰ,ϗ] at h
    ·cases h
    obtain ⟨b,cs,he,hb,hd,hm⟩:=hh.ent _ _ hl;have hr:=EL hh hsl hd;have h1:=FP hone hd;have hlen:=hr.length;rw[dJ] at hlen;refine step (nb:=.UC l) (v:=.pointer (aj ⟨b,0,aF⟩)) hl (fun b' hb'=>by simp_all [ajZ]) (by simp[Bv,he]) (by simp[Bv]) (fun hle=>⟨_,he,?_⟩) h;refine .pt l b 0 (fun j=>cs.getD j undef) (fun j hj=>?_) (fun j hj=>?_) fun j s hs=>?_
    ·have hH:(H.add w (Ba (.pointer (aj ⟨b,0,aF⟩)))) b=aj (.cells cs e (0,0)):=by simp[Mem.add,ajZ,hb]
     simp_all [hcell,fU,Array.getD_eq_getD_getElem?]
    ·simp_all
    ·have hj:j<l.length:=(bf.1 hs).1
     have:cs.getD j undef=cs[j]'(by omega):=by simp_all
     simp only[this];exact (hr.at_ hs (by simp)).le hle
   ·exact Jk h hh hw
  ·cases h
theorem MH{ids:List Nat}{hp hp':List (Nat×SB)}{H:Mem}(h:freeze hp ids=aj hp')(hh:Bc K H E w hp)(hw:EF K H w):
  ∃H',H.le H'/\Bc K H' E w hp'/\EF K H' w/\WM H' E hp hp':=Jk h hh hw
theorem Post.WO{c c':Core}{hp:List (Nat×SB)}{H1:Mem}(hH:H.le H1)(hz:WM H1 E c.hp hp)(p:Post K H1 E w {c with hp:=hp} H' E' w' c'):Post K H E w c H' E' w' c':=
 ⟨fun b o h=>p.Ji b o (hH b o h),p.Qc,p.new,p.nx,p.lim,p.agC,p.tm,p.hp,p.CP,p.tc,p.size,p.fr,p.Pn,fun id hi=>by
  rcases p.Z5 id hi with h|h|⟨sb,h1,h2⟩
  ·exact .inl h
  ·exact .inr (.inl h)
  ·obtain ⟨sb0,q1,q2⟩:=hz.old id sb h1
   refine .inr (.inr ⟨sb0,q1,?_⟩);cases hb:bk E id with
   |some b=>exact q2 b (h2.trans hb) |none=>
    cases ho:Bv E id sb0 with
    |none=>rfl |some b=>simp[GK ho] at hb,fun id sb b h1 h2 h3=>by
  rcases hz.keep id sb b h1 h3 with h|h
  ·left
   cases hb:H1 b with
   |none=>exact (h hb).elim |some o=>rw[p.Ji b o hb];simp
  ·exact p.keep id sb b h h2 h3,fun id sb h1 h2=>by
  obtain ⟨sb1,q1,q2⟩:=p.old id sb h1 h2;obtain ⟨sb0,q3,q4⟩:=hz.old id sb1 q1;exact ⟨sb0,q3,fun b hb=>q4 b (q2 b hb)⟩⟩
theorem asV{c:Core}{a:Act}{o:Oper}{t:Nat}{x y:Operand}{φ:SV×Core->Prop}(hC:BP P C)(hd:AP H E c.tm a.tmps.toList)(hh:Bc K H E w c.hp)(hw:EF K H w)
  (ho:o.op=.store t x y) (h:(Xj C c t (BU c.tm x) (BU c.tm y)).All φ):II P K H E w c a o φ:=by
 have dx:=BM (H:=H) (E:=E) hd x;have dy:=BM (H:=H) (E:=E) hd y;unfold Xj at h;split at h
 ·rename_i i hi
  have ht:=hC.ty _ _ hi;cases hb:((BU c.tm y).cells.length==i.size&&Gf (BU c.tm y).cells)<;>simp only[hb,ϰ,ϗ] at h
  ·exact h.elim
  simp only[aB,ϡ] at hb;obtain ⟨hlen,hone⟩:=hb;have aCi:(BU c.tm y).okc=ay:=by
   cases hy:BU c.tm y<;>rw[hy] at hone<;>simp[SV.cells,Gf,uH] at hone<;>simp[xP]
   grind
  have dcs:=QO aCi dy;have hcl:=dcs.length;have hoc:=FP hone dcs;have hrun:∀(b off:Nat) (cur:Array Value) (e:Nat),a.eval x=.pointer (aj ⟨b,off,aF⟩)->w.heap[b]?=aj (.cells cur e (0,0))->off+i.size<=cur.size->
    (execOp a.eval o).run P w=.ok .skip (w.setRow b (cur.toList.take off++(a.eval y).cells.toList++cur.toList.drop (off+(a.eval y).cells.toList.length)).toArray):=by
   intro b off cur e ex hcur hle;have hs:=run_storeCells_at P b off e (a.eval y).cells.toList 0 cur w hcur (by omega) hoc;have hsz:(a.eval y).cells.size=i.size:=by simp_all
   simp only[Nat.add_zero] at hs;simp[execOp,ho,Instr.storeAt,ex,jO,storeVar,KE ht,hsz,hs]
  split at h
  ·rename_i id off hx
   rw[hx] at dx;obtain ⟨b,hbk,ex⟩:=dx;split at h
   ·rename_i cells e hl
    cases hle:gy (off+i.size) cells.length<;>simp only[hle,ϰ,ϗ] at h
    ·exact h.elim
    have hle:=fP hle;obtain ⟨b',cs,he,h1,h2,h3⟩:=hh.ent _ _ hl;simp only[he,dS,Ba,jS] at hbk;subst hbk;have hl2:=h2.length;rw[dJ] at hl2;refine ⟨_,undef,_,H,E,_,h,ϖ,?_,.inr ⟨rfl,rfl⟩,hrun b' off cs e ex h1 (by omega)⟩;refine MG hh hw hl (b:=b') (by simp[Bv,he,Ba]) (fun k hk=>setRow_other w b' k _ hk) (setRow_size _ _ _) rfl rfl rfl ?_ (by simp[Bv,he,Ba]);refine ⟨b',_,he,setRow_heap w b' cs _ e _ h1,?_,h3⟩;grind [abr]
   ·rename_i cells e st n hl
    cases hle:gy (off+i.size) cells.length<;>simp only[hle,ϰ,ϗ] at h
    ·exact h.elim
    have hle:=fP hle;obtain ⟨v,xs,he,h1,h2,h3⟩:=hh.ent _ _ hl;simp only[he,dS] at hbk;have hl2:=h2.length;obtain ⟨hx1,hx2⟩:=h1;rcases hx2 with ⟨rfl,_⟩ |⟨g,cap,cur,rfl,hg0,hg1,hg2,hg3,hg4,hg5⟩
    ·simp[Ba] at hbk
    simp[Ba] at hbk;subst hbk;have hmul:n*st<=cap*st:=bW _ hg2;have hcur:cur.toList.length=cap*st:=by omega
    have hlc:(a.eval y).cells.toList.length=i.size:=by omega
    refine ⟨_,undef,_,H,E,_,h,ϖ,?_,.inr ⟨rfl,rfl⟩,hrun g off cur e ex hg1 (by omega)⟩;refine MG hh hw hl (b:=g) (by simp[Bv,he,Ba]) (fun k hk=>setRow_other w g k _ hk) (setRow_size _ _ _) rfl rfl rfl ?_ (by simp[Bv,he,Ba]);refine ⟨_,xs.take off++(a.eval y).cells.toList++xs.drop (off+(a.eval y).cells.toList.length),he,⟨?_,.inr ⟨g,cap,_,rfl,hg0,setRow_heap w g cur _ e _ hg1,hg2,hg3,?_,?_⟩⟩,abr h2 dcs (by omega),h3⟩
    ·grind
    ·grind
    grind [Yz]
   ·exact h.elim
  ·rename_i id st j off hx
   rw[hx] at dx;obtain ⟨b,v0,he0,hbk,hj,ex⟩:=dx;split at h
   ·rename_i hp hfz
    obtain ⟨H1,hH1,hh1,hw1,hz1⟩:=MH hfz hh hw;have aCj:=dcs.le hH1 (fun _ _ e=>e);split at h
    ·rename_i e st' n g hl
     cases hb:(st==st'&&gy (off+i.size) st)<;>simp only[hb,ϰ,ϗ] at h
     ·exact h.elim
     simp only[aB,ϡ] at hb;obtain ⟨rfl,hle⟩:=hb;have hle:=fP hle;split at h
     ·rename_i l hsl
      rw[hC.A] at h;obtain ⟨v,xs,he,h1,h2,h3⟩:=hh1.ent _ _ hl;rw[he0] at he;cases he;obtain ⟨hx1,hx2⟩:=h1;rcases hx2 with ⟨rfl,_⟩ |⟨bg,cap,cur,rfl,hg0,hg1,hg2,hg3,hg4,hg5⟩
      ·simp[Ba] at hbk
      simp[Ba] at hbk;subst hbk;have hj:j<n:=hj;have hmul:n*st<=cap*st:=bW _ hg2;have hjs:j*st+st<=n*st:=by
       calc j*st+st=(j+1)*st:=by grind
        _<=n*st:=bW _ hj
      have hcur:cur.toList.length=cap*st:=by omega
      have hlc:(a.eval y).cells.toList.length=i.size:=by omega
      have hrep:=EL hh1 hsl aCj;have hll:l.length=i.size:=by rw[<-hrep.length];exact hlc
      refine ⟨_,undef,_,H1,E,_,h,ϖ,Post.WO hH1 hz1 ?_,.inr ⟨rfl,rfl⟩,hrun bg (j*st+off) cur e ex hg1 (by omega)⟩;refine MG (c:={c with hp:=hp}) hh1 hw1 hl (b:=bg) (by simp[Bv,he0,Ba]) (fun k hk=>setRow_other w bg k _ hk) (setRow_size _ _ _) rfl rfl rfl ?_ (by simp[Bv,he0,Ba])
      refine ⟨_,xs.take (j*st+off)++(a.eval y).cells.toList++xs.drop (j*st+off+(a.eval y).cells.toList.length),he0,⟨?_,.inr ⟨bg,cap,_,rfl,hg0,setRow_heap w bg cur _ e _ hg1,hg2,hg3,?_,?_⟩⟩,?_,h3⟩
      ·grind
      ·grind
      ·rw[List.toList_toArray,Yz _ _ _ _ (by omega) (by omega),hg5]
      ·obtain ⟨r1,r2,r3,r4⟩:=h2
       refine ⟨by grind,fun k hk=>?_,fun u hu=>?_,fun k m s u hk e1 e2=>?_⟩
       ·grind [Ak,cO,kH,uI]
       ·grind
       ·rw[abq _ _ _ _ (by omega)] at e2
        have hkl:(if k=j then (g k).take off++l++(g k).drop (off+l.length) else g k)[m]?=aj s:=e1;have hg:=r2 k hk;by_cases hkj:k=j
        ·subst hkj
         rw[if_pos rfl] at hkl;by_cases c1:m<off
         ·grind
         ·by_cases c2:m<off+l.length
          ·rw[List.append_assoc,iZ (by grind),kH,pz (by omega),List.getElem?_append_left (by omega)] at hkl
           rw[if_pos (by omega)] at e2;have:k*st+m - (k*st+off)=m - off:=by omega
           rw[this] at e2;exact hrep.at_ hkl e2
          ·rw[iZ (by grind),fO,cO,kH,pz (by omega)] at hkl
           have hm:off+l.length+(m - (off+l.length))=m:=by omega
           grind
        ·rw[if_neg hkj] at hkl
         have hml:m<st:=by grind
         rw[if_neg ?_] at e2
         ·grind
         ·intro hc
          rcases Nat.lt_or_gt_of_ne hkj with q|q
          ·have:k*st+st<=j*st:=by
            calc k*st+st=(k+1)*st:=by grind
             _<=j*st:=bW _ q
           omega
          ·have:j*st+st<=k*st:=by
            calc j*st+st=(j+1)*st:=by grind
             _<=k*st:=bW _ q
           omega
     ·exact h.elim
    ·exact h.elim
   ·exact h.elim
  ·exact h.elim
 ·exact h.elim
end
end Go.Sx
