/- Own work. -/
import Derived.Test.YthehnhaoiijkhaaGreatDoorF01
import Derived.LaidEql
import Derived.Lib.Strings
open Int (ofNat)
open Array renaming getElem?_eq_some_iff->bK,length_toList->dU
open Bool renaming true->aC,and_eq_true->aG,false->ay
open ByteArray renaming size->yR
open Go.Addr renaming add_lit->dW
open Go.Builtin renaming len_->oI,max_->uU,min_->uV,append_->eG,lenOf->nS,firstCells->iP
open Go.Instr renaming indexAt->oG,sureAddr->jG,fill->yg,findNow->dI,sameNow->eP,checkKey->iq,lookup->iD,findKey->gy,findAsking->l9,makeMap->oJ
open Go.Op renaming equal->fU,equalIn->eU
open Go.RowKit.Below renaming heap_alloc->jU
open Go.Sem renaming run_bind->gK,run->jM
open Go.Sx.SV renaming okc->wK,one->tK
open Go.Value renaming oneCell'->jm,cells->lq
open List renaming getD_cons_succ->qP,drop_drop->vP,toArray->lT,mem_cons_self->dK,mem_cons_of_mem->dF,mem_of_getElem?->dB,length_append->dP,length_take->jX,length_drop->tN,getElem?_append_right->jO,getElem?_drop->gq,getElem?_take->dO
open List.cons renaming injEq->oU
open Nat renaming add_mul->oQ,one_mul->oH,add_comm->yc,mul_le_mul_right->dG,le_refl->bV,ble->gJ,le_of_ble_eq_true->gu,zero_add->iw,blt->fF,zero_le->fK,min_eq_left->pq
open Option renaming some->ak,none->aK,map_eq_some_iff->bM,bind_some->eH
open Option.some renaming injEq->jL
open Prod.mk renaming injEq->jk
namespace Go.Sx
section
variable{P:Program}{C:Ctx}{K:Kx}{H:Mem}{E:Env}{w:World}
theorem FZ{x:SV}{n:Int}{u:Value}(h:Gi x=ak n)(hd:Den H E x u):∃k,u=.int k n:=by
 cases x<;>simp[Gi] at h
 all_goals (subst h;exact ⟨_,hd⟩)
theorem Tf{i:Int}{n:Nat}(h:zG.inB i n=aC):0<=i/\i<n:=by grind [zG]
theorem LY{elem st n:Nat}{v:Value}{xs:List Value}(h:w.ownsRow 0 elem st v n xs):lenV v=n:=by
 rcases h.2 with ⟨rfl,rfl⟩ |⟨_,_,_,rfl,_⟩<;>rfl
theorem aal{elem st n:Nat}{v:Value}{xs:List Value}(h:w.ownsRow 0 elem st v n xs)(hn:0<n):∃b cap,v=.slice (ak ⟨b,0,aK⟩) n cap/\zT v=ak b:=by
 rcases h.2 with ⟨rfl,rfl⟩ |⟨b,cap,_,rfl,_⟩
 ·omega
 ·exact ⟨b,cap,rfl,rfl⟩
theorem PS{t e:Nat}{te:Jt}(hu:P.underlying t=ak (.slice e))(hte:NI P e te){a:Addr}{n cap:Nat}{k:IntKind}{i:Int}(h0:0<=i)(h1:i<n)(w:World):
  (oG t (.slice (ak a) n cap) (.int k i)).run P w=.ok (.pointer (ak (a.add (i.toNat*te.size)))) w:=by
 simp[oG,asIntOf,run_underlying hu,h0,h1,IV hte]
theorem Uz{x:SV}{n:Int}(h:Gi x=ak n):ake zG n x=n.toNat:=by
 cases x<;>simp[Gi] at h
 ·subst h;rfl
 ·rfl
theorem YE{c:Core}{a:Act}{o:Oper}{t e:Nat}{te:Jt}{x y:Operand}{φ:SV×Core->Prop}{m:Nat}{g:Nat->List Sh}{n:Int}{k:IntKind}(hu:P.underlying t=ak (.slice e))(hte:NI P e te)
  (ho:o.op=.indexAddr t x y) (dx:Rep H (.sl te.size m g) (a.eval x)) (ey:a.eval y=.int k n) (h0:0<=n) (h1:n<m) (h:φ (.Gh te.size m g n.toNat 0,c)):QP P H E c a o φ:=by
 generalize hu':a.eval x=u at dx;cases dx with
 |sl0 _ _ A cap hc=>omega |sl _ _ _ b off cap cc a1 a2 a3 a4 a5 a6=>
  refine ⟨_,.pointer (ak ⟨b,off+n.toNat*te.size,aK⟩),h,rfl,⟨b,off+n.toNat*te.size,cc n.toNat,rfl,by omega,a3 _ (by omega),fun j hj=>⟨?_,a5 _ _ (by omega) hj⟩,fun j s hs=>a6 _ _ _ (by omega) hs⟩,fun w'=>?_⟩
  ·simp_all
  ·have:=PS (P:=P) hu hte (a:=⟨b,off,aK⟩) (n:=m) (cap:=cap) (k:=k) h0 h1 w'
   simp_all [execOp,dW]
theorem YF{φ:SV×Core->Prop}{n:Int}{f:Nat->Tree (SV×Core)}{m:Nat}:∀{k:Nat},k<=m->(m:Int) - k<=n->n<m->(aia zG n f m k).All φ->∃i:Nat,n=i/\i<m/\(f i).All φ
 |0,_,h1,h2,_=>by omega |k+1,hk,h1,h2,h=>by
  obtain ⟨ha,hb⟩:=h;by_cases e:n=ofNat (m - (k+1))
  ·grind [zG]
  ·refine YF (k:=k) (by omega) ?_ h2 (hb (by grind [zG]))
   grind
theorem YG(st:Nat):∀(n:Nat) (l:List Sh) (i:Nat),i<n->Af (chunks st n l) i=(l.drop (i*st)).take st
 |n+1,l,0,_=>by simp[Af,chunks] |n+1,l,i+1,h=>by
  have ih:=YG st n (l.drop st) i (by omega);simp only[Af,chunks,qP] at ih ⊢;simp_all [vP,oQ,oH,yc]
theorem VW{c:Core}{a:Act}{o:Oper}{t e m:Nat}{te:Jt}{x y:Operand}{φ:SV×Core->Prop}{g:Nat}{l:List Sh}{n:Int}{k:IntKind}(hu:P.underlying t=ak (.array m e))(hte:NI P e te)
  (ho:o.op=.indexAddr t x y) (dx:Den H E (.glob g) (a.eval x)) (ey:Den H E (.int k n) (a.eval y)) (hgl:EX H g (.zQ l)) (hl:l.length=m*te.size) (h0:0<=n) (h1:n<m)
  (h:φ (.Gh te.size m (Af (chunks te.size m l)) n.toNat 0,c)):QP P H E c a o φ:=by
 obtain ⟨_,cc,g1,g2⟩:=hgl;have dx:a.eval x=.pointer (ak ⟨g,0,aK⟩):=dx;have ey:a.eval y=.int k n:=ey;have hlt:n.toNat*te.size+te.size<=m*te.size:=by
  calc n.toNat*te.size+te.size=(n.toNat+1)*te.size:=by grind
   _<=m*te.size:=dG _ (by omega)
 have hch:Af (chunks te.size m l) n.toNat=(l.drop (n.toNat*te.size)).take te.size:=YG _ _ _ _ (by omega);refine ⟨_,.pointer (ak ⟨g,n.toNat*te.size,aK⟩),h,rfl,⟨g,n.toNat*te.size,fun j=>cc (n.toNat*te.size+j),rfl,by omega,?_,fun j hj=>g1 _ (by omega),fun j s hs=>g2 _ _ ?_⟩,fun w'=>?_⟩
 ·grind
 ·grind
 ·simp[execOp,ho,dx,ey,oG,asIntOf,run_underlying hu,h0,h1,IV hte,jG,dW]
theorem VX{c:Core}{a:Act}{o:Oper}{t:Nat}{x y:Operand}{φ:SV×Core->Prop}(hC:Az P C)(ho:o.op=.indexAddr t x y)(hd:zO H E c.tm a.tmps.toList)
  (hh:zU K H E w c.hp) (hg:BU C.gls H) (h:(MF C c t (AP c.tm x) (AP c.tm y)).All φ):QP P H E c a o φ:=by
 have dx:=Ap (H:=H) (E:=E) hd x;have dy:=Ap (H:=H) (E:=E) hd y;have hA:=hC.A;unfold MF at h;split at h
 ·rename_i ti hti
  have ht:=(hC.ty _ _ hti).desc;split at h
  ·rename_i e hty
   rw[hty] at ht;split at h
   ·rename_i te hte
    have hte:=hC.ty _ _ hte;split at h
    ·rename_i id n hx hy
     rw[hx] at dx;obtain ⟨k,ey⟩:=FZ hy dy;split at h
     ·
      rename_i cells el st m hl;split at h
      ·rename_i k2 n2 hy2
       cases hb:(decide (0<=n2)&&decide (n2<(m:Int))&&st==te.size)<;>simp only[hb,cond_true,cond_false] at h
       ·exact h.elim
       simp only[aG,decide_eq_true_eq,beq_iff_eq] at hb;obtain ⟨⟨h0,h1⟩,rfl⟩:=hb;rw[hy2] at dy;simp only[Den] at dy;obtain ⟨v,xs,he,hr,_,_⟩:=hh.ent _ _ hl;have dx2:E id=ak (a.eval x):=dx.1;rw[he] at dx2;cases dx2;obtain ⟨b,cap,hv,hbv⟩:=aal hr (by omega);refine ⟨_,.pointer (ak ⟨b,n2.toNat*te.size,aK⟩),h,rfl,⟨b,by simp_all,rfl⟩,fun w'=>?_⟩;have:=PS (P:=P) ht hte (a:=⟨b,0,aK⟩) (n:=m) (cap:=cap) (k:=k2) h0 h1 w';simp_all [execOp,dW]
      ·exact h.elim
     ·rename_i el st m g hl
      cases hb:(st==te.size)<;>simp only[hb,cond_true,cond_false] at h
      ·exact h.elim
      obtain rfl:st=te.size:=by grind
      obtain ⟨hin,hφ⟩:=h;rw[hA] at hin hφ;obtain ⟨h0,h1⟩:=Tf hin;obtain ⟨v,xs,he,hr,_,_⟩:=hh.ent _ _ hl;have dx2:E id=ak (a.eval x):=dx.1;rw[he] at dx2;cases dx2;obtain ⟨b,cap,hv,hbv⟩:=aal hr (by omega);have hidx:=Uz hy;rw[hidx] at hφ;refine ⟨_,.pointer (ak ⟨b,n.toNat*te.size,aK⟩),hφ,rfl,⟨b,_,he,hbv,by rw[LY hr];omega,rfl⟩,fun w'=>?_⟩;have:=PS (P:=P) ht hte (a:=⟨b,0,aK⟩) (n:=m) (cap:=cap) (k:=k) h0 h1 w';simp_all [execOp,dW]
     ·rename_i st m g hl
      cases hb:(st==te.size)<;>simp only[hb,cond_true,cond_false] at h
      ·exact h.elim
      obtain rfl:st=te.size:=by grind
      obtain ⟨hin,hφ⟩:=h;rw[hA] at hin hφ;obtain ⟨h0,h1⟩:=Tf hin;rw[Uz hy] at hφ;obtain ⟨v,he,hr⟩:=hh.ent _ _ hl;have dx2:E id=ak (a.eval x):=dx.1;rw[he] at dx2;cases dx2;exact YE ht hte ho hr ey h0 h1 hφ
     ·exact h.elim
    ·rename_i st m g n hx hy
     cases hb:(st==te.size)<;>simp only[hb,cond_true,cond_false] at h
     ·exact h.elim
     obtain rfl:st=te.size:=by grind
     obtain ⟨hin,hφ⟩:=h;rw[hA] at hin hφ;obtain ⟨h0,h1⟩:=Tf hin;rw[hx] at dx;obtain ⟨k,ey⟩:=FZ hy dy;have hidx:=Uz hy;rw[hidx] at hφ;exact YE ht hte ho dx ey h0 h1 hφ
    ·exact h.elim
   ·exact h.elim
  ·rename_i m e hty
   rw[hty] at ht;split at h
   ·rename_i te hte
    have hte:=hC.ty _ _ hte;split at h
    ·rename_i g k n hx hy
     rw[hx] at dx;rw[hy] at dy;split at h
     ·rename_i l hl
      cases hb:(decide (0<=n)&&decide (n<(m:Int))&&l.length==m*te.size)<;>simp only[hb,cond_true,cond_false] at h
      ·exact h.elim
      simp only[aG,decide_eq_true_eq,beq_iff_eq] at hb;exact VW ht hte ho dx dy (hg.at_ _ _ hl) hb.2 hb.1.1 hb.1.2 h
     ·exact h.elim
    ·rename_i g k n hx hy
     rw[hx] at dx;rw[hy] at dy;split at h
     ·rename_i l hl
      cases hb:(l.length==m*te.size)<;>simp only[hb,cond_true,cond_false] at h
      ·exact h.elim
      obtain ⟨hin,h⟩:=h;rw[hA] at hin h;obtain ⟨h0,h1⟩:=Tf hin;obtain ⟨i,hi,hi2,hq⟩:=YF (bV _) (by omega) h1 h;subst hi;exact VW ht hte ho dx dy (hg.at_ _ _ hl) (by grind) h0 h1 (by assumption)
     ·exact h.elim
    ·exact h.elim
   ·exact h.elim
  ·exact h.elim
 ·exact h.elim
def VY(op:BinOp)(k:IntKind)(a b:Int):Option Value:=
 match op with
 | .add=>ak (.int k (k.wrap (a+b))) | .sub=>ak (.int k (k.wrap (a - b))) | .mul=>ak (.int k (k.wrap (a*b))) | .eql=>ak (.bool (a==b)) | .neq=>ak (.bool (!(a==b))) | .lss=>ak (.bool (decide (a<b))) | .leq=>ak (.bool (decide (a<=b))) | .gtr=>ak (.bool (decide (b<a))) | .geq=>ak (.bool (decide (b<=a))) |_=>aK
theorem VZ{op:BinOp}{k:IntKind}{a b:Int}{v:Value}(h:VY op k a b=ak v)(t:Nat)(x y:Operand)(w:World):
  (do eqGuard op t x y (.int k a) (.int k b);binOp op t (.int k a) (.int k b):Sem Value).run P w=.ok v w:=by
 cases op<;>simp[VY] at h<;>subst h<;>simp[eqGuard_at_int,binOp,Op.intArith,Op.intCmp,bne]
theorem PU{A:Prim}(hA:A=zG){op:BinOp}{k:IntKind}{a b:Int}{sv:SV}(h:orO ((VD A op k a b).map (.sym k)) ((afu A op a b).map .test)=ak sv):
  ∃v,VY op k a b=ak v/\Den H E sv v:=by
 subst hA;cases op<;>simp[VD,afu,orO] at h<;>subst h<;>exact ⟨_,rfl,rfl⟩
theorem acs{op:BinOp}{k:IntKind}{a b:Int}{sv:SV}(h:orO ((ad6 op k a b).map (.int k)) ((cmpL op a b).map .bool)=ak sv):
  ∃v,VY op k a b=ak v/\Den H E sv v:=by
 cases op<;>simp[ad6,cmpL,orO] at h<;>subst h<;>exact ⟨_,rfl,rfl⟩
theorem afF{t:Nat}(hu:P.underlying t=ak .bool)(a b:Bool)(w:World):(fU t (.bool a) (.bool b)).run P w=.ok (a==b) w:=by
 have:∀d:Nat,(eU (d+1) t (.bool a) (.bool b)).run P w=.ok (a==b) w:=fun d=>by simp[eU,run_underlying hu]
 exact this 9999
theorem Ti{t:Nat}(hu:P.underlying t=ak .bool)(a b:Bool)(x y:Operand)(w:World):
  (do eqGuard .eql t x y (.bool a) (.bool b);binOp .eql t (.bool a) (.bool b):Sem Value).run P w=.ok (.bool (a==b)) w/\
  (do eqGuard .neq t x y (.bool a) (.bool b);binOp .neq t (.bool a) (.bool b):Sem Value).run P w=.ok (.bool (!(a==b))) w:=by
 simp_all [eqGuard_at_bool,binOp,afF]
theorem acu(l:List UInt8):(⟨l.toArray⟩:ByteArray).toList=l:=Lib.toList_data _
theorem V3(l l':List UInt8)(t:Nat)(x y:Operand)(w:World):
  (do eqGuard .eql t x y (.string ⟨l.toArray⟩) (.string ⟨l'.toArray⟩);binOp .eql t (.string ⟨l.toArray⟩) (.string ⟨l'.toArray⟩):Sem Value).run P w=.ok (.bool (l==l')) w/\
  (do eqGuard .neq t x y (.string ⟨l.toArray⟩) (.string ⟨l'.toArray⟩);binOp .neq t (.string ⟨l.toArray⟩) (.string ⟨l'.toArray⟩):Sem Value).run P w=.ok (.bool (!(l==l'))) w:=by
 simp_all [eqGuard_at_string,binOp,Op.stringOp]
theorem OV{l:List UInt8}{v:Value}(h:Rep H (.str l) v):v=.string ⟨l.toArray⟩:=by
 cases h;rfl
theorem aam{A:Prim}(hA:A=zG){op:BinOp}{l l':List UInt8}{sv:SV}(h:eqS A op l l'=ak sv)(t:Nat)(x y:Operand):
  ∃r,Den H E sv r/\∀w,(do eqGuard op t x y (.string ⟨l.toArray⟩) (.string ⟨l'.toArray⟩);binOp op t (.string ⟨l.toArray⟩) (.string ⟨l'.toArray⟩):Sem Value).run P w=.ok r w:=by
 subst hA;cases op<;>simp[eqS] at h<;>subst h
 ·exact ⟨_,rfl,fun w=>(V3 l l' t x y w).1⟩
 ·exact ⟨_,rfl,fun w=>(V3 l l' t x y w).2⟩
theorem ane{A:Prim}(hA:A=zG){op:BinOp}{a b:Bool}{sv:SV}{t:Nat}(hu:P.underlying t=ak .bool)(h:eqB A op a b=ak sv)(x y:Operand):
  ∃r,Den H E sv r/\∀w,(do eqGuard op t x y (.bool a) (.bool b);binOp op t (.bool a) (.bool b):Sem Value).run P w=.ok r w:=by
 subst hA;cases op<;>simp[eqB] at h<;>subst h
 ·exact ⟨_,rfl,fun w=>(Ti hu a b x y w).1⟩
 ·exact ⟨_,rfl,fun w=>(Ti hu a b x y w).2⟩
theorem UA:∀{l:List SV} {ns:List Cq} {vs:List Value},Oa l=ak ns->zO H E l vs->vs=ns.map Cq.v
 |[],_,[],h,_=>by simp_all [Oa] |s::l,ns,v::vs,h,⟨hd,hr⟩=>by
  unfold Oa at h;split at h
  ·simp_all
  all_goals first
   |(rename_i n r e
     cases e;cases hr2:Oa l with
     |none=>grind |some m=>simp[hr2] at h;subst h;rw[UA hr2 hr];simp only[Den] at hd;subst hd;rfl)
   |cases h
 |[],_,_::_,_,h=>h.elim |_::_,_,[],_,h=>h.elim
theorem Q9:∀{xs ys:List Cq} {z:List SV},Cc xs z=aC->Cc ys z=aC->PE zG xs ys=decide (xs=ys)
 |[],[],_,_,_=>by simp[PE] | .i x::xs,.i y::ys,z,h1,h2=>by
  cases z with
  |nil=>simp[Cc] at h1 |cons a z=>
   have h1':Cc xs z=aC:=by
    unfold Cc at h1;grind
   have h2':Cc ys z=aC:=by
    unfold Cc at h2;grind
   have ih:=Q9 h1' h2';simp only[PE,ih];show (bif x==y then decide (xs=ys) else ay)=_;grind
 | .b x::xs,.b y::ys,z,h1,h2=>by
  cases z with
  |nil=>simp[Cc] at h1 |cons a z=>
   have h1':Cc xs z=aC:=by
    unfold Cc at h1;grind
   have h2':Cc ys z=aC:=by
    unfold Cc at h2;grind
   have ih:=Q9 h1' h2';simp only[PE,ih];show (bif x==y then decide (xs=ys) else ay)=_;grind
 | .i x::xs,.b y::ys,z,h1,h2=>by
  cases z with
  |nil=>simp[Cc] at h1 |cons a z=>cases a<;>simp[Cc] at h1 h2
 | .b x::xs,.i y::ys,z,h1,h2=>by
  cases z with
  |nil=>simp[Cc] at h1 |cons a z=>cases a<;>simp[Cc] at h1 h2
 |[],y::ys,z,h1,h2=>by
  grind [Cc]
 |x::xs,[],z,h1,h2=>by
  grind [Cc]
theorem aki{t:Nat}{ps rs:Array TypeId}{b:Bool}(hu:P.underlying t=ak (.func ps rs b))(f:Fn)(x y:Array Value)(w:World):
  (fU t (.func f x y) .nilFunc).run P w=.ok ay w/\(fU t .nilFunc .nilFunc).run P w=.ok aC w:=by
 have:∀d:Nat,(eU (d+1) t (.func f x y) .nilFunc).run P w=.ok ay w/\(eU (d+1) t .nilFunc .nilFunc).run P w=.ok aC w:=
  fun d=>by constructor<;>simp[eU,run_underlying hu]
 exact this 9999
theorem ZI{t e:Nat}(hu:P.underlying t=ak (.pointer e))(a:Addr)(w:World):
  (fU t (.pointer (ak a)) (.pointer aK)).run P w=.ok ay w/\(fU t (.pointer aK) (.pointer aK)).run P w=.ok aC w:=by
 have:∀d:Nat,(eU (d+1) t (.pointer (ak a)) (.pointer aK)).run P w=.ok ay w/\(eU (d+1) t (.pointer aK) (.pointer aK)).run P w=.ok aC w:=
  fun d=>by constructor<;>simp[eU,run_underlying hu]
 exact this 9999
theorem V4{t:Nat}{ms:Array (String×TypeId)}(hu:P.underlying t=ak (.interface ms))(d:Nat)(u:Value)(w:World):
  (fU t (.iface d u) .nilIface).run P w=.ok ay w/\(fU t .nilIface (.iface d u)).run P w=.ok ay w/\(fU t .nilIface .nilIface).run P w=.ok aC w:=by
 have:∀n:Nat,(eU (n+1) t (.iface d u) .nilIface).run P w=.ok ay w/\(eU (n+1) t .nilIface (.iface d u)).run P w=.ok ay w/\(eU (n+1) t .nilIface .nilIface).run P w=.ok aC w:=
  fun n=>by refine ⟨?_,?_,?_⟩<;>simp[eU,run_underlying hu]
 exact this 9999
theorem DJ{op:BinOp}{r:Bool}{sv:SV}{t:Nat}{u v:Value}{ox oy:Operand}(h:Dj op r=ak sv)(hg:eqGuard op t ox oy u v=pure ())
  (he:binOp .eql t u v=(do pure (.bool (<-fU t u v)))) (hn:binOp .neq t u v=(do pure (.bool (!(<-fU t u v))))) (hw:∀w,(fU t u v).run P w=.ok r w) :
  ∃r,Den H E sv r/\∀w,(do eqGuard op t ox oy u v;binOp op t u v:Sem Value).run P w=.ok r w:=by
 cases op<;>simp[Dj] at h<;>subst h
 ·exact ⟨_,rfl,fun w=>by simp_all⟩
 ·exact ⟨_,rfl,fun w=>by simp_all⟩
theorem afG{T:Nat}{x:Sh}{u:Value}(h:Rep H (.BM T x) u):∃v,u=.iface T v:=by
 cases h;simp
theorem akj{g T:Nat}{u:Value}(h:Rep H (.er g T) u):∃T v,u=.iface T v:=by
 cases h;simp
theorem afH{g T:Nat}{u:Value}(h:Rep H (.er g T) u):∃v,u=.iface T v:=by
 cases h;simp
theorem aei{g T:Nat}{u v:Value}(h:Rep H (.er g T) u)(h':Rep H (.er g T) v):∃b,u=.iface T (.pointer (ak b))/\v=u:=by
 cases h with
 |er _ _ b cs e h1 h2=>
  cases h' with
  |er _ _ b' cs' e' h1' h2'=>
   simp_all
theorem atB{t T e:Nat}{ms:Array (String×TypeId)}{inf ie:TypeInfo}(hu:P.underlying t=ak (.interface ms))(h1:P.info? T=ak inf)(h2:inf.comparable=aC)(h3:P.underlying T=ak (.pointer e))(h4:P.info? e=ak ie)(h5:ie.size≠0)(b:Addr)(w:World):
  (fU t (.iface T (.pointer (ak b))) (.iface T (.pointer (ak b)))).run P w=.ok aC w:=by
 have:∀n:Nat,(eU (n+2) t (.iface T (.pointer (ak b))) (.iface T (.pointer (ak b)))).run P w=.ok aC w:=
  fun n=>by simp[eU,run_underlying hu,run_underlying h3,typeInfo,sizeOf,h1,h2,h4,sameAddr]
 exact this 9998
theorem afI{gls:List (Nat×Sh)}{g T:Nat}(h:acU gls g T=aC):zI gls g=ak (.er g T):=by
 grind [acU]
theorem acv{H:Mem}{g g' T:Nat}{u v:Value}(ha:hcell H g 0≠hcell H g' 0)(dx:Rep H (.er g T) u)(dy:Rep H (.er g' T) v):∃b b',u=.iface T (.pointer (ak b))/\v=.iface T (.pointer (ak b'))/\b≠b'/\
  (∃cs e,H b.block=ak (.cells cs e (0,0)))/\∃cs e,H b'.block=ak (.cells cs e (0,0)):=by
 cases dx with
 |er _ _ b cs e h1 h2=>
  cases dy with
  |er _ _ b' cs' e' h1' h2'=>simp_all
theorem alq{t T e:Nat}{ms:Array (String×TypeId)}{inf ie:TypeInfo}(hu:P.underlying t=ak (.interface ms))(h1:P.info? T=ak inf)(h2:inf.comparable=aC)(h3:P.underlying T=ak (.pointer e))(h4:P.info? e=ak ie)(h5:ie.size≠0){b b':Addr}(hb:b≠b')(w:World)
  {cs cs':Array Value} {ec ec':TypeId} (g1:w.heap[b.block]?=ak (.cells cs ec (0,0))) (g2:w.heap[b'.block]?=ak (.cells cs' ec' (0,0))) :
  (fU t (.iface T (.pointer (ak b))) (.iface T (.pointer (ak b')))).run P w=.ok ay w:=by
 have hs:=run_sameAddr_other (P:=P) w hb g1 g2;have:∀n:Nat,(eU (n+2) t (.iface T (.pointer (ak b))) (.iface T (.pointer (ak b')))).run P w=.ok ay w:=
  fun n=>by simp[eU,run_underlying hu,run_underlying h3,typeInfo,sizeOf,h1,h2,h4,h5,hs]
 exact this 9998
theorem afJ{Pw:World->Prop}{op:BinOp}{r:Bool}{sv:SV}{t:Nat}{u v:Value}{ox oy:Operand}(h:Dj op r=ak sv)(hg:eqGuard op t ox oy u v=pure ())
  (he:binOp .eql t u v=(do pure (.bool (<-fU t u v)))) (hn:binOp .neq t u v=(do pure (.bool (!(<-fU t u v))))) (hw:∀w,Pw w->(fU t u v).run P w=.ok r w) :
  ∃r,Den H E sv r/\∀w,Pw w->(do eqGuard op t ox oy u v;binOp op t u v:Sem Value).run P w=.ok r w:=by
 cases op<;>simp[Dj] at h<;>subst h
 ·exact ⟨_,rfl,fun w hp=>by simp_all⟩
 ·exact ⟨_,rfl,fun w hp=>by simp_all⟩
theorem aan{t T T':Nat}{ms:Array (String×TypeId)}(hu:P.underlying t=ak (.interface ms))(hT:T≠T')(u v:Value)(w:World):
  (fU t (.iface T u) (.iface T' v)).run P w=.ok ay w:=by
 have:∀n:Nat,(eU (n+2) t (.iface T u) (.iface T' v)).run P w=.ok ay w:=
  fun n=>by simp[eU,run_underlying hu,hT]
 exact this 9998
theorem ain{op:BinOp}{t:Nat}{ox oy:Operand}(h:(isConst ox||isConst oy)=aC):eqGuard op t ox oy .nilIface .nilIface=pure ():=by
 (cases ox<;>cases oy<;>simp[isConst] at h)<;>simp_all [eqGuard_nil_constL,eqGuard_nil_constR]
theorem aio{t:Nat}{op:BinOp}{x y:SV}{sv:SV}{u v:Value}{ox oy:Operand}(hC:Az P C)(hg:BU C.gls H){i:Jt}(hi:C.tys.get t=ak i)
  (dx:Den H E x u) (dy:Den H E y v) (h:akb C.VB C.gls op i.ty (isConst ox||isConst oy) x y=ak sv) :
  ∃r,Den H E sv r/\∀w,((Jv x&&Jv y)=aC->H.on w)->(do eqGuard op t ox oy u v;binOp op t u v:Sem Value).run P w=.ok r w:=by
 have hd:=(hC.ty _ _ hi).desc;unfold akb at h;cases hb:(asU C.VB x&&Eu i.ty x&&Eu i.ty y&&((isConst ox||isConst oy) || !(VE x&&VE y)))<;>simp only[hb,cond_true,cond_false] at h
 ·cases h
 rw[aG,aG,aG] at hb;obtain ⟨⟨⟨fe,fx⟩,fy⟩,hlit⟩:=hb;have fin:(∃r,Den H E sv r/\∀w,(do eqGuard op t ox oy u v;binOp op t u v:Sem Value).run P w=.ok r w)->∃r,Den H E sv r/\∀w,((Jv x&&Jv y)=aC->H.on w)->(do eqGuard op t ox oy u v;binOp op t u v:Sem Value).run P w=.ok r w:=
  fun ⟨r,h1,h2⟩=>⟨r,h1,fun w _=>h2 w⟩
 unfold amW at h;split at h
 ·apply fin
  cases hty:i.ty<;>rw[hty] at fx hd<;>simp[Eu] at fx
  obtain ⟨_,_,_,hd⟩:=hd;obtain ⟨vs,rfl,_⟩:=dx;obtain rfl:v=_:=dy;exact DJ h (eqGuard_at_func ..) rfl rfl fun w=>(aki hd _ _ _ w).1
 ·apply fin
  cases hty:i.ty<;>rw[hty] at fx hd<;>simp[Eu] at fx
  obtain ⟨_,_,_,hd⟩:=hd;obtain rfl:u=_:=dx;obtain rfl:v=_:=dy;exact DJ h (eqGuard_at_nilFunc ..) rfl rfl fun w=>(aki hd (.func 0) #[] #[] w).2
 ·apply fin
  cases hty:i.ty<;>rw[hty] at fx hd<;>simp[Eu] at fx
  obtain ⟨b,_,rfl⟩:=dx;obtain rfl:v=_:=dy;exact DJ h (eqGuard_at_pointer ..) rfl rfl fun w=>(ZI hd _ w).1
 ·apply fin
  cases hty:i.ty<;>rw[hty] at fx hd<;>simp[Eu] at fx
  obtain ⟨b,o,cc,rfl,_⟩:=dx;obtain rfl:v=_:=dy;exact DJ h (eqGuard_at_pointer ..) rfl rfl fun w=>(ZI hd _ w).1
 ·apply fin
  cases hty:i.ty<;>rw[hty] at fx hd<;>simp[Eu] at fx
  obtain ⟨rfl,_⟩:=dx;obtain rfl:v=_:=dy;exact DJ h (eqGuard_at_pointer ..) rfl rfl fun w=>(ZI hd _ w).1
 ·apply fin
  cases hty:i.ty<;>rw[hty] at fx hd<;>simp[Eu] at fx
  obtain rfl:u=_:=dx;obtain rfl:v=_:=dy;exact DJ h (eqGuard_at_pointer ..) rfl rfl fun w=>(ZI hd ⟨0,0,aK⟩ w).2
 ·apply fin
  cases hty:i.ty<;>rw[hty] at fx hd<;>simp[Eu] at fx
  obtain ⟨_,hd⟩:=hd;obtain ⟨_,rfl,_⟩:=dx;obtain rfl:v=_:=dy;exact DJ h (eqGuard_at_iface ..) rfl rfl fun w=>(V4 hd _ _ w).1
 ·apply fin
  cases hty:i.ty<;>rw[hty] at fx hd<;>simp[Eu] at fx
  obtain ⟨_,hd⟩:=hd;obtain ⟨_,rfl⟩:=afG dx;obtain rfl:v=_:=dy;exact DJ h (eqGuard_at_iface ..) rfl rfl fun w=>(V4 hd _ _ w).1
 ·apply fin
  cases hty:i.ty<;>rw[hty] at fx hd<;>simp[Eu] at fx
  obtain ⟨_,hd⟩:=hd;obtain ⟨_,_,rfl⟩:=akj dx;obtain rfl:v=_:=dy;exact DJ h (eqGuard_at_iface ..) rfl rfl fun w=>(V4 hd _ _ w).1
 ·apply fin
  cases hty:i.ty<;>rw[hty] at fx hd<;>simp[Eu] at fx
  obtain ⟨_,hd⟩:=hd;obtain rfl:u=_:=dx;obtain rfl:v=_:=dy;exact DJ h (ain (by simp_all [VE])) rfl rfl fun w=>(V4 hd 0 .nilFunc w).2.2
 ·rename_i g T g' T'
  cases hgg:(g==g'&&T==T')<;>simp only[hgg,cond_true,cond_false] at h
  ·cases hga:(acU C.gls g T&&acU C.gls g' T'&&T==T' && !(g==g'))<;>simp only[hga,cond_true,cond_false] at h
   ·cases h
   simp only[aG,beq_iff_eq,Bool.not_eq_true',beq_eq_false_iff_ne] at hga;obtain ⟨⟨⟨l1,l2⟩,rfl⟩,hne⟩:=hga;cases hty:i.ty<;>rw[hty] at fx hd<;>simp[Eu] at fx
   obtain ⟨_,hd⟩:=hd;obtain ⟨b,b',rfl,rfl,hbb,⟨cs,ec,g1⟩,cs',ec',g2⟩:=acv (hg.apart g g' T T (afI l1) (afI l2) hne) dx dy;obtain ⟨inf,e,ie,q1,q2,q3,q4,q5⟩:=hC.VB T fe;exact afJ (Pw:=fun w=>(Jv (.sh (.er g T))&&Jv (.sh (.er g' T)))=aC->H.on w) h (eqGuard_at_iface ..) rfl rfl fun w hon=>alq hd q1 q2 q3 q4 q5 hbb w (hon rfl _ _ g1) (hon rfl _ _ g2)
  apply fin;simp only[aG,beq_iff_eq] at hgg;obtain ⟨rfl,rfl⟩:=hgg;cases hty:i.ty<;>rw[hty] at fx hd<;>simp[Eu] at fx
  obtain ⟨_,hd⟩:=hd;obtain ⟨b,rfl,rfl⟩:=aei dx dy;obtain ⟨inf,e,ie,q1,q2,q3,q4,q5⟩:=hC.VB T fe;exact DJ h (eqGuard_at_iface ..) rfl rfl fun w=>atB hd q1 q2 q3 q4 q5 b w
 ·apply fin
  cases hty:i.ty<;>rw[hty] at fx hd<;>simp[Eu] at fx
  obtain ⟨_,hd⟩:=hd;obtain rfl:u=_:=dx;obtain ⟨_,_,rfl⟩:=akj dy;exact DJ h (eqGuard_nil_iface ..) rfl rfl fun w=>(V4 hd _ _ w).2.1
 ·rename_i t1 x1 g T
  apply fin;cases hty:i.ty<;>rw[hty] at fx hd<;>simp[Eu] at fx
  obtain ⟨_,hd⟩:=hd;cases hT:(t1==T)<;>simp only[hT,cond_true,cond_false] at h
  ·have hT:t1≠T:=by grind
   obtain ⟨_,rfl,_⟩:=dx;obtain ⟨_,rfl⟩:=afH dy;exact DJ h (eqGuard_at_iface ..) rfl rfl fun w=>aan hd hT _ _ w
  ·cases h
 ·rename_i t1 x1 g T
  apply fin;cases hty:i.ty<;>rw[hty] at fx hd<;>simp[Eu] at fx
  obtain ⟨_,hd⟩:=hd;cases hT:(t1==T)<;>simp only[hT,cond_true,cond_false] at h
  ·have hT:t1≠T:=by grind
   obtain ⟨_,rfl⟩:=afG dx;obtain ⟨_,rfl⟩:=afH dy;exact DJ h (eqGuard_at_iface ..) rfl rfl fun w=>aan hd hT _ _ w
  ·cases h
 ·cases h
theorem anf{c:Core}{a:Act}{o:Oper}{op:BinOp}{t t2:Nat}{x y:Operand}{φ:SV×Core->Prop}(hC:Az P C)(hg:BU C.gls H)(ho:o.op=.binOp op t x y t2)(hd:zO H E c.tm a.tmps.toList)
  (h:(Kr c (amY C op t (isConst x||isConst y) (AP c.tm x) (AP c.tm y))).All φ):∃(p:SV×Core) (v:Value),φ p/\p.2=c/\Den H E p.1 v/\∀w',((Jv (AP c.tm x)&&Jv (AP c.tm y))=aC->H.on w')->(execOp a.eval o).run P w'=.ok (.value v) w':=by
 obtain ⟨sv,hs,hφ⟩:=GI h;have dx:=Ap (H:=H) (E:=E) hd x;have dy:=Ap (H:=H) (E:=E) hd y;have hA:=hC.A;suffices hk:∃r,Den H E sv r/\∀w,((Jv (AP c.tm x)&&Jv (AP c.tm y))=aC->H.on w)->(do eqGuard op t x y (a.eval x) (a.eval y);binOp op t (a.eval x) (a.eval y):Sem Value).run P w=.ok r w by
  obtain ⟨r,h1,h2⟩:=hk;refine ⟨_,r,hφ,rfl,h1,fun w' hon=>?_⟩;have:=h2 w' hon;simp only[execOp,ho];simp only[gK] at this ⊢;rw[this];rfl
 generalize hu:a.eval x=u at dx ⊢;generalize hv:a.eval y=v at dy ⊢;unfold amY at hs;split at hs;case h_1 k n l m hx hy=>
  rw[hx] at dx;rw[hy] at dy;cases hb:(k==l)<;>simp only[hb,cond_true,cond_false] at hs
  ·cases hs
  obtain rfl:k=l:=by grind
  obtain ⟨r,hr,hden⟩:=acs (H:=H) (E:=E) hs;grind [Den,VZ]
 case h_2 k n l m hx hy=>
  rw[hx] at dx;rw[hy] at dy;cases hb:(k==l)<;>simp only[hb,cond_true,cond_false] at hs
  ·cases hs
  obtain rfl:k=l:=by grind
  obtain ⟨r,hr,hden⟩:=PU (H:=H) (E:=E) hA hs;grind [Den,VZ]
 case h_3 k n l m hx hy=>
  rw[hx] at dx;rw[hy] at dy;cases hb:(k==l)<;>simp only[hb,cond_true,cond_false] at hs
  ·cases hs
  obtain rfl:k=l:=by grind
  obtain ⟨r,hr,hden⟩:=PU (H:=H) (E:=E) hA hs;grind [Den,VZ]
 case h_4 k n l m hx hy=>
  rw[hx] at dx;rw[hy] at dy;cases hb:(k==l)<;>simp only[hb,cond_true,cond_false] at hs
  ·cases hs
  obtain rfl:k=l:=by grind
  obtain ⟨r,hr,hden⟩:=PU (H:=H) (E:=E) hA hs;grind [Den,VZ]
 case h_5 k l hx hy=>
  rw[hx] at dx;rw[hy] at dy;simp only[Den] at dx dy;subst dx;subst dy;cases op<;>simp at hs<;>subst hs
  ·exact ⟨_,rfl,fun w _=>(V3 k l t x y w).1⟩
  ·exact ⟨_,by rfl,fun w _=>(V3 k l t x y w).2⟩
 case h_6 k l hx hy=>
  rw[hx] at dx;rw[hy] at dy;obtain rfl:=OV dy;simp only[Den] at dx;subst dx;obtain ⟨r,h1,h2⟩:=aam (P:=P) (H:=H) (E:=E) hA hs t x y;grind
 case h_7 k l hx hy=>
  rw[hx] at dx;rw[hy] at dy;obtain rfl:=OV dx;simp only[Den] at dy;subst dy;obtain ⟨r,h1,h2⟩:=aam (P:=P) (H:=H) (E:=E) hA hs t x y;grind
 case h_8 k l hx hy=>
  rw[hx] at dx;rw[hy] at dy;obtain rfl:=OV dx;obtain rfl:=OV dy;obtain ⟨r,h1,h2⟩:=aam (P:=P) (H:=H) (E:=E) hA hs t x y;grind
 case h_9 k l hx hy=>
  rw[hx] at dx;rw[hy] at dy;obtain ⟨vs,rfl,dl⟩:=dx;obtain ⟨vs',rfl,dl'⟩:=dy;split at hs
  ·rename_i m n i hm hn hi
   cases hb:(C.eqs.contains t&&Cc m i.zero&&Cc n i.zero)<;>simp only[hb,cond_true,cond_false] at hs
   ·cases hs
   simp only[aG] at hb;obtain ⟨⟨h1,h2⟩,h3⟩:=hb;have e1:=UA hm dl;have e2:=UA hn dl';have e1':vs=(m.map Cq.v).toArray:=by rw[<-e1]
   have e2':vs'=(n.map Cq.v).toArray:=by rw[<-e2]
   subst e1' e2';have hE:=fun w=>hC.eqs t i h1 hi m n w h2 h3 x y
   have hq:=Q9 h2 h3;rw[hA] at hs;cases op<;>simp at hs<;>subst hs
   ·exact ⟨_,rfl,fun w _=>by simp_all⟩
   ·exact ⟨_,rfl,fun w _=>by simp_all [zG,decide]⟩
  ·cases hs
 case h_10=>
  split at hs
  ·cases hs
  ·rename_i i hi
   split at hs
   ·rename_i hty
    have ht:=(hC.ty _ _ hi).desc;rw[hty] at ht;have fin:(∃r,Den H E sv r/\∀w,(do eqGuard op t x y u v;binOp op t u v:Sem Value).run P w=.ok r w)->∃r,Den H E sv r/\∀w,((Jv (AP c.tm x)&&Jv (AP c.tm y))=aC->H.on w)->(do eqGuard op t x y u v;binOp op t u v:Sem Value).run P w=.ok r w:=
     fun ⟨r,h1,h2⟩=>⟨r,h1,fun w _=>h2 w⟩
    apply fin;unfold amX at hs;split at hs
    ·rename_i p q hp hq
     rw[hp] at dx;rw[hq] at dy;simp only[Den] at dx dy;subst dx dy;cases op<;>simp at hs<;>subst hs
     ·exact ⟨_,rfl,fun w=>(Ti ht p q x y w).1⟩
     ·exact ⟨_,by rfl,fun w=>(Ti ht p q x y w).2⟩
    all_goals first
     |(rename_i p q hp hq
       rw[hp] at dx;rw[hq] at dy;simp only[Den] at dx dy;subst dx dy;exact ane hA ht hs x y)
     |cases hs
   ·exact aio hC hg hi dx dy hs
theorem Oi{x:SV}{u:Value}(hk:x.okc=aC)(h:Den H E x u):zO H E x.cells u.cells.toList:=by
 cases x;case any=>simp[wK] at hk
 case ev=>simp[wK] at hk
 case agg l=>obtain ⟨vs,rfl,hl⟩:=h;exact hl
 case sh s=>
  have h':=h;have h:Rep H s u:=h;have key:u.cells=#[u]:=by
   cases h;case agg l vs a1 a2=>simp[wK] at hk
   case v h1=>cases u<;>simp[jm,lq] at h1 ⊢
   all_goals rfl
  rw[key];exact ⟨h',trivial⟩
 all_goals
  have h':=h;have key:u.cells=#[u]:=by
   first
    |(simp only[Den] at h;subst h;rfl)
    |(obtain ⟨rfl,h1⟩:=h;cases u<;>simp[jm,lq] at h1 ⊢;done)
    |(obtain ⟨_,_,rfl⟩:=h;rfl)
    |(obtain ⟨_,_,_,_,rfl⟩:=h;rfl)
    |(obtain ⟨_,_,_,_,_,rfl⟩:=h;rfl)
    |(obtain ⟨_,rfl,_⟩:=h;rfl)
    |(obtain ⟨_,_,_,rfl,_⟩:=h;rfl)
  rw[key];exact ⟨h',trivial⟩
theorem aao:∀{xs:List SV} {vs:List Value},zO H E xs vs->∀{z:List SV} {cells:Array Value} (off k:Nat),zO H E z cells.toList->
  zO H E (setAt z (off+k) xs) ((vs.zipIdx k).foldl (fun (cs:Array Value) (p:Value×Nat)=>cs.setIfInBounds (off+p.2) p.1) cells).toList
 |[],[],_,_,_,_,_,hz=>hz |x::xs,v::vs,⟨hx,hxs⟩,z,cells,off,k,hz=>by
  simp only[setAt,List.zipIdx_cons,List.foldl_cons];have:=aao hxs (z:=z.set (off+k) x) (cells:=cells.setIfInBounds (off+k) v) off (k+1) (by rw[Array.toList_setIfInBounds];exact hz.set _ hx);omega
 |[],_::_,h,_,_,_,_,_=>h.elim |_::_,[],h,_,_,_,_,_=>h.elim
theorem Ol:∀(xs z:List SV) (off:Nat),(setAt z off xs).length=z.length
 |[],_,_=>rfl |x::xs,z,off=>by rw[setAt,Ol xs];simp
theorem XG{place place':Nat->Option (Nat×Nat)}(hp:∀(i off size:Nat),place' i=ak (off,size)->place i=ak (off,size)){tm:List SV}{a:Act}(hd:zO H E tm a.tmps.toList):
  ∀(parts:List (Nat×Operand)) {z l:List SV} {cells:Array Value},zO H E z cells.toList->PD place' (AP tm) z parts=ak l->
   ∃cells',yg place cells (parts.map fun p=>(p.1,a.eval p.2))=ak cells'/\zO H E l cells'.toList
 |[],z,l,cells,hz,h=>by simp[PD] at h;subst h;exact ⟨cells,rfl,hz⟩ |(i,x)::r,z,l,cells,hz,h=>by
  unfold PD at h;split at h
  ·rename_i off size hpl
   cases hb:((AP tm x).okc&&(AP tm x).cells.length==size&&gJ (off+size) z.length)<;>simp only[hb,cond_true,cond_false] at h
   ·cases h
   simp only[aG,beq_iff_eq] at hb;obtain ⟨⟨h1,h2⟩,h3⟩:=hb;have h3:=gu h3;have hv:=Oi h1 (Ap hd x);have hlv:=hv.length;have hlz:=hz.length;have:=aao hv (z:=z) (cells:=cells) off 0 hz;obtain ⟨cells',e1,e2⟩:=XG hp hd r this h;refine ⟨cells',?_,e2⟩;simp only[List.map_cons,yg,hp _ _ _ hpl];rw[if_neg]
   ·grind [Array.toList_zipIdx]
   simp_all
  ·cases h
theorem YH:∀(fs:List Field) (ps:List (Nat×Nat×Bool)),fs.length=ps.length->(∀(j:Nat) (f:Field),fs[j]?=ak f->∃inf:TypeInfo,P.info? f.type=ak inf/\∃b,ps[j]?=ak (f.offset,inf.size,b))->
  fs.mapM (fun f=>(P.info? f.type).map fun i=>(f.offset,i.size))=ak (ps.map fun p=>(p.1,p.2.1))
 |[],[],_,_=>rfl |f::fs,p::ps,hl,h=>by
  obtain ⟨inf,h1,b,h2⟩:=h 0 f rfl;have ih:=YH fs ps (by grind) fun j f' hf=>h (j+1) f' (by grind);simp_all
 |[],_::_,h,_=>by simp at h |_::_,[],h,_=>by simp at h
theorem afK{c:Core}{a:Act}{o:Oper}{t:Nat}{parts:Array (Nat×Operand)}{φ:SV×Core->Prop}(hC:Az P C)(ho:o.op=.build t parts)(hd:zO H E c.tm a.tmps.toList)
  (h:(Uo C c t parts.toList).All φ):QP P H E c a o φ:=by
 unfold Uo at h;split at h
 ·rename_i i hi
  have ht:=hC.ty _ _ hi;split at h
  ·rename_i fs hty
   have asV:=ht.desc;rw[hty] at asV;obtain ⟨fields,hu,hf⟩:=asV;split at h
   ·rename_i l hl
    obtain ⟨inf,z,h1,h2,_,h4,h5,h6,_⟩:=ht.info;have h5':zO H E i.zero z.cells.toList:=h5.le (fun _ _ e=>by cases e) (fun _ _ e=>by cases e);obtain ⟨cells',e1,e2⟩:=XG (place:=fun x=>(fs.map fun p=>(p.1,p.2.1))[x]?) (fun j off size e=>by
     simp_all) hd parts.toList h5' hl
    refine ⟨_,.agg cells',h,rfl,⟨cells',rfl,e2⟩,fun w'=>?_⟩;have hp:=YH (P:=P) fields.toList fs (by simpa using hf.1) (fun j f hj=>by
     obtain ⟨inf',a1,a2,_⟩:=hf.2 j f (by grind);simp_all)
    simp_all [Program.built,Array.toList_map,run_build,execOp]
   ·exact h.elim
  ·exact h.elim
 ·exact h.elim
end
section
variable{P:Program}{C:Ctx}{K:Kx}{H:Mem}{E:Env}{w:World}
theorem OW{c:Core}{a:Act}{o:Oper}{t:Nat}{x:Operand}{φ:SV×Core->Prop}(hC:Az P C)(ho:o.op=.makeInterface t x)(hd:zO H E c.tm a.tmps.toList)
  (h:(match C.ty t with
   |some i=>match i.ty with
    | .iface=>.fail | .other=>.fail |_=>ret c (.BM t (AP c.tm x))
   |none=>.fail:Tree (SV×Core)).All φ):QP P H E c a o φ:=by
 have dx:=Ap (H:=H) (E:=E) hd x;split at h
 ·rename_i i hi
  have ht:=(hC.ty _ _ hi).desc;have key:∀d,P.underlying t=ak d->(∀ms,d≠.interface ms)->φ (.BM t (AP c.tm x),c)->QP P H E c a o φ:=fun d hu hne hφ=>
   ⟨_,.iface t (a.eval x),hφ,rfl,⟨_,rfl,dx⟩,fun w'=>by
    simp_all [execOp,Instr.makeInterface,gK,run_underlying,Result.andThen_ok]⟩
  split at h
  ·exact h.elim
  ·exact h.elim
  ·rename_i ty hne1 hne2
   cases hty:i.ty<;>rw[hty] at ht hne1 hne2
   case iface=>simp_all
   case other=>simp_all
   case fn=>obtain ⟨_,_,_,ht⟩:=ht;exact key _ ht (by simp) h
   case struct=>obtain ⟨_,ht,_⟩:=ht;exact key _ ht (by simp) h
   all_goals exact key _ ht (by simp) h
 ·exact h.elim
theorem UC{c:Core}{a:Act}{o:Oper}{b:Builtin}{xs:Array Operand}{ts:Array TypeId}{sv:SV}{φ:SV×Core->Prop}(ho:o.op=.call {callee:=.builtin b,args:=xs,argTypes:=ts})
  (h:φ (sv,c)) {v:Value} (hv:Den H E sv v) (hr:∀w',∀cs,(builtin b ts o.type cs (xs.map a.eval)).run P w'=.ok (.value v) w'):QP P H E c a o φ:=
 ⟨_,v,h,rfl,hv,fun w'=>by
  simp_all [execOp,resolve,invoke]⟩
theorem aip{hp:List (Nat×SB)}{A:Prim}(hA:A=zG){x sv:SV}{u:Value}(hh:zU K H E w hp)(h:akd A hp x=ak sv)(dx:Den H E x u):
  (∃A n c,u=.slice A n c/\Den H E sv (.int .i64 n))\/(∃l,u=.string ⟨lT l⟩/\Den H E sv (.int .i64 l.length)):=by
 subst hA;unfold akd at h;split at h
 ·rename_i id
  obtain ⟨he,A,n,cc,rfl⟩:=dx;split at h
  ·rename_i cells el st m hl
   cases h;obtain ⟨v,xs,he',hr,_,_⟩:=hh.ent _ _ hl;rw[he] at he';cases he';have:=LY hr;simp only[lenV] at this;subst this;exact .inl ⟨_,_,_,rfl,rfl⟩
  ·rename_i el st m g hl
   cases h;obtain ⟨v,xs,he',hr,_,_⟩:=hh.ent _ _ hl;rw[he] at he';cases he';have:=LY hr;simp only[lenV] at this;subst this;exact .inl ⟨_,_,_,rfl,rfl⟩
  ·rename_i el st m g more hl
   cases h;obtain ⟨v,xs,ys,he',hr,_⟩:=hh.ent _ _ hl;rw[he] at he';cases he';have:=LY hr;simp only[lenV] at this;subst this;exact .inl ⟨_,_,_,rfl,rfl⟩
  ·rename_i st m g hl
   cases h;obtain ⟨v,he',hr⟩:=hh.ent _ _ hl;rw[he] at he';cases he';cases hr
   ·exact .inl ⟨_,_,_,rfl,rfl⟩
   ·exact .inl ⟨_,_,_,rfl,rfl⟩
  ·rename_i el l hl
   cases h;obtain ⟨v,he',hr,_⟩:=hh.ent _ _ hl;rw[he] at he';cases he';rcases hr with ⟨h1,rfl⟩ |⟨g,cap,cur,fz,h1,_⟩
   ·cases h1;exact .inl ⟨_,_,_,rfl,rfl⟩
   ·cases h1;exact .inl ⟨_,_,_,rfl,rfl⟩
  ·cases h
 ·cases h
  obtain ⟨A,m,c,_,_,rfl⟩:=dx;exact .inl ⟨_,_,_,rfl,rfl⟩
 ·cases h
  cases dx
  ·exact .inl ⟨_,_,_,rfl,rfl⟩
  ·exact .inl ⟨_,_,_,rfl,rfl⟩
 ·grind [Den]
 ·grind [Den]
 ·cases h
  cases dx;exact .inr ⟨_,rfl,rfl⟩
 ·cases h
theorem YI{C:Ctx}{t:Nat}{i:Jt}{xs:Array Operand}{u:Value}(ht:NI P t i)(h:(i.ty=.str/\∃l,u=.string ⟨lT l⟩)\/((∃e,i.ty=.slice e)/\∃A n c,u=.slice A n c))(w:World)(ty:Nat):
  ∃n:Int,(oI #[t] ty #[u]).run P w=.ok (.int .i64 n) w/\((∃A m c,u=.slice A m c/\n=m)\/(∃l,u=.string ⟨lT l⟩/\n=l.length)):=by
 have hd:=ht.desc;rcases h with ⟨hty,l,rfl⟩ |⟨⟨e,hty⟩,A,n,c,rfl⟩
 ·rw[hty] at hd
  exact ⟨l.length,by simp[oI,run_underlying (show P.underlying t=ak .string from hd)];rfl,.inr ⟨l,rfl,rfl⟩⟩
 ·rw[hty] at hd
  exact ⟨n,by simp[oI,run_underlying (show P.underlying t=ak (.slice e) from hd),goInt],.inl ⟨_,_,_,rfl,rfl⟩⟩
theorem ang{k:IntKind}{a b:Int}(ts:Array TypeId)(ty:Nat)(w:World):
  (uU ts ty #[.int k a,.int k b]).run P w=.ok (.int k (if b>a then b else a)) w/\(uV ts ty #[.int k a,.int k b]).run P w=.ok (.int k (if b<a then b else a)) w:=by
 simp_all [uU,Builtin.max2,uV,Builtin.min2]
theorem J4{x:SV}{u:Value}{k:IntKind}{n:Int}{l:Bool}(hk:Ib x=ak (k,n,l))(hd:Den H E x u):u=.int k n:=by
 cases x<;>simp[Ib] at hk
 all_goals (obtain ⟨rfl,rfl,rfl⟩:=hk;exact hd)
theorem aiq{A:Prim}(hA:A=zG){mx:Bool}{x y sv:SV}{u v:Value}(h:maxS A mx x y=ak sv)(dx:Den H E x u)(dy:Den H E y v):
  ∃(k:IntKind) (a b:Int),u=.int k a/\v=.int k b/\Den H E sv (.int k (bif mx then (if b>a then b else a) else (if b<a then b else a))):=by
 subst hA;unfold maxS at h;have kd:∀{x:SV} {u:Value} {k:IntKind} {n:Int} {l:Bool},Ib x=ak (k,n,l)->Den H E x u->u=.int k n:=by
  intro x u k n l hk hd;cases x<;>simp[Ib] at hk
  all_goals (obtain ⟨rfl,rfl,rfl⟩:=hk;exact hd)
 split at h
 ·rename_i k a la l b lb e1 e2
  cases hb:(k==l)<;>simp only[hb,cond_true,cond_false] at h
  ·cases h
  obtain rfl:k=l:=by grind
  refine ⟨k,a,b,kd e1 dx,kd e2 dy,?_⟩;cases hl:(la&&lb)<;>simp only[hl,cond_true,cond_false,jL] at h<;>subst h
  ·rfl
  ·cases mx
   ·simp_all [Den]
   simp_all [Den]
 ·cases h
theorem acw{ty:Ty}{x:SV}{u:Value}(h:OQ ty x=aC)(dx:Den H E x u):(ty=.str/\∃l,u=.string ⟨lT l⟩)\/((∃e,ty=.slice e)/\∃A n c,u=.slice A n c):=by
 unfold OQ at h;split at h
 ·exact .inl ⟨rfl,_,dx⟩
 ·exact .inl ⟨rfl,_,OV dx⟩
 ·obtain ⟨_,h⟩:=dx;simp_all
 ·refine .inr ⟨⟨_,rfl⟩,?_⟩
  cases dx<;>exact ⟨_,_,_,rfl⟩
 ·obtain rfl:u=_:=dx;simp
 ·obtain ⟨A,m,c,_,_,rfl⟩:=dx;simp
 ·cases h
theorem q_len{c:Core}{a:Act}{o:Oper}{x:Operand}{t:Nat}{i:Jt}{φ:SV×Core->Prop}(hC:Az P C)(hd:zO H E c.tm a.tmps.toList)(hh:zU K H E w c.hp)
  (ho:o.op=.call {callee:=.builtin .len,args:=#[x],argTypes:=#[t]}) (hi:C.tys.get t=ak i) (hf:OQ i.ty (AP c.tm x)=aC)
  (h:(Kr c (akd C.A c.hp (AP c.tm x))).All φ):QP P H E c a o φ:=by
 have dx:=Ap (H:=H) (E:=E) hd x;obtain ⟨sv,hs,hφ⟩:=GI h;have hl:=aip hC.A hh hs dx;have ht:=hC.ty _ _ hi;have hcase:=acw hf dx;rcases hl with ⟨A,n,cc,e,hden⟩ |⟨l,e,hden⟩
 ·refine UC ho hφ hden fun w' cs=>?_
  obtain ⟨m,h1,h2⟩:=YI (C:=C) (xs:=#[x]) ht hcase w' o.type;rcases h2 with ⟨A',m',c',e',rfl⟩ |⟨l',e',_⟩
  ·rw[e] at e';cases e'
   rw[e] at h1;simp[builtin,e,h1]
  ·rw[e] at e';cases e'
 ·refine UC ho hφ hden fun w' cs=>?_
  obtain ⟨m,h1,h2⟩:=YI (C:=C) (xs:=#[x]) ht hcase w' o.type;rcases h2 with ⟨A',m',c',e',_⟩ |⟨l',e',rfl⟩
  ·rw[e] at e';cases e'
  ·rw[e] at e';cases e'
   rw[e] at h1;simp[builtin,e,h1]
theorem aej{c:Core}{a:Act}{o:Oper}{x y:Operand}{ts:Array TypeId}{mx:Bool}{φ:SV×Core->Prop}(hC:Az P C)(hd:zO H E c.tm a.tmps.toList)
  (ho:o.op=.call {callee:=.builtin (bif mx then .max else .min),args:=#[x,y],argTypes:=ts}) (h:(Kr c (maxS C.A mx (AP c.tm x) (AP c.tm y))).All φ):QP P H E c a o φ:=by
 obtain ⟨sv,hs,hφ⟩:=GI h;obtain ⟨k,m,n,ex,ey,hden⟩:=aiq hC.A hs (Ap hd x) (Ap hd y);refine UC ho hφ hden fun w' cs=>?_
 have:=ang (P:=P) (k:=k) (a:=m) (b:=n) ts o.type w';(cases mx)<;>simp_all [builtin]
theorem UD{kk:IntKind}{n:Int}:∀{es:List (SV×SV)} {ms:List MapEntry} {r:Option SV} (j:Nat),QW kk n es=ak r->NH H E es ms->
  (r=aK/\dI (.int kk) (.int kk n) ms j=ak aK)\/(∃sv i v,r=ak sv/\dI (.int kk) (.int kk n) ms j=ak (ak (i,v))/\Den H E sv v)
 |[],[],r,j,h,_=>by simp[QW] at h;exact .inl ⟨h.symm,rfl⟩ |(k,v)::es,m::ms,r,j,h,⟨h1,h2,h3⟩=>by
  unfold QW at h;split at h
  ·simp_all
  ·rename_i l p u es' e
   simp only[oU,jk] at e;obtain ⟨⟨rfl,rfl⟩,rfl⟩:=e;have h1:m.key=.int l p:=h1;cases hb:(l==kk)<;>simp only[hb,cond_true,cond_false] at h
   ·cases h
   obtain rfl:l=kk:=by grind
   cases hp:(p==n)<;>simp only[hp,cond_true,cond_false] at h
   ·have hne:(n==p)=ay:=by grind
    (rcases UD (j+1) h h3 with ⟨e1,e2⟩ |⟨sv,i,v',e1,e2,e3⟩)<;>grind [dI,eP]
   ·cases h
    have:p=n:=by grind
    subst this;exact .inr ⟨v,j,m.val,rfl,by simp[dI,h1,eP],h2⟩
  ·cases h
 |[],_::_,_,_,_,h=>h.elim |_::_,[],_,_,_,h=>h.elim
theorem ac2{kk:IntKind}{n:Int}{A:Prim}(hA:A=zG){f:SV->Bool->Tree (SV×Core)}{z:SV}{φ:SV×Core->Prop}:∀{es:List (SV×SV)} {ms:List MapEntry} (j:Nat),(VG A kk n z f es).All φ->NH H E es ms->
  (dI (.int kk) (.int kk n) ms j=ak aK/\(f z ay).All φ)\/(∃sv i v,(f sv aC).All φ/\dI (.int kk) (.int kk n) ms j=ak (ak (i,v))/\Den H E sv v)
 |[],[],j,h,_=>.inl ⟨rfl,h⟩ |(k,v)::es,m::ms,j,h,⟨h1,h2,h3⟩=>by
  unfold VG at h;split at h
  ·simp_all
  ·rename_i l p u es' e
   simp only[oU,jk] at e;obtain ⟨⟨rfl,rfl⟩,rfl⟩:=e;have h1:m.key=.int l p:=h1;cases hb:(l==kk)<;>simp only[hb,cond_true,cond_false] at h
   ·exact h.elim
   obtain rfl:l=kk:=by grind
   subst hA;cases hp:(n==p)
   ·rcases ac2 rfl (j+1) (h.2 hp) h3 with ⟨e1,e2⟩ |⟨sv,i,v',e1,e2,e3⟩
    ·grind [dI,eP]
    grind [dI,eP]
   ·exact .inr ⟨v,j,m.val,h.1 hp,by simp[dI,h1,eP,hp],h2⟩
  ·exact h.elim
 |[],_::_,_,_,h=>h.elim |_::_,[],_,_,h=>h.elim
def PV(H:Mem)(E:Env)(p:Bool)(sv:SV)(o:Option Value):Prop:=
 match p,o with|true,ak v=>Den H E sv v/\v.oneCell'=aC|false,aK=>True|_,_=>False
def Lj:List (Int×Option Value)->Int->Option (Option Value)
 |[],_=>aK |(n,o)::r,k=>if k=n then ak o else Lj r k
theorem YJ{M:Int->Option Value}{fv:List (Int×Option Value)}(hM:∀n o,(n,o)∈fv->M n=o){k:Int}{o:Option Value}:∀{uv:List (Int×Option Value)},Lj (uv++fv) k=ak o->TS M uv k=o
 |[],h=>by
  have key:∀l:List (Int×Option Value),(∀n o,(n,o)∈l->M n=o)->Lj l k=ak o->M k=o:=by
   intro l;induction l with
   |nil=>intro _ h;cases h |cons p r ih=>
    grind [Lj,dK,dF]
  exact key fv hM h
 |(n,q)::uv,h=>by
  simp only[List.cons_append,Lj] at h;simp only[TS];split at h
  ·simp_all
  ·rename_i e;rw[if_neg e];exact YJ hM h
theorem FD.app:∀{l l':List (Int×Bool×SV)} {v v':List (Int×Option Value)},FD H E l v->FD H E l' v'->FD H E (l++l') (v++v')
 |[],_,[],_,_,h=>h |(_,_,_)::_,_,(_,_)::_,_,⟨a,b,c⟩,h=>⟨a,b,c.app h⟩ |[],_,_::_,_,h,_=>h.elim |_::_,_,[],_,h,_=>h.elim
theorem V5{φ:SV×Core->Prop}{k:Int}{f:Bool->SV->Tree (SV×Core)}:∀{l:List (Int×Bool×SV)} {lv:List (Int×Option Value)},FD H E l lv->(findF zG k f l).All φ->
  ∃p sv o,(f p sv).All φ/\PV H E p sv o/\Lj lv k=ak o
 |[],_,_,h=>h.elim |[(j,p,sv)],[(n,o)],⟨a,b,_⟩,h=>by
  subst a;obtain ⟨h1,h2⟩:=h;have h1:k=n:=by grind [zG]
  exact ⟨p,sv,o,h2,b,by simp[Lj,h1]⟩
 |(j,p,sv)::q::r,(n,o)::lv,⟨a,b,c⟩,h=>by
  subst a;obtain ⟨h1,h2⟩:=h;by_cases e:k=n
  ·exact ⟨p,sv,o,h1 (by simp[zG,e]),b,by simp[Lj,e]⟩
  ·obtain ⟨p',sv',o',a1,a2,a3⟩:=V5 c (h2 (by simp[zG,e]))
   grind [Lj]
 |[(_,_,_)],_::_::_,h,_=>h.2.2.elim |_::_,[],h,_=>h.elim
theorem YK{φ:SV×Core->Prop}{k:Int}{f:Bool->SV->Tree (SV×Core)}{M:Int->Option Value}{fs us:List (Int×Bool×SV)}{fv uv:List (Int×Option Value)}(hM:∀n o,(n,o)∈fv->M n=o)
  (d2:FD H E us uv) (d1:FD H E fs fv) (h:(findF zG k f (us++fs)).All φ):∃p sv o,(f p sv).All φ/\PV H E p sv o/\TS M uv k=o:=by
 obtain ⟨p,sv,o,a1,a2,a3⟩:=V5 (d2.app d1) h;grind [YJ]
theorem Ig{kk:IntKind}{n:Int}{v:Value}:∀{ms:List MapEntry},(∀m∈ms,∃n,m.key=.int kk n)->∀j:Nat,Iu kk n ms=ak v->
  ∃i,dI (.int kk) (.int kk n) ms j=ak (ak (j+i,v))/\∃m,ms[i]?=ak m/\m.key=.int kk n/\m.val=v
 |[],_,_,h=>by cases h |m::ms,hk,j,h=>by
  obtain ⟨p,hp⟩:=hk m (dK ..);by_cases e:n=p
  ·subst e
   simp[Iu,hp,eP] at h;exact ⟨0,by simp[dI,hp,eP,h],m,rfl,hp,h⟩
  ·have e':(n==p)=ay:=by simpa using e
   simp[Iu,hp,eP,e'] at h;obtain ⟨i,a1,m',a2,a3⟩:=Ig (fun m hm=>hk m (dF _ hm)) (j+1) h;refine ⟨i+1,?_,m',by grind,a3⟩;simp only[dI,hp,eP,if_true,e'];grind
theorem J5{kk:IntKind}{n:Int}:∀{ms:List MapEntry},(∀m∈ms,∃n,m.key=.int kk n)->∀j:Nat,Iu kk n ms=aK->dI (.int kk) (.int kk n) ms j=ak aK
 |[],_,_,_=>rfl |m::ms,hk,j,h=>by
  obtain ⟨p,hp⟩:=hk m (dK ..);by_cases e:n=p
  ·simp_all [Iu,eP]
  ·have e':(n==p)=ay:=by simpa using e
   simp[Iu,hp,eP,e'] at h;simp only[dI,hp,eP,if_true,e'];exact J5 (fun m hm=>hk m (dF _ hm)) (j+1) h
theorem J6{kt:Nat}{kk:IntKind}(hu:P.underlying kt=ak (.int kk))(em:Bool)(k:IntKind)(n:Int)(w:World):(iq em 10000 kt (.int k n)).run P w=.ok () w:=by
 have:∀d:Nat,(iq em (d+1) kt (.int k n)).run P w=.ok () w:=fun d=>by simp[iq,run_underlying hu]
 grind
theorem JE{t kt e:Nat}{kk:IntKind}{n:Int}{ok:Bool}{te:Jt}{m:Value}{es:List MapEntry}{w:World}{z:Value}(hu:P.underlying t=ak (.map kt e))(hk:P.underlying kt=ak (.int kk))
  (hz:(zeroValue e).run P w=.ok z w) (hm:(m=.map aK/\es=[])\/(∃b clk,m=.map (ak b)/\w.heap[b]?=ak (.map es.toArray clk))) :
  (dI (.int kk) (.int kk n) es 0=ak aK->(iD t m (.int kk n) ok).run P w=.ok (if ok then .tuple #[z,.bool ay] else z) w)/\
  (∀i v,dI (.int kk) (.int kk n) es 0=ak (ak (i,v))->(iD t m (.int kk n) ok).run P w=.ok (if ok then .tuple #[v,.bool aC] else v) w):=by
 have hck:=fun em=>J6 (P:=P) hk em kk n w;rcases hm with ⟨rfl,rfl⟩ |⟨b,clk,rfl,hb⟩
 ·simp_all [iD,run_underlying,gy,dI]
 ·have hg:(getObj b).run P w=.ok (.map es.toArray clk) w:=by simp[getObj,jM,hb]
  constructor
  ·intro hf
   cases ok<;>simp[iD,run_underlying hu,hg,hck,gy,run_underlying hk,hf,hz]
  ·intro i v hf
   cases ok<;>simp[iD,run_underlying hu,hg,hck,gy,run_underlying hk,hf]
theorem V6{c:Core}{ok:Bool}{sv:SV}{b:Bool}{v:Value}(hd:Den H E sv v):
  Den H E (bif ok then .zQ [sv,.bool b] else sv) (if ok then .tuple #[v,.bool b] else v):=by
 cases ok
 ·exact hd
 ·exact ⟨#[v,.bool b],rfl,hd,rfl,trivial⟩
theorem PW{n m:CZ}(h:Ci n=Ci m):n=m:=by
 grind [Ci]
theorem air{s:SV}{n:Int}{v:Value}(h:intOf s=ak n)(hd:Den H E s v):v=.int .i64 n:=by
 unfold intOf at h;split at h
 ·cases h;exact hd
 ·cases h;exact hd
 ·cases h
  have hd:Rep H (.i .i64 n) v:=hd;cases hd;rfl
 ·cases h
theorem afL{s:SV}{l:List UInt8}{v:Value}(h:strOf s=ak l)(hd:Den H E s v):v=.string ⟨l.toArray⟩:=by
 unfold strOf at h;split at h
 ·cases h;exact hd
 ·cases h
  have hd:Rep H (.str l) v:=hd;cases hd;rfl
 ·cases h
theorem V7{s:SV}{n:CZ}{v:Value}(h:ZC s=ak n)(hd:Den H E s v):v=Ci n:=by
 unfold ZC at h;split at h
 ·split at h
  ·rename_i a b n l h1 h2
   cases h;obtain ⟨⟨cs⟩,rfl,hd⟩:=hd;match cs,hd with
   |[x,y],⟨d1,d2,_⟩=>
    rw[air h1 d1,afL h2 d2];rfl
  ·cases h
 ·rename_i n l
  cases h;have hd:Rep H (.agg [.i .i64 n,.str l]) v:=hd;cases hd with
  |agg _ vs hl hr=>
   obtain ⟨vs⟩:=vs;match vs,hl,hr with
   |[x,y],_,hr=>
    have h1:=hr 0 _ x rfl rfl;have h2:=hr 1 _ y rfl rfl;cases h1;cases h2;rfl
 ·cases h
theorem anh(k n:CZ):zG.kp k.1 k.2 n.1 n.2=decide (k=n):=by
 grind [zG]
theorem ais{vt:VT}{v:Value}(h:am8 vt v):Den H E (am2 zG vt (ak v)) v/\v.oneCell'=aC:=by
 cases vt with
 |int=>obtain ⟨n,rfl⟩:=h;exact ⟨rfl,rfl⟩ |bool=>obtain ⟨b,rfl⟩:=h;exact ⟨rfl,rfl⟩
theorem YL{φ:SV×Core->Prop}{k:CZ}{f:Bool->SV->Tree (SV×Core)}{vt:VT}{M:CZ->Option Value}(hT:akg vt M):∀{us:List (CZ×Bool×SV)} {uv:List (CZ×Option Value)},
  VO H E us uv->(aic zG vt M k f us).All φ->∃p sv o,(f p sv).All φ/\PV H E p sv o/\Q7 M uv k=o
 |[],[],_,⟨h1,h2⟩=>by
  cases hm:M k with
  |none=>exact ⟨ay,.any,aK,h2 (by rw[hm];rfl),trivial,hm⟩ |some v=>exact ⟨aC,_,ak v,h1 (by rw[hm];rfl),by rw[hm];exact ais (hT k v hm),hm⟩
 |(j,p,sv)::us,(n,o)::uv,⟨a,b,c⟩,h=>by
  subst a;obtain ⟨h1,h2⟩:=h;by_cases e:k=n
  ·exact ⟨p,sv,o,h1 (by rw[anh];simp[e]),b,by simp[Q7,e]⟩
  ·obtain ⟨p',sv',o',a1,a2,a3⟩:=YL hT c (h2 (by rw[anh];simp[e]))
   grind [Q7]
 |[],_::_,h,_=>h.elim |_::_,[],h,_=>h.elim
theorem OX{kt:Nat}(hp:Q8 P kt){n:CZ}{w:World}:∀{ms:List MapEntry},(∀m∈ms,∃n,m.key=Ci n)->∀j:Nat,
  ∃r,(l9 kt (Ci n) ms j).run P w=.ok r w/\((r=aK/\∀m∈ms,m.key≠Ci n)\/∃(i:Nat) (m:MapEntry),r=ak (j+i,m.val)/\ms[i]?=ak m/\m.key=Ci n)
 |[],_,j=>⟨aK,rfl,.inl ⟨rfl,fun _ h=>by cases h⟩⟩ |m::ms,hk,j=>by
  obtain ⟨p,hpk⟩:=hk m (dK ..);have he:=hp.eq n p w;by_cases e:n=p
  ·subst e
   refine ⟨ak (j,m.val),?_,.inr ⟨0,m,rfl,rfl,hpk⟩⟩;simp[l9,hpk,he]
  ·obtain ⟨r,h1,h2⟩:=OX hp (n:=n) (w:=w) (fun m hm=>hk m (dF _ hm)) (j+1)
   refine ⟨r,?_,?_⟩
   ·simp_all [l9]
   ·rcases h2 with ⟨a,b⟩ |⟨i,m',a,b,c⟩
    ·grind [PW]
    ·exact .inr ⟨i+1,m',by grind,by simpa using b,c⟩
theorem Om{kt:Nat}(hp:Q8 P kt){n:CZ}{w:World}{ms:List MapEntry}(hk:∀m∈ms,∃n,m.key=Ci n):
  ∃r,(gy kt (Ci n) ms).run P w=.ok r w/\((r=aK/\∀m∈ms,m.key≠Ci n)\/∃(i:Nat) (m:MapEntry),r=ak (i,m.val)/\ms[i]?=ak m/\m.key=Ci n):=by
 obtain ⟨fs,hu⟩:=hp.und;cases ms with
 |nil=>exact ⟨aK,by simp[gy,run_underlying hu,dI],.inl ⟨rfl,fun _ h=>by cases h⟩⟩ |cons m ms=>
  obtain ⟨r,h1,h2⟩:=OX hp (n:=n) (w:=w) hk 0;simp_all [gy,run_underlying,dI,eP,iw]
theorem ani{e:Nat}{te:Jt}{z:SV}(hte:NI P e te)(hz:pack te.ty.isAgg te.zero=ak z):∃zv:Value,Den H E z zv/\∀w:World,(zeroValue e).run P w=.ok zv w:=by
 obtain ⟨inf,zv,h1,h2,_,h4,h5,h6,h7,h8⟩:=hte.info;have h5':zO H E te.zero zv.cells.toList:=h5.le (fun _ _ e=>by cases e) (fun _ _ e=>by cases e);refine ⟨zv,?_,fun w=>by simp[zeroValue,typeInfo,h1,h4]⟩;rcases MK hz with ⟨ha,rfl⟩ |⟨ha,hl⟩
 ·obtain ⟨cs,rfl⟩:=h7 ha
  exact ⟨cs,rfl,h5'⟩
 ·rw[hl] at h5'
  have h8:=(h8 ha).2;cases zv with
  |agg cs=>simp[jm] at h8 |_=>
   simp_all [lq,zO]
theorem alr{c:Core}{a:Act}{o:Oper}{t:Nat}{x y:Operand}{ok:Bool}{φ:SV×Core->Prop}(hC:Az P C)(hd:zO H E c.tm a.tmps.toList)(hh:zU K H E w c.hp)
  (ho:o.op=.lookup t x y ok) (h:(QX C c t (AP c.tm x) (AP c.tm y) ok).All φ):VQ P H E w c a o φ:=by
 have dx:=Ap (H:=H) (E:=E) hd x;have dy:=Ap (H:=H) (E:=E) hd y;unfold QX at h;split at h
 ·rename_i ti hti
  have ht:=(hC.ty _ _ hti).desc;split at h
  ·rename_i kt e hty
   rw[hty] at ht;split at h
   ·rename_i kti te hkt hte
    have hkt:=(hC.ty _ _ hkt).desc;have hte:=hC.ty _ _ hte;split at h
    ·rename_i fs z hkk hz
     cases hpk:(C.Z9.contains kt)<;>simp only[hpk,cond_true,cond_false] at h
     ·exact h.elim
     have hp:=hC.Z9 _ hpk;obtain ⟨zv,hzd,UE⟩:=ani (H:=H) (E:=E) hte hz;split at h
     ·rename_i id hx
      rw[hx] at dx;obtain ⟨b,he,ex⟩:=dx;split at h
      ·rename_i vt M us hl
       obtain ⟨b',ms,clk,uv,he',hw,d2,hT,hL,hok,_⟩:=hh.ent _ _ hl;rw[he] at he';cases he';have hkeep:∀w',Ux H E c.hp w w'->w'.heap[b]?=ak (.map ms clk):=fun w' ha=>by
        grind [IX,Ag,zT]
       split at h
       ·rename_i n hn
        have dy:a.eval y=Ci n:=V7 hn dy;rw[hC.A] at h;obtain ⟨p,sv,ov,hφ,hpo,hat⟩:=YL hT d2 h;have fin:∀(sv:SV) (b:Bool) (v:Value),Den H E sv v->(Ic c ok sv b).All φ->(∀w',Ux H E c.hp w w'->H.on w'->(iD t (a.eval x) (a.eval y) ok).run P w'=.ok (if ok then .tuple #[v,.bool b] else v) w')->VQ P H E w c a o φ:=by
         intro sv b v hdv hφ hr;refine ⟨_,_,hφ,rfl,V6 (c:=c) hdv,fun w' h1 h2=>?_⟩;simp_all [execOp]
        have hg:∀w',Ux H E c.hp w w'->(getObj b).run P w'=.ok (.map ms clk) w':=fun w' h1=>by simp_all [getObj,jM]
        cases p with
        |true=>
         cases ov with
         |none=>exact hpo.elim |some v=>
          refine fin _ aC v hpo.1 hφ fun w' h1 h2=>?_
          obtain ⟨r,e1,e2⟩:=Om hp (n:=n) (w:=w') hok.key;rw[ex,dy];rcases e2 with ⟨_,e2⟩ |⟨i,m,rfl,e3,e4⟩
          ·obtain ⟨m,hm,q⟩:=hok.ex _ _ hat
           simp_all
          ·have hv:=hok.Zp m (dB e3) n e4
           rw[hat] at hv;injection hv with hv
           subst hv;cases ok<;>simp[iD,run_underlying ht,hg w' h1,hp.chk,e1]
        |false=>
         cases ov with
         |some v=>exact hpo.elim |none=>
          refine fin _ ay zv hzd hφ fun w' h1 h2=>?_
          obtain ⟨r,e1,e2⟩:=Om hp (n:=n) (w:=w') hok.key;rw[ex,dy];rcases e2 with ⟨rfl,_⟩ |⟨i,m,_,e3,e4⟩
          ·cases ok<;>simp[iD,run_underlying ht,hg w' h1,hp.chk,e1,UE]
          ·have hv:=hok.Zp m (dB e3) n e4
           simp_all
       ·exact h.elim
      ·exact h.elim
     ·exact h.elim
    ·rename_i kk z hkk hz
     rw[hkk] at hkt;have hzero:∃zv:Value,Den H E z zv/\∀w:World,(zeroValue e).run P w=.ok zv w:=by
      obtain ⟨inf,zv,h1,h2,_,h4,h5,h6,h7,h8⟩:=hte.info;have h5':zO H E te.zero zv.cells.toList:=h5.le (fun _ _ e=>by cases e) (fun _ _ e=>by cases e);refine ⟨zv,?_,fun w=>by simp[zeroValue,typeInfo,h1,h4]⟩;rcases MK hz with ⟨ha,rfl⟩ |⟨ha,hl⟩
      ·obtain ⟨cs,rfl⟩:=h7 ha
       exact ⟨cs,rfl,h5'⟩
      ·rw[hl] at h5'
       have h8:=(h8 ha).2;cases zv with
       |agg cs=>simp[jm] at h8 |_=>
        simp_all [lq,zO]
     obtain ⟨zv,hzd,UE⟩:=hzero;have fin:∀(sv:SV) (b:Bool) (v:Value),Den H E sv v->(Ic c ok sv b).All φ->(∀w',Ux H E c.hp w w'->H.on w'->(iD t (a.eval x) (a.eval y) ok).run P w'=.ok (if ok then .tuple #[v,.bool b] else v) w')->VQ P H E w c a o φ:=by
      intro sv b v hdv hφ hr;refine ⟨_,_,hφ,rfl,V6 (c:=c) hdv,fun w' h1 h2=>?_⟩;simp_all [execOp]
     split at h
     ·rename_i hx
      rw[hx] at dx;have dx:a.eval x=.map aK:=dx;split at h
      ·rename_i j n l hk
       have dy:a.eval y=.int j n:=J4 hk dy;cases hb:(j==kk)<;>simp only[hb,cond_true,cond_false] at h
       ·exact h.elim
       obtain rfl:j=kk:=by grind
       refine fin _ _ _ hzd h fun w' h1 h2=>?_
       rw[dx,dy];exact (JE ht hkt (UE w') (te:=te) (.inl ⟨rfl,rfl⟩)).1 rfl
      ·exact h.elim
     ·rename_i id hx
      rw[hx] at dx;obtain ⟨b,he,ex⟩:=dx;split at h
      ·rename_i es hl
       obtain ⟨b',ms,clk,he',hw,hdm,_⟩:=hh.ent _ _ hl;rw[he] at he';cases he';have hkeep:∀w',Ux H E c.hp w w'->w'.heap[b]?=ak (.map ms clk):=fun w' ha=>by
        grind [IX,Ag,zT]
       split at h
       ·rename_i k n hy
        rw[hy] at dy;have dy:a.eval y=.int k n:=dy;cases hb:(k==kk)<;>simp only[hb,cond_true,cond_false] at h
        ·exact h.elim
        obtain rfl:k=kk:=by grind
        split at h
        ·rename_i sv hf
         rcases UD 0 hf hdm with ⟨e1,_⟩ |⟨sv',i,v,e1,e2,e3⟩
         ·cases e1
         ·cases e1
          refine fin _ _ _ e3 h fun w' h1 h2=>?_
          rw[ex,dy];exact (JE ht hkt (UE w') (te:=te) (.inr ⟨b,clk,rfl,by simp_all⟩)).2 i v e2
        ·rename_i hf
         rcases UD 0 hf hdm with ⟨_,e2⟩ |⟨sv',i,v,e1,_⟩
         ·refine fin _ _ _ hzd h fun w' h1 h2=>?_
          rw[ex,dy];exact (JE ht hkt (UE w') (te:=te) (.inr ⟨b,clk,rfl,by simp_all⟩)).1 e2
         ·cases e1
        ·exact h.elim
       ·rename_i k n hy
        rw[hy] at dy;have dy:a.eval y=.int k n:=dy;cases hb:(k==kk)<;>simp only[hb,cond_true,cond_false] at h
        ·exact h.elim
        obtain rfl:k=kk:=by grind
        rcases ac2 hC.A 0 h hdm with ⟨e2,hφ⟩ |⟨sv',i,v,hφ,e2,e3⟩
        ·refine fin _ _ _ hzd hφ fun w' h1 h2=>?_
         rw[ex,dy];exact (JE ht hkt (UE w') (te:=te) (.inr ⟨b,clk,rfl,by simp_all⟩)).1 e2
        ·refine fin _ _ _ e3 hφ fun w' h1 h2=>?_
         rw[ex,dy];exact (JE ht hkt (UE w') (te:=te) (.inr ⟨b,clk,rfl,by simp_all⟩)).2 i v e2
       ·exact h.elim
      ·rename_i fk M fs us tag hl
       obtain ⟨b',ms,clk,fv,uv,he',hw,d1,d2,hM,hok,_,_⟩:=hh.ent _ _ hl;rw[he] at he';cases he';have hkeep:∀w',Ux H E c.hp w w'->w'.heap[b]?=ak (.map ms clk):=fun w' ha=>by
        grind [IX,Ag,zT]
       split at h
       ·rename_i j n l hk
        have dy:a.eval y=.int j n:=J4 hk dy;cases hb:(j==kk&&fk==kk)<;>simp only[hb,cond_true,cond_false] at h
        ·exact h.elim
        simp only[aG,beq_iff_eq] at hb;obtain ⟨rfl,rfl⟩:=hb;rw[hC.A] at h;obtain ⟨p,sv,o,hφ,hpo,hat⟩:=YK hM d2 d1 h;rw[<-hok.at_] at hat;cases p with
        |true=>
         cases o with
         |none=>exact hpo.elim |some v=>
          obtain ⟨i,hi⟩:=Ig hok.key 0 hat;refine fin _ _ _ hpo.1 hφ fun w' h1 h2=>?_
          rw[ex,dy];exact (JE ht hkt (UE w') (te:=te) (.inr ⟨b,clk,rfl,by simp_all⟩)).2 _ _ hi.1
        |false=>
         cases o with
         |some v=>exact hpo.elim |none=>
          have hi:=J5 hok.key 0 hat;refine fin _ _ _ hzd hφ fun w' h1 h2=>?_
          rw[ex,dy];exact (JE ht hkt (UE w') (te:=te) (.inr ⟨b,clk,rfl,by simp_all⟩)).1 hi
       ·exact h.elim
      ·exact h.elim
     ·exact h.elim
    ·exact h.elim
   ·exact h.elim
  ·exact h.elim
 ·exact h.elim
theorem als{t e:Nat}(hu:P.underlying t=ak (.slice e))(A:Option Addr)(n k:Nat)(w:World):(fU t (.slice A n k) (.slice aK 0 0)).run P w=.ok A.isNone w:=by
 have:∀n':Nat,(eU (n'+1) t (.slice A n k) (.slice aK 0 0)).run P w=.ok A.isNone w:=fun n'=>by
  cases A<;>simp[eU,run_underlying hu]
 exact this 9999
theorem ait{hp:List (Nat×SB)}{x:SV}{n:Nat}{u:Value}(hh:zU K H E w hp)(h:amZ hp x=ak n)(dx:Den H E x u):∃A k,u=.slice A n k/\(0<n->A.isNone=ay):=by
 unfold amZ at h;split at h
 ·rename_i id
  obtain ⟨he,A,m,cc,rfl⟩:=dx;have key:∀{elem st n:Nat} {xs:List Value},w.ownsRow 0 elem st (.slice A m cc) n xs->m=n/\(0<n->A.isNone=ay):=fun {elem st n xs} hr=>by
   (rcases hr.2 with ⟨h1,rfl⟩ |⟨g,cap,cur,h1,_⟩)<;>simp_all
  split at h
  ·rename_i cells el st m' hl
   cases h;obtain ⟨v,xs,he',hr,_,_⟩:=hh.ent _ _ hl;grind
  ·rename_i el st m' g hl
   cases h;obtain ⟨v,xs,he',hr,_,_⟩:=hh.ent _ _ hl;grind
  ·rename_i st m' g hl
   cases h;obtain ⟨v,he',hr⟩:=hh.ent _ _ hl;rw[he] at he';cases he';(cases hr)<;>simp_all
  ·cases h
 ·cases h
  (cases dx)<;>simp_all
 ·cases h
theorem NJ{x:SV}{l:List UInt8}{v:Value}(h:textOf x=ak l)(d:Den H E x v):v=.string ⟨l.toArray⟩:=by
 unfold textOf at h;split at h
 ·cases h;exact d
 ·cases h;exact OV d
 ·cases h
theorem aek{P:Program}(l l':List UInt8)(h:l.length+l'.length<=9223372036854775807)(t:Nat)(x y:Operand)(w:World):
  (do eqGuard .add t x y (.string ⟨l.toArray⟩) (.string ⟨l'.toArray⟩);binOp .add t (.string ⟨l.toArray⟩) (.string ⟨l'.toArray⟩):Sem Value).run P w=.ok (.string ⟨(l++l').toArray⟩) w:=by
 have e:(⟨l.toArray⟩:ByteArray)++⟨l'.toArray⟩=⟨(l++l').toArray⟩:=by
  rfl
 have h1:(eqGuard .add t x y (.string ⟨l.toArray⟩) (.string ⟨l'.toArray⟩):Sem Unit).run P w=.ok () w:=by rfl
 simp_all [gK,binOp,Go.run_string_add_sum,yR]
theorem YM{x:SV}{k:IntKind}{n:Int}{b:Bool}{u:Value}(h:numOf x=ak (k,n,b))(hd:Den H E x u):u=.int k n:=by
 unfold numOf at h;split at h
 ·cases h;exact hd
 ·cases h;exact hd
 ·cases h
theorem alu{op:BinOp}{k l:IntKind}{a b:Int}(h:(op=.shl/\0<=b)\/(op=.shr/\0<=b)\/(op=.quo/\k=l/\b≠0)\/(op=.rem/\k=l/\b≠0)\/((op=.and\/op=.or\/op=.xor\/op=.andNot)/\k=l))(t:Nat)(x y:Operand)(w:World):
  (do eqGuard op t x y (.int k a) (.int l b);binOp op t (.int k a) (.int l b):Sem Value).run P w=.ok (.int k (VF op k a b)) w:=by
 rcases h with ⟨rfl,h⟩ |⟨rfl,h⟩ |⟨rfl,rfl,h⟩ |⟨rfl,rfl,h⟩ |⟨h,rfl⟩
 ·have:¬b<0:=by omega
  simp[eqGuard,binOp,Op.shift,this,VF]
 ·have:¬b<0:=by omega
  simp[eqGuard,binOp,Op.shift,this,VF]
 ·simp[eqGuard,binOp,Op.intDiv,h,VF]
 ·simp[eqGuard,binOp,Op.intDiv,h,VF]
 ·rcases h with rfl|rfl|rfl|rfl<;>simp[eqGuard,binOp,Op.intBits,VF]
theorem alv{A:Prim}(hA:A=zG){op:BinOp}{k:IntKind}{a b:Int}{la lb:Bool}{c:Core}{φ:SV×Core->Prop}(h:(MB A op k a b la lb c).All φ):∃sv,φ (sv,c)/\Den H E sv (.int k (VF op k a b)):=by
 subst hA;unfold MB at h;refine ⟨_,h,?_⟩;cases la<;>cases lb<;>rfl
theorem anj{c:Core}{a:Act}{op:BinOp}{t:Nat}{x y:Operand}{φ:SV×Core->Prop}{r:Tree (SV×Core)}(hC:Az P C)(hd:zO H E c.tm a.tmps.toList)(hr:am0 C c op (AP c.tm x) (AP c.tm y)=ak r)(h:r.All φ):
  ∃(p:SV×Core) (v:Value),φ p/\p.2=c/\Den H E p.1 v/\∀w',(do eqGuard op t x y (a.eval x) (a.eval y);binOp op t (a.eval x) (a.eval y):Sem Value).run P w'=.ok v w':=by
 have dx:=Ap (H:=H) (E:=E) hd x;have dy:=Ap (H:=H) (E:=E) hd y;have fin:∀{k l:IntKind} {n m:Int} {la lb:Bool},numOf (AP c.tm x)=ak (k,n,la)->numOf (AP c.tm y)=ak (l,m,lb)->(MB C.A op k n m la lb c).All φ->
   ((op=.shl/\0<=m)\/(op=.shr/\0<=m)\/(op=.quo/\k=l/\m≠0)\/(op=.rem/\k=l/\m≠0)\/((op=.and\/op=.or\/op=.xor\/op=.andNot)/\k=l))->
   ∃(p:SV×Core) (v:Value),φ p/\p.2=c/\Den H E p.1 v/\∀w',(do eqGuard op t x y (a.eval x) (a.eval y);binOp op t (a.eval x) (a.eval y):Sem Value).run P w'=.ok v w':=by
  intro k l n m la lb h1 h2 h3 h4;obtain ⟨sv,h5,h6⟩:=alv hC.A h3;refine ⟨_,_,h5,rfl,h6,fun w'=>?_⟩;rw[YM h1 dx,YM h2 dy];grind [alu]
 unfold am0 at hr;split at hr
 ·rename_i k n la l m lb h1 h2
  cases hr;cases lb<;>simp only[cond_true,cond_false] at h
  ·rw[hC.A] at h
   have h0:(0:Int)<=m:=of_decide_eq_true h.1;exact fin h1 h2 (by rw[hC.A];exact h.2) (.inl ⟨rfl,h0⟩)
  ·cases h0:decide (0<=m)<;>simp only[h0,cond_true,cond_false] at h
   ·exact h.elim
   simp_all
 ·rename_i k n la l m lb h1 h2
  cases hr;cases lb<;>simp only[cond_true,cond_false] at h
  ·rw[hC.A] at h
   have h0:(0:Int)<=m:=of_decide_eq_true h.1;exact fin h1 h2 (by rw[hC.A];exact h.2) (.inr (.inl ⟨rfl,h0⟩))
  ·cases h0:decide (0<=m)<;>simp only[h0,cond_true,cond_false] at h
   ·exact h.elim
   simp_all
 ·rename_i k n la l m lb h1 h2
  cases hk:(k==l)<;>simp only[hk,cond_true,cond_false] at hr
  ·cases hr
  cases hr;have hk:k=l:=by grind
  cases lb<;>simp only[cond_true,cond_false] at h
  ·rw[hC.A] at h
   have h0:(!(m==0))=aC:=h.1;exact fin h1 h2 (by rw[hC.A];exact h.2) (.inr (.inr (.inl ⟨rfl,hk,by grind⟩)))
  ·cases h0:(m==0)<;>simp only[h0,cond_true,cond_false] at h
   ·simp_all
   ·exact h.elim
 ·rename_i k n la l m lb h1 h2
  cases hk:(k==l)<;>simp only[hk,cond_true,cond_false] at hr
  ·cases hr
  cases hr;have hk:k=l:=by grind
  cases lb<;>simp only[cond_true,cond_false] at h
  ·rw[hC.A] at h
   have h0:(!(m==0))=aC:=h.1;exact fin h1 h2 (by rw[hC.A];exact h.2) (.inr (.inr (.inr (.inl ⟨rfl,hk,by grind⟩))))
  ·cases h0:(m==0)<;>simp only[h0,cond_true,cond_false] at h
   ·simp_all
   ·exact h.elim
 all_goals first
  |(cases hr;done)
  |(rename_i k n la l m lb h1 h2
    cases hk:(k==l)<;>simp only[hk,cond_true,cond_false] at hr
    ·cases hr
    cases hr;have hk:k=l:=by grind
    exact fin h1 h2 h (.inr (.inr (.inr (.inr ⟨by simp,hk⟩)))))
theorem aap{c:Core}{a:Act}{o:Oper}{op:BinOp}{t t2:Nat}{x y:Operand}{φ:SV×Core->Prop}(hC:Az P C)(hg:BU C.gls H)(ho:o.op=.binOp op t x y t2)(hd:zO H E c.tm a.tmps.toList)(hh:zU K H E w c.hp)
  (h:(aac C c op t x y (isConst x||isConst y)).All φ):∃(p:SV×Core) (v:Value),φ p/\p.2=c/\Den H E p.1 v/\∀w',((Jv (AP c.tm x)&&Jv (AP c.tm y))=aC->H.on w')->(execOp a.eval o).run P w'=.ok (.value v) w':=by
 unfold aac at h;split at h
 ·rename_i r hr
  obtain ⟨p,v,h1,h2,h3,h4⟩:=anj (t:=t) hC hd hr h;refine ⟨p,v,h1,h2,h3,fun w' _=>?_⟩;have:=h4 w';simp only[execOp,ho];simp only[gK] at this ⊢;rw[this];rfl
 split at h
 ·rename_i r hr
  unfold akc at hr;split at hr
  ·split at hr
   ·rename_i l l' h1 h2
    cases hr;obtain ⟨h3,hφ⟩:=h;rw[hC.A] at h3 hφ;have ex:=NJ h1 (Ap (H:=H) (E:=E) hd x);have ey:=NJ h2 (Ap (H:=H) (E:=E) hd y);have h3:l.length+l'.length<=9223372036854775807:=of_decide_eq_true h3;refine ⟨_,.string ⟨(l++l').toArray⟩,hφ,rfl,.str _,fun w' _=>?_⟩;have:=aek (P:=P) l l' h3 t x y w';simp only[execOp,ho,ex,ey];simp only[gK] at this ⊢;rw[this];rfl
   ·cases hr
  ·cases hr
 split at h
 ·rename_i r hr
  unfold acV at hr;split at hr
  ·rename_i i hi
   split at hr
   ·rename_i e hty
    have ht:=(hC.ty _ _ hi).desc;rw[hty] at ht;have ht:P.underlying t=ak (.slice e):=ht;cases hn:Xx y<;>simp only[hn,cond_true,cond_false] at hr
    ·cases hr
    have ey:a.eval y=.slice aK 0 0:=by
     unfold Xx at hn;split at hn
     ·rfl
     ·cases hn
    split at hr
    ·rename_i va vb hva hvb
     have dx:=Ap (H:=H) (E:=E) hd x;have fin:∀(r:Bool) (sv:SV) (A:Option Addr) (n k:Nat),a.eval x=.slice A n k->A.isNone=r->Dj op r=ak sv->φ (sv,c)->∃(p:SV×Core) (v:Value),φ p/\p.2=c/\Den H E p.1 v/\∀w',((Jv (AP c.tm x)&&Jv (AP c.tm y))=aC->H.on w')->(execOp a.eval o).run P w'=.ok (.value v) w':=by
      intro r sv A n k ex hA hop hφ;have hgd:eqGuard op t x y (.slice A n k) (.slice aK 0 0)=pure ():=by
       simp_all [eqGuard]
      have he1:binOp .eql t (.slice A n k) (.slice aK 0 0)=(do pure (.bool (<-fU t (.slice A n k) (.slice aK 0 0)))):=rfl;have he2:binOp .neq t (.slice A n k) (.slice aK 0 0)=(do pure (.bool (!(<-fU t (.slice A n k) (.slice aK 0 0))))):=rfl;obtain ⟨rv,h1,h2⟩:=DJ (H:=H) (E:=E) hop hgd he1 he2 fun w=>by rw[<-hA];exact als ht A n k w
      refine ⟨_,rv,hφ,rfl,h1,fun w' _=>?_⟩;simp_all [execOp]
     split at hr
     ·rename_i hx
      cases hr;rw[hx] at dx;exact fin aC _ aK 0 0 dx rfl hva h
     ·split at hr
      ·rename_i n hn2
       cases hr;obtain ⟨A,k,ex,hA⟩:=ait hh hn2 dx;cases hb:C.A.Z8 n 0 with
       |true=>
        obtain ⟨h1,h2⟩:=h.1 hb;cases hx:A.isNone with
        |true=>exact fin aC _ A n k ex hx hva h1 |false=>exact fin ay _ A n k ex hx hvb h2
       |false=>
        rw[hC.A] at hb;exact fin ay _ A n k ex (hA (by grind [zG,Nat.pos_iff_ne_zero])) hvb (h.2 (by rw[hC.A];exact hb))
      ·cases hr
    ·cases hr
   ·cases hr
  ·cases hr
 ·refine anf hC hg ho hd ?_
  assumption
theorem V8{call:Nat->List SV->Core->Tree (SV×Core)}{c:Core}{a:Act}{o:Oper}{φ:SV×Core->Prop}(hC:Az P C)(hd:zO H E c.tm a.tmps.toList)(hh:zU K H E w c.hp)(hg:BU C.gls H)
  (hq:Ce o.op=aC) (h:(PO C call c o).All φ):VQ P H E w c a o φ:=by
 unfold PO at h;split at h;case h_1 x ho=>exact (ZH (.inl ho) hd h).q
 case h_2 x ho=>exact (ZH (.inr ho) hd h).q
 case h_3 x y z ho=>exact (akh hC.A ho hd h).q
 case h_6 t parts ho=>exact (afK hC ho hd h).q
 case h_8 t x ho=>grind [aru]
 case h_10 x ho=>exact (anc ho hd h).q
 case h_11 op t x y t2 ho=>exact let ⟨p,v,h1,h2,h3,h4⟩:=aap hC hg ho hd hh h;⟨p,v,h1,h2,h3,fun w' _ hon=>h4 w' fun _=>hon⟩
 case h_12 t x ho=>exact (ana hC.A ho hd h).q
 case h_13 t x ho=>exact (anb hC.A ho hd h).q
 case h_14 t x f ho=>exact (VU hC ho hd h).q
 case h_15 t x f ho=>exact (afD hC ho hd h).q
 case h_16 t x i ho=>exact (VX hC ho hd hh hg h).q
 case h_17 x i ho=>exact (aaj ho hd h).q
 case h_18 f fs cs ho=>exact (YD ho hd h).q
 case h_19 t x ho=>exact (OW hC ho hd h).q
 case h_23 t m k ok ho=>grind [alr]
 case h_28 k ho=>
  rw[ho] at hq;unfold S9 at h;split at h
  ·rename_i b hb
   obtain ⟨callee,xs,ts⟩:=k;simp only at hb;subst hb;simp only at h;split at h
   ·rename_i x t h1 h2
    split at h
    ·rename_i i hi
     cases hf:OQ i.ty (AP c.tm x)<;>simp only[hf,cond_true,cond_false] at h
     ·exact h.elim
     have e1:xs=#[x]:=by grind
     have e2:ts=#[t]:=by grind
     subst e1 e2;exact (q_len hC hd hh ho hi hf h).q
    ·exact h.elim
   ·simp[Ce] at hq
   ·simp[Ce] at hq
   ·rename_i x y h1
    have e1:xs=#[x,y]:=by grind
    subst e1;exact (aej (mx:=aC) hC hd ho h).q
   ·rename_i x y h1
    have e1:xs=#[x,y]:=by grind
    subst e1;exact (aej (mx:=ay) hC hd ho h).q
   ·exact h.elim
  ·rename_i f hb
   obtain ⟨callee,xs,ts⟩:=k;simp_all [Ce]
  ·exact h.elim
 case h_30 t x i ho=>exact (afC hC ho hd h).q
 case h_31=>exact h.elim
 all_goals simp_all [Ce]
theorem afM{call:Nat->List SV->Core->Tree (SV×Core)}{c:Core}{a:Act}{o:Oper}{φ:SV×Core->Prop}(hC:Az P C)(hd:zO H E c.tm a.tmps.toList)(hh:zU K H E w c.hp)(hg:BU C.gls H)
  (hq:Lh c.tm o.op=aC) (h:(PO C call c o).All φ):QP P H E c a o φ:=by
 unfold PO at h;split at h;case h_1 x ho=>simp_all [ZH]
 case h_2 x ho=>simp_all [ZH]
 case h_3 x y z ho=>exact akh hC.A ho hd h
 case h_6 t parts ho=>grind [afK]
 case h_10 x ho=>exact anc ho hd h
 case h_11 op t x y t2 ho=>
  rw[ho] at hq;exact let ⟨p,v,h1,h2,h3,h4⟩:=aap hC hg ho hd hh h;⟨p,v,h1,h2,h3,fun w'=>h4 w' fun e=>by grind [Lh]⟩
 case h_12 t x ho=>exact ana hC.A ho hd h
 case h_13 t x ho=>exact anb hC.A ho hd h
 case h_14 t x f ho=>grind [VU]
 case h_15 t x f ho=>grind [afD]
 case h_16 t x i ho=>grind [VX]
 case h_17 x i ho=>exact aaj ho hd h
 case h_18 f fs cs ho=>exact YD ho hd h
 case h_19 t x ho=>grind [OW]
 case h_28 k ho=>
  rw[ho] at hq;unfold S9 at h;split at h
  ·rename_i b hb
   obtain ⟨callee,xs,ts⟩:=k;simp only at hb;subst hb;simp only at h;split at h
   ·rename_i x t h1 h2
    split at h
    ·rename_i i hi
     cases hf:OQ i.ty (AP c.tm x)<;>simp only[hf,cond_true,cond_false] at h
     ·exact h.elim
     have e1:xs=#[x]:=by grind
     have e2:ts=#[t]:=by grind
     subst e1 e2;exact q_len hC hd hh ho hi hf h
    ·exact h.elim
   ·simp[Lh,Ce] at hq
   ·simp[Lh,Ce] at hq
   ·rename_i x y h1
    have e1:xs=#[x,y]:=by grind
    grind [aej]
   ·rename_i x y h1
    have e1:xs=#[x,y]:=by grind
    grind [aej]
   ·exact h.elim
  ·rename_i f hb
   obtain ⟨callee,xs,ts⟩:=k;simp_all [Lh,Ce]
  ·exact h.elim
 case h_30 t x i ho=>exact afC hC ho hd h
 case h_31=>exact h.elim
 all_goals simp_all [Lh,Ce]
mutual
theorem ac3:∀{x:SV} {v:Value},Den H E x v->Den H E x.hard v
 | .agg l,_,h=>by obtain ⟨vs,e,h⟩:=h;exact ⟨vs,e,UF h⟩ | .zQ l,_,h=>by obtain ⟨vs,e,h⟩:=h;exact ⟨vs,e,UF h⟩ | .any,_,h| .val _,_,h| .int _ _,_,h| .sym _ _,_,h| .bool _,_,h| .test _,_,h| .str _,_,h| .ptr _ _,_,h| .gs _,_,h| .gp _ _ _ _,_,h| .Ei,_,h| .zY,_,h| .FM,_,h| .CS,_,h| .EU,_,h| .fn _ _,_,h| .BM _ _,_,h| .mp _,_,h| .sh _,_,h| .Gh _ _ _ _ _,_,h| .glob _,_,h| .ev _,_,h| .vw _ _,_,h=>h
theorem UF:∀{l:List SV} {vs:List Value},zO H E l vs->zO H E (ad8 l) vs
 |[],[],_=>trivial |_::_,_::_,h=>⟨ac3 h.1,UF h.2⟩ |[],_::_,h=>h.elim |_::_,[],h=>h.elim
end
theorem Tree.Iw{α β:Type}{φ:β->Prop}{k:α->Tree β}:∀{t:Tree α},(t.bind k).All φ->t.All fun a=>(k a).All φ
 | .leaf _,h=>h | .node _ _ _,h=>⟨fun e=>Tree.Iw (h.1 e),fun e=>Tree.Iw (h.2 e)⟩ | .need _ _,h=>⟨h.1,Tree.Iw h.2⟩ | .must _ _,h=>⟨h.1,Tree.Iw h.2⟩ | .both _ _,h=>⟨Tree.Iw h.1,Tree.Iw h.2⟩ | .fail,h=>h.elim
theorem UG{call:Nat->List SV->Core->Tree (SV×Core)}{c:Core}{o:Oper}{φ:SV×Core->Prop}(h:(exec C call c o).All φ):∃ψ:SV×Core->Prop,(PO C call c o).All ψ/\∀p,ψ p->∃x,φ (x,p.2)/\∀(H:Mem) (E:Env) (v:Value),Den H E p.1 v->Den H E x v:=by
 unfold exec at h;cases hl:C.lits<;>simp only[hl,cond_true,cond_false] at h
 ·grind
 ·exact ⟨_,Tree.Iw h,fun p hp=>⟨p.1.hard,hp,fun _ _ _ e=>ac3 e⟩⟩
theorem afN{call:Nat->List SV->Core->Tree (SV×Core)}{c:Core}{a:Act}{o:Oper}{φ:SV×Core->Prop}(hC:Az P C)(hd:zO H E c.tm a.tmps.toList)(hh:zU K H E w c.hp)(hg:BU C.gls H)
  (hq:Ce o.op=aC) (h:(exec C call c o).All φ):VQ P H E w c a o φ:=by
 obtain ⟨ψ,h,hψ⟩:=UG h;obtain ⟨p,v,h1,h2,h3,h4⟩:=V8 hC hd hh hg hq h;obtain ⟨x,q1,q2⟩:=hψ p h1;exact ⟨(x,p.2),v,q1,h2,q2 _ _ _ h3,h4⟩
theorem aiu{call:Nat->List SV->Core->Tree (SV×Core)}{c:Core}{a:Act}{o:Oper}{φ:SV×Core->Prop}(hC:Az P C)(hd:zO H E c.tm a.tmps.toList)(hh:zU K H E w c.hp)(hg:BU C.gls H)
  (hq:Lh c.tm o.op=aC) (h:(exec C call c o).All φ):QP P H E c a o φ:=by
 obtain ⟨ψ,h,hψ⟩:=UG h;obtain ⟨p,v,h1,h2,h3,h4⟩:=afM hC hd hh hg hq h;obtain ⟨x,q1,q2⟩:=hψ p h1;exact ⟨(x,p.2),v,q1,h2,q2 _ _ _ h3,h4⟩
end
open Go.RowKit (Below)
def bk(E:Env)(id:Nat):Option Nat:=(E id).bind zT
def Free(E:Env)(c:Core):Prop:=∀i,c.nx<=i->i<c.lim->E i=aK
structure Post(K:Kx)(H:Mem)(E:Env)(w:World)(c:Core)(H':Mem)(E':Env)(w':World)(c':Core):Prop where
 H7:H.le H'
 Ll:E.le E'
 new:∀i,E i=aK->E' i≠aK->c.nx<=i/\i<c'.nx
 nx:c.nx<=c'.nx
 lim:c'.nx<=c.lim\/c'.nx=c.nx
 afO:c'.lim=c.lim
 tm:c'.tm=c.tm
 hp:zU K H' E' w' c'.hp
 Bg:Du K H' w'
 tc:∀id∈c.tc,id∈c'.tc
 size:w.heap.size<=w'.heap.size
 fr:∀b,b<w.heap.size->(∀id∈c'.tc,bk E id≠ak b)->w'.heap[b]?=w.heap[b]?
 NK:∀i b,E i=aK->bk E' i=ak b->w.heap.size<=b\/∃id∈c'.tc,bk E id=ak b
 Zr:∀id∈c'.tc,id∈c.tc\/E id=aK\/∃sb,zI c.hp id=ak sb/\Ag E id sb=bk E id
 keep:∀id sb b,zI c.hp id=ak sb->id ∉ c'.tc->Ag E id sb=ak b->H' b≠aK\/∃sb',zI c'.hp id=ak sb'/\Ag E' id sb'=ak b
 old:∀id sb,zI c'.hp id=ak sb->E id≠aK->∃sb0,zI c.hp id=ak sb0/\∀b,Ag E' id sb=ak b->Ag E id sb0=ak b
section
variable{P:Program}{C:Ctx}{K:Kx}{H H':Mem}{E E':Env}{w w':World}
theorem Fh{elem st n:Nat}{v:Value}{xs:List Value}(h:w.ownsRow 0 elem st v n xs)(hk:∀b,zT v=ak b->w'.heap[b]?=w.heap[b]?):w'.ownsRow 0 elem st v n xs:=by
 refine ⟨h.1,?_⟩;rcases h.2 with h2|⟨g,cap,cur,rfl,h3,h4,h5⟩
 ·exact .inl h2
 ·exact .inr ⟨g,cap,cur,rfl,h3,by rw[hk g rfl];exact h4,h5⟩
theorem NH.le(hH:H.le H')(hE:E.le E'):∀{es:List (SV×SV)} {ms:List MapEntry},NH H E es ms->NH H' E' es ms
 |[],[],_=>trivial |(_,_)::_,_::_,⟨a,b,c⟩=>⟨a.le hH hE,b.le hH hE,NH.le hH hE c⟩ |[],_::_,h=>h.elim |_::_,[],h=>h.elim
theorem FD.le(hH:H.le H')(hE:E.le E'):∀{l:List (Int×Bool×SV)} {v:List (Int×Option Value)},FD H E l v->FD H' E' l v
 |[],[],_=>trivial |(_,aC,_)::_,(_,ak _)::_,⟨a,b,c⟩=>⟨a,⟨b.1.le hH hE,b.2⟩,FD.le hH hE c⟩ |(_,ay,_)::_,(_,aK)::_,⟨a,_,c⟩=>⟨a,trivial,FD.le hH hE c⟩ |(_,aC,_)::_,(_,aK)::_,h=>h.2.1.elim |(_,ay,_)::_,(_,ak _)::_,h=>h.2.1.elim |[],_::_,h=>h.elim |_::_,[],h=>h.elim
theorem VO.le(hH:H.le H')(hE:E.le E'):∀{l:List (CZ×Bool×SV)} {v:List (CZ×Option Value)},VO H E l v->VO H' E' l v
 |[],[],_=>trivial |(_,aC,_)::_,(_,ak _)::_,⟨a,b,c⟩=>⟨a,⟨b.1.le hH hE,b.2⟩,VO.le hH hE c⟩ |(_,ay,_)::_,(_,aK)::_,⟨a,_,c⟩=>⟨a,trivial,VO.le hH hE c⟩ |(_,aC,_)::_,(_,aK)::_,h=>h.2.1.elim |(_,ay,_)::_,(_,ak _)::_,h=>h.2.1.elim |[],_::_,h=>h.elim |_::_,[],h=>h.elim
theorem aeg.le(hE:E.le E'){k:IntKind}{ms:List MapEntry}{t:Option (Nat×Int)}(h:aeg E k ms t):aeg E' k ms t:=by
 cases t with
 |none=>trivial |some p=>obtain ⟨m,a,b,c⟩:=h;exact ⟨m,a,b,hE _ _ c⟩
theorem acy{e:Nat}{v:Value}{l:List UInt8}(h:FN w e v l)(hk:∀b,zT v=ak b->w'.heap[b]?=w.heap[b]?):FN w' e v l:=by
 rcases h with h|⟨g,cap,cur,fz,rfl,h1,h2⟩
 ·exact .inl h
 ·exact .inr ⟨g,cap,cur,fz,rfl,by rw[hk g rfl];exact h1,h2⟩
theorem afP{e b:Nat}{v:Value}{l:List UInt8}(h:FN w e v l)(hb:zT v=ak b):b<w.heap.size:=by
 rcases h with ⟨rfl,_⟩ |⟨g,cap,cur,fz,rfl,h1,h2⟩
 ·simp[zT] at hb
 grind [zT,bK]
theorem FH.kept{id:Nat}{sb:SB}(h:FH K H E w id sb)(hH:H.le H')(hE:E.le E')(hb:∀b,Ag E id sb=ak b->w'.heap[b]?=w.heap[b]?)(hm:∀b,Ag E id sb=ak b->H' b=aK):FH K H' E' w' id sb:=by
 cases sb with
 |box cells elem=>
  obtain ⟨b,cs,he,h1,h2,h3⟩:=h;have ho:Ag E id (.box cells elem)=ak b:=by simp[Ag,he,zT]
  exact ⟨b,cs,hE _ _ he,by simp_all,h2.le hH hE,hm b ho,h3.2⟩
 |row cells elem st n=>
  obtain ⟨v,xs,he,h1,h2,h3⟩:=h;have ho:∀b,zT v=ak b->Ag E id (.row cells elem st n)=ak b:=fun b hv=>by simp[Ag,he,hv]
  exact ⟨v,xs,hE _ _ he,Fh h1 fun b hv=>hb b (ho b hv),h2.le hH hE,fun b hv=>⟨hm b (ho b hv),(h3 b hv).2⟩⟩
 |own elem st n g=>
  obtain ⟨v,xs,he,h1,h2,h3⟩:=h;have ho:∀b,zT v=ak b->Ag E id (.own elem st n g)=ak b:=fun b hv=>by simp[Ag,he,hv]
  exact ⟨v,xs,hE _ _ he,Fh h1 fun b hv=>hb b (ho b hv),h2.le hH,fun b hv=>⟨hm b (ho b hv),(h3 b hv).2⟩⟩
 |fz st n g=>
  obtain ⟨v,he,h1⟩:=h;exact ⟨v,hE _ _ he,h1.le hH⟩
 |map es=>
  obtain ⟨b,ms,clk,he,h1,h2,h3⟩:=h;have ho:Ag E id (.map es)=ak b:=by simp[Ag,he,zT]
  exact ⟨b,ms,clk,hE _ _ he,by simp_all,h2.le hH hE,hm b ho,h3.2⟩
 |QN l=>
  obtain ⟨v,he,h1⟩:=h;exact ⟨v,hE _ _ he,h1.le hH⟩
 |FY elem st n g more=>
  obtain ⟨v,xs,ys,he,h1,h2,h3,h4,h5,h6⟩:=h;have ho:∀b,zT v=ak b->Ag E id (.FY elem st n g more)=ak b:=fun b hv=>by simp[Ag,he,hv]
  exact ⟨v,xs,ys,hE _ _ he,Fh h1 fun b hv=>hb b (ho b hv),h2.le hH,h3.le hH hE,h4,h5,fun b hv=>⟨hm b (ho b hv),(h6 b hv).2⟩⟩
 |fm k M fs us tag=>
  obtain ⟨b,ms,clk,fv,uv,he,h1,h2,h3,h4,h5,h6,h7⟩:=h;have ho:Ag E id (.fm k M fs us tag)=ak b:=by simp[Ag,he,zT]
  exact ⟨b,ms,clk,fv,uv,hE _ _ he,by simp_all,h2.le hH hE,h3.le hH hE,h4,h5,h6.le hE,hm b ho,h7.2⟩
 |pm vt M us=>
  obtain ⟨b,ms,clk,uv,he,h1,h2,h3,h4,h5,h7⟩:=h;have ho:Ag E id (.pm vt M us)=ak b:=by simp[Ag,he,zT]
  exact ⟨b,ms,clk,uv,hE _ _ he,by simp_all,h2.le hH hE,h3,h4,h5,hm b ho,h7.2⟩
 |buf e l=>
  obtain ⟨v,he,h1,h3⟩:=h;have ho:∀b,zT v=ak b->Ag E id (.buf e l)=ak b:=fun b hv=>by simp[Ag,he,hv]
  exact ⟨v,hE _ _ he,acy h1 fun b hv=>hb b (ho b hv),fun b hv=>⟨hm b (ho b hv),(h3 b hv).2⟩⟩
theorem FH.lt{id:Nat}{sb:SB}(h:FH K H E w id sb){b:Nat}(hb:Ag E id sb=ak b):b<w.heap.size/\Mine K H b:=by
 have lt:∀{b:Nat} {o:Obj},w.heap[b]?=ak o->b<w.heap.size:=fun h=>(bK.1 h).1;have lto:∀{elem st n:Nat} {v:Value} {xs:List Value},w.ownsRow 0 elem st v n xs->zT v=ak b->b<w.heap.size:=by
  intro elem st n v xs h hv;rcases h.2 with ⟨rfl,_⟩ |⟨g,_,_,rfl,_,h4,_⟩
  ·simp[zT] at hv
  ·simp[zT] at hv;subst hv;exact lt h4
 cases sb with
 |box cells elem=>
  obtain ⟨b',cs,he,h1,h2,h3⟩:=h;simp_all [Ag,zT]
 |row cells elem st n=>
  obtain ⟨v,xs,he,h1,h2,h3⟩:=h;grind [Ag]
 |own elem st n g=>
  obtain ⟨v,xs,he,h1,h2,h3⟩:=h;grind [Ag]
 |fz st n g=>simp[Ag] at hb |map es=>
  obtain ⟨b',ms,clk,he,h1,h2,h3⟩:=h;simp_all [Ag,zT]
 |QN l=>simp[Ag] at hb |FY elem st n g more=>
  obtain ⟨v,xs,ys,he,h1,h2,h3,h4,h5,h6⟩:=h;grind [Ag]
 |fm k M fs us tag=>
  obtain ⟨b',ms,clk,fv,uv,he,h1,h2,h3,h4,h5,h6,h7⟩:=h;simp_all [Ag,zT]
 |pm vt M us=>
  obtain ⟨b',ms,clk,uv,he,h1,h2,h3,h4,h5,h7⟩:=h;simp_all [Ag,zT]
 |buf e l=>
  obtain ⟨v,he,h1,h3⟩:=h;simp[Ag,he] at hb;exact ⟨afP h1 hb,h3 b hb⟩
theorem FI{id b:Nat}{sb:SB}(h:Ag E id sb=ak b):bk E id=ak b:=by
 cases sb<;>simp[Ag] at h<;>simpa[bk] using h
theorem ZJ{id b:Nat}{sb:SB}(h:Ag E id sb=ak b)(hE:E.le E'):Ag E' id sb=ak b:=by
 have key:(E id).bind zT=ak b->(E' id).bind zT=ak b:=fun h=>by
  cases he:E id with
  |none=>grind |some v=>rw[hE _ _ he];simp_all
 (cases sb<;>simp only[Ag] at h ⊢)<;>simp_all
theorem FH.some_{id:Nat}{sb:SB}(h:FH K H E w id sb):∃v,E id=ak v:=by
 cases sb with
 |box _ _=>obtain ⟨b,_,he,_⟩:=h;simp_all |row _ _ _ _=>obtain ⟨v,_,he,_⟩:=h;simp_all |own _ _ _ _=>obtain ⟨v,_,he,_⟩:=h;simp_all |fz _ _ _=>obtain ⟨v,he,_⟩:=h;simp_all |map _=>obtain ⟨b,_,_,he,_⟩:=h;simp_all |QN _=>obtain ⟨v,he,_⟩:=h;simp_all |FY _ _ _ _ _=>obtain ⟨v,_,_,he,_⟩:=h;simp_all |fm _ _ _ _ _=>obtain ⟨b,_,_,_,_,he,_⟩:=h;simp_all |pm _ _ _=>obtain ⟨b,_,_,_,he,_⟩:=h;simp_all |buf _ _=>obtain ⟨v,he,_⟩:=h;simp_all
theorem FK{id:Nat}{sb:SB}(h:FH K H E w id sb)(hE:E.le E'):Ag E' id sb=Ag E id sb:=by
 obtain ⟨v,he⟩:=h.some_;have he':=hE _ _ he;simp_all [Ag]
theorem D5{α:Type}:∀(l:List (Nat×α)) (i j:Nat) (y:α),zI (hset l i y) j=bif i==j then (zI l i).map (fun _=>y) else zI l j
 |[],i,j,y=>by simp_all [hset,zI] |(k,x)::l,i,j,y=>by
  have ih:=D5 l i j y;unfold hset;grind [zI]
theorem Ec{α:Type}:∀(l:List (Nat×α)) (i j:Nat) (y:α),zI (hins l i y) j=bif i==j then ak y else zI l j
 |[],i,j,y=>by rfl |(k,x)::l,i,j,y=>by
  have ih:=Ec l i j y;unfold hins;cases hk:fF k i<;>simp only[cond_true,cond_false]
  ·rfl
  ·simp only[zI,ih]
   cases hkj:(k==j)<;>cases hij:(i==j)<;>simp
   simp_all
theorem UH{α:Type}:∀(l:List (Nat×α)) (i j:Nat),zI (hdel l i) j=bif i==j then aK else zI l j
 |[],i,j=>by simp_all [hdel,zI] |(k,x)::l,i,j=>by
  have ih:=UH l i j;unfold hdel;grind [zI]
def Env.set(E:Env)(i:Nat)(v:Value):Env:=fun j=>if j=i then ak v else E j
theorem Env.ael{i:Nat}{v:Value}(h:E i=aK):E.le (E.set i v):=fun j u hj=>by
 grind [Env.set]
theorem Env.set_self(E:Env)(i:Nat)(v:Value):E.set i v i=ak v:=by simp[Env.set]
theorem G9(w:World)(o:Obj):(w.alloc o).heap[w.heap.size]?=ak o:=heap_alloc_new w o
theorem size_alloc(w:World)(o:Obj):(w.alloc o).heap.size=w.heap.size+1:=by simp
theorem Du.alloc(h:Du K H w)(o:Obj):Du K H (w.alloc o):=
 ⟨h.os,h.tape,h.output,by rw[size_alloc];have:=h.size;omega,fun b hb hn=>by rw[jU w o b (by have:=h.size;omega)];exact h.kept b hb hn,
  fun b o' hb=>by
   have:=h.on b o' hb;grind [jU,bK],h.le,h.fresh⟩
theorem ank(h:Du K H w):H w.heap.size=aK:=by
 cases hb:H w.heap.size with
 |none=>rfl |some o=>have:=(bK.1 (h.on _ _ hb)).1;omega
theorem IY(h:Du K H w):Mine K H w.heap.size:=⟨ank h,.inl h.size⟩
theorem F5{c:Core}{sb:SB}{sv:SV}{φ:SV×Core->Prop}{o:Obj}{v:Value}(hh:zU K H E w c.hp)(hw:Du K H w)(hf:Free E c)
  (h:(alloc c sb sv).All φ) (hv:zT v=ak w.heap.size) (he:FH K H (E.set c.nx v) (w.alloc o) c.nx sb) :
  ∃c',φ (sv,c')/\Post K H E w c H (E.set c.nx v) (w.alloc o) c':=by
 unfold alloc at h;cases hb:fF c.nx c.lim<;>simp only[hb,cond_true,cond_false] at h
 ·exact h.elim
 have hlt:=JD hb;have hnone:=hf c.nx (bV _) hlt;have hle:E.le (E.set c.nx v):=Env.ael hnone;refine ⟨_,h,fun _ _ e=>e,hle,?_,by simp,.inl (by simp;omega),rfl,rfl,?_,hw.alloc o,fun _ h=>h,by simp,fun b hb _=>jU w o b hb,?_,?_,?_,?_⟩
 ·simp_all [Env.set]
 ·refine ⟨fun id sb' hl=>?_,fun id id' sb1 V9 b h1 h2 o1 o2=>?_⟩
  ·rw[Ec] at hl
   cases hid:(c.nx==id)<;>simp only[hid,cond_true,cond_false] at hl
   ·have hent:=hh.ent id sb' hl
    exact hent.kept (fun _ _ e=>e) hle (fun b hb=>jU w o b (hent.lt hb).1) (fun b hb=>(hent.lt hb).2.1)
   simp_all
  ·rw[Ec] at h1 h2
   cases hid:(c.nx==id)<;>cases afQ:(c.nx==id')<;>simp only[hid,afQ,cond_true,cond_false] at h1 h2
   ·rw[FK (hh.ent _ _ h1) hle] at o1
    rw[FK (hh.ent _ _ h2) hle] at o2;exact hh.Fg _ _ _ _ _ h1 h2 o1 o2
   ·obtain rfl:c.nx=id':=by simp_all
    rw[FK (hh.ent _ _ h1) hle] at o1;have e2:=FI o2;simp[bk,Env.set,hv] at e2;have:=((hh.ent _ _ h1).lt o1).1;omega
   ·obtain rfl:c.nx=id:=by grind
    rw[FK (hh.ent _ _ h2) hle] at o2;have e1:=FI o1;simp[bk,Env.set,hv] at e1;have:=((hh.ent _ _ h2).lt o2).1;omega
   simp_all
 ·grind [bk,Env.set]
 ·simp_all
 ·intro id sb' b hl _ ho
  refine .inr ⟨sb',?_,ZJ ho hle⟩;simp only[Ec];cases hid:(c.nx==id)<;>simp only[cond_true,cond_false]
  ·exact hl
  ·obtain rfl:c.nx=id:=by grind
   obtain ⟨u,hu⟩:=(hh.ent _ _ hl).some_;simp_all
 ·intro id sb' hl hne
  simp only[Ec] at hl;cases hid:(c.nx==id)<;>simp only[hid,cond_true,cond_false] at hl
  ·exact ⟨sb',hl,fun b ho=>by rw[FK (hh.ent _ _ hl) hle] at ho;exact ho⟩
  simp_all
def Gt(P:Program)(K:Kx)(H:Mem)(E:Env)(w:World)(c:Core)(a:Act)(o:Oper)(φ:SV×Core->Prop):Prop:=
 ∃(p:SV×Core) (v:Value) (r:Next) (H':Mem) (E':Env) (w':World),φ p/\Den H' E' p.1 v/\Post K H E w c H' E' w' p.2/\(r=.value v\/(r=.skip/\v=undef))/\(execOp a.eval o).run P w=.ok r w'
theorem Post.refl{c:Core}(hh:zU K H E w c.hp)(hw:Du K H w):Post K H E w c H E w c:=
 ⟨fun _ _ e=>e,fun _ _ e=>e,fun _ h1 h2=>(h2 h1).elim,bV _,.inr rfl,rfl,rfl,hh,hw,fun _ h=>h,bV _,fun _ _ _=>rfl,fun i b h1 h2=>by grind [bk],fun _ h=>.inl h,fun id sb b h1 _ h3=>.inr ⟨sb,h1,h3⟩,fun id sb h _=>⟨sb,h,fun _ h=>h⟩⟩
theorem VQ.toW{c:Core}{a:Act}{o:Oper}{φ:SV×Core->Prop}(h:VQ P H E w c a o φ)(hh:zU K H E w c.hp)(hw:Du K H w):Gt P K H E w c a o φ:=by
 obtain ⟨p,v,h1,h2,h3,h4⟩:=h;exact ⟨p,v,_,H,E,w,h1,h3,by simp_all [Post.refl],.inl rfl,h4 w (Ux.refl _ _ _ _) hw.on⟩
theorem anl{c:Core}{a:Act}{o:Oper}{e:Nat}{φ:SV×Core->Prop}(hC:Az P C)(hh:zU K H E w c.hp)(hw:Du K H w)(hf:Free E c)
  (ho:o.op=.alloc e) (h:(Un C c e).All φ):Gt P K H E w c a o φ:=by
 unfold Un at h;split at h
 ·rename_i i hi
  obtain ⟨z,h1,h2,h3⟩:=alo (hC.ty _ _ hi) w;have h2':zO H (E.set c.nx (.pointer (ak ⟨w.heap.size,0,aK⟩))) i.zero z.cells.toList:=h2.le (fun _ _ e=>by cases e) (fun _ _ e=>by cases e);obtain ⟨c',hφ,hp⟩:=F5 (o:=.cells z.cells e) (v:=.pointer (ak ⟨w.heap.size,0,aK⟩)) hh hw hf h rfl
   ⟨w.heap.size,z.cells,Env.set_self _ _ _,G9 _ _,h2',IY hw⟩
  refine ⟨_,_,_,H,_,_,hφ,⟨w.heap.size,by simp[Env.set_self,zT],rfl⟩,hp,.inl rfl,?_⟩;simp[execOp,ho,Instr.alloc,h1,newVar,newRow]
 ·exact h.elim
theorem atC{c:Core}{a:Act}{o:Oper}{e:Nat}{x:Operand}{φ:SV×Core->Prop}(hd:zO H E c.tm a.tmps.toList)(hh:zU K H E w c.hp)(hw:Du K H w)(hf:Free E c)
  (ho:o.op=.box e x) (h:(bif (AP c.tm x).okc then alloc c (.box (AP c.tm x).cells e) (.ptr c.nx 0) else .fail).All φ):Gt P K H E w c a o φ:=by
 cases hk:(AP c.tm x).okc<;>simp only[hk,cond_true,cond_false] at h
 ·exact h.elim
 have hx:=Oi hk (Ap (H:=H) (E:=E) hd x);have hx':c.nx<c.lim->zO H (E.set c.nx (.pointer (ak ⟨w.heap.size,0,aK⟩))) (AP c.tm x).cells (a.eval x).cells.toList:=fun hl=>hx.le (fun _ _ e=>e) (Env.ael (hf _ (bV _) hl));have hl:c.nx<c.lim:=by
  unfold alloc at h;cases hb:fF c.nx c.lim<;>simp only[hb,cond_true,cond_false] at h
  ·exact h.elim
  simp_all
 obtain ⟨c',hφ,hp⟩:=F5 (o:=.cells (a.eval x).cells e) (v:=.pointer (ak ⟨w.heap.size,0,aK⟩)) hh hw hf h rfl
  ⟨w.heap.size,_,Env.set_self _ _ _,G9 _ _,hx' hl,IY hw⟩
 refine ⟨_,_,_,H,_,_,hφ,⟨w.heap.size,by simp[Env.set_self,zT],rfl⟩,hp,.inl rfl,?_⟩;simp[execOp,ho,Instr.box,newVar,newRow]
theorem Wh{H:Mem}{E:Env}:∀l:List Int,FD H E (afw l) (l.map fun n=>(n,aK))
 |[]=>trivial |_::l=>⟨rfl,trivial,Wh l⟩
theorem aiv{c:Core}{a:Act}{o:Oper}{t:Nat}{φ:SV×Core->Prop}(hh:zU K H E w c.hp)(hw:Du K H w)(hf:Free E c)
  (ho:o.op=.makeMap t aK) (h:(PN C c t).All φ):Gt P K H E w c a o φ:=by
 unfold PN at h;split at h
 ·rename_i k l _
  obtain ⟨c',hφ,hp⟩:=F5 (o:=.map #[] 0) (v:=.map (ak w.heap.size)) hh hw hf h rfl
   ⟨w.heap.size,#[],0,l.map fun n=>(n,aK),[],Env.set_self _ _ _,G9 _ _,Wh l,trivial,fun n o hm=>by
    grind,⟨fun m hm=>by simp at hm,fun n=>rfl,fun i j m m' hm=>by simp at hm,fun i j m m' hm=>by simp at hm,fun m hm=>by simp at hm⟩,trivial,IY hw⟩
  refine ⟨_,_,_,H,_,_,hφ,⟨w.heap.size,Env.set_self _ _ _,rfl⟩,hp,.inl rfl,?_⟩;simp[execOp,ho,oJ]
 ·split at h
  ·rename_i vt _
   obtain ⟨c',hφ,hp⟩:=F5 (o:=.map #[] 0) (v:=.map (ak w.heap.size)) hh hw hf h rfl
    ⟨w.heap.size,#[],0,[],Env.set_self _ _ _,G9 _ _,trivial,(fun _ _ h=>by cases h),(fun _ h=>by cases h),⟨fun m hm=>by simp at hm,fun m hm=>by simp at hm,(fun n v hn=>by cases hn),fun i j m m' hm=>by simp at hm⟩,IY hw⟩
   refine ⟨_,_,_,H,_,_,hφ,⟨w.heap.size,Env.set_self _ _ _,rfl⟩,hp,.inl rfl,?_⟩;simp[execOp,ho,oJ]
  ·obtain ⟨c',hφ,hp⟩:=F5 (o:=.map #[] 0) (v:=.map (ak w.heap.size)) hh hw hf h rfl
    ⟨w.heap.size,#[],0,Env.set_self _ _ _,G9 _ _,trivial,IY hw⟩
   refine ⟨_,_,_,H,_,_,hφ,⟨w.heap.size,Env.set_self _ _ _,rfl⟩,hp,.inl rfl,?_⟩;simp[execOp,ho,oJ]
end
section
variable{P:Program}{C:Ctx}{K:Kx}{H H':Mem}{E E':Env}{w w':World}
theorem zO.Oh:∀{l:List SV} {vs:List Value},vs.length=l.length->(∀(j:Nat) (s:SV) (v:Value),l[j]?=ak s->vs[j]?=ak v->Den H E s v)->zO H E l vs
 |[],[],_,_=>trivial |_::_,_::_,hl,h=>⟨h 0 _ _ rfl rfl,zO.Oh (by grind) fun j s v h1 h2=>h (j+1) s v (by grind) (by grind)⟩ |[],_::_,h,_=>by simp at h |_::_,[],h,_=>by simp at h
theorem aaq:∀(xs z:List SV) (off j:Nat),off+xs.length<=z.length->(setAt z off xs)[j]?=if off<=j/\j<off+xs.length then xs[j - off]? else z[j]?
 |[],z,off,j,_=>by simp[setAt];omega |x::xs,z,off,j,h=>by
  rw[setAt,aaq xs _ (off+1) j (by grind)];grind
theorem YN(cs vs:List Value)(off j:Nat)(h:off+vs.length<=cs.length):(cs.take off++vs++cs.drop (off+vs.length))[j]?=if off<=j/\j<off+vs.length then vs[j - off]? else cs[j]?:=by
 have h1:(cs.take off).length=off:=by grind
 grind
theorem aar(cs vs:List Value)(off:Nat)(h:off+vs.length<=cs.length):(cs.take off++vs++cs.drop (off+vs.length)).length=cs.length:=by
 grind
theorem YO{cells l:List SV}{cs vs:List Value}{off:Nat}(h1:zO H E cells cs)(h2:zO H E l vs)(h:off+l.length<=cells.length):
  zO H E (setAt cells off l) (cs.take off++vs++cs.drop (off+vs.length)):=by
 have e1:=h1.length;have e2:=h2.length;refine zO.Oh (by grind [aar,Ol]) fun j s v hs hv=>?_
 rw[aaq _ _ _ _ h] at hs;rw[YN _ _ _ _ (by omega)] at hv;rw[e2] at hv;split at hs
 ·rw[if_pos (by assumption)] at hv
  exact h2.at_ hs hv
 ·rw[if_neg (by assumption)] at hv
  exact h1.at_ hs hv
theorem Wi(cur vs:List Value)(off m:Nat)(h:off+vs.length<=m)(hm:m<=cur.length):
  (cur.take off++vs++cur.drop (off+vs.length)).take m=(cur.take m).take off++vs++(cur.take m).drop (off+vs.length):=by
 apply List.ext_getElem?;grind
theorem JF{c:Core}{id b:Nat}{sb sb':SB}(hh:zU K H E w c.hp)(hw:Du K H w)(hl:zI c.hp id=ak sb)(hb:Ag E id sb=ak b)
  (hother:∀k,k≠b->w'.heap[k]?=w.heap[k]?) (hsz:w'.heap.size=w.heap.size) (hos:w'.os=w.os) (htape:w'.tape=w.tape) (hout:w'.output=w.output)
  (he:FH K H E w' id sb') (hb':Ag E id sb'=ak b):Post K H E w c H E w' {c with hp:=hset c.hp id sb',tc:=id::c.tc}:=by
 have EP:=((hh.ent _ _ hl).lt hb);refine ⟨fun _ _ e=>e,fun _ _ e=>e,fun _ h1 h2=>(h2 h1).elim,bV _,.inr rfl,rfl,rfl,?_,?_,fun _ h=>dF _ h,by omega,?_,fun i b h1 h2=>by grind [bk],?_,?_,?_⟩
 ·refine ⟨fun id2 V9 hl2=>?_,fun id1 id2 sb1 V9 b0 h1 h2 o1 o2=>?_⟩
  ·rw[D5] at hl2
   cases hid:(id==id2)<;>simp only[hid,cond_true,cond_false] at hl2
   ·have hent:=hh.ent _ _ hl2
    refine hent.kept (fun _ _ e=>e) (fun _ _ e=>e) (fun b0 hb0=>hother b0 fun e=>?_) fun b0 hb0=>(hent.lt hb0).2.1;subst e;have:=hh.Fg _ _ _ _ _ hl hl2 hb hb0;simp_all
   simp_all
  ·have conv:∀{i:Nat} {s:SB},zI (hset c.hp id sb') i=ak s->Ag E i s=ak b0->∃s',zI c.hp i=ak s'/\Ag E i s'=ak b0:=by
    grind [D5]
   obtain ⟨s1,a1,a2⟩:=conv h1 o1;obtain ⟨s2,a3,a4⟩:=conv h2 o2;exact hh.Fg _ _ _ _ _ a1 a3 a2 a4
 ·refine ⟨hos.trans hw.os,htape.trans hw.tape,hout.trans hw.output,by have:=hw.size;omega,fun k hk hn=>?_,fun k o hk=>?_,hw.le,hw.fresh⟩
  ·rw[hother k fun e=>?_]
   ·exact hw.kept k hk hn
   ·subst e
    (rcases EP.2.2 with h|h)<;>grind
  ·rw[hother k fun e=>?_]
   ·exact hw.on k o hk
   ·subst e
    rw[EP.2.1] at hk;cases hk
 ·grind [dK,FI]
 ·grind [FI]
 ·grind [D5]
 grind [D5]
theorem one_cell{x:SV}{u:Value}(h1:x.one=aC)(hd:Den H E x u):u.oneCell'=aC:=by
 cases x;case any=>simp[tK] at h1
 case agg l=>simp[tK] at h1
 case zQ l=>simp[tK] at h1
 case ev=>simp[tK] at h1
 case val v=>obtain ⟨rfl,h⟩:=hd;exact h
 case sh s=>
  have hd:Rep H s u:=hd;cases hd;case agg l vs a1 a2=>assumption
  case zQ l vs a1 a2=>assumption
  case v h=>exact h
  all_goals rfl
 all_goals first
  |(simp only[Den] at hd;subst hd;rfl)
  |(obtain ⟨_,_,rfl⟩:=hd;rfl)
  |(obtain ⟨_,_,_,_,rfl⟩:=hd;rfl)
  |(obtain ⟨_,_,_,_,_,rfl⟩:=hd;rfl)
  |(obtain ⟨_,rfl,_⟩:=hd;rfl)
  |(obtain ⟨_,_,_,rfl,_⟩:=hd;rfl)
theorem Ep:∀{l:List SV} {vs:List Value},EG l=aC->zO H E l vs->∀v∈vs,v.oneCell'=aC
 |[],[],_,_,_,h=>by cases h |x::l,v::vs,h,⟨h1,h2⟩,u,hu=>by
  simp only[EG,aG] at h;cases hu with
  |head=>exact one_cell h.1 h1 |tail _ hu=>exact Ep h.2 h2 u hu
 |[],_::_,_,h,_,_=>h.elim |_::_,[],_,h,_,_=>h.elim
end
section
variable{P:Program}{C:Ctx}{K:Kx}{H H':Mem}{E E':Env}{w w':World}
theorem Rh(t ty e:TypeId)(i:TypeInfo)(z:Value)(size bytes:Nat)(ht:P.underlying t=ak (.slice e))(hi:P.info? e=ak i)(hz:i.zero=ak z)
  (hsize:i.size=size) (hby:i.bytes=bytes) (hzs:z.cells.size=size) (hsz:0<size) (v:Value) (n:Nat) (xs:List Value) (hown:w.ownsRow 0 e size v n xs)
  (a:Addr) (m c:Nat) (news:List Value) (hl:news.length=m*size) (hnews:∀j u,news[j]?=ak u->w.cell? (a.add j)=ak u) (h1:∀u∈news,u.oneCell'=aC)
  (h63:n+m<=maxLen) (hbytes:(n+m)*bytes<=140737488355328) :
  ∃v' w',(eG #[t,t] ty #[v,.slice (ak a) m c]).run P w=.ok v' w'/\w'.ownsRow 0 e size v' (n+m) (xs++news)/\w.grownBy w' (zT v)/\
   ∀b,zT v'=ak b->zT v=ak b\/w.heap.size<=b:=by
 have hsmall:n+m<=9223372036854775807:=by assumption
 rcases hown.2 with ⟨rfl,rfl⟩ |⟨g,cap,cur,rfl,_,hg,hnc,hcm,hcs,htake⟩
 ·obtain ⟨v',w',hr,ho,hgr,_⟩:=run_append_own (P:=P) w w.heap.size t ty e i z size bytes ht hi hz hsize hby hzs hsz (.slice aK 0 0) 0 xs ⟨hown.1,.inl ⟨rfl,rfl⟩⟩ a m c news hl hnews h1 h63 hbytes (bV _)
  refine ⟨v',w',hr,⟨ho.1,?_⟩,hgr,fun b hb=>.inr ?_⟩
  ·(rcases ho.2 with h|⟨g,cap,cur,h2,_,h4⟩)<;>grind
  ·rcases ho.2 with ⟨rfl,_⟩ |⟨g,cap,cur,rfl,hge,h4⟩
   ·simp[zT] at hb
   ·simp[zT] at hb;omega
 ·obtain ⟨v',w',hr,ho,hgr,_⟩:=run_append_own (P:=P) w 0 t ty e i z size bytes ht hi hz hsize hby hzs hsz _ n xs hown a m c news hl hnews h1 h63 hbytes (fK _)
  refine ⟨v',w',hr,ho,hgr,fun b hb=>?_⟩;subst hsize hby
  by_cases hroom:n+m<=cap
  ·have hfit:n*i.size+news.length<=cur.size:=by rw[hl,hcs,<-oQ];exact dG _ hroom
   have hr2:=run_append_room (P:=P) w t ty e i ht hi g n cap cur hg a m c news hl hnews h1 hroom hfit;grind [zT]
  ·have holds:∀j u,xs[j]?=ak u->w.cell? ((⟨g,0,aK⟩:Addr).add j)=ak u:=hown.cells (g:=g) rfl
   have hr2:=run_append_grow (P:=P) w t ty e i z ht hi hz ⟨g,0,aK⟩ n cap xs hown.1 holds a m c news hl hnews (by omega) (by omega) (growslice_fits (by omega) hbytes);grind [zT]
theorem afR(t ty e:TypeId)(i:TypeInfo)(z:Value)(size bytes:Nat)(ht:P.underlying t=ak (.slice e))(hi:P.info? e=ak i)(hz:i.zero=ak z)
  (hsize:i.size=size) (hby:i.bytes=bytes) (hzs:z.cells.size=size) (hsz:0<size) (v:Value) (n:Nat) (xs:List Value) (hown:w.ownsRow 0 e size v n xs)
  (x:Value) (m:Nat) (news:List Value) (hx:(m=0/\∃A c,x=.slice A 0 c)\/(∃a c,x=.slice (ak a) m c/\∀j u,news[j]?=ak u->w.cell? (a.add j)=ak u)) (hl:news.length=m*size) (h1:∀u∈news,u.oneCell'=aC)
  (h63:n+m<=maxLen) (hbytes:(n+m)*bytes<=140737488355328) :
  ∃v' w',(eG #[t,t] ty #[v,x]).run P w=.ok v' w'/\w'.ownsRow 0 e size v' (n+m) (xs++news)/\w.grownBy w' (zT v)/\
   ∀b,zT v'=ak b->zT v=ak b\/w.heap.size<=b:=by
 rcases hx with ⟨rfl,A,c,rfl⟩ |⟨a,c,rfl,hc⟩
 ·have hn:news=[]:=List.eq_nil_of_length_eq_zero (by omega)
  subst hn;cases A with
  |some a=>exact Rh t ty e i z size bytes ht hi hz hsize hby hzs hsz v n xs hown a 0 c [] (by simp) (by simp) (by simp) h63 hbytes |none=>
   have hr:(eG #[t,t] ty #[v,.slice aK 0 c]).run P w=.ok v w:=by
    rcases hown.2 with ⟨rfl,rfl⟩ |⟨g,cap,cur,rfl,_,_,hnc,_⟩
    ·simp[eG,run_underlying ht,sizeOf,typeInfo,hi,nS,iP]
    ·simp[eG,run_underlying ht,sizeOf,typeInfo,hi,nS,iP,hnc,storeCells]
   exact ⟨v,w,hr,by simp_all,⟨rfl,rfl,rfl,bV _,fun _ _ _=>rfl⟩,fun b hb=>.inl hb⟩
 simp_all [Rh]
mutual
theorem LZ{hp:List (Nat×SB)}(hh:zU K H E w hp):∀{x:SV} {s:Sh} {u:Value},Di hp x=ak s->Den H E x u->Rep H s u
 | .int k n,s,u,h,hd=>by simp[Di] at h;subst h;simp only[Den] at hd;subst hd;exact .i k n | .sym k n,s,u,h,hd=>by simp[Di] at h;subst h;simp only[Den] at hd;subst hd;exact .i k n | .bool b,s,u,h,hd=>by simp[Di] at h;subst h;simp only[Den] at hd;subst hd;exact .b b | .test b,s,u,h,hd=>by simp[Di] at h;subst h;simp only[Den] at hd;subst hd;exact .b b | .str l,s,u,h,hd=>by simp[Di] at h;subst h;simp only[Den] at hd;subst hd;exact .str l | .val v,s,u,h,hd=>by simp[Di] at h;subst h;obtain ⟨rfl,h1⟩:=hd;exact .v _ h1 | .Ei,s,u,h,hd=>by simp[Di] at h;subst h;simp only[Den] at hd;subst hd;exact .v _ rfl | .FM,s,u,h,hd=>by simp[Di] at h;subst h;simp only[Den] at hd;subst hd;exact .v _ rfl | .CS,s,u,h,hd=>by simp[Di] at h;subst h;simp only[Den] at hd;subst hd;exact .v _ rfl | .zY,s,u,h,hd=>by simp[Di] at h;subst h;simp only[Den] at hd;subst hd;exact .sl0 _ _ _ _ (fK _) | .sh s',s,u,h,hd=>by simp[Di] at h;subst h;exact hd | .agg l,s,u,h,hd=>by
  simp only[Di,bM] at h;obtain ⟨l',h1,rfl⟩:=h;obtain ⟨vs,rfl,hl⟩:=hd;have hr:=DK hh h1 hl;exact .agg _ _ (by rw[<-dU];exact hr.length) fun j s v e1 e2=>hr.at_ e1 (by grind)
 | .zQ l,s,u,h,hd=>by
  simp only[Di,bM] at h;obtain ⟨l',h1,rfl⟩:=h;obtain ⟨vs,rfl,hl⟩:=hd;have hr:=DK hh h1 hl;exact .zQ _ _ (by rw[<-dU];exact hr.length) fun j s v e1 e2=>hr.at_ e1 (by grind)
 | .fn f l,s,u,h,hd=>by
  simp only[Di,bM] at h;obtain ⟨l',h1,rfl⟩:=h;obtain ⟨vs,rfl,hl⟩:=hd;have hr:=DK hh h1 hl;exact .fn _ _ _ (by rw[<-dU];exact hr.length) fun j s v e1 e2=>hr.at_ e1 (by grind)
 | .BM t x,s,u,h,hd=>by
  simp only[Di,bM] at h;obtain ⟨s',h1,rfl⟩:=h;obtain ⟨v,rfl,hl⟩:=hd;exact .BM _ _ _ (LZ hh h1 hl)
 | .gs id,s,u,h,hd=>by
  simp only[Di] at h;split at h
  ·rename_i st m g hl
   cases h;obtain ⟨v,he,hr⟩:=hh.ent _ _ hl;rw[hd.1] at he;simp_all
  ·cases h
 | .any,s,u,h,hd=>by simp[Di] at h | .ptr id off,s,u,h,hd=>by
  simp only[Di] at h;split at h
  ·rename_i l hl
   cases hb:(off==0)<;>simp only[hb,cond_true,cond_false] at h
   ·cases h
   ·cases h
    obtain rfl:off=0:=by grind
    obtain ⟨v,he,hr⟩:=hh.ent _ _ hl;obtain ⟨b,h1,rfl⟩:=hd;cases hr with
    |pt _ b2 off2 c a1 a2 a3=>
     rw[he] at h1;simp only[eH] at h1;have h02:b2=b/\off2=0:=by
      unfold zT at h1;grind
     obtain ⟨rfl,rfl⟩:=h02;exact .pt _ _ _ c a1 a2 a3
  ·cases h
 | .gp _ _ _ _,s,u,h,hd=>by simp[Di] at h | .EU,s,u,h,hd=>by simp[Di] at h | .mp _,s,u,h,hd=>by simp[Di] at h | .Gh st n g i off,s,u,h,hd=>by
  simp only[Di] at h;cases hb:(off==0&&(g i).length==st)<;>simp only[hb,cond_true,cond_false] at h
  ·cases h
  ·cases h
   simp only[aG,beq_iff_eq] at hb;obtain ⟨rfl,h1⟩:=hb;obtain ⟨b,o,c,rfl,_,h3,h4,h5⟩:=hd;exact .pt _ _ _ c (fun j hj=>(h4 j (by omega)).1) (fun j hj=>(h4 j (by omega)).2) h5
 | .glob _,s,u,h,hd=>by simp[Di] at h | .ev _,s,u,h,hd=>by simp[Di] at h | .vw _ _,s,u,h,hd=>by simp[Di] at h
theorem DK{hp:List (Nat×SB)}(hh:zU K H E w hp):∀{l:List SV} {l':List Sh} {vs:List Value},G8 hp l=ak l'->zO H E l vs->CU H l' vs
 |[],l',[],h,_=>by simp[G8] at h;subst h;trivial |x::l,l',v::vs,h,⟨h1,h2⟩=>by
  simp only[G8] at h;split at h
  ·rename_i s r e1 e2
   cases h;exact ⟨LZ hh e1 h1,DK hh e2 h2⟩
  ·cases h
 |[],_,_::_,_,h=>h.elim |_::_,_,[],_,h=>h.elim
end
theorem anm{c:Core}{a:Act}{o:Oper}{t:Nat}{x y:Operand}{φ:SV×Core->Prop}(hC:Az P C)(hd:zO H E c.tm a.tmps.toList)(hh:zU K H E w c.hp)(hw:Du K H w)
  (ho:o.op=.store t x y) (h:(Ur C c t (AP c.tm x) (AP c.tm y)).All φ):Gt P K H E w c a o φ:=by
 have dx:=Ap (H:=H) (E:=E) hd x;have dy:=Ap (H:=H) (E:=E) hd y;unfold Ur at h;split at h
 ·rename_i i hi
  have ht:=hC.ty _ _ hi;cases hb:((AP c.tm y).cells.length==i.size&&EG (AP c.tm y).cells)<;>simp only[hb,cond_true,cond_false] at h
  ·exact h.elim
  simp only[aG,beq_iff_eq] at hb;obtain ⟨hlen,hone⟩:=hb;have awd:(AP c.tm y).okc=aC:=by
   cases hy:AP c.tm y<;>rw[hy] at hone<;>simp[SV.cells,EG,tK] at hone<;>simp[wK]
   grind
  have dcs:=Oi awd dy;have hcl:=dcs.length;have hoc:=Ep hone dcs;have hrun:∀(b off:Nat) (cur:Array Value) (e:Nat),a.eval x=.pointer (ak ⟨b,off,aK⟩)->w.heap[b]?=ak (.cells cur e (0,0))->off+i.size<=cur.size->
    (execOp a.eval o).run P w=.ok .skip (w.setRow b (cur.toList.take off++(a.eval y).cells.toList++cur.toList.drop (off+(a.eval y).cells.toList.length)).toArray):=by
   intro b off cur e ex hcur hle;have hs:=run_storeCells_at P b off e (a.eval y).cells.toList 0 cur w hcur (by omega) hoc;have hsz:(a.eval y).cells.size=i.size:=by simp_all
   simp only[Nat.add_zero] at hs;simp[execOp,ho,Instr.storeAt,ex,jG,storeVar,IV ht,hsz,hs]
  split at h
  ·rename_i id off hx
   rw[hx] at dx;obtain ⟨b,hbk,ex⟩:=dx;split at h
   ·rename_i cells e hl
    cases hle:gJ (off+i.size) cells.length<;>simp only[hle,cond_true,cond_false] at h
    ·exact h.elim
    have hle:=gu hle;obtain ⟨b',cs,he,h1,h2,h3⟩:=hh.ent _ _ hl;simp only[he,eH,zT,jL] at hbk;subst hbk;have hl2:=h2.length;rw[dU] at hl2;refine ⟨_,undef,_,H,E,_,h,trivial,?_,.inr ⟨rfl,rfl⟩,hrun b' off cs e ex h1 (by omega)⟩;refine JF hh hw hl (b:=b') (by simp[Ag,he,zT]) (fun k hk=>setRow_other w b' k _ hk) (setRow_size _ _ _) rfl rfl rfl ?_ (by simp[Ag,he,zT]);refine ⟨b',_,he,setRow_heap w b' cs _ e _ h1,?_,h3⟩;grind [YO]
   ·rename_i cells e st n hl
    cases hle:gJ (off+i.size) cells.length<;>simp only[hle,cond_true,cond_false] at h
    ·exact h.elim
    have hle:=gu hle;obtain ⟨v,xs,he,h1,h2,h3⟩:=hh.ent _ _ hl;simp only[he,eH] at hbk;have hl2:=h2.length;obtain ⟨hx1,hx2⟩:=h1;rcases hx2 with ⟨rfl,_⟩ |⟨g,cap,cur,rfl,hg0,hg1,hg2,hg3,hg4,hg5⟩
    ·simp[zT] at hbk
    simp[zT] at hbk;subst hbk;have hmul:n*st<=cap*st:=dG _ hg2;have hcur:cur.toList.length=cap*st:=by omega
    have hlc:(a.eval y).cells.toList.length=i.size:=by omega
    refine ⟨_,undef,_,H,E,_,h,trivial,?_,.inr ⟨rfl,rfl⟩,hrun g off cur e ex hg1 (by omega)⟩;refine JF hh hw hl (b:=g) (by simp[Ag,he,zT]) (fun k hk=>setRow_other w g k _ hk) (setRow_size _ _ _) rfl rfl rfl ?_ (by simp[Ag,he,zT]);refine ⟨_,xs.take off++(a.eval y).cells.toList++xs.drop (off+(a.eval y).cells.toList.length),he,⟨?_,.inr ⟨g,cap,_,rfl,hg0,setRow_heap w g cur _ e _ hg1,hg2,hg3,?_,?_⟩⟩,YO h2 dcs (by omega),h3⟩
    ·grind
    ·grind
    grind [Wi]
   ·exact h.elim
  ·rename_i id st j off hx
   rw[hx] at dx;obtain ⟨b,v0,he0,hbk,hj,ex⟩:=dx;split at h
   ·rename_i e st' n g hl
    cases hb:(st==st'&&gJ (off+i.size) st)<;>simp only[hb,cond_true,cond_false] at h
    ·exact h.elim
    simp only[aG,beq_iff_eq] at hb;obtain ⟨rfl,hle⟩:=hb;have hle:=gu hle;split at h
    ·rename_i l hsl
     rw[hC.A] at h;obtain ⟨v,xs,he,h1,h2,h3⟩:=hh.ent _ _ hl;rw[he0] at he;cases he;obtain ⟨hx1,hx2⟩:=h1;rcases hx2 with ⟨rfl,_⟩ |⟨bg,cap,cur,rfl,hg0,hg1,hg2,hg3,hg4,hg5⟩
     ·simp[zT] at hbk
     simp[zT] at hbk;subst hbk;have hj:j<n:=hj;have hmul:n*st<=cap*st:=dG _ hg2;have hjs:j*st+st<=n*st:=by
      calc j*st+st=(j+1)*st:=by grind
       _<=n*st:=dG _ hj
     have hcur:cur.toList.length=cap*st:=by omega
     have hlc:(a.eval y).cells.toList.length=i.size:=by omega
     have hrep:=DK hh hsl dcs;have hll:l.length=i.size:=by rw[<-hrep.length];exact hlc
     refine ⟨_,undef,_,H,E,_,h,trivial,?_,.inr ⟨rfl,rfl⟩,hrun bg (j*st+off) cur e ex hg1 (by omega)⟩;refine JF hh hw hl (b:=bg) (by simp[Ag,he0,zT]) (fun k hk=>setRow_other w bg k _ hk) (setRow_size _ _ _) rfl rfl rfl ?_ (by simp[Ag,he0,zT]);refine ⟨_,xs.take (j*st+off)++(a.eval y).cells.toList++xs.drop (j*st+off+(a.eval y).cells.toList.length),he0,⟨?_,.inr ⟨bg,cap,_,rfl,hg0,setRow_heap w bg cur _ e _ hg1,hg2,hg3,?_,?_⟩⟩,?_,h3⟩
     ·grind
     ·grind
     ·rw[List.toList_toArray,Wi _ _ _ _ (by omega) (by omega),hg5]
     ·obtain ⟨r1,r2,r3,r4⟩:=h2
      refine ⟨by grind,fun k hk=>?_,fun u hu=>?_,fun k m s u hk e1 e2=>?_⟩
      ·grind [zG,dP,jX,tN]
      ·grind
      ·rw[YN _ _ _ _ (by omega)] at e2
       have hkl:(if k=j then (g k).take off++l++(g k).drop (off+l.length) else g k)[m]?=ak s:=e1;have hg:=r2 k hk;by_cases hkj:k=j
       ·subst hkj
        rw[if_pos rfl] at hkl;by_cases c1:m<off
        ·grind
        ·by_cases c2:m<off+l.length
         ·rw[List.append_assoc,jO (by grind),jX,pq (by omega),List.getElem?_append_left (by omega)] at hkl
          rw[if_pos (by omega)] at e2;have:k*st+m - (k*st+off)=m - off:=by omega
          rw[this] at e2;exact hrep.at_ hkl e2
         ·rw[jO (by grind),gq,dP,jX,pq (by omega)] at hkl
          have hm:off+l.length+(m - (off+l.length))=m:=by omega
          grind
       ·rw[if_neg hkj] at hkl
        have hml:m<st:=by grind
        rw[if_neg ?_] at e2
        ·grind
        ·intro hc
         rcases Nat.lt_or_gt_of_ne hkj with q|q
         ·have:k*st+st<=j*st:=by
           calc k*st+st=(k+1)*st:=by grind
            _<=j*st:=dG _ q
          omega
         ·have:j*st+st<=k*st:=by
           calc j*st+st=(j+1)*st:=by grind
            _<=k*st:=dG _ q
          omega
    ·exact h.elim
   ·exact h.elim
  ·exact h.elim
 ·exact h.elim
theorem PX(st:Nat):∀(n:Nat) (l:List Sh) (i:Nat),i<n->Af (chunks st n l) i=(l.drop (i*st)).take st
 |n+1,l,0,_=>by simp[Af,chunks] |n+1,l,i+1,h=>by
  have ih:=PX st n (l.drop st) i (by omega);simp only[Af,chunks,qP] at ih ⊢;simp_all [vP,oQ,oH,yc]
theorem Jf{st n:Nat}{l:List Sh}{xs:List Value}(hl:xs.length=n*st)(hr:CU H l xs)(h1:∀u∈xs,u.oneCell'=aC):Bq H st n (Af (chunks st n l)) xs:=by
 have hll:=hr.length;have hle:∀i,i<n->i*st+st<=n*st:=fun i hi=>by
  calc i*st+st=(i+1)*st:=by grind
   _<=n*st:=dG _ hi
 refine ⟨hl,fun i hi=>?_,h1,fun i j s v hi e1 e2=>?_⟩
 ·grind [PX,jX,tN]
 ·rw[PX _ _ _ _ hi,dO] at e1
  split at e1
  ·rw[gq] at e1
   exact hr.at_ e1 e2
  ·cases e1
theorem Lm{st n elem:Nat}{g:Nat->List Sh}{v:Value}{xs:List Value}(ho:w.ownsRow 0 elem st v n xs)(hr:Bq H st n g xs)(hon:∀b,zT v=ak b->H b=w.heap[b]?):Rep H (.sl st n g) v:=by
 obtain ⟨h1,h2⟩:=ho;rcases h2 with ⟨rfl,rfl⟩ |⟨b,cap,cur,rfl,_,hb,hn,hc,hs,ht⟩
 ·exact .sl0 _ _ _ _ (fK _)
 ·have hx:∀i j,i<n->j<st->xs[i*st+j]?=ak (xs.getD (i*st+j) undef):=fun i j hi hj=>by
   have:i*st+j<xs.length:=by
    rw[h1];calc i*st+j<i*st+st:=by omega
     _=(i+1)*st:=by grind
     _<=n*st:=dG _ hi
   simp_all
  refine .sl st n g b 0 cap (fun i j=>xs.getD (i*st+j) undef) hn hc hr.2.1 (fun i j hi hj=>?_) (fun i j hi hj=>hr.2.2.1 _ (dB (hx i j hi hj))) fun i j s hi e=>?_
  ·have e:=hx i j hi hj
   rw[<-ht,dO] at e;split at e
   ·have hH:H b=ak (.cells cur elem (0,0)):=by rw[hon b rfl,hb]
    simp_all [Array.getElem?_toList,hcell,iw]
   ·cases e
  ·have hj:j<st:=by rw[<-hr.2.1 i hi];grind
   exact hr.2.2.2 i j s _ hi e (hx i j hi hj)
def Mem.add(H:Mem)(w:World)(b:Option Nat):Mem:=fun k=>if b=ak k then w.heap[k]? else H k
structure UJ(H':Mem)(E:Env)(hp hp':List (Nat×SB)):Prop where
 keep:∀id sb b,zI hp id=ak sb->Ag E id sb=ak b->H' b≠aK\/zI hp' id=ak sb
 old:∀id sb,zI hp' id=ak sb->∃sb0,zI hp id=ak sb0/\∀b,Ag E id sb=ak b->Ag E id sb0=ak b
theorem UJ.refl(H':Mem)(E:Env)(hp:List (Nat×SB)):UJ H' E hp hp:=⟨fun _ _ _ h _=>.inr h,fun _ sb h=>⟨sb,h,fun _ h=>h⟩⟩
theorem UJ.trans{H1 H2:Mem}{hp hp1 hp2:List (Nat×SB)}(h1:UJ H1 E hp hp1)(h2:UJ H2 E hp1 hp2)(hle:H1.le H2):UJ H2 E hp hp2:=
 ⟨fun id sb b a1 a2=>by
  rcases h1.keep id sb b a1 a2 with h|h
  ·cases hb:H1 b with
   |none=>simp_all |some o=>exact .inl (by rw[hle b o hb];simp)
  ·exact h2.keep id sb b h a2,fun id sb h=>by
  obtain ⟨s1,a1,a2⟩:=h2.old id sb h;obtain ⟨s0,b1,b2⟩:=h1.old id s1 a1;simp_all⟩
theorem ano{hp:List (Nat×SB)}{id:Nat}{sb nb:SB}{v:Value}(hh:zU K H E w hp)(hw:Du K H w)(hl:zI hp id=ak sb)
  (hm:∀b,zT v=ak b->Mine K H b) (afS:Ag E id sb=zT v) (hnb:Ag E id nb=aK) (hent:H.le (H.add w (zT v))->FH K (H.add w (zT v)) E w id nb) :
  H.le (H.add w (zT v))/\zU K (H.add w (zT v)) E w (hset hp id nb)/\Du K (H.add w (zT v)) w/\UJ (H.add w (zT v)) E hp (hset hp id nb):=by
 have hle:H.le (H.add w (zT v)):=fun b o hb=>by
  unfold Mem.add;split
  ·rename_i e
   have:=(hm b e).1;simp_all
  ·exact hb
 have hfin:UJ (H.add w (zT v)) E hp (hset hp id nb):=by
  refine ⟨fun i s b h1 h2=>?_,fun i s h1=>?_⟩
  ·rw[D5]
   cases hid:(id==i)<;>simp only[cond_true,cond_false]
   ·exact .inr h1
   ·obtain rfl:id=i:=by grind
    rw[hl] at h1;cases h1;rw[afS] at h2;refine .inl ?_;unfold Mem.add;rw[if_pos h2];have h3:(w.heap[b]?).isSome=aC:=by
     have:=(hh.ent _ _ hl).lt (afS.trans h2);simp[this.1]
    simp_all
  grind [D5]
 refine ⟨hle,⟨fun id2 V9 h2=>?_,fun id1 id2 s1 s2 b h1 h2 o1 o2=>?_⟩,⟨hw.os,hw.tape,hw.output,hw.size,hw.kept,fun b o hb=>?_,fun b o hb=>hle b o (hw.le b o hb),fun b hb=>?_⟩,hfin⟩
 ·rw[D5] at h2
  cases hid:(id==id2)<;>simp only[hid,cond_true,cond_false] at h2
  ·have hent:=hh.ent _ _ h2
   refine hent.kept hle (fun _ _ e=>e) (fun _ _=>rfl) fun b hb=>?_
   unfold Mem.add;rw[if_neg]
   ·exact (hent.lt hb).2.1
   ·intro e
    have:=hh.Fg _ _ _ _ _ hl h2 (afS.trans e) hb;simp_all
  simp_all
 ·have conv:∀{i:Nat} {s:SB},zI (hset hp id nb) i=ak s->Ag E i s=ak b->zI hp i=ak s:=by
   grind [D5]
  exact hh.Fg _ _ _ _ _ (conv h1 o1) (conv h2 o2) o1 o2
 ·unfold Mem.add at hb
  split at hb
  ·exact hb
  ·exact hw.on b o hb
 ·unfold Mem.add at hb
  split at hb
  ·rename_i e
   exact .inr (hm b e).2
  ·exact hw.fresh b hb
theorem afT(b:Nat):zT (.pointer (ak ⟨b,0,aK⟩))=ak b:=rfl
theorem He:∀{m:Nat} {ids:List Nat} {hp hp':List (Nat×SB)} {H:Mem},EW m hp ids=ak hp'->zU K H E w hp->Du K H w->
  ∃H',H.le H'/\zU K H' E w hp'/\Du K H' w/\UJ H' E hp hp'
 |m,[],hp,hp',H,h,hh,hw=>by
  have h:ak hp=ak hp':=by cases m<;>exact h
  cases h;exact ⟨H,fun _ _ e=>e,hh,hw,UJ.refl _ _ _⟩
 |0,_::_,hp,hp',H,h,hh,hw=>by cases h |m+1,id::ids,hp,hp',H,h,hh,hw=>by
  simp only[EW] at h;have step:∀{sb nb:SB} {v:Value},zI hp id=ak sb->(∀b,zT v=ak b->Mine K H b)->Ag E id sb=zT v->Ag E id nb=aK->(H.le (H.add w (zT v))->FH K (H.add w (zT v)) E w id nb)->EW m (hset hp id nb) ids=ak hp'->
    ∃H',H.le H'/\zU K H' E w hp'/\Du K H' w/\UJ H' E hp hp':=fun {sb nb v} hl hm afS hnb hent h=>by
   obtain ⟨h1,h2,h3,h4⟩:=ano hh hw hl hm afS hnb hent;obtain ⟨H',a1,a2,a3,a4⟩:=He h h2 h3;exact ⟨H',fun b o hb=>a1 b o (h1 b o hb),a2,a3,h4.trans a4 a1⟩
  split at h
  ·exact He h hh hw
  ·exact He h hh hw
  ·rename_i e st n g hl
   obtain ⟨v,xs,he,ho,hr,hm⟩:=hh.ent _ _ hl;exact step (nb:=.fz st n g) hl hm (by simp[Ag,he]) (by simp[Ag]) (fun hle=>⟨v,he,Lm ho (hr.le hle) fun b hb=>by simp[Mem.add,hb]⟩) h
  ·rename_i cells e st n hl
   obtain ⟨v,xs,he,ho,hd,hm⟩:=hh.ent _ _ hl;split at h
   ·rename_i l hsl
    cases hone:EG cells<;>simp only[hone,cond_true,cond_false] at h
    ·cases h
    have hr:=Jf ho.1 (DK hh hsl hd) (Ep hone hd);exact step (nb:=.fz st n (Af (chunks st n l))) hl hm (by simp[Ag,he]) (by simp[Ag]) (fun hle=>⟨v,he,Lm ho (hr.le hle) fun b hb=>by simp[Mem.add,hb]⟩) h
   ·exact He h hh hw
  ·rename_i cells e hl
   split at h
   ·rename_i l hsl
    cases hone:EG cells<;>simp only[hone,cond_true,cond_false] at h
    ·cases h
    obtain ⟨b,cs,he,hb,hd,hm⟩:=hh.ent _ _ hl;have hr:=DK hh hsl hd;have h1:=Ep hone hd;have hlen:=hr.length;rw[dU] at hlen;refine step (nb:=.QN l) (v:=.pointer (ak ⟨b,0,aK⟩)) hl (fun b' hb'=>by simp_all [afT]) (by simp[Ag,he]) (by simp[Ag]) (fun hle=>⟨_,he,?_⟩) h;refine .pt l b 0 (fun j=>cs.getD j undef) (fun j hj=>?_) (fun j hj=>?_) fun j s hs=>?_
    ·have hH:(H.add w (zT (.pointer (ak ⟨b,0,aK⟩)))) b=ak (.cells cs e (0,0)):=by simp[Mem.add,afT,hb]
     simp_all [hcell,iw,Array.getD_eq_getD_getElem?]
    ·simp_all
    ·have hj:j<l.length:=(List.getElem?_eq_some_iff.1 hs).1
     have:cs.getD j undef=cs[j]'(by omega):=by simp_all
     simp only[this];exact (hr.at_ hs (by simp)).le hle
   ·exact He h hh hw
  ·cases h
theorem MN{ids:List Nat}{hp hp':List (Nat×SB)}{H:Mem}(h:freeze hp ids=ak hp')(hh:zU K H E w hp)(hw:Du K H w):
  ∃H',H.le H'/\zU K H' E w hp'/\Du K H' w/\UJ H' E hp hp':=He h hh hw
end
end Go.Sx
