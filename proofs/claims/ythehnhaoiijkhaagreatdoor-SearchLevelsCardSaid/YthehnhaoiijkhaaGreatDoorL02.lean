/- Own work. -/
import Derived.Test.YthehnhaoiijkhaaGreatDoorL01
import Derived.LaidEql
import Derived.Lib.Strings
open Int (ofNat)
open Array renaming getElem?_eq_some_iff->bH
open Bool renaming true->aC,and_eq_true->aI,false->ay
open ByteArray renaming size->nR
open Go.Addr renaming add_lit->eY
open Go.Builtin renaming len_->qy,max_->vT,min_->vU
open Go.Instr renaming indexAt->qx,fill->yX,findNow->dO,sameNow->eF,checkKey->je,lookup->jh,findKey->iF,findAsking->oh,makeMap->qA
open Go.Op renaming equal->iw,equalIn->fQ
open Go.RowKit.Below renaming heap_alloc->lJ
open Go.Sem renaming run_bind->gK,run->lD
open Go.Sx.SV renaming one->rW
open Go.Value renaming oneCell'->ku,cells->mY
open Go.Value.int renaming injEq->rV
open List renaming length_take->cu,length_drop->dS,getElem?_take->bY,getElem?_drop->eP,toArray->nV,mem_cons_self->bZ,mem_cons_of_mem->dA,mem_of_getElem?->bT,getElem?_append->kT
open List.cons renaming injEq->qK
open Nat renaming add_mul->gI,one_mul->iK,le_refl->dn,blt->fV
open Option renaming some->ak,none->aK
open Option.some renaming injEq->kX
open Prod.mk renaming injEq->jW
namespace Go.Sx
section
variable{P:Program}{C:Ctx}{K:Kx}{H:Mem}{E:Env}{w:World}
theorem Hg{x:SV}{n:Int}{u:Value}(h:Hu x=ak n)(hd:Den H E x u):∃k,u=.int k n:=by
 cases x<;>simp[Hu] at h
 all_goals (subst h;exact ⟨_,hd⟩)
theorem TT{i:Int}{n:Nat}(h:Ai.inB i n=aC):0<=i/\i<n:=by simpa[Ai] using h
theorem MV{elem st n:Nat}{v:Value}{xs:List Value}(h:w.ownsRow 0 elem st v n xs):lenV v=n:=by
 rcases h.2 with ⟨rfl,rfl⟩ |⟨_,_,_,rfl,_⟩<;>rfl
theorem aaH{elem st n:Nat}{v:Value}{xs:List Value}(h:w.ownsRow 0 elem st v n xs)(hn:0<n):∃b cap,v=.slice (ak ⟨b,0,aK⟩) n cap/\AL v=ak b:=by
 rcases h.2 with ⟨rfl,rfl⟩ |⟨b,cap,_,rfl,_⟩
 ·omega
 ·exact ⟨b,cap,rfl,rfl⟩
theorem Qp{t e:Nat}{te:J9}(hu:P.underlying t=ak (.slice e))(hte:Oi P e te){a:Addr}{n cap:Nat}{k:IntKind}{i:Int}(h0:0<=i)(h1:i<n)(w:World):
  (qx t (.slice (ak a) n cap) (.int k i)).run P w=.ok (.pointer (ak (a.add (i.toNat*te.size)))) w:=by
 simp[qx,asIntOf,run_underlying hu,h0,h1,Ju hte]
theorem U0{x:SV}{n:Int}(h:Hu x=ak n):akc Ai n x=n.toNat:=by
 cases x<;>simp[Hu] at h
 ·subst h;rfl
 ·rfl
theorem YX{c:Core}{a:Act}{o:Oper}{t e:Nat}{te:J9}{x y:Operand}{φ:SV×Core->Prop}{m:Nat}{g:Nat->List Sh}{n:Int}{k:IntKind}(hu:P.underlying t=ak (.slice e))(hte:Oi P e te)
  (ho:o.op=.indexAddr t x y) (dx:Rep H (.sl te.size m g) (a.eval x)) (ey:a.eval y=.int k n) (h0:0<=n) (h1:n<m) (h:φ (.GX te.size m g n.toNat 0,c)):QP P H E c a o φ:=by
 generalize hu':a.eval x=u at dx;cases dx with
 |sl0 _ _ A cap hc=>omega |sl _ _ _ b off cap cc a1 a2 a3 a4 a5 a6=>
  refine ⟨_,.pointer (ak ⟨b,off+n.toNat*te.size,aK⟩),h,rfl,⟨b,off+n.toNat*te.size,cc n.toNat,rfl,by omega,a3 _ (by omega),fun j hj=>⟨?_,a5 _ _ (by omega) hj⟩,fun j s hs=>a6 _ _ _ (by omega) hs⟩,fun w'=>?_⟩
  ·rw[a4 _ _ (by omega) hj]
  ·have:=Qp (P:=P) hu hte (a:=⟨b,off,aK⟩) (n:=m) (cap:=cap) (k:=k) h0 h1 w'
   simp[execOp,ho,hu',ey,this,eY]
theorem YZ{φ:SV×Core->Prop}{n:Int}{f:Nat->Tree (SV×Core)}{m:Nat}:∀{k:Nat},k<=m->(m:Int) - k<=n->n<m->(aib Ai n f m k).All φ->∃i:Nat,n=i/\i<m/\(f i).All φ
 |0,_,h1,h2,_=>by omega |k+1,hk,h1,h2,h=>by
  obtain ⟨ha,hb⟩:=h;by_cases e:n=ofNat (m - (k+1))
  ·refine ⟨m - (k+1),e,by omega,ha (by simp[Ai,e])⟩
  ·refine YZ (k:=k) (by omega) ?_ h2 (hb (by simpa[Ai] using e))
   have e:¬n=((m - (k+1):Nat):Int):=e;omega
theorem Y0(st:Nat):∀(n:Nat) (l:List Sh) (i:Nat),i<n->Bh (chunks st n l) i=(l.drop (i*st)).take st
 |n+1,l,0,_=>by simp[Bh,chunks] |n+1,l,i+1,h=>by
  have ih:=Y0 st n (l.drop st) i (by omega);simp only[Bh,chunks,List.getD_cons_succ] at ih ⊢;rw[ih,List.drop_drop];congr 2;rw[gI,iK,Nat.add_comm]
theorem Wp{c:Core}{a:Act}{o:Oper}{t e m:Nat}{te:J9}{x y:Operand}{φ:SV×Core->Prop}{g:Nat}{l:List Sh}{n:Int}{k:IntKind}(hu:P.underlying t=ak (.array m e))(hte:Oi P e te)
  (ho:o.op=.indexAddr t x y) (dx:Den H E (.glob g) (a.eval x)) (ey:Den H E (.int k n) (a.eval y)) (hgl:Gh H g (.AQ l)) (hl:l.length=m*te.size) (h0:0<=n) (h1:n<m)
  (h:φ (.GX te.size m (Bh (chunks te.size m l)) n.toNat 0,c)):QP P H E c a o φ:=by
 obtain ⟨_,cc,g1,g2⟩:=hgl;have dx:a.eval x=.pointer (ak ⟨g,0,aK⟩):=dx;have ey:a.eval y=.int k n:=ey;have hlt:n.toNat*te.size+te.size<=m*te.size:=by
  calc n.toNat*te.size+te.size=(n.toNat+1)*te.size:=by rw[gI,iK]
   _<=m*te.size:=Nat.mul_le_mul_right _ (by omega)
 have hch:Bh (chunks te.size m l) n.toNat=(l.drop (n.toNat*te.size)).take te.size:=Y0 _ _ _ _ (by omega);refine ⟨_,.pointer (ak ⟨g,n.toNat*te.size,aK⟩),h,rfl,⟨g,n.toNat*te.size,fun j=>cc (n.toNat*te.size+j),rfl,by omega,?_,fun j hj=>g1 _ (by omega),fun j s hs=>g2 _ _ ?_⟩,fun w'=>?_⟩
 ·rw[hch,cu,dS];omega
 ·rw[hch,bY] at hs
  split at hs
  ·rwa[eP] at hs
  ·cases hs
 ·simp[execOp,ho,dx,ey,qx,asIntOf,run_underlying hu,h0,h1,Ju hte,Instr.sureAddr,eY]
theorem Wq{c:Core}{a:Act}{o:Oper}{t:Nat}{x y:Operand}{φ:SV×Core->Prop}(hC:BG P C)(ho:o.op=.indexAddr t x y)(hd:AA H E c.tm a.tmps.toList)
  (hh:AO K H E w c.hp) (hg:Dj C.gls H) (h:(Nl C c t (BI c.tm x) (BI c.tm y)).All φ):QP P H E c a o φ:=by
 have dx:=BA (H:=H) (E:=E) hd x;have dy:=BA (H:=H) (E:=E) hd y;have hA:=hC.A;unfold Nl at h;split at h
 ·rename_i ti hti
  have ht:=(hC.ty _ _ hti).desc;split at h
  ·rename_i e hty
   rw[hty] at ht;split at h
   ·rename_i te hte
    have hte:=hC.ty _ _ hte;split at h
    ·rename_i id n hx hy
     rw[hx] at dx;obtain ⟨k,ey⟩:=Hg hy dy;split at h
     ·
      rename_i cells el st m hl;split at h
      ·rename_i k2 n2 hy2
       cases hb:(decide (0<=n2)&&decide (n2<(m:Int))&&st==te.size)<;>simp only[hb,cond_true,cond_false] at h
       ·exact h.elim
       simp only[aI,decide_eq_true_eq,beq_iff_eq] at hb;obtain ⟨⟨h0,h1⟩,rfl⟩:=hb;rw[hy2] at dy;simp only[Den] at dy;obtain ⟨v,xs,he,hr,_,_⟩:=hh.ent _ _ hl;have dx2:E id=ak (a.eval x):=dx.1;rw[he] at dx2;cases dx2;obtain ⟨b,cap,hv,hbv⟩:=aaH hr (by omega);refine ⟨_,.pointer (ak ⟨b,n2.toNat*te.size,aK⟩),h,rfl,⟨b,by rw[he];exact hbv,rfl⟩,fun w'=>?_⟩;have:=Qp (P:=P) ht hte (a:=⟨b,0,aK⟩) (n:=m) (cap:=cap) (k:=k2) h0 h1 w';simp[execOp,ho,hv,dy,this,eY]
      ·exact h.elim
     ·rename_i el st m g hl
      cases hb:(st==te.size)<;>simp only[hb,cond_true,cond_false] at h
      ·exact h.elim
      obtain rfl:st=te.size:=by simpa using hb
      obtain ⟨hin,hφ⟩:=h;rw[hA] at hin hφ;obtain ⟨h0,h1⟩:=TT hin;obtain ⟨v,xs,he,hr,_,_⟩:=hh.ent _ _ hl;have dx2:E id=ak (a.eval x):=dx.1;rw[he] at dx2;cases dx2;obtain ⟨b,cap,hv,hbv⟩:=aaH hr (by omega);have hidx:=U0 hy;rw[hidx] at hφ;refine ⟨_,.pointer (ak ⟨b,n.toNat*te.size,aK⟩),hφ,rfl,⟨b,_,he,hbv,by rw[MV hr];omega,rfl⟩,fun w'=>?_⟩;have:=Qp (P:=P) ht hte (a:=⟨b,0,aK⟩) (n:=m) (cap:=cap) (k:=k) h0 h1 w';simp[execOp,ho,hv,ey,this,eY]
     ·rename_i st m g hl
      cases hb:(st==te.size)<;>simp only[hb,cond_true,cond_false] at h
      ·exact h.elim
      obtain rfl:st=te.size:=by simpa using hb
      obtain ⟨hin,hφ⟩:=h;rw[hA] at hin hφ;obtain ⟨h0,h1⟩:=TT hin;rw[U0 hy] at hφ;obtain ⟨v,he,hr⟩:=hh.ent _ _ hl;have dx2:E id=ak (a.eval x):=dx.1;rw[he] at dx2;cases dx2;exact YX ht hte ho hr ey h0 h1 hφ
     ·exact h.elim
    ·rename_i st m g n hx hy
     cases hb:(st==te.size)<;>simp only[hb,cond_true,cond_false] at h
     ·exact h.elim
     obtain rfl:st=te.size:=by simpa using hb
     obtain ⟨hin,hφ⟩:=h;rw[hA] at hin hφ;obtain ⟨h0,h1⟩:=TT hin;rw[hx] at dx;obtain ⟨k,ey⟩:=Hg hy dy;have hidx:=U0 hy;rw[hidx] at hφ;exact YX ht hte ho dx ey h0 h1 hφ
    ·exact h.elim
   ·exact h.elim
  ·rename_i m e hty
   rw[hty] at ht;split at h
   ·rename_i te hte
    have hte:=hC.ty _ _ hte;split at h
    ·rename_i g k n hx hy
     rw[hx] at dx;rw[hy] at dy;split at h
     ·rename_i l hl
      cases hb:(decide (0<=n)&&decide (n<(m:Int))&&l.length==m*te.size)<;>simp only[hb,cond_true,cond_false] at h
      ·exact h.elim
      simp only[aI,decide_eq_true_eq,beq_iff_eq] at hb;exact Wp ht hte ho dx dy (hg.at_ _ _ hl) hb.2 hb.1.1 hb.1.2 h
     ·exact h.elim
    ·rename_i g k n hx hy
     rw[hx] at dx;rw[hy] at dy;split at h
     ·rename_i l hl
      cases hb:(l.length==m*te.size)<;>simp only[hb,cond_true,cond_false] at h
      ·exact h.elim
      obtain ⟨hin,h⟩:=h;rw[hA] at hin h;obtain ⟨h0,h1⟩:=TT hin;obtain ⟨i,hi,hi2,hq⟩:=YZ (dn _) (by omega) h1 h;subst hi;exact Wp ht hte ho dx dy (hg.at_ _ _ hl) (by simpa using hb) h0 h1 (by simpa[Tree.All,ret] using hq)
     ·exact h.elim
    ·exact h.elim
   ·exact h.elim
  ·exact h.elim
 ·exact h.elim
def Ws(op:BinOp)(k:IntKind)(a b:Int):Option Value:=
 match op with
 | .add=>ak (.int k (k.wrap (a+b))) | .sub=>ak (.int k (k.wrap (a - b))) | .mul=>ak (.int k (k.wrap (a*b))) | .eql=>ak (.bool (a==b)) | .neq=>ak (.bool (!(a==b))) | .lss=>ak (.bool (decide (a<b))) | .leq=>ak (.bool (decide (a<=b))) | .gtr=>ak (.bool (decide (b<a))) | .geq=>ak (.bool (decide (b<=a))) |_=>aK
theorem Wu{op:BinOp}{k:IntKind}{a b:Int}{v:Value}(h:Ws op k a b=ak v)(t:Nat)(x y:Operand)(w:World):
  (do eqGuard op t x y (.int k a) (.int k b);binOp op t (.int k a) (.int k b):Sem Value).run P w=.ok v w:=by
 cases op<;>simp[Ws] at h<;>subst h<;>simp[eqGuard_at_int,binOp,Op.intArith,Op.intCmp,bne]
theorem Qq{A:Prim}(hA:A=Ai){op:BinOp}{k:IntKind}{a b:Int}{sv:SV}(h:orO ((VW A op k a b).map (.sym k)) ((afB A op a b).map .test)=ak sv):
  ∃v,Ws op k a b=ak v/\Den H E sv v:=by
 subst hA;cases op<;>simp[VW,afB,orO] at h<;>subst h<;>exact ⟨_,rfl,rfl⟩
theorem acV{op:BinOp}{k:IntKind}{a b:Int}{sv:SV}(h:orO ((aew op k a b).map (.int k)) ((cmpL op a b).map .bool)=ak sv):
  ∃v,Ws op k a b=ak v/\Den H E sv v:=by
 cases op<;>simp[aew,cmpL,orO] at h<;>subst h<;>exact ⟨_,rfl,rfl⟩
theorem afK{t:Nat}(hu:P.underlying t=ak .bool)(a b:Bool)(w:World):(iw t (.bool a) (.bool b)).run P w=.ok (a==b) w:=by
 have:∀d:Nat,(fQ (d+1) t (.bool a) (.bool b)).run P w=.ok (a==b) w:=fun d=>by simp[fQ,run_underlying hu]
 exact this 9999
theorem TU{t:Nat}(hu:P.underlying t=ak .bool)(a b:Bool)(x y:Operand)(w:World):
  (do eqGuard .eql t x y (.bool a) (.bool b);binOp .eql t (.bool a) (.bool b):Sem Value).run P w=.ok (.bool (a==b)) w/\
  (do eqGuard .neq t x y (.bool a) (.bool b);binOp .neq t (.bool a) (.bool b):Sem Value).run P w=.ok (.bool (!(a==b))) w:=by
 constructor<;>simp[eqGuard_at_bool,binOp,afK hu]
theorem acW(l:List UInt8):(⟨l.toArray⟩:ByteArray).toList=l:=Lib.toList_data _
theorem Wv(l l':List UInt8)(t:Nat)(x y:Operand)(w:World):
  (do eqGuard .eql t x y (.string ⟨l.toArray⟩) (.string ⟨l'.toArray⟩);binOp .eql t (.string ⟨l.toArray⟩) (.string ⟨l'.toArray⟩):Sem Value).run P w=.ok (.bool (l==l')) w/\
  (do eqGuard .neq t x y (.string ⟨l.toArray⟩) (.string ⟨l'.toArray⟩);binOp .neq t (.string ⟨l.toArray⟩) (.string ⟨l'.toArray⟩):Sem Value).run P w=.ok (.bool (!(l==l'))) w:=by
 constructor<;>simp[eqGuard_at_string,binOp,Op.stringOp]
theorem Pz{l:List UInt8}{v:Value}(h:Rep H (.str l) v):v=.string ⟨l.toArray⟩:=by
 cases h;rfl
theorem aaI{A:Prim}(hA:A=Ai){op:BinOp}{l l':List UInt8}{sv:SV}(h:eqS A op l l'=ak sv)(t:Nat)(x y:Operand):
  ∃r,Den H E sv r/\∀w,(do eqGuard op t x y (.string ⟨l.toArray⟩) (.string ⟨l'.toArray⟩);binOp op t (.string ⟨l.toArray⟩) (.string ⟨l'.toArray⟩):Sem Value).run P w=.ok r w:=by
 subst hA;cases op<;>simp[eqS] at h<;>subst h
 ·exact ⟨_,rfl,fun w=>(Wv l l' t x y w).1⟩
 ·exact ⟨_,rfl,fun w=>(Wv l l' t x y w).2⟩
theorem am4{A:Prim}(hA:A=Ai){op:BinOp}{a b:Bool}{sv:SV}{t:Nat}(hu:P.underlying t=ak .bool)(h:eqB A op a b=ak sv)(x y:Operand):
  ∃r,Den H E sv r/\∀w,(do eqGuard op t x y (.bool a) (.bool b);binOp op t (.bool a) (.bool b):Sem Value).run P w=.ok r w:=by
 subst hA;cases op<;>simp[eqB] at h<;>subst h
 ·exact ⟨_,rfl,fun w=>(TU hu a b x y w).1⟩
 ·exact ⟨_,rfl,fun w=>(TU hu a b x y w).2⟩
theorem U1:∀{l:List SV} {ns:List Cq} {vs:List Value},OE l=ak ns->AA H E l vs->vs=ns.map Cq.v
 |[],_,[],h,_=>by simp[OE] at h;subst h;rfl |s::l,ns,v::vs,h,⟨hd,hr⟩=>by
  unfold OE at h;split at h
  ·rename_i e;cases e
  all_goals first
   |(rename_i n r e
     cases e;cases hr2:OE l with
     |none=>simp[hr2] at h |some m=>simp[hr2] at h;subst h;rw[U1 hr2 hr];simp only[Den] at hd;subst hd;rfl)
   |cases h
 |[],_,_::_,_,h=>h.elim |_::_,_,[],_,h=>h.elim
theorem RV:∀{xs ys:List Cq} {z:List SV},Dl xs z=aC->Dl ys z=aC->Qi Ai xs ys=decide (xs=ys)
 |[],[],_,_,_=>by simp[Qi] | .i x::xs,.i y::ys,z,h1,h2=>by
  cases z with
  |nil=>simp[Dl] at h1 |cons a z=>
   have h1':Dl xs z=aC:=by
    unfold Dl at h1;split at h1<;>simp_all
   have h2':Dl ys z=aC:=by
    unfold Dl at h2;split at h2<;>simp_all
   have ih:=RV h1' h2';simp only[Qi,ih];show (bif x==y then decide (xs=ys) else ay)=_;by_cases e:x=y
   ·subst e;simp
   ·have:(x==y)=ay:=by simpa using e
    rw[this];simp[e]
 | .b x::xs,.b y::ys,z,h1,h2=>by
  cases z with
  |nil=>simp[Dl] at h1 |cons a z=>
   have h1':Dl xs z=aC:=by
    unfold Dl at h1;split at h1<;>simp_all
   have h2':Dl ys z=aC:=by
    unfold Dl at h2;split at h2<;>simp_all
   have ih:=RV h1' h2';simp only[Qi,ih];show (bif x==y then decide (xs=ys) else ay)=_;by_cases e:x=y
   ·subst e;simp
   ·have:(x==y)=ay:=by simpa using e
    rw[this];simp[e]
 | .i x::xs,.b y::ys,z,h1,h2=>by
  cases z with
  |nil=>simp[Dl] at h1 |cons a z=>cases a<;>simp[Dl] at h1 h2
 | .b x::xs,.i y::ys,z,h1,h2=>by
  cases z with
  |nil=>simp[Dl] at h1 |cons a z=>cases a<;>simp[Dl] at h1 h2
 |[],y::ys,z,h1,h2=>by
  cases z with
  |nil=>cases y<;>simp[Dl] at h2 |cons a z=>simp[Dl] at h1
 |x::xs,[],z,h1,h2=>by
  cases z with
  |nil=>cases x<;>simp[Dl] at h1 |cons a z=>simp[Dl] at h2
theorem akg{t:Nat}{ps rs:Array TypeId}{b:Bool}(hu:P.underlying t=ak (.func ps rs b))(f:Fn)(x y:Array Value)(w:World):
  (iw t (.func f x y) .nilFunc).run P w=.ok ay w/\(iw t .nilFunc .nilFunc).run P w=.ok aC w:=by
 have:∀d:Nat,(fQ (d+1) t (.func f x y) .nilFunc).run P w=.ok ay w/\(fQ (d+1) t .nilFunc .nilFunc).run P w=.ok aC w:=
  fun d=>by constructor<;>simp[fQ,run_underlying hu]
 exact this 9999
theorem aah{t e:Nat}(hu:P.underlying t=ak (.pointer e))(a:Addr)(w:World):
  (iw t (.pointer (ak a)) (.pointer aK)).run P w=.ok ay w/\(iw t (.pointer aK) (.pointer aK)).run P w=.ok aC w:=by
 have:∀d:Nat,(fQ (d+1) t (.pointer (ak a)) (.pointer aK)).run P w=.ok ay w/\(fQ (d+1) t (.pointer aK) (.pointer aK)).run P w=.ok aC w:=
  fun d=>by constructor<;>simp[fQ,run_underlying hu]
 exact this 9999
theorem Wx{t:Nat}{ms:Array (String×TypeId)}(hu:P.underlying t=ak (.interface ms))(d:Nat)(u:Value)(w:World):
  (iw t (.iface d u) .nilIface).run P w=.ok ay w/\(iw t .nilIface (.iface d u)).run P w=.ok ay w/\(iw t .nilIface .nilIface).run P w=.ok aC w:=by
 have:∀n:Nat,(fQ (n+1) t (.iface d u) .nilIface).run P w=.ok ay w/\(fQ (n+1) t .nilIface (.iface d u)).run P w=.ok ay w/\(fQ (n+1) t .nilIface .nilIface).run P w=.ok aC w:=
  fun n=>by refine ⟨?_,?_,?_⟩<;>simp[fQ,run_underlying hu]
 exact this 9999
theorem Eo{op:BinOp}{r:Bool}{sv:SV}{t:Nat}{u v:Value}{ox oy:Operand}(h:D7 op r=ak sv)(hg:eqGuard op t ox oy u v=pure ())
  (he:binOp .eql t u v=(do pure (.bool (<-iw t u v)))) (hn:binOp .neq t u v=(do pure (.bool (!(<-iw t u v))))) (hw:∀w,(iw t u v).run P w=.ok r w) :
  ∃r,Den H E sv r/\∀w,(do eqGuard op t ox oy u v;binOp op t u v:Sem Value).run P w=.ok r w:=by
 cases op<;>simp[D7] at h<;>subst h
 ·exact ⟨_,rfl,fun w=>by simp[hg,he,hw]⟩
 ·exact ⟨_,rfl,fun w=>by simp[hg,hn,hw]⟩
theorem afL{T:Nat}{x:Sh}{u:Value}(h:Rep H (.C9 T x) u):∃v,u=.iface T v:=by
 cases h;exact ⟨_,rfl⟩
theorem akh{g T:Nat}{u:Value}(h:Rep H (.er g T) u):∃T v,u=.iface T v:=by
 cases h;exact ⟨_,_,rfl⟩
theorem afM{g T:Nat}{u:Value}(h:Rep H (.er g T) u):∃v,u=.iface T v:=by
 cases h;exact ⟨_,rfl⟩
theorem aeI{g T:Nat}{u v:Value}(h:Rep H (.er g T) u)(h':Rep H (.er g T) v):∃b,u=.iface T (.pointer (ak b))/\v=u:=by
 cases h with
 |er _ _ b cs e h1 h2=>
  cases h' with
  |er _ _ b' cs' e' h1' h2'=>
   rw[h1] at h1';cases h1';exact ⟨b,rfl,rfl⟩
theorem as3{t T e:Nat}{ms:Array (String×TypeId)}{inf ie:TypeInfo}(hu:P.underlying t=ak (.interface ms))(h1:P.info? T=ak inf)(h2:inf.comparable=aC)(h3:P.underlying T=ak (.pointer e))(h4:P.info? e=ak ie)(h5:ie.size≠0)(b:Addr)(w:World):
  (iw t (.iface T (.pointer (ak b))) (.iface T (.pointer (ak b)))).run P w=.ok aC w:=by
 have:∀n:Nat,(fQ (n+2) t (.iface T (.pointer (ak b))) (.iface T (.pointer (ak b)))).run P w=.ok aC w:=
  fun n=>by simp[fQ,run_underlying hu,run_underlying h3,typeInfo,sizeOf,h1,h2,h4,sameAddr]
 exact this 9998
theorem afN{gls:List (Nat×Sh)}{g T:Nat}(h:adk gls g T=aC):Ak gls g=ak (.er g T):=by
 unfold adk at h;split at h
 ·rename_i e
  simp only[aI,beq_iff_eq] at h;rw[e,h.1,h.2]
 ·cases h
theorem acX{H:Mem}{g g' T:Nat}{u v:Value}(ha:hcell H g 0≠hcell H g' 0)(dx:Rep H (.er g T) u)(dy:Rep H (.er g' T) v):∃b b',u=.iface T (.pointer (ak b))/\v=.iface T (.pointer (ak b'))/\b≠b'/\
  (∃cs e,H b.block=ak (.cells cs e (0,0)))/\∃cs e,H b'.block=ak (.cells cs e (0,0)):=by
 cases dx with
 |er _ _ b cs e h1 h2=>
  cases dy with
  |er _ _ b' cs' e' h1' h2'=>exact ⟨b,b',rfl,rfl,fun e=>ha (by rw[h1,h1',e]),⟨cs,e,h2⟩,cs',e',h2'⟩
theorem alo{t T e:Nat}{ms:Array (String×TypeId)}{inf ie:TypeInfo}(hu:P.underlying t=ak (.interface ms))(h1:P.info? T=ak inf)(h2:inf.comparable=aC)(h3:P.underlying T=ak (.pointer e))(h4:P.info? e=ak ie)(h5:ie.size≠0){b b':Addr}(hb:b≠b')(w:World)
  {cs cs':Array Value} {ec ec':TypeId} (g1:w.heap[b.block]?=ak (.cells cs ec (0,0))) (g2:w.heap[b'.block]?=ak (.cells cs' ec' (0,0))) :
  (iw t (.iface T (.pointer (ak b))) (.iface T (.pointer (ak b')))).run P w=.ok ay w:=by
 have hs:=run_sameAddr_other (P:=P) w hb g1 g2;have:∀n:Nat,(fQ (n+2) t (.iface T (.pointer (ak b))) (.iface T (.pointer (ak b')))).run P w=.ok ay w:=
  fun n=>by simp[fQ,run_underlying hu,run_underlying h3,typeInfo,sizeOf,h1,h2,h4,h5,hs]
 exact this 9998
theorem afO{Pw:World->Prop}{op:BinOp}{r:Bool}{sv:SV}{t:Nat}{u v:Value}{ox oy:Operand}(h:D7 op r=ak sv)(hg:eqGuard op t ox oy u v=pure ())
  (he:binOp .eql t u v=(do pure (.bool (<-iw t u v)))) (hn:binOp .neq t u v=(do pure (.bool (!(<-iw t u v))))) (hw:∀w,Pw w->(iw t u v).run P w=.ok r w) :
  ∃r,Den H E sv r/\∀w,Pw w->(do eqGuard op t ox oy u v;binOp op t u v:Sem Value).run P w=.ok r w:=by
 cases op<;>simp[D7] at h<;>subst h
 ·exact ⟨_,rfl,fun w hp=>by simp[hg,he,hw w hp]⟩
 ·exact ⟨_,rfl,fun w hp=>by simp[hg,hn,hw w hp]⟩
theorem aaJ{t T T':Nat}{ms:Array (String×TypeId)}(hu:P.underlying t=ak (.interface ms))(hT:T≠T')(u v:Value)(w:World):
  (iw t (.iface T u) (.iface T' v)).run P w=.ok ay w:=by
 have:∀n:Nat,(fQ (n+2) t (.iface T u) (.iface T' v)).run P w=.ok ay w:=
  fun n=>by simp[fQ,run_underlying hu,hT]
 exact this 9998
theorem aip{op:BinOp}{t:Nat}{ox oy:Operand}(h:(isConst ox||isConst oy)=aC):eqGuard op t ox oy .nilIface .nilIface=pure ():=by
 cases ox<;>cases oy<;>simp[isConst] at h
 all_goals first
  |exact eqGuard_nil_constL _ _ _ _
  |exact eqGuard_nil_constR _ _ _ _
theorem aiq{t:Nat}{op:BinOp}{x y:SV}{sv:SV}{u v:Value}{ox oy:Operand}(hC:BG P C)(hg:Dj C.gls H){i:J9}(hi:C.tys.get t=ak i)
  (dx:Den H E x u) (dy:Den H E y v) (h:aj8 C.VU C.gls op i.ty (isConst ox||isConst oy) x y=ak sv) :
  ∃r,Den H E sv r/\∀w,((Ko x&&Ko y)=aC->H.on w)->(do eqGuard op t ox oy u v;binOp op t u v:Sem Value).run P w=.ok r w:=by
 have hd:=(hC.ty _ _ hi).desc;unfold aj8 at h;cases hb:(asq C.VU x&&FH i.ty x&&FH i.ty y&&((isConst ox||isConst oy) || !(VX x&&VX y)))<;>simp only[hb,cond_true,cond_false] at h
 ·cases h
 rw[aI,aI,aI] at hb;obtain ⟨⟨⟨fe,fx⟩,fy⟩,hlit⟩:=hb;have fin:(∃r,Den H E sv r/\∀w,(do eqGuard op t ox oy u v;binOp op t u v:Sem Value).run P w=.ok r w)->∃r,Den H E sv r/\∀w,((Ko x&&Ko y)=aC->H.on w)->(do eqGuard op t ox oy u v;binOp op t u v:Sem Value).run P w=.ok r w:=
  fun ⟨r,h1,h2⟩=>⟨r,h1,fun w _=>h2 w⟩
 unfold amN at h;split at h
 ·apply fin
  cases hty:i.ty<;>rw[hty] at fx hd<;>simp[FH] at fx
  obtain ⟨_,_,_,hd⟩:=hd;obtain ⟨vs,rfl,_⟩:=dx;obtain rfl:v=_:=dy;exact Eo h (eqGuard_at_func ..) rfl rfl fun w=>(akg hd _ _ _ w).1
 ·apply fin
  cases hty:i.ty<;>rw[hty] at fx hd<;>simp[FH] at fx
  obtain ⟨_,_,_,hd⟩:=hd;obtain rfl:u=_:=dx;obtain rfl:v=_:=dy;exact Eo h (eqGuard_at_nilFunc ..) rfl rfl fun w=>(akg hd (.func 0) #[] #[] w).2
 ·apply fin
  cases hty:i.ty<;>rw[hty] at fx hd<;>simp[FH] at fx
  obtain ⟨b,_,rfl⟩:=dx;obtain rfl:v=_:=dy;exact Eo h (eqGuard_at_pointer ..) rfl rfl fun w=>(aah hd _ w).1
 ·apply fin
  cases hty:i.ty<;>rw[hty] at fx hd<;>simp[FH] at fx
  obtain ⟨b,o,cc,rfl,_⟩:=dx;obtain rfl:v=_:=dy;exact Eo h (eqGuard_at_pointer ..) rfl rfl fun w=>(aah hd _ w).1
 ·apply fin
  cases hty:i.ty<;>rw[hty] at fx hd<;>simp[FH] at fx
  obtain ⟨rfl,_⟩:=dx;obtain rfl:v=_:=dy;exact Eo h (eqGuard_at_pointer ..) rfl rfl fun w=>(aah hd _ w).1
 ·apply fin
  cases hty:i.ty<;>rw[hty] at fx hd<;>simp[FH] at fx
  obtain rfl:u=_:=dx;obtain rfl:v=_:=dy;exact Eo h (eqGuard_at_pointer ..) rfl rfl fun w=>(aah hd ⟨0,0,aK⟩ w).2
 ·apply fin
  cases hty:i.ty<;>rw[hty] at fx hd<;>simp[FH] at fx
  obtain ⟨_,hd⟩:=hd;obtain ⟨_,rfl,_⟩:=dx;obtain rfl:v=_:=dy;exact Eo h (eqGuard_at_iface ..) rfl rfl fun w=>(Wx hd _ _ w).1
 ·apply fin
  cases hty:i.ty<;>rw[hty] at fx hd<;>simp[FH] at fx
  obtain ⟨_,hd⟩:=hd;obtain ⟨_,rfl⟩:=afL dx;obtain rfl:v=_:=dy;exact Eo h (eqGuard_at_iface ..) rfl rfl fun w=>(Wx hd _ _ w).1
 ·apply fin
  cases hty:i.ty<;>rw[hty] at fx hd<;>simp[FH] at fx
  obtain ⟨_,hd⟩:=hd;obtain ⟨_,_,rfl⟩:=akh dx;obtain rfl:v=_:=dy;exact Eo h (eqGuard_at_iface ..) rfl rfl fun w=>(Wx hd _ _ w).1
 ·apply fin
  cases hty:i.ty<;>rw[hty] at fx hd<;>simp[FH] at fx
  obtain ⟨_,hd⟩:=hd;obtain rfl:u=_:=dx;obtain rfl:v=_:=dy;exact Eo h (aip (by simpa[VX] using hlit)) rfl rfl fun w=>(Wx hd 0 .nilFunc w).2.2
 ·rename_i g T g' T'
  cases hgg:(g==g'&&T==T')<;>simp only[hgg,cond_true,cond_false] at h
  ·cases hga:(adk C.gls g T&&adk C.gls g' T'&&T==T' && !(g==g'))<;>simp only[hga,cond_true,cond_false] at h
   ·cases h
   simp only[aI,beq_iff_eq,Bool.not_eq_true',beq_eq_false_iff_ne] at hga;obtain ⟨⟨⟨l1,l2⟩,rfl⟩,hne⟩:=hga;cases hty:i.ty<;>rw[hty] at fx hd<;>simp[FH] at fx
   obtain ⟨_,hd⟩:=hd;obtain ⟨b,b',rfl,rfl,hbb,⟨cs,ec,g1⟩,cs',ec',g2⟩:=acX (hg.apart g g' T T (afN l1) (afN l2) hne) dx dy;obtain ⟨inf,e,ie,q1,q2,q3,q4,q5⟩:=hC.VU T fe;exact afO (Pw:=fun w=>(Ko (.sh (.er g T))&&Ko (.sh (.er g' T)))=aC->H.on w) h (eqGuard_at_iface ..) rfl rfl fun w hon=>alo hd q1 q2 q3 q4 q5 hbb w (hon rfl _ _ g1) (hon rfl _ _ g2)
  apply fin;simp only[aI,beq_iff_eq] at hgg;obtain ⟨rfl,rfl⟩:=hgg;cases hty:i.ty<;>rw[hty] at fx hd<;>simp[FH] at fx
  obtain ⟨_,hd⟩:=hd;obtain ⟨b,rfl,rfl⟩:=aeI dx dy;obtain ⟨inf,e,ie,q1,q2,q3,q4,q5⟩:=hC.VU T fe;exact Eo h (eqGuard_at_iface ..) rfl rfl fun w=>as3 hd q1 q2 q3 q4 q5 b w
 ·apply fin
  cases hty:i.ty<;>rw[hty] at fx hd<;>simp[FH] at fx
  obtain ⟨_,hd⟩:=hd;obtain rfl:u=_:=dx;obtain ⟨_,_,rfl⟩:=akh dy;exact Eo h (eqGuard_nil_iface ..) rfl rfl fun w=>(Wx hd _ _ w).2.1
 ·rename_i t1 x1 g T
  apply fin;cases hty:i.ty<;>rw[hty] at fx hd<;>simp[FH] at fx
  obtain ⟨_,hd⟩:=hd;cases hT:(t1==T)<;>simp only[hT,cond_true,cond_false] at h
  ·have hT:t1≠T:=by simpa using hT
   obtain ⟨_,rfl,_⟩:=dx;obtain ⟨_,rfl⟩:=afM dy;exact Eo h (eqGuard_at_iface ..) rfl rfl fun w=>aaJ hd hT _ _ w
  ·cases h
 ·rename_i t1 x1 g T
  apply fin;cases hty:i.ty<;>rw[hty] at fx hd<;>simp[FH] at fx
  obtain ⟨_,hd⟩:=hd;cases hT:(t1==T)<;>simp only[hT,cond_true,cond_false] at h
  ·have hT:t1≠T:=by simpa using hT
   obtain ⟨_,rfl⟩:=afL dx;obtain ⟨_,rfl⟩:=afM dy;exact Eo h (eqGuard_at_iface ..) rfl rfl fun w=>aaJ hd hT _ _ w
  ·cases h
 ·cases h
theorem am5{c:Core}{a:Act}{o:Oper}{op:BinOp}{t t2:Nat}{x y:Operand}{φ:SV×Core->Prop}(hC:BG P C)(hg:Dj C.gls H)(ho:o.op=.binOp op t x y t2)(hd:AA H E c.tm a.tmps.toList)
  (h:(Md c (amP C op t (isConst x||isConst y) (BI c.tm x) (BI c.tm y))).All φ):∃(p:SV×Core) (v:Value),φ p/\p.2=c/\Den H E p.1 v/\∀w',((Ko (BI c.tm x)&&Ko (BI c.tm y))=aC->H.on w')->(execOp a.eval o).run P w'=.ok (.value v) w':=by
 obtain ⟨sv,hs,hφ⟩:=IJ h;have dx:=BA (H:=H) (E:=E) hd x;have dy:=BA (H:=H) (E:=E) hd y;have hA:=hC.A;suffices hk:∃r,Den H E sv r/\∀w,((Ko (BI c.tm x)&&Ko (BI c.tm y))=aC->H.on w)->(do eqGuard op t x y (a.eval x) (a.eval y);binOp op t (a.eval x) (a.eval y):Sem Value).run P w=.ok r w by
  obtain ⟨r,h1,h2⟩:=hk;refine ⟨_,r,hφ,rfl,h1,fun w' hon=>?_⟩;have:=h2 w' hon;simp only[execOp,ho];simp only[gK] at this ⊢;rw[this];rfl
 generalize hu:a.eval x=u at dx ⊢;generalize hv:a.eval y=v at dy ⊢;unfold amP at hs;split at hs;case h_1 k n l m hx hy=>
  rw[hx] at dx;rw[hy] at dy;cases hb:(k==l)<;>simp only[hb,cond_true,cond_false] at hs
  ·cases hs
  obtain rfl:k=l:=by simpa using hb
  obtain ⟨r,hr,hden⟩:=acV (H:=H) (E:=E) hs;simp only[Den] at dx dy;subst dx;subst dy;exact ⟨r,hden,fun w _=>Wu hr t x y w⟩
 case h_2 k n l m hx hy=>
  rw[hx] at dx;rw[hy] at dy;cases hb:(k==l)<;>simp only[hb,cond_true,cond_false] at hs
  ·cases hs
  obtain rfl:k=l:=by simpa using hb
  obtain ⟨r,hr,hden⟩:=Qq (H:=H) (E:=E) hA hs;simp only[Den] at dx dy;subst dx;subst dy;exact ⟨r,hden,fun w _=>Wu hr t x y w⟩
 case h_3 k n l m hx hy=>
  rw[hx] at dx;rw[hy] at dy;cases hb:(k==l)<;>simp only[hb,cond_true,cond_false] at hs
  ·cases hs
  obtain rfl:k=l:=by simpa using hb
  obtain ⟨r,hr,hden⟩:=Qq (H:=H) (E:=E) hA hs;simp only[Den] at dx dy;subst dx;subst dy;exact ⟨r,hden,fun w _=>Wu hr t x y w⟩
 case h_4 k n l m hx hy=>
  rw[hx] at dx;rw[hy] at dy;cases hb:(k==l)<;>simp only[hb,cond_true,cond_false] at hs
  ·cases hs
  obtain rfl:k=l:=by simpa using hb
  obtain ⟨r,hr,hden⟩:=Qq (H:=H) (E:=E) hA hs;simp only[Den] at dx dy;subst dx;subst dy;exact ⟨r,hden,fun w _=>Wu hr t x y w⟩
 case h_5 k l hx hy=>
  rw[hx] at dx;rw[hy] at dy;simp only[Den] at dx dy;subst dx;subst dy;cases op<;>simp at hs<;>subst hs
  ·exact ⟨_,rfl,fun w _=>(Wv k l t x y w).1⟩
  ·exact ⟨_,by simp[Den,bne],fun w _=>(Wv k l t x y w).2⟩
 case h_6 k l hx hy=>
  rw[hx] at dx;rw[hy] at dy;obtain rfl:=Pz dy;simp only[Den] at dx;subst dx;obtain ⟨r,h1,h2⟩:=aaI (P:=P) (H:=H) (E:=E) hA hs t x y;exact ⟨r,h1,fun w _=>h2 w⟩
 case h_7 k l hx hy=>
  rw[hx] at dx;rw[hy] at dy;obtain rfl:=Pz dx;simp only[Den] at dy;subst dy;obtain ⟨r,h1,h2⟩:=aaI (P:=P) (H:=H) (E:=E) hA hs t x y;exact ⟨r,h1,fun w _=>h2 w⟩
 case h_8 k l hx hy=>
  rw[hx] at dx;rw[hy] at dy;obtain rfl:=Pz dx;obtain rfl:=Pz dy;obtain ⟨r,h1,h2⟩:=aaI (P:=P) (H:=H) (E:=E) hA hs t x y;exact ⟨r,h1,fun w _=>h2 w⟩
 case h_9 k l hx hy=>
  rw[hx] at dx;rw[hy] at dy;obtain ⟨vs,rfl,dl⟩:=dx;obtain ⟨vs',rfl,dl'⟩:=dy;split at hs
  ·rename_i m n i hm hn hi
   cases hb:(C.eqs.contains t&&Dl m i.zero&&Dl n i.zero)<;>simp only[hb,cond_true,cond_false] at hs
   ·cases hs
   simp only[aI] at hb;obtain ⟨⟨h1,h2⟩,h3⟩:=hb;have e1:=U1 hm dl;have e2:=U1 hn dl';have e1':vs=(m.map Cq.v).toArray:=by rw[<-e1]
   have e2':vs'=(n.map Cq.v).toArray:=by rw[<-e2]
   subst e1' e2';have hE:=fun w=>hC.eqs t i h1 hi m n w h2 h3 x y
   have hq:=RV h2 h3;rw[hA] at hs;cases op<;>simp at hs<;>subst hs
   ·exact ⟨_,rfl,fun w _=>by rw[hq];exact (hE w).1⟩
   ·exact ⟨_,rfl,fun w _=>by rw[show Ai.nt (Qi Ai m n)=!decide (m=n) by rw[hq];rfl];exact (hE w).2⟩
  ·cases hs
 case h_10=>
  split at hs
  ·cases hs
  ·rename_i i hi
   split at hs
   ·rename_i hty
    have ht:=(hC.ty _ _ hi).desc;rw[hty] at ht;have fin:(∃r,Den H E sv r/\∀w,(do eqGuard op t x y u v;binOp op t u v:Sem Value).run P w=.ok r w)->∃r,Den H E sv r/\∀w,((Ko (BI c.tm x)&&Ko (BI c.tm y))=aC->H.on w)->(do eqGuard op t x y u v;binOp op t u v:Sem Value).run P w=.ok r w:=
     fun ⟨r,h1,h2⟩=>⟨r,h1,fun w _=>h2 w⟩
    apply fin;unfold amO at hs;split at hs
    ·rename_i p q hp hq
     rw[hp] at dx;rw[hq] at dy;simp only[Den] at dx dy;subst dx dy;cases op<;>simp at hs<;>subst hs
     ·exact ⟨_,rfl,fun w=>(TU ht p q x y w).1⟩
     ·exact ⟨_,by simp[Den,bne],fun w=>(TU ht p q x y w).2⟩
    all_goals first
     |(rename_i p q hp hq
       rw[hp] at dx;rw[hq] at dy;simp only[Den] at dx dy;subst dx dy;exact am4 hA ht hs x y)
     |cases hs
   ·exact aiq hC hg hi dx dy hs
theorem OL{x:SV}{u:Value}(hk:x.ZO=aC)(h:Den H E x u):AA H E x.cells u.cells.toList:=by
 cases x;case any=>simp[SV.ZO] at hk
 case ev=>simp[SV.ZO] at hk
 case agg l=>obtain ⟨vs,rfl,hl⟩:=h;exact hl
 case sh s=>
  have h':=h;have h:Rep H s u:=h;have key:u.cells=#[u]:=by
   cases h;case agg l vs a1 a2=>simp[SV.ZO] at hk
   case v h1=>cases u<;>simp[ku,mY] at h1 ⊢
   all_goals rfl
  rw[key];exact ⟨h',trivial⟩
 all_goals
  have h':=h;have key:u.cells=#[u]:=by
   first
    |(simp only[Den] at h;subst h;rfl)
    |(obtain ⟨rfl,h1⟩:=h;cases u<;>simp[ku,mY] at h1 ⊢;done)
    |(obtain ⟨_,_,rfl⟩:=h;rfl)
    |(obtain ⟨_,_,_,_,rfl⟩:=h;rfl)
    |(obtain ⟨_,_,_,_,_,rfl⟩:=h;rfl)
    |(obtain ⟨_,rfl,_⟩:=h;rfl)
    |(obtain ⟨_,_,_,rfl,_⟩:=h;rfl)
  rw[key];exact ⟨h',trivial⟩
theorem aaK:∀{xs:List SV} {vs:List Value},AA H E xs vs->∀{z:List SV} {cells:Array Value} (off k:Nat),AA H E z cells.toList->
  AA H E (setAt z (off+k) xs) ((vs.zipIdx k).foldl (fun (cs:Array Value) (p:Value×Nat)=>cs.setIfInBounds (off+p.2) p.1) cells).toList
 |[],[],_,_,_,_,_,hz=>hz |x::xs,v::vs,⟨hx,hxs⟩,z,cells,off,k,hz=>by
  simp only[setAt,List.zipIdx_cons,List.foldl_cons];have:=aaK hxs (z:=z.set (off+k) x) (cells:=cells.setIfInBounds (off+k) v) off (k+1) (by rw[Array.toList_setIfInBounds];exact hz.set _ hx);simpa[Nat.add_assoc] using this
 |[],_::_,h,_,_,_,_,_=>h.elim |_::_,[],h,_,_,_,_,_=>h.elim
theorem OM:∀(xs z:List SV) (off:Nat),(setAt z off xs).length=z.length
 |[],_,_=>rfl |x::xs,z,off=>by rw[setAt,OM xs];simp
theorem XU{place place':Nat->Option (Nat×Nat)}(hp:∀(i off size:Nat),place' i=ak (off,size)->place i=ak (off,size)){tm:List SV}{a:Act}(hd:AA H E tm a.tmps.toList):
  ∀(parts:List (Nat×Operand)) {z l:List SV} {cells:Array Value},AA H E z cells.toList->Qh place' (BI tm) z parts=ak l->
   ∃cells',yX place cells (parts.map fun p=>(p.1,a.eval p.2))=ak cells'/\AA H E l cells'.toList
 |[],z,l,cells,hz,h=>by simp[Qh] at h;subst h;exact ⟨cells,rfl,hz⟩ |(i,x)::r,z,l,cells,hz,h=>by
  unfold Qh at h;split at h
  ·rename_i off size hpl
   cases hb:((BI tm x).ZO&&(BI tm x).cells.length==size&&Nat.ble (off+size) z.length)<;>simp only[hb,cond_true,cond_false] at h
   ·cases h
   simp only[aI,beq_iff_eq] at hb;obtain ⟨⟨h1,h2⟩,h3⟩:=hb;have h3:=Nat.le_of_ble_eq_true h3;have hv:=OL h1 (BA hd x);have hlv:=hv.length;have hlz:=hz.length;have:=aaK hv (z:=z) (cells:=cells) off 0 hz;obtain ⟨cells',e1,e2⟩:=XU hp hd r this h;refine ⟨cells',?_,e2⟩;simp only[List.map_cons,yX,hp _ _ _ hpl];rw[if_neg]
   ·rw[<-e1,<-Array.foldl_toList,Array.toList_zipIdx]
   ·simp only[Array.length_toList] at hlv hlz
    simp only[Bool.or_eq_true,decide_eq_true_eq,not_or];constructor
    ·simp;omega
    ·omega
  ·cases h
theorem Y1:∀(fs:List Field) (ps:List (Nat×Nat×Bool)),fs.length=ps.length->(∀(j:Nat) (f:Field),fs[j]?=ak f->∃inf:TypeInfo,P.info? f.type=ak inf/\∃b,ps[j]?=ak (f.offset,inf.size,b))->
  fs.mapM (fun f=>(P.info? f.type).map fun i=>(f.offset,i.size))=ak (ps.map fun p=>(p.1,p.2.1))
 |[],[],_,_=>rfl |f::fs,p::ps,hl,h=>by
  obtain ⟨inf,h1,b,h2⟩:=h 0 f rfl;have ih:=Y1 fs ps (by simpa using hl) fun j f' hf=>h (j+1) f' (by simpa using hf);simp at h2;subst h2;simp[List.mapM_cons,h1,ih]
 |[],_::_,h,_=>by simp at h |_::_,[],h,_=>by simp at h
theorem afP{c:Core}{a:Act}{o:Oper}{t:Nat}{parts:Array (Nat×Operand)}{φ:SV×Core->Prop}(hC:BG P C)(ho:o.op=.build t parts)(hd:AA H E c.tm a.tmps.toList)
  (h:(UO C c t parts.toList).All φ):QP P H E c a o φ:=by
 unfold UO at h;split at h
 ·rename_i i hi
  have ht:=hC.ty _ _ hi;split at h
  ·rename_i fs hty
   have asr:=ht.desc;rw[hty] at asr;obtain ⟨fields,hu,hf⟩:=asr;split at h
   ·rename_i l hl
    obtain ⟨inf,z,h1,h2,_,h4,h5,h6,_⟩:=ht.info;have h5':AA H E i.zero z.cells.toList:=h5.le (fun _ _ e=>by cases e) (fun _ _ e=>by cases e);obtain ⟨cells',e1,e2⟩:=XU (place:=fun x=>(fs.map fun p=>(p.1,p.2.1))[x]?) (fun j off size e=>by
     simp only[Option.map_eq_some_iff] at e;obtain ⟨⟨p1,p2,p3⟩,e1,e2⟩:=e;simp only[jW] at e2;simp[List.getElem?_map,e1,e2]) hd parts.toList h5' hl
    refine ⟨_,.agg cells',h,rfl,⟨cells',rfl,e2⟩,fun w'=>?_⟩;have hp:=Y1 (P:=P) fields.toList fs (by simpa using hf.1) (fun j f hj=>by
     obtain ⟨inf',a1,a2,_⟩:=hf.2 j f (by simpa using hj);exact ⟨inf',a1,_,a2⟩)
    have hb:P.built t (parts.map fun p=>(p.1,a.eval p.2)).toList=ak cells':=by
     unfold Program.built;rw[Array.toList_map];simp only[h1,hu,h4,hp];simpa using e1
    have:=run_build (P:=P) w' t _ _ hb;simp only[execOp,ho];simp only[gK] at this ⊢;rw[this];rfl
   ·exact h.elim
  ·exact h.elim
 ·exact h.elim
end
section
variable{P:Program}{C:Ctx}{K:Kx}{H:Mem}{E:Env}{w:World}
theorem PD{c:Core}{a:Act}{o:Oper}{t:Nat}{x:Operand}{φ:SV×Core->Prop}(hC:BG P C)(ho:o.op=.makeInterface t x)(hd:AA H E c.tm a.tmps.toList)
  (h:(match C.ty t with
   |some i=>match i.ty with
    | .iface=>.fail | .other=>.fail |_=>ret c (.C9 t (BI c.tm x))
   |none=>.fail:Tree (SV×Core)).All φ):QP P H E c a o φ:=by
 have dx:=BA (H:=H) (E:=E) hd x;split at h
 ·rename_i i hi
  have ht:=(hC.ty _ _ hi).desc;have key:∀d,P.underlying t=ak d->(∀ms,d≠.interface ms)->φ (.C9 t (BI c.tm x),c)->QP P H E c a o φ:=fun d hu hne hφ=>
   ⟨_,.iface t (a.eval x),hφ,rfl,⟨_,rfl,dx⟩,fun w'=>by
    simp only[execOp,ho,Instr.makeInterface,gK,run_underlying hu,Result.andThen_ok];cases d<;>simp_all⟩
  split at h
  ·exact h.elim
  ·exact h.elim
  ·rename_i ty hne1 hne2
   cases hty:i.ty<;>rw[hty] at ht hne1 hne2
   case iface=>exact (hne1 rfl).elim
   case other=>exact (hne2 rfl).elim
   case fn=>obtain ⟨_,_,_,ht⟩:=ht;exact key _ ht (by simp) h
   case struct=>obtain ⟨_,ht,_⟩:=ht;exact key _ ht (by simp) h
   all_goals exact key _ ht (by simp) h
 ·exact h.elim
theorem U2{c:Core}{a:Act}{o:Oper}{b:Builtin}{xs:Array Operand}{ts:Array TypeId}{sv:SV}{φ:SV×Core->Prop}(ho:o.op=.call {callee:=.builtin b,args:=xs,argTypes:=ts})
  (h:φ (sv,c)) {v:Value} (hv:Den H E sv v) (hr:∀w',∀cs,(builtin b ts o.type cs (xs.map a.eval)).run P w'=.ok (.value v) w'):QP P H E c a o φ:=
 ⟨_,v,h,rfl,hv,fun w'=>by
  simp only[execOp,ho,resolve];simp[invoke,hr w']⟩
theorem air{hp:List (Nat×SB)}{A:Prim}(hA:A=Ai){x sv:SV}{u:Value}(hh:AO K H E w hp)(h:akb A hp x=ak sv)(dx:Den H E x u):
  (∃A n c,u=.slice A n c/\Den H E sv (.int .i64 n))\/(∃l,u=.string ⟨nV l⟩/\Den H E sv (.int .i64 l.length)):=by
 subst hA;unfold akb at h;split at h
 ·rename_i id
  obtain ⟨he,A,n,cc,rfl⟩:=dx;split at h
  ·rename_i cells el st m hl
   cases h;obtain ⟨v,xs,he',hr,_,_⟩:=hh.ent _ _ hl;rw[he] at he';cases he';have:=MV hr;simp only[lenV] at this;subst this;exact .inl ⟨_,_,_,rfl,rfl⟩
  ·rename_i el st m g hl
   cases h;obtain ⟨v,xs,he',hr,_,_⟩:=hh.ent _ _ hl;rw[he] at he';cases he';have:=MV hr;simp only[lenV] at this;subst this;exact .inl ⟨_,_,_,rfl,rfl⟩
  ·rename_i el st m g more hl
   cases h;obtain ⟨v,xs,ys,he',hr,_⟩:=hh.ent _ _ hl;rw[he] at he';cases he';have:=MV hr;simp only[lenV] at this;subst this;exact .inl ⟨_,_,_,rfl,rfl⟩
  ·rename_i st m g hl
   cases h;obtain ⟨v,he',hr⟩:=hh.ent _ _ hl;rw[he] at he';cases he';cases hr
   ·exact .inl ⟨_,_,_,rfl,rfl⟩
   ·exact .inl ⟨_,_,_,rfl,rfl⟩
  ·rename_i el l hl
   cases h;obtain ⟨v,he',hr,_⟩:=hh.ent _ _ hl;rw[he] at he';cases he';rcases hr with ⟨h1,rfl⟩ |⟨g,cap,cur,fz,h1,_⟩
   ·cases h1;exact .inl ⟨_,_,_,rfl,rfl⟩
   ·cases h1;exact .inl ⟨_,_,_,rfl,rfl⟩
  ·cases h
 ·cases h
  obtain ⟨A,m,c,_,_,rfl⟩:=dx;exact .inl ⟨_,_,_,rfl,rfl⟩
 ·cases h
  cases dx
  ·exact .inl ⟨_,_,_,rfl,rfl⟩
  ·exact .inl ⟨_,_,_,rfl,rfl⟩
 ·cases h
  simp only[Den] at dx;subst dx;exact .inl ⟨_,_,_,rfl,rfl⟩
 ·cases h
  simp only[Den] at dx;subst dx;exact .inr ⟨_,rfl,rfl⟩
 ·cases h
  cases dx;exact .inr ⟨_,rfl,rfl⟩
 ·cases h
theorem Y2{C:Ctx}{t:Nat}{i:J9}{xs:Array Operand}{u:Value}(ht:Oi P t i)(h:(i.ty=.str/\∃l,u=.string ⟨nV l⟩)\/((∃e,i.ty=.slice e)/\∃A n c,u=.slice A n c))(w:World)(ty:Nat):
  ∃n:Int,(qy #[t] ty #[u]).run P w=.ok (.int .i64 n) w/\((∃A m c,u=.slice A m c/\n=m)\/(∃l,u=.string ⟨nV l⟩/\n=l.length)):=by
 have hd:=ht.desc;rcases h with ⟨hty,l,rfl⟩ |⟨⟨e,hty⟩,A,n,c,rfl⟩
 ·rw[hty] at hd
  exact ⟨l.length,by simp[qy,run_underlying (show P.underlying t=ak .string from hd)];rfl,.inr ⟨l,rfl,rfl⟩⟩
 ·rw[hty] at hd
  exact ⟨n,by simp[qy,run_underlying (show P.underlying t=ak (.slice e) from hd),goInt],.inl ⟨_,_,_,rfl,rfl⟩⟩
theorem am6{k:IntKind}{a b:Int}(ts:Array TypeId)(ty:Nat)(w:World):
  (vT ts ty #[.int k a,.int k b]).run P w=.ok (.int k (if b>a then b else a)) w/\(vU ts ty #[.int k a,.int k b]).run P w=.ok (.int k (if b<a then b else a)) w:=by
 constructor
 ·simp[vT,Builtin.max2]
 ·simp[vU,Builtin.min2]
theorem KU{x:SV}{u:Value}{k:IntKind}{n:Int}{l:Bool}(hk:I7 x=ak (k,n,l))(hd:Den H E x u):u=.int k n:=by
 cases x<;>simp[I7] at hk
 all_goals (obtain ⟨rfl,rfl,rfl⟩:=hk;exact hd)
theorem ais{A:Prim}(hA:A=Ai){mx:Bool}{x y sv:SV}{u v:Value}(h:maxS A mx x y=ak sv)(dx:Den H E x u)(dy:Den H E y v):
  ∃(k:IntKind) (a b:Int),u=.int k a/\v=.int k b/\Den H E sv (.int k (bif mx then (if b>a then b else a) else (if b<a then b else a))):=by
 subst hA;unfold maxS at h;have kd:∀{x:SV} {u:Value} {k:IntKind} {n:Int} {l:Bool},I7 x=ak (k,n,l)->Den H E x u->u=.int k n:=by
  intro x u k n l hk hd;cases x<;>simp[I7] at hk
  all_goals (obtain ⟨rfl,rfl,rfl⟩:=hk;exact hd)
 split at h
 ·rename_i k a la l b lb e1 e2
  cases hb:(k==l)<;>simp only[hb,cond_true,cond_false] at h
  ·cases h
  obtain rfl:k=l:=by simpa using hb
  refine ⟨k,a,b,kd e1 dx,kd e2 dy,?_⟩;cases hl:(la&&lb)<;>simp only[hl,cond_true,cond_false,kX] at h<;>subst h
  ·cases mx<;>rfl
  ·cases mx
   ·simp only[cond_false,Den,rV,true_and]
    cases hd:decide (b<a)<;>simp at hd<;>simp[hd]
    omega
   ·simp only[cond_true,Den,rV,true_and]
    cases hd:decide (a<b)<;>simp at hd<;>simp[hd]
    omega
 ·cases h
theorem acY{ty:Ty}{x:SV}{u:Value}(h:Pv ty x=aC)(dx:Den H E x u):(ty=.str/\∃l,u=.string ⟨nV l⟩)\/((∃e,ty=.slice e)/\∃A n c,u=.slice A n c):=by
 unfold Pv at h;split at h
 ·exact .inl ⟨rfl,_,dx⟩
 ·exact .inl ⟨rfl,_,Pz dx⟩
 ·obtain ⟨_,h⟩:=dx;exact .inr ⟨⟨_,rfl⟩,h⟩
 ·refine .inr ⟨⟨_,rfl⟩,?_⟩
  cases dx<;>exact ⟨_,_,_,rfl⟩
 ·obtain rfl:u=_:=dx;exact .inr ⟨⟨_,rfl⟩,_,_,_,rfl⟩
 ·obtain ⟨A,m,c,_,_,rfl⟩:=dx;exact .inr ⟨⟨_,rfl⟩,_,_,_,rfl⟩
 ·cases h
theorem q_len{c:Core}{a:Act}{o:Oper}{x:Operand}{t:Nat}{i:J9}{φ:SV×Core->Prop}(hC:BG P C)(hd:AA H E c.tm a.tmps.toList)(hh:AO K H E w c.hp)
  (ho:o.op=.call {callee:=.builtin .len,args:=#[x],argTypes:=#[t]}) (hi:C.tys.get t=ak i) (hf:Pv i.ty (BI c.tm x)=aC)
  (h:(Md c (akb C.A c.hp (BI c.tm x))).All φ):QP P H E c a o φ:=by
 have dx:=BA (H:=H) (E:=E) hd x;obtain ⟨sv,hs,hφ⟩:=IJ h;have hl:=air hC.A hh hs dx;have ht:=hC.ty _ _ hi;have hcase:=acY hf dx;rcases hl with ⟨A,n,cc,e,hden⟩ |⟨l,e,hden⟩
 ·refine U2 ho hφ hden fun w' cs=>?_
  obtain ⟨m,h1,h2⟩:=Y2 (C:=C) (xs:=#[x]) ht hcase w' o.type;rcases h2 with ⟨A',m',c',e',rfl⟩ |⟨l',e',_⟩
  ·rw[e] at e';cases e'
   rw[e] at h1;simp[builtin,e,h1]
  ·rw[e] at e';cases e'
 ·refine U2 ho hφ hden fun w' cs=>?_
  obtain ⟨m,h1,h2⟩:=Y2 (C:=C) (xs:=#[x]) ht hcase w' o.type;rcases h2 with ⟨A',m',c',e',_⟩ |⟨l',e',rfl⟩
  ·rw[e] at e';cases e'
  ·rw[e] at e';cases e'
   rw[e] at h1;simp[builtin,e,h1]
theorem aeJ{c:Core}{a:Act}{o:Oper}{x y:Operand}{ts:Array TypeId}{mx:Bool}{φ:SV×Core->Prop}(hC:BG P C)(hd:AA H E c.tm a.tmps.toList)
  (ho:o.op=.call {callee:=.builtin (bif mx then .max else .min),args:=#[x,y],argTypes:=ts}) (h:(Md c (maxS C.A mx (BI c.tm x) (BI c.tm y))).All φ):QP P H E c a o φ:=by
 obtain ⟨sv,hs,hφ⟩:=IJ h;obtain ⟨k,m,n,ex,ey,hden⟩:=ais hC.A hs (BA hd x) (BA hd y);refine U2 ho hφ hden fun w' cs=>?_
 have:=am6 (P:=P) (k:=k) (a:=m) (b:=n) ts o.type w';cases mx
 ·simp[builtin,ex,ey,this.2]
 ·simp[builtin,ex,ey,this.1]
theorem U3{kk:IntKind}{n:Int}:∀{es:List (SV×SV)} {ms:List MapEntry} {r:Option SV} (j:Nat),RI kk n es=ak r->Oh H E es ms->
  (r=aK/\dO (.int kk) (.int kk n) ms j=ak aK)\/(∃sv i v,r=ak sv/\dO (.int kk) (.int kk n) ms j=ak (ak (i,v))/\Den H E sv v)
 |[],[],r,j,h,_=>by simp[RI] at h;exact .inl ⟨h.symm,rfl⟩ |(k,v)::es,m::ms,r,j,h,⟨h1,h2,h3⟩=>by
  unfold RI at h;split at h
  ·rename_i e;cases e
  ·rename_i l p u es' e
   simp only[qK,jW] at e;obtain ⟨⟨rfl,rfl⟩,rfl⟩:=e;have h1:m.key=.int l p:=h1;cases hb:(l==kk)<;>simp only[hb,cond_true,cond_false] at h
   ·cases h
   obtain rfl:l=kk:=by simpa using hb
   cases hp:(p==n)<;>simp only[hp,cond_true,cond_false] at h
   ·have hne:(n==p)=ay:=by simp at hp ⊢;exact fun e=>hp e.symm
    rcases U3 (j+1) h h3 with ⟨e1,e2⟩ |⟨sv,i,v',e1,e2,e3⟩
    ·exact .inl ⟨e1,by simp[dO,h1,eF,hne,e2]⟩
    ·exact .inr ⟨sv,i,v',e1,by simp[dO,h1,eF,hne,e2],e3⟩
   ·cases h
    have:p=n:=by simpa using hp
    subst this;exact .inr ⟨v,j,m.val,rfl,by simp[dO,h1,eF],h2⟩
  ·cases h
 |[],_::_,_,_,_,h=>h.elim |_::_,[],_,_,_,h=>h.elim
theorem adu{kk:IntKind}{n:Int}{A:Prim}(hA:A=Ai){f:SV->Bool->Tree (SV×Core)}{z:SV}{φ:SV×Core->Prop}:∀{es:List (SV×SV)} {ms:List MapEntry} (j:Nat),(VZ A kk n z f es).All φ->Oh H E es ms->
  (dO (.int kk) (.int kk n) ms j=ak aK/\(f z ay).All φ)\/(∃sv i v,(f sv aC).All φ/\dO (.int kk) (.int kk n) ms j=ak (ak (i,v))/\Den H E sv v)
 |[],[],j,h,_=>.inl ⟨rfl,h⟩ |(k,v)::es,m::ms,j,h,⟨h1,h2,h3⟩=>by
  unfold VZ at h;split at h
  ·rename_i e;cases e
  ·rename_i l p u es' e
   simp only[qK,jW] at e;obtain ⟨⟨rfl,rfl⟩,rfl⟩:=e;have h1:m.key=.int l p:=h1;cases hb:(l==kk)<;>simp only[hb,cond_true,cond_false] at h
   ·exact h.elim
   obtain rfl:l=kk:=by simpa using hb
   subst hA;cases hp:(n==p)
   ·rcases adu rfl (j+1) (h.2 hp) h3 with ⟨e1,e2⟩ |⟨sv,i,v',e1,e2,e3⟩
    ·exact .inl ⟨by simp[dO,h1,eF,hp,e1],e2⟩
    ·exact .inr ⟨sv,i,v',e1,by simp[dO,h1,eF,hp,e2],e3⟩
   ·exact .inr ⟨v,j,m.val,h.1 hp,by simp[dO,h1,eF,hp],h2⟩
  ·exact h.elim
 |[],_::_,_,_,h=>h.elim |_::_,[],_,_,h=>h.elim
def PV(H:Mem)(E:Env)(p:Bool)(sv:SV)(o:Option Value):Prop:=
 match p,o with|true,ak v=>Den H E sv v/\v.oneCell'=aC|false,aK=>True|_,_=>False
def MK:List (Int×Option Value)->Int->Option (Option Value)
 |[],_=>aK |(n,o)::r,k=>if k=n then ak o else MK r k
theorem Y3{M:Int->Option Value}{fv:List (Int×Option Value)}(hM:∀n o,(n,o)∈fv->M n=o){k:Int}{o:Option Value}:∀{uv:List (Int×Option Value)},MK (uv++fv) k=ak o->Ur M uv k=o
 |[],h=>by
  have key:∀l:List (Int×Option Value),(∀n o,(n,o)∈l->M n=o)->MK l k=ak o->M k=o:=by
   intro l;induction l with
   |nil=>intro _ h;cases h |cons p r ih=>
    obtain ⟨n,q⟩:=p;intro hm h;simp only[MK] at h;split at h
    ·rename_i e;subst e;cases h;exact hm _ _ (bZ ..)
    ·exact ih (fun n o h=>hm n o (dA _ h)) h
  exact key fv hM h
 |(n,q)::uv,h=>by
  simp only[List.cons_append,MK] at h;simp only[Ur];split at h
  ·rename_i e;rw[if_pos e];cases h;rfl
  ·rename_i e;rw[if_neg e];exact Y3 hM h
theorem Gz.app:∀{l l':List (Int×Bool×SV)} {v v':List (Int×Option Value)},Gz H E l v->Gz H E l' v'->Gz H E (l++l') (v++v')
 |[],_,[],_,_,h=>h |(_,_,_)::_,_,(_,_)::_,_,⟨a,b,c⟩,h=>⟨a,b,c.app h⟩ |[],_,_::_,_,h,_=>h.elim |_::_,_,[],_,h,_=>h.elim
theorem Wy{φ:SV×Core->Prop}{k:Int}{f:Bool->SV->Tree (SV×Core)}:∀{l:List (Int×Bool×SV)} {lv:List (Int×Option Value)},Gz H E l lv->(findF Ai k f l).All φ->
  ∃p sv o,(f p sv).All φ/\PV H E p sv o/\MK lv k=ak o
 |[],_,_,h=>h.elim |[(j,p,sv)],[(n,o)],⟨a,b,_⟩,h=>by
  subst a;obtain ⟨h1,h2⟩:=h;have h1:k=n:=by simpa[Ai] using h1
  exact ⟨p,sv,o,h2,b,by simp[MK,h1]⟩
 |(j,p,sv)::q::r,(n,o)::lv,⟨a,b,c⟩,h=>by
  subst a;obtain ⟨h1,h2⟩:=h;by_cases e:k=n
  ·exact ⟨p,sv,o,h1 (by simp[Ai,e]),b,by simp[MK,e]⟩
  ·obtain ⟨p',sv',o',a1,a2,a3⟩:=Wy c (h2 (by simp[Ai,e]))
   exact ⟨p',sv',o',a1,a2,by simp[MK,e,a3]⟩
 |[(_,_,_)],_::_::_,h,_=>h.2.2.elim |_::_,[],h,_=>h.elim
theorem Y4{φ:SV×Core->Prop}{k:Int}{f:Bool->SV->Tree (SV×Core)}{M:Int->Option Value}{fs us:List (Int×Bool×SV)}{fv uv:List (Int×Option Value)}(hM:∀n o,(n,o)∈fv->M n=o)
  (d2:Gz H E us uv) (d1:Gz H E fs fv) (h:(findF Ai k f (us++fs)).All φ):∃p sv o,(f p sv).All φ/\PV H E p sv o/\Ur M uv k=o:=by
 obtain ⟨p,sv,o,a1,a2,a3⟩:=Wy (d2.app d1) h;exact ⟨p,sv,o,a1,a2,Y3 hM a3⟩
theorem I9{kk:IntKind}{n:Int}{v:Value}:∀{ms:List MapEntry},(∀m∈ms,∃n,m.key=.int kk n)->∀j:Nat,IW kk n ms=ak v->
  ∃i,dO (.int kk) (.int kk n) ms j=ak (ak (j+i,v))/\∃m,ms[i]?=ak m/\m.key=.int kk n/\m.val=v
 |[],_,_,h=>by cases h |m::ms,hk,j,h=>by
  obtain ⟨p,hp⟩:=hk m (bZ ..);by_cases e:n=p
  ·subst e
   simp[IW,hp,eF] at h;exact ⟨0,by simp[dO,hp,eF,h],m,rfl,hp,h⟩
  ·have e':(n==p)=ay:=by simpa using e
   simp[IW,hp,eF,e'] at h;obtain ⟨i,a1,m',a2,a3⟩:=I9 (fun m hm=>hk m (dA _ hm)) (j+1) h;refine ⟨i+1,?_,m',by simpa using a2,a3⟩;simp only[dO,hp,eF,if_true,e'];rw[a1];congr 3;omega
theorem KW{kk:IntKind}{n:Int}:∀{ms:List MapEntry},(∀m∈ms,∃n,m.key=.int kk n)->∀j:Nat,IW kk n ms=aK->dO (.int kk) (.int kk n) ms j=ak aK
 |[],_,_,_=>rfl |m::ms,hk,j,h=>by
  obtain ⟨p,hp⟩:=hk m (bZ ..);by_cases e:n=p
  ·subst e
   simp[IW,hp,eF] at h
  ·have e':(n==p)=ay:=by simpa using e
   simp[IW,hp,eF,e'] at h;simp only[dO,hp,eF,if_true,e'];exact KW (fun m hm=>hk m (dA _ hm)) (j+1) h
theorem KX{kt:Nat}{kk:IntKind}(hu:P.underlying kt=ak (.int kk))(em:Bool)(k:IntKind)(n:Int)(w:World):(je em 10000 kt (.int k n)).run P w=.ok () w:=by
 have:∀d:Nat,(je em (d+1) kt (.int k n)).run P w=.ok () w:=fun d=>by simp[je,run_underlying hu]
 exact this 9999
theorem Ky{t kt e:Nat}{kk:IntKind}{n:Int}{ok:Bool}{te:J9}{m:Value}{es:List MapEntry}{w:World}{z:Value}(hu:P.underlying t=ak (.map kt e))(hk:P.underlying kt=ak (.int kk))
  (hz:(zeroValue e).run P w=.ok z w) (hm:(m=.map aK/\es=[])\/(∃b clk,m=.map (ak b)/\w.heap[b]?=ak (.map es.toArray clk))) :
  (dO (.int kk) (.int kk n) es 0=ak aK->(jh t m (.int kk n) ok).run P w=.ok (if ok then .tuple #[z,.bool ay] else z) w)/\
  (∀i v,dO (.int kk) (.int kk n) es 0=ak (ak (i,v))->(jh t m (.int kk n) ok).run P w=.ok (if ok then .tuple #[v,.bool aC] else v) w):=by
 have hck:=fun em=>KX (P:=P) hk em kk n w;rcases hm with ⟨rfl,rfl⟩ |⟨b,clk,rfl,hb⟩
 ·constructor
  ·intro hf
   cases ok<;>simp[jh,run_underlying hu,hck,iF,run_underlying hk,hf,hz]
  ·intro i v hf
   simp[dO] at hf
 ·have hg:(getObj b).run P w=.ok (.map es.toArray clk) w:=by simp[getObj,lD,hb]
  constructor
  ·intro hf
   cases ok<;>simp[jh,run_underlying hu,hg,hck,iF,run_underlying hk,hf,hz]
  ·intro i v hf
   cases ok<;>simp[jh,run_underlying hu,hg,hck,iF,run_underlying hk,hf]
theorem WA{c:Core}{ok:Bool}{sv:SV}{b:Bool}{v:Value}(hd:Den H E sv v):
  Den H E (bif ok then .AQ [sv,.bool b] else sv) (if ok then .tuple #[v,.bool b] else v):=by
 cases ok
 ·exact hd
 ·exact ⟨#[v,.bool b],rfl,hd,rfl,trivial⟩
theorem Qr{n m:DY}(h:Dt n=Dt m):n=m:=by
 obtain ⟨a,l⟩:=n;obtain ⟨b,k⟩:=m;simp[Dt] at h;obtain ⟨rfl,h2⟩:=h;rw[h2]
theorem ait{s:SV}{n:Int}{v:Value}(h:intOf s=ak n)(hd:Den H E s v):v=.int .i64 n:=by
 unfold intOf at h;split at h
 ·cases h;exact hd
 ·cases h;exact hd
 ·cases h
  have hd:Rep H (.i .i64 n) v:=hd;cases hd;rfl
 ·cases h
theorem afQ{s:SV}{l:List UInt8}{v:Value}(h:strOf s=ak l)(hd:Den H E s v):v=.string ⟨l.toArray⟩:=by
 unfold strOf at h;split at h
 ·cases h;exact hd
 ·cases h
  have hd:Rep H (.str l) v:=hd;cases hd;rfl
 ·cases h
theorem WB{s:SV}{n:DY}{v:Value}(h:aac s=ak n)(hd:Den H E s v):v=Dt n:=by
 unfold aac at h;split at h
 ·split at h
  ·rename_i a b n l h1 h2
   cases h;obtain ⟨⟨cs⟩,rfl,hd⟩:=hd;match cs,hd with
   |[x,y],⟨d1,d2,_⟩=>
    rw[ait h1 d1,afQ h2 d2];rfl
  ·cases h
 ·rename_i n l
  cases h;have hd:Rep H (.agg [.i .i64 n,.str l]) v:=hd;cases hd with
  |agg _ vs hl hr=>
   obtain ⟨vs⟩:=vs;match vs,hl,hr with
   |[x,y],_,hr=>
    have h1:=hr 0 _ x rfl rfl;have h2:=hr 1 _ y rfl rfl;cases h1;cases h2;rfl
 ·cases h
theorem am7(k n:DY):Ai.kp k.1 k.2 n.1 n.2=decide (k=n):=by
 obtain ⟨a,l⟩:=k;obtain ⟨b,m⟩:=n;simp[Ai]
theorem aiu{vt:VT}{v:Value}(h:amZ vt v):Den H E (amT Ai vt (ak v)) v/\v.oneCell'=aC:=by
 cases vt with
 |int=>obtain ⟨n,rfl⟩:=h;exact ⟨rfl,rfl⟩ |bool=>obtain ⟨b,rfl⟩:=h;exact ⟨rfl,rfl⟩
theorem Y5{φ:SV×Core->Prop}{k:DY}{f:Bool->SV->Tree (SV×Core)}{vt:VT}{M:DY->Option Value}(hT:ake vt M):∀{us:List (DY×Bool×SV)} {uv:List (DY×Option Value)},
  V9 H E us uv->(aie Ai vt M k f us).All φ->∃p sv o,(f p sv).All φ/\PV H E p sv o/\RS M uv k=o
 |[],[],_,⟨h1,h2⟩=>by
  cases hm:M k with
  |none=>exact ⟨ay,.any,aK,h2 (by rw[hm];rfl),trivial,hm⟩ |some v=>exact ⟨aC,_,ak v,h1 (by rw[hm];rfl),by rw[hm];exact aiu (hT k v hm),hm⟩
 |(j,p,sv)::us,(n,o)::uv,⟨a,b,c⟩,h=>by
  subst a;obtain ⟨h1,h2⟩:=h;by_cases e:k=n
  ·exact ⟨p,sv,o,h1 (by rw[am7];simp[e]),b,by simp[RS,e]⟩
  ·obtain ⟨p',sv',o',a1,a2,a3⟩:=Y5 hT c (h2 (by rw[am7];simp[e]))
   exact ⟨p',sv',o',a1,a2,by simp[RS,e,a3]⟩
 |[],_::_,h,_=>h.elim |_::_,[],h,_=>h.elim
theorem PE{kt:Nat}(hp:RU P kt){n:DY}{w:World}:∀{ms:List MapEntry},(∀m∈ms,∃n,m.key=Dt n)->∀j:Nat,
  ∃r,(oh kt (Dt n) ms j).run P w=.ok r w/\((r=aK/\∀m∈ms,m.key≠Dt n)\/∃(i:Nat) (m:MapEntry),r=ak (j+i,m.val)/\ms[i]?=ak m/\m.key=Dt n)
 |[],_,j=>⟨aK,rfl,.inl ⟨rfl,fun _ h=>by cases h⟩⟩ |m::ms,hk,j=>by
  obtain ⟨p,hpk⟩:=hk m (bZ ..);have he:=hp.eq n p w;by_cases e:n=p
  ·subst e
   refine ⟨ak (j,m.val),?_,.inr ⟨0,m,rfl,rfl,hpk⟩⟩;simp[oh,hpk,he]
  ·obtain ⟨r,h1,h2⟩:=PE hp (n:=n) (w:=w) (fun m hm=>hk m (dA _ hm)) (j+1)
   refine ⟨r,?_,?_⟩
   ·simp[oh,hpk,he,e,h1]
   ·rcases h2 with ⟨a,b⟩ |⟨i,m',a,b,c⟩
    ·refine .inl ⟨a,fun x hx=>?_⟩
     rcases List.mem_cons.1 hx with rfl|hx
     ·rw[hpk];exact fun q=>e (Qr q).symm
     ·exact b x hx
    ·exact .inr ⟨i+1,m',by rw[a];congr 2;omega,by simpa using b,c⟩
theorem OO{kt:Nat}(hp:RU P kt){n:DY}{w:World}{ms:List MapEntry}(hk:∀m∈ms,∃n,m.key=Dt n):
  ∃r,(iF kt (Dt n) ms).run P w=.ok r w/\((r=aK/\∀m∈ms,m.key≠Dt n)\/∃(i:Nat) (m:MapEntry),r=ak (i,m.val)/\ms[i]?=ak m/\m.key=Dt n):=by
 obtain ⟨fs,hu⟩:=hp.und;cases ms with
 |nil=>exact ⟨aK,by simp[iF,run_underlying hu,dO],.inl ⟨rfl,fun _ h=>by cases h⟩⟩ |cons m ms=>
  obtain ⟨r,h1,h2⟩:=PE hp (n:=n) (w:=w) hk 0;refine ⟨r,?_,?_⟩
  ·simp[iF,run_underlying hu,dO,eF,h1]
  ·rcases h2 with h2|⟨i,m',a,b,c⟩
   ·exact .inl h2
   ·exact .inr ⟨i,m',by rw[a,Nat.zero_add],b,c⟩
theorem am8{e:Nat}{te:J9}{z:SV}(hte:Oi P e te)(hz:pack te.ty.isAgg te.zero=ak z):∃zv:Value,Den H E z zv/\∀w:World,(zeroValue e).run P w=.ok zv w:=by
 obtain ⟨inf,zv,h1,h2,_,h4,h5,h6,h7,h8⟩:=hte.info;have h5':AA H E te.zero zv.cells.toList:=h5.le (fun _ _ e=>by cases e) (fun _ _ e=>by cases e);refine ⟨zv,?_,fun w=>by simp[zeroValue,typeInfo,h1,h4]⟩;rcases Nu hz with ⟨ha,rfl⟩ |⟨ha,hl⟩
 ·obtain ⟨cs,rfl⟩:=h7 ha
  exact ⟨cs,rfl,h5'⟩
 ·rw[hl] at h5'
  have h8:=(h8 ha).2;cases zv with
  |agg cs=>simp[ku] at h8 |_=>
   simp[mY,AA] at h5';exact h5'
theorem alp{c:Core}{a:Act}{o:Oper}{t:Nat}{x y:Operand}{ok:Bool}{φ:SV×Core->Prop}(hC:BG P C)(hd:AA H E c.tm a.tmps.toList)(hh:AO K H E w c.hp)
  (ho:o.op=.lookup t x y ok) (h:(RJ C c t (BI c.tm x) (BI c.tm y) ok).All φ):Wi P H E w c a o φ:=by
 have dx:=BA (H:=H) (E:=E) hd x;have dy:=BA (H:=H) (E:=E) hd y;unfold RJ at h;split at h
 ·rename_i ti hti
  have ht:=(hC.ty _ _ hti).desc;split at h
  ·rename_i kt e hty
   rw[hty] at ht;split at h
   ·rename_i kti te hkt hte
    have hkt:=(hC.ty _ _ hkt).desc;have hte:=hC.ty _ _ hte;split at h
    ·rename_i fs z hkk hz
     cases hpk:(C.pks.contains kt)<;>simp only[hpk,cond_true,cond_false] at h
     ·exact h.elim
     have hp:=hC.pks _ hpk;obtain ⟨zv,hzd,Us⟩:=am8 (H:=H) (E:=E) hte hz;split at h
     ·rename_i id hx
      rw[hx] at dx;obtain ⟨b,he,ex⟩:=dx;split at h
      ·rename_i vt M us hl
       obtain ⟨b',ms,clk,uv,he',hw,d2,hT,hL,hok,_⟩:=hh.ent _ _ hl;rw[he] at he';cases he';have hkeep:∀w',UY H E c.hp w w'->w'.heap[b]?=ak (.map ms clk):=fun w' ha=>by
        rw[Jw ha hl (b:=b) (by simp[Bd,he,AL]),hw]
       split at h
       ·rename_i n hn
        have dy:a.eval y=Dt n:=WB hn dy;rw[hC.A] at h;obtain ⟨p,sv,ov,hφ,hpo,hat⟩:=Y5 hT d2 h;have fin:∀(sv:SV) (b:Bool) (v:Value),Den H E sv v->(I8 c ok sv b).All φ->(∀w',UY H E c.hp w w'->H.on w'->(jh t (a.eval x) (a.eval y) ok).run P w'=.ok (if ok then .tuple #[v,.bool b] else v) w')->Wi P H E w c a o φ:=by
         intro sv b v hdv hφ hr;refine ⟨_,_,hφ,rfl,WA (c:=c) hdv,fun w' h1 h2=>?_⟩;simp[execOp,ho,hr w' h1 h2]
        have hg:∀w',UY H E c.hp w w'->(getObj b).run P w'=.ok (.map ms clk) w':=fun w' h1=>by simp[getObj,lD,hkeep w' h1]
        cases p with
        |true=>
         cases ov with
         |none=>exact hpo.elim |some v=>
          refine fin _ aC v hpo.1 hφ fun w' h1 h2=>?_
          obtain ⟨r,e1,e2⟩:=OO hp (n:=n) (w:=w') hok.key;rw[ex,dy];rcases e2 with ⟨_,e2⟩ |⟨i,m,rfl,e3,e4⟩
          ·obtain ⟨m,hm,q⟩:=hok.ex _ _ hat
           exact (e2 m hm q).elim
          ·have hv:=hok.ZP m (bT e3) n e4
           rw[hat] at hv;injection hv with hv
           subst hv;cases ok<;>simp[jh,run_underlying ht,hg w' h1,hp.chk,e1]
        |false=>
         cases ov with
         |some v=>exact hpo.elim |none=>
          refine fin _ ay zv hzd hφ fun w' h1 h2=>?_
          obtain ⟨r,e1,e2⟩:=OO hp (n:=n) (w:=w') hok.key;rw[ex,dy];rcases e2 with ⟨rfl,_⟩ |⟨i,m,_,e3,e4⟩
          ·cases ok<;>simp[jh,run_underlying ht,hg w' h1,hp.chk,e1,Us]
          ·have hv:=hok.ZP m (bT e3) n e4
           rw[hat] at hv;cases hv
       ·exact h.elim
      ·exact h.elim
     ·exact h.elim
    ·rename_i kk z hkk hz
     rw[hkk] at hkt;have hzero:∃zv:Value,Den H E z zv/\∀w:World,(zeroValue e).run P w=.ok zv w:=by
      obtain ⟨inf,zv,h1,h2,_,h4,h5,h6,h7,h8⟩:=hte.info;have h5':AA H E te.zero zv.cells.toList:=h5.le (fun _ _ e=>by cases e) (fun _ _ e=>by cases e);refine ⟨zv,?_,fun w=>by simp[zeroValue,typeInfo,h1,h4]⟩;rcases Nu hz with ⟨ha,rfl⟩ |⟨ha,hl⟩
      ·obtain ⟨cs,rfl⟩:=h7 ha
       exact ⟨cs,rfl,h5'⟩
      ·rw[hl] at h5'
       have h8:=(h8 ha).2;cases zv with
       |agg cs=>simp[ku] at h8 |_=>
        simp[mY,AA] at h5';exact h5'
     obtain ⟨zv,hzd,Us⟩:=hzero;have fin:∀(sv:SV) (b:Bool) (v:Value),Den H E sv v->(I8 c ok sv b).All φ->(∀w',UY H E c.hp w w'->H.on w'->(jh t (a.eval x) (a.eval y) ok).run P w'=.ok (if ok then .tuple #[v,.bool b] else v) w')->Wi P H E w c a o φ:=by
      intro sv b v hdv hφ hr;refine ⟨_,_,hφ,rfl,WA (c:=c) hdv,fun w' h1 h2=>?_⟩;simp[execOp,ho,hr w' h1 h2]
     split at h
     ·rename_i hx
      rw[hx] at dx;have dx:a.eval x=.map aK:=dx;split at h
      ·rename_i j n l hk
       have dy:a.eval y=.int j n:=KU hk dy;cases hb:(j==kk)<;>simp only[hb,cond_true,cond_false] at h
       ·exact h.elim
       obtain rfl:j=kk:=by simpa using hb
       refine fin _ _ _ hzd h fun w' h1 h2=>?_
       rw[dx,dy];exact (Ky ht hkt (Us w') (te:=te) (.inl ⟨rfl,rfl⟩)).1 rfl
      ·exact h.elim
     ·rename_i id hx
      rw[hx] at dx;obtain ⟨b,he,ex⟩:=dx;split at h
      ·rename_i es hl
       obtain ⟨b',ms,clk,he',hw,hdm,_⟩:=hh.ent _ _ hl;rw[he] at he';cases he';have hkeep:∀w',UY H E c.hp w w'->w'.heap[b]?=ak (.map ms clk):=fun w' ha=>by
        rw[Jw ha hl (b:=b) (by simp[Bd,he,AL]),hw]
       split at h
       ·rename_i k n hy
        rw[hy] at dy;have dy:a.eval y=.int k n:=dy;cases hb:(k==kk)<;>simp only[hb,cond_true,cond_false] at h
        ·exact h.elim
        obtain rfl:k=kk:=by simpa using hb
        split at h
        ·rename_i sv hf
         rcases U3 0 hf hdm with ⟨e1,_⟩ |⟨sv',i,v,e1,e2,e3⟩
         ·cases e1
         ·cases e1
          refine fin _ _ _ e3 h fun w' h1 h2=>?_
          rw[ex,dy];exact (Ky ht hkt (Us w') (te:=te) (.inr ⟨b,clk,rfl,by simpa using hkeep w' h1⟩)).2 i v e2
        ·rename_i hf
         rcases U3 0 hf hdm with ⟨_,e2⟩ |⟨sv',i,v,e1,_⟩
         ·refine fin _ _ _ hzd h fun w' h1 h2=>?_
          rw[ex,dy];exact (Ky ht hkt (Us w') (te:=te) (.inr ⟨b,clk,rfl,by simpa using hkeep w' h1⟩)).1 e2
         ·cases e1
        ·exact h.elim
       ·rename_i k n hy
        rw[hy] at dy;have dy:a.eval y=.int k n:=dy;cases hb:(k==kk)<;>simp only[hb,cond_true,cond_false] at h
        ·exact h.elim
        obtain rfl:k=kk:=by simpa using hb
        rcases adu hC.A 0 h hdm with ⟨e2,hφ⟩ |⟨sv',i,v,hφ,e2,e3⟩
        ·refine fin _ _ _ hzd hφ fun w' h1 h2=>?_
         rw[ex,dy];exact (Ky ht hkt (Us w') (te:=te) (.inr ⟨b,clk,rfl,by simpa using hkeep w' h1⟩)).1 e2
        ·refine fin _ _ _ e3 hφ fun w' h1 h2=>?_
         rw[ex,dy];exact (Ky ht hkt (Us w') (te:=te) (.inr ⟨b,clk,rfl,by simpa using hkeep w' h1⟩)).2 i v e2
       ·exact h.elim
      ·rename_i fk M fs us tag hl
       obtain ⟨b',ms,clk,fv,uv,he',hw,d1,d2,hM,hok,_,_⟩:=hh.ent _ _ hl;rw[he] at he';cases he';have hkeep:∀w',UY H E c.hp w w'->w'.heap[b]?=ak (.map ms clk):=fun w' ha=>by
        rw[Jw ha hl (b:=b) (by simp[Bd,he,AL]),hw]
       split at h
       ·rename_i j n l hk
        have dy:a.eval y=.int j n:=KU hk dy;cases hb:(j==kk&&fk==kk)<;>simp only[hb,cond_true,cond_false] at h
        ·exact h.elim
        simp only[aI,beq_iff_eq] at hb;obtain ⟨rfl,rfl⟩:=hb;rw[hC.A] at h;obtain ⟨p,sv,o,hφ,hpo,hat⟩:=Y4 hM d2 d1 h;rw[<-hok.at_] at hat;cases p with
        |true=>
         cases o with
         |none=>exact hpo.elim |some v=>
          obtain ⟨i,hi⟩:=I9 hok.key 0 hat;refine fin _ _ _ hpo.1 hφ fun w' h1 h2=>?_
          rw[ex,dy];exact (Ky ht hkt (Us w') (te:=te) (.inr ⟨b,clk,rfl,by simpa using hkeep w' h1⟩)).2 _ _ hi.1
        |false=>
         cases o with
         |some v=>exact hpo.elim |none=>
          have hi:=KW hok.key 0 hat;refine fin _ _ _ hzd hφ fun w' h1 h2=>?_
          rw[ex,dy];exact (Ky ht hkt (Us w') (te:=te) (.inr ⟨b,clk,rfl,by simpa using hkeep w' h1⟩)).1 hi
       ·exact h.elim
      ·exact h.elim
     ·exact h.elim
    ·exact h.elim
   ·exact h.elim
  ·exact h.elim
 ·exact h.elim
theorem alq{t e:Nat}(hu:P.underlying t=ak (.slice e))(A:Option Addr)(n k:Nat)(w:World):(iw t (.slice A n k) (.slice aK 0 0)).run P w=.ok A.isNone w:=by
 have:∀n':Nat,(fQ (n'+1) t (.slice A n k) (.slice aK 0 0)).run P w=.ok A.isNone w:=fun n'=>by
  cases A<;>simp[fQ,run_underlying hu]
 exact this 9999
theorem aiv{hp:List (Nat×SB)}{x:SV}{n:Nat}{u:Value}(hh:AO K H E w hp)(h:amQ hp x=ak n)(dx:Den H E x u):∃A k,u=.slice A n k/\(0<n->A.isNone=ay):=by
 unfold amQ at h;split at h
 ·rename_i id
  obtain ⟨he,A,m,cc,rfl⟩:=dx;have key:∀{elem st n:Nat} {xs:List Value},w.ownsRow 0 elem st (.slice A m cc) n xs->m=n/\(0<n->A.isNone=ay):=fun {elem st n xs} hr=>by
   rcases hr.2 with ⟨h1,rfl⟩ |⟨g,cap,cur,h1,_⟩
   ·cases h1;exact ⟨rfl,fun h=>by omega⟩
   ·cases h1;exact ⟨rfl,fun _=>rfl⟩
  split at h
  ·rename_i cells el st m' hl
   cases h;obtain ⟨v,xs,he',hr,_,_⟩:=hh.ent _ _ hl;rw[he] at he';cases he';obtain ⟨rfl,h2⟩:=key hr;exact ⟨_,_,rfl,h2⟩
  ·rename_i el st m' g hl
   cases h;obtain ⟨v,xs,he',hr,_,_⟩:=hh.ent _ _ hl;rw[he] at he';cases he';obtain ⟨rfl,h2⟩:=key hr;exact ⟨_,_,rfl,h2⟩
  ·rename_i st m' g hl
   cases h;obtain ⟨v,he',hr⟩:=hh.ent _ _ hl;rw[he] at he';cases he';cases hr
   ·exact ⟨_,_,rfl,fun h=>by omega⟩
   ·exact ⟨_,_,rfl,fun _=>rfl⟩
  ·cases h
 ·cases h
  cases dx
  ·exact ⟨_,_,rfl,fun h=>by omega⟩
  ·exact ⟨_,_,rfl,fun _=>rfl⟩
 ·cases h
theorem Ol{x:SV}{l:List UInt8}{v:Value}(h:textOf x=ak l)(d:Den H E x v):v=.string ⟨l.toArray⟩:=by
 unfold textOf at h;split at h
 ·cases h;exact d
 ·cases h;exact Pz d
 ·cases h
theorem aeK{P:Program}(l l':List UInt8)(h:l.length+l'.length<=9223372036854775807)(t:Nat)(x y:Operand)(w:World):
  (do eqGuard .add t x y (.string ⟨l.toArray⟩) (.string ⟨l'.toArray⟩);binOp .add t (.string ⟨l.toArray⟩) (.string ⟨l'.toArray⟩):Sem Value).run P w=.ok (.string ⟨(l++l').toArray⟩) w:=by
 have e:(⟨l.toArray⟩:ByteArray)++⟨l'.toArray⟩=⟨(l++l').toArray⟩:=by
  apply ByteArray.ext;rw[ByteArray.data_append];simp
 have h1:(eqGuard .add t x y (.string ⟨l.toArray⟩) (.string ⟨l'.toArray⟩):Sem Unit).run P w=.ok () w:=by simp[eqGuard]
 rw[gK,h1];show (binOp .add t (.string ⟨l.toArray⟩) (.string ⟨l'.toArray⟩):Sem Value).run P w=_;rw[Go.binOp_string_add,Go.run_string_add_sum w _ _ (by simpa[nR] using h),e]
theorem Y6{x:SV}{k:IntKind}{n:Int}{b:Bool}{u:Value}(h:numOf x=ak (k,n,b))(hd:Den H E x u):u=.int k n:=by
 unfold numOf at h;split at h
 ·cases h;exact hd
 ·cases h;exact hd
 ·cases h
theorem alr{op:BinOp}{k l:IntKind}{a b:Int}(h:(op=.shl/\0<=b)\/(op=.shr/\0<=b)\/(op=.quo/\k=l/\b≠0)\/(op=.rem/\k=l/\b≠0)\/((op=.and\/op=.or\/op=.xor\/op=.andNot)/\k=l))(t:Nat)(x y:Operand)(w:World):
  (do eqGuard op t x y (.int k a) (.int l b);binOp op t (.int k a) (.int l b):Sem Value).run P w=.ok (.int k (VY op k a b)) w:=by
 rcases h with ⟨rfl,h⟩ |⟨rfl,h⟩ |⟨rfl,rfl,h⟩ |⟨rfl,rfl,h⟩ |⟨h,rfl⟩
 ·have:¬b<0:=by omega
  simp[eqGuard,binOp,Op.shift,this,VY]
 ·have:¬b<0:=by omega
  simp[eqGuard,binOp,Op.shift,this,VY]
 ·simp[eqGuard,binOp,Op.intDiv,h,VY]
 ·simp[eqGuard,binOp,Op.intDiv,h,VY]
 ·rcases h with rfl|rfl|rfl|rfl<;>simp[eqGuard,binOp,Op.intBits,VY]
theorem als{A:Prim}(hA:A=Ai){op:BinOp}{k:IntKind}{a b:Int}{la lb:Bool}{c:Core}{φ:SV×Core->Prop}(h:(Nj A op k a b la lb c).All φ):∃sv,φ (sv,c)/\Den H E sv (.int k (VY op k a b)):=by
 subst hA;unfold Nj at h;refine ⟨_,h,?_⟩;cases la<;>cases lb<;>rfl
theorem am9{c:Core}{a:Act}{op:BinOp}{t:Nat}{x y:Operand}{φ:SV×Core->Prop}{r:Tree (SV×Core)}(hC:BG P C)(hd:AA H E c.tm a.tmps.toList)(hr:amR C c op (BI c.tm x) (BI c.tm y)=ak r)(h:r.All φ):
  ∃(p:SV×Core) (v:Value),φ p/\p.2=c/\Den H E p.1 v/\∀w',(do eqGuard op t x y (a.eval x) (a.eval y);binOp op t (a.eval x) (a.eval y):Sem Value).run P w'=.ok v w':=by
 have dx:=BA (H:=H) (E:=E) hd x;have dy:=BA (H:=H) (E:=E) hd y;have fin:∀{k l:IntKind} {n m:Int} {la lb:Bool},numOf (BI c.tm x)=ak (k,n,la)->numOf (BI c.tm y)=ak (l,m,lb)->(Nj C.A op k n m la lb c).All φ->
   ((op=.shl/\0<=m)\/(op=.shr/\0<=m)\/(op=.quo/\k=l/\m≠0)\/(op=.rem/\k=l/\m≠0)\/((op=.and\/op=.or\/op=.xor\/op=.andNot)/\k=l))->
   ∃(p:SV×Core) (v:Value),φ p/\p.2=c/\Den H E p.1 v/\∀w',(do eqGuard op t x y (a.eval x) (a.eval y);binOp op t (a.eval x) (a.eval y):Sem Value).run P w'=.ok v w':=by
  intro k l n m la lb h1 h2 h3 h4;obtain ⟨sv,h5,h6⟩:=als hC.A h3;refine ⟨_,_,h5,rfl,h6,fun w'=>?_⟩;rw[Y6 h1 dx,Y6 h2 dy];exact alr h4 t x y w'
 unfold amR at hr;split at hr
 ·rename_i k n la l m lb h1 h2
  cases hr;cases lb<;>simp only[cond_true,cond_false] at h
  ·rw[hC.A] at h
   have h0:(0:Int)<=m:=of_decide_eq_true h.1;exact fin h1 h2 (by rw[hC.A];exact h.2) (.inl ⟨rfl,h0⟩)
  ·cases h0:decide (0<=m)<;>simp only[h0,cond_true,cond_false] at h
   ·exact h.elim
   ·exact fin h1 h2 h (.inl ⟨rfl,of_decide_eq_true h0⟩)
 ·rename_i k n la l m lb h1 h2
  cases hr;cases lb<;>simp only[cond_true,cond_false] at h
  ·rw[hC.A] at h
   have h0:(0:Int)<=m:=of_decide_eq_true h.1;exact fin h1 h2 (by rw[hC.A];exact h.2) (.inr (.inl ⟨rfl,h0⟩))
  ·cases h0:decide (0<=m)<;>simp only[h0,cond_true,cond_false] at h
   ·exact h.elim
   ·exact fin h1 h2 h (.inr (.inl ⟨rfl,of_decide_eq_true h0⟩))
 ·rename_i k n la l m lb h1 h2
  cases hk:(k==l)<;>simp only[hk,cond_true,cond_false] at hr
  ·cases hr
  cases hr;have hk:k=l:=by simpa using hk
  cases lb<;>simp only[cond_true,cond_false] at h
  ·rw[hC.A] at h
   have h0:(!(m==0))=aC:=h.1;exact fin h1 h2 (by rw[hC.A];exact h.2) (.inr (.inr (.inl ⟨rfl,hk,by simpa using h0⟩)))
  ·cases h0:(m==0)<;>simp only[h0,cond_true,cond_false] at h
   ·exact fin h1 h2 h (.inr (.inr (.inl ⟨rfl,hk,by simpa using h0⟩)))
   ·exact h.elim
 ·rename_i k n la l m lb h1 h2
  cases hk:(k==l)<;>simp only[hk,cond_true,cond_false] at hr
  ·cases hr
  cases hr;have hk:k=l:=by simpa using hk
  cases lb<;>simp only[cond_true,cond_false] at h
  ·rw[hC.A] at h
   have h0:(!(m==0))=aC:=h.1;exact fin h1 h2 (by rw[hC.A];exact h.2) (.inr (.inr (.inr (.inl ⟨rfl,hk,by simpa using h0⟩))))
  ·cases h0:(m==0)<;>simp only[h0,cond_true,cond_false] at h
   ·exact fin h1 h2 h (.inr (.inr (.inr (.inl ⟨rfl,hk,by simpa using h0⟩))))
   ·exact h.elim
 all_goals first
  |(cases hr;done)
  |(rename_i k n la l m lb h1 h2
    cases hk:(k==l)<;>simp only[hk,cond_true,cond_false] at hr
    ·cases hr
    cases hr;have hk:k=l:=by simpa using hk
    exact fin h1 h2 h (.inr (.inr (.inr (.inr ⟨by simp,hk⟩)))))
theorem aaL{c:Core}{a:Act}{o:Oper}{op:BinOp}{t t2:Nat}{x y:Operand}{φ:SV×Core->Prop}(hC:BG P C)(hg:Dj C.gls H)(ho:o.op=.binOp op t x y t2)(hd:AA H E c.tm a.tmps.toList)(hh:AO K H E w c.hp)
  (h:(aay C c op t x y (isConst x||isConst y)).All φ):∃(p:SV×Core) (v:Value),φ p/\p.2=c/\Den H E p.1 v/\∀w',((Ko (BI c.tm x)&&Ko (BI c.tm y))=aC->H.on w')->(execOp a.eval o).run P w'=.ok (.value v) w':=by
 unfold aay at h;split at h
 ·rename_i r hr
  obtain ⟨p,v,h1,h2,h3,h4⟩:=am9 (t:=t) hC hd hr h;refine ⟨p,v,h1,h2,h3,fun w' _=>?_⟩;have:=h4 w';simp only[execOp,ho];simp only[gK] at this ⊢;rw[this];rfl
 split at h
 ·rename_i r hr
  unfold aj9 at hr;split at hr
  ·split at hr
   ·rename_i l l' h1 h2
    cases hr;obtain ⟨h3,hφ⟩:=h;rw[hC.A] at h3 hφ;have ex:=Ol h1 (BA (H:=H) (E:=E) hd x);have ey:=Ol h2 (BA (H:=H) (E:=E) hd y);have h3:l.length+l'.length<=9223372036854775807:=of_decide_eq_true h3;refine ⟨_,.string ⟨(l++l').toArray⟩,hφ,rfl,.str _,fun w' _=>?_⟩;have:=aeK (P:=P) l l' h3 t x y w';simp only[execOp,ho,ex,ey];simp only[gK] at this ⊢;rw[this];rfl
   ·cases hr
  ·cases hr
 split at h
 ·rename_i r hr
  unfold adl at hr;split at hr
  ·rename_i i hi
   split at hr
   ·rename_i e hty
    have ht:=(hC.ty _ _ hi).desc;rw[hty] at ht;have ht:P.underlying t=ak (.slice e):=ht;cases hn:XJ y<;>simp only[hn,cond_true,cond_false] at hr
    ·cases hr
    have ey:a.eval y=.slice aK 0 0:=by
     unfold XJ at hn;split at hn
     ·rfl
     ·cases hn
    split at hr
    ·rename_i va vb hva hvb
     have dx:=BA (H:=H) (E:=E) hd x;have fin:∀(r:Bool) (sv:SV) (A:Option Addr) (n k:Nat),a.eval x=.slice A n k->A.isNone=r->D7 op r=ak sv->φ (sv,c)->∃(p:SV×Core) (v:Value),φ p/\p.2=c/\Den H E p.1 v/\∀w',((Ko (BI c.tm x)&&Ko (BI c.tm y))=aC->H.on w')->(execOp a.eval o).run P w'=.ok (.value v) w':=by
      intro r sv A n k ex hA hop hφ;have hgd:eqGuard op t x y (.slice A n k) (.slice aK 0 0)=pure ():=by
       unfold eqGuard;cases op<;>rfl
      have he1:binOp .eql t (.slice A n k) (.slice aK 0 0)=(do pure (.bool (<-iw t (.slice A n k) (.slice aK 0 0)))):=rfl;have he2:binOp .neq t (.slice A n k) (.slice aK 0 0)=(do pure (.bool (!(<-iw t (.slice A n k) (.slice aK 0 0))))):=rfl;obtain ⟨rv,h1,h2⟩:=Eo (H:=H) (E:=E) hop hgd he1 he2 fun w=>by rw[<-hA];exact alq ht A n k w
      refine ⟨_,rv,hφ,rfl,h1,fun w' _=>?_⟩;have:=h2 w';simp only[execOp,ho,ex,ey];simp only[gK] at this ⊢;rw[this];rfl
     split at hr
     ·rename_i hx
      cases hr;rw[hx] at dx;exact fin aC _ aK 0 0 dx rfl hva h
     ·split at hr
      ·rename_i n hn2
       cases hr;obtain ⟨A,k,ex,hA⟩:=aiv hh hn2 dx;cases hb:C.A.ZN n 0 with
       |true=>
        obtain ⟨h1,h2⟩:=h.1 hb;cases hx:A.isNone with
        |true=>exact fin aC _ A n k ex hx hva h1 |false=>exact fin ay _ A n k ex hx hvb h2
       |false=>
        rw[hC.A] at hb;exact fin ay _ A n k ex (hA (by simpa[Ai,Nat.pos_iff_ne_zero] using hb)) hvb (h.2 (by rw[hC.A];exact hb))
      ·cases hr
    ·cases hr
   ·cases hr
  ·cases hr
 ·refine am5 hC hg ho hd ?_
  split at h
  ·rename_i v hv;rw[hv];exact h
  ·exact h.elim
theorem WC{call:Nat->List SV->Core->Tree (SV×Core)}{c:Core}{a:Act}{o:Oper}{φ:SV×Core->Prop}(hC:BG P C)(hd:AA H E c.tm a.tmps.toList)(hh:AO K H E w c.hp)(hg:Dj C.gls H)
  (hq:Dn o.op=aC) (h:(Qo C call c o).All φ):Wi P H E w c a o φ:=by
 unfold Qo at h;split at h;case h_1 x ho=>exact (aag (.inl ho) hd h).q
 case h_2 x ho=>exact (aag (.inr ho) hd h).q
 case h_3 x y z ho=>exact (akf hC.A ho hd h).q
 case h_6 t parts ho=>exact (afP hC ho hd h).q
 case h_8 t x ho=>exact aq4 hC ho hd hh hg h
 case h_10 x ho=>exact (am3 ho hd h).q
 case h_11 op t x y t2 ho=>exact let ⟨p,v,h1,h2,h3,h4⟩:=aaL hC hg ho hd hh h;⟨p,v,h1,h2,h3,fun w' _ hon=>h4 w' fun _=>hon⟩
 case h_12 t x ho=>exact (am1 hC.A ho hd h).q
 case h_13 t x ho=>exact (am2 hC.A ho hd h).q
 case h_14 t x f ho=>exact (Wn hC ho hd h).q
 case h_15 t x f ho=>exact (afI hC ho hd h).q
 case h_16 t x i ho=>exact (Wq hC ho hd hh hg h).q
 case h_17 x i ho=>exact (aaF ho hd h).q
 case h_18 f fs cs ho=>exact (YW ho hd h).q
 case h_19 t x ho=>exact (PD hC ho hd h).q
 case h_23 t m k ok ho=>exact alp hC hd hh ho h
 case h_28 k ho=>
  rw[ho] at hq;unfold TQ at h;split at h
  ·rename_i b hb
   obtain ⟨callee,xs,ts⟩:=k;simp only at hb;subst hb;simp only at h;split at h
   ·rename_i x t h1 h2
    split at h
    ·rename_i i hi
     cases hf:Pv i.ty (BI c.tm x)<;>simp only[hf,cond_true,cond_false] at h
     ·exact h.elim
     have e1:xs=#[x]:=by cases xs;simp at h1;subst h1;rfl
     have e2:ts=#[t]:=by cases ts;simp at h2;subst h2;rfl
     subst e1 e2;exact (q_len hC hd hh ho hi hf h).q
    ·exact h.elim
   ·simp[Dn] at hq
   ·simp[Dn] at hq
   ·rename_i x y h1
    have e1:xs=#[x,y]:=by cases xs;simp at h1;subst h1;rfl
    subst e1;exact (aeJ (mx:=aC) hC hd ho h).q
   ·rename_i x y h1
    have e1:xs=#[x,y]:=by cases xs;simp at h1;subst h1;rfl
    subst e1;exact (aeJ (mx:=ay) hC hd ho h).q
   ·exact h.elim
  ·rename_i f hb
   obtain ⟨callee,xs,ts⟩:=k;simp only at hb;subst hb;simp[Dn] at hq
  ·exact h.elim
 case h_30=>exact h.elim
 all_goals first
  |(rename_i ho;rw[ho] at hq;simp[Dn] at hq;done)
  |skip
theorem afR{call:Nat->List SV->Core->Tree (SV×Core)}{c:Core}{a:Act}{o:Oper}{φ:SV×Core->Prop}(hC:BG P C)(hd:AA H E c.tm a.tmps.toList)(hh:AO K H E w c.hp)(hg:Dj C.gls H)
  (hq:KT c.tm o.op=aC) (h:(Qo C call c o).All φ):QP P H E c a o φ:=by
 unfold Qo at h;split at h;case h_1 x ho=>exact aag (.inl ho) hd h
 case h_2 x ho=>exact aag (.inr ho) hd h
 case h_3 x y z ho=>exact akf hC.A ho hd h
 case h_6 t parts ho=>exact afP hC ho hd h
 case h_10 x ho=>exact am3 ho hd h
 case h_11 op t x y t2 ho=>
  rw[ho] at hq;exact let ⟨p,v,h1,h2,h3,h4⟩:=aaL hC hg ho hd hh h;⟨p,v,h1,h2,h3,fun w'=>h4 w' fun e=>by simp[KT,e] at hq⟩
 case h_12 t x ho=>exact am1 hC.A ho hd h
 case h_13 t x ho=>exact am2 hC.A ho hd h
 case h_14 t x f ho=>exact Wn hC ho hd h
 case h_15 t x f ho=>exact afI hC ho hd h
 case h_16 t x i ho=>exact Wq hC ho hd hh hg h
 case h_17 x i ho=>exact aaF ho hd h
 case h_18 f fs cs ho=>exact YW ho hd h
 case h_19 t x ho=>exact PD hC ho hd h
 case h_28 k ho=>
  rw[ho] at hq;unfold TQ at h;split at h
  ·rename_i b hb
   obtain ⟨callee,xs,ts⟩:=k;simp only at hb;subst hb;simp only at h;split at h
   ·rename_i x t h1 h2
    split at h
    ·rename_i i hi
     cases hf:Pv i.ty (BI c.tm x)<;>simp only[hf,cond_true,cond_false] at h
     ·exact h.elim
     have e1:xs=#[x]:=by cases xs;simp at h1;subst h1;rfl
     have e2:ts=#[t]:=by cases ts;simp at h2;subst h2;rfl
     subst e1 e2;exact q_len hC hd hh ho hi hf h
    ·exact h.elim
   ·simp[KT,Dn] at hq
   ·simp[KT,Dn] at hq
   ·rename_i x y h1
    have e1:xs=#[x,y]:=by cases xs;simp at h1;subst h1;rfl
    subst e1;exact aeJ (mx:=aC) hC hd ho h
   ·rename_i x y h1
    have e1:xs=#[x,y]:=by cases xs;simp at h1;subst h1;rfl
    subst e1;exact aeJ (mx:=ay) hC hd ho h
   ·exact h.elim
  ·rename_i f hb
   obtain ⟨callee,xs,ts⟩:=k;simp only at hb;subst hb;simp[KT,Dn] at hq
  ·exact h.elim
 case h_30=>exact h.elim
 all_goals first
  |(rename_i ho;rw[ho] at hq;simp[KT,Dn] at hq;done)
  |skip
mutual
theorem adv:∀{x:SV} {v:Value},Den H E x v->Den H E x.hard v
 | .agg l,_,h=>by obtain ⟨vs,e,h⟩:=h;exact ⟨vs,e,U4 h⟩ | .AQ l,_,h=>by obtain ⟨vs,e,h⟩:=h;exact ⟨vs,e,U4 h⟩ | .any,_,h| .val _,_,h| .int _ _,_,h| .sym _ _,_,h| .bool _,_,h| .test _,_,h| .str _,_,h| .ptr _ _,_,h| .gs _,_,h| .gp _ _ _ _,_,h| .EZ,_,h| .A8,_,h| .Gy,_,h| .DT,_,h| .FY,_,h| .fn _ _,_,h| .C9 _ _,_,h| .mp _,_,h| .sh _,_,h| .GX _ _ _ _ _,_,h| .glob _,_,h| .ev _,_,h| .vw _ _,_,h=>h
theorem U4:∀{l:List SV} {vs:List Value},AA H E l vs->AA H E (aey l) vs
 |[],[],_=>trivial |_::_,_::_,h=>⟨adv h.1,U4 h.2⟩ |[],_::_,h=>h.elim |_::_,[],h=>h.elim
end
theorem Tree.Jj{α β:Type}{φ:β->Prop}{k:α->Tree β}:∀{t:Tree α},(t.bind k).All φ->t.All fun a=>(k a).All φ
 | .leaf _,h=>h | .node _ _ _,h=>⟨fun e=>Tree.Jj (h.1 e),fun e=>Tree.Jj (h.2 e)⟩ | .need _ _,h=>⟨h.1,Tree.Jj h.2⟩ | .must _ _,h=>⟨h.1,Tree.Jj h.2⟩ | .both _ _,h=>⟨Tree.Jj h.1,Tree.Jj h.2⟩ | .fail,h=>h.elim
theorem U5{call:Nat->List SV->Core->Tree (SV×Core)}{c:Core}{o:Oper}{φ:SV×Core->Prop}(h:(exec C call c o).All φ):∃ψ:SV×Core->Prop,(Qo C call c o).All ψ/\∀p,ψ p->∃x,φ (x,p.2)/\∀(H:Mem) (E:Env) (v:Value),Den H E p.1 v->Den H E x v:=by
 unfold exec at h;cases hl:C.lits<;>simp only[hl,cond_true,cond_false] at h
 ·exact ⟨φ,h,fun p hp=>⟨p.1,hp,fun _ _ _ e=>e⟩⟩
 ·exact ⟨_,Tree.Jj h,fun p hp=>⟨p.1.hard,hp,fun _ _ _ e=>adv e⟩⟩
theorem afS{call:Nat->List SV->Core->Tree (SV×Core)}{c:Core}{a:Act}{o:Oper}{φ:SV×Core->Prop}(hC:BG P C)(hd:AA H E c.tm a.tmps.toList)(hh:AO K H E w c.hp)(hg:Dj C.gls H)
  (hq:Dn o.op=aC) (h:(exec C call c o).All φ):Wi P H E w c a o φ:=by
 obtain ⟨ψ,h,hψ⟩:=U5 h;obtain ⟨p,v,h1,h2,h3,h4⟩:=WC hC hd hh hg hq h;obtain ⟨x,q1,q2⟩:=hψ p h1;exact ⟨(x,p.2),v,q1,h2,q2 _ _ _ h3,h4⟩
theorem aiw{call:Nat->List SV->Core->Tree (SV×Core)}{c:Core}{a:Act}{o:Oper}{φ:SV×Core->Prop}(hC:BG P C)(hd:AA H E c.tm a.tmps.toList)(hh:AO K H E w c.hp)(hg:Dj C.gls H)
  (hq:KT c.tm o.op=aC) (h:(exec C call c o).All φ):QP P H E c a o φ:=by
 obtain ⟨ψ,h,hψ⟩:=U5 h;obtain ⟨p,v,h1,h2,h3,h4⟩:=afR hC hd hh hg hq h;obtain ⟨x,q1,q2⟩:=hψ p h1;exact ⟨(x,p.2),v,q1,h2,q2 _ _ _ h3,h4⟩
end
open Go.RowKit (Below)
def bk(E:Env)(id:Nat):Option Nat:=(E id).bind AL
def Free(E:Env)(c:Core):Prop:=∀i,c.nx<=i->i<c.lim->E i=aK
structure Post(K:Kx)(H:Mem)(E:Env)(w:World)(c:Core)(H':Mem)(E':Env)(w':World)(c':Core):Prop where
 IX:H.le H'
 ML:E.le E'
 new:∀i,E i=aK->E' i≠aK->c.nx<=i/\i<c'.nx
 nx:c.nx<=c'.nx
 lim:c'.nx<=c.lim\/c'.nx=c.nx
 afT:c'.lim=c.lim
 tm:c'.tm=c.tm
 hp:AO K H' E' w' c'.hp
 BZ:Eh K H' w'
 tc:∀id∈c.tc,id∈c'.tc
 size:w.heap.size<=w'.heap.size
 fr:∀b,b<w.heap.size->(∀id∈c'.tc,bk E id≠ak b)->w'.heap[b]?=w.heap[b]?
 Om:∀i b,E i=aK->bk E' i=ak b->w.heap.size<=b\/∃id∈c'.tc,bk E id=ak b
 ZR:∀id∈c'.tc,id∈c.tc\/E id=aK\/∃sb,Ak c.hp id=ak sb/\Bd E id sb=bk E id
 keep:∀id sb b,Ak c.hp id=ak sb->id ∉ c'.tc->Bd E id sb=ak b->H' b≠aK\/∃sb',Ak c'.hp id=ak sb'/\Bd E' id sb'=ak b
 old:∀id sb,Ak c'.hp id=ak sb->E id≠aK->∃sb0,Ak c.hp id=ak sb0/\∀b,Bd E' id sb=ak b->Bd E id sb0=ak b
section
variable{P:Program}{C:Ctx}{K:Kx}{H H':Mem}{E E':Env}{w w':World}
theorem Gs{elem st n:Nat}{v:Value}{xs:List Value}(h:w.ownsRow 0 elem st v n xs)(hk:∀b,AL v=ak b->w'.heap[b]?=w.heap[b]?):w'.ownsRow 0 elem st v n xs:=by
 refine ⟨h.1,?_⟩;rcases h.2 with h2|⟨g,cap,cur,rfl,h3,h4,h5⟩
 ·exact .inl h2
 ·exact .inr ⟨g,cap,cur,rfl,h3,by rw[hk g rfl];exact h4,h5⟩
theorem Oh.le(hH:H.le H')(hE:E.le E'):∀{es:List (SV×SV)} {ms:List MapEntry},Oh H E es ms->Oh H' E' es ms
 |[],[],_=>trivial |(_,_)::_,_::_,⟨a,b,c⟩=>⟨a.le hH hE,b.le hH hE,Oh.le hH hE c⟩ |[],_::_,h=>h.elim |_::_,[],h=>h.elim
theorem Gz.le(hH:H.le H')(hE:E.le E'):∀{l:List (Int×Bool×SV)} {v:List (Int×Option Value)},Gz H E l v->Gz H' E' l v
 |[],[],_=>trivial |(_,aC,_)::_,(_,ak _)::_,⟨a,b,c⟩=>⟨a,⟨b.1.le hH hE,b.2⟩,Gz.le hH hE c⟩ |(_,ay,_)::_,(_,aK)::_,⟨a,_,c⟩=>⟨a,trivial,Gz.le hH hE c⟩ |(_,aC,_)::_,(_,aK)::_,h=>h.2.1.elim |(_,ay,_)::_,(_,ak _)::_,h=>h.2.1.elim |[],_::_,h=>h.elim |_::_,[],h=>h.elim
theorem V9.le(hH:H.le H')(hE:E.le E'):∀{l:List (DY×Bool×SV)} {v:List (DY×Option Value)},V9 H E l v->V9 H' E' l v
 |[],[],_=>trivial |(_,aC,_)::_,(_,ak _)::_,⟨a,b,c⟩=>⟨a,⟨b.1.le hH hE,b.2⟩,V9.le hH hE c⟩ |(_,ay,_)::_,(_,aK)::_,⟨a,_,c⟩=>⟨a,trivial,V9.le hH hE c⟩ |(_,aC,_)::_,(_,aK)::_,h=>h.2.1.elim |(_,ay,_)::_,(_,ak _)::_,h=>h.2.1.elim |[],_::_,h=>h.elim |_::_,[],h=>h.elim
theorem aeG.le(hE:E.le E'){k:IntKind}{ms:List MapEntry}{t:Option (Nat×Int)}(h:aeG E k ms t):aeG E' k ms t:=by
 cases t with
 |none=>trivial |some p=>obtain ⟨m,a,b,c⟩:=h;exact ⟨m,a,b,hE _ _ c⟩
theorem acZ{e:Nat}{v:Value}{l:List UInt8}(h:GY w e v l)(hk:∀b,AL v=ak b->w'.heap[b]?=w.heap[b]?):GY w' e v l:=by
 rcases h with h|⟨g,cap,cur,fz,rfl,h1,h2⟩
 ·exact .inl h
 ·exact .inr ⟨g,cap,cur,fz,rfl,by rw[hk g rfl];exact h1,h2⟩
theorem afU{e b:Nat}{v:Value}{l:List UInt8}(h:GY w e v l)(hb:AL v=ak b):b<w.heap.size:=by
 rcases h with ⟨rfl,_⟩ |⟨g,cap,cur,fz,rfl,h1,h2⟩
 ·simp[AL] at hb
 ·simp[AL] at hb;subst hb;exact (bH.1 h1).1
theorem GI.kept{id:Nat}{sb:SB}(h:GI K H E w id sb)(hH:H.le H')(hE:E.le E')(hb:∀b,Bd E id sb=ak b->w'.heap[b]?=w.heap[b]?)(hm:∀b,Bd E id sb=ak b->H' b=aK):GI K H' E' w' id sb:=by
 cases sb with
 |box cells elem=>
  obtain ⟨b,cs,he,h1,h2,h3⟩:=h;have ho:Bd E id (.box cells elem)=ak b:=by simp[Bd,he,AL]
  exact ⟨b,cs,hE _ _ he,by rw[hb b ho];exact h1,h2.le hH hE,hm b ho,h3.2⟩
 |row cells elem st n=>
  obtain ⟨v,xs,he,h1,h2,h3⟩:=h;have ho:∀b,AL v=ak b->Bd E id (.row cells elem st n)=ak b:=fun b hv=>by simp[Bd,he,hv]
  exact ⟨v,xs,hE _ _ he,Gs h1 fun b hv=>hb b (ho b hv),h2.le hH hE,fun b hv=>⟨hm b (ho b hv),(h3 b hv).2⟩⟩
 |own elem st n g=>
  obtain ⟨v,xs,he,h1,h2,h3⟩:=h;have ho:∀b,AL v=ak b->Bd E id (.own elem st n g)=ak b:=fun b hv=>by simp[Bd,he,hv]
  exact ⟨v,xs,hE _ _ he,Gs h1 fun b hv=>hb b (ho b hv),h2.le hH,fun b hv=>⟨hm b (ho b hv),(h3 b hv).2⟩⟩
 |fz st n g=>
  obtain ⟨v,he,h1⟩:=h;exact ⟨v,hE _ _ he,h1.le hH⟩
 |map es=>
  obtain ⟨b,ms,clk,he,h1,h2,h3⟩:=h;have ho:Bd E id (.map es)=ak b:=by simp[Bd,he,AL]
  exact ⟨b,ms,clk,hE _ _ he,by rw[hb b ho];exact h1,h2.le hH hE,hm b ho,h3.2⟩
 |Rw l=>
  obtain ⟨v,he,h1⟩:=h;exact ⟨v,hE _ _ he,h1.le hH⟩
 |Hf elem st n g more=>
  obtain ⟨v,xs,ys,he,h1,h2,h3,h4,h5,h6⟩:=h;have ho:∀b,AL v=ak b->Bd E id (.Hf elem st n g more)=ak b:=fun b hv=>by simp[Bd,he,hv]
  exact ⟨v,xs,ys,hE _ _ he,Gs h1 fun b hv=>hb b (ho b hv),h2.le hH,h3.le hH hE,h4,h5,fun b hv=>⟨hm b (ho b hv),(h6 b hv).2⟩⟩
 |fm k M fs us tag=>
  obtain ⟨b,ms,clk,fv,uv,he,h1,h2,h3,h4,h5,h6,h7⟩:=h;have ho:Bd E id (.fm k M fs us tag)=ak b:=by simp[Bd,he,AL]
  exact ⟨b,ms,clk,fv,uv,hE _ _ he,by rw[hb b ho];exact h1,h2.le hH hE,h3.le hH hE,h4,h5,h6.le hE,hm b ho,h7.2⟩
 |pm vt M us=>
  obtain ⟨b,ms,clk,uv,he,h1,h2,h3,h4,h5,h7⟩:=h;have ho:Bd E id (.pm vt M us)=ak b:=by simp[Bd,he,AL]
  exact ⟨b,ms,clk,uv,hE _ _ he,by rw[hb b ho];exact h1,h2.le hH hE,h3,h4,h5,hm b ho,h7.2⟩
 |buf e l=>
  obtain ⟨v,he,h1,h3⟩:=h;have ho:∀b,AL v=ak b->Bd E id (.buf e l)=ak b:=fun b hv=>by simp[Bd,he,hv]
  exact ⟨v,hE _ _ he,acZ h1 fun b hv=>hb b (ho b hv),fun b hv=>⟨hm b (ho b hv),(h3 b hv).2⟩⟩
theorem GI.lt{id:Nat}{sb:SB}(h:GI K H E w id sb){b:Nat}(hb:Bd E id sb=ak b):b<w.heap.size/\Mine K H b:=by
 have lt:∀{b:Nat} {o:Obj},w.heap[b]?=ak o->b<w.heap.size:=fun h=>(bH.1 h).1;have lto:∀{elem st n:Nat} {v:Value} {xs:List Value},w.ownsRow 0 elem st v n xs->AL v=ak b->b<w.heap.size:=by
  intro elem st n v xs h hv;rcases h.2 with ⟨rfl,_⟩ |⟨g,_,_,rfl,_,h4,_⟩
  ·simp[AL] at hv
  ·simp[AL] at hv;subst hv;exact lt h4
 cases sb with
 |box cells elem=>
  obtain ⟨b',cs,he,h1,h2,h3⟩:=h;simp[Bd,he,AL] at hb;subst hb;exact ⟨lt h1,h3⟩
 |row cells elem st n=>
  obtain ⟨v,xs,he,h1,h2,h3⟩:=h;simp[Bd,he] at hb;exact ⟨lto h1 hb,h3 b hb⟩
 |own elem st n g=>
  obtain ⟨v,xs,he,h1,h2,h3⟩:=h;simp[Bd,he] at hb;exact ⟨lto h1 hb,h3 b hb⟩
 |fz st n g=>simp[Bd] at hb |map es=>
  obtain ⟨b',ms,clk,he,h1,h2,h3⟩:=h;simp[Bd,he,AL] at hb;subst hb;exact ⟨lt h1,h3⟩
 |Rw l=>simp[Bd] at hb |Hf elem st n g more=>
  obtain ⟨v,xs,ys,he,h1,h2,h3,h4,h5,h6⟩:=h;simp[Bd,he] at hb;exact ⟨lto h1 hb,h6 b hb⟩
 |fm k M fs us tag=>
  obtain ⟨b',ms,clk,fv,uv,he,h1,h2,h3,h4,h5,h6,h7⟩:=h;simp[Bd,he,AL] at hb;subst hb;exact ⟨lt h1,h7⟩
 |pm vt M us=>
  obtain ⟨b',ms,clk,uv,he,h1,h2,h3,h4,h5,h7⟩:=h;simp[Bd,he,AL] at hb;subst hb;exact ⟨lt h1,h7⟩
 |buf e l=>
  obtain ⟨v,he,h1,h3⟩:=h;simp[Bd,he] at hb;exact ⟨afU h1 hb,h3 b hb⟩
theorem GL{id b:Nat}{sb:SB}(h:Bd E id sb=ak b):bk E id=ak b:=by
 cases sb<;>simp[Bd] at h<;>simpa[bk] using h
theorem aai{id b:Nat}{sb:SB}(h:Bd E id sb=ak b)(hE:E.le E'):Bd E' id sb=ak b:=by
 have key:(E id).bind AL=ak b->(E' id).bind AL=ak b:=fun h=>by
  cases he:E id with
  |none=>simp[he] at h |some v=>rw[hE _ _ he];simpa[he] using h
 cases sb<;>simp only[Bd] at h ⊢
 all_goals first|exact key h|cases h
theorem GI.some_{id:Nat}{sb:SB}(h:GI K H E w id sb):∃v,E id=ak v:=by
 cases sb with
 |box _ _=>obtain ⟨b,_,he,_⟩:=h;exact ⟨_,he⟩ |row _ _ _ _=>obtain ⟨v,_,he,_⟩:=h;exact ⟨_,he⟩ |own _ _ _ _=>obtain ⟨v,_,he,_⟩:=h;exact ⟨_,he⟩ |fz _ _ _=>obtain ⟨v,he,_⟩:=h;exact ⟨_,he⟩ |map _=>obtain ⟨b,_,_,he,_⟩:=h;exact ⟨_,he⟩ |Rw _=>obtain ⟨v,he,_⟩:=h;exact ⟨_,he⟩ |Hf _ _ _ _ _=>obtain ⟨v,_,_,he,_⟩:=h;exact ⟨_,he⟩ |fm _ _ _ _ _=>obtain ⟨b,_,_,_,_,he,_⟩:=h;exact ⟨_,he⟩ |pm _ _ _=>obtain ⟨b,_,_,_,he,_⟩:=h;exact ⟨_,he⟩ |buf _ _=>obtain ⟨v,he,_⟩:=h;exact ⟨_,he⟩
theorem GN{id:Nat}{sb:SB}(h:GI K H E w id sb)(hE:E.le E'):Bd E' id sb=Bd E id sb:=by
 obtain ⟨v,he⟩:=h.some_;have he':=hE _ _ he;cases sb<;>simp[Bd,he,he']
theorem EL{α:Type}:∀(l:List (Nat×α)) (i j:Nat) (y:α),Ak (hset l i y) j=bif i==j then (Ak l i).map (fun _=>y) else Ak l j
 |[],i,j,y=>by cases h:(i==j)<;>simp[hset,Ak] |(k,x)::l,i,j,y=>by
  have ih:=EL l i j y;unfold hset;cases hki:(k==i)<;>simp only[cond_true,cond_false]
  ·simp only[Ak,hki,cond_false]
   rw[ih];cases hij:(i==j)<;>simp only[cond_true,cond_false]
   ·obtain rfl:i=j:=by simpa using hij
    simp[hki]
  ·obtain rfl:k=i:=by simpa using hki
   cases hij:(k==j)<;>simp[Ak,hij]
theorem ET{α:Type}:∀(l:List (Nat×α)) (i j:Nat) (y:α),Ak (hins l i y) j=bif i==j then ak y else Ak l j
 |[],i,j,y=>by cases h:(i==j)<;>simp[hins,Ak,h] |(k,x)::l,i,j,y=>by
  have ih:=ET l i j y;unfold hins;cases hk:fV k i<;>simp only[cond_true,cond_false]
  ·simp only[Ak]
  ·simp only[Ak,ih]
   cases hkj:(k==j)<;>cases hij:(i==j)<;>simp
   have:k=i:=by
    have e1:k=j:=by simpa using hkj
    have e2:i=j:=by simpa using hij
    rw[e1,e2]
   have:=Fj hk;omega
theorem U6{α:Type}:∀(l:List (Nat×α)) (i j:Nat),Ak (hdel l i) j=bif i==j then aK else Ak l j
 |[],i,j=>by cases h:(i==j)<;>simp[hdel,Ak] |(k,x)::l,i,j=>by
  have ih:=U6 l i j;unfold hdel;cases hki:(k==i)<;>simp only[cond_true,cond_false]
  ·simp only[Ak,ih]
   cases hkj:(k==j)<;>cases hij:(i==j)<;>simp
   have e1:k=j:=by simpa using hkj
   have e2:i=j:=by simpa using hij
   rw[e1,e2] at hki;simp at hki
  ·obtain rfl:k=i:=by simpa using hki
   rw[ih];cases hij:(k==j)<;>simp[Ak,hij]
def Env.set(E:Env)(i:Nat)(v:Value):Env:=fun j=>if j=i then ak v else E j
theorem Env.aeL{i:Nat}{v:Value}(h:E i=aK):E.le (E.set i v):=fun j u hj=>by
 unfold Env.set;split
 ·rename_i e;subst e;rw[h] at hj;cases hj
 ·exact hj
theorem Env.set_self(E:Env)(i:Nat)(v:Value):E.set i v i=ak v:=by simp[Env.set]
theorem Iy(w:World)(o:Obj):(w.alloc o).heap[w.heap.size]?=ak o:=heap_alloc_new w o
theorem size_alloc(w:World)(o:Obj):(w.alloc o).heap.size=w.heap.size+1:=by simp
theorem Eh.alloc(h:Eh K H w)(o:Obj):Eh K H (w.alloc o):=
 ⟨h.os,h.tape,h.output,by rw[size_alloc];have:=h.size;omega,fun b hb hn=>by rw[lJ w o b (by have:=h.size;omega)];exact h.kept b hb hn,
  fun b o' hb=>by
   have:=h.on b o' hb;rw[lJ w o b (bH.1 this).1];exact this,h.le,h.fresh⟩
theorem ana(h:Eh K H w):H w.heap.size=aK:=by
 cases hb:H w.heap.size with
 |none=>rfl |some o=>have:=(bH.1 (h.on _ _ hb)).1;omega
theorem Jy(h:Eh K H w):Mine K H w.heap.size:=⟨ana h,.inl h.size⟩
theorem Hl{c:Core}{sb:SB}{sv:SV}{φ:SV×Core->Prop}{o:Obj}{v:Value}(hh:AO K H E w c.hp)(hw:Eh K H w)(hf:Free E c)
  (h:(alloc c sb sv).All φ) (hv:AL v=ak w.heap.size) (he:GI K H (E.set c.nx v) (w.alloc o) c.nx sb) :
  ∃c',φ (sv,c')/\Post K H E w c H (E.set c.nx v) (w.alloc o) c':=by
 unfold alloc at h;cases hb:fV c.nx c.lim<;>simp only[hb,cond_true,cond_false] at h
 ·exact h.elim
 have hlt:=Fj hb;have hnone:=hf c.nx (dn _) hlt;have hle:E.le (E.set c.nx v):=Env.aeL hnone;refine ⟨_,h,fun _ _ e=>e,hle,?_,by simp,.inl (by simp;omega),rfl,rfl,?_,hw.alloc o,fun _ h=>h,by rw[size_alloc];omega,fun b hb _=>lJ w o b hb,?_,?_,?_,?_⟩
 ·intro i h1 h2
  by_cases e:i=c.nx
  ·subst e;simp
  ·simp[Env.set,e,h1] at h2
 ·refine ⟨fun id sb' hl=>?_,fun id id' sb1 WE b h1 h2 o1 o2=>?_⟩
  ·rw[ET] at hl
   cases hid:(c.nx==id)<;>simp only[hid,cond_true,cond_false] at hl
   ·have hent:=hh.ent id sb' hl
    exact hent.kept (fun _ _ e=>e) hle (fun b hb=>lJ w o b (hent.lt hb).1) (fun b hb=>(hent.lt hb).2.1)
   ·cases hl
    obtain rfl:c.nx=id:=by simpa using hid
    exact he
  ·rw[ET] at h1 h2
   cases hid:(c.nx==id)<;>cases UC:(c.nx==id')<;>simp only[hid,UC,cond_true,cond_false] at h1 h2
   ·rw[GN (hh.ent _ _ h1) hle] at o1
    rw[GN (hh.ent _ _ h2) hle] at o2;exact hh.Gq _ _ _ _ _ h1 h2 o1 o2
   ·obtain rfl:c.nx=id':=by simpa using UC
    rw[GN (hh.ent _ _ h1) hle] at o1;have e2:=GL o2;simp[bk,Env.set,hv] at e2;have:=((hh.ent _ _ h1).lt o1).1;omega
   ·obtain rfl:c.nx=id:=by simpa using hid
    rw[GN (hh.ent _ _ h2) hle] at o2;have e1:=GL o1;simp[bk,Env.set,hv] at e1;have:=((hh.ent _ _ h2).lt o2).1;omega
   ·have e1:c.nx=id:=by simpa using hid
    have e2:c.nx=id':=by simpa using UC
    rw[<-e1,<-e2]
 ·intro i b h1 h2
  by_cases e:i=c.nx
  ·subst e
   simp[bk,Env.set,hv] at h2;exact .inl (by omega)
  ·simp[bk,Env.set,e,h1] at h2
 ·exact fun _ h=>.inl h
 ·intro id sb' b hl _ ho
  refine .inr ⟨sb',?_,aai ho hle⟩;simp only[ET];cases hid:(c.nx==id)<;>simp only[cond_true,cond_false]
  ·exact hl
  ·obtain rfl:c.nx=id:=by simpa using hid
   obtain ⟨u,hu⟩:=(hh.ent _ _ hl).some_;rw[hnone] at hu;cases hu
 ·intro id sb' hl hne
  simp only[ET] at hl;cases hid:(c.nx==id)<;>simp only[hid,cond_true,cond_false] at hl
  ·exact ⟨sb',hl,fun b ho=>by rw[GN (hh.ent _ _ hl) hle] at ho;exact ho⟩
  ·obtain rfl:c.nx=id:=by simpa using hid
   exact (hne hnone).elim
def H7(P:Program)(K:Kx)(H:Mem)(E:Env)(w:World)(c:Core)(a:Act)(o:Oper)(φ:SV×Core->Prop):Prop:=
 ∃(p:SV×Core) (v:Value) (r:Next) (H':Mem) (E':Env) (w':World),φ p/\Den H' E' p.1 v/\Post K H E w c H' E' w' p.2/\(r=.value v\/(r=.skip/\v=undef))/\(execOp a.eval o).run P w=.ok r w'
theorem Post.refl{c:Core}(hh:AO K H E w c.hp)(hw:Eh K H w):Post K H E w c H E w c:=
 ⟨fun _ _ e=>e,fun _ _ e=>e,fun _ h1 h2=>(h2 h1).elim,dn _,.inr rfl,rfl,rfl,hh,hw,fun _ h=>h,dn _,fun _ _ _=>rfl,fun i b h1 h2=>by simp[bk,h1] at h2,fun _ h=>.inl h,fun id sb b h1 _ h3=>.inr ⟨sb,h1,h3⟩,fun id sb h _=>⟨sb,h,fun _ h=>h⟩⟩
theorem Wi.toW{c:Core}{a:Act}{o:Oper}{φ:SV×Core->Prop}(h:Wi P H E w c a o φ)(hh:AO K H E w c.hp)(hw:Eh K H w):H7 P K H E w c a o φ:=by
 obtain ⟨p,v,h1,h2,h3,h4⟩:=h;exact ⟨p,v,_,H,E,w,h1,h3,by rw[h2];exact Post.refl hh hw,.inl rfl,h4 w (UY.refl _ _ _ _) hw.on⟩
theorem anb{c:Core}{a:Act}{o:Oper}{e:Nat}{φ:SV×Core->Prop}(hC:BG P C)(hh:AO K H E w c.hp)(hw:Eh K H w)(hf:Free E c)
  (ho:o.op=.alloc e) (h:(UN C c e).All φ):H7 P K H E w c a o φ:=by
 unfold UN at h;split at h
 ·rename_i i hi
  obtain ⟨z,h1,h2,h3⟩:=alm (hC.ty _ _ hi) w;have h2':AA H (E.set c.nx (.pointer (ak ⟨w.heap.size,0,aK⟩))) i.zero z.cells.toList:=h2.le (fun _ _ e=>by cases e) (fun _ _ e=>by cases e);obtain ⟨c',hφ,hp⟩:=Hl (o:=.cells z.cells e) (v:=.pointer (ak ⟨w.heap.size,0,aK⟩)) hh hw hf h rfl
   ⟨w.heap.size,z.cells,Env.set_self _ _ _,Iy _ _,h2',Jy hw⟩
  refine ⟨_,_,_,H,_,_,hφ,⟨w.heap.size,by simp[Env.set_self,AL],rfl⟩,hp,.inl rfl,?_⟩;simp[execOp,ho,Instr.alloc,h1,newVar,newRow]
 ·exact h.elim
theorem as5{c:Core}{a:Act}{o:Oper}{e:Nat}{x:Operand}{φ:SV×Core->Prop}(hd:AA H E c.tm a.tmps.toList)(hh:AO K H E w c.hp)(hw:Eh K H w)(hf:Free E c)
  (ho:o.op=.box e x) (h:(bif (BI c.tm x).ZO then alloc c (.box (BI c.tm x).cells e) (.ptr c.nx 0) else .fail).All φ):H7 P K H E w c a o φ:=by
 cases hk:(BI c.tm x).ZO<;>simp only[hk,cond_true,cond_false] at h
 ·exact h.elim
 have hx:=OL hk (BA (H:=H) (E:=E) hd x);have hx':c.nx<c.lim->AA H (E.set c.nx (.pointer (ak ⟨w.heap.size,0,aK⟩))) (BI c.tm x).cells (a.eval x).cells.toList:=fun hl=>hx.le (fun _ _ e=>e) (Env.aeL (hf _ (dn _) hl));have hl:c.nx<c.lim:=by
  unfold alloc at h;cases hb:fV c.nx c.lim<;>simp only[hb,cond_true,cond_false] at h
  ·exact h.elim
  ·exact Fj hb
 obtain ⟨c',hφ,hp⟩:=Hl (o:=.cells (a.eval x).cells e) (v:=.pointer (ak ⟨w.heap.size,0,aK⟩)) hh hw hf h rfl
  ⟨w.heap.size,_,Env.set_self _ _ _,Iy _ _,hx' hl,Jy hw⟩
 refine ⟨_,_,_,H,_,_,hφ,⟨w.heap.size,by simp[Env.set_self,AL],rfl⟩,hp,.inl rfl,?_⟩;simp[execOp,ho,Instr.box,newVar,newRow]
theorem WG{H:Mem}{E:Env}:∀l:List Int,Gz H E (afD l) (l.map fun n=>(n,aK))
 |[]=>trivial |_::l=>⟨rfl,trivial,WG l⟩
theorem aix{c:Core}{a:Act}{o:Oper}{t:Nat}{φ:SV×Core->Prop}(hh:AO K H E w c.hp)(hw:Eh K H w)(hf:Free E c)
  (ho:o.op=.makeMap t aK) (h:(Qn C c t).All φ):H7 P K H E w c a o φ:=by
 unfold Qn at h;split at h
 ·rename_i k l _
  obtain ⟨c',hφ,hp⟩:=Hl (o:=.map #[] 0) (v:=.map (ak w.heap.size)) hh hw hf h rfl
   ⟨w.heap.size,#[],0,l.map fun n=>(n,aK),[],Env.set_self _ _ _,Iy _ _,WG l,trivial,fun n o hm=>by
    obtain ⟨_,_,e⟩:=List.mem_map.1 hm;cases e;rfl,⟨fun m hm=>by simp at hm,fun n=>rfl,fun i j m m' hm=>by simp at hm,fun i j m m' hm=>by simp at hm,fun m hm=>by simp at hm⟩,trivial,Jy hw⟩
  refine ⟨_,_,_,H,_,_,hφ,⟨w.heap.size,Env.set_self _ _ _,rfl⟩,hp,.inl rfl,?_⟩;simp[execOp,ho,qA]
 ·split at h
  ·rename_i vt _
   obtain ⟨c',hφ,hp⟩:=Hl (o:=.map #[] 0) (v:=.map (ak w.heap.size)) hh hw hf h rfl
    ⟨w.heap.size,#[],0,[],Env.set_self _ _ _,Iy _ _,trivial,(fun _ _ h=>by cases h),(fun _ h=>by cases h),⟨fun m hm=>by simp at hm,fun m hm=>by simp at hm,(fun n v hn=>by cases hn),fun i j m m' hm=>by simp at hm⟩,Jy hw⟩
   refine ⟨_,_,_,H,_,_,hφ,⟨w.heap.size,Env.set_self _ _ _,rfl⟩,hp,.inl rfl,?_⟩;simp[execOp,ho,qA]
  ·obtain ⟨c',hφ,hp⟩:=Hl (o:=.map #[] 0) (v:=.map (ak w.heap.size)) hh hw hf h rfl
    ⟨w.heap.size,#[],0,Env.set_self _ _ _,Iy _ _,trivial,Jy hw⟩
   refine ⟨_,_,_,H,_,_,hφ,⟨w.heap.size,Env.set_self _ _ _,rfl⟩,hp,.inl rfl,?_⟩;simp[execOp,ho,qA]
end
section
variable{P:Program}{C:Ctx}{K:Kx}{H H':Mem}{E E':Env}{w w':World}
theorem AA.OJ:∀{l:List SV} {vs:List Value},vs.length=l.length->(∀(j:Nat) (s:SV) (v:Value),l[j]?=ak s->vs[j]?=ak v->Den H E s v)->AA H E l vs
 |[],[],_,_=>trivial |_::_,_::_,hl,h=>⟨h 0 _ _ rfl rfl,AA.OJ (by simpa using hl) fun j s v h1 h2=>h (j+1) s v (by simpa using h1) (by simpa using h2)⟩ |[],_::_,h,_=>by simp at h |_::_,[],h,_=>by simp at h
theorem aaM:∀(xs z:List SV) (off j:Nat),off+xs.length<=z.length->(setAt z off xs)[j]?=if off<=j/\j<off+xs.length then xs[j - off]? else z[j]?
 |[],z,off,j,_=>by simp[setAt];omega |x::xs,z,off,j,h=>by
  rw[setAt,aaM xs _ (off+1) j (by simp at h ⊢;omega)];simp only[List.length_cons] at h ⊢;by_cases h1:off+1<=j/\j<off+1+xs.length
  ·rw[if_pos h1,if_pos (by omega)]
   have:j - off=(j - (off+1))+1:=by omega
   rw[this,List.getElem?_cons_succ]
  ·rw[if_neg h1]
   by_cases h2:j=off
   ·subst h2
    rw[if_pos (by omega),List.getElem?_set_self (by omega)];simp
   ·rw[if_neg (by omega),List.getElem?_set_ne (by omega)]
theorem Lc(cs vs:List Value)(off j:Nat)(h:off+vs.length<=cs.length):(cs.take off++vs++cs.drop (off+vs.length))[j]?=if off<=j/\j<off+vs.length then vs[j - off]? else cs[j]?:=by
 have h1:(cs.take off).length=off:=by rw[cu];omega
 rw[List.append_assoc,kT,h1];split
 ·rw[bY,if_pos (by assumption),if_neg (by omega)]
 ·rw[kT]
  split
  ·rw[if_pos (by omega)]
  ·rw[if_neg (by omega),eP]
   congr 1;omega
theorem GZ(cs vs:List Value)(off:Nat)(h:off+vs.length<=cs.length):(cs.take off++vs++cs.drop (off+vs.length)).length=cs.length:=by
 simp[cu,dS];omega
theorem Y7{cells l:List SV}{cs vs:List Value}{off:Nat}(h1:AA H E cells cs)(h2:AA H E l vs)(h:off+l.length<=cells.length):
  AA H E (setAt cells off l) (cs.take off++vs++cs.drop (off+vs.length)):=by
 have e1:=h1.length;have e2:=h2.length;refine AA.OJ (by rw[GZ _ _ _ (by omega),OM];exact e1) fun j s v hs hv=>?_
 rw[aaM _ _ _ _ h] at hs;rw[Lc _ _ _ _ (by omega)] at hv;rw[e2] at hv;split at hs
 ·rw[if_pos (by assumption)] at hv
  exact h2.at_ hs hv
 ·rw[if_neg (by assumption)] at hv
  exact h1.at_ hs hv
theorem WH(cur vs:List Value)(off m:Nat)(h:off+vs.length<=m)(hm:m<=cur.length):
  (cur.take off++vs++cur.drop (off+vs.length)).take m=(cur.take m).take off++vs++(cur.take m).drop (off+vs.length):=by
 apply List.ext_getElem?;intro j;rw[bY,Lc _ _ _ _ (by omega),Lc _ _ _ _ (by rw[cu];omega),bY];by_cases hj:j<m
 ·simp[hj]
 ·simp only[hj,if_false]
  rw[if_neg (by omega)]
theorem Kz{c:Core}{id b:Nat}{sb sb':SB}(hh:AO K H E w c.hp)(hw:Eh K H w)(hl:Ak c.hp id=ak sb)(hb:Bd E id sb=ak b)
  (hother:∀k,k≠b->w'.heap[k]?=w.heap[k]?) (hsz:w'.heap.size=w.heap.size) (hos:w'.os=w.os) (htape:w'.tape=w.tape) (hout:w'.output=w.output)
  (he:GI K H E w' id sb') (hb':Bd E id sb'=ak b):Post K H E w c H E w' {c with hp:=hset c.hp id sb',tc:=id::c.tc}:=by
 have Fq:=((hh.ent _ _ hl).lt hb);refine ⟨fun _ _ e=>e,fun _ _ e=>e,fun _ h1 h2=>(h2 h1).elim,dn _,.inr rfl,rfl,rfl,?_,?_,fun _ h=>dA _ h,by omega,?_,fun i b h1 h2=>by simp[bk,h1] at h2,?_,?_,?_⟩
 ·refine ⟨fun id2 WE hl2=>?_,fun id1 id2 sb1 WE b0 h1 h2 o1 o2=>?_⟩
  ·rw[EL] at hl2
   cases hid:(id==id2)<;>simp only[hid,cond_true,cond_false] at hl2
   ·have hent:=hh.ent _ _ hl2
    refine hent.kept (fun _ _ e=>e) (fun _ _ e=>e) (fun b0 hb0=>hother b0 fun e=>?_) fun b0 hb0=>(hent.lt hb0).2.1;subst e;have:=hh.Gq _ _ _ _ _ hl hl2 hb hb0;subst this;simp at hid
   ·obtain rfl:id=id2:=by simpa using hid
    rw[hl] at hl2;cases hl2;exact he
  ·have conv:∀{i:Nat} {s:SB},Ak (hset c.hp id sb') i=ak s->Bd E i s=ak b0->∃s',Ak c.hp i=ak s'/\Bd E i s'=ak b0:=by
    intro i s h o;rw[EL] at h;cases hid:(id==i)<;>simp only[hid,cond_true,cond_false] at h
    ·exact ⟨s,h,o⟩
    ·obtain rfl:id=i:=by simpa using hid
     rw[hl] at h;cases h;rw[hb'] at o;cases o;exact ⟨sb,hl,hb⟩
   obtain ⟨s1,a1,a2⟩:=conv h1 o1;obtain ⟨s2,a3,a4⟩:=conv h2 o2;exact hh.Gq _ _ _ _ _ a1 a3 a2 a4
 ·refine ⟨hos.trans hw.os,htape.trans hw.tape,hout.trans hw.output,by have:=hw.size;omega,fun k hk hn=>?_,fun k o hk=>?_,hw.le,hw.fresh⟩
  ·rw[hother k fun e=>?_]
   ·exact hw.kept k hk hn
   ·subst e
    rcases Fq.2.2 with h|h
    ·omega
    ·exact hn h
  ·rw[hother k fun e=>?_]
   ·exact hw.on k o hk
   ·subst e
    rw[Fq.2.1] at hk;cases hk
 ·intro k hk hne
  refine hother k fun e=>?_
  subst e;exact hne id (bZ ..) (GL hb)
 ·intro i hi
  cases hi with
  |head=>exact .inr (.inr ⟨sb,hl,hb.trans (GL hb).symm⟩) |tail _ hi=>exact .inl hi
 ·intro i s0 b0 h1 h2 h3
  refine .inr ⟨s0,?_,h3⟩;simp only[EL];cases hid:(id==i)<;>simp only[cond_true,cond_false]
  ·exact h1
  ·obtain rfl:id=i:=by simpa using hid
   exact (h2 (bZ ..)).elim
 ·intro i s0 h1 _
  simp only[EL] at h1;cases hid:(id==i)<;>simp only[hid,cond_true,cond_false] at h1
  ·exact ⟨s0,h1,fun _ h=>h⟩
  ·obtain rfl:id=i:=by simpa using hid
   rw[hl] at h1;cases h1;exact ⟨sb,hl,fun b0 h=>by rw[hb'] at h;cases h;exact hb⟩
theorem one_cell{x:SV}{u:Value}(h1:x.one=aC)(hd:Den H E x u):u.oneCell'=aC:=by
 cases x;case any=>simp[rW] at h1
 case agg l=>simp[rW] at h1
 case AQ l=>simp[rW] at h1
 case ev=>simp[rW] at h1
 case val v=>obtain ⟨rfl,h⟩:=hd;exact h
 case sh s=>
  have hd:Rep H s u:=hd;cases hd;case agg l vs a1 a2=>simp[rW] at h1
  case AQ l vs a1 a2=>simp[rW] at h1
  case v h=>exact h
  all_goals rfl
 all_goals first
  |(simp only[Den] at hd;subst hd;rfl)
  |(obtain ⟨_,_,rfl⟩:=hd;rfl)
  |(obtain ⟨_,_,_,_,rfl⟩:=hd;rfl)
  |(obtain ⟨_,_,_,_,_,rfl⟩:=hd;rfl)
  |(obtain ⟨_,rfl,_⟩:=hd;rfl)
  |(obtain ⟨_,_,_,rfl,_⟩:=hd;rfl)
theorem Fv:∀{l:List SV} {vs:List Value},FP l=aC->AA H E l vs->∀v∈vs,v.oneCell'=aC
 |[],[],_,_,_,h=>by cases h |x::l,v::vs,h,⟨h1,h2⟩,u,hu=>by
  simp only[FP,aI] at h;cases hu with
  |head=>exact one_cell h.1 h1 |tail _ hu=>exact Fv h.2 h2 u hu
 |[],_::_,_,h,_,_=>h.elim |_::_,[],_,h,_,_=>h.elim
end
end Go.Sx
