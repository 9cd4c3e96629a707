/- Own work. -/
import Derived.Test.YthehnhaoiijkhaaGreatDoorS01
import Derived.LaidEql
import Derived.Lib.Strings
open Int (ofNat)
open Array renaming getElem?_eq_some_iff->bH
open Bool renaming true->aF,and_eq_true->aJ,false->aA
open ByteArray renaming size->nS
open Go.Addr renaming add_lit->eU
open Go.Builtin renaming len_->qy,max_->wo,min_->wu
open Go.Instr renaming indexAt->qx,fill->zk,findNow->dP,sameNow->dZ,checkKey->jc,lookup->jf,findKey->iD,findAsking->oz,makeMap->qA
open Go.Op renaming equal->gZ,equalIn->fJ
open Go.RowKit.Below renaming heap_alloc->lJ
open Go.Sem renaming run_bind->gK,run->lC
open Go.Sx.SV renaming one->rW
open Go.Value renaming oneCell'->jW,cells->mZ
open Go.Value.int renaming injEq->rV
open List renaming length_take->cu,length_drop->dS,getElem?_take->bZ,getElem?_drop->eH,toArray->nX,mem_cons_self->cO,mem_cons_of_mem->dB,mem_of_getElem?->bP,getElem?_append->kQ
open List.cons renaming injEq->qK
open Nat renaming add_mul->gB,one_mul->iI,le_refl->dw,blt->fZ
open Option renaming some->ay,none->aN
open Option.some renaming injEq->kU
open Prod.mk renaming injEq->jU
namespace Go.Sx
section
variable{P:Program}{C:Ctx}{K:Kx}{H:Mem}{E:Env}{w:World}
theorem Ho{x:SV}{n:Int}{u:Value}(h:Hw x=ay n)(hd:Den H E x u):∃k,u=.int k n:=by
 cases x<;>simp[Hw] at h
 all_goals (subst h;exact ⟨_,hd⟩)
theorem TL{i:Int}{n:Nat}(h:Aw.inB i n=aF):0<=i/\i<n:=by simpa[Aw] using h
theorem MS{elem st n:Nat}{v:Value}{xs:List Value}(h:w.ownsRow 0 elem st v n xs):lenV v=n:=by
 rcases h.2 with ⟨rfl,rfl⟩ |⟨_,_,_,rfl,_⟩<;>rfl
theorem aaL{elem st n:Nat}{v:Value}{xs:List Value}(h:w.ownsRow 0 elem st v n xs)(hn:0<n):∃b cap,v=.slice (ay ⟨b,0,aN⟩) n cap/\AY v=ay b:=by
 rcases h.2 with ⟨rfl,rfl⟩ |⟨b,cap,_,rfl,_⟩
 ·omega
 ·exact ⟨b,cap,rfl,rfl⟩
theorem Ql{t e:Nat}{te:Kr}(hu:P.underlying t=ay (.slice e))(hte:Oe P e te){a:Addr}{n cap:Nat}{k:IntKind}{i:Int}(h0:0<=i)(h1:i<n)(w:World):
  (qx t (.slice (ay a) n cap) (.int k i)).run P w=.ok (.pointer (ay (a.add (i.toNat*te.size)))) w:=by
 simp[qx,asIntOf,run_underlying hu,h0,h1,Jz hte]
theorem UW{x:SV}{n:Int}(h:Hw x=ay n):aky Aw n x=n.toNat:=by
 cases x<;>simp[Hw] at h
 ·subst h;rfl
 ·rfl
theorem Y0{c:Core}{a:Act}{o:Oper}{t e:Nat}{te:Kr}{x y:Operand}{φ:SV×Core->Prop}{m:Nat}{g:Nat->List Sh}{n:Int}{k:IntKind}(hu:P.underlying t=ay (.slice e))(hte:Oe P e te)
  (ho:o.op=.indexAddr t x y) (dx:Rep H (.sl te.size m g) (a.eval x)) (ey:a.eval y=.int k n) (h0:0<=n) (h1:n<m) (h:φ (.G5 te.size m g n.toNat 0,c)):QP P H E c a o φ:=by
 generalize hu':a.eval x=u at dx;cases dx with
 |sl0 _ _ A cap hc=>omega |sl _ _ _ b off cap cc a1 a2 a3 a4 a5 a6=>
  refine ⟨_,.pointer (ay ⟨b,off+n.toNat*te.size,aN⟩),h,rfl,⟨b,off+n.toNat*te.size,cc n.toNat,rfl,by omega,a3 _ (by omega),fun j hj=>⟨?_,a5 _ _ (by omega) hj⟩,fun j s hs=>a6 _ _ _ (by omega) hs⟩,fun w'=>?_⟩
  ·rw[a4 _ _ (by omega) hj]
  ·have:=Ql (P:=P) hu hte (a:=⟨b,off,aN⟩) (n:=m) (cap:=cap) (k:=k) h0 h1 w'
   simp[execOp,ho,hu',ey,this,eU]
theorem Y1{φ:SV×Core->Prop}{n:Int}{f:Nat->Tree (SV×Core)}{m:Nat}:∀{k:Nat},k<=m->(m:Int) - k<=n->n<m->(aiD Aw n f m k).All φ->∃i:Nat,n=i/\i<m/\(f i).All φ
 |0,_,h1,h2,_=>by omega |k+1,hk,h1,h2,h=>by
  obtain ⟨ha,hb⟩:=h;by_cases e:n=ofNat (m - (k+1))
  ·refine ⟨m - (k+1),e,by omega,ha (by simp[Aw,e])⟩
  ·refine Y1 (k:=k) (by omega) ?_ h2 (hb (by simpa[Aw] using e))
   have e:¬n=((m - (k+1):Nat):Int):=e;omega
theorem Y2(st:Nat):∀(n:Nat) (l:List Sh) (i:Nat),i<n->BD (chunks st n l) i=(l.drop (i*st)).take st
 |n+1,l,0,_=>by simp[BD,chunks] |n+1,l,i+1,h=>by
  have ih:=Y2 st n (l.drop st) i (by omega);simp only[BD,chunks,List.getD_cons_succ] at ih ⊢;rw[ih,List.drop_drop];congr 2;rw[gB,iI,Nat.add_comm]
theorem Wj{c:Core}{a:Act}{o:Oper}{t e m:Nat}{te:Kr}{x y:Operand}{φ:SV×Core->Prop}{g:Nat}{l:List Sh}{n:Int}{k:IntKind}(hu:P.underlying t=ay (.array m e))(hte:Oe P e te)
  (ho:o.op=.indexAddr t x y) (dx:Den H E (.glob g) (a.eval x)) (ey:Den H E (.int k n) (a.eval y)) (hgl:Gl H g (.Ba l)) (hl:l.length=m*te.size) (h0:0<=n) (h1:n<m)
  (h:φ (.G5 te.size m (BD (chunks te.size m l)) n.toNat 0,c)):QP P H E c a o φ:=by
 obtain ⟨_,cc,g1,g2⟩:=hgl;have dx:a.eval x=.pointer (ay ⟨g,0,aN⟩):=dx;have ey:a.eval y=.int k n:=ey;have hlt:n.toNat*te.size+te.size<=m*te.size:=by
  calc n.toNat*te.size+te.size=(n.toNat+1)*te.size:=by rw[gB,iI]
   _<=m*te.size:=Nat.mul_le_mul_right _ (by omega)
 have hch:BD (chunks te.size m l) n.toNat=(l.drop (n.toNat*te.size)).take te.size:=Y2 _ _ _ _ (by omega);refine ⟨_,.pointer (ay ⟨g,n.toNat*te.size,aN⟩),h,rfl,⟨g,n.toNat*te.size,fun j=>cc (n.toNat*te.size+j),rfl,by omega,?_,fun j hj=>g1 _ (by omega),fun j s hs=>g2 _ _ ?_⟩,fun w'=>?_⟩
 ·rw[hch,cu,dS];omega
 ·rw[hch,bZ] at hs
  split at hs
  ·rwa[eH] at hs
  ·cases hs
 ·simp[execOp,ho,dx,ey,qx,asIntOf,run_underlying hu,h0,h1,Jz hte,Instr.sureAddr,eU]
theorem Wn{c:Core}{a:Act}{o:Oper}{t:Nat}{x y:Operand}{φ:SV×Core->Prop}(hC:BL P C)(ho:o.op=.indexAddr t x y)(hd:AV H E c.tm a.tmps.toList)
  (hh:AZ K H E w c.hp) (hg:Dt C.gls H) (h:(Np C c t (BP c.tm x) (BP c.tm y)).All φ):QP P H E c a o φ:=by
 have dx:=BJ (H:=H) (E:=E) hd x;have dy:=BJ (H:=H) (E:=E) hd y;have hA:=hC.A;unfold Np at h;split at h
 ·rename_i ti hti
  have ht:=(hC.ty _ _ hti).desc;split at h
  ·rename_i e hty
   rw[hty] at ht;split at h
   ·rename_i te hte
    have hte:=hC.ty _ _ hte;split at h
    ·rename_i id n hx hy
     rw[hx] at dx;obtain ⟨k,ey⟩:=Ho hy dy;split at h
     ·
      rename_i cells el st m hl;split at h
      ·rename_i k2 n2 hy2
       cases hb:(decide (0<=n2)&&decide (n2<(m:Int))&&st==te.size)<;>simp only[hb,cond_true,cond_false] at h
       ·exact h.elim
       simp only[aJ,decide_eq_true_eq,beq_iff_eq] at hb;obtain ⟨⟨h0,h1⟩,rfl⟩:=hb;rw[hy2] at dy;simp only[Den] at dy;obtain ⟨v,xs,he,hr,_,_⟩:=hh.ent _ _ hl;have dx2:E id=ay (a.eval x):=dx.1;rw[he] at dx2;cases dx2;obtain ⟨b,cap,hv,hbv⟩:=aaL hr (by omega);refine ⟨_,.pointer (ay ⟨b,n2.toNat*te.size,aN⟩),h,rfl,⟨b,by rw[he];exact hbv,rfl⟩,fun w'=>?_⟩;have:=Ql (P:=P) ht hte (a:=⟨b,0,aN⟩) (n:=m) (cap:=cap) (k:=k2) h0 h1 w';simp[execOp,ho,hv,dy,this,eU]
      ·exact h.elim
     ·rename_i el st m g hl
      cases hb:(st==te.size)<;>simp only[hb,cond_true,cond_false] at h
      ·exact h.elim
      obtain rfl:st=te.size:=by simpa using hb
      obtain ⟨hin,hφ⟩:=h;rw[hA] at hin hφ;obtain ⟨h0,h1⟩:=TL hin;obtain ⟨v,xs,he,hr,_,_⟩:=hh.ent _ _ hl;have dx2:E id=ay (a.eval x):=dx.1;rw[he] at dx2;cases dx2;obtain ⟨b,cap,hv,hbv⟩:=aaL hr (by omega);have hidx:=UW hy;rw[hidx] at hφ;refine ⟨_,.pointer (ay ⟨b,n.toNat*te.size,aN⟩),hφ,rfl,⟨b,_,he,hbv,by rw[MS hr];omega,rfl⟩,fun w'=>?_⟩;have:=Ql (P:=P) ht hte (a:=⟨b,0,aN⟩) (n:=m) (cap:=cap) (k:=k) h0 h1 w';simp[execOp,ho,hv,ey,this,eU]
     ·rename_i st m g hl
      cases hb:(st==te.size)<;>simp only[hb,cond_true,cond_false] at h
      ·exact h.elim
      obtain rfl:st=te.size:=by simpa using hb
      obtain ⟨hin,hφ⟩:=h;rw[hA] at hin hφ;obtain ⟨h0,h1⟩:=TL hin;rw[UW hy] at hφ;obtain ⟨v,he,hr⟩:=hh.ent _ _ hl;have dx2:E id=ay (a.eval x):=dx.1;rw[he] at dx2;cases dx2;exact Y0 ht hte ho hr ey h0 h1 hφ
     ·exact h.elim
    ·rename_i st m g n hx hy
     cases hb:(st==te.size)<;>simp only[hb,cond_true,cond_false] at h
     ·exact h.elim
     obtain rfl:st=te.size:=by simpa using hb
     obtain ⟨hin,hφ⟩:=h;rw[hA] at hin hφ;obtain ⟨h0,h1⟩:=TL hin;rw[hx] at dx;obtain ⟨k,ey⟩:=Ho hy dy;have hidx:=UW hy;rw[hidx] at hφ;exact Y0 ht hte ho dx ey h0 h1 hφ
    ·exact h.elim
   ·exact h.elim
  ·rename_i m e hty
   rw[hty] at ht;split at h
   ·rename_i te hte
    have hte:=hC.ty _ _ hte;split at h
    ·rename_i g k n hx hy
     rw[hx] at dx;rw[hy] at dy;split at h
     ·rename_i l hl
      cases hb:(decide (0<=n)&&decide (n<(m:Int))&&l.length==m*te.size)<;>simp only[hb,cond_true,cond_false] at h
      ·exact h.elim
      simp only[aJ,decide_eq_true_eq,beq_iff_eq] at hb;exact Wj ht hte ho dx dy (hg.at_ _ _ hl) hb.2 hb.1.1 hb.1.2 h
     ·exact h.elim
    ·rename_i g k n hx hy
     rw[hx] at dx;rw[hy] at dy;split at h
     ·rename_i l hl
      cases hb:(l.length==m*te.size)<;>simp only[hb,cond_true,cond_false] at h
      ·exact h.elim
      obtain ⟨hin,h⟩:=h;rw[hA] at hin h;obtain ⟨h0,h1⟩:=TL hin;obtain ⟨i,hi,hi2,hq⟩:=Y1 (dw _) (by omega) h1 h;subst hi;exact Wj ht hte ho dx dy (hg.at_ _ _ hl) (by simpa using hb) h0 h1 (by simpa[Tree.All,ret] using hq)
     ·exact h.elim
    ·exact h.elim
   ·exact h.elim
  ·exact h.elim
 ·exact h.elim
def Wp(op:BinOp)(k:IntKind)(a b:Int):Option Value:=
 match op with
 | .add=>ay (.int k (k.wrap (a+b))) | .sub=>ay (.int k (k.wrap (a - b))) | .mul=>ay (.int k (k.wrap (a*b))) | .eql=>ay (.bool (a==b)) | .neq=>ay (.bool (!(a==b))) | .lss=>ay (.bool (decide (a<b))) | .leq=>ay (.bool (decide (a<=b))) | .gtr=>ay (.bool (decide (b<a))) | .geq=>ay (.bool (decide (b<=a))) |_=>aN
theorem Wq{op:BinOp}{k:IntKind}{a b:Int}{v:Value}(h:Wp op k a b=ay v)(t:Nat)(x y:Operand)(w:World):
  (do eqGuard op t x y (.int k a) (.int k b);binOp op t (.int k a) (.int k b):Sem Value).run P w=.ok v w:=by
 cases op<;>simp[Wp] at h<;>subst h<;>simp[eqGuard_at_int,binOp,Op.intArith,Op.intCmp,bne]
theorem Qm{A:Prim}(hA:A=Aw){op:BinOp}{k:IntKind}{a b:Int}{sv:SV}(h:orO ((VR A op k a b).map (.sym k)) ((afY A op a b).map .test)=ay sv):
  ∃v,Wp op k a b=ay v/\Den H E sv v:=by
 subst hA;cases op<;>simp[VR,afY,orO] at h<;>subst h<;>exact ⟨_,rfl,rfl⟩
theorem ac7{op:BinOp}{k:IntKind}{a b:Int}{sv:SV}(h:orO ((aeI op k a b).map (.int k)) ((cmpL op a b).map .bool)=ay sv):
  ∃v,Wp op k a b=ay v/\Den H E sv v:=by
 cases op<;>simp[aeI,cmpL,orO] at h<;>subst h<;>exact ⟨_,rfl,rfl⟩
theorem af9{t:Nat}(hu:P.underlying t=ay .bool)(a b:Bool)(w:World):(gZ t (.bool a) (.bool b)).run P w=.ok (a==b) w:=by
 have:∀d:Nat,(fJ (d+1) t (.bool a) (.bool b)).run P w=.ok (a==b) w:=fun d=>by simp[fJ,run_underlying hu]
 exact this 9999
theorem TM{t:Nat}(hu:P.underlying t=ay .bool)(a b:Bool)(x y:Operand)(w:World):
  (do eqGuard .eql t x y (.bool a) (.bool b);binOp .eql t (.bool a) (.bool b):Sem Value).run P w=.ok (.bool (a==b)) w/\
  (do eqGuard .neq t x y (.bool a) (.bool b);binOp .neq t (.bool a) (.bool b):Sem Value).run P w=.ok (.bool (!(a==b))) w:=by
 constructor<;>simp[eqGuard_at_bool,binOp,af9 hu]
theorem ac8(l:List UInt8):(⟨l.toArray⟩:ByteArray).toList=l:=Lib.toList_data _
theorem Ws(l l':List UInt8)(t:Nat)(x y:Operand)(w:World):
  (do eqGuard .eql t x y (.string ⟨l.toArray⟩) (.string ⟨l'.toArray⟩);binOp .eql t (.string ⟨l.toArray⟩) (.string ⟨l'.toArray⟩):Sem Value).run P w=.ok (.bool (l==l')) w/\
  (do eqGuard .neq t x y (.string ⟨l.toArray⟩) (.string ⟨l'.toArray⟩);binOp .neq t (.string ⟨l.toArray⟩) (.string ⟨l'.toArray⟩):Sem Value).run P w=.ok (.bool (!(l==l'))) w:=by
 constructor<;>simp[eqGuard_at_string,binOp,Op.stringOp]
theorem Pj{l:List UInt8}{v:Value}(h:Rep H (.str l) v):v=.string ⟨l.toArray⟩:=by
 cases h;rfl
theorem aaM{A:Prim}(hA:A=Aw){op:BinOp}{l l':List UInt8}{sv:SV}(h:eqS A op l l'=ay sv)(t:Nat)(x y:Operand):
  ∃r,Den H E sv r/\∀w,(do eqGuard op t x y (.string ⟨l.toArray⟩) (.string ⟨l'.toArray⟩);binOp op t (.string ⟨l.toArray⟩) (.string ⟨l'.toArray⟩):Sem Value).run P w=.ok r w:=by
 subst hA;cases op<;>simp[eqS] at h<;>subst h
 ·exact ⟨_,rfl,fun w=>(Ws l l' t x y w).1⟩
 ·exact ⟨_,rfl,fun w=>(Ws l l' t x y w).2⟩
theorem anm{A:Prim}(hA:A=Aw){op:BinOp}{a b:Bool}{sv:SV}{t:Nat}(hu:P.underlying t=ay .bool)(h:eqB A op a b=ay sv)(x y:Operand):
  ∃r,Den H E sv r/\∀w,(do eqGuard op t x y (.bool a) (.bool b);binOp op t (.bool a) (.bool b):Sem Value).run P w=.ok r w:=by
 subst hA;cases op<;>simp[eqB] at h<;>subst h
 ·exact ⟨_,rfl,fun w=>(TM hu a b x y w).1⟩
 ·exact ⟨_,rfl,fun w=>(TM hu a b x y w).2⟩
theorem UY:∀{l:List SV} {ns:List Cq} {vs:List Value},OA l=ay ns->AV H E l vs->vs=ns.map Cq.v
 |[],_,[],h,_=>by simp[OA] at h;subst h;rfl |s::l,ns,v::vs,h,⟨hd,hr⟩=>by
  unfold OA at h;split at h
  ·rename_i e;cases e
  all_goals first
   |(rename_i n r e
     cases e;cases hr2:OA l with
     |none=>simp[hr2] at h |some m=>simp[hr2] at h;subst h;rw[UY hr2 hr];simp only[Den] at hd;subst hd;rfl)
   |cases h
 |[],_,_::_,_,h=>h.elim |_::_,_,[],_,h=>h.elim
theorem RP:∀{xs ys:List Cq} {z:List SV},Dw xs z=aF->Dw ys z=aF->Qd Aw xs ys=decide (xs=ys)
 |[],[],_,_,_=>by simp[Qd] | .i x::xs,.i y::ys,z,h1,h2=>by
  cases z with
  |nil=>simp[Dw] at h1 |cons a z=>
   have h1':Dw xs z=aF:=by
    unfold Dw at h1;split at h1<;>simp_all
   have h2':Dw ys z=aF:=by
    unfold Dw at h2;split at h2<;>simp_all
   have ih:=RP h1' h2';simp only[Qd,ih];show (bif x==y then decide (xs=ys) else aA)=_;by_cases e:x=y
   ·subst e;simp
   ·have:(x==y)=aA:=by simpa using e
    rw[this];simp[e]
 | .b x::xs,.b y::ys,z,h1,h2=>by
  cases z with
  |nil=>simp[Dw] at h1 |cons a z=>
   have h1':Dw xs z=aF:=by
    unfold Dw at h1;split at h1<;>simp_all
   have h2':Dw ys z=aF:=by
    unfold Dw at h2;split at h2<;>simp_all
   have ih:=RP h1' h2';simp only[Qd,ih];show (bif x==y then decide (xs=ys) else aA)=_;by_cases e:x=y
   ·subst e;simp
   ·have:(x==y)=aA:=by simpa using e
    rw[this];simp[e]
 | .i x::xs,.b y::ys,z,h1,h2=>by
  cases z with
  |nil=>simp[Dw] at h1 |cons a z=>cases a<;>simp[Dw] at h1 h2
 | .b x::xs,.i y::ys,z,h1,h2=>by
  cases z with
  |nil=>simp[Dw] at h1 |cons a z=>cases a<;>simp[Dw] at h1 h2
 |[],y::ys,z,h1,h2=>by
  cases z with
  |nil=>cases y<;>simp[Dw] at h2 |cons a z=>simp[Dw] at h1
 |x::xs,[],z,h1,h2=>by
  cases z with
  |nil=>cases x<;>simp[Dw] at h1 |cons a z=>simp[Dw] at h2
theorem akC{t:Nat}{ps rs:Array TypeId}{b:Bool}(hu:P.underlying t=ay (.func ps rs b))(f:Fn)(x y:Array Value)(w:World):
  (gZ t (.func f x y) .nilFunc).run P w=.ok aA w/\(gZ t .nilFunc .nilFunc).run P w=.ok aF w:=by
 have:∀d:Nat,(fJ (d+1) t (.func f x y) .nilFunc).run P w=.ok aA w/\(fJ (d+1) t .nilFunc .nilFunc).run P w=.ok aF w:=
  fun d=>by constructor<;>simp[fJ,run_underlying hu]
 exact this 9999
theorem aal{t e:Nat}(hu:P.underlying t=ay (.pointer e))(a:Addr)(w:World):
  (gZ t (.pointer (ay a)) (.pointer aN)).run P w=.ok aA w/\(gZ t (.pointer aN) (.pointer aN)).run P w=.ok aF w:=by
 have:∀d:Nat,(fJ (d+1) t (.pointer (ay a)) (.pointer aN)).run P w=.ok aA w/\(fJ (d+1) t (.pointer aN) (.pointer aN)).run P w=.ok aF w:=
  fun d=>by constructor<;>simp[fJ,run_underlying hu]
 exact this 9999
theorem Wu{t:Nat}{ms:Array (String×TypeId)}(hu:P.underlying t=ay (.interface ms))(d:Nat)(u:Value)(w:World):
  (gZ t (.iface d u) .nilIface).run P w=.ok aA w/\(gZ t .nilIface (.iface d u)).run P w=.ok aA w/\(gZ t .nilIface .nilIface).run P w=.ok aF w:=by
 have:∀n:Nat,(fJ (n+1) t (.iface d u) .nilIface).run P w=.ok aA w/\(fJ (n+1) t .nilIface (.iface d u)).run P w=.ok aA w/\(fJ (n+1) t .nilIface .nilIface).run P w=.ok aF w:=
  fun n=>by refine ⟨?_,?_,?_⟩<;>simp[fJ,run_underlying hu]
 exact this 9999
theorem Ez{op:BinOp}{r:Bool}{sv:SV}{t:Nat}{u v:Value}{ox oy:Operand}(h:Ef op r=ay sv)(hg:eqGuard op t ox oy u v=pure ())
  (he:binOp .eql t u v=(do pure (.bool (<-gZ t u v)))) (hn:binOp .neq t u v=(do pure (.bool (!(<-gZ t u v))))) (hw:∀w,(gZ t u v).run P w=.ok r w) :
  ∃r,Den H E sv r/\∀w,(do eqGuard op t ox oy u v;binOp op t u v:Sem Value).run P w=.ok r w:=by
 cases op<;>simp[Ef] at h<;>subst h
 ·exact ⟨_,rfl,fun w=>by simp[hg,he,hw]⟩
 ·exact ⟨_,rfl,fun w=>by simp[hg,hn,hw]⟩
theorem aga{T:Nat}{x:Sh}{u:Value}(h:Rep H (.Dv T x) u):∃v,u=.iface T v:=by
 cases h;exact ⟨_,rfl⟩
theorem akD{g T:Nat}{u:Value}(h:Rep H (.er g T) u):∃T v,u=.iface T v:=by
 cases h;exact ⟨_,_,rfl⟩
theorem agb{g T:Nat}{u:Value}(h:Rep H (.er g T) u):∃v,u=.iface T v:=by
 cases h;exact ⟨_,rfl⟩
theorem aeU{g T:Nat}{u v:Value}(h:Rep H (.er g T) u)(h':Rep H (.er g T) v):∃b,u=.iface T (.pointer (ay b))/\v=u:=by
 cases h with
 |er _ _ b cs e h1 h2=>
  cases h' with
  |er _ _ b' cs' e' h1' h2'=>
   rw[h1] at h1';cases h1';exact ⟨b,rfl,rfl⟩
theorem ath{t T e:Nat}{ms:Array (String×TypeId)}{inf ie:TypeInfo}(hu:P.underlying t=ay (.interface ms))(h1:P.info? T=ay inf)(h2:inf.comparable=aF)(h3:P.underlying T=ay (.pointer e))(h4:P.info? e=ay ie)(h5:ie.size≠0)(b:Addr)(w:World):
  (gZ t (.iface T (.pointer (ay b))) (.iface T (.pointer (ay b)))).run P w=.ok aF w:=by
 have:∀n:Nat,(fJ (n+2) t (.iface T (.pointer (ay b))) (.iface T (.pointer (ay b)))).run P w=.ok aF w:=
  fun n=>by simp[fJ,run_underlying hu,run_underlying h3,typeInfo,sizeOf,h1,h2,h4,sameAddr]
 exact this 9998
theorem agc{gls:List (Nat×Sh)}{g T:Nat}(h:ady gls g T=aF):AA gls g=ay (.er g T):=by
 unfold ady at h;split at h
 ·rename_i e
  simp only[aJ,beq_iff_eq] at h;rw[e,h.1,h.2]
 ·cases h
theorem ac9{H:Mem}{g g' T:Nat}{u v:Value}(ha:hcell H g 0≠hcell H g' 0)(dx:Rep H (.er g T) u)(dy:Rep H (.er g' T) v):∃b b',u=.iface T (.pointer (ay b))/\v=.iface T (.pointer (ay b'))/\b≠b'/\
  (∃cs e,H b.block=ay (.cells cs e (0,0)))/\∃cs e,H b'.block=ay (.cells cs e (0,0)):=by
 cases dx with
 |er _ _ b cs e h1 h2=>
  cases dy with
  |er _ _ b' cs' e' h1' h2'=>exact ⟨b,b',rfl,rfl,fun e=>ha (by rw[h1,h1',e]),⟨cs,e,h2⟩,cs',e',h2'⟩
theorem alI{t T e:Nat}{ms:Array (String×TypeId)}{inf ie:TypeInfo}(hu:P.underlying t=ay (.interface ms))(h1:P.info? T=ay inf)(h2:inf.comparable=aF)(h3:P.underlying T=ay (.pointer e))(h4:P.info? e=ay ie)(h5:ie.size≠0){b b':Addr}(hb:b≠b')(w:World)
  {cs cs':Array Value} {ec ec':TypeId} (g1:w.heap[b.block]?=ay (.cells cs ec (0,0))) (g2:w.heap[b'.block]?=ay (.cells cs' ec' (0,0))) :
  (gZ t (.iface T (.pointer (ay b))) (.iface T (.pointer (ay b')))).run P w=.ok aA w:=by
 have hs:=run_sameAddr_other (P:=P) w hb g1 g2;have:∀n:Nat,(fJ (n+2) t (.iface T (.pointer (ay b))) (.iface T (.pointer (ay b')))).run P w=.ok aA w:=
  fun n=>by simp[fJ,run_underlying hu,run_underlying h3,typeInfo,sizeOf,h1,h2,h4,h5,hs]
 exact this 9998
theorem agd{Pw:World->Prop}{op:BinOp}{r:Bool}{sv:SV}{t:Nat}{u v:Value}{ox oy:Operand}(h:Ef op r=ay sv)(hg:eqGuard op t ox oy u v=pure ())
  (he:binOp .eql t u v=(do pure (.bool (<-gZ t u v)))) (hn:binOp .neq t u v=(do pure (.bool (!(<-gZ t u v))))) (hw:∀w,Pw w->(gZ t u v).run P w=.ok r w) :
  ∃r,Den H E sv r/\∀w,Pw w->(do eqGuard op t ox oy u v;binOp op t u v:Sem Value).run P w=.ok r w:=by
 cases op<;>simp[Ef] at h<;>subst h
 ·exact ⟨_,rfl,fun w hp=>by simp[hg,he,hw w hp]⟩
 ·exact ⟨_,rfl,fun w hp=>by simp[hg,hn,hw w hp]⟩
theorem aaN{t T T':Nat}{ms:Array (String×TypeId)}(hu:P.underlying t=ay (.interface ms))(hT:T≠T')(u v:Value)(w:World):
  (gZ t (.iface T u) (.iface T' v)).run P w=.ok aA w:=by
 have:∀n:Nat,(fJ (n+2) t (.iface T u) (.iface T' v)).run P w=.ok aA w:=
  fun n=>by simp[fJ,run_underlying hu,hT]
 exact this 9998
theorem aiN{op:BinOp}{t:Nat}{ox oy:Operand}(h:(isConst ox||isConst oy)=aF):eqGuard op t ox oy .nilIface .nilIface=pure ():=by
 cases ox<;>cases oy<;>simp[isConst] at h
 all_goals first
  |exact eqGuard_nil_constL _ _ _ _
  |exact eqGuard_nil_constR _ _ _ _
theorem aiO{t:Nat}{op:BinOp}{x y:SV}{sv:SV}{u v:Value}{ox oy:Operand}(hC:BL P C)(hg:Dt C.gls H){i:Kr}(hi:C.tys.get t=ay i)
  (dx:Den H E x u) (dy:Den H E y v) (h:akv C.VQ C.gls op i.ty (isConst ox||isConst oy) x y=ay sv) :
  ∃r,Den H E sv r/\∀w,((Kt x&&Kt y)=aF->H.on w)->(do eqGuard op t ox oy u v;binOp op t u v:Sem Value).run P w=.ok r w:=by
 have hd:=(hC.ty _ _ hi).desc;unfold akv at h;cases hb:(asI C.VQ x&&FN i.ty x&&FN i.ty y&&((isConst ox||isConst oy) || !(VU x&&VU y)))<;>simp only[hb,cond_true,cond_false] at h
 ·cases h
 rw[aJ,aJ,aJ] at hb;obtain ⟨⟨⟨fe,fx⟩,fy⟩,hlit⟩:=hb;have fin:(∃r,Den H E sv r/\∀w,(do eqGuard op t ox oy u v;binOp op t u v:Sem Value).run P w=.ok r w)->∃r,Den H E sv r/\∀w,((Kt x&&Kt y)=aF->H.on w)->(do eqGuard op t ox oy u v;binOp op t u v:Sem Value).run P w=.ok r w:=
  fun ⟨r,h1,h2⟩=>⟨r,h1,fun w _=>h2 w⟩
 unfold am4 at h;split at h
 ·apply fin
  cases hty:i.ty<;>rw[hty] at fx hd<;>simp[FN] at fx
  obtain ⟨_,_,_,hd⟩:=hd;obtain ⟨vs,rfl,_⟩:=dx;obtain rfl:v=_:=dy;exact Ez h (eqGuard_at_func ..) rfl rfl fun w=>(akC hd _ _ _ w).1
 ·apply fin
  cases hty:i.ty<;>rw[hty] at fx hd<;>simp[FN] at fx
  obtain ⟨_,_,_,hd⟩:=hd;obtain rfl:u=_:=dx;obtain rfl:v=_:=dy;exact Ez h (eqGuard_at_nilFunc ..) rfl rfl fun w=>(akC hd (.func 0) #[] #[] w).2
 ·apply fin
  cases hty:i.ty<;>rw[hty] at fx hd<;>simp[FN] at fx
  obtain ⟨b,_,rfl⟩:=dx;obtain rfl:v=_:=dy;exact Ez h (eqGuard_at_pointer ..) rfl rfl fun w=>(aal hd _ w).1
 ·apply fin
  cases hty:i.ty<;>rw[hty] at fx hd<;>simp[FN] at fx
  obtain ⟨b,o,cc,rfl,_⟩:=dx;obtain rfl:v=_:=dy;exact Ez h (eqGuard_at_pointer ..) rfl rfl fun w=>(aal hd _ w).1
 ·apply fin
  cases hty:i.ty<;>rw[hty] at fx hd<;>simp[FN] at fx
  obtain ⟨rfl,_⟩:=dx;obtain rfl:v=_:=dy;exact Ez h (eqGuard_at_pointer ..) rfl rfl fun w=>(aal hd _ w).1
 ·apply fin
  cases hty:i.ty<;>rw[hty] at fx hd<;>simp[FN] at fx
  obtain rfl:u=_:=dx;obtain rfl:v=_:=dy;exact Ez h (eqGuard_at_pointer ..) rfl rfl fun w=>(aal hd ⟨0,0,aN⟩ w).2
 ·apply fin
  cases hty:i.ty<;>rw[hty] at fx hd<;>simp[FN] at fx
  obtain ⟨_,hd⟩:=hd;obtain ⟨_,rfl,_⟩:=dx;obtain rfl:v=_:=dy;exact Ez h (eqGuard_at_iface ..) rfl rfl fun w=>(Wu hd _ _ w).1
 ·apply fin
  cases hty:i.ty<;>rw[hty] at fx hd<;>simp[FN] at fx
  obtain ⟨_,hd⟩:=hd;obtain ⟨_,rfl⟩:=aga dx;obtain rfl:v=_:=dy;exact Ez h (eqGuard_at_iface ..) rfl rfl fun w=>(Wu hd _ _ w).1
 ·apply fin
  cases hty:i.ty<;>rw[hty] at fx hd<;>simp[FN] at fx
  obtain ⟨_,hd⟩:=hd;obtain ⟨_,_,rfl⟩:=akD dx;obtain rfl:v=_:=dy;exact Ez h (eqGuard_at_iface ..) rfl rfl fun w=>(Wu hd _ _ w).1
 ·apply fin
  cases hty:i.ty<;>rw[hty] at fx hd<;>simp[FN] at fx
  obtain ⟨_,hd⟩:=hd;obtain rfl:u=_:=dx;obtain rfl:v=_:=dy;exact Ez h (aiN (by simpa[VU] using hlit)) rfl rfl fun w=>(Wu hd 0 .nilFunc w).2.2
 ·rename_i g T g' T'
  cases hgg:(g==g'&&T==T')<;>simp only[hgg,cond_true,cond_false] at h
  ·cases hga:(ady C.gls g T&&ady C.gls g' T'&&T==T' && !(g==g'))<;>simp only[hga,cond_true,cond_false] at h
   ·cases h
   simp only[aJ,beq_iff_eq,Bool.not_eq_true',beq_eq_false_iff_ne] at hga;obtain ⟨⟨⟨l1,l2⟩,rfl⟩,hne⟩:=hga;cases hty:i.ty<;>rw[hty] at fx hd<;>simp[FN] at fx
   obtain ⟨_,hd⟩:=hd;obtain ⟨b,b',rfl,rfl,hbb,⟨cs,ec,g1⟩,cs',ec',g2⟩:=ac9 (hg.apart g g' T T (agc l1) (agc l2) hne) dx dy;obtain ⟨inf,e,ie,q1,q2,q3,q4,q5⟩:=hC.VQ T fe;exact agd (Pw:=fun w=>(Kt (.sh (.er g T))&&Kt (.sh (.er g' T)))=aF->H.on w) h (eqGuard_at_iface ..) rfl rfl fun w hon=>alI hd q1 q2 q3 q4 q5 hbb w (hon rfl _ _ g1) (hon rfl _ _ g2)
  apply fin;simp only[aJ,beq_iff_eq] at hgg;obtain ⟨rfl,rfl⟩:=hgg;cases hty:i.ty<;>rw[hty] at fx hd<;>simp[FN] at fx
  obtain ⟨_,hd⟩:=hd;obtain ⟨b,rfl,rfl⟩:=aeU dx dy;obtain ⟨inf,e,ie,q1,q2,q3,q4,q5⟩:=hC.VQ T fe;exact Ez h (eqGuard_at_iface ..) rfl rfl fun w=>ath hd q1 q2 q3 q4 q5 b w
 ·apply fin
  cases hty:i.ty<;>rw[hty] at fx hd<;>simp[FN] at fx
  obtain ⟨_,hd⟩:=hd;obtain rfl:u=_:=dx;obtain ⟨_,_,rfl⟩:=akD dy;exact Ez h (eqGuard_nil_iface ..) rfl rfl fun w=>(Wu hd _ _ w).2.1
 ·rename_i t1 x1 g T
  apply fin;cases hty:i.ty<;>rw[hty] at fx hd<;>simp[FN] at fx
  obtain ⟨_,hd⟩:=hd;cases hT:(t1==T)<;>simp only[hT,cond_true,cond_false] at h
  ·have hT:t1≠T:=by simpa using hT
   obtain ⟨_,rfl,_⟩:=dx;obtain ⟨_,rfl⟩:=agb dy;exact Ez h (eqGuard_at_iface ..) rfl rfl fun w=>aaN hd hT _ _ w
  ·cases h
 ·rename_i t1 x1 g T
  apply fin;cases hty:i.ty<;>rw[hty] at fx hd<;>simp[FN] at fx
  obtain ⟨_,hd⟩:=hd;cases hT:(t1==T)<;>simp only[hT,cond_true,cond_false] at h
  ·have hT:t1≠T:=by simpa using hT
   obtain ⟨_,rfl⟩:=aga dx;obtain ⟨_,rfl⟩:=agb dy;exact Ez h (eqGuard_at_iface ..) rfl rfl fun w=>aaN hd hT _ _ w
  ·cases h
 ·cases h
theorem ano{c:Core}{a:Act}{o:Oper}{op:BinOp}{t t2:Nat}{x y:Operand}{φ:SV×Core->Prop}(hC:BL P C)(hg:Dt C.gls H)(ho:o.op=.binOp op t x y t2)(hd:AV H E c.tm a.tmps.toList)
  (h:(Mc c (am6 C op t (isConst x||isConst y) (BP c.tm x) (BP c.tm y))).All φ):∃(p:SV×Core) (v:Value),φ p/\p.2=c/\Den H E p.1 v/\∀w',((Kt (BP c.tm x)&&Kt (BP c.tm y))=aF->H.on w')->(execOp a.eval o).run P w'=.ok (.value v) w':=by
 obtain ⟨sv,hs,hφ⟩:=IU h;have dx:=BJ (H:=H) (E:=E) hd x;have dy:=BJ (H:=H) (E:=E) hd y;have hA:=hC.A;suffices hk:∃r,Den H E sv r/\∀w,((Kt (BP c.tm x)&&Kt (BP c.tm y))=aF->H.on w)->(do eqGuard op t x y (a.eval x) (a.eval y);binOp op t (a.eval x) (a.eval y):Sem Value).run P w=.ok r w by
  obtain ⟨r,h1,h2⟩:=hk;refine ⟨_,r,hφ,rfl,h1,fun w' hon=>?_⟩;have:=h2 w' hon;simp only[execOp,ho];simp only[gK] at this ⊢;rw[this];rfl
 generalize hu:a.eval x=u at dx ⊢;generalize hv:a.eval y=v at dy ⊢;unfold am6 at hs;split at hs;case h_1 k n l m hx hy=>
  rw[hx] at dx;rw[hy] at dy;cases hb:(k==l)<;>simp only[hb,cond_true,cond_false] at hs
  ·cases hs
  obtain rfl:k=l:=by simpa using hb
  obtain ⟨r,hr,hden⟩:=ac7 (H:=H) (E:=E) hs;simp only[Den] at dx dy;subst dx;subst dy;exact ⟨r,hden,fun w _=>Wq hr t x y w⟩
 case h_2 k n l m hx hy=>
  rw[hx] at dx;rw[hy] at dy;cases hb:(k==l)<;>simp only[hb,cond_true,cond_false] at hs
  ·cases hs
  obtain rfl:k=l:=by simpa using hb
  obtain ⟨r,hr,hden⟩:=Qm (H:=H) (E:=E) hA hs;simp only[Den] at dx dy;subst dx;subst dy;exact ⟨r,hden,fun w _=>Wq hr t x y w⟩
 case h_3 k n l m hx hy=>
  rw[hx] at dx;rw[hy] at dy;cases hb:(k==l)<;>simp only[hb,cond_true,cond_false] at hs
  ·cases hs
  obtain rfl:k=l:=by simpa using hb
  obtain ⟨r,hr,hden⟩:=Qm (H:=H) (E:=E) hA hs;simp only[Den] at dx dy;subst dx;subst dy;exact ⟨r,hden,fun w _=>Wq hr t x y w⟩
 case h_4 k n l m hx hy=>
  rw[hx] at dx;rw[hy] at dy;cases hb:(k==l)<;>simp only[hb,cond_true,cond_false] at hs
  ·cases hs
  obtain rfl:k=l:=by simpa using hb
  obtain ⟨r,hr,hden⟩:=Qm (H:=H) (E:=E) hA hs;simp only[Den] at dx dy;subst dx;subst dy;exact ⟨r,hden,fun w _=>Wq hr t x y w⟩
 case h_5 k l hx hy=>
  rw[hx] at dx;rw[hy] at dy;simp only[Den] at dx dy;subst dx;subst dy;cases op<;>simp at hs<;>subst hs
  ·exact ⟨_,rfl,fun w _=>(Ws k l t x y w).1⟩
  ·exact ⟨_,by simp[Den,bne],fun w _=>(Ws k l t x y w).2⟩
 case h_6 k l hx hy=>
  rw[hx] at dx;rw[hy] at dy;obtain rfl:=Pj dy;simp only[Den] at dx;subst dx;obtain ⟨r,h1,h2⟩:=aaM (P:=P) (H:=H) (E:=E) hA hs t x y;exact ⟨r,h1,fun w _=>h2 w⟩
 case h_7 k l hx hy=>
  rw[hx] at dx;rw[hy] at dy;obtain rfl:=Pj dx;simp only[Den] at dy;subst dy;obtain ⟨r,h1,h2⟩:=aaM (P:=P) (H:=H) (E:=E) hA hs t x y;exact ⟨r,h1,fun w _=>h2 w⟩
 case h_8 k l hx hy=>
  rw[hx] at dx;rw[hy] at dy;obtain rfl:=Pj dx;obtain rfl:=Pj dy;obtain ⟨r,h1,h2⟩:=aaM (P:=P) (H:=H) (E:=E) hA hs t x y;exact ⟨r,h1,fun w _=>h2 w⟩
 case h_9 k l hx hy=>
  rw[hx] at dx;rw[hy] at dy;obtain ⟨vs,rfl,dl⟩:=dx;obtain ⟨vs',rfl,dl'⟩:=dy;split at hs
  ·rename_i m n i hm hn hi
   cases hb:(C.eqs.contains t&&Dw m i.zero&&Dw n i.zero)<;>simp only[hb,cond_true,cond_false] at hs
   ·cases hs
   simp only[aJ] at hb;obtain ⟨⟨h1,h2⟩,h3⟩:=hb;have e1:=UY hm dl;have e2:=UY hn dl';have e1':vs=(m.map Cq.v).toArray:=by rw[<-e1]
   have e2':vs'=(n.map Cq.v).toArray:=by rw[<-e2]
   subst e1' e2';have hE:=fun w=>hC.eqs t i h1 hi m n w h2 h3 x y
   have hq:=RP h2 h3;rw[hA] at hs;cases op<;>simp at hs<;>subst hs
   ·exact ⟨_,rfl,fun w _=>by rw[hq];exact (hE w).1⟩
   ·exact ⟨_,rfl,fun w _=>by rw[show Aw.nt (Qd Aw m n)=!decide (m=n) by rw[hq];rfl];exact (hE w).2⟩
  ·cases hs
 case h_10=>
  split at hs
  ·cases hs
  ·rename_i i hi
   split at hs
   ·rename_i hty
    have ht:=(hC.ty _ _ hi).desc;rw[hty] at ht;have fin:(∃r,Den H E sv r/\∀w,(do eqGuard op t x y u v;binOp op t u v:Sem Value).run P w=.ok r w)->∃r,Den H E sv r/\∀w,((Kt (BP c.tm x)&&Kt (BP c.tm y))=aF->H.on w)->(do eqGuard op t x y u v;binOp op t u v:Sem Value).run P w=.ok r w:=
     fun ⟨r,h1,h2⟩=>⟨r,h1,fun w _=>h2 w⟩
    apply fin;unfold am5 at hs;split at hs
    ·rename_i p q hp hq
     rw[hp] at dx;rw[hq] at dy;simp only[Den] at dx dy;subst dx dy;cases op<;>simp at hs<;>subst hs
     ·exact ⟨_,rfl,fun w=>(TM ht p q x y w).1⟩
     ·exact ⟨_,by simp[Den,bne],fun w=>(TM ht p q x y w).2⟩
    all_goals first
     |(rename_i p q hp hq
       rw[hp] at dx;rw[hq] at dy;simp only[Den] at dx dy;subst dx dy;exact anm hA ht hs x y)
     |cases hs
   ·exact aiO hC hg hi dx dy hs
theorem OH{x:SV}{u:Value}(hk:x.ZT=aF)(h:Den H E x u):AV H E x.cells u.cells.toList:=by
 cases x;case any=>simp[SV.ZT] at hk
 case ev=>simp[SV.ZT] at hk
 case agg l=>obtain ⟨vs,rfl,hl⟩:=h;exact hl
 case sh s=>
  have h':=h;have h:Rep H s u:=h;have key:u.cells=#[u]:=by
   cases h;case agg l vs a1 a2=>simp[SV.ZT] at hk
   case v h1=>cases u<;>simp[jW,mZ] at h1 ⊢
   all_goals rfl
  rw[key];exact ⟨h',trivial⟩
 all_goals
  have h':=h;have key:u.cells=#[u]:=by
   first
    |(simp only[Den] at h;subst h;rfl)
    |(obtain ⟨rfl,h1⟩:=h;cases u<;>simp[jW,mZ] at h1 ⊢;done)
    |(obtain ⟨_,_,rfl⟩:=h;rfl)
    |(obtain ⟨_,_,_,_,rfl⟩:=h;rfl)
    |(obtain ⟨_,_,_,_,_,rfl⟩:=h;rfl)
    |(obtain ⟨_,rfl,_⟩:=h;rfl)
    |(obtain ⟨_,_,_,rfl,_⟩:=h;rfl)
  rw[key];exact ⟨h',trivial⟩
theorem aaO:∀{xs:List SV} {vs:List Value},AV H E xs vs->∀{z:List SV} {cells:Array Value} (off k:Nat),AV H E z cells.toList->
  AV H E (setAt z (off+k) xs) ((vs.zipIdx k).foldl (fun (cs:Array Value) (p:Value×Nat)=>cs.setIfInBounds (off+p.2) p.1) cells).toList
 |[],[],_,_,_,_,_,hz=>hz |x::xs,v::vs,⟨hx,hxs⟩,z,cells,off,k,hz=>by
  simp only[setAt,List.zipIdx_cons,List.foldl_cons];have:=aaO hxs (z:=z.set (off+k) x) (cells:=cells.setIfInBounds (off+k) v) off (k+1) (by rw[Array.toList_setIfInBounds];exact hz.set _ hx);simpa[Nat.add_assoc] using this
 |[],_::_,h,_,_,_,_,_=>h.elim |_::_,[],h,_,_,_,_,_=>h.elim
theorem OI:∀(xs z:List SV) (off:Nat),(setAt z off xs).length=z.length
 |[],_,_=>rfl |x::xs,z,off=>by rw[setAt,OI xs];simp
theorem XV{place place':Nat->Option (Nat×Nat)}(hp:∀(i off size:Nat),place' i=ay (off,size)->place i=ay (off,size)){tm:List SV}{a:Act}(hd:AV H E tm a.tmps.toList):
  ∀(parts:List (Nat×Operand)) {z l:List SV} {cells:Array Value},AV H E z cells.toList->Qc place' (BP tm) z parts=ay l->
   ∃cells',zk place cells (parts.map fun p=>(p.1,a.eval p.2))=ay cells'/\AV H E l cells'.toList
 |[],z,l,cells,hz,h=>by simp[Qc] at h;subst h;exact ⟨cells,rfl,hz⟩ |(i,x)::r,z,l,cells,hz,h=>by
  unfold Qc at h;split at h
  ·rename_i off size hpl
   cases hb:((BP tm x).ZT&&(BP tm x).cells.length==size&&Nat.ble (off+size) z.length)<;>simp only[hb,cond_true,cond_false] at h
   ·cases h
   simp only[aJ,beq_iff_eq] at hb;obtain ⟨⟨h1,h2⟩,h3⟩:=hb;have h3:=Nat.le_of_ble_eq_true h3;have hv:=OH h1 (BJ hd x);have hlv:=hv.length;have hlz:=hz.length;have:=aaO hv (z:=z) (cells:=cells) off 0 hz;obtain ⟨cells',e1,e2⟩:=XV hp hd r this h;refine ⟨cells',?_,e2⟩;simp only[List.map_cons,zk,hp _ _ _ hpl];rw[if_neg]
   ·rw[<-e1,<-Array.foldl_toList,Array.toList_zipIdx]
   ·simp only[Array.length_toList] at hlv hlz
    simp only[Bool.or_eq_true,decide_eq_true_eq,not_or];constructor
    ·simp;omega
    ·omega
  ·cases h
theorem Y3:∀(fs:List Field) (ps:List (Nat×Nat×Bool)),fs.length=ps.length->(∀(j:Nat) (f:Field),fs[j]?=ay f->∃inf:TypeInfo,P.info? f.type=ay inf/\∃b,ps[j]?=ay (f.offset,inf.size,b))->
  fs.mapM (fun f=>(P.info? f.type).map fun i=>(f.offset,i.size))=ay (ps.map fun p=>(p.1,p.2.1))
 |[],[],_,_=>rfl |f::fs,p::ps,hl,h=>by
  obtain ⟨inf,h1,b,h2⟩:=h 0 f rfl;have ih:=Y3 fs ps (by simpa using hl) fun j f' hf=>h (j+1) f' (by simpa using hf);simp at h2;subst h2;simp[List.mapM_cons,h1,ih]
 |[],_::_,h,_=>by simp at h |_::_,[],h,_=>by simp at h
theorem agf{c:Core}{a:Act}{o:Oper}{t:Nat}{parts:Array (Nat×Operand)}{φ:SV×Core->Prop}(hC:BL P C)(ho:o.op=.build t parts)(hd:AV H E c.tm a.tmps.toList)
  (h:(UL C c t parts.toList).All φ):QP P H E c a o φ:=by
 unfold UL at h;split at h
 ·rename_i i hi
  have ht:=hC.ty _ _ hi;split at h
  ·rename_i fs hty
   have asJ:=ht.desc;rw[hty] at asJ;obtain ⟨fields,hu,hf⟩:=asJ;split at h
   ·rename_i l hl
    obtain ⟨inf,z,h1,h2,_,h4,h5,h6,_⟩:=ht.info;have h5':AV H E i.zero z.cells.toList:=h5.le (fun _ _ e=>by cases e) (fun _ _ e=>by cases e);obtain ⟨cells',e1,e2⟩:=XV (place:=fun x=>(fs.map fun p=>(p.1,p.2.1))[x]?) (fun j off size e=>by
     simp only[Option.map_eq_some_iff] at e;obtain ⟨⟨p1,p2,p3⟩,e1,e2⟩:=e;simp only[jU] at e2;simp[List.getElem?_map,e1,e2]) hd parts.toList h5' hl
    refine ⟨_,.agg cells',h,rfl,⟨cells',rfl,e2⟩,fun w'=>?_⟩;have hp:=Y3 (P:=P) fields.toList fs (by simpa using hf.1) (fun j f hj=>by
     obtain ⟨inf',a1,a2,_⟩:=hf.2 j f (by simpa using hj);exact ⟨inf',a1,_,a2⟩)
    have hb:P.built t (parts.map fun p=>(p.1,a.eval p.2)).toList=ay cells':=by
     unfold Program.built;rw[Array.toList_map];simp only[h1,hu,h4,hp];simpa using e1
    have:=run_build (P:=P) w' t _ _ hb;simp only[execOp,ho];simp only[gK] at this ⊢;rw[this];rfl
   ·exact h.elim
  ·exact h.elim
 ·exact h.elim
end
section
variable{P:Program}{C:Ctx}{K:Kx}{H:Mem}{E:Env}{w:World}
theorem Pm{c:Core}{a:Act}{o:Oper}{t:Nat}{x:Operand}{φ:SV×Core->Prop}(hC:BL P C)(ho:o.op=.makeInterface t x)(hd:AV H E c.tm a.tmps.toList)
  (h:(match C.ty t with
   |some i=>match i.ty with
    | .iface=>.fail | .other=>.fail |_=>ret c (.Dv t (BP c.tm x))
   |none=>.fail:Tree (SV×Core)).All φ):QP P H E c a o φ:=by
 have dx:=BJ (H:=H) (E:=E) hd x;split at h
 ·rename_i i hi
  have ht:=(hC.ty _ _ hi).desc;have key:∀d,P.underlying t=ay d->(∀ms,d≠.interface ms)->φ (.Dv t (BP c.tm x),c)->QP P H E c a o φ:=fun d hu hne hφ=>
   ⟨_,.iface t (a.eval x),hφ,rfl,⟨_,rfl,dx⟩,fun w'=>by
    simp only[execOp,ho,Instr.makeInterface,gK,run_underlying hu,Result.andThen_ok];cases d<;>simp_all⟩
  split at h
  ·exact h.elim
  ·exact h.elim
  ·rename_i ty hne1 hne2
   cases hty:i.ty<;>rw[hty] at ht hne1 hne2
   case iface=>exact (hne1 rfl).elim
   case other=>exact (hne2 rfl).elim
   case fn=>obtain ⟨_,_,_,ht⟩:=ht;exact key _ ht (by simp) h
   case struct=>obtain ⟨_,ht,_⟩:=ht;exact key _ ht (by simp) h
   all_goals exact key _ ht (by simp) h
 ·exact h.elim
theorem UZ{c:Core}{a:Act}{o:Oper}{b:Builtin}{xs:Array Operand}{ts:Array TypeId}{sv:SV}{φ:SV×Core->Prop}(ho:o.op=.call {callee:=.builtin b,args:=xs,argTypes:=ts})
  (h:φ (sv,c)) {v:Value} (hv:Den H E sv v) (hr:∀w',∀cs,(builtin b ts o.type cs (xs.map a.eval)).run P w'=.ok (.value v) w'):QP P H E c a o φ:=
 ⟨_,v,h,rfl,hv,fun w'=>by
  simp only[execOp,ho,resolve];simp[invoke,hr w']⟩
theorem aiP{hp:List (Nat×SB)}{A:Prim}(hA:A=Aw){x sv:SV}{u:Value}(hh:AZ K H E w hp)(h:akx A hp x=ay sv)(dx:Den H E x u):
  (∃A n c,u=.slice A n c/\Den H E sv (.int .i64 n))\/(∃l,u=.string ⟨nX l⟩/\Den H E sv (.int .i64 l.length)):=by
 subst hA;unfold akx at h;split at h
 ·rename_i id
  obtain ⟨he,A,n,cc,rfl⟩:=dx;split at h
  ·rename_i cells el st m hl
   cases h;obtain ⟨v,xs,he',hr,_,_⟩:=hh.ent _ _ hl;rw[he] at he';cases he';have:=MS hr;simp only[lenV] at this;subst this;exact .inl ⟨_,_,_,rfl,rfl⟩
  ·rename_i el st m g hl
   cases h;obtain ⟨v,xs,he',hr,_,_⟩:=hh.ent _ _ hl;rw[he] at he';cases he';have:=MS hr;simp only[lenV] at this;subst this;exact .inl ⟨_,_,_,rfl,rfl⟩
  ·rename_i el st m g more hl
   cases h;obtain ⟨v,xs,ys,he',hr,_⟩:=hh.ent _ _ hl;rw[he] at he';cases he';have:=MS hr;simp only[lenV] at this;subst this;exact .inl ⟨_,_,_,rfl,rfl⟩
  ·rename_i st m g hl
   cases h;obtain ⟨v,he',hr⟩:=hh.ent _ _ hl;rw[he] at he';cases he';cases hr
   ·exact .inl ⟨_,_,_,rfl,rfl⟩
   ·exact .inl ⟨_,_,_,rfl,rfl⟩
  ·rename_i el l hl
   cases h;obtain ⟨v,he',hr,_⟩:=hh.ent _ _ hl;rw[he] at he';cases he';rcases hr with ⟨h1,rfl⟩ |⟨g,cap,cur,fz,h1,_⟩
   ·cases h1;exact .inl ⟨_,_,_,rfl,rfl⟩
   ·cases h1;exact .inl ⟨_,_,_,rfl,rfl⟩
  ·cases h
 ·cases h
  obtain ⟨A,m,c,_,_,rfl⟩:=dx;exact .inl ⟨_,_,_,rfl,rfl⟩
 ·cases h
  cases dx
  ·exact .inl ⟨_,_,_,rfl,rfl⟩
  ·exact .inl ⟨_,_,_,rfl,rfl⟩
 ·cases h
  simp only[Den] at dx;subst dx;exact .inl ⟨_,_,_,rfl,rfl⟩
 ·cases h
  simp only[Den] at dx;subst dx;exact .inr ⟨_,rfl,rfl⟩
 ·cases h
  cases dx;exact .inr ⟨_,rfl,rfl⟩
 ·cases h
theorem Y4{C:Ctx}{t:Nat}{i:Kr}{xs:Array Operand}{u:Value}(ht:Oe P t i)(h:(i.ty=.str/\∃l,u=.string ⟨nX l⟩)\/((∃e,i.ty=.slice e)/\∃A n c,u=.slice A n c))(w:World)(ty:Nat):
  ∃n:Int,(qy #[t] ty #[u]).run P w=.ok (.int .i64 n) w/\((∃A m c,u=.slice A m c/\n=m)\/(∃l,u=.string ⟨nX l⟩/\n=l.length)):=by
 have hd:=ht.desc;rcases h with ⟨hty,l,rfl⟩ |⟨⟨e,hty⟩,A,n,c,rfl⟩
 ·rw[hty] at hd
  exact ⟨l.length,by simp[qy,run_underlying (show P.underlying t=ay .string from hd)];rfl,.inr ⟨l,rfl,rfl⟩⟩
 ·rw[hty] at hd
  exact ⟨n,by simp[qy,run_underlying (show P.underlying t=ay (.slice e) from hd),goInt],.inl ⟨_,_,_,rfl,rfl⟩⟩
theorem anp{k:IntKind}{a b:Int}(ts:Array TypeId)(ty:Nat)(w:World):
  (wo ts ty #[.int k a,.int k b]).run P w=.ok (.int k (if b>a then b else a)) w/\(wu ts ty #[.int k a,.int k b]).run P w=.ok (.int k (if b<a then b else a)) w:=by
 constructor
 ·simp[wo,Builtin.max2]
 ·simp[wu,Builtin.min2]
theorem KU{x:SV}{u:Value}{k:IntKind}{n:Int}{l:Bool}(hk:Ja x=ay (k,n,l))(hd:Den H E x u):u=.int k n:=by
 cases x<;>simp[Ja] at hk
 all_goals (obtain ⟨rfl,rfl,rfl⟩:=hk;exact hd)
theorem aiQ{A:Prim}(hA:A=Aw){mx:Bool}{x y sv:SV}{u v:Value}(h:maxS A mx x y=ay sv)(dx:Den H E x u)(dy:Den H E y v):
  ∃(k:IntKind) (a b:Int),u=.int k a/\v=.int k b/\Den H E sv (.int k (bif mx then (if b>a then b else a) else (if b<a then b else a))):=by
 subst hA;unfold maxS at h;have kd:∀{x:SV} {u:Value} {k:IntKind} {n:Int} {l:Bool},Ja x=ay (k,n,l)->Den H E x u->u=.int k n:=by
  intro x u k n l hk hd;cases x<;>simp[Ja] at hk
  all_goals (obtain ⟨rfl,rfl,rfl⟩:=hk;exact hd)
 split at h
 ·rename_i k a la l b lb e1 e2
  cases hb:(k==l)<;>simp only[hb,cond_true,cond_false] at h
  ·cases h
  obtain rfl:k=l:=by simpa using hb
  refine ⟨k,a,b,kd e1 dx,kd e2 dy,?_⟩;cases hl:(la&&lb)<;>simp only[hl,cond_true,cond_false,kU] at h<;>subst h
  ·cases mx<;>rfl
  ·cases mx
   ·simp only[cond_false,Den,rV,true_and]
    cases hd:decide (b<a)<;>simp at hd<;>simp[hd]
    omega
   ·simp only[cond_true,Den,rV,true_and]
    cases hd:decide (a<b)<;>simp at hd<;>simp[hd]
    omega
 ·cases h
theorem ada{ty:Ty}{x:SV}{u:Value}(h:O9 ty x=aF)(dx:Den H E x u):(ty=.str/\∃l,u=.string ⟨nX l⟩)\/((∃e,ty=.slice e)/\∃A n c,u=.slice A n c):=by
 unfold O9 at h;split at h
 ·exact .inl ⟨rfl,_,dx⟩
 ·exact .inl ⟨rfl,_,Pj dx⟩
 ·obtain ⟨_,h⟩:=dx;exact .inr ⟨⟨_,rfl⟩,h⟩
 ·refine .inr ⟨⟨_,rfl⟩,?_⟩
  cases dx<;>exact ⟨_,_,_,rfl⟩
 ·obtain rfl:u=_:=dx;exact .inr ⟨⟨_,rfl⟩,_,_,_,rfl⟩
 ·obtain ⟨A,m,c,_,_,rfl⟩:=dx;exact .inr ⟨⟨_,rfl⟩,_,_,_,rfl⟩
 ·cases h
theorem q_len{c:Core}{a:Act}{o:Oper}{x:Operand}{t:Nat}{i:Kr}{φ:SV×Core->Prop}(hC:BL P C)(hd:AV H E c.tm a.tmps.toList)(hh:AZ K H E w c.hp)
  (ho:o.op=.call {callee:=.builtin .len,args:=#[x],argTypes:=#[t]}) (hi:C.tys.get t=ay i) (hf:O9 i.ty (BP c.tm x)=aF)
  (h:(Mc c (akx C.A c.hp (BP c.tm x))).All φ):QP P H E c a o φ:=by
 have dx:=BJ (H:=H) (E:=E) hd x;obtain ⟨sv,hs,hφ⟩:=IU h;have hl:=aiP hC.A hh hs dx;have ht:=hC.ty _ _ hi;have hcase:=ada hf dx;rcases hl with ⟨A,n,cc,e,hden⟩ |⟨l,e,hden⟩
 ·refine UZ ho hφ hden fun w' cs=>?_
  obtain ⟨m,h1,h2⟩:=Y4 (C:=C) (xs:=#[x]) ht hcase w' o.type;rcases h2 with ⟨A',m',c',e',rfl⟩ |⟨l',e',_⟩
  ·rw[e] at e';cases e'
   rw[e] at h1;simp[builtin,e,h1]
  ·rw[e] at e';cases e'
 ·refine UZ ho hφ hden fun w' cs=>?_
  obtain ⟨m,h1,h2⟩:=Y4 (C:=C) (xs:=#[x]) ht hcase w' o.type;rcases h2 with ⟨A',m',c',e',_⟩ |⟨l',e',rfl⟩
  ·rw[e] at e';cases e'
  ·rw[e] at e';cases e'
   rw[e] at h1;simp[builtin,e,h1]
theorem aeV{c:Core}{a:Act}{o:Oper}{x y:Operand}{ts:Array TypeId}{mx:Bool}{φ:SV×Core->Prop}(hC:BL P C)(hd:AV H E c.tm a.tmps.toList)
  (ho:o.op=.call {callee:=.builtin (bif mx then .max else .min),args:=#[x,y],argTypes:=ts}) (h:(Mc c (maxS C.A mx (BP c.tm x) (BP c.tm y))).All φ):QP P H E c a o φ:=by
 obtain ⟨sv,hs,hφ⟩:=IU h;obtain ⟨k,m,n,ex,ey,hden⟩:=aiQ hC.A hs (BJ hd x) (BJ hd y);refine UZ ho hφ hden fun w' cs=>?_
 have:=anp (P:=P) (k:=k) (a:=m) (b:=n) ts o.type w';cases mx
 ·simp[builtin,ex,ey,this.2]
 ·simp[builtin,ex,ey,this.1]
theorem U0{kk:IntKind}{n:Int}:∀{es:List (SV×SV)} {ms:List MapEntry} {r:Option SV} (j:Nat),RD kk n es=ay r->Oc H E es ms->
  (r=aN/\dP (.int kk) (.int kk n) ms j=ay aN)\/(∃sv i v,r=ay sv/\dP (.int kk) (.int kk n) ms j=ay (ay (i,v))/\Den H E sv v)
 |[],[],r,j,h,_=>by simp[RD] at h;exact .inl ⟨h.symm,rfl⟩ |(k,v)::es,m::ms,r,j,h,⟨h1,h2,h3⟩=>by
  unfold RD at h;split at h
  ·rename_i e;cases e
  ·rename_i l p u es' e
   simp only[qK,jU] at e;obtain ⟨⟨rfl,rfl⟩,rfl⟩:=e;have h1:m.key=.int l p:=h1;cases hb:(l==kk)<;>simp only[hb,cond_true,cond_false] at h
   ·cases h
   obtain rfl:l=kk:=by simpa using hb
   cases hp:(p==n)<;>simp only[hp,cond_true,cond_false] at h
   ·have hne:(n==p)=aA:=by simp at hp ⊢;exact fun e=>hp e.symm
    rcases U0 (j+1) h h3 with ⟨e1,e2⟩ |⟨sv,i,v',e1,e2,e3⟩
    ·exact .inl ⟨e1,by simp[dP,h1,dZ,hne,e2]⟩
    ·exact .inr ⟨sv,i,v',e1,by simp[dP,h1,dZ,hne,e2],e3⟩
   ·cases h
    have:p=n:=by simpa using hp
    subst this;exact .inr ⟨v,j,m.val,rfl,by simp[dP,h1,dZ],h2⟩
  ·cases h
 |[],_::_,_,_,_,h=>h.elim |_::_,[],_,_,_,h=>h.elim
theorem adH{kk:IntKind}{n:Int}{A:Prim}(hA:A=Aw){f:SV->Bool->Tree (SV×Core)}{z:SV}{φ:SV×Core->Prop}:∀{es:List (SV×SV)} {ms:List MapEntry} (j:Nat),(VX A kk n z f es).All φ->Oc H E es ms->
  (dP (.int kk) (.int kk n) ms j=ay aN/\(f z aA).All φ)\/(∃sv i v,(f sv aF).All φ/\dP (.int kk) (.int kk n) ms j=ay (ay (i,v))/\Den H E sv v)
 |[],[],j,h,_=>.inl ⟨rfl,h⟩ |(k,v)::es,m::ms,j,h,⟨h1,h2,h3⟩=>by
  unfold VX at h;split at h
  ·rename_i e;cases e
  ·rename_i l p u es' e
   simp only[qK,jU] at e;obtain ⟨⟨rfl,rfl⟩,rfl⟩:=e;have h1:m.key=.int l p:=h1;cases hb:(l==kk)<;>simp only[hb,cond_true,cond_false] at h
   ·exact h.elim
   obtain rfl:l=kk:=by simpa using hb
   subst hA;cases hp:(n==p)
   ·rcases adH rfl (j+1) (h.2 hp) h3 with ⟨e1,e2⟩ |⟨sv,i,v',e1,e2,e3⟩
    ·exact .inl ⟨by simp[dP,h1,dZ,hp,e1],e2⟩
    ·exact .inr ⟨sv,i,v',e1,by simp[dP,h1,dZ,hp,e2],e3⟩
   ·exact .inr ⟨v,j,m.val,h.1 hp,by simp[dP,h1,dZ,hp],h2⟩
  ·exact h.elim
 |[],_::_,_,_,h=>h.elim |_::_,[],_,_,h=>h.elim
def PV(H:Mem)(E:Env)(p:Bool)(sv:SV)(o:Option Value):Prop:=
 match p,o with|true,ay v=>Den H E sv v/\v.oneCell'=aF|false,aN=>True|_,_=>False
def MJ:List (Int×Option Value)->Int->Option (Option Value)
 |[],_=>aN |(n,o)::r,k=>if k=n then ay o else MJ r k
theorem Y5{M:Int->Option Value}{fv:List (Int×Option Value)}(hM:∀n o,(n,o)∈fv->M n=o){k:Int}{o:Option Value}:∀{uv:List (Int×Option Value)},MJ (uv++fv) k=ay o->Uj M uv k=o
 |[],h=>by
  have key:∀l:List (Int×Option Value),(∀n o,(n,o)∈l->M n=o)->MJ l k=ay o->M k=o:=by
   intro l;induction l with
   |nil=>intro _ h;cases h |cons p r ih=>
    obtain ⟨n,q⟩:=p;intro hm h;simp only[MJ] at h;split at h
    ·rename_i e;subst e;cases h;exact hm _ _ (cO ..)
    ·exact ih (fun n o h=>hm n o (dB _ h)) h
  exact key fv hM h
 |(n,q)::uv,h=>by
  simp only[List.cons_append,MJ] at h;simp only[Uj];split at h
  ·rename_i e;rw[if_pos e];cases h;rfl
  ·rename_i e;rw[if_neg e];exact Y5 hM h
theorem GR.app:∀{l l':List (Int×Bool×SV)} {v v':List (Int×Option Value)},GR H E l v->GR H E l' v'->GR H E (l++l') (v++v')
 |[],_,[],_,_,h=>h |(_,_,_)::_,_,(_,_)::_,_,⟨a,b,c⟩,h=>⟨a,b,c.app h⟩ |[],_,_::_,_,h,_=>h.elim |_::_,_,[],_,h,_=>h.elim
theorem Wv{φ:SV×Core->Prop}{k:Int}{f:Bool->SV->Tree (SV×Core)}:∀{l:List (Int×Bool×SV)} {lv:List (Int×Option Value)},GR H E l lv->(findF Aw k f l).All φ->
  ∃p sv o,(f p sv).All φ/\PV H E p sv o/\MJ lv k=ay o
 |[],_,_,h=>h.elim |[(j,p,sv)],[(n,o)],⟨a,b,_⟩,h=>by
  subst a;obtain ⟨h1,h2⟩:=h;have h1:k=n:=by simpa[Aw] using h1
  exact ⟨p,sv,o,h2,b,by simp[MJ,h1]⟩
 |(j,p,sv)::q::r,(n,o)::lv,⟨a,b,c⟩,h=>by
  subst a;obtain ⟨h1,h2⟩:=h;by_cases e:k=n
  ·exact ⟨p,sv,o,h1 (by simp[Aw,e]),b,by simp[MJ,e]⟩
  ·obtain ⟨p',sv',o',a1,a2,a3⟩:=Wv c (h2 (by simp[Aw,e]))
   exact ⟨p',sv',o',a1,a2,by simp[MJ,e,a3]⟩
 |[(_,_,_)],_::_::_,h,_=>h.2.2.elim |_::_,[],h,_=>h.elim
theorem Y6{φ:SV×Core->Prop}{k:Int}{f:Bool->SV->Tree (SV×Core)}{M:Int->Option Value}{fs us:List (Int×Bool×SV)}{fv uv:List (Int×Option Value)}(hM:∀n o,(n,o)∈fv->M n=o)
  (d2:GR H E us uv) (d1:GR H E fs fv) (h:(findF Aw k f (us++fs)).All φ):∃p sv o,(f p sv).All φ/\PV H E p sv o/\Uj M uv k=o:=by
 obtain ⟨p,sv,o,a1,a2,a3⟩:=Wv (d2.app d1) h;exact ⟨p,sv,o,a1,a2,Y5 hM a3⟩
theorem Jc{kk:IntKind}{n:Int}{v:Value}:∀{ms:List MapEntry},(∀m∈ms,∃n,m.key=.int kk n)->∀j:Nat,I5 kk n ms=ay v->
  ∃i,dP (.int kk) (.int kk n) ms j=ay (ay (j+i,v))/\∃m,ms[i]?=ay m/\m.key=.int kk n/\m.val=v
 |[],_,_,h=>by cases h |m::ms,hk,j,h=>by
  obtain ⟨p,hp⟩:=hk m (cO ..);by_cases e:n=p
  ·subst e
   simp[I5,hp,dZ] at h;exact ⟨0,by simp[dP,hp,dZ,h],m,rfl,hp,h⟩
  ·have e':(n==p)=aA:=by simpa using e
   simp[I5,hp,dZ,e'] at h;obtain ⟨i,a1,m',a2,a3⟩:=Jc (fun m hm=>hk m (dB _ hm)) (j+1) h;refine ⟨i+1,?_,m',by simpa using a2,a3⟩;simp only[dP,hp,dZ,if_true,e'];rw[a1];congr 3;omega
theorem KW{kk:IntKind}{n:Int}:∀{ms:List MapEntry},(∀m∈ms,∃n,m.key=.int kk n)->∀j:Nat,I5 kk n ms=aN->dP (.int kk) (.int kk n) ms j=ay aN
 |[],_,_,_=>rfl |m::ms,hk,j,h=>by
  obtain ⟨p,hp⟩:=hk m (cO ..);by_cases e:n=p
  ·subst e
   simp[I5,hp,dZ] at h
  ·have e':(n==p)=aA:=by simpa using e
   simp[I5,hp,dZ,e'] at h;simp only[dP,hp,dZ,if_true,e'];exact KW (fun m hm=>hk m (dB _ hm)) (j+1) h
theorem KX{kt:Nat}{kk:IntKind}(hu:P.underlying kt=ay (.int kk))(em:Bool)(k:IntKind)(n:Int)(w:World):(jc em 10000 kt (.int k n)).run P w=.ok () w:=by
 have:∀d:Nat,(jc em (d+1) kt (.int k n)).run P w=.ok () w:=fun d=>by simp[jc,run_underlying hu]
 exact this 9999
theorem KA{t kt e:Nat}{kk:IntKind}{n:Int}{ok:Bool}{te:Kr}{m:Value}{es:List MapEntry}{w:World}{z:Value}(hu:P.underlying t=ay (.map kt e))(hk:P.underlying kt=ay (.int kk))
  (hz:(zeroValue e).run P w=.ok z w) (hm:(m=.map aN/\es=[])\/(∃b clk,m=.map (ay b)/\w.heap[b]?=ay (.map es.toArray clk))) :
  (dP (.int kk) (.int kk n) es 0=ay aN->(jf t m (.int kk n) ok).run P w=.ok (if ok then .tuple #[z,.bool aA] else z) w)/\
  (∀i v,dP (.int kk) (.int kk n) es 0=ay (ay (i,v))->(jf t m (.int kk n) ok).run P w=.ok (if ok then .tuple #[v,.bool aF] else v) w):=by
 have hck:=fun em=>KX (P:=P) hk em kk n w;rcases hm with ⟨rfl,rfl⟩ |⟨b,clk,rfl,hb⟩
 ·constructor
  ·intro hf
   cases ok<;>simp[jf,run_underlying hu,hck,iD,run_underlying hk,hf,hz]
  ·intro i v hf
   simp[dP] at hf
 ·have hg:(getObj b).run P w=.ok (.map es.toArray clk) w:=by simp[getObj,lC,hb]
  constructor
  ·intro hf
   cases ok<;>simp[jf,run_underlying hu,hg,hck,iD,run_underlying hk,hf,hz]
  ·intro i v hf
   cases ok<;>simp[jf,run_underlying hu,hg,hck,iD,run_underlying hk,hf]
theorem Wx{c:Core}{ok:Bool}{sv:SV}{b:Bool}{v:Value}(hd:Den H E sv v):
  Den H E (bif ok then .Ba [sv,.bool b] else sv) (if ok then .tuple #[v,.bool b] else v):=by
 cases ok
 ·exact hd
 ·exact ⟨#[v,.bool b],rfl,hd,rfl,trivial⟩
theorem Qn{n m:Ea}(h:Dz n=Dz m):n=m:=by
 obtain ⟨a,l⟩:=n;obtain ⟨b,k⟩:=m;simp[Dz] at h;obtain ⟨rfl,h2⟩:=h;rw[h2]
theorem aiR{s:SV}{n:Int}{v:Value}(h:intOf s=ay n)(hd:Den H E s v):v=.int .i64 n:=by
 unfold intOf at h;split at h
 ·cases h;exact hd
 ·cases h;exact hd
 ·cases h
  have hd:Rep H (.i .i64 n) v:=hd;cases hd;rfl
 ·cases h
theorem agh{s:SV}{l:List UInt8}{v:Value}(h:strOf s=ay l)(hd:Den H E s v):v=.string ⟨l.toArray⟩:=by
 unfold strOf at h;split at h
 ·cases h;exact hd
 ·cases h
  have hd:Rep H (.str l) v:=hd;cases hd;rfl
 ·cases h
theorem Wy{s:SV}{n:Ea}{v:Value}(h:aag s=ay n)(hd:Den H E s v):v=Dz n:=by
 unfold aag at h;split at h
 ·split at h
  ·rename_i a b n l h1 h2
   cases h;obtain ⟨⟨cs⟩,rfl,hd⟩:=hd;match cs,hd with
   |[x,y],⟨d1,d2,_⟩=>
    rw[aiR h1 d1,agh h2 d2];rfl
  ·cases h
 ·rename_i n l
  cases h;have hd:Rep H (.agg [.i .i64 n,.str l]) v:=hd;cases hd with
  |agg _ vs hl hr=>
   obtain ⟨vs⟩:=vs;match vs,hl,hr with
   |[x,y],_,hr=>
    have h1:=hr 0 _ x rfl rfl;have h2:=hr 1 _ y rfl rfl;cases h1;cases h2;rfl
 ·cases h
theorem anq(k n:Ea):Aw.kp k.1 k.2 n.1 n.2=decide (k=n):=by
 obtain ⟨a,l⟩:=k;obtain ⟨b,m⟩:=n;simp[Aw]
theorem aiS{vt:VT}{v:Value}(h:anh vt v):Den H E (ana Aw vt (ay v)) v/\v.oneCell'=aF:=by
 cases vt with
 |int=>obtain ⟨n,rfl⟩:=h;exact ⟨rfl,rfl⟩ |bool=>obtain ⟨b,rfl⟩:=h;exact ⟨rfl,rfl⟩
theorem Y7{φ:SV×Core->Prop}{k:Ea}{f:Bool->SV->Tree (SV×Core)}{vt:VT}{M:Ea->Option Value}(hT:akA vt M):∀{us:List (Ea×Bool×SV)} {uv:List (Ea×Option Value)},
  V7 H E us uv->(aiF Aw vt M k f us).All φ->∃p sv o,(f p sv).All φ/\PV H E p sv o/\RJ M uv k=o
 |[],[],_,⟨h1,h2⟩=>by
  cases hm:M k with
  |none=>exact ⟨aA,.any,aN,h2 (by rw[hm];rfl),trivial,hm⟩ |some v=>exact ⟨aF,_,ay v,h1 (by rw[hm];rfl),by rw[hm];exact aiS (hT k v hm),hm⟩
 |(j,p,sv)::us,(n,o)::uv,⟨a,b,c⟩,h=>by
  subst a;obtain ⟨h1,h2⟩:=h;by_cases e:k=n
  ·exact ⟨p,sv,o,h1 (by rw[anq];simp[e]),b,by simp[RJ,e]⟩
  ·obtain ⟨p',sv',o',a1,a2,a3⟩:=Y7 hT c (h2 (by rw[anq];simp[e]))
   exact ⟨p',sv',o',a1,a2,by simp[RJ,e,a3]⟩
 |[],_::_,h,_=>h.elim |_::_,[],h,_=>h.elim
theorem Pn{kt:Nat}(hp:RN P kt){n:Ea}{w:World}:∀{ms:List MapEntry},(∀m∈ms,∃n,m.key=Dz n)->∀j:Nat,
  ∃r,(oz kt (Dz n) ms j).run P w=.ok r w/\((r=aN/\∀m∈ms,m.key≠Dz n)\/∃(i:Nat) (m:MapEntry),r=ay (j+i,m.val)/\ms[i]?=ay m/\m.key=Dz n)
 |[],_,j=>⟨aN,rfl,.inl ⟨rfl,fun _ h=>by cases h⟩⟩ |m::ms,hk,j=>by
  obtain ⟨p,hpk⟩:=hk m (cO ..);have he:=hp.eq n p w;by_cases e:n=p
  ·subst e
   refine ⟨ay (j,m.val),?_,.inr ⟨0,m,rfl,rfl,hpk⟩⟩;simp[oz,hpk,he]
  ·obtain ⟨r,h1,h2⟩:=Pn hp (n:=n) (w:=w) (fun m hm=>hk m (dB _ hm)) (j+1)
   refine ⟨r,?_,?_⟩
   ·simp[oz,hpk,he,e,h1]
   ·rcases h2 with ⟨a,b⟩ |⟨i,m',a,b,c⟩
    ·refine .inl ⟨a,fun x hx=>?_⟩
     rcases List.mem_cons.1 hx with rfl|hx
     ·rw[hpk];exact fun q=>e (Qn q).symm
     ·exact b x hx
    ·exact .inr ⟨i+1,m',by rw[a];congr 2;omega,by simpa using b,c⟩
theorem OJ{kt:Nat}(hp:RN P kt){n:Ea}{w:World}{ms:List MapEntry}(hk:∀m∈ms,∃n,m.key=Dz n):
  ∃r,(iD kt (Dz n) ms).run P w=.ok r w/\((r=aN/\∀m∈ms,m.key≠Dz n)\/∃(i:Nat) (m:MapEntry),r=ay (i,m.val)/\ms[i]?=ay m/\m.key=Dz n):=by
 obtain ⟨fs,hu⟩:=hp.und;cases ms with
 |nil=>exact ⟨aN,by simp[iD,run_underlying hu,dP],.inl ⟨rfl,fun _ h=>by cases h⟩⟩ |cons m ms=>
  obtain ⟨r,h1,h2⟩:=Pn hp (n:=n) (w:=w) hk 0;refine ⟨r,?_,?_⟩
  ·simp[iD,run_underlying hu,dP,dZ,h1]
  ·rcases h2 with h2|⟨i,m',a,b,c⟩
   ·exact .inl h2
   ·exact .inr ⟨i,m',by rw[a,Nat.zero_add],b,c⟩
theorem anr{e:Nat}{te:Kr}{z:SV}(hte:Oe P e te)(hz:pack te.ty.isAgg te.zero=ay z):∃zv:Value,Den H E z zv/\∀w:World,(zeroValue e).run P w=.ok zv w:=by
 obtain ⟨inf,zv,h1,h2,_,h4,h5,h6,h7,h8⟩:=hte.info;have h5':AV H E te.zero zv.cells.toList:=h5.le (fun _ _ e=>by cases e) (fun _ _ e=>by cases e);refine ⟨zv,?_,fun w=>by simp[zeroValue,typeInfo,h1,h4]⟩;rcases Nv hz with ⟨ha,rfl⟩ |⟨ha,hl⟩
 ·obtain ⟨cs,rfl⟩:=h7 ha
  exact ⟨cs,rfl,h5'⟩
 ·rw[hl] at h5'
  have h8:=(h8 ha).2;cases zv with
  |agg cs=>simp[jW] at h8 |_=>
   simp[mZ,AV] at h5';exact h5'
theorem alJ{c:Core}{a:Act}{o:Oper}{t:Nat}{x y:Operand}{ok:Bool}{φ:SV×Core->Prop}(hC:BL P C)(hd:AV H E c.tm a.tmps.toList)(hh:AZ K H E w c.hp)
  (ho:o.op=.lookup t x y ok) (h:(RF C c t (BP c.tm x) (BP c.tm y) ok).All φ):V9 P H E w c a o φ:=by
 have dx:=BJ (H:=H) (E:=E) hd x;have dy:=BJ (H:=H) (E:=E) hd y;unfold RF at h;split at h
 ·rename_i ti hti
  have ht:=(hC.ty _ _ hti).desc;split at h
  ·rename_i kt e hty
   rw[hty] at ht;split at h
   ·rename_i kti te hkt hte
    have hkt:=(hC.ty _ _ hkt).desc;have hte:=hC.ty _ _ hte;split at h
    ·rename_i fs z hkk hz
     cases hpk:(C.pks.contains kt)<;>simp only[hpk,cond_true,cond_false] at h
     ·exact h.elim
     have hp:=hC.pks _ hpk;obtain ⟨zv,hzd,Uk⟩:=anr (H:=H) (E:=E) hte hz;split at h
     ·rename_i id hx
      rw[hx] at dx;obtain ⟨b,he,ex⟩:=dx;split at h
      ·rename_i vt M us hl
       obtain ⟨b',ms,clk,uv,he',hw,d2,hT,hL,hok,_⟩:=hh.ent _ _ hl;rw[he] at he';cases he';have hkeep:∀w',UR H E c.hp w w'->w'.heap[b]?=ay (.map ms clk):=fun w' ha=>by
        rw[JB ha hl (b:=b) (by simp[Bv,he,AY]),hw]
       split at h
       ·rename_i n hn
        have dy:a.eval y=Dz n:=Wy hn dy;rw[hC.A] at h;obtain ⟨p,sv,ov,hφ,hpo,hat⟩:=Y7 hT d2 h;have fin:∀(sv:SV) (b:Bool) (v:Value),Den H E sv v->(Jb c ok sv b).All φ->(∀w',UR H E c.hp w w'->H.on w'->(jf t (a.eval x) (a.eval y) ok).run P w'=.ok (if ok then .tuple #[v,.bool b] else v) w')->V9 P H E w c a o φ:=by
         intro sv b v hdv hφ hr;refine ⟨_,_,hφ,rfl,Wx (c:=c) hdv,fun w' h1 h2=>?_⟩;simp[execOp,ho,hr w' h1 h2]
        have hg:∀w',UR H E c.hp w w'->(getObj b).run P w'=.ok (.map ms clk) w':=fun w' h1=>by simp[getObj,lC,hkeep w' h1]
        cases p with
        |true=>
         cases ov with
         |none=>exact hpo.elim |some v=>
          refine fin _ aF v hpo.1 hφ fun w' h1 h2=>?_
          obtain ⟨r,e1,e2⟩:=OJ hp (n:=n) (w:=w') hok.key;rw[ex,dy];rcases e2 with ⟨_,e2⟩ |⟨i,m,rfl,e3,e4⟩
          ·obtain ⟨m,hm,q⟩:=hok.ex _ _ hat
           exact (e2 m hm q).elim
          ·have hv:=hok.ZU m (bP e3) n e4
           rw[hat] at hv;injection hv with hv
           subst hv;cases ok<;>simp[jf,run_underlying ht,hg w' h1,hp.chk,e1]
        |false=>
         cases ov with
         |some v=>exact hpo.elim |none=>
          refine fin _ aA zv hzd hφ fun w' h1 h2=>?_
          obtain ⟨r,e1,e2⟩:=OJ hp (n:=n) (w:=w') hok.key;rw[ex,dy];rcases e2 with ⟨rfl,_⟩ |⟨i,m,_,e3,e4⟩
          ·cases ok<;>simp[jf,run_underlying ht,hg w' h1,hp.chk,e1,Uk]
          ·have hv:=hok.ZU m (bP e3) n e4
           rw[hat] at hv;cases hv
       ·exact h.elim
      ·exact h.elim
     ·exact h.elim
    ·rename_i kk z hkk hz
     rw[hkk] at hkt;have hzero:∃zv:Value,Den H E z zv/\∀w:World,(zeroValue e).run P w=.ok zv w:=by
      obtain ⟨inf,zv,h1,h2,_,h4,h5,h6,h7,h8⟩:=hte.info;have h5':AV H E te.zero zv.cells.toList:=h5.le (fun _ _ e=>by cases e) (fun _ _ e=>by cases e);refine ⟨zv,?_,fun w=>by simp[zeroValue,typeInfo,h1,h4]⟩;rcases Nv hz with ⟨ha,rfl⟩ |⟨ha,hl⟩
      ·obtain ⟨cs,rfl⟩:=h7 ha
       exact ⟨cs,rfl,h5'⟩
      ·rw[hl] at h5'
       have h8:=(h8 ha).2;cases zv with
       |agg cs=>simp[jW] at h8 |_=>
        simp[mZ,AV] at h5';exact h5'
     obtain ⟨zv,hzd,Uk⟩:=hzero;have fin:∀(sv:SV) (b:Bool) (v:Value),Den H E sv v->(Jb c ok sv b).All φ->(∀w',UR H E c.hp w w'->H.on w'->(jf t (a.eval x) (a.eval y) ok).run P w'=.ok (if ok then .tuple #[v,.bool b] else v) w')->V9 P H E w c a o φ:=by
      intro sv b v hdv hφ hr;refine ⟨_,_,hφ,rfl,Wx (c:=c) hdv,fun w' h1 h2=>?_⟩;simp[execOp,ho,hr w' h1 h2]
     split at h
     ·rename_i hx
      rw[hx] at dx;have dx:a.eval x=.map aN:=dx;split at h
      ·rename_i j n l hk
       have dy:a.eval y=.int j n:=KU hk dy;cases hb:(j==kk)<;>simp only[hb,cond_true,cond_false] at h
       ·exact h.elim
       obtain rfl:j=kk:=by simpa using hb
       refine fin _ _ _ hzd h fun w' h1 h2=>?_
       rw[dx,dy];exact (KA ht hkt (Uk w') (te:=te) (.inl ⟨rfl,rfl⟩)).1 rfl
      ·exact h.elim
     ·rename_i id hx
      rw[hx] at dx;obtain ⟨b,he,ex⟩:=dx;split at h
      ·rename_i es hl
       obtain ⟨b',ms,clk,he',hw,hdm,_⟩:=hh.ent _ _ hl;rw[he] at he';cases he';have hkeep:∀w',UR H E c.hp w w'->w'.heap[b]?=ay (.map ms clk):=fun w' ha=>by
        rw[JB ha hl (b:=b) (by simp[Bv,he,AY]),hw]
       split at h
       ·rename_i k n hy
        rw[hy] at dy;have dy:a.eval y=.int k n:=dy;cases hb:(k==kk)<;>simp only[hb,cond_true,cond_false] at h
        ·exact h.elim
        obtain rfl:k=kk:=by simpa using hb
        split at h
        ·rename_i sv hf
         rcases U0 0 hf hdm with ⟨e1,_⟩ |⟨sv',i,v,e1,e2,e3⟩
         ·cases e1
         ·cases e1
          refine fin _ _ _ e3 h fun w' h1 h2=>?_
          rw[ex,dy];exact (KA ht hkt (Uk w') (te:=te) (.inr ⟨b,clk,rfl,by simpa using hkeep w' h1⟩)).2 i v e2
        ·rename_i hf
         rcases U0 0 hf hdm with ⟨_,e2⟩ |⟨sv',i,v,e1,_⟩
         ·refine fin _ _ _ hzd h fun w' h1 h2=>?_
          rw[ex,dy];exact (KA ht hkt (Uk w') (te:=te) (.inr ⟨b,clk,rfl,by simpa using hkeep w' h1⟩)).1 e2
         ·cases e1
        ·exact h.elim
       ·rename_i k n hy
        rw[hy] at dy;have dy:a.eval y=.int k n:=dy;cases hb:(k==kk)<;>simp only[hb,cond_true,cond_false] at h
        ·exact h.elim
        obtain rfl:k=kk:=by simpa using hb
        rcases adH hC.A 0 h hdm with ⟨e2,hφ⟩ |⟨sv',i,v,hφ,e2,e3⟩
        ·refine fin _ _ _ hzd hφ fun w' h1 h2=>?_
         rw[ex,dy];exact (KA ht hkt (Uk w') (te:=te) (.inr ⟨b,clk,rfl,by simpa using hkeep w' h1⟩)).1 e2
        ·refine fin _ _ _ e3 hφ fun w' h1 h2=>?_
         rw[ex,dy];exact (KA ht hkt (Uk w') (te:=te) (.inr ⟨b,clk,rfl,by simpa using hkeep w' h1⟩)).2 i v e2
       ·exact h.elim
      ·rename_i fk M fs us tag hl
       obtain ⟨b',ms,clk,fv,uv,he',hw,d1,d2,hM,hok,_,_⟩:=hh.ent _ _ hl;rw[he] at he';cases he';have hkeep:∀w',UR H E c.hp w w'->w'.heap[b]?=ay (.map ms clk):=fun w' ha=>by
        rw[JB ha hl (b:=b) (by simp[Bv,he,AY]),hw]
       split at h
       ·rename_i j n l hk
        have dy:a.eval y=.int j n:=KU hk dy;cases hb:(j==kk&&fk==kk)<;>simp only[hb,cond_true,cond_false] at h
        ·exact h.elim
        simp only[aJ,beq_iff_eq] at hb;obtain ⟨rfl,rfl⟩:=hb;rw[hC.A] at h;obtain ⟨p,sv,o,hφ,hpo,hat⟩:=Y6 hM d2 d1 h;rw[<-hok.at_] at hat;cases p with
        |true=>
         cases o with
         |none=>exact hpo.elim |some v=>
          obtain ⟨i,hi⟩:=Jc hok.key 0 hat;refine fin _ _ _ hpo.1 hφ fun w' h1 h2=>?_
          rw[ex,dy];exact (KA ht hkt (Uk w') (te:=te) (.inr ⟨b,clk,rfl,by simpa using hkeep w' h1⟩)).2 _ _ hi.1
        |false=>
         cases o with
         |some v=>exact hpo.elim |none=>
          have hi:=KW hok.key 0 hat;refine fin _ _ _ hzd hφ fun w' h1 h2=>?_
          rw[ex,dy];exact (KA ht hkt (Uk w') (te:=te) (.inr ⟨b,clk,rfl,by simpa using hkeep w' h1⟩)).1 hi
       ·exact h.elim
      ·exact h.elim
     ·exact h.elim
    ·exact h.elim
   ·exact h.elim
  ·exact h.elim
 ·exact h.elim
theorem alK{t e:Nat}(hu:P.underlying t=ay (.slice e))(A:Option Addr)(n k:Nat)(w:World):(gZ t (.slice A n k) (.slice aN 0 0)).run P w=.ok A.isNone w:=by
 have:∀n':Nat,(fJ (n'+1) t (.slice A n k) (.slice aN 0 0)).run P w=.ok A.isNone w:=fun n'=>by
  cases A<;>simp[fJ,run_underlying hu]
 exact this 9999
theorem aiT{hp:List (Nat×SB)}{x:SV}{n:Nat}{u:Value}(hh:AZ K H E w hp)(h:am7 hp x=ay n)(dx:Den H E x u):∃A k,u=.slice A n k/\(0<n->A.isNone=aA):=by
 unfold am7 at h;split at h
 ·rename_i id
  obtain ⟨he,A,m,cc,rfl⟩:=dx;have key:∀{elem st n:Nat} {xs:List Value},w.ownsRow 0 elem st (.slice A m cc) n xs->m=n/\(0<n->A.isNone=aA):=fun {elem st n xs} hr=>by
   rcases hr.2 with ⟨h1,rfl⟩ |⟨g,cap,cur,h1,_⟩
   ·cases h1;exact ⟨rfl,fun h=>by omega⟩
   ·cases h1;exact ⟨rfl,fun _=>rfl⟩
  split at h
  ·rename_i cells el st m' hl
   cases h;obtain ⟨v,xs,he',hr,_,_⟩:=hh.ent _ _ hl;rw[he] at he';cases he';obtain ⟨rfl,h2⟩:=key hr;exact ⟨_,_,rfl,h2⟩
  ·rename_i el st m' g hl
   cases h;obtain ⟨v,xs,he',hr,_,_⟩:=hh.ent _ _ hl;rw[he] at he';cases he';obtain ⟨rfl,h2⟩:=key hr;exact ⟨_,_,rfl,h2⟩
  ·rename_i st m' g hl
   cases h;obtain ⟨v,he',hr⟩:=hh.ent _ _ hl;rw[he] at he';cases he';cases hr
   ·exact ⟨_,_,rfl,fun h=>by omega⟩
   ·exact ⟨_,_,rfl,fun _=>rfl⟩
  ·cases h
 ·cases h
  cases dx
  ·exact ⟨_,_,rfl,fun h=>by omega⟩
  ·exact ⟨_,_,rfl,fun _=>rfl⟩
 ·cases h
theorem Og{x:SV}{l:List UInt8}{v:Value}(h:textOf x=ay l)(d:Den H E x v):v=.string ⟨l.toArray⟩:=by
 unfold textOf at h;split at h
 ·cases h;exact d
 ·cases h;exact Pj d
 ·cases h
theorem aeW{P:Program}(l l':List UInt8)(h:l.length+l'.length<=9223372036854775807)(t:Nat)(x y:Operand)(w:World):
  (do eqGuard .add t x y (.string ⟨l.toArray⟩) (.string ⟨l'.toArray⟩);binOp .add t (.string ⟨l.toArray⟩) (.string ⟨l'.toArray⟩):Sem Value).run P w=.ok (.string ⟨(l++l').toArray⟩) w:=by
 have e:(⟨l.toArray⟩:ByteArray)++⟨l'.toArray⟩=⟨(l++l').toArray⟩:=by
  apply ByteArray.ext;rw[ByteArray.data_append];simp
 have h1:(eqGuard .add t x y (.string ⟨l.toArray⟩) (.string ⟨l'.toArray⟩):Sem Unit).run P w=.ok () w:=by simp[eqGuard]
 rw[gK,h1];show (binOp .add t (.string ⟨l.toArray⟩) (.string ⟨l'.toArray⟩):Sem Value).run P w=_;rw[Go.binOp_string_add,Go.run_string_add_sum w _ _ (by simpa[nS] using h),e]
theorem Y8{x:SV}{k:IntKind}{n:Int}{b:Bool}{u:Value}(h:numOf x=ay (k,n,b))(hd:Den H E x u):u=.int k n:=by
 unfold numOf at h;split at h
 ·cases h;exact hd
 ·cases h;exact hd
 ·cases h
theorem alL{op:BinOp}{k l:IntKind}{a b:Int}(h:(op=.shl/\0<=b)\/(op=.shr/\0<=b)\/(op=.quo/\k=l/\b≠0)\/(op=.rem/\k=l/\b≠0)\/((op=.and\/op=.or\/op=.xor\/op=.andNot)/\k=l))(t:Nat)(x y:Operand)(w:World):
  (do eqGuard op t x y (.int k a) (.int l b);binOp op t (.int k a) (.int l b):Sem Value).run P w=.ok (.int k (VW op k a b)) w:=by
 rcases h with ⟨rfl,h⟩ |⟨rfl,h⟩ |⟨rfl,rfl,h⟩ |⟨rfl,rfl,h⟩ |⟨h,rfl⟩
 ·have:¬b<0:=by omega
  simp[eqGuard,binOp,Op.shift,this,VW]
 ·have:¬b<0:=by omega
  simp[eqGuard,binOp,Op.shift,this,VW]
 ·simp[eqGuard,binOp,Op.intDiv,h,VW]
 ·simp[eqGuard,binOp,Op.intDiv,h,VW]
 ·rcases h with rfl|rfl|rfl|rfl<;>simp[eqGuard,binOp,Op.intBits,VW]
theorem alM{A:Prim}(hA:A=Aw){op:BinOp}{k:IntKind}{a b:Int}{la lb:Bool}{c:Core}{φ:SV×Core->Prop}(h:(Nk A op k a b la lb c).All φ):∃sv,φ (sv,c)/\Den H E sv (.int k (VW op k a b)):=by
 subst hA;unfold Nk at h;refine ⟨_,h,?_⟩;cases la<;>cases lb<;>rfl
theorem ant{c:Core}{a:Act}{op:BinOp}{t:Nat}{x y:Operand}{φ:SV×Core->Prop}{r:Tree (SV×Core)}(hC:BL P C)(hd:AV H E c.tm a.tmps.toList)(hr:am8 C c op (BP c.tm x) (BP c.tm y)=ay r)(h:r.All φ):
  ∃(p:SV×Core) (v:Value),φ p/\p.2=c/\Den H E p.1 v/\∀w',(do eqGuard op t x y (a.eval x) (a.eval y);binOp op t (a.eval x) (a.eval y):Sem Value).run P w'=.ok v w':=by
 have dx:=BJ (H:=H) (E:=E) hd x;have dy:=BJ (H:=H) (E:=E) hd y;have fin:∀{k l:IntKind} {n m:Int} {la lb:Bool},numOf (BP c.tm x)=ay (k,n,la)->numOf (BP c.tm y)=ay (l,m,lb)->(Nk C.A op k n m la lb c).All φ->
   ((op=.shl/\0<=m)\/(op=.shr/\0<=m)\/(op=.quo/\k=l/\m≠0)\/(op=.rem/\k=l/\m≠0)\/((op=.and\/op=.or\/op=.xor\/op=.andNot)/\k=l))->
   ∃(p:SV×Core) (v:Value),φ p/\p.2=c/\Den H E p.1 v/\∀w',(do eqGuard op t x y (a.eval x) (a.eval y);binOp op t (a.eval x) (a.eval y):Sem Value).run P w'=.ok v w':=by
  intro k l n m la lb h1 h2 h3 h4;obtain ⟨sv,h5,h6⟩:=alM hC.A h3;refine ⟨_,_,h5,rfl,h6,fun w'=>?_⟩;rw[Y8 h1 dx,Y8 h2 dy];exact alL h4 t x y w'
 unfold am8 at hr;split at hr
 ·rename_i k n la l m lb h1 h2
  cases hr;cases lb<;>simp only[cond_true,cond_false] at h
  ·rw[hC.A] at h
   have h0:(0:Int)<=m:=of_decide_eq_true h.1;exact fin h1 h2 (by rw[hC.A];exact h.2) (.inl ⟨rfl,h0⟩)
  ·cases h0:decide (0<=m)<;>simp only[h0,cond_true,cond_false] at h
   ·exact h.elim
   ·exact fin h1 h2 h (.inl ⟨rfl,of_decide_eq_true h0⟩)
 ·rename_i k n la l m lb h1 h2
  cases hr;cases lb<;>simp only[cond_true,cond_false] at h
  ·rw[hC.A] at h
   have h0:(0:Int)<=m:=of_decide_eq_true h.1;exact fin h1 h2 (by rw[hC.A];exact h.2) (.inr (.inl ⟨rfl,h0⟩))
  ·cases h0:decide (0<=m)<;>simp only[h0,cond_true,cond_false] at h
   ·exact h.elim
   ·exact fin h1 h2 h (.inr (.inl ⟨rfl,of_decide_eq_true h0⟩))
 ·rename_i k n la l m lb h1 h2
  cases hk:(k==l)<;>simp only[hk,cond_true,cond_false] at hr
  ·cases hr
  cases hr;have hk:k=l:=by simpa using hk
  cases lb<;>simp only[cond_true,cond_false] at h
  ·rw[hC.A] at h
   have h0:(!(m==0))=aF:=h.1;exact fin h1 h2 (by rw[hC.A];exact h.2) (.inr (.inr (.inl ⟨rfl,hk,by simpa using h0⟩)))
  ·cases h0:(m==0)<;>simp only[h0,cond_true,cond_false] at h
   ·exact fin h1 h2 h (.inr (.inr (.inl ⟨rfl,hk,by simpa using h0⟩)))
   ·exact h.elim
 ·rename_i k n la l m lb h1 h2
  cases hk:(k==l)<;>simp only[hk,cond_true,cond_false] at hr
  ·cases hr
  cases hr;have hk:k=l:=by simpa using hk
  cases lb<;>simp only[cond_true,cond_false] at h
  ·rw[hC.A] at h
   have h0:(!(m==0))=aF:=h.1;exact fin h1 h2 (by rw[hC.A];exact h.2) (.inr (.inr (.inr (.inl ⟨rfl,hk,by simpa using h0⟩))))
  ·cases h0:(m==0)<;>simp only[h0,cond_true,cond_false] at h
   ·exact fin h1 h2 h (.inr (.inr (.inr (.inl ⟨rfl,hk,by simpa using h0⟩))))
   ·exact h.elim
 all_goals first
  |(cases hr;done)
  |(rename_i k n la l m lb h1 h2
    cases hk:(k==l)<;>simp only[hk,cond_true,cond_false] at hr
    ·cases hr
    cases hr;have hk:k=l:=by simpa using hk
    exact fin h1 h2 h (.inr (.inr (.inr (.inr ⟨by simp,hk⟩)))))
theorem aaP{c:Core}{a:Act}{o:Oper}{op:BinOp}{t t2:Nat}{x y:Operand}{φ:SV×Core->Prop}(hC:BL P C)(hg:Dt C.gls H)(ho:o.op=.binOp op t x y t2)(hd:AV H E c.tm a.tmps.toList)(hh:AZ K H E w c.hp)
  (h:(aaC C c op t x y (isConst x||isConst y)).All φ):∃(p:SV×Core) (v:Value),φ p/\p.2=c/\Den H E p.1 v/\∀w',((Kt (BP c.tm x)&&Kt (BP c.tm y))=aF->H.on w')->(execOp a.eval o).run P w'=.ok (.value v) w':=by
 unfold aaC at h;split at h
 ·rename_i r hr
  obtain ⟨p,v,h1,h2,h3,h4⟩:=ant (t:=t) hC hd hr h;refine ⟨p,v,h1,h2,h3,fun w' _=>?_⟩;have:=h4 w';simp only[execOp,ho];simp only[gK] at this ⊢;rw[this];rfl
 split at h
 ·rename_i r hr
  unfold akw at hr;split at hr
  ·split at hr
   ·rename_i l l' h1 h2
    cases hr;obtain ⟨h3,hφ⟩:=h;rw[hC.A] at h3 hφ;have ex:=Og h1 (BJ (H:=H) (E:=E) hd x);have ey:=Og h2 (BJ (H:=H) (E:=E) hd y);have h3:l.length+l'.length<=9223372036854775807:=of_decide_eq_true h3;refine ⟨_,.string ⟨(l++l').toArray⟩,hφ,rfl,.str _,fun w' _=>?_⟩;have:=aeW (P:=P) l l' h3 t x y w';simp only[execOp,ho,ex,ey];simp only[gK] at this ⊢;rw[this];rfl
   ·cases hr
  ·cases hr
 split at h
 ·rename_i r hr
  unfold adz at hr;split at hr
  ·rename_i i hi
   split at hr
   ·rename_i e hty
    have ht:=(hC.ty _ _ hi).desc;rw[hty] at ht;have ht:P.underlying t=ay (.slice e):=ht;cases hn:XK y<;>simp only[hn,cond_true,cond_false] at hr
    ·cases hr
    have ey:a.eval y=.slice aN 0 0:=by
     unfold XK at hn;split at hn
     ·rfl
     ·cases hn
    split at hr
    ·rename_i va vb hva hvb
     have dx:=BJ (H:=H) (E:=E) hd x;have fin:∀(r:Bool) (sv:SV) (A:Option Addr) (n k:Nat),a.eval x=.slice A n k->A.isNone=r->Ef op r=ay sv->φ (sv,c)->∃(p:SV×Core) (v:Value),φ p/\p.2=c/\Den H E p.1 v/\∀w',((Kt (BP c.tm x)&&Kt (BP c.tm y))=aF->H.on w')->(execOp a.eval o).run P w'=.ok (.value v) w':=by
      intro r sv A n k ex hA hop hφ;have hgd:eqGuard op t x y (.slice A n k) (.slice aN 0 0)=pure ():=by
       unfold eqGuard;cases op<;>rfl
      have he1:binOp .eql t (.slice A n k) (.slice aN 0 0)=(do pure (.bool (<-gZ t (.slice A n k) (.slice aN 0 0)))):=rfl;have he2:binOp .neq t (.slice A n k) (.slice aN 0 0)=(do pure (.bool (!(<-gZ t (.slice A n k) (.slice aN 0 0))))):=rfl;obtain ⟨rv,h1,h2⟩:=Ez (H:=H) (E:=E) hop hgd he1 he2 fun w=>by rw[<-hA];exact alK ht A n k w
      refine ⟨_,rv,hφ,rfl,h1,fun w' _=>?_⟩;have:=h2 w';simp only[execOp,ho,ex,ey];simp only[gK] at this ⊢;rw[this];rfl
     split at hr
     ·rename_i hx
      cases hr;rw[hx] at dx;exact fin aF _ aN 0 0 dx rfl hva h
     ·split at hr
      ·rename_i n hn2
       cases hr;obtain ⟨A,k,ex,hA⟩:=aiT hh hn2 dx;cases hb:C.A.leN n 0 with
       |true=>
        obtain ⟨h1,h2⟩:=h.1 hb;cases hx:A.isNone with
        |true=>exact fin aF _ A n k ex hx hva h1 |false=>exact fin aA _ A n k ex hx hvb h2
       |false=>
        rw[hC.A] at hb;exact fin aA _ A n k ex (hA (by simpa[Aw,Nat.pos_iff_ne_zero] using hb)) hvb (h.2 (by rw[hC.A];exact hb))
      ·cases hr
    ·cases hr
   ·cases hr
  ·cases hr
 ·refine ano hC hg ho hd ?_
  split at h
  ·rename_i v hv;rw[hv];exact h
  ·exact h.elim
theorem WA{call:Nat->List SV->Core->Tree (SV×Core)}{c:Core}{a:Act}{o:Oper}{φ:SV×Core->Prop}(hC:BL P C)(hd:AV H E c.tm a.tmps.toList)(hh:AZ K H E w c.hp)(hg:Dt C.gls H)
  (hq:Dx o.op=aF) (h:(Qk C call c o).All φ):V9 P H E w c a o φ:=by
 unfold Qk at h;split at h;case h_1 x ho=>exact (aak (.inl ho) hd h).q
 case h_2 x ho=>exact (aak (.inr ho) hd h).q
 case h_3 x y z ho=>exact (akB hC.A ho hd h).q
 case h_6 t parts ho=>exact (agf hC ho hd h).q
 case h_8 t x ho=>exact arp hC ho hd hh hg h
 case h_10 x ho=>exact (anl ho hd h).q
 case h_11 op t x y t2 ho=>exact let ⟨p,v,h1,h2,h3,h4⟩:=aaP hC hg ho hd hh h;⟨p,v,h1,h2,h3,fun w' _ hon=>h4 w' fun _=>hon⟩
 case h_12 t x ho=>exact (anj hC.A ho hd h).q
 case h_13 t x ho=>exact (ank hC.A ho hd h).q
 case h_14 t x f ho=>exact (Wi hC ho hd h).q
 case h_15 t x f ho=>exact (af7 hC ho hd h).q
 case h_16 t x i ho=>exact (Wn hC ho hd hh hg h).q
 case h_17 x i ho=>exact (aaJ ho hd h).q
 case h_18 f fs cs ho=>exact (YZ ho hd h).q
 case h_19 t x ho=>exact (Pm hC ho hd h).q
 case h_23 t m k ok ho=>exact alJ hC hd hh ho h
 case h_28 k ho=>
  rw[ho] at hq;unfold TI at h;split at h
  ·rename_i b hb
   obtain ⟨callee,xs,ts⟩:=k;simp only at hb;subst hb;simp only at h;split at h
   ·rename_i x t h1 h2
    split at h
    ·rename_i i hi
     cases hf:O9 i.ty (BP c.tm x)<;>simp only[hf,cond_true,cond_false] at h
     ·exact h.elim
     have e1:xs=#[x]:=by cases xs;simp at h1;subst h1;rfl
     have e2:ts=#[t]:=by cases ts;simp at h2;subst h2;rfl
     subst e1 e2;exact (q_len hC hd hh ho hi hf h).q
    ·exact h.elim
   ·simp[Dx] at hq
   ·simp[Dx] at hq
   ·rename_i x y h1
    have e1:xs=#[x,y]:=by cases xs;simp at h1;subst h1;rfl
    subst e1;exact (aeV (mx:=aF) hC hd ho h).q
   ·rename_i x y h1
    have e1:xs=#[x,y]:=by cases xs;simp at h1;subst h1;rfl
    subst e1;exact (aeV (mx:=aA) hC hd ho h).q
   ·exact h.elim
  ·rename_i f hb
   obtain ⟨callee,xs,ts⟩:=k;simp only at hb;subst hb;simp[Dx] at hq
  ·exact h.elim
 case h_30=>exact h.elim
 all_goals first
  |(rename_i ho;rw[ho] at hq;simp[Dx] at hq;done)
  |skip
theorem agi{call:Nat->List SV->Core->Tree (SV×Core)}{c:Core}{a:Act}{o:Oper}{φ:SV×Core->Prop}(hC:BL P C)(hd:AV H E c.tm a.tmps.toList)(hh:AZ K H E w c.hp)(hg:Dt C.gls H)
  (hq:KT c.tm o.op=aF) (h:(Qk C call c o).All φ):QP P H E c a o φ:=by
 unfold Qk at h;split at h;case h_1 x ho=>exact aak (.inl ho) hd h
 case h_2 x ho=>exact aak (.inr ho) hd h
 case h_3 x y z ho=>exact akB hC.A ho hd h
 case h_6 t parts ho=>exact agf hC ho hd h
 case h_10 x ho=>exact anl ho hd h
 case h_11 op t x y t2 ho=>
  rw[ho] at hq;exact let ⟨p,v,h1,h2,h3,h4⟩:=aaP hC hg ho hd hh h;⟨p,v,h1,h2,h3,fun w'=>h4 w' fun e=>by simp[KT,e] at hq⟩
 case h_12 t x ho=>exact anj hC.A ho hd h
 case h_13 t x ho=>exact ank hC.A ho hd h
 case h_14 t x f ho=>exact Wi hC ho hd h
 case h_15 t x f ho=>exact af7 hC ho hd h
 case h_16 t x i ho=>exact Wn hC ho hd hh hg h
 case h_17 x i ho=>exact aaJ ho hd h
 case h_18 f fs cs ho=>exact YZ ho hd h
 case h_19 t x ho=>exact Pm hC ho hd h
 case h_28 k ho=>
  rw[ho] at hq;unfold TI at h;split at h
  ·rename_i b hb
   obtain ⟨callee,xs,ts⟩:=k;simp only at hb;subst hb;simp only at h;split at h
   ·rename_i x t h1 h2
    split at h
    ·rename_i i hi
     cases hf:O9 i.ty (BP c.tm x)<;>simp only[hf,cond_true,cond_false] at h
     ·exact h.elim
     have e1:xs=#[x]:=by cases xs;simp at h1;subst h1;rfl
     have e2:ts=#[t]:=by cases ts;simp at h2;subst h2;rfl
     subst e1 e2;exact q_len hC hd hh ho hi hf h
    ·exact h.elim
   ·simp[KT,Dx] at hq
   ·simp[KT,Dx] at hq
   ·rename_i x y h1
    have e1:xs=#[x,y]:=by cases xs;simp at h1;subst h1;rfl
    subst e1;exact aeV (mx:=aF) hC hd ho h
   ·rename_i x y h1
    have e1:xs=#[x,y]:=by cases xs;simp at h1;subst h1;rfl
    subst e1;exact aeV (mx:=aA) hC hd ho h
   ·exact h.elim
  ·rename_i f hb
   obtain ⟨callee,xs,ts⟩:=k;simp only at hb;subst hb;simp[KT,Dx] at hq
  ·exact h.elim
 case h_30=>exact h.elim
 all_goals first
  |(rename_i ho;rw[ho] at hq;simp[KT,Dx] at hq;done)
  |skip
mutual
theorem adI:∀{x:SV} {v:Value},Den H E x v->Den H E x.hard v
 | .agg l,_,h=>by obtain ⟨vs,e,h⟩:=h;exact ⟨vs,e,U1 h⟩ | .Ba l,_,h=>by obtain ⟨vs,e,h⟩:=h;exact ⟨vs,e,U1 h⟩ | .any,_,h| .val _,_,h| .int _ _,_,h| .sym _ _,_,h| .bool _,_,h| .test _,_,h| .str _,_,h| .ptr _ _,_,h| .gs _,_,h| .gp _ _ _ _,_,h| .Fg,_,h| .Bj,_,h| .GN,_,h| .Ed,_,h| .F6,_,h| .fn _ _,_,h| .Dv _ _,_,h| .mp _,_,h| .sh _,_,h| .G5 _ _ _ _ _,_,h| .glob _,_,h| .ev _,_,h| .vw _ _,_,h=>h
theorem U1:∀{l:List SV} {vs:List Value},AV H E l vs->AV H E (aeK l) vs
 |[],[],_=>trivial |_::_,_::_,h=>⟨adI h.1,U1 h.2⟩ |[],_::_,h=>h.elim |_::_,[],h=>h.elim
end
theorem Tree.Jl{α β:Type}{φ:β->Prop}{k:α->Tree β}:∀{t:Tree α},(t.bind k).All φ->t.All fun a=>(k a).All φ
 | .leaf _,h=>h | .node _ _ _,h=>⟨fun e=>Tree.Jl (h.1 e),fun e=>Tree.Jl (h.2 e)⟩ | .need _ _,h=>⟨h.1,Tree.Jl h.2⟩ | .must _ _,h=>⟨h.1,Tree.Jl h.2⟩ | .both _ _,h=>⟨Tree.Jl h.1,Tree.Jl h.2⟩ | .fail,h=>h.elim
theorem U2{call:Nat->List SV->Core->Tree (SV×Core)}{c:Core}{o:Oper}{φ:SV×Core->Prop}(h:(exec C call c o).All φ):∃ψ:SV×Core->Prop,(Qk C call c o).All ψ/\∀p,ψ p->∃x,φ (x,p.2)/\∀(H:Mem) (E:Env) (v:Value),Den H E p.1 v->Den H E x v:=by
 unfold exec at h;cases hl:C.lits<;>simp only[hl,cond_true,cond_false] at h
 ·exact ⟨φ,h,fun p hp=>⟨p.1,hp,fun _ _ _ e=>e⟩⟩
 ·exact ⟨_,Tree.Jl h,fun p hp=>⟨p.1.hard,hp,fun _ _ _ e=>adI e⟩⟩
theorem agj{call:Nat->List SV->Core->Tree (SV×Core)}{c:Core}{a:Act}{o:Oper}{φ:SV×Core->Prop}(hC:BL P C)(hd:AV H E c.tm a.tmps.toList)(hh:AZ K H E w c.hp)(hg:Dt C.gls H)
  (hq:Dx o.op=aF) (h:(exec C call c o).All φ):V9 P H E w c a o φ:=by
 obtain ⟨ψ,h,hψ⟩:=U2 h;obtain ⟨p,v,h1,h2,h3,h4⟩:=WA hC hd hh hg hq h;obtain ⟨x,q1,q2⟩:=hψ p h1;exact ⟨(x,p.2),v,q1,h2,q2 _ _ _ h3,h4⟩
theorem aiU{call:Nat->List SV->Core->Tree (SV×Core)}{c:Core}{a:Act}{o:Oper}{φ:SV×Core->Prop}(hC:BL P C)(hd:AV H E c.tm a.tmps.toList)(hh:AZ K H E w c.hp)(hg:Dt C.gls H)
  (hq:KT c.tm o.op=aF) (h:(exec C call c o).All φ):QP P H E c a o φ:=by
 obtain ⟨ψ,h,hψ⟩:=U2 h;obtain ⟨p,v,h1,h2,h3,h4⟩:=agi hC hd hh hg hq h;obtain ⟨x,q1,q2⟩:=hψ p h1;exact ⟨(x,p.2),v,q1,h2,q2 _ _ _ h3,h4⟩
end
open Go.RowKit (Below)
def bk(E:Env)(id:Nat):Option Nat:=(E id).bind AY
def Free(E:Env)(c:Core):Prop:=∀i,c.nx<=i->i<c.lim->E i=aN
structure Post(K:Kx)(H:Mem)(E:Env)(w:World)(c:Core)(H':Mem)(E':Env)(w':World)(c':Core):Prop where
 I7:H.le H'
 MK:E.le E'
 new:∀i,E i=aN->E' i≠aN->c.nx<=i/\i<c'.nx
 nx:c.nx<=c'.nx
 lim:c'.nx<=c.lim\/c'.nx=c.nx
 agk:c'.lim=c.lim
 tm:c'.tm=c.tm
 hp:AZ K H' E' w' c'.hp
 Cm:Es K H' w'
 tc:∀id∈c.tc,id∈c'.tc
 size:w.heap.size<=w'.heap.size
 fr:∀b,b<w.heap.size->(∀id∈c'.tc,bk E id≠ay b)->w'.heap[b]?=w.heap[b]?
 Oh:∀i b,E i=aN->bk E' i=ay b->w.heap.size<=b\/∃id∈c'.tc,bk E id=ay b
 ZW:∀id∈c'.tc,id∈c.tc\/E id=aN\/∃sb,AA c.hp id=ay sb/\Bv E id sb=bk E id
 keep:∀id sb b,AA c.hp id=ay sb->id ∉ c'.tc->Bv E id sb=ay b->H' b≠aN\/∃sb',AA c'.hp id=ay sb'/\Bv E' id sb'=ay b
 old:∀id sb,AA c'.hp id=ay sb->E id≠aN->∃sb0,AA c.hp id=ay sb0/\∀b,Bv E' id sb=ay b->Bv E id sb0=ay b
section
variable{P:Program}{C:Ctx}{K:Kx}{H H':Mem}{E E':Env}{w w':World}
theorem Gv{elem st n:Nat}{v:Value}{xs:List Value}(h:w.ownsRow 0 elem st v n xs)(hk:∀b,AY v=ay b->w'.heap[b]?=w.heap[b]?):w'.ownsRow 0 elem st v n xs:=by
 refine ⟨h.1,?_⟩;rcases h.2 with h2|⟨g,cap,cur,rfl,h3,h4,h5⟩
 ·exact .inl h2
 ·exact .inr ⟨g,cap,cur,rfl,h3,by rw[hk g rfl];exact h4,h5⟩
theorem Oc.le(hH:H.le H')(hE:E.le E'):∀{es:List (SV×SV)} {ms:List MapEntry},Oc H E es ms->Oc H' E' es ms
 |[],[],_=>trivial |(_,_)::_,_::_,⟨a,b,c⟩=>⟨a.le hH hE,b.le hH hE,Oc.le hH hE c⟩ |[],_::_,h=>h.elim |_::_,[],h=>h.elim
theorem GR.le(hH:H.le H')(hE:E.le E'):∀{l:List (Int×Bool×SV)} {v:List (Int×Option Value)},GR H E l v->GR H' E' l v
 |[],[],_=>trivial |(_,aF,_)::_,(_,ay _)::_,⟨a,b,c⟩=>⟨a,⟨b.1.le hH hE,b.2⟩,GR.le hH hE c⟩ |(_,aA,_)::_,(_,aN)::_,⟨a,_,c⟩=>⟨a,trivial,GR.le hH hE c⟩ |(_,aF,_)::_,(_,aN)::_,h=>h.2.1.elim |(_,aA,_)::_,(_,ay _)::_,h=>h.2.1.elim |[],_::_,h=>h.elim |_::_,[],h=>h.elim
theorem V7.le(hH:H.le H')(hE:E.le E'):∀{l:List (Ea×Bool×SV)} {v:List (Ea×Option Value)},V7 H E l v->V7 H' E' l v
 |[],[],_=>trivial |(_,aF,_)::_,(_,ay _)::_,⟨a,b,c⟩=>⟨a,⟨b.1.le hH hE,b.2⟩,V7.le hH hE c⟩ |(_,aA,_)::_,(_,aN)::_,⟨a,_,c⟩=>⟨a,trivial,V7.le hH hE c⟩ |(_,aF,_)::_,(_,aN)::_,h=>h.2.1.elim |(_,aA,_)::_,(_,ay _)::_,h=>h.2.1.elim |[],_::_,h=>h.elim |_::_,[],h=>h.elim
theorem aeS.le(hE:E.le E'){k:IntKind}{ms:List MapEntry}{t:Option (Nat×Int)}(h:aeS E k ms t):aeS E' k ms t:=by
 cases t with
 |none=>trivial |some p=>obtain ⟨m,a,b,c⟩:=h;exact ⟨m,a,b,hE _ _ c⟩
theorem adb{e:Nat}{v:Value}{l:List UInt8}(h:G6 w e v l)(hk:∀b,AY v=ay b->w'.heap[b]?=w.heap[b]?):G6 w' e v l:=by
 rcases h with h|⟨g,cap,cur,fz,rfl,h1,h2⟩
 ·exact .inl h
 ·exact .inr ⟨g,cap,cur,fz,rfl,by rw[hk g rfl];exact h1,h2⟩
theorem agl{e b:Nat}{v:Value}{l:List UInt8}(h:G6 w e v l)(hb:AY v=ay b):b<w.heap.size:=by
 rcases h with ⟨rfl,_⟩ |⟨g,cap,cur,fz,rfl,h1,h2⟩
 ·simp[AY] at hb
 ·simp[AY] at hb;subst hb;exact (bH.1 h1).1
theorem GV.kept{id:Nat}{sb:SB}(h:GV K H E w id sb)(hH:H.le H')(hE:E.le E')(hb:∀b,Bv E id sb=ay b->w'.heap[b]?=w.heap[b]?)(hm:∀b,Bv E id sb=ay b->H' b=aN):GV K H' E' w' id sb:=by
 cases sb with
 |box cells elem=>
  obtain ⟨b,cs,he,h1,h2,h3⟩:=h;have ho:Bv E id (.box cells elem)=ay b:=by simp[Bv,he,AY]
  exact ⟨b,cs,hE _ _ he,by rw[hb b ho];exact h1,h2.le hH hE,hm b ho,h3.2⟩
 |row cells elem st n=>
  obtain ⟨v,xs,he,h1,h2,h3⟩:=h;have ho:∀b,AY v=ay b->Bv E id (.row cells elem st n)=ay b:=fun b hv=>by simp[Bv,he,hv]
  exact ⟨v,xs,hE _ _ he,Gv h1 fun b hv=>hb b (ho b hv),h2.le hH hE,fun b hv=>⟨hm b (ho b hv),(h3 b hv).2⟩⟩
 |own elem st n g=>
  obtain ⟨v,xs,he,h1,h2,h3⟩:=h;have ho:∀b,AY v=ay b->Bv E id (.own elem st n g)=ay b:=fun b hv=>by simp[Bv,he,hv]
  exact ⟨v,xs,hE _ _ he,Gv h1 fun b hv=>hb b (ho b hv),h2.le hH,fun b hv=>⟨hm b (ho b hv),(h3 b hv).2⟩⟩
 |fz st n g=>
  obtain ⟨v,he,h1⟩:=h;exact ⟨v,hE _ _ he,h1.le hH⟩
 |map es=>
  obtain ⟨b,ms,clk,he,h1,h2,h3⟩:=h;have ho:Bv E id (.map es)=ay b:=by simp[Bv,he,AY]
  exact ⟨b,ms,clk,hE _ _ he,by rw[hb b ho];exact h1,h2.le hH hE,hm b ho,h3.2⟩
 |Rt l=>
  obtain ⟨v,he,h1⟩:=h;exact ⟨v,hE _ _ he,h1.le hH⟩
 |Hl elem st n g more=>
  obtain ⟨v,xs,ys,he,h1,h2,h3,h4,h5,h6⟩:=h;have ho:∀b,AY v=ay b->Bv E id (.Hl elem st n g more)=ay b:=fun b hv=>by simp[Bv,he,hv]
  exact ⟨v,xs,ys,hE _ _ he,Gv h1 fun b hv=>hb b (ho b hv),h2.le hH,h3.le hH hE,h4,h5,fun b hv=>⟨hm b (ho b hv),(h6 b hv).2⟩⟩
 |fm k M fs us tag=>
  obtain ⟨b,ms,clk,fv,uv,he,h1,h2,h3,h4,h5,h6,h7⟩:=h;have ho:Bv E id (.fm k M fs us tag)=ay b:=by simp[Bv,he,AY]
  exact ⟨b,ms,clk,fv,uv,hE _ _ he,by rw[hb b ho];exact h1,h2.le hH hE,h3.le hH hE,h4,h5,h6.le hE,hm b ho,h7.2⟩
 |pm vt M us=>
  obtain ⟨b,ms,clk,uv,he,h1,h2,h3,h4,h5,h7⟩:=h;have ho:Bv E id (.pm vt M us)=ay b:=by simp[Bv,he,AY]
  exact ⟨b,ms,clk,uv,hE _ _ he,by rw[hb b ho];exact h1,h2.le hH hE,h3,h4,h5,hm b ho,h7.2⟩
 |buf e l=>
  obtain ⟨v,he,h1,h3⟩:=h;have ho:∀b,AY v=ay b->Bv E id (.buf e l)=ay b:=fun b hv=>by simp[Bv,he,hv]
  exact ⟨v,hE _ _ he,adb h1 fun b hv=>hb b (ho b hv),fun b hv=>⟨hm b (ho b hv),(h3 b hv).2⟩⟩
theorem GV.lt{id:Nat}{sb:SB}(h:GV K H E w id sb){b:Nat}(hb:Bv E id sb=ay b):b<w.heap.size/\Mine K H b:=by
 have lt:∀{b:Nat} {o:Obj},w.heap[b]?=ay o->b<w.heap.size:=fun h=>(bH.1 h).1;have lto:∀{elem st n:Nat} {v:Value} {xs:List Value},w.ownsRow 0 elem st v n xs->AY v=ay b->b<w.heap.size:=by
  intro elem st n v xs h hv;rcases h.2 with ⟨rfl,_⟩ |⟨g,_,_,rfl,_,h4,_⟩
  ·simp[AY] at hv
  ·simp[AY] at hv;subst hv;exact lt h4
 cases sb with
 |box cells elem=>
  obtain ⟨b',cs,he,h1,h2,h3⟩:=h;simp[Bv,he,AY] at hb;subst hb;exact ⟨lt h1,h3⟩
 |row cells elem st n=>
  obtain ⟨v,xs,he,h1,h2,h3⟩:=h;simp[Bv,he] at hb;exact ⟨lto h1 hb,h3 b hb⟩
 |own elem st n g=>
  obtain ⟨v,xs,he,h1,h2,h3⟩:=h;simp[Bv,he] at hb;exact ⟨lto h1 hb,h3 b hb⟩
 |fz st n g=>simp[Bv] at hb |map es=>
  obtain ⟨b',ms,clk,he,h1,h2,h3⟩:=h;simp[Bv,he,AY] at hb;subst hb;exact ⟨lt h1,h3⟩
 |Rt l=>simp[Bv] at hb |Hl elem st n g more=>
  obtain ⟨v,xs,ys,he,h1,h2,h3,h4,h5,h6⟩:=h;simp[Bv,he] at hb;exact ⟨lto h1 hb,h6 b hb⟩
 |fm k M fs us tag=>
  obtain ⟨b',ms,clk,fv,uv,he,h1,h2,h3,h4,h5,h6,h7⟩:=h;simp[Bv,he,AY] at hb;subst hb;exact ⟨lt h1,h7⟩
 |pm vt M us=>
  obtain ⟨b',ms,clk,uv,he,h1,h2,h3,h4,h5,h7⟩:=h;simp[Bv,he,AY] at hb;subst hb;exact ⟨lt h1,h7⟩
 |buf e l=>
  obtain ⟨v,he,h1,h3⟩:=h;simp[Bv,he] at hb;exact ⟨agl h1 hb,h3 b hb⟩
theorem GX{id b:Nat}{sb:SB}(h:Bv E id sb=ay b):bk E id=ay b:=by
 cases sb<;>simp[Bv] at h<;>simpa[bk] using h
theorem aam{id b:Nat}{sb:SB}(h:Bv E id sb=ay b)(hE:E.le E'):Bv E' id sb=ay b:=by
 have key:(E id).bind AY=ay b->(E' id).bind AY=ay b:=fun h=>by
  cases he:E id with
  |none=>simp[he] at h |some v=>rw[hE _ _ he];simpa[he] using h
 cases sb<;>simp only[Bv] at h ⊢
 all_goals first|exact key h|cases h
theorem GV.some_{id:Nat}{sb:SB}(h:GV K H E w id sb):∃v,E id=ay v:=by
 cases sb with
 |box _ _=>obtain ⟨b,_,he,_⟩:=h;exact ⟨_,he⟩ |row _ _ _ _=>obtain ⟨v,_,he,_⟩:=h;exact ⟨_,he⟩ |own _ _ _ _=>obtain ⟨v,_,he,_⟩:=h;exact ⟨_,he⟩ |fz _ _ _=>obtain ⟨v,he,_⟩:=h;exact ⟨_,he⟩ |map _=>obtain ⟨b,_,_,he,_⟩:=h;exact ⟨_,he⟩ |Rt _=>obtain ⟨v,he,_⟩:=h;exact ⟨_,he⟩ |Hl _ _ _ _ _=>obtain ⟨v,_,_,he,_⟩:=h;exact ⟨_,he⟩ |fm _ _ _ _ _=>obtain ⟨b,_,_,_,_,he,_⟩:=h;exact ⟨_,he⟩ |pm _ _ _=>obtain ⟨b,_,_,_,he,_⟩:=h;exact ⟨_,he⟩ |buf _ _=>obtain ⟨v,he,_⟩:=h;exact ⟨_,he⟩
theorem GY{id:Nat}{sb:SB}(h:GV K H E w id sb)(hE:E.le E'):Bv E' id sb=Bv E id sb:=by
 obtain ⟨v,he⟩:=h.some_;have he':=hE _ _ he;cases sb<;>simp[Bv,he,he']
theorem ES{α:Type}:∀(l:List (Nat×α)) (i j:Nat) (y:α),AA (hset l i y) j=bif i==j then (AA l i).map (fun _=>y) else AA l j
 |[],i,j,y=>by cases h:(i==j)<;>simp[hset,AA] |(k,x)::l,i,j,y=>by
  have ih:=ES l i j y;unfold hset;cases hki:(k==i)<;>simp only[cond_true,cond_false]
  ·simp only[AA,hki,cond_false]
   rw[ih];cases hij:(i==j)<;>simp only[cond_true,cond_false]
   ·obtain rfl:i=j:=by simpa using hij
    simp[hki]
  ·obtain rfl:k=i:=by simpa using hki
   cases hij:(k==j)<;>simp[AA,hij]
theorem E5{α:Type}:∀(l:List (Nat×α)) (i j:Nat) (y:α),AA (hins l i y) j=bif i==j then ay y else AA l j
 |[],i,j,y=>by cases h:(i==j)<;>simp[hins,AA,h] |(k,x)::l,i,j,y=>by
  have ih:=E5 l i j y;unfold hins;cases hk:fZ k i<;>simp only[cond_true,cond_false]
  ·simp only[AA]
  ·simp only[AA,ih]
   cases hkj:(k==j)<;>cases hij:(i==j)<;>simp
   have:k=i:=by
    have e1:k=j:=by simpa using hkj
    have e2:i=j:=by simpa using hij
    rw[e1,e2]
   have:=Fv hk;omega
theorem U3{α:Type}:∀(l:List (Nat×α)) (i j:Nat),AA (hdel l i) j=bif i==j then aN else AA l j
 |[],i,j=>by cases h:(i==j)<;>simp[hdel,AA] |(k,x)::l,i,j=>by
  have ih:=U3 l i j;unfold hdel;cases hki:(k==i)<;>simp only[cond_true,cond_false]
  ·simp only[AA,ih]
   cases hkj:(k==j)<;>cases hij:(i==j)<;>simp
   have e1:k=j:=by simpa using hkj
   have e2:i=j:=by simpa using hij
   rw[e1,e2] at hki;simp at hki
  ·obtain rfl:k=i:=by simpa using hki
   rw[ih];cases hij:(k==j)<;>simp[AA,hij]
def Env.set(E:Env)(i:Nat)(v:Value):Env:=fun j=>if j=i then ay v else E j
theorem Env.aeX{i:Nat}{v:Value}(h:E i=aN):E.le (E.set i v):=fun j u hj=>by
 unfold Env.set;split
 ·rename_i e;subst e;rw[h] at hj;cases hj
 ·exact hj
theorem Env.set_self(E:Env)(i:Nat)(v:Value):E.set i v i=ay v:=by simp[Env.set]
theorem IC(w:World)(o:Obj):(w.alloc o).heap[w.heap.size]?=ay o:=heap_alloc_new w o
theorem size_alloc(w:World)(o:Obj):(w.alloc o).heap.size=w.heap.size+1:=by simp
theorem Es.alloc(h:Es K H w)(o:Obj):Es K H (w.alloc o):=
 ⟨h.os,h.tape,h.output,by rw[size_alloc];have:=h.size;omega,fun b hb hn=>by rw[lJ w o b (by have:=h.size;omega)];exact h.kept b hb hn,
  fun b o' hb=>by
   have:=h.on b o' hb;rw[lJ w o b (bH.1 this).1];exact this,h.le,h.fresh⟩
theorem anu(h:Es K H w):H w.heap.size=aN:=by
 cases hb:H w.heap.size with
 |none=>rfl |some o=>have:=(bH.1 (h.on _ _ hb)).1;omega
theorem JC(h:Es K H w):Mine K H w.heap.size:=⟨anu h,.inl h.size⟩
theorem Hq{c:Core}{sb:SB}{sv:SV}{φ:SV×Core->Prop}{o:Obj}{v:Value}(hh:AZ K H E w c.hp)(hw:Es K H w)(hf:Free E c)
  (h:(alloc c sb sv).All φ) (hv:AY v=ay w.heap.size) (he:GV K H (E.set c.nx v) (w.alloc o) c.nx sb) :
  ∃c',φ (sv,c')/\Post K H E w c H (E.set c.nx v) (w.alloc o) c':=by
 unfold alloc at h;cases hb:fZ c.nx c.lim<;>simp only[hb,cond_true,cond_false] at h
 ·exact h.elim
 have hlt:=Fv hb;have hnone:=hf c.nx (dw _) hlt;have hle:E.le (E.set c.nx v):=Env.aeX hnone;refine ⟨_,h,fun _ _ e=>e,hle,?_,by simp,.inl (by simp;omega),rfl,rfl,?_,hw.alloc o,fun _ h=>h,by rw[size_alloc];omega,fun b hb _=>lJ w o b hb,?_,?_,?_,?_⟩
 ·intro i h1 h2
  by_cases e:i=c.nx
  ·subst e;simp
  ·simp[Env.set,e,h1] at h2
 ·refine ⟨fun id sb' hl=>?_,fun id id' sb1 WB b h1 h2 o1 o2=>?_⟩
  ·rw[E5] at hl
   cases hid:(c.nx==id)<;>simp only[hid,cond_true,cond_false] at hl
   ·have hent:=hh.ent id sb' hl
    exact hent.kept (fun _ _ e=>e) hle (fun b hb=>lJ w o b (hent.lt hb).1) (fun b hb=>(hent.lt hb).2.1)
   ·cases hl
    obtain rfl:c.nx=id:=by simpa using hid
    exact he
  ·rw[E5] at h1 h2
   cases hid:(c.nx==id)<;>cases Uz:(c.nx==id')<;>simp only[hid,Uz,cond_true,cond_false] at h1 h2
   ·rw[GY (hh.ent _ _ h1) hle] at o1
    rw[GY (hh.ent _ _ h2) hle] at o2;exact hh.Gu _ _ _ _ _ h1 h2 o1 o2
   ·obtain rfl:c.nx=id':=by simpa using Uz
    rw[GY (hh.ent _ _ h1) hle] at o1;have e2:=GX o2;simp[bk,Env.set,hv] at e2;have:=((hh.ent _ _ h1).lt o1).1;omega
   ·obtain rfl:c.nx=id:=by simpa using hid
    rw[GY (hh.ent _ _ h2) hle] at o2;have e1:=GX o1;simp[bk,Env.set,hv] at e1;have:=((hh.ent _ _ h2).lt o2).1;omega
   ·have e1:c.nx=id:=by simpa using hid
    have e2:c.nx=id':=by simpa using Uz
    rw[<-e1,<-e2]
 ·intro i b h1 h2
  by_cases e:i=c.nx
  ·subst e
   simp[bk,Env.set,hv] at h2;exact .inl (by omega)
  ·simp[bk,Env.set,e,h1] at h2
 ·exact fun _ h=>.inl h
 ·intro id sb' b hl _ ho
  refine .inr ⟨sb',?_,aam ho hle⟩;simp only[E5];cases hid:(c.nx==id)<;>simp only[cond_true,cond_false]
  ·exact hl
  ·obtain rfl:c.nx=id:=by simpa using hid
   obtain ⟨u,hu⟩:=(hh.ent _ _ hl).some_;rw[hnone] at hu;cases hu
 ·intro id sb' hl hne
  simp only[E5] at hl;cases hid:(c.nx==id)<;>simp only[hid,cond_true,cond_false] at hl
  ·exact ⟨sb',hl,fun b ho=>by rw[GY (hh.ent _ _ hl) hle] at ho;exact ho⟩
  ·obtain rfl:c.nx=id:=by simpa using hid
   exact (hne hnone).elim
def Ia(P:Program)(K:Kx)(H:Mem)(E:Env)(w:World)(c:Core)(a:Act)(o:Oper)(φ:SV×Core->Prop):Prop:=
 ∃(p:SV×Core) (v:Value) (r:Next) (H':Mem) (E':Env) (w':World),φ p/\Den H' E' p.1 v/\Post K H E w c H' E' w' p.2/\(r=.value v\/(r=.skip/\v=undef))/\(execOp a.eval o).run P w=.ok r w'
theorem Post.refl{c:Core}(hh:AZ K H E w c.hp)(hw:Es K H w):Post K H E w c H E w c:=
 ⟨fun _ _ e=>e,fun _ _ e=>e,fun _ h1 h2=>(h2 h1).elim,dw _,.inr rfl,rfl,rfl,hh,hw,fun _ h=>h,dw _,fun _ _ _=>rfl,fun i b h1 h2=>by simp[bk,h1] at h2,fun _ h=>.inl h,fun id sb b h1 _ h3=>.inr ⟨sb,h1,h3⟩,fun id sb h _=>⟨sb,h,fun _ h=>h⟩⟩
theorem V9.toW{c:Core}{a:Act}{o:Oper}{φ:SV×Core->Prop}(h:V9 P H E w c a o φ)(hh:AZ K H E w c.hp)(hw:Es K H w):Ia P K H E w c a o φ:=by
 obtain ⟨p,v,h1,h2,h3,h4⟩:=h;exact ⟨p,v,_,H,E,w,h1,h3,by rw[h2];exact Post.refl hh hw,.inl rfl,h4 w (UR.refl _ _ _ _) hw.on⟩
theorem anv{c:Core}{a:Act}{o:Oper}{e:Nat}{φ:SV×Core->Prop}(hC:BL P C)(hh:AZ K H E w c.hp)(hw:Es K H w)(hf:Free E c)
  (ho:o.op=.alloc e) (h:(UK C c e).All φ):Ia P K H E w c a o φ:=by
 unfold UK at h;split at h
 ·rename_i i hi
  obtain ⟨z,h1,h2,h3⟩:=alG (hC.ty _ _ hi) w;have h2':AV H (E.set c.nx (.pointer (ay ⟨w.heap.size,0,aN⟩))) i.zero z.cells.toList:=h2.le (fun _ _ e=>by cases e) (fun _ _ e=>by cases e);obtain ⟨c',hφ,hp⟩:=Hq (o:=.cells z.cells e) (v:=.pointer (ay ⟨w.heap.size,0,aN⟩)) hh hw hf h rfl
   ⟨w.heap.size,z.cells,Env.set_self _ _ _,IC _ _,h2',JC hw⟩
  refine ⟨_,_,_,H,_,_,hφ,⟨w.heap.size,by simp[Env.set_self,AY],rfl⟩,hp,.inl rfl,?_⟩;simp[execOp,ho,Instr.alloc,h1,newVar,newRow]
 ·exact h.elim
theorem atj{c:Core}{a:Act}{o:Oper}{e:Nat}{x:Operand}{φ:SV×Core->Prop}(hd:AV H E c.tm a.tmps.toList)(hh:AZ K H E w c.hp)(hw:Es K H w)(hf:Free E c)
  (ho:o.op=.box e x) (h:(bif (BP c.tm x).ZT then alloc c (.box (BP c.tm x).cells e) (.ptr c.nx 0) else .fail).All φ):Ia P K H E w c a o φ:=by
 cases hk:(BP c.tm x).ZT<;>simp only[hk,cond_true,cond_false] at h
 ·exact h.elim
 have hx:=OH hk (BJ (H:=H) (E:=E) hd x);have hx':c.nx<c.lim->AV H (E.set c.nx (.pointer (ay ⟨w.heap.size,0,aN⟩))) (BP c.tm x).cells (a.eval x).cells.toList:=fun hl=>hx.le (fun _ _ e=>e) (Env.aeX (hf _ (dw _) hl));have hl:c.nx<c.lim:=by
  unfold alloc at h;cases hb:fZ c.nx c.lim<;>simp only[hb,cond_true,cond_false] at h
  ·exact h.elim
  ·exact Fv hb
 obtain ⟨c',hφ,hp⟩:=Hq (o:=.cells (a.eval x).cells e) (v:=.pointer (ay ⟨w.heap.size,0,aN⟩)) hh hw hf h rfl
  ⟨w.heap.size,_,Env.set_self _ _ _,IC _ _,hx' hl,JC hw⟩
 refine ⟨_,_,_,H,_,_,hφ,⟨w.heap.size,by simp[Env.set_self,AY],rfl⟩,hp,.inl rfl,?_⟩;simp[execOp,ho,Instr.box,newVar,newRow]
theorem WC{H:Mem}{E:Env}:∀l:List Int,GR H E (af0 l) (l.map fun n=>(n,aN))
 |[]=>trivial |_::l=>⟨rfl,trivial,WC l⟩
theorem aiV{c:Core}{a:Act}{o:Oper}{t:Nat}{φ:SV×Core->Prop}(hh:AZ K H E w c.hp)(hw:Es K H w)(hf:Free E c)
  (ho:o.op=.makeMap t aN) (h:(Qj C c t).All φ):Ia P K H E w c a o φ:=by
 unfold Qj at h;split at h
 ·rename_i k l _
  obtain ⟨c',hφ,hp⟩:=Hq (o:=.map #[] 0) (v:=.map (ay w.heap.size)) hh hw hf h rfl
   ⟨w.heap.size,#[],0,l.map fun n=>(n,aN),[],Env.set_self _ _ _,IC _ _,WC l,trivial,fun n o hm=>by
    obtain ⟨_,_,e⟩:=List.mem_map.1 hm;cases e;rfl,⟨fun m hm=>by simp at hm,fun n=>rfl,fun i j m m' hm=>by simp at hm,fun i j m m' hm=>by simp at hm,fun m hm=>by simp at hm⟩,trivial,JC hw⟩
  refine ⟨_,_,_,H,_,_,hφ,⟨w.heap.size,Env.set_self _ _ _,rfl⟩,hp,.inl rfl,?_⟩;simp[execOp,ho,qA]
 ·split at h
  ·rename_i vt _
   obtain ⟨c',hφ,hp⟩:=Hq (o:=.map #[] 0) (v:=.map (ay w.heap.size)) hh hw hf h rfl
    ⟨w.heap.size,#[],0,[],Env.set_self _ _ _,IC _ _,trivial,(fun _ _ h=>by cases h),(fun _ h=>by cases h),⟨fun m hm=>by simp at hm,fun m hm=>by simp at hm,(fun n v hn=>by cases hn),fun i j m m' hm=>by simp at hm⟩,JC hw⟩
   refine ⟨_,_,_,H,_,_,hφ,⟨w.heap.size,Env.set_self _ _ _,rfl⟩,hp,.inl rfl,?_⟩;simp[execOp,ho,qA]
  ·obtain ⟨c',hφ,hp⟩:=Hq (o:=.map #[] 0) (v:=.map (ay w.heap.size)) hh hw hf h rfl
    ⟨w.heap.size,#[],0,Env.set_self _ _ _,IC _ _,trivial,JC hw⟩
   refine ⟨_,_,_,H,_,_,hφ,⟨w.heap.size,Env.set_self _ _ _,rfl⟩,hp,.inl rfl,?_⟩;simp[execOp,ho,qA]
end
section
variable{P:Program}{C:Ctx}{K:Kx}{H H':Mem}{E E':Env}{w w':World}
theorem AV.OG:∀{l:List SV} {vs:List Value},vs.length=l.length->(∀(j:Nat) (s:SV) (v:Value),l[j]?=ay s->vs[j]?=ay v->Den H E s v)->AV H E l vs
 |[],[],_,_=>trivial |_::_,_::_,hl,h=>⟨h 0 _ _ rfl rfl,AV.OG (by simpa using hl) fun j s v h1 h2=>h (j+1) s v (by simpa using h1) (by simpa using h2)⟩ |[],_::_,h,_=>by simp at h |_::_,[],h,_=>by simp at h
theorem aaQ:∀(xs z:List SV) (off j:Nat),off+xs.length<=z.length->(setAt z off xs)[j]?=if off<=j/\j<off+xs.length then xs[j - off]? else z[j]?
 |[],z,off,j,_=>by simp[setAt];omega |x::xs,z,off,j,h=>by
  rw[setAt,aaQ xs _ (off+1) j (by simp at h ⊢;omega)];simp only[List.length_cons] at h ⊢;by_cases h1:off+1<=j/\j<off+1+xs.length
  ·rw[if_pos h1,if_pos (by omega)]
   have:j - off=(j - (off+1))+1:=by omega
   rw[this,List.getElem?_cons_succ]
  ·rw[if_neg h1]
   by_cases h2:j=off
   ·subst h2
    rw[if_pos (by omega),List.getElem?_set_self (by omega)];simp
   ·rw[if_neg (by omega),List.getElem?_set_ne (by omega)]
theorem Ld(cs vs:List Value)(off j:Nat)(h:off+vs.length<=cs.length):(cs.take off++vs++cs.drop (off+vs.length))[j]?=if off<=j/\j<off+vs.length then vs[j - off]? else cs[j]?:=by
 have h1:(cs.take off).length=off:=by rw[cu];omega
 rw[List.append_assoc,kQ,h1];split
 ·rw[bZ,if_pos (by assumption),if_neg (by omega)]
 ·rw[kQ]
  split
  ·rw[if_pos (by omega)]
  ·rw[if_neg (by omega),eH]
   congr 1;omega
theorem G7(cs vs:List Value)(off:Nat)(h:off+vs.length<=cs.length):(cs.take off++vs++cs.drop (off+vs.length)).length=cs.length:=by
 simp[cu,dS];omega
theorem Y9{cells l:List SV}{cs vs:List Value}{off:Nat}(h1:AV H E cells cs)(h2:AV H E l vs)(h:off+l.length<=cells.length):
  AV H E (setAt cells off l) (cs.take off++vs++cs.drop (off+vs.length)):=by
 have e1:=h1.length;have e2:=h2.length;refine AV.OG (by rw[G7 _ _ _ (by omega),OI];exact e1) fun j s v hs hv=>?_
 rw[aaQ _ _ _ _ h] at hs;rw[Ld _ _ _ _ (by omega)] at hv;rw[e2] at hv;split at hs
 ·rw[if_pos (by assumption)] at hv
  exact h2.at_ hs hv
 ·rw[if_neg (by assumption)] at hv
  exact h1.at_ hs hv
theorem WE(cur vs:List Value)(off m:Nat)(h:off+vs.length<=m)(hm:m<=cur.length):
  (cur.take off++vs++cur.drop (off+vs.length)).take m=(cur.take m).take off++vs++(cur.take m).drop (off+vs.length):=by
 apply List.ext_getElem?;intro j;rw[bZ,Ld _ _ _ _ (by omega),Ld _ _ _ _ (by rw[cu];omega),bZ];by_cases hj:j<m
 ·simp[hj]
 ·simp only[hj,if_false]
  rw[if_neg (by omega)]
theorem KC{c:Core}{id b:Nat}{sb sb':SB}(hh:AZ K H E w c.hp)(hw:Es K H w)(hl:AA c.hp id=ay sb)(hb:Bv E id sb=ay b)
  (hother:∀k,k≠b->w'.heap[k]?=w.heap[k]?) (hsz:w'.heap.size=w.heap.size) (hos:w'.os=w.os) (htape:w'.tape=w.tape) (hout:w'.output=w.output)
  (he:GV K H E w' id sb') (hb':Bv E id sb'=ay b):Post K H E w c H E w' {c with hp:=hset c.hp id sb',tc:=id::c.tc}:=by
 have FB:=((hh.ent _ _ hl).lt hb);refine ⟨fun _ _ e=>e,fun _ _ e=>e,fun _ h1 h2=>(h2 h1).elim,dw _,.inr rfl,rfl,rfl,?_,?_,fun _ h=>dB _ h,by omega,?_,fun i b h1 h2=>by simp[bk,h1] at h2,?_,?_,?_⟩
 ·refine ⟨fun id2 WB hl2=>?_,fun id1 id2 sb1 WB b0 h1 h2 o1 o2=>?_⟩
  ·rw[ES] at hl2
   cases hid:(id==id2)<;>simp only[hid,cond_true,cond_false] at hl2
   ·have hent:=hh.ent _ _ hl2
    refine hent.kept (fun _ _ e=>e) (fun _ _ e=>e) (fun b0 hb0=>hother b0 fun e=>?_) fun b0 hb0=>(hent.lt hb0).2.1;subst e;have:=hh.Gu _ _ _ _ _ hl hl2 hb hb0;subst this;simp at hid
   ·obtain rfl:id=id2:=by simpa using hid
    rw[hl] at hl2;cases hl2;exact he
  ·have conv:∀{i:Nat} {s:SB},AA (hset c.hp id sb') i=ay s->Bv E i s=ay b0->∃s',AA c.hp i=ay s'/\Bv E i s'=ay b0:=by
    intro i s h o;rw[ES] at h;cases hid:(id==i)<;>simp only[hid,cond_true,cond_false] at h
    ·exact ⟨s,h,o⟩
    ·obtain rfl:id=i:=by simpa using hid
     rw[hl] at h;cases h;rw[hb'] at o;cases o;exact ⟨sb,hl,hb⟩
   obtain ⟨s1,a1,a2⟩:=conv h1 o1;obtain ⟨s2,a3,a4⟩:=conv h2 o2;exact hh.Gu _ _ _ _ _ a1 a3 a2 a4
 ·refine ⟨hos.trans hw.os,htape.trans hw.tape,hout.trans hw.output,by have:=hw.size;omega,fun k hk hn=>?_,fun k o hk=>?_,hw.le,hw.fresh⟩
  ·rw[hother k fun e=>?_]
   ·exact hw.kept k hk hn
   ·subst e
    rcases FB.2.2 with h|h
    ·omega
    ·exact hn h
  ·rw[hother k fun e=>?_]
   ·exact hw.on k o hk
   ·subst e
    rw[FB.2.1] at hk;cases hk
 ·intro k hk hne
  refine hother k fun e=>?_
  subst e;exact hne id (cO ..) (GX hb)
 ·intro i hi
  cases hi with
  |head=>exact .inr (.inr ⟨sb,hl,hb.trans (GX hb).symm⟩) |tail _ hi=>exact .inl hi
 ·intro i s0 b0 h1 h2 h3
  refine .inr ⟨s0,?_,h3⟩;simp only[ES];cases hid:(id==i)<;>simp only[cond_true,cond_false]
  ·exact h1
  ·obtain rfl:id=i:=by simpa using hid
   exact (h2 (cO ..)).elim
 ·intro i s0 h1 _
  simp only[ES] at h1;cases hid:(id==i)<;>simp only[hid,cond_true,cond_false] at h1
  ·exact ⟨s0,h1,fun _ h=>h⟩
  ·obtain rfl:id=i:=by simpa using hid
   rw[hl] at h1;cases h1;exact ⟨sb,hl,fun b0 h=>by rw[hb'] at h;cases h;exact hb⟩
theorem one_cell{x:SV}{u:Value}(h1:x.one=aF)(hd:Den H E x u):u.oneCell'=aF:=by
 cases x;case any=>simp[rW] at h1
 case agg l=>simp[rW] at h1
 case Ba l=>simp[rW] at h1
 case ev=>simp[rW] at h1
 case val v=>obtain ⟨rfl,h⟩:=hd;exact h
 case sh s=>
  have hd:Rep H s u:=hd;cases hd;case agg l vs a1 a2=>simp[rW] at h1
  case Ba l vs a1 a2=>simp[rW] at h1
  case v h=>exact h
  all_goals rfl
 all_goals first
  |(simp only[Den] at hd;subst hd;rfl)
  |(obtain ⟨_,_,rfl⟩:=hd;rfl)
  |(obtain ⟨_,_,_,_,rfl⟩:=hd;rfl)
  |(obtain ⟨_,_,_,_,_,rfl⟩:=hd;rfl)
  |(obtain ⟨_,rfl,_⟩:=hd;rfl)
  |(obtain ⟨_,_,_,rfl,_⟩:=hd;rfl)
theorem FC:∀{l:List SV} {vs:List Value},FU l=aF->AV H E l vs->∀v∈vs,v.oneCell'=aF
 |[],[],_,_,_,h=>by cases h |x::l,v::vs,h,⟨h1,h2⟩,u,hu=>by
  simp only[FU,aJ] at h;cases hu with
  |head=>exact one_cell h.1 h1 |tail _ hu=>exact FC h.2 h2 u hu
 |[],_::_,_,h,_,_=>h.elim |_::_,[],_,h,_,_=>h.elim
end
end Go.Sx
