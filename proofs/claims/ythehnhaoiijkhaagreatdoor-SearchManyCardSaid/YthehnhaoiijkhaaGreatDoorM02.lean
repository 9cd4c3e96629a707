/- Own work. -/
import Derived.Test.YthehnhaoiijkhaaGreatDoorM01
import Derived.LaidEql
import Derived.Lib.Strings
open Int (ofNat)
open Array renaming getElem?_eq_some_iff->bG
open Bool renaming true->aC,and_eq_true->aH,false->ak
open ByteArray renaming size->nH
open Go.Addr renaming add_lit->eX
open Go.Builtin renaming len_->pV,max_->vH,min_->vI
open Go.Instr renaming indexAt->pR,fill->yK,findNow->dM,sameNow->dZ,checkKey->iV,lookup->iZ,findKey->iq,findAsking->nR,makeMap->pW
open Go.Op renaming equal->gW,equalIn->fH
open Go.RowKit.Below renaming heap_alloc->lq
open Go.Sem renaming run_bind->gG,run->kW
open Go.Sx.SV renaming one->rD
open Go.Value renaming oneCell'->jQ,cells->mJ
open Go.Value.int renaming injEq->rC
open List renaming length_take->bZ,length_drop->dQ,getElem?_take->bY,getElem?_drop->eH,toArray->nK,mem_cons_self->cu,mem_cons_of_mem->dw,mem_of_getElem?->bT,getElem?_append->kG
open List.cons renaming injEq->qj
open Nat renaming add_mul->gq,one_mul->iF,le_refl->dh,blt->fV
open Option renaming some->ay,none->aK
open Option.some renaming injEq->kL
open Prod.mk renaming injEq->jO
namespace Go.Sx
section
variable{P:Program}{C:Ctx}{K:Kx}{H:Mem}{E:Env}{w:World}
theorem Gy{x:SV}{n:Int}{u:Value}(h:GN x=ay n)(hd:Den H E x u):∃k,u=.int k n:=by
 cases x<;>simp[GN] at h
 all_goals (subst h;exact ⟨_,hd⟩)
theorem SS{i:Int}{n:Nat}(h:zV.inB i n=aC):0<=i/\i<n:=by simpa[zV] using h
theorem LY{elem st n:Nat}{v:Value}{xs:List Value}(h:w.ownsRow 0 elem st v n xs):lenV v=n:=by
 rcases h.2 with ⟨rfl,rfl⟩ |⟨_,_,_,rfl,_⟩<;>rfl
theorem aad{elem st n:Nat}{v:Value}{xs:List Value}(h:w.ownsRow 0 elem st v n xs)(hn:0<n):∃b cap,v=.slice (ay ⟨b,0,aK⟩) n cap/\Ah v=ay b:=by
 rcases h.2 with ⟨rfl,rfl⟩ |⟨b,cap,_,rfl,_⟩
 ·omega
 ·exact ⟨b,cap,rfl,rfl⟩
theorem PI{t e:Nat}{te:JI}(hu:P.underlying t=ay (.slice e))(hte:NC P e te){a:Addr}{n cap:Nat}{k:IntKind}{i:Int}(h0:0<=i)(h1:i<n)(w:World):
  (pR t (.slice (ay a) n cap) (.int k i)).run P w=.ok (.pointer (ay (a.add (i.toNat*te.size)))) w:=by
 simp[pR,asIntOf,run_underlying hu,h0,h1,Ja hte]
theorem Ul{x:SV}{n:Int}(h:GN x=ay n):ajN zV n x=n.toNat:=by
 cases x<;>simp[GN] at h
 ·subst h;rfl
 ·rfl
theorem Yv{c:Core}{a:Act}{o:Oper}{t e:Nat}{te:JI}{x y:Operand}{φ:SV×Core->Prop}{m:Nat}{g:Nat->List Sh}{n:Int}{k:IntKind}(hu:P.underlying t=ay (.slice e))(hte:NC P e te)
  (ho:o.op=.indexAddr t x y) (dx:Rep H (.sl te.size m g) (a.eval x)) (ey:a.eval y=.int k n) (h0:0<=n) (h1:n<m) (h:φ (.Gl te.size m g n.toNat 0,c)):QP P H E c a o φ:=by
 generalize hu':a.eval x=u at dx;cases dx with
 |sl0 _ _ A cap hc=>omega |sl _ _ _ b off cap cc a1 a2 a3 a4 a5 a6=>
  refine ⟨_,.pointer (ay ⟨b,off+n.toNat*te.size,aK⟩),h,rfl,⟨b,off+n.toNat*te.size,cc n.toNat,rfl,by omega,a3 _ (by omega),fun j hj=>⟨?_,a5 _ _ (by omega) hj⟩,fun j s hs=>a6 _ _ _ (by omega) hs⟩,fun w'=>?_⟩
  ·rw[a4 _ _ (by omega) hj]
  ·have:=PI (P:=P) hu hte (a:=⟨b,off,aK⟩) (n:=m) (cap:=cap) (k:=k) h0 h1 w'
   simp[execOp,ho,hu',ey,this,eX]
theorem Yw{φ:SV×Core->Prop}{n:Int}{f:Nat->Tree (SV×Core)}{m:Nat}:∀{k:Nat},k<=m->(m:Int) - k<=n->n<m->(ahO zV n f m k).All φ->∃i:Nat,n=i/\i<m/\(f i).All φ
 |0,_,h1,h2,_=>by omega |k+1,hk,h1,h2,h=>by
  obtain ⟨ha,hb⟩:=h;by_cases e:n=ofNat (m - (k+1))
  ·refine ⟨m - (k+1),e,by omega,ha (by simp[zV,e])⟩
  ·refine Yw (k:=k) (by omega) ?_ h2 (hb (by simpa[zV] using e))
   have e:¬n=((m - (k+1):Nat):Int):=e;omega
theorem Yx(st:Nat):∀(n:Nat) (l:List Sh) (i:Nat),i<n->AQ (chunks st n l) i=(l.drop (i*st)).take st
 |n+1,l,0,_=>by simp[AQ,chunks] |n+1,l,i+1,h=>by
  have ih:=Yx st n (l.drop st) i (by omega);simp only[AQ,chunks,List.getD_cons_succ] at ih ⊢;rw[ih,List.drop_drop];congr 2;rw[gq,iF,Nat.add_comm]
theorem VA{c:Core}{a:Act}{o:Oper}{t e m:Nat}{te:JI}{x y:Operand}{φ:SV×Core->Prop}{g:Nat}{l:List Sh}{n:Int}{k:IntKind}(hu:P.underlying t=ay (.array m e))(hte:NC P e te)
  (ho:o.op=.indexAddr t x y) (dx:Den H E (.glob g) (a.eval x)) (ey:Den H E (.int k n) (a.eval y)) (hgl:FH H g (.Aj l)) (hl:l.length=m*te.size) (h0:0<=n) (h1:n<m)
  (h:φ (.Gl te.size m (AQ (chunks te.size m l)) n.toNat 0,c)):QP P H E c a o φ:=by
 obtain ⟨_,cc,g1,g2⟩:=hgl;have dx:a.eval x=.pointer (ay ⟨g,0,aK⟩):=dx;have ey:a.eval y=.int k n:=ey;have hlt:n.toNat*te.size+te.size<=m*te.size:=by
  calc n.toNat*te.size+te.size=(n.toNat+1)*te.size:=by rw[gq,iF]
   _<=m*te.size:=Nat.mul_le_mul_right _ (by omega)
 have hch:AQ (chunks te.size m l) n.toNat=(l.drop (n.toNat*te.size)).take te.size:=Yx _ _ _ _ (by omega);refine ⟨_,.pointer (ay ⟨g,n.toNat*te.size,aK⟩),h,rfl,⟨g,n.toNat*te.size,fun j=>cc (n.toNat*te.size+j),rfl,by omega,?_,fun j hj=>g1 _ (by omega),fun j s hs=>g2 _ _ ?_⟩,fun w'=>?_⟩
 ·rw[hch,bZ,dQ];omega
 ·rw[hch,bY] at hs
  split at hs
  ·rwa[eH] at hs
  ·cases hs
 ·simp[execOp,ho,dx,ey,pR,asIntOf,run_underlying hu,h0,h1,Ja hte,Instr.sureAddr,eX]
theorem VB{c:Core}{a:Act}{o:Oper}{t:Nat}{x y:Operand}{φ:SV×Core->Prop}(hC:A8 P C)(ho:o.op=.indexAddr t x y)(hd:Af H E c.tm a.tmps.toList)
  (hh:Ai K H E w c.hp) (hg:CS C.gls H) (h:(MG C c t (Bd c.tm x) (Bd c.tm y)).All φ):QP P H E c a o φ:=by
 have dx:=AV (H:=H) (E:=E) hd x;have dy:=AV (H:=H) (E:=E) hd y;have hA:=hC.A;unfold MG at h;split at h
 ·rename_i ti hti
  have ht:=(hC.ty _ _ hti).desc;split at h
  ·rename_i e hty
   rw[hty] at ht;split at h
   ·rename_i te hte
    have hte:=hC.ty _ _ hte;split at h
    ·rename_i id n hx hy
     rw[hx] at dx;obtain ⟨k,ey⟩:=Gy hy dy;split at h
     ·
      rename_i cells el st m hl;split at h
      ·rename_i k2 n2 hy2
       cases hb:(decide (0<=n2)&&decide (n2<(m:Int))&&st==te.size)<;>simp only[hb,cond_true,cond_false] at h
       ·exact h.elim
       simp only[aH,decide_eq_true_eq,beq_iff_eq] at hb;obtain ⟨⟨h0,h1⟩,rfl⟩:=hb;rw[hy2] at dy;simp only[Den] at dy;obtain ⟨v,xs,he,hr,_,_⟩:=hh.ent _ _ hl;have dx2:E id=ay (a.eval x):=dx.1;rw[he] at dx2;cases dx2;obtain ⟨b,cap,hv,hbv⟩:=aad hr (by omega);refine ⟨_,.pointer (ay ⟨b,n2.toNat*te.size,aK⟩),h,rfl,⟨b,by rw[he];exact hbv,rfl⟩,fun w'=>?_⟩;have:=PI (P:=P) ht hte (a:=⟨b,0,aK⟩) (n:=m) (cap:=cap) (k:=k2) h0 h1 w';simp[execOp,ho,hv,dy,this,eX]
      ·exact h.elim
     ·rename_i el st m g hl
      cases hb:(st==te.size)<;>simp only[hb,cond_true,cond_false] at h
      ·exact h.elim
      obtain rfl:st=te.size:=by simpa using hb
      obtain ⟨hin,hφ⟩:=h;rw[hA] at hin hφ;obtain ⟨h0,h1⟩:=SS hin;obtain ⟨v,xs,he,hr,_,_⟩:=hh.ent _ _ hl;have dx2:E id=ay (a.eval x):=dx.1;rw[he] at dx2;cases dx2;obtain ⟨b,cap,hv,hbv⟩:=aad hr (by omega);have hidx:=Ul hy;rw[hidx] at hφ;refine ⟨_,.pointer (ay ⟨b,n.toNat*te.size,aK⟩),hφ,rfl,⟨b,_,he,hbv,by rw[LY hr];omega,rfl⟩,fun w'=>?_⟩;have:=PI (P:=P) ht hte (a:=⟨b,0,aK⟩) (n:=m) (cap:=cap) (k:=k) h0 h1 w';simp[execOp,ho,hv,ey,this,eX]
     ·rename_i st m g hl
      cases hb:(st==te.size)<;>simp only[hb,cond_true,cond_false] at h
      ·exact h.elim
      obtain rfl:st=te.size:=by simpa using hb
      obtain ⟨hin,hφ⟩:=h;rw[hA] at hin hφ;obtain ⟨h0,h1⟩:=SS hin;rw[Ul hy] at hφ;obtain ⟨v,he,hr⟩:=hh.ent _ _ hl;have dx2:E id=ay (a.eval x):=dx.1;rw[he] at dx2;cases dx2;exact Yv ht hte ho hr ey h0 h1 hφ
     ·exact h.elim
    ·rename_i st m g n hx hy
     cases hb:(st==te.size)<;>simp only[hb,cond_true,cond_false] at h
     ·exact h.elim
     obtain rfl:st=te.size:=by simpa using hb
     obtain ⟨hin,hφ⟩:=h;rw[hA] at hin hφ;obtain ⟨h0,h1⟩:=SS hin;rw[hx] at dx;obtain ⟨k,ey⟩:=Gy hy dy;have hidx:=Ul hy;rw[hidx] at hφ;exact Yv ht hte ho dx ey h0 h1 hφ
    ·exact h.elim
   ·exact h.elim
  ·rename_i m e hty
   rw[hty] at ht;split at h
   ·rename_i te hte
    have hte:=hC.ty _ _ hte;split at h
    ·rename_i g k n hx hy
     rw[hx] at dx;rw[hy] at dy;split at h
     ·rename_i l hl
      cases hb:(decide (0<=n)&&decide (n<(m:Int))&&l.length==m*te.size)<;>simp only[hb,cond_true,cond_false] at h
      ·exact h.elim
      simp only[aH,decide_eq_true_eq,beq_iff_eq] at hb;exact VA ht hte ho dx dy (hg.at_ _ _ hl) hb.2 hb.1.1 hb.1.2 h
     ·exact h.elim
    ·rename_i g k n hx hy
     rw[hx] at dx;rw[hy] at dy;split at h
     ·rename_i l hl
      cases hb:(l.length==m*te.size)<;>simp only[hb,cond_true,cond_false] at h
      ·exact h.elim
      obtain ⟨hin,h⟩:=h;rw[hA] at hin h;obtain ⟨h0,h1⟩:=SS hin;obtain ⟨i,hi,hi2,hq⟩:=Yw (dh _) (by omega) h1 h;subst hi;exact VA ht hte ho dx dy (hg.at_ _ _ hl) (by simpa using hb) h0 h1 (by simpa[Tree.All,ret] using hq)
     ·exact h.elim
    ·exact h.elim
   ·exact h.elim
  ·exact h.elim
 ·exact h.elim
def VD(op:BinOp)(k:IntKind)(a b:Int):Option Value:=
 match op with
 | .add=>ay (.int k (k.wrap (a+b))) | .sub=>ay (.int k (k.wrap (a - b))) | .mul=>ay (.int k (k.wrap (a*b))) | .eql=>ay (.bool (a==b)) | .neq=>ay (.bool (!(a==b))) | .lss=>ay (.bool (decide (a<b))) | .leq=>ay (.bool (decide (a<=b))) | .gtr=>ay (.bool (decide (b<a))) | .geq=>ay (.bool (decide (b<=a))) |_=>aK
theorem VE{op:BinOp}{k:IntKind}{a b:Int}{v:Value}(h:VD op k a b=ay v)(t:Nat)(x y:Operand)(w:World):
  (do eqGuard op t x y (.int k a) (.int k b);binOp op t (.int k a) (.int k b):Sem Value).run P w=.ok v w:=by
 cases op<;>simp[VD] at h<;>subst h<;>simp[eqGuard_at_int,binOp,Op.intArith,Op.intCmp,bne]
theorem PK{A:Prim}(hA:A=zV){op:BinOp}{k:IntKind}{a b:Int}{sv:SV}(h:orO ((Vh A op k a b).map (.sym k)) ((afi A op a b).map .test)=ay sv):
  ∃v,VD op k a b=ay v/\Den H E sv v:=by
 subst hA;cases op<;>simp[Vh,afi,orO] at h<;>subst h<;>exact ⟨_,rfl,rfl⟩
theorem acu{op:BinOp}{k:IntKind}{a b:Int}{sv:SV}(h:orO ((ad3 op k a b).map (.int k)) ((cmpL op a b).map .bool)=ay sv):
  ∃v,VD op k a b=ay v/\Den H E sv v:=by
 cases op<;>simp[ad3,cmpL,orO] at h<;>subst h<;>exact ⟨_,rfl,rfl⟩
theorem afr{t:Nat}(hu:P.underlying t=ay .bool)(a b:Bool)(w:World):(gW t (.bool a) (.bool b)).run P w=.ok (a==b) w:=by
 have:∀d:Nat,(fH (d+1) t (.bool a) (.bool b)).run P w=.ok (a==b) w:=fun d=>by simp[fH,run_underlying hu]
 exact this 9999
theorem SX{t:Nat}(hu:P.underlying t=ay .bool)(a b:Bool)(x y:Operand)(w:World):
  (do eqGuard .eql t x y (.bool a) (.bool b);binOp .eql t (.bool a) (.bool b):Sem Value).run P w=.ok (.bool (a==b)) w/\
  (do eqGuard .neq t x y (.bool a) (.bool b);binOp .neq t (.bool a) (.bool b):Sem Value).run P w=.ok (.bool (!(a==b))) w:=by
 constructor<;>simp[eqGuard_at_bool,binOp,afr hu]
theorem acv(l:List UInt8):(⟨l.toArray⟩:ByteArray).toList=l:=Lib.toList_data _
theorem VF(l l':List UInt8)(t:Nat)(x y:Operand)(w:World):
  (do eqGuard .eql t x y (.string ⟨l.toArray⟩) (.string ⟨l'.toArray⟩);binOp .eql t (.string ⟨l.toArray⟩) (.string ⟨l'.toArray⟩):Sem Value).run P w=.ok (.bool (l==l')) w/\
  (do eqGuard .neq t x y (.string ⟨l.toArray⟩) (.string ⟨l'.toArray⟩);binOp .neq t (.string ⟨l.toArray⟩) (.string ⟨l'.toArray⟩):Sem Value).run P w=.ok (.bool (!(l==l'))) w:=by
 constructor<;>simp[eqGuard_at_string,binOp,Op.stringOp]
theorem OE{l:List UInt8}{v:Value}(h:Rep H (.str l) v):v=.string ⟨l.toArray⟩:=by
 cases h;rfl
theorem aae{A:Prim}(hA:A=zV){op:BinOp}{l l':List UInt8}{sv:SV}(h:eqS A op l l'=ay sv)(t:Nat)(x y:Operand):
  ∃r,Den H E sv r/\∀w,(do eqGuard op t x y (.string ⟨l.toArray⟩) (.string ⟨l'.toArray⟩);binOp op t (.string ⟨l.toArray⟩) (.string ⟨l'.toArray⟩):Sem Value).run P w=.ok r w:=by
 subst hA;cases op<;>simp[eqS] at h<;>subst h
 ·exact ⟨_,rfl,fun w=>(VF l l' t x y w).1⟩
 ·exact ⟨_,rfl,fun w=>(VF l l' t x y w).2⟩
theorem amE{A:Prim}(hA:A=zV){op:BinOp}{a b:Bool}{sv:SV}{t:Nat}(hu:P.underlying t=ay .bool)(h:eqB A op a b=ay sv)(x y:Operand):
  ∃r,Den H E sv r/\∀w,(do eqGuard op t x y (.bool a) (.bool b);binOp op t (.bool a) (.bool b):Sem Value).run P w=.ok r w:=by
 subst hA;cases op<;>simp[eqB] at h<;>subst h
 ·exact ⟨_,rfl,fun w=>(SX hu a b x y w).1⟩
 ·exact ⟨_,rfl,fun w=>(SX hu a b x y w).2⟩
theorem Um:∀{l:List SV} {ns:List Cq} {vs:List Value},NU l=ay ns->Af H E l vs->vs=ns.map Cq.v
 |[],_,[],h,_=>by simp[NU] at h;subst h;rfl |s::l,ns,v::vs,h,⟨hd,hr⟩=>by
  unfold NU at h;split at h
  ·rename_i e;cases e
  all_goals first
   |(rename_i n r e
     cases e;cases hr2:NU l with
     |none=>simp[hr2] at h |some m=>simp[hr2] at h;subst h;rw[Um hr2 hr];simp only[Den] at hd;subst hd;rfl)
   |cases h
 |[],_,_::_,_,h=>h.elim |_::_,_,[],_,h=>h.elim
theorem QZ:∀{xs ys:List Cq} {z:List SV},CV xs z=aC->CV ys z=aC->Pv zV xs ys=decide (xs=ys)
 |[],[],_,_,_=>by simp[Pv] | .i x::xs,.i y::ys,z,h1,h2=>by
  cases z with
  |nil=>simp[CV] at h1 |cons a z=>
   have h1':CV xs z=aC:=by
    unfold CV at h1;split at h1<;>simp_all
   have h2':CV ys z=aC:=by
    unfold CV at h2;split at h2<;>simp_all
   have ih:=QZ h1' h2';simp only[Pv,ih];show (bif x==y then decide (xs=ys) else ak)=_;by_cases e:x=y
   ·subst e;simp
   ·have:(x==y)=ak:=by simpa using e
    rw[this];simp[e]
 | .b x::xs,.b y::ys,z,h1,h2=>by
  cases z with
  |nil=>simp[CV] at h1 |cons a z=>
   have h1':CV xs z=aC:=by
    unfold CV at h1;split at h1<;>simp_all
   have h2':CV ys z=aC:=by
    unfold CV at h2;split at h2<;>simp_all
   have ih:=QZ h1' h2';simp only[Pv,ih];show (bif x==y then decide (xs=ys) else ak)=_;by_cases e:x=y
   ·subst e;simp
   ·have:(x==y)=ak:=by simpa using e
    rw[this];simp[e]
 | .i x::xs,.b y::ys,z,h1,h2=>by
  cases z with
  |nil=>simp[CV] at h1 |cons a z=>cases a<;>simp[CV] at h1 h2
 | .b x::xs,.i y::ys,z,h1,h2=>by
  cases z with
  |nil=>simp[CV] at h1 |cons a z=>cases a<;>simp[CV] at h1 h2
 |[],y::ys,z,h1,h2=>by
  cases z with
  |nil=>cases y<;>simp[CV] at h2 |cons a z=>simp[CV] at h1
 |x::xs,[],z,h1,h2=>by
  cases z with
  |nil=>cases x<;>simp[CV] at h1 |cons a z=>simp[CV] at h2
theorem ajR{t:Nat}{ps rs:Array TypeId}{b:Bool}(hu:P.underlying t=ay (.func ps rs b))(f:Fn)(x y:Array Value)(w:World):
  (gW t (.func f x y) .nilFunc).run P w=.ok ak w/\(gW t .nilFunc .nilFunc).run P w=.ok aC w:=by
 have:∀d:Nat,(fH (d+1) t (.func f x y) .nilFunc).run P w=.ok ak w/\(fH (d+1) t .nilFunc .nilFunc).run P w=.ok aC w:=
  fun d=>by constructor<;>simp[fH,run_underlying hu]
 exact this 9999
theorem ZE{t e:Nat}(hu:P.underlying t=ay (.pointer e))(a:Addr)(w:World):
  (gW t (.pointer (ay a)) (.pointer aK)).run P w=.ok ak w/\(gW t (.pointer aK) (.pointer aK)).run P w=.ok aC w:=by
 have:∀d:Nat,(fH (d+1) t (.pointer (ay a)) (.pointer aK)).run P w=.ok ak w/\(fH (d+1) t (.pointer aK) (.pointer aK)).run P w=.ok aC w:=
  fun d=>by constructor<;>simp[fH,run_underlying hu]
 exact this 9999
theorem VG{t:Nat}{ms:Array (String×TypeId)}(hu:P.underlying t=ay (.interface ms))(d:Nat)(u:Value)(w:World):
  (gW t (.iface d u) .nilIface).run P w=.ok ak w/\(gW t .nilIface (.iface d u)).run P w=.ok ak w/\(gW t .nilIface .nilIface).run P w=.ok aC w:=by
 have:∀n:Nat,(fH (n+1) t (.iface d u) .nilIface).run P w=.ok ak w/\(fH (n+1) t .nilIface (.iface d u)).run P w=.ok ak w/\(fH (n+1) t .nilIface .nilIface).run P w=.ok aC w:=
  fun n=>by refine ⟨?_,?_,?_⟩<;>simp[fH,run_underlying hu]
 exact this 9999
theorem Ea{op:BinOp}{r:Bool}{sv:SV}{t:Nat}{u v:Value}{ox oy:Operand}(h:DN op r=ay sv)(hg:eqGuard op t ox oy u v=pure ())
  (he:binOp .eql t u v=(do pure (.bool (<-gW t u v)))) (hn:binOp .neq t u v=(do pure (.bool (!(<-gW t u v))))) (hw:∀w,(gW t u v).run P w=.ok r w) :
  ∃r,Den H E sv r/\∀w,(do eqGuard op t ox oy u v;binOp op t u v:Sem Value).run P w=.ok r w:=by
 cases op<;>simp[DN] at h<;>subst h
 ·exact ⟨_,rfl,fun w=>by simp[hg,he,hw]⟩
 ·exact ⟨_,rfl,fun w=>by simp[hg,hn,hw]⟩
theorem afs{T:Nat}{x:Sh}{u:Value}(h:Rep H (.CG T x) u):∃v,u=.iface T v:=by
 cases h;exact ⟨_,rfl⟩
theorem ajS{g T:Nat}{u:Value}(h:Rep H (.er g T) u):∃T v,u=.iface T v:=by
 cases h;exact ⟨_,_,rfl⟩
theorem aft{g T:Nat}{u:Value}(h:Rep H (.er g T) u):∃v,u=.iface T v:=by
 cases h;exact ⟨_,rfl⟩
theorem aef{g T:Nat}{u v:Value}(h:Rep H (.er g T) u)(h':Rep H (.er g T) v):∃b,u=.iface T (.pointer (ay b))/\v=u:=by
 cases h with
 |er _ _ b cs e h1 h2=>
  cases h' with
  |er _ _ b' cs' e' h1' h2'=>
   rw[h1] at h1';cases h1';exact ⟨b,rfl,rfl⟩
theorem asl{t T e:Nat}{ms:Array (String×TypeId)}{inf ie:TypeInfo}(hu:P.underlying t=ay (.interface ms))(h1:P.info? T=ay inf)(h2:inf.comparable=aC)(h3:P.underlying T=ay (.pointer e))(h4:P.info? e=ay ie)(h5:ie.size≠0)(b:Addr)(w:World):
  (gW t (.iface T (.pointer (ay b))) (.iface T (.pointer (ay b)))).run P w=.ok aC w:=by
 have:∀n:Nat,(fH (n+2) t (.iface T (.pointer (ay b))) (.iface T (.pointer (ay b)))).run P w=.ok aC w:=
  fun n=>by simp[fH,run_underlying hu,run_underlying h3,typeInfo,sizeOf,h1,h2,h4,sameAddr]
 exact this 9998
theorem afu{gls:List (Nat×Sh)}{g T:Nat}(h:acR gls g T=aC):zX gls g=ay (.er g T):=by
 unfold acR at h;split at h
 ·rename_i e
  simp only[aH,beq_iff_eq] at h;rw[e,h.1,h.2]
 ·cases h
theorem acw{H:Mem}{g g' T:Nat}{u v:Value}(ha:hcell H g 0≠hcell H g' 0)(dx:Rep H (.er g T) u)(dy:Rep H (.er g' T) v):∃b b',u=.iface T (.pointer (ay b))/\v=.iface T (.pointer (ay b'))/\b≠b'/\
  (∃cs e,H b.block=ay (.cells cs e (0,0)))/\∃cs e,H b'.block=ay (.cells cs e (0,0)):=by
 cases dx with
 |er _ _ b cs e h1 h2=>
  cases dy with
  |er _ _ b' cs' e' h1' h2'=>exact ⟨b,b',rfl,rfl,fun e=>ha (by rw[h1,h1',e]),⟨cs,e,h2⟩,cs',e',h2'⟩
theorem akX{t T e:Nat}{ms:Array (String×TypeId)}{inf ie:TypeInfo}(hu:P.underlying t=ay (.interface ms))(h1:P.info? T=ay inf)(h2:inf.comparable=aC)(h3:P.underlying T=ay (.pointer e))(h4:P.info? e=ay ie)(h5:ie.size≠0){b b':Addr}(hb:b≠b')(w:World)
  {cs cs':Array Value} {ec ec':TypeId} (g1:w.heap[b.block]?=ay (.cells cs ec (0,0))) (g2:w.heap[b'.block]?=ay (.cells cs' ec' (0,0))) :
  (gW t (.iface T (.pointer (ay b))) (.iface T (.pointer (ay b')))).run P w=.ok ak w:=by
 have hs:=run_sameAddr_other (P:=P) w hb g1 g2;have:∀n:Nat,(fH (n+2) t (.iface T (.pointer (ay b))) (.iface T (.pointer (ay b')))).run P w=.ok ak w:=
  fun n=>by simp[fH,run_underlying hu,run_underlying h3,typeInfo,sizeOf,h1,h2,h4,h5,hs]
 exact this 9998
theorem afv{Pw:World->Prop}{op:BinOp}{r:Bool}{sv:SV}{t:Nat}{u v:Value}{ox oy:Operand}(h:DN op r=ay sv)(hg:eqGuard op t ox oy u v=pure ())
  (he:binOp .eql t u v=(do pure (.bool (<-gW t u v)))) (hn:binOp .neq t u v=(do pure (.bool (!(<-gW t u v))))) (hw:∀w,Pw w->(gW t u v).run P w=.ok r w) :
  ∃r,Den H E sv r/\∀w,Pw w->(do eqGuard op t ox oy u v;binOp op t u v:Sem Value).run P w=.ok r w:=by
 cases op<;>simp[DN] at h<;>subst h
 ·exact ⟨_,rfl,fun w hp=>by simp[hg,he,hw w hp]⟩
 ·exact ⟨_,rfl,fun w hp=>by simp[hg,hn,hw w hp]⟩
theorem aaf{t T T':Nat}{ms:Array (String×TypeId)}(hu:P.underlying t=ay (.interface ms))(hT:T≠T')(u v:Value)(w:World):
  (gW t (.iface T u) (.iface T' v)).run P w=.ok ak w:=by
 have:∀n:Nat,(fH (n+2) t (.iface T u) (.iface T' v)).run P w=.ok ak w:=
  fun n=>by simp[fH,run_underlying hu,hT]
 exact this 9998
theorem ahY{op:BinOp}{t:Nat}{ox oy:Operand}(h:(isConst ox||isConst oy)=aC):eqGuard op t ox oy .nilIface .nilIface=pure ():=by
 cases ox<;>cases oy<;>simp[isConst] at h
 all_goals first
  |exact eqGuard_nil_constL _ _ _ _
  |exact eqGuard_nil_constR _ _ _ _
theorem ahZ{t:Nat}{op:BinOp}{x y:SV}{sv:SV}{u v:Value}{ox oy:Operand}(hC:A8 P C)(hg:CS C.gls H){i:JI}(hi:C.tys.get t=ay i)
  (dx:Den H E x u) (dy:Den H E y v) (h:ajK C.Vg C.gls op i.ty (isConst ox||isConst oy) x y=ay sv) :
  ∃r,Den H E sv r/\∀w,((JJ x&&JJ y)=aC->H.on w)->(do eqGuard op t ox oy u v;binOp op t u v:Sem Value).run P w=.ok r w:=by
 have hd:=(hC.ty _ _ hi).desc;unfold ajK at h;cases hb:(arM C.Vg x&&EX i.ty x&&EX i.ty y&&((isConst ox||isConst oy) || !(Vj x&&Vj y)))<;>simp only[hb,cond_true,cond_false] at h
 ·cases h
 rw[aH,aH,aH] at hb;obtain ⟨⟨⟨fe,fx⟩,fy⟩,hlit⟩:=hb;have fin:(∃r,Den H E sv r/\∀w,(do eqGuard op t ox oy u v;binOp op t u v:Sem Value).run P w=.ok r w)->∃r,Den H E sv r/\∀w,((JJ x&&JJ y)=aC->H.on w)->(do eqGuard op t ox oy u v;binOp op t u v:Sem Value).run P w=.ok r w:=
  fun ⟨r,h1,h2⟩=>⟨r,h1,fun w _=>h2 w⟩
 unfold amk at h;split at h
 ·apply fin
  cases hty:i.ty<;>rw[hty] at fx hd<;>simp[EX] at fx
  obtain ⟨_,_,_,hd⟩:=hd;obtain ⟨vs,rfl,_⟩:=dx;obtain rfl:v=_:=dy;exact Ea h (eqGuard_at_func ..) rfl rfl fun w=>(ajR hd _ _ _ w).1
 ·apply fin
  cases hty:i.ty<;>rw[hty] at fx hd<;>simp[EX] at fx
  obtain ⟨_,_,_,hd⟩:=hd;obtain rfl:u=_:=dx;obtain rfl:v=_:=dy;exact Ea h (eqGuard_at_nilFunc ..) rfl rfl fun w=>(ajR hd (.func 0) #[] #[] w).2
 ·apply fin
  cases hty:i.ty<;>rw[hty] at fx hd<;>simp[EX] at fx
  obtain ⟨b,_,rfl⟩:=dx;obtain rfl:v=_:=dy;exact Ea h (eqGuard_at_pointer ..) rfl rfl fun w=>(ZE hd _ w).1
 ·apply fin
  cases hty:i.ty<;>rw[hty] at fx hd<;>simp[EX] at fx
  obtain ⟨b,o,cc,rfl,_⟩:=dx;obtain rfl:v=_:=dy;exact Ea h (eqGuard_at_pointer ..) rfl rfl fun w=>(ZE hd _ w).1
 ·apply fin
  cases hty:i.ty<;>rw[hty] at fx hd<;>simp[EX] at fx
  obtain ⟨rfl,_⟩:=dx;obtain rfl:v=_:=dy;exact Ea h (eqGuard_at_pointer ..) rfl rfl fun w=>(ZE hd _ w).1
 ·apply fin
  cases hty:i.ty<;>rw[hty] at fx hd<;>simp[EX] at fx
  obtain rfl:u=_:=dx;obtain rfl:v=_:=dy;exact Ea h (eqGuard_at_pointer ..) rfl rfl fun w=>(ZE hd ⟨0,0,aK⟩ w).2
 ·apply fin
  cases hty:i.ty<;>rw[hty] at fx hd<;>simp[EX] at fx
  obtain ⟨_,hd⟩:=hd;obtain ⟨_,rfl,_⟩:=dx;obtain rfl:v=_:=dy;exact Ea h (eqGuard_at_iface ..) rfl rfl fun w=>(VG hd _ _ w).1
 ·apply fin
  cases hty:i.ty<;>rw[hty] at fx hd<;>simp[EX] at fx
  obtain ⟨_,hd⟩:=hd;obtain ⟨_,rfl⟩:=afs dx;obtain rfl:v=_:=dy;exact Ea h (eqGuard_at_iface ..) rfl rfl fun w=>(VG hd _ _ w).1
 ·apply fin
  cases hty:i.ty<;>rw[hty] at fx hd<;>simp[EX] at fx
  obtain ⟨_,hd⟩:=hd;obtain ⟨_,_,rfl⟩:=ajS dx;obtain rfl:v=_:=dy;exact Ea h (eqGuard_at_iface ..) rfl rfl fun w=>(VG hd _ _ w).1
 ·apply fin
  cases hty:i.ty<;>rw[hty] at fx hd<;>simp[EX] at fx
  obtain ⟨_,hd⟩:=hd;obtain rfl:u=_:=dx;obtain rfl:v=_:=dy;exact Ea h (ahY (by simpa[Vj] using hlit)) rfl rfl fun w=>(VG hd 0 .nilFunc w).2.2
 ·rename_i g T g' T'
  cases hgg:(g==g'&&T==T')<;>simp only[hgg,cond_true,cond_false] at h
  ·cases hga:(acR C.gls g T&&acR C.gls g' T'&&T==T' && !(g==g'))<;>simp only[hga,cond_true,cond_false] at h
   ·cases h
   simp only[aH,beq_iff_eq,Bool.not_eq_true',beq_eq_false_iff_ne] at hga;obtain ⟨⟨⟨l1,l2⟩,rfl⟩,hne⟩:=hga;cases hty:i.ty<;>rw[hty] at fx hd<;>simp[EX] at fx
   obtain ⟨_,hd⟩:=hd;obtain ⟨b,b',rfl,rfl,hbb,⟨cs,ec,g1⟩,cs',ec',g2⟩:=acw (hg.apart g g' T T (afu l1) (afu l2) hne) dx dy;obtain ⟨inf,e,ie,q1,q2,q3,q4,q5⟩:=hC.Vg T fe;exact afv (Pw:=fun w=>(JJ (.sh (.er g T))&&JJ (.sh (.er g' T)))=aC->H.on w) h (eqGuard_at_iface ..) rfl rfl fun w hon=>akX hd q1 q2 q3 q4 q5 hbb w (hon rfl _ _ g1) (hon rfl _ _ g2)
  apply fin;simp only[aH,beq_iff_eq] at hgg;obtain ⟨rfl,rfl⟩:=hgg;cases hty:i.ty<;>rw[hty] at fx hd<;>simp[EX] at fx
  obtain ⟨_,hd⟩:=hd;obtain ⟨b,rfl,rfl⟩:=aef dx dy;obtain ⟨inf,e,ie,q1,q2,q3,q4,q5⟩:=hC.Vg T fe;exact Ea h (eqGuard_at_iface ..) rfl rfl fun w=>asl hd q1 q2 q3 q4 q5 b w
 ·apply fin
  cases hty:i.ty<;>rw[hty] at fx hd<;>simp[EX] at fx
  obtain ⟨_,hd⟩:=hd;obtain rfl:u=_:=dx;obtain ⟨_,_,rfl⟩:=ajS dy;exact Ea h (eqGuard_nil_iface ..) rfl rfl fun w=>(VG hd _ _ w).2.1
 ·rename_i t1 x1 g T
  apply fin;cases hty:i.ty<;>rw[hty] at fx hd<;>simp[EX] at fx
  obtain ⟨_,hd⟩:=hd;cases hT:(t1==T)<;>simp only[hT,cond_true,cond_false] at h
  ·have hT:t1≠T:=by simpa using hT
   obtain ⟨_,rfl,_⟩:=dx;obtain ⟨_,rfl⟩:=aft dy;exact Ea h (eqGuard_at_iface ..) rfl rfl fun w=>aaf hd hT _ _ w
  ·cases h
 ·rename_i t1 x1 g T
  apply fin;cases hty:i.ty<;>rw[hty] at fx hd<;>simp[EX] at fx
  obtain ⟨_,hd⟩:=hd;cases hT:(t1==T)<;>simp only[hT,cond_true,cond_false] at h
  ·have hT:t1≠T:=by simpa using hT
   obtain ⟨_,rfl⟩:=afs dx;obtain ⟨_,rfl⟩:=aft dy;exact Ea h (eqGuard_at_iface ..) rfl rfl fun w=>aaf hd hT _ _ w
  ·cases h
 ·cases h
theorem amF{c:Core}{a:Act}{o:Oper}{op:BinOp}{t t2:Nat}{x y:Operand}{φ:SV×Core->Prop}(hC:A8 P C)(hg:CS C.gls H)(ho:o.op=.binOp op t x y t2)(hd:Af H E c.tm a.tmps.toList)
  (h:(Lh c (amm C op t (isConst x||isConst y) (Bd c.tm x) (Bd c.tm y))).All φ):∃(p:SV×Core) (v:Value),φ p/\p.2=c/\Den H E p.1 v/\∀w',((JJ (Bd c.tm x)&&JJ (Bd c.tm y))=aC->H.on w')->(execOp a.eval o).run P w'=.ok (.value v) w':=by
 obtain ⟨sv,hs,hφ⟩:=Ij h;have dx:=AV (H:=H) (E:=E) hd x;have dy:=AV (H:=H) (E:=E) hd y;have hA:=hC.A;suffices hk:∃r,Den H E sv r/\∀w,((JJ (Bd c.tm x)&&JJ (Bd c.tm y))=aC->H.on w)->(do eqGuard op t x y (a.eval x) (a.eval y);binOp op t (a.eval x) (a.eval y):Sem Value).run P w=.ok r w by
  obtain ⟨r,h1,h2⟩:=hk;refine ⟨_,r,hφ,rfl,h1,fun w' hon=>?_⟩;have:=h2 w' hon;simp only[execOp,ho];simp only[gG] at this ⊢;rw[this];rfl
 generalize hu:a.eval x=u at dx ⊢;generalize hv:a.eval y=v at dy ⊢;unfold amm at hs;split at hs;case h_1 k n l m hx hy=>
  rw[hx] at dx;rw[hy] at dy;cases hb:(k==l)<;>simp only[hb,cond_true,cond_false] at hs
  ·cases hs
  obtain rfl:k=l:=by simpa using hb
  obtain ⟨r,hr,hden⟩:=acu (H:=H) (E:=E) hs;simp only[Den] at dx dy;subst dx;subst dy;exact ⟨r,hden,fun w _=>VE hr t x y w⟩
 case h_2 k n l m hx hy=>
  rw[hx] at dx;rw[hy] at dy;cases hb:(k==l)<;>simp only[hb,cond_true,cond_false] at hs
  ·cases hs
  obtain rfl:k=l:=by simpa using hb
  obtain ⟨r,hr,hden⟩:=PK (H:=H) (E:=E) hA hs;simp only[Den] at dx dy;subst dx;subst dy;exact ⟨r,hden,fun w _=>VE hr t x y w⟩
 case h_3 k n l m hx hy=>
  rw[hx] at dx;rw[hy] at dy;cases hb:(k==l)<;>simp only[hb,cond_true,cond_false] at hs
  ·cases hs
  obtain rfl:k=l:=by simpa using hb
  obtain ⟨r,hr,hden⟩:=PK (H:=H) (E:=E) hA hs;simp only[Den] at dx dy;subst dx;subst dy;exact ⟨r,hden,fun w _=>VE hr t x y w⟩
 case h_4 k n l m hx hy=>
  rw[hx] at dx;rw[hy] at dy;cases hb:(k==l)<;>simp only[hb,cond_true,cond_false] at hs
  ·cases hs
  obtain rfl:k=l:=by simpa using hb
  obtain ⟨r,hr,hden⟩:=PK (H:=H) (E:=E) hA hs;simp only[Den] at dx dy;subst dx;subst dy;exact ⟨r,hden,fun w _=>VE hr t x y w⟩
 case h_5 k l hx hy=>
  rw[hx] at dx;rw[hy] at dy;simp only[Den] at dx dy;subst dx;subst dy;cases op<;>simp at hs<;>subst hs
  ·exact ⟨_,rfl,fun w _=>(VF k l t x y w).1⟩
  ·exact ⟨_,by simp[Den,bne],fun w _=>(VF k l t x y w).2⟩
 case h_6 k l hx hy=>
  rw[hx] at dx;rw[hy] at dy;obtain rfl:=OE dy;simp only[Den] at dx;subst dx;obtain ⟨r,h1,h2⟩:=aae (P:=P) (H:=H) (E:=E) hA hs t x y;exact ⟨r,h1,fun w _=>h2 w⟩
 case h_7 k l hx hy=>
  rw[hx] at dx;rw[hy] at dy;obtain rfl:=OE dx;simp only[Den] at dy;subst dy;obtain ⟨r,h1,h2⟩:=aae (P:=P) (H:=H) (E:=E) hA hs t x y;exact ⟨r,h1,fun w _=>h2 w⟩
 case h_8 k l hx hy=>
  rw[hx] at dx;rw[hy] at dy;obtain rfl:=OE dx;obtain rfl:=OE dy;obtain ⟨r,h1,h2⟩:=aae (P:=P) (H:=H) (E:=E) hA hs t x y;exact ⟨r,h1,fun w _=>h2 w⟩
 case h_9 k l hx hy=>
  rw[hx] at dx;rw[hy] at dy;obtain ⟨vs,rfl,dl⟩:=dx;obtain ⟨vs',rfl,dl'⟩:=dy;split at hs
  ·rename_i m n i hm hn hi
   cases hb:(C.eqs.contains t&&CV m i.zero&&CV n i.zero)<;>simp only[hb,cond_true,cond_false] at hs
   ·cases hs
   simp only[aH] at hb;obtain ⟨⟨h1,h2⟩,h3⟩:=hb;have e1:=Um hm dl;have e2:=Um hn dl';have e1':vs=(m.map Cq.v).toArray:=by rw[<-e1]
   have e2':vs'=(n.map Cq.v).toArray:=by rw[<-e2]
   subst e1' e2';have hE:=fun w=>hC.eqs t i h1 hi m n w h2 h3 x y
   have hq:=QZ h2 h3;rw[hA] at hs;cases op<;>simp at hs<;>subst hs
   ·exact ⟨_,rfl,fun w _=>by rw[hq];exact (hE w).1⟩
   ·exact ⟨_,rfl,fun w _=>by rw[show zV.nt (Pv zV m n)=!decide (m=n) by rw[hq];rfl];exact (hE w).2⟩
  ·cases hs
 case h_10=>
  split at hs
  ·cases hs
  ·rename_i i hi
   split at hs
   ·rename_i hty
    have ht:=(hC.ty _ _ hi).desc;rw[hty] at ht;have fin:(∃r,Den H E sv r/\∀w,(do eqGuard op t x y u v;binOp op t u v:Sem Value).run P w=.ok r w)->∃r,Den H E sv r/\∀w,((JJ (Bd c.tm x)&&JJ (Bd c.tm y))=aC->H.on w)->(do eqGuard op t x y u v;binOp op t u v:Sem Value).run P w=.ok r w:=
     fun ⟨r,h1,h2⟩=>⟨r,h1,fun w _=>h2 w⟩
    apply fin;unfold aml at hs;split at hs
    ·rename_i p q hp hq
     rw[hp] at dx;rw[hq] at dy;simp only[Den] at dx dy;subst dx dy;cases op<;>simp at hs<;>subst hs
     ·exact ⟨_,rfl,fun w=>(SX ht p q x y w).1⟩
     ·exact ⟨_,by simp[Den,bne],fun w=>(SX ht p q x y w).2⟩
    all_goals first
     |(rename_i p q hp hq
       rw[hp] at dx;rw[hq] at dy;simp only[Den] at dx dy;subst dx dy;exact amE hA ht hs x y)
     |cases hs
   ·exact ahZ hC hg hi dx dy hs
theorem N7{x:SV}{u:Value}(hk:x.Zi=aC)(h:Den H E x u):Af H E x.cells u.cells.toList:=by
 cases x;case any=>simp[SV.Zi] at hk
 case ev=>simp[SV.Zi] at hk
 case agg l=>obtain ⟨vs,rfl,hl⟩:=h;exact hl
 case sh s=>
  have h':=h;have h:Rep H s u:=h;have key:u.cells=#[u]:=by
   cases h;case agg l vs a1 a2=>simp[SV.Zi] at hk
   case v h1=>cases u<;>simp[jQ,mJ] at h1 ⊢
   all_goals rfl
  rw[key];exact ⟨h',trivial⟩
 all_goals
  have h':=h;have key:u.cells=#[u]:=by
   first
    |(simp only[Den] at h;subst h;rfl)
    |(obtain ⟨rfl,h1⟩:=h;cases u<;>simp[jQ,mJ] at h1 ⊢;done)
    |(obtain ⟨_,_,rfl⟩:=h;rfl)
    |(obtain ⟨_,_,_,_,rfl⟩:=h;rfl)
    |(obtain ⟨_,_,_,_,_,rfl⟩:=h;rfl)
    |(obtain ⟨_,rfl,_⟩:=h;rfl)
    |(obtain ⟨_,_,_,rfl,_⟩:=h;rfl)
  rw[key];exact ⟨h',trivial⟩
theorem aag:∀{xs:List SV} {vs:List Value},Af H E xs vs->∀{z:List SV} {cells:Array Value} (off k:Nat),Af H E z cells.toList->
  Af H E (setAt z (off+k) xs) ((vs.zipIdx k).foldl (fun (cs:Array Value) (p:Value×Nat)=>cs.setIfInBounds (off+p.2) p.1) cells).toList
 |[],[],_,_,_,_,_,hz=>hz |x::xs,v::vs,⟨hx,hxs⟩,z,cells,off,k,hz=>by
  simp only[setAt,List.zipIdx_cons,List.foldl_cons];have:=aag hxs (z:=z.set (off+k) x) (cells:=cells.setIfInBounds (off+k) v) off (k+1) (by rw[Array.toList_setIfInBounds];exact hz.set _ hx);simpa[Nat.add_assoc] using this
 |[],_::_,h,_,_,_,_,_=>h.elim |_::_,[],h,_,_,_,_,_=>h.elim
theorem N8:∀(xs z:List SV) (off:Nat),(setAt z off xs).length=z.length
 |[],_,_=>rfl |x::xs,z,off=>by rw[setAt,N8 xs];simp
theorem Xr{place place':Nat->Option (Nat×Nat)}(hp:∀(i off size:Nat),place' i=ay (off,size)->place i=ay (off,size)){tm:List SV}{a:Act}(hd:Af H E tm a.tmps.toList):
  ∀(parts:List (Nat×Operand)) {z l:List SV} {cells:Array Value},Af H E z cells.toList->Pq place' (Bd tm) z parts=ay l->
   ∃cells',yK place cells (parts.map fun p=>(p.1,a.eval p.2))=ay cells'/\Af H E l cells'.toList
 |[],z,l,cells,hz,h=>by simp[Pq] at h;subst h;exact ⟨cells,rfl,hz⟩ |(i,x)::r,z,l,cells,hz,h=>by
  unfold Pq at h;split at h
  ·rename_i off size hpl
   cases hb:((Bd tm x).Zi&&(Bd tm x).cells.length==size&&Nat.ble (off+size) z.length)<;>simp only[hb,cond_true,cond_false] at h
   ·cases h
   simp only[aH,beq_iff_eq] at hb;obtain ⟨⟨h1,h2⟩,h3⟩:=hb;have h3:=Nat.le_of_ble_eq_true h3;have hv:=N7 h1 (AV hd x);have hlv:=hv.length;have hlz:=hz.length;have:=aag hv (z:=z) (cells:=cells) off 0 hz;obtain ⟨cells',e1,e2⟩:=Xr hp hd r this h;refine ⟨cells',?_,e2⟩;simp only[List.map_cons,yK,hp _ _ _ hpl];rw[if_neg]
   ·rw[<-e1,<-Array.foldl_toList,Array.toList_zipIdx]
   ·simp only[Array.length_toList] at hlv hlz
    simp only[Bool.or_eq_true,decide_eq_true_eq,not_or];constructor
    ·simp;omega
    ·omega
  ·cases h
theorem Yy:∀(fs:List Field) (ps:List (Nat×Nat×Bool)),fs.length=ps.length->(∀(j:Nat) (f:Field),fs[j]?=ay f->∃inf:TypeInfo,P.info? f.type=ay inf/\∃b,ps[j]?=ay (f.offset,inf.size,b))->
  fs.mapM (fun f=>(P.info? f.type).map fun i=>(f.offset,i.size))=ay (ps.map fun p=>(p.1,p.2.1))
 |[],[],_,_=>rfl |f::fs,p::ps,hl,h=>by
  obtain ⟨inf,h1,b,h2⟩:=h 0 f rfl;have ih:=Yy fs ps (by simpa using hl) fun j f' hf=>h (j+1) f' (by simpa using hf);simp at h2;subst h2;simp[List.mapM_cons,h1,ih]
 |[],_::_,h,_=>by simp at h |_::_,[],h,_=>by simp at h
theorem afw{c:Core}{a:Act}{o:Oper}{t:Nat}{parts:Array (Nat×Operand)}{φ:SV×Core->Prop}(hC:A8 P C)(ho:o.op=.build t parts)(hd:Af H E c.tm a.tmps.toList)
  (h:(Ue C c t parts.toList).All φ):QP P H E c a o φ:=by
 unfold Ue at h;split at h
 ·rename_i i hi
  have ht:=hC.ty _ _ hi;split at h
  ·rename_i fs hty
   have arN:=ht.desc;rw[hty] at arN;obtain ⟨fields,hu,hf⟩:=arN;split at h
   ·rename_i l hl
    obtain ⟨inf,z,h1,h2,_,h4,h5,h6,_⟩:=ht.info;have h5':Af H E i.zero z.cells.toList:=h5.le (fun _ _ e=>by cases e) (fun _ _ e=>by cases e);obtain ⟨cells',e1,e2⟩:=Xr (place:=fun x=>(fs.map fun p=>(p.1,p.2.1))[x]?) (fun j off size e=>by
     simp only[Option.map_eq_some_iff] at e;obtain ⟨⟨p1,p2,p3⟩,e1,e2⟩:=e;simp only[jO] at e2;simp[List.getElem?_map,e1,e2]) hd parts.toList h5' hl
    refine ⟨_,.agg cells',h,rfl,⟨cells',rfl,e2⟩,fun w'=>?_⟩;have hp:=Yy (P:=P) fields.toList fs (by simpa using hf.1) (fun j f hj=>by
     obtain ⟨inf',a1,a2,_⟩:=hf.2 j f (by simpa using hj);exact ⟨inf',a1,_,a2⟩)
    have hb:P.built t (parts.map fun p=>(p.1,a.eval p.2)).toList=ay cells':=by
     unfold Program.built;rw[Array.toList_map];simp only[h1,hu,h4,hp];simpa using e1
    have:=run_build (P:=P) w' t _ _ hb;simp only[execOp,ho];simp only[gG] at this ⊢;rw[this];rfl
   ·exact h.elim
  ·exact h.elim
 ·exact h.elim
end
section
variable{P:Program}{C:Ctx}{K:Kx}{H:Mem}{E:Env}{w:World}
theorem OG{c:Core}{a:Act}{o:Oper}{t:Nat}{x:Operand}{φ:SV×Core->Prop}(hC:A8 P C)(ho:o.op=.makeInterface t x)(hd:Af H E c.tm a.tmps.toList)
  (h:(match C.ty t with
   |some i=>match i.ty with
    | .iface=>.fail | .other=>.fail |_=>ret c (.CG t (Bd c.tm x))
   |none=>.fail:Tree (SV×Core)).All φ):QP P H E c a o φ:=by
 have dx:=AV (H:=H) (E:=E) hd x;split at h
 ·rename_i i hi
  have ht:=(hC.ty _ _ hi).desc;have key:∀d,P.underlying t=ay d->(∀ms,d≠.interface ms)->φ (.CG t (Bd c.tm x),c)->QP P H E c a o φ:=fun d hu hne hφ=>
   ⟨_,.iface t (a.eval x),hφ,rfl,⟨_,rfl,dx⟩,fun w'=>by
    simp only[execOp,ho,Instr.makeInterface,gG,run_underlying hu,Result.andThen_ok];cases d<;>simp_all⟩
  split at h
  ·exact h.elim
  ·exact h.elim
  ·rename_i ty hne1 hne2
   cases hty:i.ty<;>rw[hty] at ht hne1 hne2
   case iface=>exact (hne1 rfl).elim
   case other=>exact (hne2 rfl).elim
   case fn=>obtain ⟨_,_,_,ht⟩:=ht;exact key _ ht (by simp) h
   case struct=>obtain ⟨_,ht,_⟩:=ht;exact key _ ht (by simp) h
   all_goals exact key _ ht (by simp) h
 ·exact h.elim
theorem Un{c:Core}{a:Act}{o:Oper}{b:Builtin}{xs:Array Operand}{ts:Array TypeId}{sv:SV}{φ:SV×Core->Prop}(ho:o.op=.call {callee:=.builtin b,args:=xs,argTypes:=ts})
  (h:φ (sv,c)) {v:Value} (hv:Den H E sv v) (hr:∀w',∀cs,(builtin b ts o.type cs (xs.map a.eval)).run P w'=.ok (.value v) w'):QP P H E c a o φ:=
 ⟨_,v,h,rfl,hv,fun w'=>by
  simp only[execOp,ho,resolve];simp[invoke,hr w']⟩
theorem ah0{hp:List (Nat×SB)}{A:Prim}(hA:A=zV){x sv:SV}{u:Value}(hh:Ai K H E w hp)(h:ajM A hp x=ay sv)(dx:Den H E x u):
  (∃A n c,u=.slice A n c/\Den H E sv (.int .i64 n))\/(∃l,u=.string ⟨nK l⟩/\Den H E sv (.int .i64 l.length)):=by
 subst hA;unfold ajM at h;split at h
 ·rename_i id
  obtain ⟨he,A,n,cc,rfl⟩:=dx;split at h
  ·rename_i cells el st m hl
   cases h;obtain ⟨v,xs,he',hr,_,_⟩:=hh.ent _ _ hl;rw[he] at he';cases he';have:=LY hr;simp only[lenV] at this;subst this;exact .inl ⟨_,_,_,rfl,rfl⟩
  ·rename_i el st m g hl
   cases h;obtain ⟨v,xs,he',hr,_,_⟩:=hh.ent _ _ hl;rw[he] at he';cases he';have:=LY hr;simp only[lenV] at this;subst this;exact .inl ⟨_,_,_,rfl,rfl⟩
  ·rename_i el st m g more hl
   cases h;obtain ⟨v,xs,ys,he',hr,_⟩:=hh.ent _ _ hl;rw[he] at he';cases he';have:=LY hr;simp only[lenV] at this;subst this;exact .inl ⟨_,_,_,rfl,rfl⟩
  ·rename_i st m g hl
   cases h;obtain ⟨v,he',hr⟩:=hh.ent _ _ hl;rw[he] at he';cases he';cases hr
   ·exact .inl ⟨_,_,_,rfl,rfl⟩
   ·exact .inl ⟨_,_,_,rfl,rfl⟩
  ·rename_i el l hl
   cases h;obtain ⟨v,he',hr,_⟩:=hh.ent _ _ hl;rw[he] at he';cases he';rcases hr with ⟨h1,rfl⟩ |⟨g,cap,cur,fz,h1,_⟩
   ·cases h1;exact .inl ⟨_,_,_,rfl,rfl⟩
   ·cases h1;exact .inl ⟨_,_,_,rfl,rfl⟩
  ·cases h
 ·cases h
  obtain ⟨A,m,c,_,_,rfl⟩:=dx;exact .inl ⟨_,_,_,rfl,rfl⟩
 ·cases h
  cases dx
  ·exact .inl ⟨_,_,_,rfl,rfl⟩
  ·exact .inl ⟨_,_,_,rfl,rfl⟩
 ·cases h
  simp only[Den] at dx;subst dx;exact .inl ⟨_,_,_,rfl,rfl⟩
 ·cases h
  simp only[Den] at dx;subst dx;exact .inr ⟨_,rfl,rfl⟩
 ·cases h
  cases dx;exact .inr ⟨_,rfl,rfl⟩
 ·cases h
theorem Yz{C:Ctx}{t:Nat}{i:JI}{xs:Array Operand}{u:Value}(ht:NC P t i)(h:(i.ty=.str/\∃l,u=.string ⟨nK l⟩)\/((∃e,i.ty=.slice e)/\∃A n c,u=.slice A n c))(w:World)(ty:Nat):
  ∃n:Int,(pV #[t] ty #[u]).run P w=.ok (.int .i64 n) w/\((∃A m c,u=.slice A m c/\n=m)\/(∃l,u=.string ⟨nK l⟩/\n=l.length)):=by
 have hd:=ht.desc;rcases h with ⟨hty,l,rfl⟩ |⟨⟨e,hty⟩,A,n,c,rfl⟩
 ·rw[hty] at hd
  exact ⟨l.length,by simp[pV,run_underlying (show P.underlying t=ay .string from hd)];rfl,.inr ⟨l,rfl,rfl⟩⟩
 ·rw[hty] at hd
  exact ⟨n,by simp[pV,run_underlying (show P.underlying t=ay (.slice e) from hd),goInt],.inl ⟨_,_,_,rfl,rfl⟩⟩
theorem amG{k:IntKind}{a b:Int}(ts:Array TypeId)(ty:Nat)(w:World):
  (vH ts ty #[.int k a,.int k b]).run P w=.ok (.int k (if b>a then b else a)) w/\(vI ts ty #[.int k a,.int k b]).run P w=.ok (.int k (if b<a then b else a)) w:=by
 constructor
 ·simp[vH,Builtin.max2]
 ·simp[vI,Builtin.min2]
theorem Kv{x:SV}{u:Value}{k:IntKind}{n:Int}{l:Bool}(hk:IB x=ay (k,n,l))(hd:Den H E x u):u=.int k n:=by
 cases x<;>simp[IB] at hk
 all_goals (obtain ⟨rfl,rfl,rfl⟩:=hk;exact hd)
theorem ah1{A:Prim}(hA:A=zV){mx:Bool}{x y sv:SV}{u v:Value}(h:maxS A mx x y=ay sv)(dx:Den H E x u)(dy:Den H E y v):
  ∃(k:IntKind) (a b:Int),u=.int k a/\v=.int k b/\Den H E sv (.int k (bif mx then (if b>a then b else a) else (if b<a then b else a))):=by
 subst hA;unfold maxS at h;have kd:∀{x:SV} {u:Value} {k:IntKind} {n:Int} {l:Bool},IB x=ay (k,n,l)->Den H E x u->u=.int k n:=by
  intro x u k n l hk hd;cases x<;>simp[IB] at hk
  all_goals (obtain ⟨rfl,rfl,rfl⟩:=hk;exact hd)
 split at h
 ·rename_i k a la l b lb e1 e2
  cases hb:(k==l)<;>simp only[hb,cond_true,cond_false] at h
  ·cases h
  obtain rfl:k=l:=by simpa using hb
  refine ⟨k,a,b,kd e1 dx,kd e2 dy,?_⟩;cases hl:(la&&lb)<;>simp only[hl,cond_true,cond_false,kL] at h<;>subst h
  ·cases mx<;>rfl
  ·cases mx
   ·simp only[cond_false,Den,rC,true_and]
    cases hd:decide (b<a)<;>simp at hd<;>simp[hd]
    omega
   ·simp only[cond_true,Den,rC,true_and]
    cases hd:decide (a<b)<;>simp at hd<;>simp[hd]
    omega
 ·cases h
theorem acy{ty:Ty}{x:SV}{u:Value}(h:OA ty x=aC)(dx:Den H E x u):(ty=.str/\∃l,u=.string ⟨nK l⟩)\/((∃e,ty=.slice e)/\∃A n c,u=.slice A n c):=by
 unfold OA at h;split at h
 ·exact .inl ⟨rfl,_,dx⟩
 ·exact .inl ⟨rfl,_,OE dx⟩
 ·obtain ⟨_,h⟩:=dx;exact .inr ⟨⟨_,rfl⟩,h⟩
 ·refine .inr ⟨⟨_,rfl⟩,?_⟩
  cases dx<;>exact ⟨_,_,_,rfl⟩
 ·obtain rfl:u=_:=dx;exact .inr ⟨⟨_,rfl⟩,_,_,_,rfl⟩
 ·obtain ⟨A,m,c,_,_,rfl⟩:=dx;exact .inr ⟨⟨_,rfl⟩,_,_,_,rfl⟩
 ·cases h
theorem q_len{c:Core}{a:Act}{o:Oper}{x:Operand}{t:Nat}{i:JI}{φ:SV×Core->Prop}(hC:A8 P C)(hd:Af H E c.tm a.tmps.toList)(hh:Ai K H E w c.hp)
  (ho:o.op=.call {callee:=.builtin .len,args:=#[x],argTypes:=#[t]}) (hi:C.tys.get t=ay i) (hf:OA i.ty (Bd c.tm x)=aC)
  (h:(Lh c (ajM C.A c.hp (Bd c.tm x))).All φ):QP P H E c a o φ:=by
 have dx:=AV (H:=H) (E:=E) hd x;obtain ⟨sv,hs,hφ⟩:=Ij h;have hl:=ah0 hC.A hh hs dx;have ht:=hC.ty _ _ hi;have hcase:=acy hf dx;rcases hl with ⟨A,n,cc,e,hden⟩ |⟨l,e,hden⟩
 ·refine Un ho hφ hden fun w' cs=>?_
  obtain ⟨m,h1,h2⟩:=Yz (C:=C) (xs:=#[x]) ht hcase w' o.type;rcases h2 with ⟨A',m',c',e',rfl⟩ |⟨l',e',_⟩
  ·rw[e] at e';cases e'
   rw[e] at h1;simp[builtin,e,h1]
  ·rw[e] at e';cases e'
 ·refine Un ho hφ hden fun w' cs=>?_
  obtain ⟨m,h1,h2⟩:=Yz (C:=C) (xs:=#[x]) ht hcase w' o.type;rcases h2 with ⟨A',m',c',e',_⟩ |⟨l',e',rfl⟩
  ·rw[e] at e';cases e'
  ·rw[e] at e';cases e'
   rw[e] at h1;simp[builtin,e,h1]
theorem aeg{c:Core}{a:Act}{o:Oper}{x y:Operand}{ts:Array TypeId}{mx:Bool}{φ:SV×Core->Prop}(hC:A8 P C)(hd:Af H E c.tm a.tmps.toList)
  (ho:o.op=.call {callee:=.builtin (bif mx then .max else .min),args:=#[x,y],argTypes:=ts}) (h:(Lh c (maxS C.A mx (Bd c.tm x) (Bd c.tm y))).All φ):QP P H E c a o φ:=by
 obtain ⟨sv,hs,hφ⟩:=Ij h;obtain ⟨k,m,n,ex,ey,hden⟩:=ah1 hC.A hs (AV hd x) (AV hd y);refine Un ho hφ hden fun w' cs=>?_
 have:=amG (P:=P) (k:=k) (a:=m) (b:=n) ts o.type w';cases mx
 ·simp[builtin,ex,ey,this.2]
 ·simp[builtin,ex,ey,this.1]
theorem Uo{kk:IntKind}{n:Int}:∀{es:List (SV×SV)} {ms:List MapEntry} {r:Option SV} (j:Nat),QS kk n es=ay r->Nz H E es ms->
  (r=aK/\dM (.int kk) (.int kk n) ms j=ay aK)\/(∃sv i v,r=ay sv/\dM (.int kk) (.int kk n) ms j=ay (ay (i,v))/\Den H E sv v)
 |[],[],r,j,h,_=>by simp[QS] at h;exact .inl ⟨h.symm,rfl⟩ |(k,v)::es,m::ms,r,j,h,⟨h1,h2,h3⟩=>by
  unfold QS at h;split at h
  ·rename_i e;cases e
  ·rename_i l p u es' e
   simp only[qj,jO] at e;obtain ⟨⟨rfl,rfl⟩,rfl⟩:=e;have h1:m.key=.int l p:=h1;cases hb:(l==kk)<;>simp only[hb,cond_true,cond_false] at h
   ·cases h
   obtain rfl:l=kk:=by simpa using hb
   cases hp:(p==n)<;>simp only[hp,cond_true,cond_false] at h
   ·have hne:(n==p)=ak:=by simp at hp ⊢;exact fun e=>hp e.symm
    rcases Uo (j+1) h h3 with ⟨e1,e2⟩ |⟨sv,i,v',e1,e2,e3⟩
    ·exact .inl ⟨e1,by simp[dM,h1,dZ,hne,e2]⟩
    ·exact .inr ⟨sv,i,v',e1,by simp[dM,h1,dZ,hne,e2],e3⟩
   ·cases h
    have:p=n:=by simpa using hp
    subst this;exact .inr ⟨v,j,m.val,rfl,by simp[dM,h1,dZ],h2⟩
  ·cases h
 |[],_::_,_,_,_,h=>h.elim |_::_,[],_,_,_,h=>h.elim
theorem ac0{kk:IntKind}{n:Int}{A:Prim}(hA:A=zV){f:SV->Bool->Tree (SV×Core)}{z:SV}{φ:SV×Core->Prop}:∀{es:List (SV×SV)} {ms:List MapEntry} (j:Nat),(Vl A kk n z f es).All φ->Nz H E es ms->
  (dM (.int kk) (.int kk n) ms j=ay aK/\(f z ak).All φ)\/(∃sv i v,(f sv aC).All φ/\dM (.int kk) (.int kk n) ms j=ay (ay (i,v))/\Den H E sv v)
 |[],[],j,h,_=>.inl ⟨rfl,h⟩ |(k,v)::es,m::ms,j,h,⟨h1,h2,h3⟩=>by
  unfold Vl at h;split at h
  ·rename_i e;cases e
  ·rename_i l p u es' e
   simp only[qj,jO] at e;obtain ⟨⟨rfl,rfl⟩,rfl⟩:=e;have h1:m.key=.int l p:=h1;cases hb:(l==kk)<;>simp only[hb,cond_true,cond_false] at h
   ·exact h.elim
   obtain rfl:l=kk:=by simpa using hb
   subst hA;cases hp:(n==p)
   ·rcases ac0 rfl (j+1) (h.2 hp) h3 with ⟨e1,e2⟩ |⟨sv,i,v',e1,e2,e3⟩
    ·exact .inl ⟨by simp[dM,h1,dZ,hp,e1],e2⟩
    ·exact .inr ⟨sv,i,v',e1,by simp[dM,h1,dZ,hp,e2],e3⟩
   ·exact .inr ⟨v,j,m.val,h.1 hp,by simp[dM,h1,dZ,hp],h2⟩
  ·exact h.elim
 |[],_::_,_,_,h=>h.elim |_::_,[],_,_,h=>h.elim
def PV(H:Mem)(E:Env)(p:Bool)(sv:SV)(o:Option Value):Prop:=
 match p,o with|true,ay v=>Den H E sv v/\v.oneCell'=aC|false,aK=>True|_,_=>False
def LG:List (Int×Option Value)->Int->Option (Option Value)
 |[],_=>aK |(n,o)::r,k=>if k=n then ay o else LG r k
theorem YA{M:Int->Option Value}{fv:List (Int×Option Value)}(hM:∀n o,(n,o)∈fv->M n=o){k:Int}{o:Option Value}:∀{uv:List (Int×Option Value)},LG (uv++fv) k=ay o->TI M uv k=o
 |[],h=>by
  have key:∀l:List (Int×Option Value),(∀n o,(n,o)∈l->M n=o)->LG l k=ay o->M k=o:=by
   intro l;induction l with
   |nil=>intro _ h;cases h |cons p r ih=>
    obtain ⟨n,q⟩:=p;intro hm h;simp only[LG] at h;split at h
    ·rename_i e;subst e;cases h;exact hm _ _ (cu ..)
    ·exact ih (fun n o h=>hm n o (dw _ h)) h
  exact key fv hM h
 |(n,q)::uv,h=>by
  simp only[List.cons_append,LG] at h;simp only[TI];split at h
  ·rename_i e;rw[if_pos e];cases h;rfl
  ·rename_i e;rw[if_neg e];exact YA hM h
theorem F8.app:∀{l l':List (Int×Bool×SV)} {v v':List (Int×Option Value)},F8 H E l v->F8 H E l' v'->F8 H E (l++l') (v++v')
 |[],_,[],_,_,h=>h |(_,_,_)::_,_,(_,_)::_,_,⟨a,b,c⟩,h=>⟨a,b,c.app h⟩ |[],_,_::_,_,h,_=>h.elim |_::_,_,[],_,h,_=>h.elim
theorem VH{φ:SV×Core->Prop}{k:Int}{f:Bool->SV->Tree (SV×Core)}:∀{l:List (Int×Bool×SV)} {lv:List (Int×Option Value)},F8 H E l lv->(findF zV k f l).All φ->
  ∃p sv o,(f p sv).All φ/\PV H E p sv o/\LG lv k=ay o
 |[],_,_,h=>h.elim |[(j,p,sv)],[(n,o)],⟨a,b,_⟩,h=>by
  subst a;obtain ⟨h1,h2⟩:=h;have h1:k=n:=by simpa[zV] using h1
  exact ⟨p,sv,o,h2,b,by simp[LG,h1]⟩
 |(j,p,sv)::q::r,(n,o)::lv,⟨a,b,c⟩,h=>by
  subst a;obtain ⟨h1,h2⟩:=h;by_cases e:k=n
  ·exact ⟨p,sv,o,h1 (by simp[zV,e]),b,by simp[LG,e]⟩
  ·obtain ⟨p',sv',o',a1,a2,a3⟩:=VH c (h2 (by simp[zV,e]))
   exact ⟨p',sv',o',a1,a2,by simp[LG,e,a3]⟩
 |[(_,_,_)],_::_::_,h,_=>h.2.2.elim |_::_,[],h,_=>h.elim
theorem YB{φ:SV×Core->Prop}{k:Int}{f:Bool->SV->Tree (SV×Core)}{M:Int->Option Value}{fs us:List (Int×Bool×SV)}{fv uv:List (Int×Option Value)}(hM:∀n o,(n,o)∈fv->M n=o)
  (d2:F8 H E us uv) (d1:F8 H E fs fv) (h:(findF zV k f (us++fs)).All φ):∃p sv o,(f p sv).All φ/\PV H E p sv o/\TI M uv k=o:=by
 obtain ⟨p,sv,o,a1,a2,a3⟩:=VH (d2.app d1) h;exact ⟨p,sv,o,a1,a2,YA hM a3⟩
theorem IE{kk:IntKind}{n:Int}{v:Value}:∀{ms:List MapEntry},(∀m∈ms,∃n,m.key=.int kk n)->∀j:Nat,Iu kk n ms=ay v->
  ∃i,dM (.int kk) (.int kk n) ms j=ay (ay (j+i,v))/\∃m,ms[i]?=ay m/\m.key=.int kk n/\m.val=v
 |[],_,_,h=>by cases h |m::ms,hk,j,h=>by
  obtain ⟨p,hp⟩:=hk m (cu ..);by_cases e:n=p
  ·subst e
   simp[Iu,hp,dZ] at h;exact ⟨0,by simp[dM,hp,dZ,h],m,rfl,hp,h⟩
  ·have e':(n==p)=ak:=by simpa using e
   simp[Iu,hp,dZ,e'] at h;obtain ⟨i,a1,m',a2,a3⟩:=IE (fun m hm=>hk m (dw _ hm)) (j+1) h;refine ⟨i+1,?_,m',by simpa using a2,a3⟩;simp only[dM,hp,dZ,if_true,e'];rw[a1];congr 3;omega
theorem Kw{kk:IntKind}{n:Int}:∀{ms:List MapEntry},(∀m∈ms,∃n,m.key=.int kk n)->∀j:Nat,Iu kk n ms=aK->dM (.int kk) (.int kk n) ms j=ay aK
 |[],_,_,_=>rfl |m::ms,hk,j,h=>by
  obtain ⟨p,hp⟩:=hk m (cu ..);by_cases e:n=p
  ·subst e
   simp[Iu,hp,dZ] at h
  ·have e':(n==p)=ak:=by simpa using e
   simp[Iu,hp,dZ,e'] at h;simp only[dM,hp,dZ,if_true,e'];exact Kw (fun m hm=>hk m (dw _ hm)) (j+1) h
theorem Ky{kt:Nat}{kk:IntKind}(hu:P.underlying kt=ay (.int kk))(em:Bool)(k:IntKind)(n:Int)(w:World):(iV em 10000 kt (.int k n)).run P w=.ok () w:=by
 have:∀d:Nat,(iV em (d+1) kt (.int k n)).run P w=.ok () w:=fun d=>by simp[iV,run_underlying hu]
 exact this 9999
theorem JR{t kt e:Nat}{kk:IntKind}{n:Int}{ok:Bool}{te:JI}{m:Value}{es:List MapEntry}{w:World}{z:Value}(hu:P.underlying t=ay (.map kt e))(hk:P.underlying kt=ay (.int kk))
  (hz:(zeroValue e).run P w=.ok z w) (hm:(m=.map aK/\es=[])\/(∃b clk,m=.map (ay b)/\w.heap[b]?=ay (.map es.toArray clk))) :
  (dM (.int kk) (.int kk n) es 0=ay aK->(iZ t m (.int kk n) ok).run P w=.ok (if ok then .tuple #[z,.bool ak] else z) w)/\
  (∀i v,dM (.int kk) (.int kk n) es 0=ay (ay (i,v))->(iZ t m (.int kk n) ok).run P w=.ok (if ok then .tuple #[v,.bool aC] else v) w):=by
 have hck:=fun em=>Ky (P:=P) hk em kk n w;rcases hm with ⟨rfl,rfl⟩ |⟨b,clk,rfl,hb⟩
 ·constructor
  ·intro hf
   cases ok<;>simp[iZ,run_underlying hu,hck,iq,run_underlying hk,hf,hz]
  ·intro i v hf
   simp[dM] at hf
 ·have hg:(getObj b).run P w=.ok (.map es.toArray clk) w:=by simp[getObj,kW,hb]
  constructor
  ·intro hf
   cases ok<;>simp[iZ,run_underlying hu,hg,hck,iq,run_underlying hk,hf,hz]
  ·intro i v hf
   cases ok<;>simp[iZ,run_underlying hu,hg,hck,iq,run_underlying hk,hf]
theorem VI{c:Core}{ok:Bool}{sv:SV}{b:Bool}{v:Value}(hd:Den H E sv v):
  Den H E (bif ok then .Aj [sv,.bool b] else sv) (if ok then .tuple #[v,.bool b] else v):=by
 cases ok
 ·exact hd
 ·exact ⟨#[v,.bool b],rfl,hd,rfl,trivial⟩
theorem PL{n m:DC}(h:CZ n=CZ m):n=m:=by
 obtain ⟨a,l⟩:=n;obtain ⟨b,k⟩:=m;simp[CZ] at h;obtain ⟨rfl,h2⟩:=h;rw[h2]
theorem ah2{s:SV}{n:Int}{v:Value}(h:intOf s=ay n)(hd:Den H E s v):v=.int .i64 n:=by
 unfold intOf at h;split at h
 ·cases h;exact hd
 ·cases h;exact hd
 ·cases h
  have hd:Rep H (.i .i64 n) v:=hd;cases hd;rfl
 ·cases h
theorem afx{s:SV}{l:List UInt8}{v:Value}(h:strOf s=ay l)(hd:Den H E s v):v=.string ⟨l.toArray⟩:=by
 unfold strOf at h;split at h
 ·cases h;exact hd
 ·cases h
  have hd:Rep H (.str l) v:=hd;cases hd;rfl
 ·cases h
theorem VJ{s:SV}{n:DC}{v:Value}(h:Zy s=ay n)(hd:Den H E s v):v=CZ n:=by
 unfold Zy at h;split at h
 ·split at h
  ·rename_i a b n l h1 h2
   cases h;obtain ⟨⟨cs⟩,rfl,hd⟩:=hd;match cs,hd with
   |[x,y],⟨d1,d2,_⟩=>
    rw[ah2 h1 d1,afx h2 d2];rfl
  ·cases h
 ·rename_i n l
  cases h;have hd:Rep H (.agg [.i .i64 n,.str l]) v:=hd;cases hd with
  |agg _ vs hl hr=>
   obtain ⟨vs⟩:=vs;match vs,hl,hr with
   |[x,y],_,hr=>
    have h1:=hr 0 _ x rfl rfl;have h2:=hr 1 _ y rfl rfl;cases h1;cases h2;rfl
 ·cases h
theorem amH(k n:DC):zV.kp k.1 k.2 n.1 n.2=decide (k=n):=by
 obtain ⟨a,l⟩:=k;obtain ⟨b,m⟩:=n;simp[zV]
theorem ah3{vt:VT}{v:Value}(h:amy vt v):Den H E (amr zV vt (ay v)) v/\v.oneCell'=aC:=by
 cases vt with
 |int=>obtain ⟨n,rfl⟩:=h;exact ⟨rfl,rfl⟩ |bool=>obtain ⟨b,rfl⟩:=h;exact ⟨rfl,rfl⟩
theorem YC{φ:SV×Core->Prop}{k:DC}{f:Bool->SV->Tree (SV×Core)}{vt:VT}{M:DC->Option Value}(hT:ajP vt M):∀{us:List (DC×Bool×SV)} {uv:List (DC×Option Value)},
  Vt H E us uv->(ahQ zV vt M k f us).All φ->∃p sv o,(f p sv).All φ/\PV H E p sv o/\QX M uv k=o
 |[],[],_,⟨h1,h2⟩=>by
  cases hm:M k with
  |none=>exact ⟨ak,.any,aK,h2 (by rw[hm];rfl),trivial,hm⟩ |some v=>exact ⟨aC,_,ay v,h1 (by rw[hm];rfl),by rw[hm];exact ah3 (hT k v hm),hm⟩
 |(j,p,sv)::us,(n,o)::uv,⟨a,b,c⟩,h=>by
  subst a;obtain ⟨h1,h2⟩:=h;by_cases e:k=n
  ·exact ⟨p,sv,o,h1 (by rw[amH];simp[e]),b,by simp[QX,e]⟩
  ·obtain ⟨p',sv',o',a1,a2,a3⟩:=YC hT c (h2 (by rw[amH];simp[e]))
   exact ⟨p',sv',o',a1,a2,by simp[QX,e,a3]⟩
 |[],_::_,h,_=>h.elim |_::_,[],h,_=>h.elim
theorem OH{kt:Nat}(hp:QY P kt){n:DC}{w:World}:∀{ms:List MapEntry},(∀m∈ms,∃n,m.key=CZ n)->∀j:Nat,
  ∃r,(nR kt (CZ n) ms j).run P w=.ok r w/\((r=aK/\∀m∈ms,m.key≠CZ n)\/∃(i:Nat) (m:MapEntry),r=ay (j+i,m.val)/\ms[i]?=ay m/\m.key=CZ n)
 |[],_,j=>⟨aK,rfl,.inl ⟨rfl,fun _ h=>by cases h⟩⟩ |m::ms,hk,j=>by
  obtain ⟨p,hpk⟩:=hk m (cu ..);have he:=hp.eq n p w;by_cases e:n=p
  ·subst e
   refine ⟨ay (j,m.val),?_,.inr ⟨0,m,rfl,rfl,hpk⟩⟩;simp[nR,hpk,he]
  ·obtain ⟨r,h1,h2⟩:=OH hp (n:=n) (w:=w) (fun m hm=>hk m (dw _ hm)) (j+1)
   refine ⟨r,?_,?_⟩
   ·simp[nR,hpk,he,e,h1]
   ·rcases h2 with ⟨a,b⟩ |⟨i,m',a,b,c⟩
    ·refine .inl ⟨a,fun x hx=>?_⟩
     rcases List.mem_cons.1 hx with rfl|hx
     ·rw[hpk];exact fun q=>e (PL q).symm
     ·exact b x hx
    ·exact .inr ⟨i+1,m',by rw[a];congr 2;omega,by simpa using b,c⟩
theorem N9{kt:Nat}(hp:QY P kt){n:DC}{w:World}{ms:List MapEntry}(hk:∀m∈ms,∃n,m.key=CZ n):
  ∃r,(iq kt (CZ n) ms).run P w=.ok r w/\((r=aK/\∀m∈ms,m.key≠CZ n)\/∃(i:Nat) (m:MapEntry),r=ay (i,m.val)/\ms[i]?=ay m/\m.key=CZ n):=by
 obtain ⟨fs,hu⟩:=hp.und;cases ms with
 |nil=>exact ⟨aK,by simp[iq,run_underlying hu,dM],.inl ⟨rfl,fun _ h=>by cases h⟩⟩ |cons m ms=>
  obtain ⟨r,h1,h2⟩:=OH hp (n:=n) (w:=w) hk 0;refine ⟨r,?_,?_⟩
  ·simp[iq,run_underlying hu,dM,dZ,h1]
  ·rcases h2 with h2|⟨i,m',a,b,c⟩
   ·exact .inl h2
   ·exact .inr ⟨i,m',by rw[a,Nat.zero_add],b,c⟩
theorem amI{e:Nat}{te:JI}{z:SV}(hte:NC P e te)(hz:pack te.ty.isAgg te.zero=ay z):∃zv:Value,Den H E z zv/\∀w:World,(zeroValue e).run P w=.ok zv w:=by
 obtain ⟨inf,zv,h1,h2,_,h4,h5,h6,h7,h8⟩:=hte.info;have h5':Af H E te.zero zv.cells.toList:=h5.le (fun _ _ e=>by cases e) (fun _ _ e=>by cases e);refine ⟨zv,?_,fun w=>by simp[zeroValue,typeInfo,h1,h4]⟩;rcases ML hz with ⟨ha,rfl⟩ |⟨ha,hl⟩
 ·obtain ⟨cs,rfl⟩:=h7 ha
  exact ⟨cs,rfl,h5'⟩
 ·rw[hl] at h5'
  have h8:=(h8 ha).2;cases zv with
  |agg cs=>simp[jQ] at h8 |_=>
   simp[mJ,Af] at h5';exact h5'
theorem akY{c:Core}{a:Act}{o:Oper}{t:Nat}{x y:Operand}{ok:Bool}{φ:SV×Core->Prop}(hC:A8 P C)(hd:Af H E c.tm a.tmps.toList)(hh:Ai K H E w c.hp)
  (ho:o.op=.lookup t x y ok) (h:(QT C c t (Bd c.tm x) (Bd c.tm y) ok).All φ):Vx P H E w c a o φ:=by
 have dx:=AV (H:=H) (E:=E) hd x;have dy:=AV (H:=H) (E:=E) hd y;unfold QT at h;split at h
 ·rename_i ti hti
  have ht:=(hC.ty _ _ hti).desc;split at h
  ·rename_i kt e hty
   rw[hty] at ht;split at h
   ·rename_i Z4 te hkt hte
    have hkt:=(hC.ty _ _ hkt).desc;have hte:=hC.ty _ _ hte;split at h
    ·rename_i fs z hkk hz
     cases hpk:(C.ZV.contains kt)<;>simp only[hpk,cond_true,cond_false] at h
     ·exact h.elim
     have hp:=hC.ZV _ hpk;obtain ⟨zv,hzd,TJ⟩:=amI (H:=H) (E:=E) hte hz;split at h
     ·rename_i id hx
      rw[hx] at dx;obtain ⟨b,he,ex⟩:=dx;split at h
      ·rename_i vt M us hl
       obtain ⟨b',ms,clk,uv,he',hw,d2,hT,hL,hok,_⟩:=hh.ent _ _ hl;rw[he] at he';cases he';have hkeep:∀w',Uj H E c.hp w w'->w'.heap[b]?=ay (.map ms clk):=fun w' ha=>by
        rw[Jc ha hl (b:=b) (by simp[AL,he,Ah]),hw]
       split at h
       ·rename_i n hn
        have dy:a.eval y=CZ n:=VJ hn dy;rw[hC.A] at h;obtain ⟨p,sv,ov,hφ,hpo,hat⟩:=YC hT d2 h;have fin:∀(sv:SV) (b:Bool) (v:Value),Den H E sv v->(IC c ok sv b).All φ->(∀w',Uj H E c.hp w w'->H.on w'->(iZ t (a.eval x) (a.eval y) ok).run P w'=.ok (if ok then .tuple #[v,.bool b] else v) w')->Vx P H E w c a o φ:=by
         intro sv b v hdv hφ hr;refine ⟨_,_,hφ,rfl,VI (c:=c) hdv,fun w' h1 h2=>?_⟩;simp[execOp,ho,hr w' h1 h2]
        have hg:∀w',Uj H E c.hp w w'->(getObj b).run P w'=.ok (.map ms clk) w':=fun w' h1=>by simp[getObj,kW,hkeep w' h1]
        cases p with
        |true=>
         cases ov with
         |none=>exact hpo.elim |some v=>
          refine fin _ aC v hpo.1 hφ fun w' h1 h2=>?_
          obtain ⟨r,e1,e2⟩:=N9 hp (n:=n) (w:=w') hok.key;rw[ex,dy];rcases e2 with ⟨_,e2⟩ |⟨i,m,rfl,e3,e4⟩
          ·obtain ⟨m,hm,q⟩:=hok.ex _ _ hat
           exact (e2 m hm q).elim
          ·have hv:=hok.Zj m (bT e3) n e4
           rw[hat] at hv;injection hv with hv
           subst hv;cases ok<;>simp[iZ,run_underlying ht,hg w' h1,hp.chk,e1]
        |false=>
         cases ov with
         |some v=>exact hpo.elim |none=>
          refine fin _ ak zv hzd hφ fun w' h1 h2=>?_
          obtain ⟨r,e1,e2⟩:=N9 hp (n:=n) (w:=w') hok.key;rw[ex,dy];rcases e2 with ⟨rfl,_⟩ |⟨i,m,_,e3,e4⟩
          ·cases ok<;>simp[iZ,run_underlying ht,hg w' h1,hp.chk,e1,TJ]
          ·have hv:=hok.Zj m (bT e3) n e4
           rw[hat] at hv;cases hv
       ·exact h.elim
      ·exact h.elim
     ·exact h.elim
    ·rename_i kk z hkk hz
     rw[hkk] at hkt;have hzero:∃zv:Value,Den H E z zv/\∀w:World,(zeroValue e).run P w=.ok zv w:=by
      obtain ⟨inf,zv,h1,h2,_,h4,h5,h6,h7,h8⟩:=hte.info;have h5':Af H E te.zero zv.cells.toList:=h5.le (fun _ _ e=>by cases e) (fun _ _ e=>by cases e);refine ⟨zv,?_,fun w=>by simp[zeroValue,typeInfo,h1,h4]⟩;rcases ML hz with ⟨ha,rfl⟩ |⟨ha,hl⟩
      ·obtain ⟨cs,rfl⟩:=h7 ha
       exact ⟨cs,rfl,h5'⟩
      ·rw[hl] at h5'
       have h8:=(h8 ha).2;cases zv with
       |agg cs=>simp[jQ] at h8 |_=>
        simp[mJ,Af] at h5';exact h5'
     obtain ⟨zv,hzd,TJ⟩:=hzero;have fin:∀(sv:SV) (b:Bool) (v:Value),Den H E sv v->(IC c ok sv b).All φ->(∀w',Uj H E c.hp w w'->H.on w'->(iZ t (a.eval x) (a.eval y) ok).run P w'=.ok (if ok then .tuple #[v,.bool b] else v) w')->Vx P H E w c a o φ:=by
      intro sv b v hdv hφ hr;refine ⟨_,_,hφ,rfl,VI (c:=c) hdv,fun w' h1 h2=>?_⟩;simp[execOp,ho,hr w' h1 h2]
     split at h
     ·rename_i hx
      rw[hx] at dx;have dx:a.eval x=.map aK:=dx;split at h
      ·rename_i j n l hk
       have dy:a.eval y=.int j n:=Kv hk dy;cases hb:(j==kk)<;>simp only[hb,cond_true,cond_false] at h
       ·exact h.elim
       obtain rfl:j=kk:=by simpa using hb
       refine fin _ _ _ hzd h fun w' h1 h2=>?_
       rw[dx,dy];exact (JR ht hkt (TJ w') (te:=te) (.inl ⟨rfl,rfl⟩)).1 rfl
      ·exact h.elim
     ·rename_i id hx
      rw[hx] at dx;obtain ⟨b,he,ex⟩:=dx;split at h
      ·rename_i es hl
       obtain ⟨b',ms,clk,he',hw,hdm,_⟩:=hh.ent _ _ hl;rw[he] at he';cases he';have hkeep:∀w',Uj H E c.hp w w'->w'.heap[b]?=ay (.map ms clk):=fun w' ha=>by
        rw[Jc ha hl (b:=b) (by simp[AL,he,Ah]),hw]
       split at h
       ·rename_i k n hy
        rw[hy] at dy;have dy:a.eval y=.int k n:=dy;cases hb:(k==kk)<;>simp only[hb,cond_true,cond_false] at h
        ·exact h.elim
        obtain rfl:k=kk:=by simpa using hb
        split at h
        ·rename_i sv hf
         rcases Uo 0 hf hdm with ⟨e1,_⟩ |⟨sv',i,v,e1,e2,e3⟩
         ·cases e1
         ·cases e1
          refine fin _ _ _ e3 h fun w' h1 h2=>?_
          rw[ex,dy];exact (JR ht hkt (TJ w') (te:=te) (.inr ⟨b,clk,rfl,by simpa using hkeep w' h1⟩)).2 i v e2
        ·rename_i hf
         rcases Uo 0 hf hdm with ⟨_,e2⟩ |⟨sv',i,v,e1,_⟩
         ·refine fin _ _ _ hzd h fun w' h1 h2=>?_
          rw[ex,dy];exact (JR ht hkt (TJ w') (te:=te) (.inr ⟨b,clk,rfl,by simpa using hkeep w' h1⟩)).1 e2
         ·cases e1
        ·exact h.elim
       ·rename_i k n hy
        rw[hy] at dy;have dy:a.eval y=.int k n:=dy;cases hb:(k==kk)<;>simp only[hb,cond_true,cond_false] at h
        ·exact h.elim
        obtain rfl:k=kk:=by simpa using hb
        rcases ac0 hC.A 0 h hdm with ⟨e2,hφ⟩ |⟨sv',i,v,hφ,e2,e3⟩
        ·refine fin _ _ _ hzd hφ fun w' h1 h2=>?_
         rw[ex,dy];exact (JR ht hkt (TJ w') (te:=te) (.inr ⟨b,clk,rfl,by simpa using hkeep w' h1⟩)).1 e2
        ·refine fin _ _ _ e3 hφ fun w' h1 h2=>?_
         rw[ex,dy];exact (JR ht hkt (TJ w') (te:=te) (.inr ⟨b,clk,rfl,by simpa using hkeep w' h1⟩)).2 i v e2
       ·exact h.elim
      ·rename_i fk M fs us tag hl
       obtain ⟨b',ms,clk,fv,uv,he',hw,d1,d2,hM,hok,_,_⟩:=hh.ent _ _ hl;rw[he] at he';cases he';have hkeep:∀w',Uj H E c.hp w w'->w'.heap[b]?=ay (.map ms clk):=fun w' ha=>by
        rw[Jc ha hl (b:=b) (by simp[AL,he,Ah]),hw]
       split at h
       ·rename_i j n l hk
        have dy:a.eval y=.int j n:=Kv hk dy;cases hb:(j==kk&&fk==kk)<;>simp only[hb,cond_true,cond_false] at h
        ·exact h.elim
        simp only[aH,beq_iff_eq] at hb;obtain ⟨rfl,rfl⟩:=hb;rw[hC.A] at h;obtain ⟨p,sv,o,hφ,hpo,hat⟩:=YB hM d2 d1 h;rw[<-hok.at_] at hat;cases p with
        |true=>
         cases o with
         |none=>exact hpo.elim |some v=>
          obtain ⟨i,hi⟩:=IE hok.key 0 hat;refine fin _ _ _ hpo.1 hφ fun w' h1 h2=>?_
          rw[ex,dy];exact (JR ht hkt (TJ w') (te:=te) (.inr ⟨b,clk,rfl,by simpa using hkeep w' h1⟩)).2 _ _ hi.1
        |false=>
         cases o with
         |some v=>exact hpo.elim |none=>
          have hi:=Kw hok.key 0 hat;refine fin _ _ _ hzd hφ fun w' h1 h2=>?_
          rw[ex,dy];exact (JR ht hkt (TJ w') (te:=te) (.inr ⟨b,clk,rfl,by simpa using hkeep w' h1⟩)).1 hi
       ·exact h.elim
      ·exact h.elim
     ·exact h.elim
    ·exact h.elim
   ·exact h.elim
  ·exact h.elim
 ·exact h.elim
theorem akZ{t e:Nat}(hu:P.underlying t=ay (.slice e))(A:Option Addr)(n k:Nat)(w:World):(gW t (.slice A n k) (.slice aK 0 0)).run P w=.ok A.isNone w:=by
 have:∀n':Nat,(fH (n'+1) t (.slice A n k) (.slice aK 0 0)).run P w=.ok A.isNone w:=fun n'=>by
  cases A<;>simp[fH,run_underlying hu]
 exact this 9999
theorem ah4{hp:List (Nat×SB)}{x:SV}{n:Nat}{u:Value}(hh:Ai K H E w hp)(h:amn hp x=ay n)(dx:Den H E x u):∃A k,u=.slice A n k/\(0<n->A.isNone=ak):=by
 unfold amn at h;split at h
 ·rename_i id
  obtain ⟨he,A,m,cc,rfl⟩:=dx;have key:∀{elem st n:Nat} {xs:List Value},w.ownsRow 0 elem st (.slice A m cc) n xs->m=n/\(0<n->A.isNone=ak):=fun {elem st n xs} hr=>by
   rcases hr.2 with ⟨h1,rfl⟩ |⟨g,cap,cur,h1,_⟩
   ·cases h1;exact ⟨rfl,fun h=>by omega⟩
   ·cases h1;exact ⟨rfl,fun _=>rfl⟩
  split at h
  ·rename_i cells el st m' hl
   cases h;obtain ⟨v,xs,he',hr,_,_⟩:=hh.ent _ _ hl;rw[he] at he';cases he';obtain ⟨rfl,h2⟩:=key hr;exact ⟨_,_,rfl,h2⟩
  ·rename_i el st m' g hl
   cases h;obtain ⟨v,xs,he',hr,_,_⟩:=hh.ent _ _ hl;rw[he] at he';cases he';obtain ⟨rfl,h2⟩:=key hr;exact ⟨_,_,rfl,h2⟩
  ·rename_i st m' g hl
   cases h;obtain ⟨v,he',hr⟩:=hh.ent _ _ hl;rw[he] at he';cases he';cases hr
   ·exact ⟨_,_,rfl,fun h=>by omega⟩
   ·exact ⟨_,_,rfl,fun _=>rfl⟩
  ·cases h
 ·cases h
  cases dx
  ·exact ⟨_,_,rfl,fun h=>by omega⟩
  ·exact ⟨_,_,rfl,fun _=>rfl⟩
 ·cases h
theorem ND{x:SV}{l:List UInt8}{v:Value}(h:textOf x=ay l)(d:Den H E x v):v=.string ⟨l.toArray⟩:=by
 unfold textOf at h;split at h
 ·cases h;exact d
 ·cases h;exact OE d
 ·cases h
theorem aeh{P:Program}(l l':List UInt8)(h:l.length+l'.length<=9223372036854775807)(t:Nat)(x y:Operand)(w:World):
  (do eqGuard .add t x y (.string ⟨l.toArray⟩) (.string ⟨l'.toArray⟩);binOp .add t (.string ⟨l.toArray⟩) (.string ⟨l'.toArray⟩):Sem Value).run P w=.ok (.string ⟨(l++l').toArray⟩) w:=by
 have e:(⟨l.toArray⟩:ByteArray)++⟨l'.toArray⟩=⟨(l++l').toArray⟩:=by
  apply ByteArray.ext;rw[ByteArray.data_append];simp
 have h1:(eqGuard .add t x y (.string ⟨l.toArray⟩) (.string ⟨l'.toArray⟩):Sem Unit).run P w=.ok () w:=by simp[eqGuard]
 rw[gG,h1];show (binOp .add t (.string ⟨l.toArray⟩) (.string ⟨l'.toArray⟩):Sem Value).run P w=_;rw[Go.binOp_string_add,Go.run_string_add_sum w _ _ (by simpa[nH] using h),e]
theorem YD{x:SV}{k:IntKind}{n:Int}{b:Bool}{u:Value}(h:numOf x=ay (k,n,b))(hd:Den H E x u):u=.int k n:=by
 unfold numOf at h;split at h
 ·cases h;exact hd
 ·cases h;exact hd
 ·cases h
theorem ak0{op:BinOp}{k l:IntKind}{a b:Int}(h:(op=.shl/\0<=b)\/(op=.shr/\0<=b)\/(op=.quo/\k=l/\b≠0)\/(op=.rem/\k=l/\b≠0)\/((op=.and\/op=.or\/op=.xor\/op=.andNot)/\k=l))(t:Nat)(x y:Operand)(w:World):
  (do eqGuard op t x y (.int k a) (.int l b);binOp op t (.int k a) (.int l b):Sem Value).run P w=.ok (.int k (Vk op k a b)) w:=by
 rcases h with ⟨rfl,h⟩ |⟨rfl,h⟩ |⟨rfl,rfl,h⟩ |⟨rfl,rfl,h⟩ |⟨h,rfl⟩
 ·have:¬b<0:=by omega
  simp[eqGuard,binOp,Op.shift,this,Vk]
 ·have:¬b<0:=by omega
  simp[eqGuard,binOp,Op.shift,this,Vk]
 ·simp[eqGuard,binOp,Op.intDiv,h,Vk]
 ·simp[eqGuard,binOp,Op.intDiv,h,Vk]
 ·rcases h with rfl|rfl|rfl|rfl<;>simp[eqGuard,binOp,Op.intBits,Vk]
theorem ak1{A:Prim}(hA:A=zV){op:BinOp}{k:IntKind}{a b:Int}{la lb:Bool}{c:Core}{φ:SV×Core->Prop}(h:(MC A op k a b la lb c).All φ):∃sv,φ (sv,c)/\Den H E sv (.int k (Vk op k a b)):=by
 subst hA;unfold MC at h;refine ⟨_,h,?_⟩;cases la<;>cases lb<;>rfl
theorem amJ{c:Core}{a:Act}{op:BinOp}{t:Nat}{x y:Operand}{φ:SV×Core->Prop}{r:Tree (SV×Core)}(hC:A8 P C)(hd:Af H E c.tm a.tmps.toList)(hr:amo C c op (Bd c.tm x) (Bd c.tm y)=ay r)(h:r.All φ):
  ∃(p:SV×Core) (v:Value),φ p/\p.2=c/\Den H E p.1 v/\∀w',(do eqGuard op t x y (a.eval x) (a.eval y);binOp op t (a.eval x) (a.eval y):Sem Value).run P w'=.ok v w':=by
 have dx:=AV (H:=H) (E:=E) hd x;have dy:=AV (H:=H) (E:=E) hd y;have fin:∀{k l:IntKind} {n m:Int} {la lb:Bool},numOf (Bd c.tm x)=ay (k,n,la)->numOf (Bd c.tm y)=ay (l,m,lb)->(MC C.A op k n m la lb c).All φ->
   ((op=.shl/\0<=m)\/(op=.shr/\0<=m)\/(op=.quo/\k=l/\m≠0)\/(op=.rem/\k=l/\m≠0)\/((op=.and\/op=.or\/op=.xor\/op=.andNot)/\k=l))->
   ∃(p:SV×Core) (v:Value),φ p/\p.2=c/\Den H E p.1 v/\∀w',(do eqGuard op t x y (a.eval x) (a.eval y);binOp op t (a.eval x) (a.eval y):Sem Value).run P w'=.ok v w':=by
  intro k l n m la lb h1 h2 h3 h4;obtain ⟨sv,h5,h6⟩:=ak1 hC.A h3;refine ⟨_,_,h5,rfl,h6,fun w'=>?_⟩;rw[YD h1 dx,YD h2 dy];exact ak0 h4 t x y w'
 unfold amo at hr;split at hr
 ·rename_i k n la l m lb h1 h2
  cases hr;cases lb<;>simp only[cond_true,cond_false] at h
  ·rw[hC.A] at h
   have h0:(0:Int)<=m:=of_decide_eq_true h.1;exact fin h1 h2 (by rw[hC.A];exact h.2) (.inl ⟨rfl,h0⟩)
  ·cases h0:decide (0<=m)<;>simp only[h0,cond_true,cond_false] at h
   ·exact h.elim
   ·exact fin h1 h2 h (.inl ⟨rfl,of_decide_eq_true h0⟩)
 ·rename_i k n la l m lb h1 h2
  cases hr;cases lb<;>simp only[cond_true,cond_false] at h
  ·rw[hC.A] at h
   have h0:(0:Int)<=m:=of_decide_eq_true h.1;exact fin h1 h2 (by rw[hC.A];exact h.2) (.inr (.inl ⟨rfl,h0⟩))
  ·cases h0:decide (0<=m)<;>simp only[h0,cond_true,cond_false] at h
   ·exact h.elim
   ·exact fin h1 h2 h (.inr (.inl ⟨rfl,of_decide_eq_true h0⟩))
 ·rename_i k n la l m lb h1 h2
  cases hk:(k==l)<;>simp only[hk,cond_true,cond_false] at hr
  ·cases hr
  cases hr;have hk:k=l:=by simpa using hk
  cases lb<;>simp only[cond_true,cond_false] at h
  ·rw[hC.A] at h
   have h0:(!(m==0))=aC:=h.1;exact fin h1 h2 (by rw[hC.A];exact h.2) (.inr (.inr (.inl ⟨rfl,hk,by simpa using h0⟩)))
  ·cases h0:(m==0)<;>simp only[h0,cond_true,cond_false] at h
   ·exact fin h1 h2 h (.inr (.inr (.inl ⟨rfl,hk,by simpa using h0⟩)))
   ·exact h.elim
 ·rename_i k n la l m lb h1 h2
  cases hk:(k==l)<;>simp only[hk,cond_true,cond_false] at hr
  ·cases hr
  cases hr;have hk:k=l:=by simpa using hk
  cases lb<;>simp only[cond_true,cond_false] at h
  ·rw[hC.A] at h
   have h0:(!(m==0))=aC:=h.1;exact fin h1 h2 (by rw[hC.A];exact h.2) (.inr (.inr (.inr (.inl ⟨rfl,hk,by simpa using h0⟩))))
  ·cases h0:(m==0)<;>simp only[h0,cond_true,cond_false] at h
   ·exact fin h1 h2 h (.inr (.inr (.inr (.inl ⟨rfl,hk,by simpa using h0⟩))))
   ·exact h.elim
 all_goals first
  |(cases hr;done)
  |(rename_i k n la l m lb h1 h2
    cases hk:(k==l)<;>simp only[hk,cond_true,cond_false] at hr
    ·cases hr
    cases hr;have hk:k=l:=by simpa using hk
    exact fin h1 h2 h (.inr (.inr (.inr (.inr ⟨by simp,hk⟩)))))
theorem aah{c:Core}{a:Act}{o:Oper}{op:BinOp}{t t2:Nat}{x y:Operand}{φ:SV×Core->Prop}(hC:A8 P C)(hg:CS C.gls H)(ho:o.op=.binOp op t x y t2)(hd:Af H E c.tm a.tmps.toList)(hh:Ai K H E w c.hp)
  (h:(ZW C c op t x y (isConst x||isConst y)).All φ):∃(p:SV×Core) (v:Value),φ p/\p.2=c/\Den H E p.1 v/\∀w',((JJ (Bd c.tm x)&&JJ (Bd c.tm y))=aC->H.on w')->(execOp a.eval o).run P w'=.ok (.value v) w':=by
 unfold ZW at h;split at h
 ·rename_i r hr
  obtain ⟨p,v,h1,h2,h3,h4⟩:=amJ (t:=t) hC hd hr h;refine ⟨p,v,h1,h2,h3,fun w' _=>?_⟩;have:=h4 w';simp only[execOp,ho];simp only[gG] at this ⊢;rw[this];rfl
 split at h
 ·rename_i r hr
  unfold ajL at hr;split at hr
  ·split at hr
   ·rename_i l l' h1 h2
    cases hr;obtain ⟨h3,hφ⟩:=h;rw[hC.A] at h3 hφ;have ex:=ND h1 (AV (H:=H) (E:=E) hd x);have ey:=ND h2 (AV (H:=H) (E:=E) hd y);have h3:l.length+l'.length<=9223372036854775807:=of_decide_eq_true h3;refine ⟨_,.string ⟨(l++l').toArray⟩,hφ,rfl,.str _,fun w' _=>?_⟩;have:=aeh (P:=P) l l' h3 t x y w';simp only[execOp,ho,ex,ey];simp only[gG] at this ⊢;rw[this];rfl
   ·cases hr
  ·cases hr
 split at h
 ·rename_i r hr
  unfold acS at hr;split at hr
  ·rename_i i hi
   split at hr
   ·rename_i e hty
    have ht:=(hC.ty _ _ hi).desc;rw[hty] at ht;have ht:P.underlying t=ay (.slice e):=ht;cases hn:Xi y<;>simp only[hn,cond_true,cond_false] at hr
    ·cases hr
    have ey:a.eval y=.slice aK 0 0:=by
     unfold Xi at hn;split at hn
     ·rfl
     ·cases hn
    split at hr
    ·rename_i va vb hva hvb
     have dx:=AV (H:=H) (E:=E) hd x;have fin:∀(r:Bool) (sv:SV) (A:Option Addr) (n k:Nat),a.eval x=.slice A n k->A.isNone=r->DN op r=ay sv->φ (sv,c)->∃(p:SV×Core) (v:Value),φ p/\p.2=c/\Den H E p.1 v/\∀w',((JJ (Bd c.tm x)&&JJ (Bd c.tm y))=aC->H.on w')->(execOp a.eval o).run P w'=.ok (.value v) w':=by
      intro r sv A n k ex hA hop hφ;have hgd:eqGuard op t x y (.slice A n k) (.slice aK 0 0)=pure ():=by
       unfold eqGuard;cases op<;>rfl
      have he1:binOp .eql t (.slice A n k) (.slice aK 0 0)=(do pure (.bool (<-gW t (.slice A n k) (.slice aK 0 0)))):=rfl;have he2:binOp .neq t (.slice A n k) (.slice aK 0 0)=(do pure (.bool (!(<-gW t (.slice A n k) (.slice aK 0 0))))):=rfl;obtain ⟨rv,h1,h2⟩:=Ea (H:=H) (E:=E) hop hgd he1 he2 fun w=>by rw[<-hA];exact akZ ht A n k w
      refine ⟨_,rv,hφ,rfl,h1,fun w' _=>?_⟩;have:=h2 w';simp only[execOp,ho,ex,ey];simp only[gG] at this ⊢;rw[this];rfl
     split at hr
     ·rename_i hx
      cases hr;rw[hx] at dx;exact fin aC _ aK 0 0 dx rfl hva h
     ·split at hr
      ·rename_i n hn2
       cases hr;obtain ⟨A,k,ex,hA⟩:=ah4 hh hn2 dx;cases hb:C.A.ZU n 0 with
       |true=>
        obtain ⟨h1,h2⟩:=h.1 hb;cases hx:A.isNone with
        |true=>exact fin aC _ A n k ex hx hva h1 |false=>exact fin ak _ A n k ex hx hvb h2
       |false=>
        rw[hC.A] at hb;exact fin ak _ A n k ex (hA (by simpa[zV,Nat.pos_iff_ne_zero] using hb)) hvb (h.2 (by rw[hC.A];exact hb))
      ·cases hr
    ·cases hr
   ·cases hr
  ·cases hr
 ·refine amF hC hg ho hd ?_
  split at h
  ·rename_i v hv;rw[hv];exact h
  ·exact h.elim
theorem VK{call:Nat->List SV->Core->Tree (SV×Core)}{c:Core}{a:Act}{o:Oper}{φ:SV×Core->Prop}(hC:A8 P C)(hd:Af H E c.tm a.tmps.toList)(hh:Ai K H E w c.hp)(hg:CS C.gls H)
  (hq:CW o.op=aC) (h:(PG C call c o).All φ):Vx P H E w c a o φ:=by
 unfold PG at h;split at h;case h_1 x ho=>exact (ZC (.inl ho) hd h).q
 case h_2 x ho=>exact (ZC (.inr ho) hd h).q
 case h_3 x y z ho=>exact (ajQ hC.A ho hd h).q
 case h_6 t parts ho=>exact (afw hC ho hd h).q
 case h_8 t x ho=>exact aqz hC ho hd hh hg h
 case h_10 x ho=>exact (amD ho hd h).q
 case h_11 op t x y t2 ho=>exact let ⟨p,v,h1,h2,h3,h4⟩:=aah hC hg ho hd hh h;⟨p,v,h1,h2,h3,fun w' _ hon=>h4 w' fun _=>hon⟩
 case h_12 t x ho=>exact (amB hC.A ho hd h).q
 case h_13 t x ho=>exact (amC hC.A ho hd h).q
 case h_14 t x f ho=>exact (Vz hC ho hd h).q
 case h_15 t x f ho=>exact (afp hC ho hd h).q
 case h_16 t x i ho=>exact (VB hC ho hd hh hg h).q
 case h_17 x i ho=>exact (Z9 ho hd h).q
 case h_18 f fs cs ho=>exact (Yu ho hd h).q
 case h_19 t x ho=>exact (OG hC ho hd h).q
 case h_23 t m k ok ho=>exact akY hC hd hh ho h
 case h_28 k ho=>
  rw[ho] at hq;unfold SL at h;split at h
  ·rename_i b hb
   obtain ⟨callee,xs,ts⟩:=k;simp only at hb;subst hb;simp only at h;split at h
   ·rename_i x t h1 h2
    split at h
    ·rename_i i hi
     cases hf:OA i.ty (Bd c.tm x)<;>simp only[hf,cond_true,cond_false] at h
     ·exact h.elim
     have e1:xs=#[x]:=by cases xs;simp at h1;subst h1;rfl
     have e2:ts=#[t]:=by cases ts;simp at h2;subst h2;rfl
     subst e1 e2;exact (q_len hC hd hh ho hi hf h).q
    ·exact h.elim
   ·simp[CW] at hq
   ·simp[CW] at hq
   ·rename_i x y h1
    have e1:xs=#[x,y]:=by cases xs;simp at h1;subst h1;rfl
    subst e1;exact (aeg (mx:=aC) hC hd ho h).q
   ·rename_i x y h1
    have e1:xs=#[x,y]:=by cases xs;simp at h1;subst h1;rfl
    subst e1;exact (aeg (mx:=ak) hC hd ho h).q
   ·exact h.elim
  ·rename_i f hb
   obtain ⟨callee,xs,ts⟩:=k;simp only at hb;subst hb;simp[CW] at hq
  ·exact h.elim
 case h_30=>exact h.elim
 all_goals first
  |(rename_i ho;rw[ho] at hq;simp[CW] at hq;done)
  |skip
theorem afy{call:Nat->List SV->Core->Tree (SV×Core)}{c:Core}{a:Act}{o:Oper}{φ:SV×Core->Prop}(hC:A8 P C)(hd:Af H E c.tm a.tmps.toList)(hh:Ai K H E w c.hp)(hg:CS C.gls H)
  (hq:Ku c.tm o.op=aC) (h:(PG C call c o).All φ):QP P H E c a o φ:=by
 unfold PG at h;split at h;case h_1 x ho=>exact ZC (.inl ho) hd h
 case h_2 x ho=>exact ZC (.inr ho) hd h
 case h_3 x y z ho=>exact ajQ hC.A ho hd h
 case h_6 t parts ho=>exact afw hC ho hd h
 case h_10 x ho=>exact amD ho hd h
 case h_11 op t x y t2 ho=>
  rw[ho] at hq;exact let ⟨p,v,h1,h2,h3,h4⟩:=aah hC hg ho hd hh h;⟨p,v,h1,h2,h3,fun w'=>h4 w' fun e=>by simp[Ku,e] at hq⟩
 case h_12 t x ho=>exact amB hC.A ho hd h
 case h_13 t x ho=>exact amC hC.A ho hd h
 case h_14 t x f ho=>exact Vz hC ho hd h
 case h_15 t x f ho=>exact afp hC ho hd h
 case h_16 t x i ho=>exact VB hC ho hd hh hg h
 case h_17 x i ho=>exact Z9 ho hd h
 case h_18 f fs cs ho=>exact Yu ho hd h
 case h_19 t x ho=>exact OG hC ho hd h
 case h_28 k ho=>
  rw[ho] at hq;unfold SL at h;split at h
  ·rename_i b hb
   obtain ⟨callee,xs,ts⟩:=k;simp only at hb;subst hb;simp only at h;split at h
   ·rename_i x t h1 h2
    split at h
    ·rename_i i hi
     cases hf:OA i.ty (Bd c.tm x)<;>simp only[hf,cond_true,cond_false] at h
     ·exact h.elim
     have e1:xs=#[x]:=by cases xs;simp at h1;subst h1;rfl
     have e2:ts=#[t]:=by cases ts;simp at h2;subst h2;rfl
     subst e1 e2;exact q_len hC hd hh ho hi hf h
    ·exact h.elim
   ·simp[Ku,CW] at hq
   ·simp[Ku,CW] at hq
   ·rename_i x y h1
    have e1:xs=#[x,y]:=by cases xs;simp at h1;subst h1;rfl
    subst e1;exact aeg (mx:=aC) hC hd ho h
   ·rename_i x y h1
    have e1:xs=#[x,y]:=by cases xs;simp at h1;subst h1;rfl
    subst e1;exact aeg (mx:=ak) hC hd ho h
   ·exact h.elim
  ·rename_i f hb
   obtain ⟨callee,xs,ts⟩:=k;simp only at hb;subst hb;simp[Ku,CW] at hq
  ·exact h.elim
 case h_30=>exact h.elim
 all_goals first
  |(rename_i ho;rw[ho] at hq;simp[Ku,CW] at hq;done)
  |skip
mutual
theorem ac1:∀{x:SV} {v:Value},Den H E x v->Den H E x.hard v
 | .agg l,_,h=>by obtain ⟨vs,e,h⟩:=h;exact ⟨vs,e,Ur h⟩ | .Aj l,_,h=>by obtain ⟨vs,e,h⟩:=h;exact ⟨vs,e,Ur h⟩ | .any,_,h| .val _,_,h| .int _ _,_,h| .sym _ _,_,h| .bool _,_,h| .test _,_,h| .str _,_,h| .ptr _ _,_,h| .gs _,_,h| .gp _ _ _ _,_,h| .EJ,_,h| .Aw,_,h| .F7,_,h| .DK,_,h| .Fp,_,h| .fn _ _,_,h| .CG _ _,_,h| .mp _,_,h| .sh _,_,h| .Gl _ _ _ _ _,_,h| .glob _,_,h| .ev _,_,h| .vw _ _,_,h=>h
theorem Ur:∀{l:List SV} {vs:List Value},Af H E l vs->Af H E (ad5 l) vs
 |[],[],_=>trivial |_::_,_::_,h=>⟨ac1 h.1,Ur h.2⟩ |[],_::_,h=>h.elim |_::_,[],h=>h.elim
end
theorem Tree.IW{α β:Type}{φ:β->Prop}{k:α->Tree β}:∀{t:Tree α},(t.bind k).All φ->t.All fun a=>(k a).All φ
 | .leaf _,h=>h | .node _ _ _,h=>⟨fun e=>Tree.IW (h.1 e),fun e=>Tree.IW (h.2 e)⟩ | .need _ _,h=>⟨h.1,Tree.IW h.2⟩ | .must _ _,h=>⟨h.1,Tree.IW h.2⟩ | .both _ _,h=>⟨Tree.IW h.1,Tree.IW h.2⟩ | .fail,h=>h.elim
theorem Us{call:Nat->List SV->Core->Tree (SV×Core)}{c:Core}{o:Oper}{φ:SV×Core->Prop}(h:(exec C call c o).All φ):∃ψ:SV×Core->Prop,(PG C call c o).All ψ/\∀p,ψ p->∃x,φ (x,p.2)/\∀(H:Mem) (E:Env) (v:Value),Den H E p.1 v->Den H E x v:=by
 unfold exec at h;cases hl:C.lits<;>simp only[hl,cond_true,cond_false] at h
 ·exact ⟨φ,h,fun p hp=>⟨p.1,hp,fun _ _ _ e=>e⟩⟩
 ·exact ⟨_,Tree.IW h,fun p hp=>⟨p.1.hard,hp,fun _ _ _ e=>ac1 e⟩⟩
theorem afz{call:Nat->List SV->Core->Tree (SV×Core)}{c:Core}{a:Act}{o:Oper}{φ:SV×Core->Prop}(hC:A8 P C)(hd:Af H E c.tm a.tmps.toList)(hh:Ai K H E w c.hp)(hg:CS C.gls H)
  (hq:CW o.op=aC) (h:(exec C call c o).All φ):Vx P H E w c a o φ:=by
 obtain ⟨ψ,h,hψ⟩:=Us h;obtain ⟨p,v,h1,h2,h3,h4⟩:=VK hC hd hh hg hq h;obtain ⟨x,q1,q2⟩:=hψ p h1;exact ⟨(x,p.2),v,q1,h2,q2 _ _ _ h3,h4⟩
theorem ah5{call:Nat->List SV->Core->Tree (SV×Core)}{c:Core}{a:Act}{o:Oper}{φ:SV×Core->Prop}(hC:A8 P C)(hd:Af H E c.tm a.tmps.toList)(hh:Ai K H E w c.hp)(hg:CS C.gls H)
  (hq:Ku c.tm o.op=aC) (h:(exec C call c o).All φ):QP P H E c a o φ:=by
 obtain ⟨ψ,h,hψ⟩:=Us h;obtain ⟨p,v,h1,h2,h3,h4⟩:=afy hC hd hh hg hq h;obtain ⟨x,q1,q2⟩:=hψ p h1;exact ⟨(x,p.2),v,q1,h2,q2 _ _ _ h3,h4⟩
end
open Go.RowKit (Below)
def bk(E:Env)(id:Nat):Option Nat:=(E id).bind Ah
def Free(E:Env)(c:Core):Prop:=∀i,c.nx<=i->i<c.lim->E i=aK
structure Post(K:Kx)(H:Mem)(E:Env)(w:World)(c:Core)(H':Mem)(E':Env)(w':World)(c':Core):Prop where
 Iw:H.le H'
 LH:E.le E'
 new:∀i,E i=aK->E' i≠aK->c.nx<=i/\i<c'.nx
 nx:c.nx<=c'.nx
 lim:c'.nx<=c.lim\/c'.nx=c.nx
 afA:c'.lim=c.lim
 tm:c'.tm=c.tm
 hp:Ai K H' E' w' c'.hp
 BI:DX K H' w'
 tc:∀id∈c.tc,id∈c'.tc
 size:w.heap.size<=w'.heap.size
 fr:∀b,b<w.heap.size->(∀id∈c'.tc,bk E id≠ay b)->w'.heap[b]?=w.heap[b]?
 NG:∀i b,E i=aK->bk E' i=ay b->w.heap.size<=b\/∃id∈c'.tc,bk E id=ay b
 Zl:∀id∈c'.tc,id∈c.tc\/E id=aK\/∃sb,zX c.hp id=ay sb/\AL E id sb=bk E id
 keep:∀id sb b,zX c.hp id=ay sb->id ∉ c'.tc->AL E id sb=ay b->H' b≠aK\/∃sb',zX c'.hp id=ay sb'/\AL E' id sb'=ay b
 old:∀id sb,zX c'.hp id=ay sb->E id≠aK->∃sb0,zX c.hp id=ay sb0/\∀b,AL E' id sb=ay b->AL E id sb0=ay b
section
variable{P:Program}{C:Ctx}{K:Kx}{H H':Mem}{E E':Env}{w w':World}
theorem FT{elem st n:Nat}{v:Value}{xs:List Value}(h:w.ownsRow 0 elem st v n xs)(hk:∀b,Ah v=ay b->w'.heap[b]?=w.heap[b]?):w'.ownsRow 0 elem st v n xs:=by
 refine ⟨h.1,?_⟩;rcases h.2 with h2|⟨g,cap,cur,rfl,h3,h4,h5⟩
 ·exact .inl h2
 ·exact .inr ⟨g,cap,cur,rfl,h3,by rw[hk g rfl];exact h4,h5⟩
theorem Nz.le(hH:H.le H')(hE:E.le E'):∀{es:List (SV×SV)} {ms:List MapEntry},Nz H E es ms->Nz H' E' es ms
 |[],[],_=>trivial |(_,_)::_,_::_,⟨a,b,c⟩=>⟨a.le hH hE,b.le hH hE,Nz.le hH hE c⟩ |[],_::_,h=>h.elim |_::_,[],h=>h.elim
theorem F8.le(hH:H.le H')(hE:E.le E'):∀{l:List (Int×Bool×SV)} {v:List (Int×Option Value)},F8 H E l v->F8 H' E' l v
 |[],[],_=>trivial |(_,aC,_)::_,(_,ay _)::_,⟨a,b,c⟩=>⟨a,⟨b.1.le hH hE,b.2⟩,F8.le hH hE c⟩ |(_,ak,_)::_,(_,aK)::_,⟨a,_,c⟩=>⟨a,trivial,F8.le hH hE c⟩ |(_,aC,_)::_,(_,aK)::_,h=>h.2.1.elim |(_,ak,_)::_,(_,ay _)::_,h=>h.2.1.elim |[],_::_,h=>h.elim |_::_,[],h=>h.elim
theorem Vt.le(hH:H.le H')(hE:E.le E'):∀{l:List (DC×Bool×SV)} {v:List (DC×Option Value)},Vt H E l v->Vt H' E' l v
 |[],[],_=>trivial |(_,aC,_)::_,(_,ay _)::_,⟨a,b,c⟩=>⟨a,⟨b.1.le hH hE,b.2⟩,Vt.le hH hE c⟩ |(_,ak,_)::_,(_,aK)::_,⟨a,_,c⟩=>⟨a,trivial,Vt.le hH hE c⟩ |(_,aC,_)::_,(_,aK)::_,h=>h.2.1.elim |(_,ak,_)::_,(_,ay _)::_,h=>h.2.1.elim |[],_::_,h=>h.elim |_::_,[],h=>h.elim
theorem aed.le(hE:E.le E'){k:IntKind}{ms:List MapEntry}{t:Option (Nat×Int)}(h:aed E k ms t):aed E' k ms t:=by
 cases t with
 |none=>trivial |some p=>obtain ⟨m,a,b,c⟩:=h;exact ⟨m,a,b,hE _ _ c⟩
theorem acz{e:Nat}{v:Value}{l:List UInt8}(h:Gn w e v l)(hk:∀b,Ah v=ay b->w'.heap[b]?=w.heap[b]?):Gn w' e v l:=by
 rcases h with h|⟨g,cap,cur,fz,rfl,h1,h2⟩
 ·exact .inl h
 ·exact .inr ⟨g,cap,cur,fz,rfl,by rw[hk g rfl];exact h1,h2⟩
theorem afB{e b:Nat}{v:Value}{l:List UInt8}(h:Gn w e v l)(hb:Ah v=ay b):b<w.heap.size:=by
 rcases h with ⟨rfl,_⟩ |⟨g,cap,cur,fz,rfl,h1,h2⟩
 ·simp[Ah] at hb
 ·simp[Ah] at hb;subst hb;exact (bG.1 h1).1
theorem Gg.kept{id:Nat}{sb:SB}(h:Gg K H E w id sb)(hH:H.le H')(hE:E.le E')(hb:∀b,AL E id sb=ay b->w'.heap[b]?=w.heap[b]?)(hm:∀b,AL E id sb=ay b->H' b=aK):Gg K H' E' w' id sb:=by
 cases sb with
 |box cells elem=>
  obtain ⟨b,cs,he,h1,h2,h3⟩:=h;have ho:AL E id (.box cells elem)=ay b:=by simp[AL,he,Ah]
  exact ⟨b,cs,hE _ _ he,by rw[hb b ho];exact h1,h2.le hH hE,hm b ho,h3.2⟩
 |row cells elem st n=>
  obtain ⟨v,xs,he,h1,h2,h3⟩:=h;have ho:∀b,Ah v=ay b->AL E id (.row cells elem st n)=ay b:=fun b hv=>by simp[AL,he,hv]
  exact ⟨v,xs,hE _ _ he,FT h1 fun b hv=>hb b (ho b hv),h2.le hH hE,fun b hv=>⟨hm b (ho b hv),(h3 b hv).2⟩⟩
 |own elem st n g=>
  obtain ⟨v,xs,he,h1,h2,h3⟩:=h;have ho:∀b,Ah v=ay b->AL E id (.own elem st n g)=ay b:=fun b hv=>by simp[AL,he,hv]
  exact ⟨v,xs,hE _ _ he,FT h1 fun b hv=>hb b (ho b hv),h2.le hH,fun b hv=>⟨hm b (ho b hv),(h3 b hv).2⟩⟩
 |fz st n g=>
  obtain ⟨v,he,h1⟩:=h;exact ⟨v,hE _ _ he,h1.le hH⟩
 |map es=>
  obtain ⟨b,ms,clk,he,h1,h2,h3⟩:=h;have ho:AL E id (.map es)=ay b:=by simp[AL,he,Ah]
  exact ⟨b,ms,clk,hE _ _ he,by rw[hb b ho];exact h1,h2.le hH hE,hm b ho,h3.2⟩
 |QI l=>
  obtain ⟨v,he,h1⟩:=h;exact ⟨v,hE _ _ he,h1.le hH⟩
 |Gx elem st n g more=>
  obtain ⟨v,xs,ys,he,h1,h2,h3,h4,h5,h6⟩:=h;have ho:∀b,Ah v=ay b->AL E id (.Gx elem st n g more)=ay b:=fun b hv=>by simp[AL,he,hv]
  exact ⟨v,xs,ys,hE _ _ he,FT h1 fun b hv=>hb b (ho b hv),h2.le hH,h3.le hH hE,h4,h5,fun b hv=>⟨hm b (ho b hv),(h6 b hv).2⟩⟩
 |fm k M fs us tag=>
  obtain ⟨b,ms,clk,fv,uv,he,h1,h2,h3,h4,h5,h6,h7⟩:=h;have ho:AL E id (.fm k M fs us tag)=ay b:=by simp[AL,he,Ah]
  exact ⟨b,ms,clk,fv,uv,hE _ _ he,by rw[hb b ho];exact h1,h2.le hH hE,h3.le hH hE,h4,h5,h6.le hE,hm b ho,h7.2⟩
 |pm vt M us=>
  obtain ⟨b,ms,clk,uv,he,h1,h2,h3,h4,h5,h7⟩:=h;have ho:AL E id (.pm vt M us)=ay b:=by simp[AL,he,Ah]
  exact ⟨b,ms,clk,uv,hE _ _ he,by rw[hb b ho];exact h1,h2.le hH hE,h3,h4,h5,hm b ho,h7.2⟩
 |buf e l=>
  obtain ⟨v,he,h1,h3⟩:=h;have ho:∀b,Ah v=ay b->AL E id (.buf e l)=ay b:=fun b hv=>by simp[AL,he,hv]
  exact ⟨v,hE _ _ he,acz h1 fun b hv=>hb b (ho b hv),fun b hv=>⟨hm b (ho b hv),(h3 b hv).2⟩⟩
theorem Gg.lt{id:Nat}{sb:SB}(h:Gg K H E w id sb){b:Nat}(hb:AL E id sb=ay b):b<w.heap.size/\Mine K H b:=by
 have lt:∀{b:Nat} {o:Obj},w.heap[b]?=ay o->b<w.heap.size:=fun h=>(bG.1 h).1;have lto:∀{elem st n:Nat} {v:Value} {xs:List Value},w.ownsRow 0 elem st v n xs->Ah v=ay b->b<w.heap.size:=by
  intro elem st n v xs h hv;rcases h.2 with ⟨rfl,_⟩ |⟨g,_,_,rfl,_,h4,_⟩
  ·simp[Ah] at hv
  ·simp[Ah] at hv;subst hv;exact lt h4
 cases sb with
 |box cells elem=>
  obtain ⟨b',cs,he,h1,h2,h3⟩:=h;simp[AL,he,Ah] at hb;subst hb;exact ⟨lt h1,h3⟩
 |row cells elem st n=>
  obtain ⟨v,xs,he,h1,h2,h3⟩:=h;simp[AL,he] at hb;exact ⟨lto h1 hb,h3 b hb⟩
 |own elem st n g=>
  obtain ⟨v,xs,he,h1,h2,h3⟩:=h;simp[AL,he] at hb;exact ⟨lto h1 hb,h3 b hb⟩
 |fz st n g=>simp[AL] at hb |map es=>
  obtain ⟨b',ms,clk,he,h1,h2,h3⟩:=h;simp[AL,he,Ah] at hb;subst hb;exact ⟨lt h1,h3⟩
 |QI l=>simp[AL] at hb |Gx elem st n g more=>
  obtain ⟨v,xs,ys,he,h1,h2,h3,h4,h5,h6⟩:=h;simp[AL,he] at hb;exact ⟨lto h1 hb,h6 b hb⟩
 |fm k M fs us tag=>
  obtain ⟨b',ms,clk,fv,uv,he,h1,h2,h3,h4,h5,h6,h7⟩:=h;simp[AL,he,Ah] at hb;subst hb;exact ⟨lt h1,h7⟩
 |pm vt M us=>
  obtain ⟨b',ms,clk,uv,he,h1,h2,h3,h4,h5,h7⟩:=h;simp[AL,he,Ah] at hb;subst hb;exact ⟨lt h1,h7⟩
 |buf e l=>
  obtain ⟨v,he,h1,h3⟩:=h;simp[AL,he] at hb;exact ⟨afB h1 hb,h3 b hb⟩
theorem Gh{id b:Nat}{sb:SB}(h:AL E id sb=ay b):bk E id=ay b:=by
 cases sb<;>simp[AL] at h<;>simpa[bk] using h
theorem ZF{id b:Nat}{sb:SB}(h:AL E id sb=ay b)(hE:E.le E'):AL E' id sb=ay b:=by
 have key:(E id).bind Ah=ay b->(E' id).bind Ah=ay b:=fun h=>by
  cases he:E id with
  |none=>simp[he] at h |some v=>rw[hE _ _ he];simpa[he] using h
 cases sb<;>simp only[AL] at h ⊢
 all_goals first|exact key h|cases h
theorem Gg.some_{id:Nat}{sb:SB}(h:Gg K H E w id sb):∃v,E id=ay v:=by
 cases sb with
 |box _ _=>obtain ⟨b,_,he,_⟩:=h;exact ⟨_,he⟩ |row _ _ _ _=>obtain ⟨v,_,he,_⟩:=h;exact ⟨_,he⟩ |own _ _ _ _=>obtain ⟨v,_,he,_⟩:=h;exact ⟨_,he⟩ |fz _ _ _=>obtain ⟨v,he,_⟩:=h;exact ⟨_,he⟩ |map _=>obtain ⟨b,_,_,he,_⟩:=h;exact ⟨_,he⟩ |QI _=>obtain ⟨v,he,_⟩:=h;exact ⟨_,he⟩ |Gx _ _ _ _ _=>obtain ⟨v,_,_,he,_⟩:=h;exact ⟨_,he⟩ |fm _ _ _ _ _=>obtain ⟨b,_,_,_,_,he,_⟩:=h;exact ⟨_,he⟩ |pm _ _ _=>obtain ⟨b,_,_,_,he,_⟩:=h;exact ⟨_,he⟩ |buf _ _=>obtain ⟨v,he,_⟩:=h;exact ⟨_,he⟩
theorem Gi{id:Nat}{sb:SB}(h:Gg K H E w id sb)(hE:E.le E'):AL E' id sb=AL E id sb:=by
 obtain ⟨v,he⟩:=h.some_;have he':=hE _ _ he;cases sb<;>simp[AL,he,he']
theorem Es{α:Type}:∀(l:List (Nat×α)) (i j:Nat) (y:α),zX (hset l i y) j=bif i==j then (zX l i).map (fun _=>y) else zX l j
 |[],i,j,y=>by cases h:(i==j)<;>simp[hset,zX] |(k,x)::l,i,j,y=>by
  have ih:=Es l i j y;unfold hset;cases hki:(k==i)<;>simp only[cond_true,cond_false]
  ·simp only[zX,hki,cond_false]
   rw[ih];cases hij:(i==j)<;>simp only[cond_true,cond_false]
   ·obtain rfl:i=j:=by simpa using hij
    simp[hki]
  ·obtain rfl:k=i:=by simpa using hki
   cases hij:(k==j)<;>simp[zX,hij]
theorem EC{α:Type}:∀(l:List (Nat×α)) (i j:Nat) (y:α),zX (hins l i y) j=bif i==j then ay y else zX l j
 |[],i,j,y=>by cases h:(i==j)<;>simp[hins,zX,h] |(k,x)::l,i,j,y=>by
  have ih:=EC l i j y;unfold hins;cases hk:fV k i<;>simp only[cond_true,cond_false]
  ·simp only[zX]
  ·simp only[zX,ih]
   cases hkj:(k==j)<;>cases hij:(i==j)<;>simp
   have:k=i:=by
    have e1:k=j:=by simpa using hkj
    have e2:i=j:=by simpa using hij
    rw[e1,e2]
   have:=EO hk;omega
theorem Ut{α:Type}:∀(l:List (Nat×α)) (i j:Nat),zX (hdel l i) j=bif i==j then aK else zX l j
 |[],i,j=>by cases h:(i==j)<;>simp[hdel,zX] |(k,x)::l,i,j=>by
  have ih:=Ut l i j;unfold hdel;cases hki:(k==i)<;>simp only[cond_true,cond_false]
  ·simp only[zX,ih]
   cases hkj:(k==j)<;>cases hij:(i==j)<;>simp
   have e1:k=j:=by simpa using hkj
   have e2:i=j:=by simpa using hij
   rw[e1,e2] at hki;simp at hki
  ·obtain rfl:k=i:=by simpa using hki
   rw[ih];cases hij:(k==j)<;>simp[zX,hij]
def Env.set(E:Env)(i:Nat)(v:Value):Env:=fun j=>if j=i then ay v else E j
theorem Env.aei{i:Nat}{v:Value}(h:E i=aK):E.le (E.set i v):=fun j u hj=>by
 unfold Env.set;split
 ·rename_i e;subst e;rw[h] at hj;cases hj
 ·exact hj
theorem Env.set_self(E:Env)(i:Nat)(v:Value):E.set i v i=ay v:=by simp[Env.set]
theorem H9(w:World)(o:Obj):(w.alloc o).heap[w.heap.size]?=ay o:=heap_alloc_new w o
theorem size_alloc(w:World)(o:Obj):(w.alloc o).heap.size=w.heap.size+1:=by simp
theorem DX.alloc(h:DX K H w)(o:Obj):DX K H (w.alloc o):=
 ⟨h.os,h.tape,h.output,by rw[size_alloc];have:=h.size;omega,fun b hb hn=>by rw[lq w o b (by have:=h.size;omega)];exact h.kept b hb hn,
  fun b o' hb=>by
   have:=h.on b o' hb;rw[lq w o b (bG.1 this).1];exact this,h.le,h.fresh⟩
theorem amK(h:DX K H w):H w.heap.size=aK:=by
 cases hb:H w.heap.size with
 |none=>rfl |some o=>have:=(bG.1 (h.on _ _ hb)).1;omega
theorem Jd(h:DX K H w):Mine K H w.heap.size:=⟨amK h,.inl h.size⟩
theorem Gz{c:Core}{sb:SB}{sv:SV}{φ:SV×Core->Prop}{o:Obj}{v:Value}(hh:Ai K H E w c.hp)(hw:DX K H w)(hf:Free E c)
  (h:(alloc c sb sv).All φ) (hv:Ah v=ay w.heap.size) (he:Gg K H (E.set c.nx v) (w.alloc o) c.nx sb) :
  ∃c',φ (sv,c')/\Post K H E w c H (E.set c.nx v) (w.alloc o) c':=by
 unfold alloc at h;cases hb:fV c.nx c.lim<;>simp only[hb,cond_true,cond_false] at h
 ·exact h.elim
 have hlt:=EO hb;have hnone:=hf c.nx (dh _) hlt;have hle:E.le (E.set c.nx v):=Env.aei hnone;refine ⟨_,h,fun _ _ e=>e,hle,?_,by simp,.inl (by simp;omega),rfl,rfl,?_,hw.alloc o,fun _ h=>h,by rw[size_alloc];omega,fun b hb _=>lq w o b hb,?_,?_,?_,?_⟩
 ·intro i h1 h2
  by_cases e:i=c.nx
  ·subst e;simp
  ·simp[Env.set,e,h1] at h2
 ·refine ⟨fun id sb' hl=>?_,fun id id' sb1 VL b h1 h2 o1 o2=>?_⟩
  ·rw[EC] at hl
   cases hid:(c.nx==id)<;>simp only[hid,cond_true,cond_false] at hl
   ·have hent:=hh.ent id sb' hl
    exact hent.kept (fun _ _ e=>e) hle (fun b hb=>lq w o b (hent.lt hb).1) (fun b hb=>(hent.lt hb).2.1)
   ·cases hl
    obtain rfl:c.nx=id:=by simpa using hid
    exact he
  ·rw[EC] at h1 h2
   cases hid:(c.nx==id)<;>cases TS:(c.nx==id')<;>simp only[hid,TS,cond_true,cond_false] at h1 h2
   ·rw[Gi (hh.ent _ _ h1) hle] at o1
    rw[Gi (hh.ent _ _ h2) hle] at o2;exact hh.FQ _ _ _ _ _ h1 h2 o1 o2
   ·obtain rfl:c.nx=id':=by simpa using TS
    rw[Gi (hh.ent _ _ h1) hle] at o1;have e2:=Gh o2;simp[bk,Env.set,hv] at e2;have:=((hh.ent _ _ h1).lt o1).1;omega
   ·obtain rfl:c.nx=id:=by simpa using hid
    rw[Gi (hh.ent _ _ h2) hle] at o2;have e1:=Gh o1;simp[bk,Env.set,hv] at e1;have:=((hh.ent _ _ h2).lt o2).1;omega
   ·have e1:c.nx=id:=by simpa using hid
    have e2:c.nx=id':=by simpa using TS
    rw[<-e1,<-e2]
 ·intro i b h1 h2
  by_cases e:i=c.nx
  ·subst e
   simp[bk,Env.set,hv] at h2;exact .inl (by omega)
  ·simp[bk,Env.set,e,h1] at h2
 ·exact fun _ h=>.inl h
 ·intro id sb' b hl _ ho
  refine .inr ⟨sb',?_,ZF ho hle⟩;simp only[EC];cases hid:(c.nx==id)<;>simp only[cond_true,cond_false]
  ·exact hl
  ·obtain rfl:c.nx=id:=by simpa using hid
   obtain ⟨u,hu⟩:=(hh.ent _ _ hl).some_;rw[hnone] at hu;cases hu
 ·intro id sb' hl hne
  simp only[EC] at hl;cases hid:(c.nx==id)<;>simp only[hid,cond_true,cond_false] at hl
  ·exact ⟨sb',hl,fun b ho=>by rw[Gi (hh.ent _ _ hl) hle] at ho;exact ho⟩
  ·obtain rfl:c.nx=id:=by simpa using hid
   exact (hne hnone).elim
def G7(P:Program)(K:Kx)(H:Mem)(E:Env)(w:World)(c:Core)(a:Act)(o:Oper)(φ:SV×Core->Prop):Prop:=
 ∃(p:SV×Core) (v:Value) (r:Next) (H':Mem) (E':Env) (w':World),φ p/\Den H' E' p.1 v/\Post K H E w c H' E' w' p.2/\(r=.value v\/(r=.skip/\v=undef))/\(execOp a.eval o).run P w=.ok r w'
theorem Post.refl{c:Core}(hh:Ai K H E w c.hp)(hw:DX K H w):Post K H E w c H E w c:=
 ⟨fun _ _ e=>e,fun _ _ e=>e,fun _ h1 h2=>(h2 h1).elim,dh _,.inr rfl,rfl,rfl,hh,hw,fun _ h=>h,dh _,fun _ _ _=>rfl,fun i b h1 h2=>by simp[bk,h1] at h2,fun _ h=>.inl h,fun id sb b h1 _ h3=>.inr ⟨sb,h1,h3⟩,fun id sb h _=>⟨sb,h,fun _ h=>h⟩⟩
theorem Vx.toW{c:Core}{a:Act}{o:Oper}{φ:SV×Core->Prop}(h:Vx P H E w c a o φ)(hh:Ai K H E w c.hp)(hw:DX K H w):G7 P K H E w c a o φ:=by
 obtain ⟨p,v,h1,h2,h3,h4⟩:=h;exact ⟨p,v,_,H,E,w,h1,h3,by rw[h2];exact Post.refl hh hw,.inl rfl,h4 w (Uj.refl _ _ _ _) hw.on⟩
theorem amL{c:Core}{a:Act}{o:Oper}{e:Nat}{φ:SV×Core->Prop}(hC:A8 P C)(hh:Ai K H E w c.hp)(hw:DX K H w)(hf:Free E c)
  (ho:o.op=.alloc e) (h:(Ud C c e).All φ):G7 P K H E w c a o φ:=by
 unfold Ud at h;split at h
 ·rename_i i hi
  obtain ⟨z,h1,h2,h3⟩:=akV (hC.ty _ _ hi) w;have h2':Af H (E.set c.nx (.pointer (ay ⟨w.heap.size,0,aK⟩))) i.zero z.cells.toList:=h2.le (fun _ _ e=>by cases e) (fun _ _ e=>by cases e);obtain ⟨c',hφ,hp⟩:=Gz (o:=.cells z.cells e) (v:=.pointer (ay ⟨w.heap.size,0,aK⟩)) hh hw hf h rfl
   ⟨w.heap.size,z.cells,Env.set_self _ _ _,H9 _ _,h2',Jd hw⟩
  refine ⟨_,_,_,H,_,_,hφ,⟨w.heap.size,by simp[Env.set_self,Ah],rfl⟩,hp,.inl rfl,?_⟩;simp[execOp,ho,Instr.alloc,h1,newVar,newRow]
 ·exact h.elim
theorem aso{c:Core}{a:Act}{o:Oper}{e:Nat}{x:Operand}{φ:SV×Core->Prop}(hd:Af H E c.tm a.tmps.toList)(hh:Ai K H E w c.hp)(hw:DX K H w)(hf:Free E c)
  (ho:o.op=.box e x) (h:(bif (Bd c.tm x).Zi then alloc c (.box (Bd c.tm x).cells e) (.ptr c.nx 0) else .fail).All φ):G7 P K H E w c a o φ:=by
 cases hk:(Bd c.tm x).Zi<;>simp only[hk,cond_true,cond_false] at h
 ·exact h.elim
 have hx:=N7 hk (AV (H:=H) (E:=E) hd x);have hx':c.nx<c.lim->Af H (E.set c.nx (.pointer (ay ⟨w.heap.size,0,aK⟩))) (Bd c.tm x).cells (a.eval x).cells.toList:=fun hl=>hx.le (fun _ _ e=>e) (Env.aei (hf _ (dh _) hl));have hl:c.nx<c.lim:=by
  unfold alloc at h;cases hb:fV c.nx c.lim<;>simp only[hb,cond_true,cond_false] at h
  ·exact h.elim
  ·exact EO hb
 obtain ⟨c',hφ,hp⟩:=Gz (o:=.cells (a.eval x).cells e) (v:=.pointer (ay ⟨w.heap.size,0,aK⟩)) hh hw hf h rfl
  ⟨w.heap.size,_,Env.set_self _ _ _,H9 _ _,hx' hl,Jd hw⟩
 refine ⟨_,_,_,H,_,_,hφ,⟨w.heap.size,by simp[Env.set_self,Ah],rfl⟩,hp,.inl rfl,?_⟩;simp[execOp,ho,Instr.box,newVar,newRow]
theorem VN{H:Mem}{E:Env}:∀l:List Int,F8 H E (afk l) (l.map fun n=>(n,aK))
 |[]=>trivial |_::l=>⟨rfl,trivial,VN l⟩
theorem ah6{c:Core}{a:Act}{o:Oper}{t:Nat}{φ:SV×Core->Prop}(hh:Ai K H E w c.hp)(hw:DX K H w)(hf:Free E c)
  (ho:o.op=.makeMap t aK) (h:(PE C c t).All φ):G7 P K H E w c a o φ:=by
 unfold PE at h;split at h
 ·rename_i k l _
  obtain ⟨c',hφ,hp⟩:=Gz (o:=.map #[] 0) (v:=.map (ay w.heap.size)) hh hw hf h rfl
   ⟨w.heap.size,#[],0,l.map fun n=>(n,aK),[],Env.set_self _ _ _,H9 _ _,VN l,trivial,fun n o hm=>by
    obtain ⟨_,_,e⟩:=List.mem_map.1 hm;cases e;rfl,⟨fun m hm=>by simp at hm,fun n=>rfl,fun i j m m' hm=>by simp at hm,fun i j m m' hm=>by simp at hm,fun m hm=>by simp at hm⟩,trivial,Jd hw⟩
  refine ⟨_,_,_,H,_,_,hφ,⟨w.heap.size,Env.set_self _ _ _,rfl⟩,hp,.inl rfl,?_⟩;simp[execOp,ho,pW]
 ·split at h
  ·rename_i vt _
   obtain ⟨c',hφ,hp⟩:=Gz (o:=.map #[] 0) (v:=.map (ay w.heap.size)) hh hw hf h rfl
    ⟨w.heap.size,#[],0,[],Env.set_self _ _ _,H9 _ _,trivial,(fun _ _ h=>by cases h),(fun _ h=>by cases h),⟨fun m hm=>by simp at hm,fun m hm=>by simp at hm,(fun n v hn=>by cases hn),fun i j m m' hm=>by simp at hm⟩,Jd hw⟩
   refine ⟨_,_,_,H,_,_,hφ,⟨w.heap.size,Env.set_self _ _ _,rfl⟩,hp,.inl rfl,?_⟩;simp[execOp,ho,pW]
  ·obtain ⟨c',hφ,hp⟩:=Gz (o:=.map #[] 0) (v:=.map (ay w.heap.size)) hh hw hf h rfl
    ⟨w.heap.size,#[],0,Env.set_self _ _ _,H9 _ _,trivial,Jd hw⟩
   refine ⟨_,_,_,H,_,_,hφ,⟨w.heap.size,Env.set_self _ _ _,rfl⟩,hp,.inl rfl,?_⟩;simp[execOp,ho,pW]
end
section
variable{P:Program}{C:Ctx}{K:Kx}{H H':Mem}{E E':Env}{w w':World}
theorem Af.NZ:∀{l:List SV} {vs:List Value},vs.length=l.length->(∀(j:Nat) (s:SV) (v:Value),l[j]?=ay s->vs[j]?=ay v->Den H E s v)->Af H E l vs
 |[],[],_,_=>trivial |_::_,_::_,hl,h=>⟨h 0 _ _ rfl rfl,Af.NZ (by simpa using hl) fun j s v h1 h2=>h (j+1) s v (by simpa using h1) (by simpa using h2)⟩ |[],_::_,h,_=>by simp at h |_::_,[],h,_=>by simp at h
theorem aai:∀(xs z:List SV) (off j:Nat),off+xs.length<=z.length->(setAt z off xs)[j]?=if off<=j/\j<off+xs.length then xs[j - off]? else z[j]?
 |[],z,off,j,_=>by simp[setAt];omega |x::xs,z,off,j,h=>by
  rw[setAt,aai xs _ (off+1) j (by simp at h ⊢;omega)];simp only[List.length_cons] at h ⊢;by_cases h1:off+1<=j/\j<off+1+xs.length
  ·rw[if_pos h1,if_pos (by omega)]
   have:j - off=(j - (off+1))+1:=by omega
   rw[this,List.getElem?_cons_succ]
  ·rw[if_neg h1]
   by_cases h2:j=off
   ·subst h2
    rw[if_pos (by omega),List.getElem?_set_self (by omega)];simp
   ·rw[if_neg (by omega),List.getElem?_set_ne (by omega)]
theorem KE(cs vs:List Value)(off j:Nat)(h:off+vs.length<=cs.length):(cs.take off++vs++cs.drop (off+vs.length))[j]?=if off<=j/\j<off+vs.length then vs[j - off]? else cs[j]?:=by
 have h1:(cs.take off).length=off:=by rw[bZ];omega
 rw[List.append_assoc,kG,h1];split
 ·rw[bY,if_pos (by assumption),if_neg (by omega)]
 ·rw[kG]
  split
  ·rw[if_pos (by omega)]
  ·rw[if_neg (by omega),eH]
   congr 1;omega
theorem Gp(cs vs:List Value)(off:Nat)(h:off+vs.length<=cs.length):(cs.take off++vs++cs.drop (off+vs.length)).length=cs.length:=by
 simp[bZ,dQ];omega
theorem YE{cells l:List SV}{cs vs:List Value}{off:Nat}(h1:Af H E cells cs)(h2:Af H E l vs)(h:off+l.length<=cells.length):
  Af H E (setAt cells off l) (cs.take off++vs++cs.drop (off+vs.length)):=by
 have e1:=h1.length;have e2:=h2.length;refine Af.NZ (by rw[Gp _ _ _ (by omega),N8];exact e1) fun j s v hs hv=>?_
 rw[aai _ _ _ _ h] at hs;rw[KE _ _ _ _ (by omega)] at hv;rw[e2] at hv;split at hs
 ·rw[if_pos (by assumption)] at hv
  exact h2.at_ hs hv
 ·rw[if_neg (by assumption)] at hv
  exact h1.at_ hs hv
theorem VO(cur vs:List Value)(off m:Nat)(h:off+vs.length<=m)(hm:m<=cur.length):
  (cur.take off++vs++cur.drop (off+vs.length)).take m=(cur.take m).take off++vs++(cur.take m).drop (off+vs.length):=by
 apply List.ext_getElem?;intro j;rw[bY,KE _ _ _ _ (by omega),KE _ _ _ _ (by rw[bZ];omega),bY];by_cases hj:j<m
 ·simp[hj]
 ·simp only[hj,if_false]
  rw[if_neg (by omega)]
theorem JU{c:Core}{id b:Nat}{sb sb':SB}(hh:Ai K H E w c.hp)(hw:DX K H w)(hl:zX c.hp id=ay sb)(hb:AL E id sb=ay b)
  (hother:∀k,k≠b->w'.heap[k]?=w.heap[k]?) (hsz:w'.heap.size=w.heap.size) (hos:w'.os=w.os) (htape:w'.tape=w.tape) (hout:w'.output=w.output)
  (he:Gg K H E w' id sb') (hb':AL E id sb'=ay b):Post K H E w c H E w' {c with hp:=hset c.hp id sb',tc:=id::c.tc}:=by
 have ER:=((hh.ent _ _ hl).lt hb);refine ⟨fun _ _ e=>e,fun _ _ e=>e,fun _ h1 h2=>(h2 h1).elim,dh _,.inr rfl,rfl,rfl,?_,?_,fun _ h=>dw _ h,by omega,?_,fun i b h1 h2=>by simp[bk,h1] at h2,?_,?_,?_⟩
 ·refine ⟨fun id2 VL hl2=>?_,fun id1 id2 sb1 VL b0 h1 h2 o1 o2=>?_⟩
  ·rw[Es] at hl2
   cases hid:(id==id2)<;>simp only[hid,cond_true,cond_false] at hl2
   ·have hent:=hh.ent _ _ hl2
    refine hent.kept (fun _ _ e=>e) (fun _ _ e=>e) (fun b0 hb0=>hother b0 fun e=>?_) fun b0 hb0=>(hent.lt hb0).2.1;subst e;have:=hh.FQ _ _ _ _ _ hl hl2 hb hb0;subst this;simp at hid
   ·obtain rfl:id=id2:=by simpa using hid
    rw[hl] at hl2;cases hl2;exact he
  ·have conv:∀{i:Nat} {s:SB},zX (hset c.hp id sb') i=ay s->AL E i s=ay b0->∃s',zX c.hp i=ay s'/\AL E i s'=ay b0:=by
    intro i s h o;rw[Es] at h;cases hid:(id==i)<;>simp only[hid,cond_true,cond_false] at h
    ·exact ⟨s,h,o⟩
    ·obtain rfl:id=i:=by simpa using hid
     rw[hl] at h;cases h;rw[hb'] at o;cases o;exact ⟨sb,hl,hb⟩
   obtain ⟨s1,a1,a2⟩:=conv h1 o1;obtain ⟨s2,a3,a4⟩:=conv h2 o2;exact hh.FQ _ _ _ _ _ a1 a3 a2 a4
 ·refine ⟨hos.trans hw.os,htape.trans hw.tape,hout.trans hw.output,by have:=hw.size;omega,fun k hk hn=>?_,fun k o hk=>?_,hw.le,hw.fresh⟩
  ·rw[hother k fun e=>?_]
   ·exact hw.kept k hk hn
   ·subst e
    rcases ER.2.2 with h|h
    ·omega
    ·exact hn h
  ·rw[hother k fun e=>?_]
   ·exact hw.on k o hk
   ·subst e
    rw[ER.2.1] at hk;cases hk
 ·intro k hk hne
  refine hother k fun e=>?_
  subst e;exact hne id (cu ..) (Gh hb)
 ·intro i hi
  cases hi with
  |head=>exact .inr (.inr ⟨sb,hl,hb.trans (Gh hb).symm⟩) |tail _ hi=>exact .inl hi
 ·intro i s0 b0 h1 h2 h3
  refine .inr ⟨s0,?_,h3⟩;simp only[Es];cases hid:(id==i)<;>simp only[cond_true,cond_false]
  ·exact h1
  ·obtain rfl:id=i:=by simpa using hid
   exact (h2 (cu ..)).elim
 ·intro i s0 h1 _
  simp only[Es] at h1;cases hid:(id==i)<;>simp only[hid,cond_true,cond_false] at h1
  ·exact ⟨s0,h1,fun _ h=>h⟩
  ·obtain rfl:id=i:=by simpa using hid
   rw[hl] at h1;cases h1;exact ⟨sb,hl,fun b0 h=>by rw[hb'] at h;cases h;exact hb⟩
theorem one_cell{x:SV}{u:Value}(h1:x.one=aC)(hd:Den H E x u):u.oneCell'=aC:=by
 cases x;case any=>simp[rD] at h1
 case agg l=>simp[rD] at h1
 case Aj l=>simp[rD] at h1
 case ev=>simp[rD] at h1
 case val v=>obtain ⟨rfl,h⟩:=hd;exact h
 case sh s=>
  have hd:Rep H s u:=hd;cases hd;case agg l vs a1 a2=>simp[rD] at h1
  case Aj l vs a1 a2=>simp[rD] at h1
  case v h=>exact h
  all_goals rfl
 all_goals first
  |(simp only[Den] at hd;subst hd;rfl)
  |(obtain ⟨_,_,rfl⟩:=hd;rfl)
  |(obtain ⟨_,_,_,_,rfl⟩:=hd;rfl)
  |(obtain ⟨_,_,_,_,_,rfl⟩:=hd;rfl)
  |(obtain ⟨_,rfl,_⟩:=hd;rfl)
  |(obtain ⟨_,_,_,rfl,_⟩:=hd;rfl)
theorem ES:∀{l:List SV} {vs:List Value},E8 l=aC->Af H E l vs->∀v∈vs,v.oneCell'=aC
 |[],[],_,_,_,h=>by cases h |x::l,v::vs,h,⟨h1,h2⟩,u,hu=>by
  simp only[E8,aH] at h;cases hu with
  |head=>exact one_cell h.1 h1 |tail _ hu=>exact ES h.2 h2 u hu
 |[],_::_,_,h,_,_=>h.elim |_::_,[],_,h,_,_=>h.elim
end
end Go.Sx
