/- Own work. -/
import Derived.Test.YtemojddccikgkaaGreatDoorB01
import Derived.LaidEql
import Derived.Lib.Strings
open Int (ofNat)
open Array renaming getElem?_eq_some_iff->aI,length_toList->br
open Bool renaming true->ah,and_eq_true->ak,false->ag
open ByteArray renaming size->iE,mk->jg
open Go.Addr renaming add_lit->bx
open Go.Builtin renaming len_->gG,max_->jY,min_->jZ,append_->bF,lenOf->gk,firstCells->cQ
open Go.Instr renaming indexAt->gE,sureAddr->dJ,fill->lV,findNow->be,sameNow->bC,checkKey->cC,lookup->cE,findKey->cg,findAsking->fH,makeMap->gH
open Go.Op renaming equal->b8,equalIn->bH
open Go.RowKit.Below renaming heap_alloc->d6
open Go.Sem renaming run_bind->ct,run->dQ
open Go.Sx.SV renaming okc->kX,one->jy
open Go.Value renaming oneCell'->da,cells->eS
open List renaming getD_cons_succ->iD,drop_drop->kh,toArray->fA,mem_cons_self->bj,mem_cons_of_mem->aZ,mem_of_getElem?->aT,getElem?_eq_some_iff->aJ,length_take->eb,length_drop->jz,getElem?_take->bU,getElem?_drop->cd,length_append->aY,getElem?_append_right->dS
open List.cons renaming injEq->gQ
open Nat renaming add_mul->gP,one_mul->gF,add_comm->lU,mul_le_mul_right->ba,le_refl->aV,ble->cq,le_of_ble_eq_true->cf,zero_add->cy,blt->bO,zero_le->cM,min_eq_left->gX
open Option renaming some->ae,none->ao,map_eq_some_iff->aP,bind_some->bB
open Option.some renaming injEq->dP
open Prod.mk renaming injEq->dK
namespace Go.Sx
section
variable{P:Program}{C:Ctx}{K:Kx}{H:Mem}{E:Env}{w:World}
theorem yF{x:SV}{n:Int}{u:Value}(h:yK x=ae n)(hd:Den H E x u):∃k,u=.int k n:=by
 cases x<;>simp[yK] at h
 all_goals (subst h;exact ⟨_,hd⟩)
theorem Nc{i:Int}{n:Nat}(h:mM.inB i n=ah):0<=i/\i<n:=by grind [mM]
theorem EL{elem st n:Nat}{v:Value}{xs:List Value}(h:w.ownsRow 0 elem st v n xs):lenV v=n:=by
 rcases h.2 with ⟨rfl,rfl⟩ |⟨_,_,_,rfl,_⟩<;>rfl
theorem WJ{elem st n:Nat}{v:Value}{xs:List Value}(h:w.ownsRow 0 elem st v n xs)(hn:0<n):∃b cap,v=.slice (ae ⟨b,0,ao⟩) n cap/\nH v=ae b:=by
 rcases h.2 with ⟨rfl,rfl⟩ |⟨b,cap,_,rfl,_⟩
 ·omega
 ·exact ⟨b,cap,rfl,rfl⟩
theorem Jg{t e:Nat}{te:BQ}(hu:P.underlying t=ae (.slice e))(hte:Gl P e te){a:Addr}{n cap:Nat}{k:IntKind}{i:Int}(h0:0<=i)(h1:i<n)(w:World):
  (gE t (.slice (ae a) n cap) (.int k i)).run P w=.ok (.pointer (ae (a.add (i.toNat*te.size)))) w:=by
 simp[gE,asIntOf,run_underlying hu,h0,h1,AL hte]
theorem OJ{x:SV}{n:Int}(h:yK x=ae n):aii mM n x=n.toNat:=by
 cases x<;>simp[yK] at h
 ·subst h;rfl
 ·rfl
theorem UD{c:Core}{a:Act}{o:Oper}{t e:Nat}{te:BQ}{x y:Operand}{φ:SV×Core->Prop}{m:Nat}{g:Nat->List Sh}{n:Int}{k:IntKind}(hu:P.underlying t=ae (.slice e))(hte:Gl P e te)
  (ho:o.op=.indexAddr t x y) (dx:Rep H (.sl te.size m g) (a.eval x)) (ey:a.eval y=.int k n) (h0:0<=n) (h1:n<m) (h:φ (.yD te.size m g n.toNat 0,c)):QP P H E c a o φ:=by
 generalize hu':a.eval x=u at dx;cases dx with
 |sl0 _ _ A cap hc=>omega |sl _ _ _ b off cap cc a1 a2 a3 a4 a5 a6=>
  refine ⟨_,.pointer (ae ⟨b,off+n.toNat*te.size,ao⟩),h,rfl,⟨b,off+n.toNat*te.size,cc n.toNat,rfl,by omega,a3 _ (by omega),fun j hj=>⟨?_,a5 _ _ (by omega) hj⟩,fun j s hs=>a6 _ _ _ (by omega) hs⟩,fun w'=>?_⟩
  ·simp_all
  ·have:=Jg (P:=P) hu hte (a:=⟨b,off,ao⟩) (n:=m) (cap:=cap) (k:=k) h0 h1 w'
   simp_all [execOp,bx]
theorem UE{φ:SV×Core->Prop}{n:Int}{f:Nat->Tree (SV×Core)}{m:Nat}:∀{k:Nat},k<=m->(m:Int) - k<=n->n<m->(aga mM n f m k).All φ->∃i:Nat,n=i/\i<m/\(f i).All φ
 |0,_,h1,h2,_=>by omega |k+1,hk,h1,h2,h=>by
  obtain ⟨ha,hb⟩:=h;by_cases e:n=ofNat (m - (k+1))
  ·grind [mM]
  ·refine UE (k:=k) (by omega) ?_ h2 (hb (by grind [mM]))
   grind
theorem UF(st:Nat):∀(n:Nat) (l:List Sh) (i:Nat),i<n->nM (chunks st n l) i=(l.drop (i*st)).take st
 |n+1,l,0,_=>by simp[nM,chunks] |n+1,l,i+1,h=>by
  have ih:=UF st n (l.drop st) i (by omega);simp only[nM,chunks,iD] at ih ⊢;simp_all [kh,gP,gF,lU]
theorem Qj{c:Core}{a:Act}{o:Oper}{t e m:Nat}{te:BQ}{x y:Operand}{φ:SV×Core->Prop}{g:Nat}{l:List Sh}{n:Int}{k:IntKind}(hu:P.underlying t=ae (.array m e))(hte:Gl P e te)
  (ho:o.op=.indexAddr t x y) (dx:Den H E (.glob g) (a.eval x)) (ey:Den H E (.int k n) (a.eval y)) (hgl:wV H g (.mX l)) (hl:l.length=m*te.size) (h0:0<=n) (h1:n<m)
  (h:φ (.yD te.size m (nM (chunks te.size m l)) n.toNat 0,c)):QP P H E c a o φ:=by
 obtain ⟨_,cc,g1,g2⟩:=hgl;have dx:a.eval x=.pointer (ae ⟨g,0,ao⟩):=dx;have ey:a.eval y=.int k n:=ey;have hlt:n.toNat*te.size+te.size<=m*te.size:=by
  calc n.toNat*te.size+te.size=(n.toNat+1)*te.size:=by grind
   _<=m*te.size:=ba _ (by omega)
 have hch:nM (chunks te.size m l) n.toNat=(l.drop (n.toNat*te.size)).take te.size:=UF _ _ _ _ (by omega);refine ⟨_,.pointer (ae ⟨g,n.toNat*te.size,ao⟩),h,rfl,⟨g,n.toNat*te.size,fun j=>cc (n.toNat*te.size+j),rfl,by omega,?_,fun j hj=>g1 _ (by omega),fun j s hs=>g2 _ _ ?_⟩,fun w'=>?_⟩
 ·grind
 ·grind
 ·simp[execOp,ho,dx,ey,gE,asIntOf,run_underlying hu,h0,h1,AL hte,dJ,bx]
theorem Qk{c:Core}{a:Act}{o:Oper}{t:Nat}{x y:Operand}{φ:SV×Core->Prop}(hC:oC P C)(ho:o.op=.indexAddr t x y)(hd:ni H E c.tm a.tmps.toList)
  (hh:nI K H E w c.hp) (hg:qE C.gls H) (h:(EZ C c t (oI c.tm x) (oI c.tm y)).All φ):QP P H E c a o φ:=by
 have dx:=ou (H:=H) (E:=E) hd x;have dy:=ou (H:=H) (E:=E) hd y;have hA:=hC.A;unfold EZ at h;split at h
 ·rename_i ti hti
  have ht:=(hC.ty _ _ hti).desc;split at h
  ·rename_i e hty
   rw[hty] at ht;split at h
   ·rename_i te hte
    have hte:=hC.ty _ _ hte;split at h
    ·rename_i id n hx hy
     rw[hx] at dx;obtain ⟨k,ey⟩:=yF hy dy;split at h
     ·
      rename_i cells el st m hl;split at h
      ·rename_i k2 n2 hy2
       cases hb:(decide (0<=n2)&&decide (n2<(m:Int))&&st==te.size)<;>simp only[hb,cond_true,cond_false] at h
       ·exact h.elim
       simp only[ak,decide_eq_true_eq,beq_iff_eq] at hb;obtain ⟨⟨h0,h1⟩,rfl⟩:=hb;rw[hy2] at dy;simp only[Den] at dy;obtain ⟨v,xs,he,hr,_,_⟩:=hh.ent _ _ hl;have dx2:E id=ae (a.eval x):=dx.1;rw[he] at dx2;cases dx2;obtain ⟨b,cap,hv,hbv⟩:=WJ hr (by omega);refine ⟨_,.pointer (ae ⟨b,n2.toNat*te.size,ao⟩),h,rfl,⟨b,by simp_all,rfl⟩,fun w'=>?_⟩;have:=Jg (P:=P) ht hte (a:=⟨b,0,ao⟩) (n:=m) (cap:=cap) (k:=k2) h0 h1 w';simp_all [execOp,bx]
      ·exact h.elim
     ·rename_i el st m g hl
      cases hb:(st==te.size)<;>simp only[hb,cond_true,cond_false] at h
      ·exact h.elim
      obtain rfl:st=te.size:=by grind
      obtain ⟨hin,hφ⟩:=h;rw[hA] at hin hφ;obtain ⟨h0,h1⟩:=Nc hin;obtain ⟨v,xs,he,hr,_,_⟩:=hh.ent _ _ hl;have dx2:E id=ae (a.eval x):=dx.1;rw[he] at dx2;cases dx2;obtain ⟨b,cap,hv,hbv⟩:=WJ hr (by omega);have hidx:=OJ hy;rw[hidx] at hφ;refine ⟨_,.pointer (ae ⟨b,n.toNat*te.size,ao⟩),hφ,rfl,⟨b,_,he,hbv,by rw[EL hr];omega,rfl⟩,fun w'=>?_⟩;have:=Jg (P:=P) ht hte (a:=⟨b,0,ao⟩) (n:=m) (cap:=cap) (k:=k) h0 h1 w';simp_all [execOp,bx]
     ·rename_i st m g hl
      cases hb:(st==te.size)<;>simp only[hb,cond_true,cond_false] at h
      ·exact h.elim
      obtain rfl:st=te.size:=by grind
      obtain ⟨hin,hφ⟩:=h;rw[hA] at hin hφ;obtain ⟨h0,h1⟩:=Nc hin;rw[OJ hy] at hφ;obtain ⟨v,he,hr⟩:=hh.ent _ _ hl;have dx2:E id=ae (a.eval x):=dx.1;rw[he] at dx2;cases dx2;exact UD ht hte ho hr ey h0 h1 hφ
     ·exact h.elim
    ·rename_i st m g n hx hy
     cases hb:(st==te.size)<;>simp only[hb,cond_true,cond_false] at h
     ·exact h.elim
     obtain rfl:st=te.size:=by grind
     obtain ⟨hin,hφ⟩:=h;rw[hA] at hin hφ;obtain ⟨h0,h1⟩:=Nc hin;rw[hx] at dx;obtain ⟨k,ey⟩:=yF hy dy;have hidx:=OJ hy;rw[hidx] at hφ;exact UD ht hte ho dx ey h0 h1 hφ
    ·exact h.elim
   ·exact h.elim
  ·rename_i m e hty
   rw[hty] at ht;split at h
   ·rename_i te hte
    have hte:=hC.ty _ _ hte;split at h
    ·rename_i g k n hx hy
     rw[hx] at dx;rw[hy] at dy;split at h
     ·rename_i l hl
      cases hb:(decide (0<=n)&&decide (n<(m:Int))&&l.length==m*te.size)<;>simp only[hb,cond_true,cond_false] at h
      ·exact h.elim
      simp only[ak,decide_eq_true_eq,beq_iff_eq] at hb;exact Qj ht hte ho dx dy (hg.at_ _ _ hl) hb.2 hb.1.1 hb.1.2 h
     ·exact h.elim
    ·rename_i g k n hx hy
     rw[hx] at dx;rw[hy] at dy;split at h
     ·rename_i l hl
      cases hb:(l.length==m*te.size)<;>simp only[hb,cond_true,cond_false] at h
      ·exact h.elim
      obtain ⟨hin,h⟩:=h;rw[hA] at hin h;obtain ⟨h0,h1⟩:=Nc hin;obtain ⟨i,hi,hi2,hq⟩:=UE (aV _) (by omega) h1 h;subst hi;exact Qj ht hte ho dx dy (hg.at_ _ _ hl) (by grind) h0 h1 (by assumption)
     ·exact h.elim
    ·exact h.elim
   ·exact h.elim
  ·exact h.elim
 ·exact h.elim
def Ql(op:BinOp)(k:IntKind)(a b:Int):Option Value:=
 match op with
 | .add=>ae (.int k (k.wrap (a+b))) | .sub=>ae (.int k (k.wrap (a - b))) | .mul=>ae (.int k (k.wrap (a*b))) | .eql=>ae (.bool (a==b)) | .neq=>ae (.bool (!(a==b))) | .lss=>ae (.bool (decide (a<b))) | .leq=>ae (.bool (decide (a<=b))) | .gtr=>ae (.bool (decide (b<a))) | .geq=>ae (.bool (decide (b<=a))) |_=>ao
theorem Qm{op:BinOp}{k:IntKind}{a b:Int}{v:Value}(h:Ql op k a b=ae v)(t:Nat)(x y:Operand)(w:World):
  (do eqGuard op t x y (.int k a) (.int k b);binOp op t (.int k a) (.int k b):Sem Value).run P w=.ok v w:=by
 cases op<;>simp[Ql] at h<;>subst h<;>simp[eqGuard_at_int,binOp,Op.intArith,Op.intCmp,bne]
theorem Jh{A:Prim}(hA:A=mM){op:BinOp}{k:IntKind}{a b:Int}{sv:SV}(h:orO ((PY A op k a b).map (.sym k)) ((adf A op a b).map .test)=ae sv):
  ∃v,Ql op k a b=ae v/\Den H E sv v:=by
 subst hA;cases op<;>simp[PY,adf,orO] at h<;>subst h<;>exact ⟨_,rfl,rfl⟩
theorem ZG{op:BinOp}{k:IntKind}{a b:Int}{sv:SV}(h:orO ((abx op k a b).map (.int k)) ((cmpL op a b).map .bool)=ae sv):
  ∃v,Ql op k a b=ae v/\Den H E sv v:=by
 cases op<;>simp[abx,cmpL,orO] at h<;>subst h<;>exact ⟨_,rfl,rfl⟩
theorem adr{t:Nat}(hu:P.underlying t=ae .bool)(a b:Bool)(w:World):(b8 t (.bool a) (.bool b)).run P w=.ok (a==b) w:=by
 have:∀d:Nat,(bH (d+1) t (.bool a) (.bool b)).run P w=.ok (a==b) w:=fun d=>by simp[bH,run_underlying hu]
 exact this 9999
theorem Nh{t:Nat}(hu:P.underlying t=ae .bool)(a b:Bool)(x y:Operand)(w:World):
  (do eqGuard .eql t x y (.bool a) (.bool b);binOp .eql t (.bool a) (.bool b):Sem Value).run P w=.ok (.bool (a==b)) w/\
  (do eqGuard .neq t x y (.bool a) (.bool b);binOp .neq t (.bool a) (.bool b):Sem Value).run P w=.ok (.bool (!(a==b))) w:=by
 simp_all [eqGuard_at_bool,binOp,adr]
theorem ZH(l:List UInt8):(⟨l.toArray⟩:ByteArray).toList=l:=Lib.toList_data _
theorem Qn(l l':List UInt8)(t:Nat)(x y:Operand)(w:World):
  (do eqGuard .eql t x y (.string ⟨l.toArray⟩) (.string ⟨l'.toArray⟩);binOp .eql t (.string ⟨l.toArray⟩) (.string ⟨l'.toArray⟩):Sem Value).run P w=.ok (.bool (l==l')) w/\
  (do eqGuard .neq t x y (.string ⟨l.toArray⟩) (.string ⟨l'.toArray⟩);binOp .neq t (.string ⟨l.toArray⟩) (.string ⟨l'.toArray⟩):Sem Value).run P w=.ok (.bool (!(l==l'))) w:=by
 simp_all [eqGuard_at_string,binOp,Op.stringOp]
theorem Ih{l:List UInt8}{v:Value}(h:Rep H (.str l) v):v=.string ⟨l.toArray⟩:=by
 cases h;rfl
theorem WL{A:Prim}(hA:A=mM){op:BinOp}{l l':List UInt8}{sv:SV}(h:eqS A op l l'=ae sv)(t:Nat)(x y:Operand):
  ∃r,Den H E sv r/\∀w,(do eqGuard op t x y (.string ⟨l.toArray⟩) (.string ⟨l'.toArray⟩);binOp op t (.string ⟨l.toArray⟩) (.string ⟨l'.toArray⟩):Sem Value).run P w=.ok r w:=by
 subst hA;cases op<;>simp[eqS] at h<;>subst h
 ·exact ⟨_,rfl,fun w=>(Qn l l' t x y w).1⟩
 ·exact ⟨_,rfl,fun w=>(Qn l l' t x y w).2⟩
theorem alF{A:Prim}(hA:A=mM){op:BinOp}{a b:Bool}{sv:SV}{t:Nat}(hu:P.underlying t=ae .bool)(h:eqB A op a b=ae sv)(x y:Operand):
  ∃r,Den H E sv r/\∀w,(do eqGuard op t x y (.bool a) (.bool b);binOp op t (.bool a) (.bool b):Sem Value).run P w=.ok r w:=by
 subst hA;cases op<;>simp[eqB] at h<;>subst h
 ·exact ⟨_,rfl,fun w=>(Nh hu a b x y w).1⟩
 ·exact ⟨_,rfl,fun w=>(Nh hu a b x y w).2⟩
theorem OL:∀{l:List SV} {ns:List Cq} {vs:List Value},GV l=ae ns->ni H E l vs->vs=ns.map Cq.v
 |[],_,[],h,_=>by simp_all [GV] |s::l,ns,v::vs,h,⟨hd,hr⟩=>by
  unfold GV at h;split at h
  ·simp_all
  all_goals first
   |(rename_i n r e
     cases e;cases hr2:GV l with
     |none=>grind |some m=>simp[hr2] at h;subst h;rw[OL hr2 hr];simp only[Den] at hd;subst hd;rfl)
   |cases h
 |[],_,_::_,_,h=>h.elim |_::_,_,[],_,h=>h.elim
theorem KU:∀{xs ys:List Cq} {z:List SV},qV xs z=ah->qV ys z=ah->I8 mM xs ys=decide (xs=ys)
 |[],[],_,_,_=>by simp[I8] | .i x::xs,.i y::ys,z,h1,h2=>by
  cases z with
  |nil=>simp[qV] at h1 |cons a z=>
   have h1':qV xs z=ah:=by
    unfold qV at h1;grind
   have h2':qV ys z=ah:=by
    unfold qV at h2;grind
   have ih:=KU h1' h2';simp only[I8,ih];show (bif x==y then decide (xs=ys) else ag)=_;grind
 | .b x::xs,.b y::ys,z,h1,h2=>by
  cases z with
  |nil=>simp[qV] at h1 |cons a z=>
   have h1':qV xs z=ah:=by
    unfold qV at h1;grind
   have h2':qV ys z=ah:=by
    unfold qV at h2;grind
   have ih:=KU h1' h2';simp only[I8,ih];show (bif x==y then decide (xs=ys) else ag)=_;grind
 | .i x::xs,.b y::ys,z,h1,h2=>by
  cases z with
  |nil=>simp[qV] at h1 |cons a z=>cases a<;>simp[qV] at h1 h2
 | .b x::xs,.i y::ys,z,h1,h2=>by
  cases z with
  |nil=>simp[qV] at h1 |cons a z=>cases a<;>simp[qV] at h1 h2
 |[],y::ys,z,h1,h2=>by
  grind [qV]
 |x::xs,[],z,h1,h2=>by
  grind [qV]
theorem ain{t:Nat}{ps rs:Array TypeId}{b:Bool}(hu:P.underlying t=ae (.func ps rs b))(f:Fn)(x y:Array Value)(w:World):
  (b8 t (.func f x y) .nilFunc).run P w=.ok ag w/\(b8 t .nilFunc .nilFunc).run P w=.ok ah w:=by
 have:∀d:Nat,(bH (d+1) t (.func f x y) .nilFunc).run P w=.ok ag w/\(bH (d+1) t .nilFunc .nilFunc).run P w=.ok ah w:=
  fun d=>by constructor<;>simp[bH,run_underlying hu]
 exact this 9999
theorem VY{t e:Nat}(hu:P.underlying t=ae (.pointer e))(a:Addr)(w:World):
  (b8 t (.pointer (ae a)) (.pointer ao)).run P w=.ok ag w/\(b8 t (.pointer ao) (.pointer ao)).run P w=.ok ah w:=by
 have:∀d:Nat,(bH (d+1) t (.pointer (ae a)) (.pointer ao)).run P w=.ok ag w/\(bH (d+1) t (.pointer ao) (.pointer ao)).run P w=.ok ah w:=
  fun d=>by constructor<;>simp[bH,run_underlying hu]
 exact this 9999
theorem Qo{t:Nat}{ms:Array (String×TypeId)}(hu:P.underlying t=ae (.interface ms))(d:Nat)(u:Value)(w:World):
  (b8 t (.iface d u) .nilIface).run P w=.ok ag w/\(b8 t .nilIface (.iface d u)).run P w=.ok ag w/\(b8 t .nilIface .nilIface).run P w=.ok ah w:=by
 have:∀n:Nat,(bH (n+1) t (.iface d u) .nilIface).run P w=.ok ag w/\(bH (n+1) t .nilIface (.iface d u)).run P w=.ok ag w/\(bH (n+1) t .nilIface .nilIface).run P w=.ok ah w:=
  fun n=>by refine ⟨?_,?_,?_⟩<;>simp[bH,run_underlying hu]
 exact this 9999
theorem tq{op:BinOp}{r:Bool}{sv:SV}{t:Nat}{u v:Value}{ox oy:Operand}(h:su op r=ae sv)(hg:eqGuard op t ox oy u v=pure ())
  (he:binOp .eql t u v=(do pure (.bool (<-b8 t u v)))) (hn:binOp .neq t u v=(do pure (.bool (!(<-b8 t u v))))) (hw:∀w,(b8 t u v).run P w=.ok r w) :
  ∃r,Den H E sv r/\∀w,(do eqGuard op t ox oy u v;binOp op t u v:Sem Value).run P w=.ok r w:=by
 cases op<;>simp[su] at h<;>subst h
 ·exact ⟨_,rfl,fun w=>by simp_all⟩
 ·exact ⟨_,rfl,fun w=>by simp_all⟩
theorem ads{T:Nat}{x:Sh}{u:Value}(h:Rep H (.qK T x) u):∃v,u=.iface T v:=by
 cases h;simp
theorem aio{g T:Nat}{u:Value}(h:Rep H (.er g T) u):∃T v,u=.iface T v:=by
 cases h;simp
theorem adt{g T:Nat}{u:Value}(h:Rep H (.er g T) u):∃v,u=.iface T v:=by
 cases h;simp
theorem abK{g T:Nat}{u v:Value}(h:Rep H (.er g T) u)(h':Rep H (.er g T) v):∃b,u=.iface T (.pointer (ae b))/\v=u:=by
 cases h with
 |er _ _ b cs e h1 h2=>
  cases h' with
  |er _ _ b' cs' e' h1' h2'=>
   simp_all
theorem ar6{t T e:Nat}{ms:Array (String×TypeId)}{inf ie:TypeInfo}(hu:P.underlying t=ae (.interface ms))(h1:P.info? T=ae inf)(h2:inf.comparable=ah)(h3:P.underlying T=ae (.pointer e))(h4:P.info? e=ae ie)(h5:ie.size≠0)(b:Addr)(w:World):
  (b8 t (.iface T (.pointer (ae b))) (.iface T (.pointer (ae b)))).run P w=.ok ah w:=by
 have:∀n:Nat,(bH (n+2) t (.iface T (.pointer (ae b))) (.iface T (.pointer (ae b)))).run P w=.ok ah w:=
  fun n=>by simp[bH,run_underlying hu,run_underlying h3,typeInfo,sizeOf,h1,h2,h4,sameAddr]
 exact this 9998
theorem adu{gls:List (Nat×Sh)}{g T:Nat}(h:aaf gls g T=ah):mQ gls g=ae (.er g T):=by
 grind [aaf]
theorem ZI{H:Mem}{g g' T:Nat}{u v:Value}(ha:hcell H g 0≠hcell H g' 0)(dx:Rep H (.er g T) u)(dy:Rep H (.er g' T) v):∃b b',u=.iface T (.pointer (ae b))/\v=.iface T (.pointer (ae b'))/\b≠b'/\
  (∃cs e,H b.block=ae (.cells cs e (0,0)))/\∃cs e,H b'.block=ae (.cells cs e (0,0)):=by
 cases dx with
 |er _ _ b cs e h1 h2=>
  cases dy with
  |er _ _ b' cs' e' h1' h2'=>simp_all
theorem ajF{t T e:Nat}{ms:Array (String×TypeId)}{inf ie:TypeInfo}(hu:P.underlying t=ae (.interface ms))(h1:P.info? T=ae inf)(h2:inf.comparable=ah)(h3:P.underlying T=ae (.pointer e))(h4:P.info? e=ae ie)(h5:ie.size≠0){b b':Addr}(hb:b≠b')(w:World)
  {cs cs':Array Value} {ec ec':TypeId} (g1:w.heap[b.block]?=ae (.cells cs ec (0,0))) (g2:w.heap[b'.block]?=ae (.cells cs' ec' (0,0))) :
  (b8 t (.iface T (.pointer (ae b))) (.iface T (.pointer (ae b')))).run P w=.ok ag w:=by
 have hs:=run_sameAddr_other (P:=P) w hb g1 g2;have:∀n:Nat,(bH (n+2) t (.iface T (.pointer (ae b))) (.iface T (.pointer (ae b')))).run P w=.ok ag w:=
  fun n=>by simp[bH,run_underlying hu,run_underlying h3,typeInfo,sizeOf,h1,h2,h4,h5,hs]
 exact this 9998
theorem adv{Pw:World->Prop}{op:BinOp}{r:Bool}{sv:SV}{t:Nat}{u v:Value}{ox oy:Operand}(h:su op r=ae sv)(hg:eqGuard op t ox oy u v=pure ())
  (he:binOp .eql t u v=(do pure (.bool (<-b8 t u v)))) (hn:binOp .neq t u v=(do pure (.bool (!(<-b8 t u v))))) (hw:∀w,Pw w->(b8 t u v).run P w=.ok r w) :
  ∃r,Den H E sv r/\∀w,Pw w->(do eqGuard op t ox oy u v;binOp op t u v:Sem Value).run P w=.ok r w:=by
 cases op<;>simp[su] at h<;>subst h
 ·exact ⟨_,rfl,fun w hp=>by simp_all⟩
 ·exact ⟨_,rfl,fun w hp=>by simp_all⟩
theorem WM{t T T':Nat}{ms:Array (String×TypeId)}(hu:P.underlying t=ae (.interface ms))(hT:T≠T')(u v:Value)(w:World):
  (b8 t (.iface T u) (.iface T' v)).run P w=.ok ag w:=by
 have:∀n:Nat,(bH (n+2) t (.iface T u) (.iface T' v)).run P w=.ok ag w:=
  fun n=>by simp[bH,run_underlying hu,hT]
 exact this 9998
theorem agl{op:BinOp}{t:Nat}{ox oy:Operand}(h:(isConst ox||isConst oy)=ah):eqGuard op t ox oy .nilIface .nilIface=pure ():=by
 (cases ox<;>cases oy<;>simp[isConst] at h)<;>simp_all [eqGuard_nil_constL,eqGuard_nil_constR]
theorem agm{t:Nat}{op:BinOp}{x y:SV}{sv:SV}{u v:Value}{ox oy:Operand}(hC:oC P C)(hg:qE C.gls H){i:BQ}(hi:C.tys.get t=ae i)
  (dx:Den H E x u) (dy:Den H E y v) (h:aic C.Ox C.gls op i.ty (isConst ox||isConst oy) x y=ae sv) :
  ∃r,Den H E sv r/\∀w,((BZ x&&BZ y)=ah->H.on w)->(do eqGuard op t ox oy u v;binOp op t u v:Sem Value).run P w=.ok r w:=by
 have hd:=(hC.ty _ _ hi).desc;unfold aic at h;cases hb:(arj C.Ox x&&vI i.ty x&&vI i.ty y&&((isConst ox||isConst oy) || !(PZ x&&PZ y)))<;>simp only[hb,cond_true,cond_false] at h
 ·cases h
 rw[ak,ak,ak] at hb;obtain ⟨⟨⟨fe,fx⟩,fy⟩,hlit⟩:=hb;have fin:(∃r,Den H E sv r/\∀w,(do eqGuard op t ox oy u v;binOp op t u v:Sem Value).run P w=.ok r w)->∃r,Den H E sv r/\∀w,((BZ x&&BZ y)=ah->H.on w)->(do eqGuard op t ox oy u v;binOp op t u v:Sem Value).run P w=.ok r w:=
  fun ⟨r,h1,h2⟩=>⟨r,h1,fun w _=>h2 w⟩
 unfold alm at h;split at h
 ·apply fin
  cases hty:i.ty<;>rw[hty] at fx hd<;>simp[vI] at fx
  obtain ⟨_,_,_,hd⟩:=hd;obtain ⟨vs,rfl,_⟩:=dx;obtain rfl:v=_:=dy;exact tq h (eqGuard_at_func ..) rfl rfl fun w=>(ain hd _ _ _ w).1
 ·apply fin
  cases hty:i.ty<;>rw[hty] at fx hd<;>simp[vI] at fx
  obtain ⟨_,_,_,hd⟩:=hd;obtain rfl:u=_:=dx;obtain rfl:v=_:=dy;exact tq h (eqGuard_at_nilFunc ..) rfl rfl fun w=>(ain hd (.func 0) #[] #[] w).2
 ·apply fin
  cases hty:i.ty<;>rw[hty] at fx hd<;>simp[vI] at fx
  obtain ⟨b,_,rfl⟩:=dx;obtain rfl:v=_:=dy;exact tq h (eqGuard_at_pointer ..) rfl rfl fun w=>(VY hd _ w).1
 ·apply fin
  cases hty:i.ty<;>rw[hty] at fx hd<;>simp[vI] at fx
  obtain ⟨b,o,cc,rfl,_⟩:=dx;obtain rfl:v=_:=dy;exact tq h (eqGuard_at_pointer ..) rfl rfl fun w=>(VY hd _ w).1
 ·apply fin
  cases hty:i.ty<;>rw[hty] at fx hd<;>simp[vI] at fx
  obtain ⟨rfl,_⟩:=dx;obtain rfl:v=_:=dy;exact tq h (eqGuard_at_pointer ..) rfl rfl fun w=>(VY hd _ w).1
 ·apply fin
  cases hty:i.ty<;>rw[hty] at fx hd<;>simp[vI] at fx
  obtain rfl:u=_:=dx;obtain rfl:v=_:=dy;exact tq h (eqGuard_at_pointer ..) rfl rfl fun w=>(VY hd ⟨0,0,ao⟩ w).2
 ·apply fin
  cases hty:i.ty<;>rw[hty] at fx hd<;>simp[vI] at fx
  obtain ⟨_,hd⟩:=hd;obtain ⟨_,rfl,_⟩:=dx;obtain rfl:v=_:=dy;exact tq h (eqGuard_at_iface ..) rfl rfl fun w=>(Qo hd _ _ w).1
 ·apply fin
  cases hty:i.ty<;>rw[hty] at fx hd<;>simp[vI] at fx
  obtain ⟨_,hd⟩:=hd;obtain ⟨_,rfl⟩:=ads dx;obtain rfl:v=_:=dy;exact tq h (eqGuard_at_iface ..) rfl rfl fun w=>(Qo hd _ _ w).1
 ·apply fin
  cases hty:i.ty<;>rw[hty] at fx hd<;>simp[vI] at fx
  obtain ⟨_,hd⟩:=hd;obtain ⟨_,_,rfl⟩:=aio dx;obtain rfl:v=_:=dy;exact tq h (eqGuard_at_iface ..) rfl rfl fun w=>(Qo hd _ _ w).1
 ·apply fin
  cases hty:i.ty<;>rw[hty] at fx hd<;>simp[vI] at fx
  obtain ⟨_,hd⟩:=hd;obtain rfl:u=_:=dx;obtain rfl:v=_:=dy;exact tq h (agl (by simp_all [PZ])) rfl rfl fun w=>(Qo hd 0 .nilFunc w).2.2
 ·rename_i g T g' T'
  cases hgg:(g==g'&&T==T')<;>simp only[hgg,cond_true,cond_false] at h
  ·cases hga:(aaf C.gls g T&&aaf C.gls g' T'&&T==T' && !(g==g'))<;>simp only[hga,cond_true,cond_false] at h
   ·cases h
   simp only[ak,beq_iff_eq,Bool.not_eq_true',beq_eq_false_iff_ne] at hga;obtain ⟨⟨⟨l1,l2⟩,rfl⟩,hne⟩:=hga;cases hty:i.ty<;>rw[hty] at fx hd<;>simp[vI] at fx
   obtain ⟨_,hd⟩:=hd;obtain ⟨b,b',rfl,rfl,hbb,⟨cs,ec,g1⟩,cs',ec',g2⟩:=ZI (hg.apart g g' T T (adu l1) (adu l2) hne) dx dy;obtain ⟨inf,e,ie,q1,q2,q3,q4,q5⟩:=hC.Ox T fe;exact adv (Pw:=fun w=>(BZ (.sh (.er g T))&&BZ (.sh (.er g' T)))=ah->H.on w) h (eqGuard_at_iface ..) rfl rfl fun w hon=>ajF hd q1 q2 q3 q4 q5 hbb w (hon rfl _ _ g1) (hon rfl _ _ g2)
  apply fin;simp only[ak,beq_iff_eq] at hgg;obtain ⟨rfl,rfl⟩:=hgg;cases hty:i.ty<;>rw[hty] at fx hd<;>simp[vI] at fx
  obtain ⟨_,hd⟩:=hd;obtain ⟨b,rfl,rfl⟩:=abK dx dy;obtain ⟨inf,e,ie,q1,q2,q3,q4,q5⟩:=hC.Ox T fe;exact tq h (eqGuard_at_iface ..) rfl rfl fun w=>ar6 hd q1 q2 q3 q4 q5 b w
 ·apply fin
  cases hty:i.ty<;>rw[hty] at fx hd<;>simp[vI] at fx
  obtain ⟨_,hd⟩:=hd;obtain rfl:u=_:=dx;obtain ⟨_,_,rfl⟩:=aio dy;exact tq h (eqGuard_nil_iface ..) rfl rfl fun w=>(Qo hd _ _ w).2.1
 ·rename_i t1 x1 g T
  apply fin;cases hty:i.ty<;>rw[hty] at fx hd<;>simp[vI] at fx
  obtain ⟨_,hd⟩:=hd;cases hT:(t1==T)<;>simp only[hT,cond_true,cond_false] at h
  ·have hT:t1≠T:=by grind
   obtain ⟨_,rfl,_⟩:=dx;obtain ⟨_,rfl⟩:=adt dy;exact tq h (eqGuard_at_iface ..) rfl rfl fun w=>WM hd hT _ _ w
  ·cases h
 ·rename_i t1 x1 g T
  apply fin;cases hty:i.ty<;>rw[hty] at fx hd<;>simp[vI] at fx
  obtain ⟨_,hd⟩:=hd;cases hT:(t1==T)<;>simp only[hT,cond_true,cond_false] at h
  ·have hT:t1≠T:=by grind
   obtain ⟨_,rfl⟩:=ads dx;obtain ⟨_,rfl⟩:=adt dy;exact tq h (eqGuard_at_iface ..) rfl rfl fun w=>WM hd hT _ _ w
  ·cases h
 ·cases h
theorem alG{c:Core}{a:Act}{o:Oper}{op:BinOp}{t t2:Nat}{x y:Operand}{φ:SV×Core->Prop}(hC:oC P C)(hg:qE C.gls H)(ho:o.op=.binOp op t x y t2)(hd:ni H E c.tm a.tmps.toList)
  (h:(DF c (alo C op t (isConst x||isConst y) (oI c.tm x) (oI c.tm y))).All φ):∃(p:SV×Core) (v:Value),φ p/\p.2=c/\Den H E p.1 v/\∀w',((BZ (oI c.tm x)&&BZ (oI c.tm y))=ah->H.on w')->(execOp a.eval o).run P w'=.ok (.value v) w':=by
 obtain ⟨sv,hs,hφ⟩:=yV h;have dx:=ou (H:=H) (E:=E) hd x;have dy:=ou (H:=H) (E:=E) hd y;have hA:=hC.A;suffices hk:∃r,Den H E sv r/\∀w,((BZ (oI c.tm x)&&BZ (oI c.tm y))=ah->H.on w)->(do eqGuard op t x y (a.eval x) (a.eval y);binOp op t (a.eval x) (a.eval y):Sem Value).run P w=.ok r w by
  obtain ⟨r,h1,h2⟩:=hk;refine ⟨_,r,hφ,rfl,h1,fun w' hon=>?_⟩;have:=h2 w' hon;simp only[execOp,ho];simp only[ct] at this ⊢;rw[this];rfl
 generalize hu:a.eval x=u at dx ⊢;generalize hv:a.eval y=v at dy ⊢;unfold alo at hs;split at hs;case h_1 k n l m hx hy=>
  rw[hx] at dx;rw[hy] at dy;cases hb:(k==l)<;>simp only[hb,cond_true,cond_false] at hs
  ·cases hs
  obtain rfl:k=l:=by grind
  obtain ⟨r,hr,hden⟩:=ZG (H:=H) (E:=E) hs;grind [Den,Qm]
 case h_2 k n l m hx hy=>
  rw[hx] at dx;rw[hy] at dy;cases hb:(k==l)<;>simp only[hb,cond_true,cond_false] at hs
  ·cases hs
  obtain rfl:k=l:=by grind
  obtain ⟨r,hr,hden⟩:=Jh (H:=H) (E:=E) hA hs;grind [Den,Qm]
 case h_3 k n l m hx hy=>
  rw[hx] at dx;rw[hy] at dy;cases hb:(k==l)<;>simp only[hb,cond_true,cond_false] at hs
  ·cases hs
  obtain rfl:k=l:=by grind
  obtain ⟨r,hr,hden⟩:=Jh (H:=H) (E:=E) hA hs;grind [Den,Qm]
 case h_4 k n l m hx hy=>
  rw[hx] at dx;rw[hy] at dy;cases hb:(k==l)<;>simp only[hb,cond_true,cond_false] at hs
  ·cases hs
  obtain rfl:k=l:=by grind
  obtain ⟨r,hr,hden⟩:=Jh (H:=H) (E:=E) hA hs;grind [Den,Qm]
 case h_5 k l hx hy=>
  rw[hx] at dx;rw[hy] at dy;simp only[Den] at dx dy;subst dx;subst dy;cases op<;>simp at hs<;>subst hs
  ·exact ⟨_,rfl,fun w _=>(Qn k l t x y w).1⟩
  ·exact ⟨_,by rfl,fun w _=>(Qn k l t x y w).2⟩
 case h_6 k l hx hy=>
  rw[hx] at dx;rw[hy] at dy;obtain rfl:=Ih dy;simp only[Den] at dx;subst dx;obtain ⟨r,h1,h2⟩:=WL (P:=P) (H:=H) (E:=E) hA hs t x y;grind
 case h_7 k l hx hy=>
  rw[hx] at dx;rw[hy] at dy;obtain rfl:=Ih dx;simp only[Den] at dy;subst dy;obtain ⟨r,h1,h2⟩:=WL (P:=P) (H:=H) (E:=E) hA hs t x y;grind
 case h_8 k l hx hy=>
  rw[hx] at dx;rw[hy] at dy;obtain rfl:=Ih dx;obtain rfl:=Ih dy;obtain ⟨r,h1,h2⟩:=WL (P:=P) (H:=H) (E:=E) hA hs t x y;grind
 case h_9 k l hx hy=>
  rw[hx] at dx;rw[hy] at dy;obtain ⟨vs,rfl,dl⟩:=dx;obtain ⟨vs',rfl,dl'⟩:=dy;split at hs
  ·rename_i m n i hm hn hi
   cases hb:(C.eqs.contains t&&qV m i.zero&&qV n i.zero)<;>simp only[hb,cond_true,cond_false] at hs
   ·cases hs
   simp only[ak] at hb;obtain ⟨⟨h1,h2⟩,h3⟩:=hb;have e1:=OL hm dl;have e2:=OL hn dl';have e1':vs=(m.map Cq.v).toArray:=by rw[<-e1]
   have e2':vs'=(n.map Cq.v).toArray:=by rw[<-e2]
   subst e1' e2';have hE:=fun w=>hC.eqs t i h1 hi m n w h2 h3 x y
   have hq:=KU h2 h3;rw[hA] at hs;cases op<;>simp at hs<;>subst hs
   ·exact ⟨_,rfl,fun w _=>by simp_all⟩
   ·exact ⟨_,rfl,fun w _=>by simp_all [mM,decide]⟩
  ·cases hs
 case h_10=>
  split at hs
  ·cases hs
  ·rename_i i hi
   split at hs
   ·rename_i hty
    have ht:=(hC.ty _ _ hi).desc;rw[hty] at ht;have fin:(∃r,Den H E sv r/\∀w,(do eqGuard op t x y u v;binOp op t u v:Sem Value).run P w=.ok r w)->∃r,Den H E sv r/\∀w,((BZ (oI c.tm x)&&BZ (oI c.tm y))=ah->H.on w)->(do eqGuard op t x y u v;binOp op t u v:Sem Value).run P w=.ok r w:=
     fun ⟨r,h1,h2⟩=>⟨r,h1,fun w _=>h2 w⟩
    apply fin;unfold aln at hs;split at hs
    ·rename_i p q hp hq
     rw[hp] at dx;rw[hq] at dy;simp only[Den] at dx dy;subst dx dy;cases op<;>simp at hs<;>subst hs
     ·exact ⟨_,rfl,fun w=>(Nh ht p q x y w).1⟩
     ·exact ⟨_,by rfl,fun w=>(Nh ht p q x y w).2⟩
    all_goals first
     |(rename_i p q hp hq
       rw[hp] at dx;rw[hq] at dy;simp only[Den] at dx dy;subst dx dy;exact alF hA ht hs x y)
     |cases hs
   ·exact agm hC hg hi dx dy hs
theorem G6{x:SV}{u:Value}(hk:x.okc=ah)(h:Den H E x u):ni H E x.cells u.cells.toList:=by
 cases x;case any=>simp[kX] at hk
 case ev=>simp[kX] at hk
 case agg l=>obtain ⟨vs,rfl,hl⟩:=h;exact hl
 case sh s=>
  have h':=h;have h:Rep H s u:=h;have key:u.cells=#[u]:=by
   cases h;case agg l vs a1 a2=>simp[kX] at hk
   case v h1=>cases u<;>simp[da,eS] at h1 ⊢
   all_goals rfl
  rw[key];exact ⟨h',trivial⟩
 all_goals
  have h':=h;have key:u.cells=#[u]:=by
   first
    |(simp only[Den] at h;subst h;rfl)
    |(obtain ⟨rfl,h1⟩:=h;cases u<;>simp[da,eS] at h1 ⊢;done)
    |(obtain ⟨_,_,rfl⟩:=h;rfl)
    |(obtain ⟨_,_,_,_,rfl⟩:=h;rfl)
    |(obtain ⟨_,_,_,_,_,rfl⟩:=h;rfl)
    |(obtain ⟨_,rfl,_⟩:=h;rfl)
    |(obtain ⟨_,_,_,rfl,_⟩:=h;rfl)
  rw[key];exact ⟨h',trivial⟩
theorem WO:∀{xs:List SV} {vs:List Value},ni H E xs vs->∀{z:List SV} {cells:Array Value} (off k:Nat),ni H E z cells.toList->
  ni H E (setAt z (off+k) xs) ((vs.zipIdx k).foldl (fun (cs:Array Value) (p:Value×Nat)=>cs.setIfInBounds (off+p.2) p.1) cells).toList
 |[],[],_,_,_,_,_,hz=>hz |x::xs,v::vs,⟨hx,hxs⟩,z,cells,off,k,hz=>by
  simp only[setAt,List.zipIdx_cons,List.foldl_cons];have:=WO hxs (z:=z.set (off+k) x) (cells:=cells.setIfInBounds (off+k) v) off (k+1) (by rw[Array.toList_setIfInBounds];exact hz.set _ hx);omega
 |[],_::_,h,_,_,_,_,_=>h.elim |_::_,[],h,_,_,_,_,_=>h.elim
theorem G7:∀(xs z:List SV) (off:Nat),(setAt z off xs).length=z.length
 |[],_,_=>rfl |x::xs,z,off=>by rw[setAt,G7 xs];simp
theorem SL{place place':Nat->Option (Nat×Nat)}(hp:∀(i off size:Nat),place' i=ae (off,size)->place i=ae (off,size)){tm:List SV}{a:Act}(hd:ni H E tm a.tmps.toList):
  ∀(parts:List (Nat×Operand)) {z l:List SV} {cells:Array Value},ni H E z cells.toList->I7 place' (oI tm) z parts=ae l->
   ∃cells',lV place cells (parts.map fun p=>(p.1,a.eval p.2))=ae cells'/\ni H E l cells'.toList
 |[],z,l,cells,hz,h=>by simp[I7] at h;subst h;exact ⟨cells,rfl,hz⟩ |(i,x)::r,z,l,cells,hz,h=>by
  unfold I7 at h;split at h
  ·rename_i off size hpl
   cases hb:((oI tm x).okc&&(oI tm x).cells.length==size&&cq (off+size) z.length)<;>simp only[hb,cond_true,cond_false] at h
   ·cases h
   simp only[ak,beq_iff_eq] at hb;obtain ⟨⟨h1,h2⟩,h3⟩:=hb;have h3:=cf h3;have hv:=G6 h1 (ou hd x);have hlv:=hv.length;have hlz:=hz.length;have:=WO hv (z:=z) (cells:=cells) off 0 hz;obtain ⟨cells',e1,e2⟩:=SL hp hd r this h;refine ⟨cells',?_,e2⟩;simp only[List.map_cons,lV,hp _ _ _ hpl];rw[if_neg]
   ·grind [Array.toList_zipIdx]
   simp_all
  ·cases h
theorem UG:∀(fs:List Field) (ps:List (Nat×Nat×Bool)),fs.length=ps.length->(∀(j:Nat) (f:Field),fs[j]?=ae f->∃inf:TypeInfo,P.info? f.type=ae inf/\∃b,ps[j]?=ae (f.offset,inf.size,b))->
  fs.mapM (fun f=>(P.info? f.type).map fun i=>(f.offset,i.size))=ae (ps.map fun p=>(p.1,p.2.1))
 |[],[],_,_=>rfl |f::fs,p::ps,hl,h=>by
  obtain ⟨inf,h1,b,h2⟩:=h 0 f rfl;have ih:=UG fs ps (by grind) fun j f' hf=>h (j+1) f' (by grind);simp_all
 |[],_::_,h,_=>by simp at h |_::_,[],h,_=>by simp at h
theorem adw{c:Core}{a:Act}{o:Oper}{t:Nat}{parts:Array (Nat×Operand)}{φ:SV×Core->Prop}(hC:oC P C)(ho:o.op=.build t parts)(hd:ni H E c.tm a.tmps.toList)
  (h:(Oz C c t parts.toList).All φ):QP P H E c a o φ:=by
 unfold Oz at h;split at h
 ·rename_i i hi
  have ht:=hC.ty _ _ hi;split at h
  ·rename_i fs hty
   have ark:=ht.desc;rw[hty] at ark;obtain ⟨fields,hu,hf⟩:=ark;split at h
   ·rename_i l hl
    obtain ⟨inf,z,h1,h2,_,h4,h5,h6,_⟩:=ht.info;have h5':ni H E i.zero z.cells.toList:=h5.le (fun _ _ e=>by cases e) (fun _ _ e=>by cases e);obtain ⟨cells',e1,e2⟩:=SL (place:=fun x=>(fs.map fun p=>(p.1,p.2.1))[x]?) (fun j off size e=>by
     simp_all) hd parts.toList h5' hl
    refine ⟨_,.agg cells',h,rfl,⟨cells',rfl,e2⟩,fun w'=>?_⟩;have hp:=UG (P:=P) fields.toList fs (by simpa using hf.1) (fun j f hj=>by
     obtain ⟨inf',a1,a2,_⟩:=hf.2 j f (by grind);simp_all)
    simp_all [Program.built,Array.toList_map,run_build,execOp]
   ·exact h.elim
  ·exact h.elim
 ·exact h.elim
end
section
variable{P:Program}{C:Ctx}{K:Kx}{H:Mem}{E:Env}{w:World}
theorem Ii{c:Core}{a:Act}{o:Oper}{t:Nat}{x:Operand}{φ:SV×Core->Prop}(hC:oC P C)(ho:o.op=.makeInterface t x)(hd:ni H E c.tm a.tmps.toList)
  (h:(match C.ty t with
   |some i=>match i.ty with
    | .iface=>.fail | .other=>.fail |_=>ret c (.qK t (oI c.tm x))
   |none=>.fail:Tree (SV×Core)).All φ):QP P H E c a o φ:=by
 have dx:=ou (H:=H) (E:=E) hd x;split at h
 ·rename_i i hi
  have ht:=(hC.ty _ _ hi).desc;have key:∀d,P.underlying t=ae d->(∀ms,d≠.interface ms)->φ (.qK t (oI c.tm x),c)->QP P H E c a o φ:=fun d hu hne hφ=>
   ⟨_,.iface t (a.eval x),hφ,rfl,⟨_,rfl,dx⟩,fun w'=>by
    simp_all [execOp,Instr.makeInterface,ct,run_underlying,Result.andThen_ok]⟩
  split at h
  ·exact h.elim
  ·exact h.elim
  ·rename_i ty hne1 hne2
   cases hty:i.ty<;>rw[hty] at ht hne1 hne2
   case iface=>simp_all
   case other=>simp_all
   case fn=>obtain ⟨_,_,_,ht⟩:=ht;exact key _ ht (by simp) h
   case struct=>obtain ⟨_,ht,_⟩:=ht;exact key _ ht (by simp) h
   all_goals exact key _ ht (by simp) h
 ·exact h.elim
theorem OM{c:Core}{a:Act}{o:Oper}{b:Builtin}{xs:Array Operand}{ts:Array TypeId}{sv:SV}{φ:SV×Core->Prop}(ho:o.op=.call {callee:=.builtin b,args:=xs,argTypes:=ts})
  (h:φ (sv,c)) {v:Value} (hv:Den H E sv v) (hr:∀w',∀cs,(builtin b ts o.type cs (xs.map a.eval)).run P w'=.ok (.value v) w'):QP P H E c a o φ:=
 ⟨_,v,h,rfl,hv,fun w'=>by
  simp_all [execOp,resolve,invoke]⟩
theorem agn{hp:List (Nat×SB)}{A:Prim}(hA:A=mM){x sv:SV}{u:Value}(hh:nI K H E w hp)(h:aif A hp x=ae sv)(dx:Den H E x u):
  (∃A n c,u=.slice A n c/\Den H E sv (.int .i64 n))\/(∃l,u=.string ⟨fA l⟩/\Den H E sv (.int .i64 l.length)):=by
 subst hA;unfold aif at h;split at h
 ·rename_i id
  obtain ⟨he,A,n,cc,rfl⟩:=dx;split at h
  ·rename_i cells el st m hl
   cases h;obtain ⟨v,xs,he',hr,_,_⟩:=hh.ent _ _ hl;rw[he] at he';cases he';have:=EL hr;simp only[lenV] at this;subst this;exact .inl ⟨_,_,_,rfl,rfl⟩
  ·rename_i el st m g hl
   cases h;obtain ⟨v,xs,he',hr,_,_⟩:=hh.ent _ _ hl;rw[he] at he';cases he';have:=EL hr;simp only[lenV] at this;subst this;exact .inl ⟨_,_,_,rfl,rfl⟩
  ·rename_i el st m g more hl
   cases h;obtain ⟨v,xs,ys,he',hr,_⟩:=hh.ent _ _ hl;rw[he] at he';cases he';have:=EL hr;simp only[lenV] at this;subst this;exact .inl ⟨_,_,_,rfl,rfl⟩
  ·rename_i st m g hl
   cases h;obtain ⟨v,he',hr⟩:=hh.ent _ _ hl;rw[he] at he';cases he';cases hr
   ·exact .inl ⟨_,_,_,rfl,rfl⟩
   ·exact .inl ⟨_,_,_,rfl,rfl⟩
  ·rename_i el l hl
   cases h;obtain ⟨v,he',hr,_⟩:=hh.ent _ _ hl;rw[he] at he';cases he';rcases hr with ⟨h1,rfl⟩ |⟨g,cap,cur,fz,h1,_⟩
   ·cases h1;exact .inl ⟨_,_,_,rfl,rfl⟩
   ·cases h1;exact .inl ⟨_,_,_,rfl,rfl⟩
  ·cases h
 ·cases h
  obtain ⟨A,m,c,_,_,rfl⟩:=dx;exact .inl ⟨_,_,_,rfl,rfl⟩
 ·cases h
  cases dx
  ·exact .inl ⟨_,_,_,rfl,rfl⟩
  ·exact .inl ⟨_,_,_,rfl,rfl⟩
 ·grind [Den]
 ·grind [Den]
 ·cases h
  cases dx;exact .inr ⟨_,rfl,rfl⟩
 ·cases h
theorem UH{C:Ctx}{t:Nat}{i:BQ}{xs:Array Operand}{u:Value}(ht:Gl P t i)(h:(i.ty=.str/\∃l,u=.string ⟨fA l⟩)\/((∃e,i.ty=.slice e)/\∃A n c,u=.slice A n c))(w:World)(ty:Nat):
  ∃n:Int,(gG #[t] ty #[u]).run P w=.ok (.int .i64 n) w/\((∃A m c,u=.slice A m c/\n=m)\/(∃l,u=.string ⟨fA l⟩/\n=l.length)):=by
 have hd:=ht.desc;rcases h with ⟨hty,l,rfl⟩ |⟨⟨e,hty⟩,A,n,c,rfl⟩
 ·rw[hty] at hd
  exact ⟨l.length,by simp[gG,run_underlying (show P.underlying t=ae .string from hd)];rfl,.inr ⟨l,rfl,rfl⟩⟩
 ·rw[hty] at hd
  exact ⟨n,by simp[gG,run_underlying (show P.underlying t=ae (.slice e) from hd),goInt],.inl ⟨_,_,_,rfl,rfl⟩⟩
theorem alH{k:IntKind}{a b:Int}(ts:Array TypeId)(ty:Nat)(w:World):
  (jY ts ty #[.int k a,.int k b]).run P w=.ok (.int k (if b>a then b else a)) w/\(jZ ts ty #[.int k a,.int k b]).run P w=.ok (.int k (if b<a then b else a)) w:=by
 simp_all [jY,Builtin.max2,jZ,Builtin.min2]
theorem Dw{x:SV}{u:Value}{k:IntKind}{n:Int}{l:Bool}(hk:zU x=ae (k,n,l))(hd:Den H E x u):u=.int k n:=by
 cases x<;>simp[zU] at hk
 all_goals (obtain ⟨rfl,rfl,rfl⟩:=hk;exact hd)
theorem agp{A:Prim}(hA:A=mM){mx:Bool}{x y sv:SV}{u v:Value}(h:maxS A mx x y=ae sv)(dx:Den H E x u)(dy:Den H E y v):
  ∃(k:IntKind) (a b:Int),u=.int k a/\v=.int k b/\Den H E sv (.int k (bif mx then (if b>a then b else a) else (if b<a then b else a))):=by
 subst hA;unfold maxS at h;have kd:∀{x:SV} {u:Value} {k:IntKind} {n:Int} {l:Bool},zU x=ae (k,n,l)->Den H E x u->u=.int k n:=by
  intro x u k n l hk hd;cases x<;>simp[zU] at hk
  all_goals (obtain ⟨rfl,rfl,rfl⟩:=hk;exact hd)
 split at h
 ·rename_i k a la l b lb e1 e2
  cases hb:(k==l)<;>simp only[hb,cond_true,cond_false] at h
  ·cases h
  obtain rfl:k=l:=by grind
  refine ⟨k,a,b,kd e1 dx,kd e2 dy,?_⟩;cases hl:(la&&lb)<;>simp only[hl,cond_true,cond_false,dP] at h<;>subst h
  ·rfl
  ·cases mx
   ·simp_all [Den]
   simp_all [Den]
 ·cases h
theorem ZJ{ty:Ty}{x:SV}{u:Value}(h:Ic ty x=ah)(dx:Den H E x u):(ty=.str/\∃l,u=.string ⟨fA l⟩)\/((∃e,ty=.slice e)/\∃A n c,u=.slice A n c):=by
 unfold Ic at h;split at h
 ·exact .inl ⟨rfl,_,dx⟩
 ·exact .inl ⟨rfl,_,Ih dx⟩
 ·obtain ⟨_,h⟩:=dx;simp_all
 ·refine .inr ⟨⟨_,rfl⟩,?_⟩
  cases dx<;>exact ⟨_,_,_,rfl⟩
 ·obtain rfl:u=_:=dx;simp
 ·obtain ⟨A,m,c,_,_,rfl⟩:=dx;simp
 ·cases h
theorem q_len{c:Core}{a:Act}{o:Oper}{x:Operand}{t:Nat}{i:BQ}{φ:SV×Core->Prop}(hC:oC P C)(hd:ni H E c.tm a.tmps.toList)(hh:nI K H E w c.hp)
  (ho:o.op=.call {callee:=.builtin .len,args:=#[x],argTypes:=#[t]}) (hi:C.tys.get t=ae i) (hf:Ic i.ty (oI c.tm x)=ah)
  (h:(DF c (aif C.A c.hp (oI c.tm x))).All φ):QP P H E c a o φ:=by
 have dx:=ou (H:=H) (E:=E) hd x;obtain ⟨sv,hs,hφ⟩:=yV h;have hl:=agn hC.A hh hs dx;have ht:=hC.ty _ _ hi;have hcase:=ZJ hf dx;rcases hl with ⟨A,n,cc,e,hden⟩ |⟨l,e,hden⟩
 ·refine OM ho hφ hden fun w' cs=>?_
  obtain ⟨m,h1,h2⟩:=UH (C:=C) (xs:=#[x]) ht hcase w' o.type;rcases h2 with ⟨A',m',c',e',rfl⟩ |⟨l',e',_⟩
  ·rw[e] at e';cases e'
   rw[e] at h1;simp[builtin,e,h1]
  ·rw[e] at e';cases e'
 ·refine OM ho hφ hden fun w' cs=>?_
  obtain ⟨m,h1,h2⟩:=UH (C:=C) (xs:=#[x]) ht hcase w' o.type;rcases h2 with ⟨A',m',c',e',_⟩ |⟨l',e',rfl⟩
  ·rw[e] at e';cases e'
  ·rw[e] at e';cases e'
   rw[e] at h1;simp[builtin,e,h1]
theorem abL{c:Core}{a:Act}{o:Oper}{x y:Operand}{ts:Array TypeId}{mx:Bool}{φ:SV×Core->Prop}(hC:oC P C)(hd:ni H E c.tm a.tmps.toList)
  (ho:o.op=.call {callee:=.builtin (bif mx then .max else .min),args:=#[x,y],argTypes:=ts}) (h:(DF c (maxS C.A mx (oI c.tm x) (oI c.tm y))).All φ):QP P H E c a o φ:=by
 obtain ⟨sv,hs,hφ⟩:=yV h;obtain ⟨k,m,n,ex,ey,hden⟩:=agp hC.A hs (ou hd x) (ou hd y);refine OM ho hφ hden fun w' cs=>?_
 have:=alH (P:=P) (k:=k) (a:=m) (b:=n) ts o.type w';(cases mx)<;>simp_all [builtin]
theorem OO{kk:IntKind}{n:Int}:∀{es:List (SV×SV)} {ms:List MapEntry} {r:Option SV} (j:Nat),KN kk n es=ae r->Gj H E es ms->
  (r=ao/\be (.int kk) (.int kk n) ms j=ae ao)\/(∃sv i v,r=ae sv/\be (.int kk) (.int kk n) ms j=ae (ae (i,v))/\Den H E sv v)
 |[],[],r,j,h,_=>by simp[KN] at h;exact .inl ⟨h.symm,rfl⟩ |(k,v)::es,m::ms,r,j,h,⟨h1,h2,h3⟩=>by
  unfold KN at h;split at h
  ·simp_all
  ·rename_i l p u es' e
   simp only[gQ,dK] at e;obtain ⟨⟨rfl,rfl⟩,rfl⟩:=e;have h1:m.key=.int l p:=h1;cases hb:(l==kk)<;>simp only[hb,cond_true,cond_false] at h
   ·cases h
   obtain rfl:l=kk:=by grind
   cases hp:(p==n)<;>simp only[hp,cond_true,cond_false] at h
   ·have hne:(n==p)=ag:=by grind
    (rcases OO (j+1) h h3 with ⟨e1,e2⟩ |⟨sv,i,v',e1,e2,e3⟩)<;>grind [be,bC]
   ·cases h
    have:p=n:=by grind
    subst this;exact .inr ⟨v,j,m.val,rfl,by simp[be,h1,bC],h2⟩
  ·cases h
 |[],_::_,_,_,_,h=>h.elim |_::_,[],_,_,_,h=>h.elim
theorem aan{kk:IntKind}{n:Int}{A:Prim}(hA:A=mM){f:SV->Bool->Tree (SV×Core)}{z:SV}{φ:SV×Core->Prop}:∀{es:List (SV×SV)} {ms:List MapEntry} (j:Nat),(P6 A kk n z f es).All φ->Gj H E es ms->
  (be (.int kk) (.int kk n) ms j=ae ao/\(f z ag).All φ)\/(∃sv i v,(f sv ah).All φ/\be (.int kk) (.int kk n) ms j=ae (ae (i,v))/\Den H E sv v)
 |[],[],j,h,_=>.inl ⟨rfl,h⟩ |(k,v)::es,m::ms,j,h,⟨h1,h2,h3⟩=>by
  unfold P6 at h;split at h
  ·simp_all
  ·rename_i l p u es' e
   simp only[gQ,dK] at e;obtain ⟨⟨rfl,rfl⟩,rfl⟩:=e;have h1:m.key=.int l p:=h1;cases hb:(l==kk)<;>simp only[hb,cond_true,cond_false] at h
   ·exact h.elim
   obtain rfl:l=kk:=by grind
   subst hA;cases hp:(n==p)
   ·rcases aan rfl (j+1) (h.2 hp) h3 with ⟨e1,e2⟩ |⟨sv,i,v',e1,e2,e3⟩
    ·grind [be,bC]
    grind [be,bC]
   ·exact .inr ⟨v,j,m.val,h.1 hp,by simp[be,h1,bC,hp],h2⟩
  ·exact h.elim
 |[],_::_,_,_,h=>h.elim |_::_,[],_,_,h=>h.elim
def PV(H:Mem)(E:Env)(p:Bool)(sv:SV)(o:Option Value):Prop:=
 match p,o with|true,ae v=>Den H E sv v/\v.oneCell'=ah|false,ao=>True|_,_=>False
def ED:List (Int×Option Value)->Int->Option (Option Value)
 |[],_=>ao |(n,o)::r,k=>if k=n then ae o else ED r k
theorem UJ{M:Int->Option Value}{fv:List (Int×Option Value)}(hM:∀n o,(n,o)∈fv->M n=o){k:Int}{o:Option Value}:∀{uv:List (Int×Option Value)},ED (uv++fv) k=ae o->NT M uv k=o
 |[],h=>by
  have key:∀l:List (Int×Option Value),(∀n o,(n,o)∈l->M n=o)->ED l k=ae o->M k=o:=by
   intro l;induction l with
   |nil=>intro _ h;cases h |cons p r ih=>
    grind [ED,bj,aZ]
  exact key fv hM h
 |(n,q)::uv,h=>by
  simp only[List.cons_append,ED] at h;simp only[NT];split at h
  ·simp_all
  ·rename_i e;rw[if_neg e];exact UJ hM h
theorem xP.app:∀{l l':List (Int×Bool×SV)} {v v':List (Int×Option Value)},xP H E l v->xP H E l' v'->xP H E (l++l') (v++v')
 |[],_,[],_,_,h=>h |(_,_,_)::_,_,(_,_)::_,_,⟨a,b,c⟩,h=>⟨a,b,c.app h⟩ |[],_,_::_,_,h,_=>h.elim |_::_,_,[],_,h,_=>h.elim
theorem Qp{φ:SV×Core->Prop}{k:Int}{f:Bool->SV->Tree (SV×Core)}:∀{l:List (Int×Bool×SV)} {lv:List (Int×Option Value)},xP H E l lv->(findF mM k f l).All φ->
  ∃p sv o,(f p sv).All φ/\PV H E p sv o/\ED lv k=ae o
 |[],_,_,h=>h.elim |[(j,p,sv)],[(n,o)],⟨a,b,_⟩,h=>by
  subst a;obtain ⟨h1,h2⟩:=h;have h1:k=n:=by grind [mM]
  exact ⟨p,sv,o,h2,b,by simp[ED,h1]⟩
 |(j,p,sv)::q::r,(n,o)::lv,⟨a,b,c⟩,h=>by
  subst a;obtain ⟨h1,h2⟩:=h;by_cases e:k=n
  ·exact ⟨p,sv,o,h1 (by simp[mM,e]),b,by simp[ED,e]⟩
  ·obtain ⟨p',sv',o',a1,a2,a3⟩:=Qp c (h2 (by simp[mM,e]))
   grind [ED]
 |[(_,_,_)],_::_::_,h,_=>h.2.2.elim |_::_,[],h,_=>h.elim
theorem UK{φ:SV×Core->Prop}{k:Int}{f:Bool->SV->Tree (SV×Core)}{M:Int->Option Value}{fs us:List (Int×Bool×SV)}{fv uv:List (Int×Option Value)}(hM:∀n o,(n,o)∈fv->M n=o)
  (d2:xP H E us uv) (d1:xP H E fs fv) (h:(findF mM k f (us++fs)).All φ):∃p sv o,(f p sv).All φ/\PV H E p sv o/\NT M uv k=o:=by
 obtain ⟨p,sv,o,a1,a2,a3⟩:=Qp (d2.app d1) h;grind [UJ]
theorem zX{kk:IntKind}{n:Int}{v:Value}:∀{ms:List MapEntry},(∀m∈ms,∃n,m.key=.int kk n)->∀j:Nat,Aj kk n ms=ae v->
  ∃i,be (.int kk) (.int kk n) ms j=ae (ae (j+i,v))/\∃m,ms[i]?=ae m/\m.key=.int kk n/\m.val=v
 |[],_,_,h=>by cases h |m::ms,hk,j,h=>by
  obtain ⟨p,hp⟩:=hk m (bj ..);by_cases e:n=p
  ·subst e
   simp[Aj,hp,bC] at h;exact ⟨0,by simp[be,hp,bC,h],m,rfl,hp,h⟩
  ·have e':(n==p)=ag:=by simpa using e
   simp[Aj,hp,bC,e'] at h;obtain ⟨i,a1,m',a2,a3⟩:=zX (fun m hm=>hk m (aZ _ hm)) (j+1) h;refine ⟨i+1,?_,m',by grind,a3⟩;simp only[be,hp,bC,if_true,e'];grind
theorem Dx{kk:IntKind}{n:Int}:∀{ms:List MapEntry},(∀m∈ms,∃n,m.key=.int kk n)->∀j:Nat,Aj kk n ms=ao->be (.int kk) (.int kk n) ms j=ae ao
 |[],_,_,_=>rfl |m::ms,hk,j,h=>by
  obtain ⟨p,hp⟩:=hk m (bj ..);by_cases e:n=p
  ·simp_all [Aj,bC]
  ·have e':(n==p)=ag:=by simpa using e
   simp[Aj,hp,bC,e'] at h;simp only[be,hp,bC,if_true,e'];exact Dx (fun m hm=>hk m (aZ _ hm)) (j+1) h
theorem Dy{kt:Nat}{kk:IntKind}(hu:P.underlying kt=ae (.int kk))(em:Bool)(k:IntKind)(n:Int)(w:World):(cC em 10000 kt (.int k n)).run P w=.ok () w:=by
 have:∀d:Nat,(cC em (d+1) kt (.int k n)).run P w=.ok () w:=fun d=>by simp[cC,run_underlying hu]
 grind
theorem CQ{t kt e:Nat}{kk:IntKind}{n:Int}{ok:Bool}{te:BQ}{m:Value}{es:List MapEntry}{w:World}{z:Value}(hu:P.underlying t=ae (.map kt e))(hk:P.underlying kt=ae (.int kk))
  (hz:(zeroValue e).run P w=.ok z w) (hm:(m=.map ao/\es=[])\/(∃b clk,m=.map (ae b)/\w.heap[b]?=ae (.map es.toArray clk))) :
  (be (.int kk) (.int kk n) es 0=ae ao->(cE t m (.int kk n) ok).run P w=.ok (if ok then .tuple #[z,.bool ag] else z) w)/\
  (∀i v,be (.int kk) (.int kk n) es 0=ae (ae (i,v))->(cE t m (.int kk n) ok).run P w=.ok (if ok then .tuple #[v,.bool ah] else v) w):=by
 have hck:=fun em=>Dy (P:=P) hk em kk n w;rcases hm with ⟨rfl,rfl⟩ |⟨b,clk,rfl,hb⟩
 ·simp_all [cE,run_underlying,cg,be]
 ·have hg:(getObj b).run P w=.ok (.map es.toArray clk) w:=by simp[getObj,dQ,hb]
  constructor
  ·intro hf
   cases ok<;>simp[cE,run_underlying hu,hg,hck,cg,run_underlying hk,hf,hz]
  ·intro i v hf
   cases ok<;>simp[cE,run_underlying hu,hg,hck,cg,run_underlying hk,hf]
theorem Qq{c:Core}{ok:Bool}{sv:SV}{b:Bool}{v:Value}(hd:Den H E sv v):
  Den H E (bif ok then .mX [sv,.bool b] else sv) (if ok then .tuple #[v,.bool b] else v):=by
 cases ok
 ·exact hd
 ·exact ⟨#[v,.bool b],rfl,hd,rfl,trivial⟩
theorem Ji{n m:rX}(h:qX n=qX m):n=m:=by
 grind [qX]
theorem agq{s:SV}{n:Int}{v:Value}(h:intOf s=ae n)(hd:Den H E s v):v=.int .i64 n:=by
 unfold intOf at h;split at h
 ·cases h;exact hd
 ·cases h;exact hd
 ·cases h
  have hd:Rep H (.i .i64 n) v:=hd;cases hd;rfl
 ·cases h
theorem adx{s:SV}{l:List UInt8}{v:Value}(h:strOf s=ae l)(hd:Den H E s v):v=.string ⟨l.toArray⟩:=by
 unfold strOf at h;split at h
 ·cases h;exact hd
 ·cases h
  have hd:Rep H (.str l) v:=hd;cases hd;rfl
 ·cases h
theorem Qr{s:SV}{n:rX}{v:Value}(h:VQ s=ae n)(hd:Den H E s v):v=qX n:=by
 unfold VQ at h;split at h
 ·split at h
  ·rename_i a b n l h1 h2
   cases h;obtain ⟨⟨cs⟩,rfl,hd⟩:=hd;match cs,hd with
   |[x,y],⟨d1,d2,_⟩=>
    rw[agq h1 d1,adx h2 d2];rfl
  ·cases h
 ·rename_i n l
  cases h;have hd:Rep H (.agg [.i .i64 n,.str l]) v:=hd;cases hd with
  |agg _ vs hl hr=>
   obtain ⟨vs⟩:=vs;match vs,hl,hr with
   |[x,y],_,hr=>
    have h1:=hr 0 _ x rfl rfl;have h2:=hr 1 _ y rfl rfl;cases h1;cases h2;rfl
 ·cases h
theorem alI(k n:rX):mM.kp k.1 k.2 n.1 n.2=decide (k=n):=by
 grind [mM]
theorem ags{vt:VT}{v:Value}(h:alA vt v):Den H E (als mM vt (ae v)) v/\v.oneCell'=ah:=by
 cases vt with
 |int=>obtain ⟨n,rfl⟩:=h;exact ⟨rfl,rfl⟩ |bool=>obtain ⟨b,rfl⟩:=h;exact ⟨rfl,rfl⟩
theorem UL{φ:SV×Core->Prop}{k:rX}{f:Bool->SV->Tree (SV×Core)}{vt:VT}{M:rX->Option Value}(hT:aik vt M):∀{us:List (rX×Bool×SV)} {uv:List (rX×Option Value)},
  Qd H E us uv->(agc mM vt M k f us).All φ->∃p sv o,(f p sv).All φ/\PV H E p sv o/\KR M uv k=o
 |[],[],_,⟨h1,h2⟩=>by
  cases hm:M k with
  |none=>exact ⟨ag,.any,ao,h2 (by rw[hm];rfl),trivial,hm⟩ |some v=>exact ⟨ah,_,ae v,h1 (by rw[hm];rfl),by rw[hm];exact ags (hT k v hm),hm⟩
 |(j,p,sv)::us,(n,o)::uv,⟨a,b,c⟩,h=>by
  subst a;obtain ⟨h1,h2⟩:=h;by_cases e:k=n
  ·exact ⟨p,sv,o,h1 (by rw[alI];simp[e]),b,by simp[KR,e]⟩
  ·obtain ⟨p',sv',o',a1,a2,a3⟩:=UL hT c (h2 (by rw[alI];simp[e]))
   grind [KR]
 |[],_::_,h,_=>h.elim |_::_,[],h,_=>h.elim
theorem Ij{kt:Nat}(hp:KT P kt){n:rX}{w:World}:∀{ms:List MapEntry},(∀m∈ms,∃n,m.key=qX n)->∀j:Nat,
  ∃r,(fH kt (qX n) ms j).run P w=.ok r w/\((r=ao/\∀m∈ms,m.key≠qX n)\/∃(i:Nat) (m:MapEntry),r=ae (j+i,m.val)/\ms[i]?=ae m/\m.key=qX n)
 |[],_,j=>⟨ao,rfl,.inl ⟨rfl,fun _ h=>by cases h⟩⟩ |m::ms,hk,j=>by
  obtain ⟨p,hpk⟩:=hk m (bj ..);have he:=hp.eq n p w;by_cases e:n=p
  ·subst e
   refine ⟨ae (j,m.val),?_,.inr ⟨0,m,rfl,rfl,hpk⟩⟩;simp[fH,hpk,he]
  ·obtain ⟨r,h1,h2⟩:=Ij hp (n:=n) (w:=w) (fun m hm=>hk m (aZ _ hm)) (j+1)
   refine ⟨r,?_,?_⟩
   ·simp_all [fH]
   ·rcases h2 with ⟨a,b⟩ |⟨i,m',a,b,c⟩
    ·grind [Ji]
    ·exact .inr ⟨i+1,m',by grind,by simpa using b,c⟩
theorem G8{kt:Nat}(hp:KT P kt){n:rX}{w:World}{ms:List MapEntry}(hk:∀m∈ms,∃n,m.key=qX n):
  ∃r,(cg kt (qX n) ms).run P w=.ok r w/\((r=ao/\∀m∈ms,m.key≠qX n)\/∃(i:Nat) (m:MapEntry),r=ae (i,m.val)/\ms[i]?=ae m/\m.key=qX n):=by
 obtain ⟨fs,hu⟩:=hp.und;cases ms with
 |nil=>exact ⟨ao,by simp[cg,run_underlying hu,be],.inl ⟨rfl,fun _ h=>by cases h⟩⟩ |cons m ms=>
  obtain ⟨r,h1,h2⟩:=Ij hp (n:=n) (w:=w) hk 0;simp_all [cg,run_underlying,be,bC,cy]
theorem alJ{e:Nat}{te:BQ}{z:SV}(hte:Gl P e te)(hz:pack te.ty.isAgg te.zero=ae z):∃zv:Value,Den H E z zv/\∀w:World,(zeroValue e).run P w=.ok zv w:=by
 obtain ⟨inf,zv,h1,h2,_,h4,h5,h6,h7,h8⟩:=hte.info;have h5':ni H E te.zero zv.cells.toList:=h5.le (fun _ _ e=>by cases e) (fun _ _ e=>by cases e);refine ⟨zv,?_,fun w=>by simp[zeroValue,typeInfo,h1,h4]⟩;rcases Fg hz with ⟨ha,rfl⟩ |⟨ha,hl⟩
 ·obtain ⟨cs,rfl⟩:=h7 ha
  exact ⟨cs,rfl,h5'⟩
 ·rw[hl] at h5'
  have h8:=(h8 ha).2;cases zv with
  |agg cs=>simp[da] at h8 |_=>
   simp_all [eS,ni]
theorem ajG{c:Core}{a:Act}{o:Oper}{t:Nat}{x y:Operand}{ok:Bool}{φ:SV×Core->Prop}(hC:oC P C)(hd:ni H E c.tm a.tmps.toList)(hh:nI K H E w c.hp)
  (ho:o.op=.lookup t x y ok) (h:(KO C c t (oI c.tm x) (oI c.tm y) ok).All φ):Qg P H E w c a o φ:=by
 have dx:=ou (H:=H) (E:=E) hd x;have dy:=ou (H:=H) (E:=E) hd y;unfold KO at h;split at h
 ·rename_i ti hti
  have ht:=(hC.ty _ _ hti).desc;split at h
  ·rename_i kt e hty
   rw[hty] at ht;split at h
   ·rename_i WB te hkt hte
    have hkt:=(hC.ty _ _ hkt).desc;have hte:=hC.ty _ _ hte;split at h
    ·rename_i fs z hkk hz
     cases hpk:(C.VB.contains kt)<;>simp only[hpk,cond_true,cond_false] at h
     ·exact h.elim
     have hp:=hC.VB _ hpk;obtain ⟨zv,hzd,OQ⟩:=alJ (H:=H) (E:=E) hte hz;split at h
     ·rename_i id hx
      rw[hx] at dx;obtain ⟨b,he,ex⟩:=dx;split at h
      ·rename_i vt M us hl
       obtain ⟨b',ms,clk,uv,he',hw,d2,hT,hL,hok,_⟩:=hh.ent _ _ hl;rw[he] at he';cases he';have hkeep:∀w',OH H E c.hp w w'->w'.heap[b]?=ae (.map ms clk):=fun w' ha=>by
        grind [AP,nU,nH]
       split at h
       ·rename_i n hn
        have dy:a.eval y=qX n:=Qr hn dy;rw[hC.A] at h;obtain ⟨p,sv,ov,hφ,hpo,hat⟩:=UL hT d2 h;have fin:∀(sv:SV) (b:Bool) (v:Value),Den H E sv v->(zV c ok sv b).All φ->(∀w',OH H E c.hp w w'->H.on w'->(cE t (a.eval x) (a.eval y) ok).run P w'=.ok (if ok then .tuple #[v,.bool b] else v) w')->Qg P H E w c a o φ:=by
         intro sv b v hdv hφ hr;refine ⟨_,_,hφ,rfl,Qq (c:=c) hdv,fun w' h1 h2=>?_⟩;simp_all [execOp]
        have hg:∀w',OH H E c.hp w w'->(getObj b).run P w'=.ok (.map ms clk) w':=fun w' h1=>by simp_all [getObj,dQ]
        cases p with
        |true=>
         cases ov with
         |none=>exact hpo.elim |some v=>
          refine fin _ ah v hpo.1 hφ fun w' h1 h2=>?_
          obtain ⟨r,e1,e2⟩:=G8 hp (n:=n) (w:=w') hok.key;rw[ex,dy];rcases e2 with ⟨_,e2⟩ |⟨i,m,rfl,e3,e4⟩
          ·obtain ⟨m,hm,q⟩:=hok.ex _ _ hat
           simp_all
          ·have hv:=hok.VD m (aT e3) n e4
           rw[hat] at hv;injection hv with hv
           subst hv;cases ok<;>simp[cE,run_underlying ht,hg w' h1,hp.chk,e1]
        |false=>
         cases ov with
         |some v=>exact hpo.elim |none=>
          refine fin _ ag zv hzd hφ fun w' h1 h2=>?_
          obtain ⟨r,e1,e2⟩:=G8 hp (n:=n) (w:=w') hok.key;rw[ex,dy];rcases e2 with ⟨rfl,_⟩ |⟨i,m,_,e3,e4⟩
          ·cases ok<;>simp[cE,run_underlying ht,hg w' h1,hp.chk,e1,OQ]
          ·have hv:=hok.VD m (aT e3) n e4
           simp_all
       ·exact h.elim
      ·exact h.elim
     ·exact h.elim
    ·rename_i kk z hkk hz
     rw[hkk] at hkt;have hzero:∃zv:Value,Den H E z zv/\∀w:World,(zeroValue e).run P w=.ok zv w:=by
      obtain ⟨inf,zv,h1,h2,_,h4,h5,h6,h7,h8⟩:=hte.info;have h5':ni H E te.zero zv.cells.toList:=h5.le (fun _ _ e=>by cases e) (fun _ _ e=>by cases e);refine ⟨zv,?_,fun w=>by simp[zeroValue,typeInfo,h1,h4]⟩;rcases Fg hz with ⟨ha,rfl⟩ |⟨ha,hl⟩
      ·obtain ⟨cs,rfl⟩:=h7 ha
       exact ⟨cs,rfl,h5'⟩
      ·rw[hl] at h5'
       have h8:=(h8 ha).2;cases zv with
       |agg cs=>simp[da] at h8 |_=>
        simp_all [eS,ni]
     obtain ⟨zv,hzd,OQ⟩:=hzero;have fin:∀(sv:SV) (b:Bool) (v:Value),Den H E sv v->(zV c ok sv b).All φ->(∀w',OH H E c.hp w w'->H.on w'->(cE t (a.eval x) (a.eval y) ok).run P w'=.ok (if ok then .tuple #[v,.bool b] else v) w')->Qg P H E w c a o φ:=by
      intro sv b v hdv hφ hr;refine ⟨_,_,hφ,rfl,Qq (c:=c) hdv,fun w' h1 h2=>?_⟩;simp_all [execOp]
     split at h
     ·rename_i hx
      rw[hx] at dx;have dx:a.eval x=.map ao:=dx;split at h
      ·rename_i j n l hk
       have dy:a.eval y=.int j n:=Dw hk dy;cases hb:(j==kk)<;>simp only[hb,cond_true,cond_false] at h
       ·exact h.elim
       obtain rfl:j=kk:=by grind
       refine fin _ _ _ hzd h fun w' h1 h2=>?_
       rw[dx,dy];exact (CQ ht hkt (OQ w') (te:=te) (.inl ⟨rfl,rfl⟩)).1 rfl
      ·exact h.elim
     ·rename_i id hx
      rw[hx] at dx;obtain ⟨b,he,ex⟩:=dx;split at h
      ·rename_i es hl
       obtain ⟨b',ms,clk,he',hw,hdm,_⟩:=hh.ent _ _ hl;rw[he] at he';cases he';have hkeep:∀w',OH H E c.hp w w'->w'.heap[b]?=ae (.map ms clk):=fun w' ha=>by
        grind [AP,nU,nH]
       split at h
       ·rename_i k n hy
        rw[hy] at dy;have dy:a.eval y=.int k n:=dy;cases hb:(k==kk)<;>simp only[hb,cond_true,cond_false] at h
        ·exact h.elim
        obtain rfl:k=kk:=by grind
        split at h
        ·rename_i sv hf
         rcases OO 0 hf hdm with ⟨e1,_⟩ |⟨sv',i,v,e1,e2,e3⟩
         ·cases e1
         ·cases e1
          refine fin _ _ _ e3 h fun w' h1 h2=>?_
          rw[ex,dy];exact (CQ ht hkt (OQ w') (te:=te) (.inr ⟨b,clk,rfl,by simp_all⟩)).2 i v e2
        ·rename_i hf
         rcases OO 0 hf hdm with ⟨_,e2⟩ |⟨sv',i,v,e1,_⟩
         ·refine fin _ _ _ hzd h fun w' h1 h2=>?_
          rw[ex,dy];exact (CQ ht hkt (OQ w') (te:=te) (.inr ⟨b,clk,rfl,by simp_all⟩)).1 e2
         ·cases e1
        ·exact h.elim
       ·rename_i k n hy
        rw[hy] at dy;have dy:a.eval y=.int k n:=dy;cases hb:(k==kk)<;>simp only[hb,cond_true,cond_false] at h
        ·exact h.elim
        obtain rfl:k=kk:=by grind
        rcases aan hC.A 0 h hdm with ⟨e2,hφ⟩ |⟨sv',i,v,hφ,e2,e3⟩
        ·refine fin _ _ _ hzd hφ fun w' h1 h2=>?_
         rw[ex,dy];exact (CQ ht hkt (OQ w') (te:=te) (.inr ⟨b,clk,rfl,by simp_all⟩)).1 e2
        ·refine fin _ _ _ e3 hφ fun w' h1 h2=>?_
         rw[ex,dy];exact (CQ ht hkt (OQ w') (te:=te) (.inr ⟨b,clk,rfl,by simp_all⟩)).2 i v e2
       ·exact h.elim
      ·rename_i fk M fs us tag hl
       obtain ⟨b',ms,clk,fv,uv,he',hw,d1,d2,hM,hok,_,_⟩:=hh.ent _ _ hl;rw[he] at he';cases he';have hkeep:∀w',OH H E c.hp w w'->w'.heap[b]?=ae (.map ms clk):=fun w' ha=>by
        grind [AP,nU,nH]
       split at h
       ·rename_i j n l hk
        have dy:a.eval y=.int j n:=Dw hk dy;cases hb:(j==kk&&fk==kk)<;>simp only[hb,cond_true,cond_false] at h
        ·exact h.elim
        simp only[ak,beq_iff_eq] at hb;obtain ⟨rfl,rfl⟩:=hb;rw[hC.A] at h;obtain ⟨p,sv,o,hφ,hpo,hat⟩:=UK hM d2 d1 h;rw[<-hok.at_] at hat;cases p with
        |true=>
         cases o with
         |none=>exact hpo.elim |some v=>
          obtain ⟨i,hi⟩:=zX hok.key 0 hat;refine fin _ _ _ hpo.1 hφ fun w' h1 h2=>?_
          rw[ex,dy];exact (CQ ht hkt (OQ w') (te:=te) (.inr ⟨b,clk,rfl,by simp_all⟩)).2 _ _ hi.1
        |false=>
         cases o with
         |some v=>exact hpo.elim |none=>
          have hi:=Dx hok.key 0 hat;refine fin _ _ _ hzd hφ fun w' h1 h2=>?_
          rw[ex,dy];exact (CQ ht hkt (OQ w') (te:=te) (.inr ⟨b,clk,rfl,by simp_all⟩)).1 hi
       ·exact h.elim
      ·exact h.elim
     ·exact h.elim
    ·exact h.elim
   ·exact h.elim
  ·exact h.elim
 ·exact h.elim
theorem ajH{t e:Nat}(hu:P.underlying t=ae (.slice e))(A:Option Addr)(n k:Nat)(w:World):(b8 t (.slice A n k) (.slice ao 0 0)).run P w=.ok A.isNone w:=by
 have:∀n':Nat,(bH (n'+1) t (.slice A n k) (.slice ao 0 0)).run P w=.ok A.isNone w:=fun n'=>by
  cases A<;>simp[bH,run_underlying hu]
 exact this 9999
theorem agt{hp:List (Nat×SB)}{x:SV}{n:Nat}{u:Value}(hh:nI K H E w hp)(h:alp hp x=ae n)(dx:Den H E x u):∃A k,u=.slice A n k/\(0<n->A.isNone=ag):=by
 unfold alp at h;split at h
 ·rename_i id
  obtain ⟨he,A,m,cc,rfl⟩:=dx;have key:∀{elem st n:Nat} {xs:List Value},w.ownsRow 0 elem st (.slice A m cc) n xs->m=n/\(0<n->A.isNone=ag):=fun {elem st n xs} hr=>by
   (rcases hr.2 with ⟨h1,rfl⟩ |⟨g,cap,cur,h1,_⟩)<;>simp_all
  split at h
  ·rename_i cells el st m' hl
   cases h;obtain ⟨v,xs,he',hr,_,_⟩:=hh.ent _ _ hl;grind
  ·rename_i el st m' g hl
   cases h;obtain ⟨v,xs,he',hr,_,_⟩:=hh.ent _ _ hl;grind
  ·rename_i st m' g hl
   cases h;obtain ⟨v,he',hr⟩:=hh.ent _ _ hl;rw[he] at he';cases he';(cases hr)<;>simp_all
  ·cases h
 ·cases h
  (cases dx)<;>simp_all
 ·cases h
theorem DI{x:SV}{l:List UInt8}{v:Value}(h:textOf x=ae l)(d:Den H E x v):v=.string ⟨l.toArray⟩:=by
 unfold textOf at h;split at h
 ·cases h;exact d
 ·cases h;exact Ih d
 ·cases h
theorem abM{P:Program}(l l':List UInt8)(h:l.length+l'.length<=9223372036854775807)(t:Nat)(x y:Operand)(w:World):
  (do eqGuard .add t x y (.string ⟨l.toArray⟩) (.string ⟨l'.toArray⟩);binOp .add t (.string ⟨l.toArray⟩) (.string ⟨l'.toArray⟩):Sem Value).run P w=.ok (.string ⟨(l++l').toArray⟩) w:=by
 have e:(⟨l.toArray⟩:ByteArray)++⟨l'.toArray⟩=⟨(l++l').toArray⟩:=by
  rfl
 have h1:(eqGuard .add t x y (.string ⟨l.toArray⟩) (.string ⟨l'.toArray⟩):Sem Unit).run P w=.ok () w:=by rfl
 simp_all [ct,binOp,Go.run_string_add_sum,iE]
theorem UM{x:SV}{k:IntKind}{n:Int}{b:Bool}{u:Value}(h:numOf x=ae (k,n,b))(hd:Den H E x u):u=.int k n:=by
 unfold numOf at h;split at h
 ·cases h;exact hd
 ·cases h;exact hd
 ·cases h
theorem ajI{op:BinOp}{k l:IntKind}{a b:Int}(h:(op=.shl/\0<=b)\/(op=.shr/\0<=b)\/(op=.quo/\k=l/\b≠0)\/(op=.rem/\k=l/\b≠0)\/((op=.and\/op=.or\/op=.xor\/op=.andNot)/\k=l))(t:Nat)(x y:Operand)(w:World):
  (do eqGuard op t x y (.int k a) (.int l b);binOp op t (.int k a) (.int l b):Sem Value).run P w=.ok (.int k (P5 op k a b)) w:=by
 rcases h with ⟨rfl,h⟩ |⟨rfl,h⟩ |⟨rfl,rfl,h⟩ |⟨rfl,rfl,h⟩ |⟨h,rfl⟩
 ·have:¬b<0:=by omega
  simp[eqGuard,binOp,Op.shift,this,P5]
 ·have:¬b<0:=by omega
  simp[eqGuard,binOp,Op.shift,this,P5]
 ·simp[eqGuard,binOp,Op.intDiv,h,P5]
 ·simp[eqGuard,binOp,Op.intDiv,h,P5]
 ·rcases h with rfl|rfl|rfl|rfl<;>simp[eqGuard,binOp,Op.intBits,P5]
theorem ajJ{A:Prim}(hA:A=mM){op:BinOp}{k:IntKind}{a b:Int}{la lb:Bool}{c:Core}{φ:SV×Core->Prop}(h:(EX A op k a b la lb c).All φ):∃sv,φ (sv,c)/\Den H E sv (.int k (P5 op k a b)):=by
 subst hA;unfold EX at h;refine ⟨_,h,?_⟩;cases la<;>cases lb<;>rfl
theorem alK{c:Core}{a:Act}{op:BinOp}{t:Nat}{x y:Operand}{φ:SV×Core->Prop}{r:Tree (SV×Core)}(hC:oC P C)(hd:ni H E c.tm a.tmps.toList)(hr:alq C c op (oI c.tm x) (oI c.tm y)=ae r)(h:r.All φ):
  ∃(p:SV×Core) (v:Value),φ p/\p.2=c/\Den H E p.1 v/\∀w',(do eqGuard op t x y (a.eval x) (a.eval y);binOp op t (a.eval x) (a.eval y):Sem Value).run P w'=.ok v w':=by
 have dx:=ou (H:=H) (E:=E) hd x;have dy:=ou (H:=H) (E:=E) hd y;have fin:∀{k l:IntKind} {n m:Int} {la lb:Bool},numOf (oI c.tm x)=ae (k,n,la)->numOf (oI c.tm y)=ae (l,m,lb)->(EX C.A op k n m la lb c).All φ->
   ((op=.shl/\0<=m)\/(op=.shr/\0<=m)\/(op=.quo/\k=l/\m≠0)\/(op=.rem/\k=l/\m≠0)\/((op=.and\/op=.or\/op=.xor\/op=.andNot)/\k=l))->
   ∃(p:SV×Core) (v:Value),φ p/\p.2=c/\Den H E p.1 v/\∀w',(do eqGuard op t x y (a.eval x) (a.eval y);binOp op t (a.eval x) (a.eval y):Sem Value).run P w'=.ok v w':=by
  intro k l n m la lb h1 h2 h3 h4;obtain ⟨sv,h5,h6⟩:=ajJ hC.A h3;refine ⟨_,_,h5,rfl,h6,fun w'=>?_⟩;rw[UM h1 dx,UM h2 dy];grind [ajI]
 unfold alq at hr;split at hr
 ·rename_i k n la l m lb h1 h2
  cases hr;cases lb<;>simp only[cond_true,cond_false] at h
  ·rw[hC.A] at h
   have h0:(0:Int)<=m:=of_decide_eq_true h.1;exact fin h1 h2 (by rw[hC.A];exact h.2) (.inl ⟨rfl,h0⟩)
  ·cases h0:decide (0<=m)<;>simp only[h0,cond_true,cond_false] at h
   ·exact h.elim
   simp_all
 ·rename_i k n la l m lb h1 h2
  cases hr;cases lb<;>simp only[cond_true,cond_false] at h
  ·rw[hC.A] at h
   have h0:(0:Int)<=m:=of_decide_eq_true h.1;exact fin h1 h2 (by rw[hC.A];exact h.2) (.inr (.inl ⟨rfl,h0⟩))
  ·cases h0:decide (0<=m)<;>simp only[h0,cond_true,cond_false] at h
   ·exact h.elim
   simp_all
 ·rename_i k n la l m lb h1 h2
  cases hk:(k==l)<;>simp only[hk,cond_true,cond_false] at hr
  ·cases hr
  cases hr;have hk:k=l:=by grind
  cases lb<;>simp only[cond_true,cond_false] at h
  ·rw[hC.A] at h
   have h0:(!(m==0))=ah:=h.1;exact fin h1 h2 (by rw[hC.A];exact h.2) (.inr (.inr (.inl ⟨rfl,hk,by grind⟩)))
  ·cases h0:(m==0)<;>simp only[h0,cond_true,cond_false] at h
   ·simp_all
   ·exact h.elim
 ·rename_i k n la l m lb h1 h2
  cases hk:(k==l)<;>simp only[hk,cond_true,cond_false] at hr
  ·cases hr
  cases hr;have hk:k=l:=by grind
  cases lb<;>simp only[cond_true,cond_false] at h
  ·rw[hC.A] at h
   have h0:(!(m==0))=ah:=h.1;exact fin h1 h2 (by rw[hC.A];exact h.2) (.inr (.inr (.inr (.inl ⟨rfl,hk,by grind⟩))))
  ·cases h0:(m==0)<;>simp only[h0,cond_true,cond_false] at h
   ·simp_all
   ·exact h.elim
 all_goals first
  |(cases hr;done)
  |(rename_i k n la l m lb h1 h2
    cases hk:(k==l)<;>simp only[hk,cond_true,cond_false] at hr
    ·cases hr
    cases hr;have hk:k=l:=by grind
    exact fin h1 h2 h (.inr (.inr (.inr (.inr ⟨by simp,hk⟩)))))
theorem WQ{c:Core}{a:Act}{o:Oper}{op:BinOp}{t t2:Nat}{x y:Operand}{φ:SV×Core->Prop}(hC:oC P C)(hg:qE C.gls H)(ho:o.op=.binOp op t x y t2)(hd:ni H E c.tm a.tmps.toList)(hh:nI K H E w c.hp)
  (h:(Wx C c op t x y (isConst x||isConst y)).All φ):∃(p:SV×Core) (v:Value),φ p/\p.2=c/\Den H E p.1 v/\∀w',((BZ (oI c.tm x)&&BZ (oI c.tm y))=ah->H.on w')->(execOp a.eval o).run P w'=.ok (.value v) w':=by
 unfold Wx at h;split at h
 ·rename_i r hr
  obtain ⟨p,v,h1,h2,h3,h4⟩:=alK (t:=t) hC hd hr h;refine ⟨p,v,h1,h2,h3,fun w' _=>?_⟩;have:=h4 w';simp only[execOp,ho];simp only[ct] at this ⊢;rw[this];rfl
 split at h
 ·rename_i r hr
  unfold aie at hr;split at hr
  ·split at hr
   ·rename_i l l' h1 h2
    cases hr;obtain ⟨h3,hφ⟩:=h;rw[hC.A] at h3 hφ;have ex:=DI h1 (ou (H:=H) (E:=E) hd x);have ey:=DI h2 (ou (H:=H) (E:=E) hd y);have h3:l.length+l'.length<=9223372036854775807:=of_decide_eq_true h3;refine ⟨_,.string ⟨(l++l').toArray⟩,hφ,rfl,?_,fun w' _=>?_⟩
    ·show Den H E (match oI c.tm x,oI c.tm y with
      | .str a,.str b=>.str (a++b) |_,_=>.sh (.str (mM.app l l'))) _
     split
     ·rename_i q1 q2
      rw[q1] at h1;rw[q2] at h2;cases h1;cases h2;rfl
     ·exact .str _
    have:=abM (P:=P) l l' h3 t x y w';simp only[execOp,ho,ex,ey];simp only[ct] at this ⊢;rw[this];rfl
   ·cases hr
  ·cases hr
 split at h
 ·rename_i r hr
  unfold aag at hr;split at hr
  ·rename_i i hi
   split at hr
   ·rename_i e hty
    have ht:=(hC.ty _ _ hi).desc;rw[hty] at ht;have ht:P.underlying t=ae (.slice e):=ht;cases hn:Sr y<;>simp only[hn,cond_true,cond_false] at hr
    ·cases hr
    have ey:a.eval y=.slice ao 0 0:=by
     unfold Sr at hn;split at hn
     ·rfl
     ·cases hn
    split at hr
    ·rename_i va vb hva hvb
     have dx:=ou (H:=H) (E:=E) hd x;have fin:∀(r:Bool) (sv:SV) (A:Option Addr) (n k:Nat),a.eval x=.slice A n k->A.isNone=r->su op r=ae sv->φ (sv,c)->∃(p:SV×Core) (v:Value),φ p/\p.2=c/\Den H E p.1 v/\∀w',((BZ (oI c.tm x)&&BZ (oI c.tm y))=ah->H.on w')->(execOp a.eval o).run P w'=.ok (.value v) w':=by
      intro r sv A n k ex hA hop hφ;have hgd:eqGuard op t x y (.slice A n k) (.slice ao 0 0)=pure ():=by
       simp_all [eqGuard]
      have he1:binOp .eql t (.slice A n k) (.slice ao 0 0)=(do pure (.bool (<-b8 t (.slice A n k) (.slice ao 0 0)))):=rfl;have he2:binOp .neq t (.slice A n k) (.slice ao 0 0)=(do pure (.bool (!(<-b8 t (.slice A n k) (.slice ao 0 0))))):=rfl;obtain ⟨rv,h1,h2⟩:=tq (H:=H) (E:=E) hop hgd he1 he2 fun w=>by rw[<-hA];exact ajH ht A n k w
      refine ⟨_,rv,hφ,rfl,h1,fun w' _=>?_⟩;simp_all [execOp]
     split at hr
     ·rename_i hx
      cases hr;rw[hx] at dx;exact fin ah _ ao 0 0 dx rfl hva h
     ·split at hr
      ·rename_i n hn2
       cases hr;obtain ⟨A,k,ex,hA⟩:=agt hh hn2 dx;cases hb:C.A.Wu n 0 with
       |true=>
        obtain ⟨h1,h2⟩:=h.1 hb;cases hx:A.isNone with
        |true=>exact fin ah _ A n k ex hx hva h1 |false=>exact fin ag _ A n k ex hx hvb h2
       |false=>
        rw[hC.A] at hb;exact fin ag _ A n k ex (hA (by grind [mM,Nat.pos_iff_ne_zero])) hvb (h.2 (by rw[hC.A];exact hb))
      ·cases hr
    ·cases hr
   ·cases hr
  ·cases hr
 ·refine alG hC hg ho hd ?_
  assumption
theorem ady{C:Ctx}{c:Core}{a:Act}{o:Oper}{t:TypeId}{x i:Operand}{φ:SV×Core->Prop}(hC:oC P C)(ho:o.op=.index t x i)(hd:ni H E c.tm a.tmps.toList)
  (h:(OE C c t (oI c.tm x) (oI c.tm i)).All φ):QP P H E c a o φ:=by
 have dx:=ou (H:=H) (E:=E) hd x;have di:=ou (H:=H) (E:=E) hd i;unfold OE at h;split at h
 ·rename_i ti l k n e1 e2 e3
  rw[e3] at di;have dx:=DI e2 dx;have di:a.eval i=_:=di;have ht:=(hC.ty _ _ e1).desc;split at h
  ·rename_i et
   rw[et] at ht;cases hn:decide (0<=n)<;>simp only[hn,cond_true,cond_false] at h
   ·exact h.elim
   obtain ⟨v,hv,hφ⟩:=yV h;obtain ⟨b,hb,rfl⟩:=aP.1 hv;refine ⟨_,.int .u8 (b.toNat:Int),hφ,rfl,rfl,fun w'=>?_⟩;have hs:(jg l.toArray)[n.toNat]?=ae b:=by
    obtain ⟨h1,h2⟩:=aJ.1 hb;rw[getElem?_pos (jg l.toArray) n.toNat (by simpa[iE] using h1)];exact congrArg ae h2
   have hn:0<=n:=of_decide_eq_true hn;have ht:P.underlying t=ae .string:=ht;simp[execOp,ho,dx,di,Instr.index,asIntOf,run_underlying ht,hn,hs]
  ·exact h.elim
 ·exact h.elim
theorem Qs{call:Nat->List SV->Core->Tree (SV×Core)}{c:Core}{a:Act}{o:Oper}{φ:SV×Core->Prop}(hC:oC P C)(hd:ni H E c.tm a.tmps.toList)(hh:nI K H E w c.hp)(hg:qE C.gls H)
  (hq:qW o.op=ah) (h:(Je C call c o).All φ):Qg P H E w c a o φ:=by
 unfold Je at h;split at h;case h_1 x ho=>exact (VX (.inl ho) hd h).q
 case h_2 x ho=>exact (VX (.inr ho) hd h).q
 case h_3 x y z ho=>exact (ail hC.A ho hd h).q
 case h_6 t parts ho=>exact (adw hC ho hd h).q
 case h_8 t x ho=>grind [apF]
 case h_10 x ho=>exact (alE ho hd h).q
 case h_11 op t x y t2 ho=>exact let ⟨p,v,h1,h2,h3,h4⟩:=WQ hC hg ho hd hh h;⟨p,v,h1,h2,h3,fun w' _ hon=>h4 w' fun _=>hon⟩
 case h_12 t x ho=>exact (alC hC.A ho hd h).q
 case h_13 t x ho=>exact (alD hC.A ho hd h).q
 case h_14 t x f ho=>exact (Qi hC ho hd h).q
 case h_15 t x f ho=>exact (adp hC ho hd h).q
 case h_16 t x i ho=>exact (Qk hC ho hd hh hg h).q
 case h_17 x i ho=>exact (WH ho hd h).q
 case h_18 f fs cs ho=>exact (UC ho hd h).q
 case h_19 t x ho=>exact (Ii hC ho hd h).q
 case h_23 t m k ok ho=>grind [ajG]
 case h_28 k ho=>
  rw[ho] at hq;unfold MZ at h;split at h
  ·rename_i b hb
   obtain ⟨callee,xs,ts⟩:=k;simp only at hb;subst hb;simp only at h;split at h
   ·rename_i x t h1 h2
    split at h
    ·rename_i i hi
     cases hf:Ic i.ty (oI c.tm x)<;>simp only[hf,cond_true,cond_false] at h
     ·exact h.elim
     have e1:xs=#[x]:=by grind
     have e2:ts=#[t]:=by grind
     subst e1 e2;exact (q_len hC hd hh ho hi hf h).q
    ·exact h.elim
   ·simp[qW] at hq
   ·simp[qW] at hq
   ·rename_i x y h1
    have e1:xs=#[x,y]:=by grind
    subst e1;exact (abL (mx:=ah) hC hd ho h).q
   ·rename_i x y h1
    have e1:xs=#[x,y]:=by grind
    subst e1;exact (abL (mx:=ag) hC hd ho h).q
   ·exact h.elim
  ·rename_i f hb
   obtain ⟨callee,xs,ts⟩:=k;simp_all [qW]
  ·exact h.elim
 case h_30 t x i ho=>exact (ady hC ho hd h).q
 case h_31=>exact h.elim
 all_goals simp_all [qW]
theorem adz{call:Nat->List SV->Core->Tree (SV×Core)}{c:Core}{a:Act}{o:Oper}{φ:SV×Core->Prop}(hC:oC P C)(hd:ni H E c.tm a.tmps.toList)(hh:nI K H E w c.hp)(hg:qE C.gls H)
  (hq:Ez c.tm o.op=ah) (h:(Je C call c o).All φ):QP P H E c a o φ:=by
 unfold Je at h;split at h;case h_1 x ho=>simp_all [VX]
 case h_2 x ho=>simp_all [VX]
 case h_3 x y z ho=>exact ail hC.A ho hd h
 case h_6 t parts ho=>grind [adw]
 case h_10 x ho=>exact alE ho hd h
 case h_11 op t x y t2 ho=>
  rw[ho] at hq;exact let ⟨p,v,h1,h2,h3,h4⟩:=WQ hC hg ho hd hh h;⟨p,v,h1,h2,h3,fun w'=>h4 w' fun e=>by grind [Ez]⟩
 case h_12 t x ho=>exact alC hC.A ho hd h
 case h_13 t x ho=>exact alD hC.A ho hd h
 case h_14 t x f ho=>grind [Qi]
 case h_15 t x f ho=>grind [adp]
 case h_16 t x i ho=>grind [Qk]
 case h_17 x i ho=>exact WH ho hd h
 case h_18 f fs cs ho=>exact UC ho hd h
 case h_19 t x ho=>grind [Ii]
 case h_28 k ho=>
  rw[ho] at hq;unfold MZ at h;split at h
  ·rename_i b hb
   obtain ⟨callee,xs,ts⟩:=k;simp only at hb;subst hb;simp only at h;split at h
   ·rename_i x t h1 h2
    split at h
    ·rename_i i hi
     cases hf:Ic i.ty (oI c.tm x)<;>simp only[hf,cond_true,cond_false] at h
     ·exact h.elim
     have e1:xs=#[x]:=by grind
     have e2:ts=#[t]:=by grind
     subst e1 e2;exact q_len hC hd hh ho hi hf h
    ·exact h.elim
   ·simp[Ez,qW] at hq
   ·simp[Ez,qW] at hq
   ·rename_i x y h1
    have e1:xs=#[x,y]:=by grind
    grind [abL]
   ·rename_i x y h1
    have e1:xs=#[x,y]:=by grind
    grind [abL]
   ·exact h.elim
  ·rename_i f hb
   obtain ⟨callee,xs,ts⟩:=k;simp_all [Ez,qW]
  ·exact h.elim
 case h_30 t x i ho=>exact ady hC ho hd h
 case h_31=>exact h.elim
 all_goals simp_all [Ez,qW]
mutual
theorem aao:∀{x:SV} {v:Value},Den H E x v->Den H E x.hard v
 | .agg l,_,h=>by obtain ⟨vs,e,h⟩:=h;exact ⟨vs,e,OT h⟩ | .mX l,_,h=>by obtain ⟨vs,e,h⟩:=h;exact ⟨vs,e,OT h⟩ | .any,_,h| .val _,_,h| .int _ _,_,h| .sym _ _,_,h| .bool _,_,h| .test _,_,h| .str _,_,h| .ptr _ _,_,h| .gs _,_,h| .gp _ _ _ _,_,h| .uN,_,h| .nS,_,h| .xX,_,h| .sS,_,h| .wS,_,h| .fn _ _,_,h| .qK _ _,_,h| .mp _,_,h| .sh _,_,h| .yD _ _ _ _ _,_,h| .glob _,_,h| .ev _,_,h| .vw _ _,_,h=>h
theorem OT:∀{l:List SV} {vs:List Value},ni H E l vs->ni H E (abz l) vs
 |[],[],_=>trivial |_::_,_::_,h=>⟨aao h.1,OT h.2⟩ |[],_::_,h=>h.elim |_::_,[],h=>h.elim
end
theorem Tree.Ak{α β:Type}{φ:β->Prop}{k:α->Tree β}:∀{t:Tree α},(t.bind k).All φ->t.All fun a=>(k a).All φ
 | .leaf _,h=>h | .node _ _ _,h=>⟨fun e=>Tree.Ak (h.1 e),fun e=>Tree.Ak (h.2 e)⟩ | .need _ _,h=>⟨h.1,Tree.Ak h.2⟩ | .must _ _,h=>⟨h.1,Tree.Ak h.2⟩ | .both _ _,h=>⟨Tree.Ak h.1,Tree.Ak h.2⟩ | .fail,h=>h.elim
theorem OU{call:Nat->List SV->Core->Tree (SV×Core)}{c:Core}{o:Oper}{φ:SV×Core->Prop}(h:(exec C call c o).All φ):∃ψ:SV×Core->Prop,(Je C call c o).All ψ/\∀p,ψ p->∃x,φ (x,p.2)/\∀(H:Mem) (E:Env) (v:Value),Den H E p.1 v->Den H E x v:=by
 unfold exec at h;cases hl:C.lits<;>simp only[hl,cond_true,cond_false] at h
 ·grind
 ·exact ⟨_,Tree.Ak h,fun p hp=>⟨p.1.hard,hp,fun _ _ _ e=>aao e⟩⟩
theorem adA{call:Nat->List SV->Core->Tree (SV×Core)}{c:Core}{a:Act}{o:Oper}{φ:SV×Core->Prop}(hC:oC P C)(hd:ni H E c.tm a.tmps.toList)(hh:nI K H E w c.hp)(hg:qE C.gls H)
  (hq:qW o.op=ah) (h:(exec C call c o).All φ):Qg P H E w c a o φ:=by
 obtain ⟨ψ,h,hψ⟩:=OU h;obtain ⟨p,v,h1,h2,h3,h4⟩:=Qs hC hd hh hg hq h;obtain ⟨x,q1,q2⟩:=hψ p h1;exact ⟨(x,p.2),v,q1,h2,q2 _ _ _ h3,h4⟩
theorem agu{call:Nat->List SV->Core->Tree (SV×Core)}{c:Core}{a:Act}{o:Oper}{φ:SV×Core->Prop}(hC:oC P C)(hd:ni H E c.tm a.tmps.toList)(hh:nI K H E w c.hp)(hg:qE C.gls H)
  (hq:Ez c.tm o.op=ah) (h:(exec C call c o).All φ):QP P H E c a o φ:=by
 obtain ⟨ψ,h,hψ⟩:=OU h;obtain ⟨p,v,h1,h2,h3,h4⟩:=adz hC hd hh hg hq h;obtain ⟨x,q1,q2⟩:=hψ p h1;exact ⟨(x,p.2),v,q1,h2,q2 _ _ _ h3,h4⟩
end
open Go.RowKit (Below)
def bk(E:Env)(id:Nat):Option Nat:=(E id).bind nH
def Free(E:Env)(c:Core):Prop:=∀i,c.nx<=i->i<c.lim->E i=ao
structure Post(K:Kx)(H:Mem)(E:Env)(w:World)(c:Core)(H':Mem)(E':Env)(w':World)(c':Core):Prop where
 x9:H.le H'
 BR:E.le E'
 new:∀i,E i=ao->E' i≠ao->c.nx<=i/\i<c'.nx
 nx:c.nx<=c'.nx
 lim:c'.nx<=c.lim\/c'.nx=c.nx
 aap:c'.lim=c.lim
 tm:c'.tm=c.tm
 hp:nI K H' E' w' c'.hp
 o7:sF K H' w'
 tc:∀id∈c.tc,id∈c'.tc
 size:w.heap.size<=w'.heap.size
 fr:∀b,b<w.heap.size->(∀id∈c'.tc,bk E id≠ae b)->w'.heap[b]?=w.heap[b]?
 Fj:∀i b,E i=ao->bk E' i=ae b->w.heap.size<=b\/∃id∈c'.tc,bk E id=ae b
 SN:∀id∈c'.tc,id∈c.tc\/E id=ao\/∃sb,mQ c.hp id=ae sb/\nU E id sb=bk E id
 keep:∀id sb b,mQ c.hp id=ae sb->id ∉ c'.tc->nU E id sb=ae b->H' b≠ao\/∃sb',mQ c'.hp id=ae sb'/\nU E' id sb'=ae b
 old:∀id sb,mQ c'.hp id=ae sb->E id≠ao->∃sb0,mQ c.hp id=ae sb0/\∀b,nU E' id sb=ae b->nU E id sb0=ae b
section
variable{P:Program}{C:Ctx}{K:Kx}{H H':Mem}{E E':Env}{w w':World}
theorem xu{elem st n:Nat}{v:Value}{xs:List Value}(h:w.ownsRow 0 elem st v n xs)(hk:∀b,nH v=ae b->w'.heap[b]?=w.heap[b]?):w'.ownsRow 0 elem st v n xs:=by
 refine ⟨h.1,?_⟩;rcases h.2 with h2|⟨g,cap,cur,rfl,h3,h4,h5⟩
 ·exact .inl h2
 ·exact .inr ⟨g,cap,cur,rfl,h3,by rw[hk g rfl];exact h4,h5⟩
theorem Gj.le(hH:H.le H')(hE:E.le E'):∀{es:List (SV×SV)} {ms:List MapEntry},Gj H E es ms->Gj H' E' es ms
 |[],[],_=>trivial |(_,_)::_,_::_,⟨a,b,c⟩=>⟨a.le hH hE,b.le hH hE,Gj.le hH hE c⟩ |[],_::_,h=>h.elim |_::_,[],h=>h.elim
theorem xP.le(hH:H.le H')(hE:E.le E'):∀{l:List (Int×Bool×SV)} {v:List (Int×Option Value)},xP H E l v->xP H' E' l v
 |[],[],_=>trivial |(_,ah,_)::_,(_,ae _)::_,⟨a,b,c⟩=>⟨a,⟨b.1.le hH hE,b.2⟩,xP.le hH hE c⟩ |(_,ag,_)::_,(_,ao)::_,⟨a,_,c⟩=>⟨a,trivial,xP.le hH hE c⟩ |(_,ah,_)::_,(_,ao)::_,h=>h.2.1.elim |(_,ag,_)::_,(_,ae _)::_,h=>h.2.1.elim |[],_::_,h=>h.elim |_::_,[],h=>h.elim
theorem Qd.le(hH:H.le H')(hE:E.le E'):∀{l:List (rX×Bool×SV)} {v:List (rX×Option Value)},Qd H E l v->Qd H' E' l v
 |[],[],_=>trivial |(_,ah,_)::_,(_,ae _)::_,⟨a,b,c⟩=>⟨a,⟨b.1.le hH hE,b.2⟩,Qd.le hH hE c⟩ |(_,ag,_)::_,(_,ao)::_,⟨a,_,c⟩=>⟨a,trivial,Qd.le hH hE c⟩ |(_,ah,_)::_,(_,ao)::_,h=>h.2.1.elim |(_,ag,_)::_,(_,ae _)::_,h=>h.2.1.elim |[],_::_,h=>h.elim |_::_,[],h=>h.elim
theorem abI.le(hE:E.le E'){k:IntKind}{ms:List MapEntry}{t:Option (Nat×Int)}(h:abI E k ms t):abI E' k ms t:=by
 cases t with
 |none=>trivial |some p=>obtain ⟨m,a,b,c⟩:=h;exact ⟨m,a,b,hE _ _ c⟩
theorem ZK{e:Nat}{v:Value}{l:List UInt8}(h:xZ w e v l)(hk:∀b,nH v=ae b->w'.heap[b]?=w.heap[b]?):xZ w' e v l:=by
 rcases h with h|⟨g,cap,cur,fz,rfl,h1,h2⟩
 ·exact .inl h
 ·exact .inr ⟨g,cap,cur,fz,rfl,by rw[hk g rfl];exact h1,h2⟩
theorem adB{e b:Nat}{v:Value}{l:List UInt8}(h:xZ w e v l)(hb:nH v=ae b):b<w.heap.size:=by
 rcases h with ⟨rfl,_⟩ |⟨g,cap,cur,fz,rfl,h1,h2⟩
 ·simp[nH] at hb
 grind [nH,aI]
theorem xU.kept{id:Nat}{sb:SB}(h:xU K H E w id sb)(hH:H.le H')(hE:E.le E')(hb:∀b,nU E id sb=ae b->w'.heap[b]?=w.heap[b]?)(hm:∀b,nU E id sb=ae b->H' b=ao):xU K H' E' w' id sb:=by
 cases sb with
 |box cells elem=>
  obtain ⟨b,cs,he,h1,h2,h3⟩:=h;have ho:nU E id (.box cells elem)=ae b:=by simp[nU,he,nH]
  exact ⟨b,cs,hE _ _ he,by simp_all,h2.le hH hE,hm b ho,h3.2⟩
 |row cells elem st n=>
  obtain ⟨v,xs,he,h1,h2,h3⟩:=h;have ho:∀b,nH v=ae b->nU E id (.row cells elem st n)=ae b:=fun b hv=>by simp[nU,he,hv]
  exact ⟨v,xs,hE _ _ he,xu h1 fun b hv=>hb b (ho b hv),h2.le hH hE,fun b hv=>⟨hm b (ho b hv),(h3 b hv).2⟩⟩
 |own elem st n g=>
  obtain ⟨v,xs,he,h1,h2,h3⟩:=h;have ho:∀b,nH v=ae b->nU E id (.own elem st n g)=ae b:=fun b hv=>by simp[nU,he,hv]
  exact ⟨v,xs,hE _ _ he,xu h1 fun b hv=>hb b (ho b hv),h2.le hH,fun b hv=>⟨hm b (ho b hv),(h3 b hv).2⟩⟩
 |fz st n g=>
  obtain ⟨v,he,h1⟩:=h;exact ⟨v,hE _ _ he,h1.le hH⟩
 |map es=>
  obtain ⟨b,ms,clk,he,h1,h2,h3⟩:=h;have ho:nU E id (.map es)=ae b:=by simp[nU,he,nH]
  exact ⟨b,ms,clk,hE _ _ he,by simp_all,h2.le hH hE,hm b ho,h3.2⟩
 |KA l=>
  obtain ⟨v,he,h1⟩:=h;exact ⟨v,hE _ _ he,h1.le hH⟩
 |yE elem st n g more=>
  obtain ⟨v,xs,ys,he,h1,h2,h3,h4,h5,h6⟩:=h;have ho:∀b,nH v=ae b->nU E id (.yE elem st n g more)=ae b:=fun b hv=>by simp[nU,he,hv]
  exact ⟨v,xs,ys,hE _ _ he,xu h1 fun b hv=>hb b (ho b hv),h2.le hH,h3.le hH hE,h4,h5,fun b hv=>⟨hm b (ho b hv),(h6 b hv).2⟩⟩
 |fm k M fs us tag=>
  obtain ⟨b,ms,clk,fv,uv,he,h1,h2,h3,h4,h5,h6,h7⟩:=h;have ho:nU E id (.fm k M fs us tag)=ae b:=by simp[nU,he,nH]
  exact ⟨b,ms,clk,fv,uv,hE _ _ he,by simp_all,h2.le hH hE,h3.le hH hE,h4,h5,h6.le hE,hm b ho,h7.2⟩
 |pm vt M us=>
  obtain ⟨b,ms,clk,uv,he,h1,h2,h3,h4,h5,h7⟩:=h;have ho:nU E id (.pm vt M us)=ae b:=by simp[nU,he,nH]
  exact ⟨b,ms,clk,uv,hE _ _ he,by simp_all,h2.le hH hE,h3,h4,h5,hm b ho,h7.2⟩
 |buf e l=>
  obtain ⟨v,he,h1,h3⟩:=h;have ho:∀b,nH v=ae b->nU E id (.buf e l)=ae b:=fun b hv=>by simp[nU,he,hv]
  exact ⟨v,hE _ _ he,ZK h1 fun b hv=>hb b (ho b hv),fun b hv=>⟨hm b (ho b hv),(h3 b hv).2⟩⟩
theorem xU.lt{id:Nat}{sb:SB}(h:xU K H E w id sb){b:Nat}(hb:nU E id sb=ae b):b<w.heap.size/\Mine K H b:=by
 have lt:∀{b:Nat} {o:Obj},w.heap[b]?=ae o->b<w.heap.size:=fun h=>(aI.1 h).1;have lto:∀{elem st n:Nat} {v:Value} {xs:List Value},w.ownsRow 0 elem st v n xs->nH v=ae b->b<w.heap.size:=by
  intro elem st n v xs h hv;rcases h.2 with ⟨rfl,_⟩ |⟨g,_,_,rfl,_,h4,_⟩
  ·simp[nH] at hv
  ·simp[nH] at hv;subst hv;exact lt h4
 cases sb with
 |box cells elem=>
  obtain ⟨b',cs,he,h1,h2,h3⟩:=h;simp_all [nU,nH]
 |row cells elem st n=>
  obtain ⟨v,xs,he,h1,h2,h3⟩:=h;grind [nU]
 |own elem st n g=>
  obtain ⟨v,xs,he,h1,h2,h3⟩:=h;grind [nU]
 |fz st n g=>simp[nU] at hb |map es=>
  obtain ⟨b',ms,clk,he,h1,h2,h3⟩:=h;simp_all [nU,nH]
 |KA l=>simp[nU] at hb |yE elem st n g more=>
  obtain ⟨v,xs,ys,he,h1,h2,h3,h4,h5,h6⟩:=h;grind [nU]
 |fm k M fs us tag=>
  obtain ⟨b',ms,clk,fv,uv,he,h1,h2,h3,h4,h5,h6,h7⟩:=h;simp_all [nU,nH]
 |pm vt M us=>
  obtain ⟨b',ms,clk,uv,he,h1,h2,h3,h4,h5,h7⟩:=h;simp_all [nU,nH]
 |buf e l=>
  obtain ⟨v,he,h1,h3⟩:=h;simp[nU,he] at hb;exact ⟨adB h1 hb,h3 b hb⟩
theorem wW{id b:Nat}{sb:SB}(h:nU E id sb=ae b):bk E id=ae b:=by
 cases sb<;>simp[nU] at h<;>simpa[bk] using h
theorem VZ{id b:Nat}{sb:SB}(h:nU E id sb=ae b)(hE:E.le E'):nU E' id sb=ae b:=by
 have key:(E id).bind nH=ae b->(E' id).bind nH=ae b:=fun h=>by
  cases he:E id with
  |none=>grind |some v=>rw[hE _ _ he];simp_all
 (cases sb<;>simp only[nU] at h ⊢)<;>simp_all
theorem xU.some_{id:Nat}{sb:SB}(h:xU K H E w id sb):∃v,E id=ae v:=by
 cases sb with
 |box _ _=>obtain ⟨b,_,he,_⟩:=h;simp_all |row _ _ _ _=>obtain ⟨v,_,he,_⟩:=h;simp_all |own _ _ _ _=>obtain ⟨v,_,he,_⟩:=h;simp_all |fz _ _ _=>obtain ⟨v,he,_⟩:=h;simp_all |map _=>obtain ⟨b,_,_,he,_⟩:=h;simp_all |KA _=>obtain ⟨v,he,_⟩:=h;simp_all |yE _ _ _ _ _=>obtain ⟨v,_,_,he,_⟩:=h;simp_all |fm _ _ _ _ _=>obtain ⟨b,_,_,_,_,he,_⟩:=h;simp_all |pm _ _ _=>obtain ⟨b,_,_,_,he,_⟩:=h;simp_all |buf _ _=>obtain ⟨v,he,_⟩:=h;simp_all
theorem xW{id:Nat}{sb:SB}(h:xU K H E w id sb)(hE:E.le E'):nU E' id sb=nU E id sb:=by
 obtain ⟨v,he⟩:=h.some_;have he':=hE _ _ he;simp_all [nU]
theorem rU{α:Type}:∀(l:List (Nat×α)) (i j:Nat) (y:α),mQ (hset l i y) j=bif i==j then (mQ l i).map (fun _=>y) else mQ l j
 |[],i,j,y=>by simp_all [hset,mQ] |(k,x)::l,i,j,y=>by
  have ih:=rU l i j y;unfold hset;grind [mQ]
theorem uI{α:Type}:∀(l:List (Nat×α)) (i j:Nat) (y:α),mQ (hins l i y) j=bif i==j then ae y else mQ l j
 |[],i,j,y=>by rfl |(k,x)::l,i,j,y=>by
  have ih:=uI l i j y;unfold hins;cases hk:bO k i<;>simp only[cond_true,cond_false]
  ·rfl
  ·simp only[mQ,ih]
   cases hkj:(k==j)<;>cases hij:(i==j)<;>simp
   simp_all
theorem OV{α:Type}:∀(l:List (Nat×α)) (i j:Nat),mQ (hdel l i) j=bif i==j then ao else mQ l j
 |[],i,j=>by simp_all [hdel,mQ] |(k,x)::l,i,j=>by
  have ih:=OV l i j;unfold hdel;grind [mQ]
def Env.set(E:Env)(i:Nat)(v:Value):Env:=fun j=>if j=i then ae v else E j
theorem Env.abN{i:Nat}{v:Value}(h:E i=ao):E.le (E.set i v):=fun j u hj=>by
 grind [Env.set]
theorem Env.set_self(E:Env)(i:Nat)(v:Value):E.set i v i=ae v:=by simp[Env.set]
theorem zo(w:World)(o:Obj):(w.alloc o).heap[w.heap.size]?=ae o:=heap_alloc_new w o
theorem size_alloc(w:World)(o:Obj):(w.alloc o).heap.size=w.heap.size+1:=by simp
theorem sF.alloc(h:sF K H w)(o:Obj):sF K H (w.alloc o):=
 ⟨h.os,h.tape,h.output,by rw[size_alloc];have:=h.size;omega,fun b hb hn=>by rw[d6 w o b (by have:=h.size;omega)];exact h.kept b hb hn,
  fun b o' hb=>by
   have:=h.on b o' hb;grind [d6,aI],h.le,h.fresh⟩
theorem alL(h:sF K H w):H w.heap.size=ao:=by
 cases hb:H w.heap.size with
 |none=>rfl |some o=>have:=(aI.1 (h.on _ _ hb)).1;omega
theorem AQ(h:sF K H w):Mine K H w.heap.size:=⟨alL h,.inl h.size⟩
theorem yG{c:Core}{sb:SB}{sv:SV}{φ:SV×Core->Prop}{o:Obj}{v:Value}(hh:nI K H E w c.hp)(hw:sF K H w)(hf:Free E c)
  (h:(alloc c sb sv).All φ) (hv:nH v=ae w.heap.size) (he:xU K H (E.set c.nx v) (w.alloc o) c.nx sb) :
  ∃c',φ (sv,c')/\Post K H E w c H (E.set c.nx v) (w.alloc o) c':=by
 unfold alloc at h;cases hb:bO c.nx c.lim<;>simp only[hb,cond_true,cond_false] at h
 ·exact h.elim
 have hlt:=CP hb;have hnone:=hf c.nx (aV _) hlt;have hle:E.le (E.set c.nx v):=Env.abN hnone;refine ⟨_,h,fun _ _ e=>e,hle,?_,by simp,.inl (by simp;omega),rfl,rfl,?_,hw.alloc o,fun _ h=>h,by simp,fun b hb _=>d6 w o b hb,?_,?_,?_,?_⟩
 ·simp_all [Env.set]
 ·refine ⟨fun id sb' hl=>?_,fun id id' sb1 Qu b h1 h2 o1 o2=>?_⟩
  ·rw[uI] at hl
   cases hid:(c.nx==id)<;>simp only[hid,cond_true,cond_false] at hl
   ·have hent:=hh.ent id sb' hl
    exact hent.kept (fun _ _ e=>e) hle (fun b hb=>d6 w o b (hent.lt hb).1) (fun b hb=>(hent.lt hb).2.1)
   simp_all
  ·rw[uI] at h1 h2
   cases hid:(c.nx==id)<;>cases adC:(c.nx==id')<;>simp only[hid,adC,cond_true,cond_false] at h1 h2
   ·rw[xW (hh.ent _ _ h1) hle] at o1
    rw[xW (hh.ent _ _ h2) hle] at o2;exact hh.vV _ _ _ _ _ h1 h2 o1 o2
   ·obtain rfl:c.nx=id':=by simp_all
    rw[xW (hh.ent _ _ h1) hle] at o1;have e2:=wW o2;simp[bk,Env.set,hv] at e2;have:=((hh.ent _ _ h1).lt o1).1;omega
   ·obtain rfl:c.nx=id:=by grind
    rw[xW (hh.ent _ _ h2) hle] at o2;have e1:=wW o1;simp[bk,Env.set,hv] at e1;have:=((hh.ent _ _ h2).lt o2).1;omega
   simp_all
 ·grind [bk,Env.set]
 ·simp_all
 ·intro id sb' b hl _ ho
  refine .inr ⟨sb',?_,VZ ho hle⟩;simp only[uI];cases hid:(c.nx==id)<;>simp only[cond_true,cond_false]
  ·exact hl
  ·obtain rfl:c.nx=id:=by grind
   obtain ⟨u,hu⟩:=(hh.ent _ _ hl).some_;simp_all
 ·intro id sb' hl hne
  simp only[uI] at hl;cases hid:(c.nx==id)<;>simp only[hid,cond_true,cond_false] at hl
  ·exact ⟨sb',hl,fun b ho=>by rw[xW (hh.ent _ _ hl) hle] at ho;exact ho⟩
  simp_all
def yQ(P:Program)(K:Kx)(H:Mem)(E:Env)(w:World)(c:Core)(a:Act)(o:Oper)(φ:SV×Core->Prop):Prop:=
 ∃(p:SV×Core) (v:Value) (r:Next) (H':Mem) (E':Env) (w':World),φ p/\Den H' E' p.1 v/\Post K H E w c H' E' w' p.2/\(r=.value v\/(r=.skip/\v=undef))/\(execOp a.eval o).run P w=.ok r w'
theorem Post.refl{c:Core}(hh:nI K H E w c.hp)(hw:sF K H w):Post K H E w c H E w c:=
 ⟨fun _ _ e=>e,fun _ _ e=>e,fun _ h1 h2=>(h2 h1).elim,aV _,.inr rfl,rfl,rfl,hh,hw,fun _ h=>h,aV _,fun _ _ _=>rfl,fun i b h1 h2=>by grind [bk],fun _ h=>.inl h,fun id sb b h1 _ h3=>.inr ⟨sb,h1,h3⟩,fun id sb h _=>⟨sb,h,fun _ h=>h⟩⟩
theorem Qg.toW{c:Core}{a:Act}{o:Oper}{φ:SV×Core->Prop}(h:Qg P H E w c a o φ)(hh:nI K H E w c.hp)(hw:sF K H w):yQ P K H E w c a o φ:=by
 obtain ⟨p,v,h1,h2,h3,h4⟩:=h;exact ⟨p,v,_,H,E,w,h1,h3,by simp_all [Post.refl],.inl rfl,h4 w (OH.refl _ _ _ _) hw.on⟩
theorem alM{c:Core}{a:Act}{o:Oper}{e:Nat}{φ:SV×Core->Prop}(hC:oC P C)(hh:nI K H E w c.hp)(hw:sF K H w)(hf:Free E c)
  (ho:o.op=.alloc e) (h:(Oy C c e).All φ):yQ P K H E w c a o φ:=by
 unfold Oy at h;split at h
 ·rename_i i hi
  obtain ⟨z,h1,h2,h3⟩:=ajD (hC.ty _ _ hi) w;have h2':ni H (E.set c.nx (.pointer (ae ⟨w.heap.size,0,ao⟩))) i.zero z.cells.toList:=h2.le (fun _ _ e=>by cases e) (fun _ _ e=>by cases e);obtain ⟨c',hφ,hp⟩:=yG (o:=.cells z.cells e) (v:=.pointer (ae ⟨w.heap.size,0,ao⟩)) hh hw hf h rfl
   ⟨w.heap.size,z.cells,Env.set_self _ _ _,zo _ _,h2',AQ hw⟩
  refine ⟨_,_,_,H,_,_,hφ,⟨w.heap.size,by simp[Env.set_self,nH],rfl⟩,hp,.inl rfl,?_⟩;simp[execOp,ho,Instr.alloc,h1,newVar,newRow]
 ·exact h.elim
theorem ar7{c:Core}{a:Act}{o:Oper}{e:Nat}{x:Operand}{φ:SV×Core->Prop}(hd:ni H E c.tm a.tmps.toList)(hh:nI K H E w c.hp)(hw:sF K H w)(hf:Free E c)
  (ho:o.op=.box e x) (h:(bif (oI c.tm x).okc then alloc c (.box (oI c.tm x).cells e) (.ptr c.nx 0) else .fail).All φ):yQ P K H E w c a o φ:=by
 cases hk:(oI c.tm x).okc<;>simp only[hk,cond_true,cond_false] at h
 ·exact h.elim
 have hx:=G6 hk (ou (H:=H) (E:=E) hd x);have hx':c.nx<c.lim->ni H (E.set c.nx (.pointer (ae ⟨w.heap.size,0,ao⟩))) (oI c.tm x).cells (a.eval x).cells.toList:=fun hl=>hx.le (fun _ _ e=>e) (Env.abN (hf _ (aV _) hl));have hl:c.nx<c.lim:=by
  unfold alloc at h;cases hb:bO c.nx c.lim<;>simp only[hb,cond_true,cond_false] at h
  ·exact h.elim
  simp_all
 obtain ⟨c',hφ,hp⟩:=yG (o:=.cells (a.eval x).cells e) (v:=.pointer (ae ⟨w.heap.size,0,ao⟩)) hh hw hf h rfl
  ⟨w.heap.size,_,Env.set_self _ _ _,zo _ _,hx' hl,AQ hw⟩
 refine ⟨_,_,_,H,_,_,hφ,⟨w.heap.size,by simp[Env.set_self,nH],rfl⟩,hp,.inl rfl,?_⟩;simp[execOp,ho,Instr.box,newVar,newRow]
theorem Qv{H:Mem}{E:Env}:∀l:List Int,xP H E (adh l) (l.map fun n=>(n,ao))
 |[]=>trivial |_::l=>⟨rfl,trivial,Qv l⟩
theorem agv{c:Core}{a:Act}{o:Oper}{t:Nat}{φ:SV×Core->Prop}(hh:nI K H E w c.hp)(hw:sF K H w)(hf:Free E c)
  (ho:o.op=.makeMap t ao) (h:(Jd C c t).All φ):yQ P K H E w c a o φ:=by
 unfold Jd at h;split at h
 ·rename_i k l _
  obtain ⟨c',hφ,hp⟩:=yG (o:=.map #[] 0) (v:=.map (ae w.heap.size)) hh hw hf h rfl
   ⟨w.heap.size,#[],0,l.map fun n=>(n,ao),[],Env.set_self _ _ _,zo _ _,Qv l,trivial,fun n o hm=>by
    grind,⟨fun m hm=>by simp at hm,fun n=>rfl,fun i j m m' hm=>by simp at hm,fun i j m m' hm=>by simp at hm,fun m hm=>by simp at hm⟩,trivial,AQ hw⟩
  refine ⟨_,_,_,H,_,_,hφ,⟨w.heap.size,Env.set_self _ _ _,rfl⟩,hp,.inl rfl,?_⟩;simp[execOp,ho,gH]
 ·split at h
  ·rename_i vt _
   obtain ⟨c',hφ,hp⟩:=yG (o:=.map #[] 0) (v:=.map (ae w.heap.size)) hh hw hf h rfl
    ⟨w.heap.size,#[],0,[],Env.set_self _ _ _,zo _ _,trivial,(fun _ _ h=>by cases h),(fun _ h=>by cases h),⟨fun m hm=>by simp at hm,fun m hm=>by simp at hm,(fun n v hn=>by cases hn),fun i j m m' hm=>by simp at hm⟩,AQ hw⟩
   refine ⟨_,_,_,H,_,_,hφ,⟨w.heap.size,Env.set_self _ _ _,rfl⟩,hp,.inl rfl,?_⟩;simp[execOp,ho,gH]
  ·obtain ⟨c',hφ,hp⟩:=yG (o:=.map #[] 0) (v:=.map (ae w.heap.size)) hh hw hf h rfl
    ⟨w.heap.size,#[],0,Env.set_self _ _ _,zo _ _,trivial,AQ hw⟩
   refine ⟨_,_,_,H,_,_,hφ,⟨w.heap.size,Env.set_self _ _ _,rfl⟩,hp,.inl rfl,?_⟩;simp[execOp,ho,gH]
end
section
variable{P:Program}{C:Ctx}{K:Kx}{H H':Mem}{E E':Env}{w w':World}
theorem ni.G5:∀{l:List SV} {vs:List Value},vs.length=l.length->(∀(j:Nat) (s:SV) (v:Value),l[j]?=ae s->vs[j]?=ae v->Den H E s v)->ni H E l vs
 |[],[],_,_=>trivial |_::_,_::_,hl,h=>⟨h 0 _ _ rfl rfl,ni.G5 (by grind) fun j s v h1 h2=>h (j+1) s v (by grind) (by grind)⟩ |[],_::_,h,_=>by simp at h |_::_,[],h,_=>by simp at h
theorem WR:∀(xs z:List SV) (off j:Nat),off+xs.length<=z.length->(setAt z off xs)[j]?=if off<=j/\j<off+xs.length then xs[j - off]? else z[j]?
 |[],z,off,j,_=>by simp[setAt];omega |x::xs,z,off,j,h=>by
  rw[setAt,WR xs _ (off+1) j (by grind)];grind
theorem UN(cs vs:List Value)(off j:Nat)(h:off+vs.length<=cs.length):(cs.take off++vs++cs.drop (off+vs.length))[j]?=if off<=j/\j<off+vs.length then vs[j - off]? else cs[j]?:=by
 have h1:(cs.take off).length=off:=by grind
 grind
theorem WS(cs vs:List Value)(off:Nat)(h:off+vs.length<=cs.length):(cs.take off++vs++cs.drop (off+vs.length)).length=cs.length:=by
 grind
theorem UO{cells l:List SV}{cs vs:List Value}{off:Nat}(h1:ni H E cells cs)(h2:ni H E l vs)(h:off+l.length<=cells.length):
  ni H E (setAt cells off l) (cs.take off++vs++cs.drop (off+vs.length)):=by
 have e1:=h1.length;have e2:=h2.length;refine ni.G5 (by grind [WS,G7]) fun j s v hs hv=>?_
 rw[WR _ _ _ _ h] at hs;rw[UN _ _ _ _ (by omega)] at hv;rw[e2] at hv;split at hs
 ·rw[if_pos (by assumption)] at hv
  exact h2.at_ hs hv
 ·rw[if_neg (by assumption)] at hv
  exact h1.at_ hs hv
theorem Qw(cur vs:List Value)(off m:Nat)(h:off+vs.length<=m)(hm:m<=cur.length):
  (cur.take off++vs++cur.drop (off+vs.length)).take m=(cur.take m).take off++vs++(cur.take m).drop (off+vs.length):=by
 apply List.ext_getElem?;grind
theorem CS{c:Core}{id b:Nat}{sb sb':SB}(hh:nI K H E w c.hp)(hw:sF K H w)(hl:mQ c.hp id=ae sb)(hb:nU E id sb=ae b)
  (hother:∀k,k≠b->w'.heap[k]?=w.heap[k]?) (hsz:w'.heap.size=w.heap.size) (hos:w'.os=w.os) (htape:w'.tape=w.tape) (hout:w'.output=w.output)
  (he:xU K H E w' id sb') (hb':nU E id sb'=ae b):Post K H E w c H E w' {c with hp:=hset c.hp id sb',tc:=id::c.tc}:=by
 have wK:=((hh.ent _ _ hl).lt hb);refine ⟨fun _ _ e=>e,fun _ _ e=>e,fun _ h1 h2=>(h2 h1).elim,aV _,.inr rfl,rfl,rfl,?_,?_,fun _ h=>aZ _ h,by omega,?_,fun i b h1 h2=>by grind [bk],?_,?_,?_⟩
 ·refine ⟨fun id2 Qu hl2=>?_,fun id1 id2 sb1 Qu b0 h1 h2 o1 o2=>?_⟩
  ·rw[rU] at hl2
   cases hid:(id==id2)<;>simp only[hid,cond_true,cond_false] at hl2
   ·have hent:=hh.ent _ _ hl2
    refine hent.kept (fun _ _ e=>e) (fun _ _ e=>e) (fun b0 hb0=>hother b0 fun e=>?_) fun b0 hb0=>(hent.lt hb0).2.1;subst e;have:=hh.vV _ _ _ _ _ hl hl2 hb hb0;simp_all
   simp_all
  ·have conv:∀{i:Nat} {s:SB},mQ (hset c.hp id sb') i=ae s->nU E i s=ae b0->∃s',mQ c.hp i=ae s'/\nU E i s'=ae b0:=by
    grind [rU]
   obtain ⟨s1,a1,a2⟩:=conv h1 o1;obtain ⟨s2,a3,a4⟩:=conv h2 o2;exact hh.vV _ _ _ _ _ a1 a3 a2 a4
 ·refine ⟨hos.trans hw.os,htape.trans hw.tape,hout.trans hw.output,by have:=hw.size;omega,fun k hk hn=>?_,fun k o hk=>?_,hw.le,hw.fresh⟩
  ·rw[hother k fun e=>?_]
   ·exact hw.kept k hk hn
   ·subst e
    (rcases wK.2.2 with h|h)<;>grind
  ·rw[hother k fun e=>?_]
   ·exact hw.on k o hk
   ·subst e
    rw[wK.2.1] at hk;cases hk
 ·grind [bj,wW]
 ·grind [wW]
 ·grind [rU]
 grind [rU]
theorem one_cell{x:SV}{u:Value}(h1:x.one=ah)(hd:Den H E x u):u.oneCell'=ah:=by
 cases x;case any=>simp[jy] at h1
 case agg l=>simp[jy] at h1
 case mX l=>simp[jy] at h1
 case ev=>simp[jy] at h1
 case val v=>obtain ⟨rfl,h⟩:=hd;exact h
 case sh s=>
  have hd:Rep H s u:=hd;cases hd;case agg l vs a1 a2=>assumption
  case mX l vs a1 a2=>assumption
  case v h=>exact h
  all_goals rfl
 all_goals first
  |(simp only[Den] at hd;subst hd;rfl)
  |(obtain ⟨_,_,rfl⟩:=hd;rfl)
  |(obtain ⟨_,_,_,_,rfl⟩:=hd;rfl)
  |(obtain ⟨_,_,_,_,_,rfl⟩:=hd;rfl)
  |(obtain ⟨_,rfl,_⟩:=hd;rfl)
  |(obtain ⟨_,_,_,rfl,_⟩:=hd;rfl)
theorem vC:∀{l:List SV} {vs:List Value},vY l=ah->ni H E l vs->∀v∈vs,v.oneCell'=ah
 |[],[],_,_,_,h=>by cases h |x::l,v::vs,h,⟨h1,h2⟩,u,hu=>by
  simp only[vY,ak] at h;cases hu with
  |head=>exact one_cell h.1 h1 |tail _ hu=>exact vC h.2 h2 u hu
 |[],_::_,_,h,_,_=>h.elim |_::_,[],_,h,_,_=>h.elim
end
section
variable{P:Program}{C:Ctx}{K:Kx}{H H':Mem}{E E':Env}{w w':World}
theorem KW(t ty e:TypeId)(i:TypeInfo)(z:Value)(size bytes:Nat)(ht:P.underlying t=ae (.slice e))(hi:P.info? e=ae i)(hz:i.zero=ae z)
  (hsize:i.size=size) (hby:i.bytes=bytes) (hzs:z.cells.size=size) (hsz:0<size) (v:Value) (n:Nat) (xs:List Value) (hown:w.ownsRow 0 e size v n xs)
  (a:Addr) (m c:Nat) (news:List Value) (hl:news.length=m*size) (hnews:∀j u,news[j]?=ae u->w.cell? (a.add j)=ae u) (h1:∀u∈news,u.oneCell'=ah)
  (h63:n+m<=maxLen) (hbytes:(n+m)*bytes<=140737488355328) :
  ∃v' w',(bF #[t,t] ty #[v,.slice (ae a) m c]).run P w=.ok v' w'/\w'.ownsRow 0 e size v' (n+m) (xs++news)/\w.grownBy w' (nH v)/\
   ∀b,nH v'=ae b->nH v=ae b\/w.heap.size<=b:=by
 have hsmall:n+m<=9223372036854775807:=by assumption
 rcases hown.2 with ⟨rfl,rfl⟩ |⟨g,cap,cur,rfl,_,hg,hnc,hcm,hcs,htake⟩
 ·obtain ⟨v',w',hr,ho,hgr,_⟩:=run_append_own (P:=P) w w.heap.size t ty e i z size bytes ht hi hz hsize hby hzs hsz (.slice ao 0 0) 0 xs ⟨hown.1,.inl ⟨rfl,rfl⟩⟩ a m c news hl hnews h1 h63 hbytes (aV _)
  refine ⟨v',w',hr,⟨ho.1,?_⟩,hgr,fun b hb=>.inr ?_⟩
  ·(rcases ho.2 with h|⟨g,cap,cur,h2,_,h4⟩)<;>grind
  ·rcases ho.2 with ⟨rfl,_⟩ |⟨g,cap,cur,rfl,hge,h4⟩
   ·simp[nH] at hb
   ·simp[nH] at hb;omega
 ·obtain ⟨v',w',hr,ho,hgr,_⟩:=run_append_own (P:=P) w 0 t ty e i z size bytes ht hi hz hsize hby hzs hsz _ n xs hown a m c news hl hnews h1 h63 hbytes (cM _)
  refine ⟨v',w',hr,ho,hgr,fun b hb=>?_⟩;subst hsize hby
  by_cases hroom:n+m<=cap
  ·have hfit:n*i.size+news.length<=cur.size:=by rw[hl,hcs,<-gP];exact ba _ hroom
   have hr2:=run_append_room (P:=P) w t ty e i ht hi g n cap cur hg a m c news hl hnews h1 hroom hfit;grind [nH]
  ·have holds:∀j u,xs[j]?=ae u->w.cell? ((⟨g,0,ao⟩:Addr).add j)=ae u:=hown.cells (g:=g) rfl
   have hr2:=run_append_grow (P:=P) w t ty e i z ht hi hz ⟨g,0,ao⟩ n cap xs hown.1 holds a m c news hl hnews (by omega) (by omega) (growslice_fits (by omega) hbytes);grind [nH]
theorem adD(t ty e:TypeId)(i:TypeInfo)(z:Value)(size bytes:Nat)(ht:P.underlying t=ae (.slice e))(hi:P.info? e=ae i)(hz:i.zero=ae z)
  (hsize:i.size=size) (hby:i.bytes=bytes) (hzs:z.cells.size=size) (hsz:0<size) (v:Value) (n:Nat) (xs:List Value) (hown:w.ownsRow 0 e size v n xs)
  (x:Value) (m:Nat) (news:List Value) (hx:(m=0/\∃A c,x=.slice A 0 c)\/(∃a c,x=.slice (ae a) m c/\∀j u,news[j]?=ae u->w.cell? (a.add j)=ae u)) (hl:news.length=m*size) (h1:∀u∈news,u.oneCell'=ah)
  (h63:n+m<=maxLen) (hbytes:(n+m)*bytes<=140737488355328) :
  ∃v' w',(bF #[t,t] ty #[v,x]).run P w=.ok v' w'/\w'.ownsRow 0 e size v' (n+m) (xs++news)/\w.grownBy w' (nH v)/\
   ∀b,nH v'=ae b->nH v=ae b\/w.heap.size<=b:=by
 rcases hx with ⟨rfl,A,c,rfl⟩ |⟨a,c,rfl,hc⟩
 ·have hn:news=[]:=List.eq_nil_of_length_eq_zero (by omega)
  subst hn;cases A with
  |some a=>exact KW t ty e i z size bytes ht hi hz hsize hby hzs hsz v n xs hown a 0 c [] (by simp) (by simp) (by simp) h63 hbytes |none=>
   have hr:(bF #[t,t] ty #[v,.slice ao 0 c]).run P w=.ok v w:=by
    rcases hown.2 with ⟨rfl,rfl⟩ |⟨g,cap,cur,rfl,_,_,hnc,_⟩
    ·simp[bF,run_underlying ht,sizeOf,typeInfo,hi,gk,cQ]
    ·simp[bF,run_underlying ht,sizeOf,typeInfo,hi,gk,cQ,hnc,storeCells]
   exact ⟨v,w,hr,by simp_all,⟨rfl,rfl,rfl,aV _,fun _ _ _=>rfl⟩,fun b hb=>.inl hb⟩
 simp_all [KW]
mutual
theorem EM{hp:List (Nat×SB)}(hh:nI K H E w hp):∀{x:SV} {s:Sh} {u:Value},rZ hp x=ae s->Den H E x u->Rep H s u
 | .int k n,s,u,h,hd=>by simp[rZ] at h;subst h;simp only[Den] at hd;subst hd;exact .i k n | .sym k n,s,u,h,hd=>by simp[rZ] at h;subst h;simp only[Den] at hd;subst hd;exact .i k n | .bool b,s,u,h,hd=>by simp[rZ] at h;subst h;simp only[Den] at hd;subst hd;exact .b b | .test b,s,u,h,hd=>by simp[rZ] at h;subst h;simp only[Den] at hd;subst hd;exact .b b | .str l,s,u,h,hd=>by simp[rZ] at h;subst h;simp only[Den] at hd;subst hd;exact .str l | .val v,s,u,h,hd=>by simp[rZ] at h;subst h;obtain ⟨rfl,h1⟩:=hd;exact .v _ h1 | .uN,s,u,h,hd=>by simp[rZ] at h;subst h;simp only[Den] at hd;subst hd;exact .v _ rfl | .xX,s,u,h,hd=>by simp[rZ] at h;subst h;simp only[Den] at hd;subst hd;exact .v _ rfl | .sS,s,u,h,hd=>by simp[rZ] at h;subst h;simp only[Den] at hd;subst hd;exact .v _ rfl | .nS,s,u,h,hd=>by simp[rZ] at h;subst h;simp only[Den] at hd;subst hd;exact .sl0 _ _ _ _ (cM _) | .sh s',s,u,h,hd=>by simp[rZ] at h;subst h;exact hd | .agg l,s,u,h,hd=>by
  simp only[rZ,aP] at h;obtain ⟨l',h1,rfl⟩:=h;obtain ⟨vs,rfl,hl⟩:=hd;have hr:=sJ hh h1 hl;exact .agg _ _ (by rw[<-br];exact hr.length) fun j s v e1 e2=>hr.at_ e1 (by grind)
 | .mX l,s,u,h,hd=>by
  simp only[rZ,aP] at h;obtain ⟨l',h1,rfl⟩:=h;obtain ⟨vs,rfl,hl⟩:=hd;have hr:=sJ hh h1 hl;exact .mX _ _ (by rw[<-br];exact hr.length) fun j s v e1 e2=>hr.at_ e1 (by grind)
 | .fn f l,s,u,h,hd=>by
  simp only[rZ,aP] at h;obtain ⟨l',h1,rfl⟩:=h;obtain ⟨vs,rfl,hl⟩:=hd;have hr:=sJ hh h1 hl;exact .fn _ _ _ (by rw[<-br];exact hr.length) fun j s v e1 e2=>hr.at_ e1 (by grind)
 | .qK t x,s,u,h,hd=>by
  simp only[rZ,aP] at h;obtain ⟨s',h1,rfl⟩:=h;obtain ⟨v,rfl,hl⟩:=hd;exact .qK _ _ _ (EM hh h1 hl)
 | .gs id,s,u,h,hd=>by
  simp only[rZ] at h;split at h
  ·rename_i st m g hl
   cases h;obtain ⟨v,he,hr⟩:=hh.ent _ _ hl;rw[hd.1] at he;simp_all
  ·cases h
 | .any,s,u,h,hd=>by simp[rZ] at h | .ptr id off,s,u,h,hd=>by
  simp only[rZ] at h;split at h
  ·rename_i l hl
   cases hb:(off==0)<;>simp only[hb,cond_true,cond_false] at h
   ·cases h
   ·cases h
    obtain rfl:off=0:=by grind
    obtain ⟨v,he,hr⟩:=hh.ent _ _ hl;obtain ⟨b,h1,rfl⟩:=hd;cases hr with
    |pt _ b2 off2 c a1 a2 a3=>
     rw[he] at h1;simp only[bB] at h1;have h02:b2=b/\off2=0:=by
      unfold nH at h1;grind
     obtain ⟨rfl,rfl⟩:=h02;exact .pt _ _ _ c a1 a2 a3
  ·cases h
 | .gp _ _ _ _,s,u,h,hd=>by simp[rZ] at h | .wS,s,u,h,hd=>by simp[rZ] at h | .mp _,s,u,h,hd=>by simp[rZ] at h | .yD st n g i off,s,u,h,hd=>by
  simp only[rZ] at h;cases hb:(off==0&&(g i).length==st)<;>simp only[hb,cond_true,cond_false] at h
  ·cases h
  ·cases h
   simp only[ak,beq_iff_eq] at hb;obtain ⟨rfl,h1⟩:=hb;obtain ⟨b,o,c,rfl,_,h3,h4,h5⟩:=hd;exact .pt _ _ _ c (fun j hj=>(h4 j (by omega)).1) (fun j hj=>(h4 j (by omega)).2) h5
 | .glob _,s,u,h,hd=>by simp[rZ] at h | .ev _,s,u,h,hd=>by simp[rZ] at h | .vw _ _,s,u,h,hd=>by simp[rZ] at h
theorem sJ{hp:List (Nat×SB)}(hh:nI K H E w hp):∀{l:List SV} {l':List Sh} {vs:List Value},xY hp l=ae l'->ni H E l vs->sD H l' vs
 |[],l',[],h,_=>by simp[xY] at h;subst h;trivial |x::l,l',v::vs,h,⟨h1,h2⟩=>by
  simp only[xY] at h;split at h
  ·rename_i s r e1 e2
   cases h;exact ⟨EM hh e1 h1,sJ hh e2 h2⟩
  ·cases h
 |[],_,_::_,_,h=>h.elim |_::_,_,[],_,h=>h.elim
end
theorem Jj(st:Nat):∀(n:Nat) (l:List Sh) (i:Nat),i<n->nM (chunks st n l) i=(l.drop (i*st)).take st
 |n+1,l,0,_=>by simp[nM,chunks] |n+1,l,i+1,h=>by
  have ih:=Jj st n (l.drop st) i (by omega);simp only[nM,chunks,iD] at ih ⊢;simp_all [kh,gP,gF,lU]
theorem Bj{st n:Nat}{l:List Sh}{xs:List Value}(hl:xs.length=n*st)(hr:sD H l xs)(h1:∀u∈xs,u.oneCell'=ah):pG H st n (nM (chunks st n l)) xs:=by
 have hll:=hr.length;have hle:∀i,i<n->i*st+st<=n*st:=fun i hi=>by
  calc i*st+st=(i+1)*st:=by grind
   _<=n*st:=ba _ hi
 refine ⟨hl,fun i hi=>?_,h1,fun i j s v hi e1 e2=>?_⟩
 ·grind [Jj,eb,jz]
 ·rw[Jj _ _ _ _ hi,bU] at e1
  split at e1
  ·rw[cd] at e1
   exact hr.at_ e1 e2
  ·cases e1
theorem EF{st n elem:Nat}{g:Nat->List Sh}{v:Value}{xs:List Value}(ho:w.ownsRow 0 elem st v n xs)(hr:pG H st n g xs)(hon:∀b,nH v=ae b->H b=w.heap[b]?):Rep H (.sl st n g) v:=by
 obtain ⟨h1,h2⟩:=ho;rcases h2 with ⟨rfl,rfl⟩ |⟨b,cap,cur,rfl,_,hb,hn,hc,hs,ht⟩
 ·exact .sl0 _ _ _ _ (cM _)
 ·have hx:∀i j,i<n->j<st->xs[i*st+j]?=ae (xs.getD (i*st+j) undef):=fun i j hi hj=>by
   have:i*st+j<xs.length:=by
    rw[h1];calc i*st+j<i*st+st:=by omega
     _=(i+1)*st:=by grind
     _<=n*st:=ba _ hi
   simp_all
  refine .sl st n g b 0 cap (fun i j=>xs.getD (i*st+j) undef) hn hc hr.2.1 (fun i j hi hj=>?_) (fun i j hi hj=>hr.2.2.1 _ (aT (hx i j hi hj))) fun i j s hi e=>?_
  ·have e:=hx i j hi hj
   rw[<-ht,bU] at e;split at e
   ·have hH:H b=ae (.cells cur elem (0,0)):=by rw[hon b rfl,hb]
    simp_all [Array.getElem?_toList,hcell,cy]
   ·cases e
  ·have hj:j<st:=by rw[<-hr.2.1 i hi];grind
   exact hr.2.2.2 i j s _ hi e (hx i j hi hj)
def Mem.add(H:Mem)(w:World)(b:Option Nat):Mem:=fun k=>if b=ae k then w.heap[k]? else H k
structure NU(H':Mem)(E:Env)(hp hp':List (Nat×SB)):Prop where
 keep:∀id sb b,mQ hp id=ae sb->nU E id sb=ae b->H' b≠ao\/mQ hp' id=ae sb
 old:∀id sb,mQ hp' id=ae sb->∃sb0,mQ hp id=ae sb0/\∀b,nU E id sb=ae b->nU E id sb0=ae b
theorem NU.refl(H':Mem)(E:Env)(hp:List (Nat×SB)):NU H' E hp hp:=⟨fun _ _ _ h _=>.inr h,fun _ sb h=>⟨sb,h,fun _ h=>h⟩⟩
theorem NU.trans{H1 H2:Mem}{hp hp1 hp2:List (Nat×SB)}(h1:NU H1 E hp hp1)(h2:NU H2 E hp1 hp2)(hle:H1.le H2):NU H2 E hp hp2:=
 ⟨fun id sb b a1 a2=>by
  rcases h1.keep id sb b a1 a2 with h|h
  ·cases hb:H1 b with
   |none=>simp_all |some o=>exact .inl (by rw[hle b o hb];simp)
  ·exact h2.keep id sb b h a2,fun id sb h=>by
  obtain ⟨s1,a1,a2⟩:=h2.old id sb h;obtain ⟨s0,b1,b2⟩:=h1.old id s1 a1;simp_all⟩
theorem alN{hp:List (Nat×SB)}{id:Nat}{sb nb:SB}{v:Value}(hh:nI K H E w hp)(hw:sF K H w)(hl:mQ hp id=ae sb)
  (hm:∀b,nH v=ae b->Mine K H b) (WT:nU E id sb=nH v) (hnb:nU E id nb=ao) (hent:H.le (H.add w (nH v))->xU K (H.add w (nH v)) E w id nb) :
  H.le (H.add w (nH v))/\nI K (H.add w (nH v)) E w (hset hp id nb)/\sF K (H.add w (nH v)) w/\NU (H.add w (nH v)) E hp (hset hp id nb):=by
 have hle:H.le (H.add w (nH v)):=fun b o hb=>by
  unfold Mem.add;split
  ·rename_i e
   have:=(hm b e).1;simp_all
  ·exact hb
 have hfin:NU (H.add w (nH v)) E hp (hset hp id nb):=by
  refine ⟨fun i s b h1 h2=>?_,fun i s h1=>?_⟩
  ·rw[rU]
   cases hid:(id==i)<;>simp only[cond_true,cond_false]
   ·exact .inr h1
   ·obtain rfl:id=i:=by grind
    rw[hl] at h1;cases h1;rw[WT] at h2;refine .inl ?_;unfold Mem.add;rw[if_pos h2];have h3:(w.heap[b]?).isSome=ah:=by
     have:=(hh.ent _ _ hl).lt (WT.trans h2);simp[this.1]
    simp_all
  grind [rU]
 refine ⟨hle,⟨fun id2 Qu h2=>?_,fun id1 id2 s1 s2 b h1 h2 o1 o2=>?_⟩,⟨hw.os,hw.tape,hw.output,hw.size,hw.kept,fun b o hb=>?_,fun b o hb=>hle b o (hw.le b o hb),fun b hb=>?_⟩,hfin⟩
 ·rw[rU] at h2
  cases hid:(id==id2)<;>simp only[hid,cond_true,cond_false] at h2
  ·have hent:=hh.ent _ _ h2
   refine hent.kept hle (fun _ _ e=>e) (fun _ _=>rfl) fun b hb=>?_
   unfold Mem.add;rw[if_neg]
   ·exact (hent.lt hb).2.1
   ·intro e
    have:=hh.vV _ _ _ _ _ hl h2 (WT.trans e) hb;simp_all
  simp_all
 ·have conv:∀{i:Nat} {s:SB},mQ (hset hp id nb) i=ae s->nU E i s=ae b->mQ hp i=ae s:=by
   grind [rU]
  exact hh.vV _ _ _ _ _ (conv h1 o1) (conv h2 o2) o1 o2
 ·unfold Mem.add at hb
  split at hb
  ·exact hb
  ·exact hw.on b o hb
 ·unfold Mem.add at hb
  split at hb
  ·rename_i e
   exact .inr (hm b e).2
  ·exact hw.fresh b hb
theorem adE(b:Nat):nH (.pointer (ae ⟨b,0,ao⟩))=ae b:=rfl
theorem zq:∀{m:Nat} {ids:List Nat} {hp hp':List (Nat×SB)} {H:Mem},wU m hp ids=ae hp'->nI K H E w hp->sF K H w->
  ∃H',H.le H'/\nI K H' E w hp'/\sF K H' w/\NU H' E hp hp'
 |m,[],hp,hp',H,h,hh,hw=>by
  have h:ae hp=ae hp':=by cases m<;>exact h
  cases h;exact ⟨H,fun _ _ e=>e,hh,hw,NU.refl _ _ _⟩
 |0,_::_,hp,hp',H,h,hh,hw=>by cases h |m+1,id::ids,hp,hp',H,h,hh,hw=>by
  simp only[wU] at h;have step:∀{sb nb:SB} {v:Value},mQ hp id=ae sb->(∀b,nH v=ae b->Mine K H b)->nU E id sb=nH v->nU E id nb=ao->(H.le (H.add w (nH v))->xU K (H.add w (nH v)) E w id nb)->wU m (hset hp id nb) ids=ae hp'->
    ∃H',H.le H'/\nI K H' E w hp'/\sF K H' w/\NU H' E hp hp':=fun {sb nb v} hl hm WT hnb hent h=>by
   obtain ⟨h1,h2,h3,h4⟩:=alN hh hw hl hm WT hnb hent;obtain ⟨H',a1,a2,a3,a4⟩:=zq h h2 h3;exact ⟨H',fun b o hb=>a1 b o (h1 b o hb),a2,a3,h4.trans a4 a1⟩
  split at h
  ·exact zq h hh hw
  ·exact zq h hh hw
  ·rename_i e st n g hl
   obtain ⟨v,xs,he,ho,hr,hm⟩:=hh.ent _ _ hl;exact step (nb:=.fz st n g) hl hm (by simp[nU,he]) (by simp[nU]) (fun hle=>⟨v,he,EF ho (hr.le hle) fun b hb=>by simp[Mem.add,hb]⟩) h
  ·rename_i cells e st n hl
   obtain ⟨v,xs,he,ho,hd,hm⟩:=hh.ent _ _ hl;split at h
   ·rename_i l hsl
    cases hone:vY cells<;>simp only[hone,cond_true,cond_false] at h
    ·cases h
    have hr:=Bj ho.1 (sJ hh hsl hd) (vC hone hd);exact step (nb:=.fz st n (nM (chunks st n l))) hl hm (by simp[nU,he]) (by simp[nU]) (fun hle=>⟨v,he,EF ho (hr.le hle) fun b hb=>by simp[Mem.add,hb]⟩) h
   ·exact zq h hh hw
  ·rename_i cells e hl
   split at h
   ·rename_i l hsl
    cases hone:vY cells<;>simp only[hone,cond_true,cond_false] at h
    ·cases h
    obtain ⟨b,cs,he,hb,hd,hm⟩:=hh.ent _ _ hl;have hr:=sJ hh hsl hd;have h1:=vC hone hd;have hlen:=hr.length;rw[br] at hlen;refine step (nb:=.KA l) (v:=.pointer (ae ⟨b,0,ao⟩)) hl (fun b' hb'=>by simp_all [adE]) (by simp[nU,he]) (by simp[nU]) (fun hle=>⟨_,he,?_⟩) h;refine .pt l b 0 (fun j=>cs.getD j undef) (fun j hj=>?_) (fun j hj=>?_) fun j s hs=>?_
    ·have hH:(H.add w (nH (.pointer (ae ⟨b,0,ao⟩)))) b=ae (.cells cs e (0,0)):=by simp[Mem.add,adE,hb]
     simp_all [hcell,cy,Array.getD_eq_getD_getElem?]
    ·simp_all
    ·have hj:j<l.length:=(aJ.1 hs).1
     have:cs.getD j undef=cs[j]'(by omega):=by simp_all
     simp only[this];exact (hr.at_ hs (by simp)).le hle
   ·exact zq h hh hw
  ·cases h
theorem CU{ids:List Nat}{hp hp':List (Nat×SB)}{H:Mem}(h:freeze hp ids=ae hp')(hh:nI K H E w hp)(hw:sF K H w):
  ∃H',H.le H'/\nI K H' E w hp'/\sF K H' w/\NU H' E hp hp':=zq h hh hw
theorem Post.NV{c c':Core}{hp:List (Nat×SB)}{H1:Mem}(hH:H.le H1)(hz:NU H1 E c.hp hp)(p:Post K H1 E w {c with hp:=hp} H' E' w' c'):Post K H E w c H' E' w' c':=
 ⟨fun b o h=>p.x9 b o (hH b o h),p.BR,p.new,p.nx,p.lim,p.aap,p.tm,p.hp,p.o7,p.tc,p.size,p.fr,p.Fj,fun id hi=>by
  rcases p.SN id hi with h|h|⟨sb,h1,h2⟩
  ·exact .inl h
  ·exact .inr (.inl h)
  ·obtain ⟨sb0,q1,q2⟩:=hz.old id sb h1
   refine .inr (.inr ⟨sb0,q1,?_⟩);cases hb:bk E id with
   |some b=>exact q2 b (h2.trans hb) |none=>
    cases ho:nU E id sb0 with
    |none=>rfl |some b=>simp[wW ho] at hb,fun id sb b h1 h2 h3=>by
  rcases hz.keep id sb b h1 h3 with h|h
  ·left
   cases hb:H1 b with
   |none=>exact (h hb).elim |some o=>rw[p.x9 b o hb];simp
  ·exact p.keep id sb b h h2 h3,fun id sb h1 h2=>by
  obtain ⟨sb1,q1,q2⟩:=p.old id sb h1 h2;obtain ⟨sb0,q3,q4⟩:=hz.old id sb1 q1;exact ⟨sb0,q3,fun b hb=>q4 b (q2 b hb)⟩⟩
theorem alO{c:Core}{a:Act}{o:Oper}{t:Nat}{x y:Operand}{φ:SV×Core->Prop}(hC:oC P C)(hd:ni H E c.tm a.tmps.toList)(hh:nI K H E w c.hp)(hw:sF K H w)
  (ho:o.op=.store t x y) (h:(OA C c t (oI c.tm x) (oI c.tm y)).All φ):yQ P K H E w c a o φ:=by
 have dx:=ou (H:=H) (E:=E) hd x;have dy:=ou (H:=H) (E:=E) hd y;unfold OA at h;split at h
 ·rename_i i hi
  have ht:=hC.ty _ _ hi;cases hb:((oI c.tm y).cells.length==i.size&&vY (oI c.tm y).cells)<;>simp only[hb,cond_true,cond_false] at h
  ·exact h.elim
  simp only[ak,beq_iff_eq] at hb;obtain ⟨hlen,hone⟩:=hb;have auF:(oI c.tm y).okc=ah:=by
   cases hy:oI c.tm y<;>rw[hy] at hone<;>simp[SV.cells,vY,jy] at hone<;>simp[kX]
   grind
  have dcs:=G6 auF dy;have hcl:=dcs.length;have hoc:=vC hone dcs;have hrun:∀(b off:Nat) (cur:Array Value) (e:Nat),a.eval x=.pointer (ae ⟨b,off,ao⟩)->w.heap[b]?=ae (.cells cur e (0,0))->off+i.size<=cur.size->
    (execOp a.eval o).run P w=.ok .skip (w.setRow b (cur.toList.take off++(a.eval y).cells.toList++cur.toList.drop (off+(a.eval y).cells.toList.length)).toArray):=by
   intro b off cur e ex hcur hle;have hs:=run_storeCells_at P b off e (a.eval y).cells.toList 0 cur w hcur (by omega) hoc;have hsz:(a.eval y).cells.size=i.size:=by simp_all
   simp only[Nat.add_zero] at hs;simp[execOp,ho,Instr.storeAt,ex,dJ,storeVar,AL ht,hsz,hs]
  split at h
  ·rename_i id off hx
   rw[hx] at dx;obtain ⟨b,hbk,ex⟩:=dx;split at h
   ·rename_i cells e hl
    cases hle:cq (off+i.size) cells.length<;>simp only[hle,cond_true,cond_false] at h
    ·exact h.elim
    have hle:=cf hle;obtain ⟨b',cs,he,h1,h2,h3⟩:=hh.ent _ _ hl;simp only[he,bB,nH,dP] at hbk;subst hbk;have hl2:=h2.length;rw[br] at hl2;refine ⟨_,undef,_,H,E,_,h,trivial,?_,.inr ⟨rfl,rfl⟩,hrun b' off cs e ex h1 (by omega)⟩;refine CS hh hw hl (b:=b') (by simp[nU,he,nH]) (fun k hk=>setRow_other w b' k _ hk) (setRow_size _ _ _) rfl rfl rfl ?_ (by simp[nU,he,nH]);refine ⟨b',_,he,setRow_heap w b' cs _ e _ h1,?_,h3⟩;grind [UO]
   ·rename_i cells e st n hl
    cases hle:cq (off+i.size) cells.length<;>simp only[hle,cond_true,cond_false] at h
    ·exact h.elim
    have hle:=cf hle;obtain ⟨v,xs,he,h1,h2,h3⟩:=hh.ent _ _ hl;simp only[he,bB] at hbk;have hl2:=h2.length;obtain ⟨hx1,hx2⟩:=h1;rcases hx2 with ⟨rfl,_⟩ |⟨g,cap,cur,rfl,hg0,hg1,hg2,hg3,hg4,hg5⟩
    ·simp[nH] at hbk
    simp[nH] at hbk;subst hbk;have hmul:n*st<=cap*st:=ba _ hg2;have hcur:cur.toList.length=cap*st:=by omega
    have hlc:(a.eval y).cells.toList.length=i.size:=by omega
    refine ⟨_,undef,_,H,E,_,h,trivial,?_,.inr ⟨rfl,rfl⟩,hrun g off cur e ex hg1 (by omega)⟩;refine CS hh hw hl (b:=g) (by simp[nU,he,nH]) (fun k hk=>setRow_other w g k _ hk) (setRow_size _ _ _) rfl rfl rfl ?_ (by simp[nU,he,nH]);refine ⟨_,xs.take off++(a.eval y).cells.toList++xs.drop (off+(a.eval y).cells.toList.length),he,⟨?_,.inr ⟨g,cap,_,rfl,hg0,setRow_heap w g cur _ e _ hg1,hg2,hg3,?_,?_⟩⟩,UO h2 dcs (by omega),h3⟩
    ·grind
    ·grind
    grind [Qw]
   ·exact h.elim
  ·rename_i id st j off hx
   rw[hx] at dx;obtain ⟨b,v0,he0,hbk,hj,ex⟩:=dx;split at h
   ·rename_i hp hfz
    obtain ⟨H1,hH1,hh1,hw1,hz1⟩:=CU hfz hh hw;have auG:=dcs.le hH1 (fun _ _ e=>e);split at h
    ·rename_i e st' n g hl
     cases hb:(st==st'&&cq (off+i.size) st)<;>simp only[hb,cond_true,cond_false] at h
     ·exact h.elim
     simp only[ak,beq_iff_eq] at hb;obtain ⟨rfl,hle⟩:=hb;have hle:=cf hle;split at h
     ·rename_i l hsl
      rw[hC.A] at h;obtain ⟨v,xs,he,h1,h2,h3⟩:=hh1.ent _ _ hl;rw[he0] at he;cases he;obtain ⟨hx1,hx2⟩:=h1;rcases hx2 with ⟨rfl,_⟩ |⟨bg,cap,cur,rfl,hg0,hg1,hg2,hg3,hg4,hg5⟩
      ·simp[nH] at hbk
      simp[nH] at hbk;subst hbk;have hj:j<n:=hj;have hmul:n*st<=cap*st:=ba _ hg2;have hjs:j*st+st<=n*st:=by
       calc j*st+st=(j+1)*st:=by grind
        _<=n*st:=ba _ hj
      have hcur:cur.toList.length=cap*st:=by omega
      have hlc:(a.eval y).cells.toList.length=i.size:=by omega
      have hrep:=sJ hh1 hsl auG;have hll:l.length=i.size:=by rw[<-hrep.length];exact hlc
      refine ⟨_,undef,_,H1,E,_,h,trivial,Post.NV hH1 hz1 ?_,.inr ⟨rfl,rfl⟩,hrun bg (j*st+off) cur e ex hg1 (by omega)⟩;refine CS (c:={c with hp:=hp}) hh1 hw1 hl (b:=bg) (by simp[nU,he0,nH]) (fun k hk=>setRow_other w bg k _ hk) (setRow_size _ _ _) rfl rfl rfl ?_ (by simp[nU,he0,nH])
      refine ⟨_,xs.take (j*st+off)++(a.eval y).cells.toList++xs.drop (j*st+off+(a.eval y).cells.toList.length),he0,⟨?_,.inr ⟨bg,cap,_,rfl,hg0,setRow_heap w bg cur _ e _ hg1,hg2,hg3,?_,?_⟩⟩,?_,h3⟩
      ·grind
      ·grind
      ·rw[List.toList_toArray,Qw _ _ _ _ (by omega) (by omega),hg5]
      ·obtain ⟨r1,r2,r3,r4⟩:=h2
       refine ⟨by grind,fun k hk=>?_,fun u hu=>?_,fun k m s u hk e1 e2=>?_⟩
       ·grind [mM,aY,eb,jz]
       ·grind
       ·rw[UN _ _ _ _ (by omega)] at e2
        have hkl:(if k=j then (g k).take off++l++(g k).drop (off+l.length) else g k)[m]?=ae s:=e1;have hg:=r2 k hk;by_cases hkj:k=j
        ·subst hkj
         rw[if_pos rfl] at hkl;by_cases c1:m<off
         ·grind
         ·by_cases c2:m<off+l.length
          ·rw[List.append_assoc,dS (by grind),eb,gX (by omega),List.getElem?_append_left (by omega)] at hkl
           rw[if_pos (by omega)] at e2;have:k*st+m - (k*st+off)=m - off:=by omega
           rw[this] at e2;exact hrep.at_ hkl e2
          ·rw[dS (by grind),cd,aY,eb,gX (by omega)] at hkl
           have hm:off+l.length+(m - (off+l.length))=m:=by omega
           grind
        ·rw[if_neg hkj] at hkl
         have hml:m<st:=by grind
         rw[if_neg ?_] at e2
         ·grind
         ·intro hc
          rcases Nat.lt_or_gt_of_ne hkj with q|q
          ·have:k*st+st<=j*st:=by
            calc k*st+st=(k+1)*st:=by grind
             _<=j*st:=ba _ q
           omega
          ·have:j*st+st<=k*st:=by
            calc j*st+st=(j+1)*st:=by grind
             _<=k*st:=ba _ q
           omega
     ·exact h.elim
    ·exact h.elim
   ·exact h.elim
  ·exact h.elim
 ·exact h.elim
end
end Go.Sx
